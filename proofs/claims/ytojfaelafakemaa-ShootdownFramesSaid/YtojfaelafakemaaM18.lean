/- Texts joined: ALst, ShOps, ShRCopy, ShOps2. Each part's own remark says what it proves. -/
import Derived.Test.YtojfaelafakemaaM17
import Derived.Test.YtojfaelafakemaaM16
/- Association lists in plain terms. No conditions. -/
set_option linter.unusedSimpArgs false
set_option linter.unusedVariables false
namespace Go.Proofs.Ytojfaelafakemaa
section
variable {β : Type}
def keysL (l : List (Int × β)) : List Int := l.map (·.1)
theorem find_none : ∀ {l : List (Int × β)} {k : Int}, aFind l k = none ↔ k ∉ keysL l
  | [], k => by simp [aFind, keysL]
  | p :: r, k => by
    rw [aFind]
    have ih := find_none (l := r) (k := k)
    by_cases e : k = p.1
    · rw [if_pos e]; simp [keysL, e]
    · rw [if_neg e]
      have : (aFind r k).map (fun q => (q.1 + 1, q.2)) = none ↔ aFind r k = none := by cases aFind r k <;> simp
      rw [this, ih]
      simp [keysL, e]
theorem get_none {l : List (Int × β)} {k : Int} : aGet l k = none ↔ k ∉ keysL l := by
  unfold aGet
  rw [← find_none]
  cases aFind l k <;> simp
theorem get_cons (p : Int × β) (r : List (Int × β)) (k : Int) : aGet (p :: r) k = if k = p.1 then some p.2 else aGet r k := by
  unfold aGet
  rw [aFind]
  split
  · rfl
  · cases aFind r k <;> rfl
theorem set_none {l : List (Int × β)} {k : Int} (h : aGet l k = none) (v : β) : aSet l k v = l ++ [(k, v)] := by
  have : aFind l k = none := by rw [find_none]; exact get_none.1 h
  unfold aSet; rw [this]
theorem find_cons_ne {p : Int × β} {r : List (Int × β)} {k : Int} (e : ¬ k = p.1) : aFind (p :: r) k = (aFind r k).map fun q => (q.1 + 1, q.2) := by rw [aFind, if_neg e]
theorem set_cons (p : Int × β) (r : List (Int × β)) (k : Int) (v : β) : aSet (p :: r) k v = if k = p.1 then (k, v) :: r else p :: aSet r k v := by
  by_cases e : k = p.1
  · rw [if_pos e]; unfold aSet; rw [aFind, if_pos e]; rfl
  · rw [if_neg e]; unfold aSet; rw [find_cons_ne e]
    cases aFind r k <;> rfl
theorem del_cons (p : Int × β) (r : List (Int × β)) (k : Int) : aDel (p :: r) k = if k = p.1 then r else p :: aDel r k := by
  by_cases e : k = p.1
  · rw [if_pos e]; unfold aDel; rw [aFind, if_pos e]; rfl
  · rw [if_neg e]; unfold aDel; rw [find_cons_ne e]
    cases aFind r k <;> rfl
theorem get_set : ∀ (l : List (Int × β)) (k k' : Int) (v : β), aGet (aSet l k v) k' = if k' = k then some v else aGet l k'
  | [], k, k', v => by
    have : aSet ([] : List (Int × β)) k v = [(k, v)] := rfl
    rw [this, get_cons]
  | p :: r, k, k', v => by
    rw [set_cons]
    by_cases e : k = p.1
    · rw [if_pos e, get_cons, get_cons]
      by_cases e' : k' = k
      · simp [e']
      · simp [e', ← e]
    · rw [if_neg e, get_cons, get_cons, get_set r k k' v]
      by_cases e' : k' = p.1
      · rw [if_pos e', if_pos e', if_neg]
        omega
      · rw [if_neg e', if_neg e']
theorem get_del : ∀ {l : List (Int × β)} (k k' : Int), (keysL l).Nodup → aGet (aDel l k) k' = if k' = k then none else aGet l k'
  | [], k, k', _ => by
    have : aDel ([] : List (Int × β)) k = [] := rfl
    rw [this]
    split <;> rfl
  | p :: r, k, k', h => by
    have h' := List.nodup_cons.1 h
    rw [del_cons]
    by_cases e : k = p.1
    · rw [if_pos e, get_cons]
      by_cases e' : k' = k
      · rw [if_pos e', get_none, e', e]; exact h'.1
      · rw [if_neg e', if_neg (by omega)]
    · rw [if_neg e, get_cons, get_cons, get_del k k' h'.2]
      by_cases e' : k' = p.1
      · rw [if_pos e', if_pos e', if_neg]; omega
      · rw [if_neg e', if_neg e']
theorem keys_set : ∀ (l : List (Int × β)) (k : Int) (v : β), keysL (aSet l k v) = if k ∈ keysL l then keysL l else keysL l ++ [k]
  | [], k, v => rfl
  | p :: r, k, v => by
    rw [set_cons]
    by_cases e : k = p.1
    · rw [if_pos e, if_pos (by simp [keysL, e])]
      simp [keysL, e]
    · rw [if_neg e]
      have ih := keys_set r k v
      show p.1 :: keysL (aSet r k v) = _
      rw [ih, show keysL (p :: r) = p.1 :: keysL r from rfl]
      by_cases hm : k ∈ keysL r
      · rw [if_pos hm, if_pos (List.mem_cons_of_mem _ hm)]
      · rw [if_neg hm, if_neg (by rw [List.mem_cons, not_or]; exact ⟨e, hm⟩)]; rfl
theorem nodup_set {l : List (Int × β)} (h : (keysL l).Nodup) (k : Int) (v : β) : (keysL (aSet l k v)).Nodup := by
  rw [keys_set]
  split
  · exact h
  · rename_i hm
    rw [List.nodup_append]
    exact ⟨h, by simp, fun a ha b hb => by rw [List.mem_singleton.1 hb]; exact fun e => hm (e ▸ ha)⟩
theorem keys_del : ∀ (l : List (Int × β)) (k : Int), keysL (aDel l k) = (keysL l).erase k
  | [], k => rfl
  | p :: r, k => by
    rw [del_cons]
    by_cases e : k = p.1
    · rw [if_pos e]; simp [keysL, e]
    · rw [if_neg e]
      show p.1 :: keysL (aDel r k) = (p.1 :: keysL r).erase k
      rw [keys_del r k, List.erase_cons_tail (by simpa using fun h => e h.symm)]
theorem nodup_del {l : List (Int × β)} (h : (keysL l).Nodup) (k : Int) : (keysL (aDel l k)).Nodup := by
  rw [keys_del]
  exact h.sublist (List.erase_sublist ..)
theorem len_keys (l : List (Int × β)) : (keysL l).length = l.length := List.length_map ..
theorem len_set (l : List (Int × β)) (k : Int) (v : β) : (aSet l k v).length = if k ∈ keysL l then l.length else l.length + 1 := by
  have := congrArg List.length (keys_set l k v)
  rw [len_keys] at this
  rw [this]
  split
  · exact len_keys l
  · rw [List.length_append, len_keys]; rfl
theorem mem_get {l : List (Int × β)} (h : (keysL l).Nodup) {p : Int × β} (hm : p ∈ l) : aGet l p.1 = some p.2 := by
  induction l with
  | nil => cases hm
  | cons q r ih =>
    have h' := List.nodup_cons.1 h
    rw [get_cons]
    rcases List.mem_cons.1 hm with rfl | hm
    · rw [if_pos rfl]
    · rw [if_neg, ih h'.2 hm]
      intro e
      exact h'.1 (List.mem_map.2 ⟨p, hm, e⟩)
theorem get_mem {l : List (Int × β)} {k : Int} {v : β} (h : aGet l k = some v) : (k, v) ∈ l := by
  unfold aGet at h
  cases hf : aFind l k with
  | none => rw [hf] at h; cases h
  | some q =>
    rw [hf] at h
    obtain ⟨j, v'⟩ := q
    simp only [Option.map_some, Option.some.injEq] at h
    subst h
    exact List.mem_of_getElem? (aFind_some hf)
end
/-- A list without repetitions is no longer than one that has all its elements. -/
theorem nodup_le : ∀ {K L : List Int}, K.Nodup → (∀ x ∈ K, x ∈ L) → K.length ≤ L.length
  | [], _, _, _ => Nat.zero_le _
  | x :: K, L, h, hs => by
    have h' := List.nodup_cons.1 h
    have hx := hs x (List.mem_cons_self ..)
    have := nodup_le (K := K) (L := L.erase x) h'.2 fun y hy => by
      have hne : y ≠ x := fun e => h'.1 (e ▸ hy)
      exact (List.mem_erase_of_ne hne).2 (hs y (List.mem_cons_of_mem _ hy))
    rw [List.length_erase_of_mem hx] at this
    have := List.length_pos_of_mem hx
    simp only [List.length_cons]
    omega
/-- The number of different elements: of those that do not come again. -/
def dcN : List Int → Nat
  | [] => 0
  | x :: r => (if x ∈ r then 0 else 1) + dcN r
def ddL : List Int → List Int
  | [] => []
  | x :: r => if x ∈ r then ddL r else x :: ddL r
theorem dd_spec : ∀ l : List Int, (ddL l).length = dcN l ∧ (ddL l).Nodup ∧ ∀ x, x ∈ ddL l ↔ x ∈ l
  | [] => by simp [ddL, dcN]
  | x :: r => by
    obtain ⟨h1, h2, h3⟩ := dd_spec r
    unfold ddL dcN
    by_cases e : x ∈ r
    · rw [if_pos e, if_pos e]
      refine ⟨by omega, h2, fun y => ?_⟩
      rw [h3, List.mem_cons]
      constructor
      · exact .inr
      · rintro (rfl | h)
        · exact e
        · exact h
    · rw [if_neg e, if_neg e]
      refine ⟨by simp [h1]; omega, List.nodup_cons.2 ⟨fun h => e ((h3 x).1 h), h2⟩, fun y => ?_⟩
      rw [List.mem_cons, List.mem_cons, h3]
theorem dc_of {K W : List Int} (h : K.Nodup) (hm : ∀ x, x ∈ K ↔ x ∈ W) : K.length = dcN W := by
  obtain ⟨h1, h2, h3⟩ := dd_spec W
  rw [← h1]
  exact Nat.le_antisymm (nodup_le h fun x hx => (h3 x).2 ((hm x).1 hx)) (nodup_le h2 fun x hx => (hm x).2 ((h3 x).1 hx))
end Go.Proofs.Ytojfaelafakemaa

/- The walks of the shootdown machine's parts: word, is, target, use, notify. No conditions. -/
set_option linter.unusedSimpArgs false
set_option linter.unusedVariables false
namespace Go.Proofs.Ytojfaelafakemaa
open Go Go.RowKit
/-- A valid machine. -/
structure Vl (m : SM) : Prop where
  rng : rangeM m = true
  frm : formM m = true
  lim : limM m = true
  cov : coversM m = true
theorem schk_zero {m : SM} : schk m = 0 ↔ Vl m := by
  unfold schk
  constructor
  · intro h
    split at h
    · cases h
    split at h
    · cases h
    split at h
    · cases h
    split at h
    · cases h
    exact ⟨by simp_all, by simp_all, by simp_all, by simp_all⟩
  · rintro ⟨a, b, c, d⟩
    rw [if_neg (by rw [a]; simp), if_neg (by rw [b]; simp), if_neg (by rw [c]; simp), if_neg (by rw [d]; simp)]
section
variable {m : SM} (h : Vl m)
include h
theorem Vl.r : 1 ≤ m.tl.length ∧ m.tl.length ≤ 4 ∧ m.pd.length = m.tl.length ∧ 1 ≤ m.wd.length ∧ m.wd.length ≤ 256 ∧ 1 ≤ m.tb.length ∧ m.tb.length ≤ 512 := by
  have := h.rng
  unfold rangeM at this
  exact of_decide_eq_true this
theorem Vl.tlb {c : Nat} (hc : c < m.tl.length) : Ok (m.tl.getD c default).z (m.tl.getD c default).l ∧ ∀ t ∈ (m.tl.getD c default).l, pgOk m.wd.length t.w = true ∧ t.s = 0 ∧ 0 ≤ t.p ∧ t.p < m.tb.length := form_tl' h.frm hc
theorem Vl.lb {i : Nat} (hi : i < m.lm.length) : lbOk m i (m.lm.getD i default) = true := by
  have := h.lim
  unfold limM at this
  rw [Bool.and_eq_true] at this
  exact List.all_eq_true.1 this.2 i (List.mem_range.2 hi)
theorem Vl.lb' {i : Nat} (hi : i < m.lm.length) : (0 ≤ (m.lm.getD i default).f ∧ (m.lm.getD i default).f < m.wd.length) ∧ usedT m m.tb.length (m.lm.getD i default).f = false ∧ usedL m i (m.lm.getD i default).f = false ∧ (1 ≤ (m.lm.getD i default).a ∧ (m.lm.getD i default).a < 2 ^ m.tl.length) := by
  have := h.lb hi
  rw [lbOk_eq] at this
  simp only [Bool.and_eq_true, decide_eq_true_eq, Bool.not_eq_true', Bool.or_eq_false_iff] at this
  exact ⟨this.1, this.2.1.1, this.2.1.2, this.2.2.1⟩
theorem Vl.nd : (m.lm.map (·.f)).Nodup := by
  rw [List.nodup_iff_pairwise_ne, List.pairwise_iff_getElem]
  intro i j hi hj hij e
  rw [List.length_map] at hi hj
  rw [List.getElem_map, List.getElem_map] at e
  have := (h.lb' hj).2.2.1
  unfold usedL at this
  rw [List.any_eq_false] at this
  refine this m.lm[i] (by rw [List.mem_take_iff_getElem]; exact ⟨i, by omega, rfl⟩) ?_
  rw [getD_get hj, e]; simp
theorem Vl.lml : m.lm.length ≤ m.wd.length := by
  have := nodup_le (K := m.lm.map (·.f)) (L := (List.range m.wd.length).map fun (i : Nat) => (i : Int)) h.nd fun x hx => by
    obtain ⟨y, hy, rfl⟩ := List.mem_map.1 hx
    obtain ⟨i, hi, rfl⟩ := List.getElem_of_mem hy
    have h2 := (h.lb' hi).1
    rw [getD_get hi] at h2
    refine List.mem_map.2 ⟨m.lm[i].f.toNat, List.mem_range.2 (by omega), ?_⟩
    show ((m.lm[i].f.toNat : Nat) : Int) = m.lm[i].f
    omega
  simpa using this
theorem Vl.tel (i : Nat) : (m.tl.getD i default).l.length ≤ 16 := by
  rcases Nat.lt_or_ge i m.tl.length with hi | hi
  · have := (h.tlb hi).1
    have := this.n
    have := (h.tlb hi).1.z
    omega
  · rw [getD_none hi]; exact Nat.zero_le _
theorem Vl.sle (hp : ∀ i, (m.pd.getD i default).length ≤ 1000000) (hw : ∀ i, 0 ≤ (m.tb.getD i default).v ∧ (m.tb.getD i default).v < 18446744073709551616) (he : ∀ i, ∀ t ∈ (m.tl.getD i default).l, Wf t) : SLe m := by
  have := h.r
  have := h.lml
  exact ⟨by omega, by omega, fun i => by have := h.tel i; omega, by omega, fun i => by have := hp i; omega, by omega, by omega, hw, he⟩
end
attribute [local irreducible] decR enOk pgOk teOk ivOk tlOk checkM lbOk formM limM schk
abbrev hdN : SH := ⟨⟨none, 0, 0⟩, ⟨none, 0, 0⟩, ⟨none, 0, 0⟩, ⟨none, 0, 0⟩, ⟨none, 0, 0⟩⟩
theorem zero_rows {w0 w : World} {cs cs' : List Chunk} (hw : Hp w0 cs' w) (hs : cs.Sublist cs') : ∃ q : {q : SR // SOk q SM.zero}, hdV (hd q.1) = hdV hdN ∧ Hp w0 (SC q.1 SM.zero ++ cs) w :=
  ⟨⟨⟨Row.nil w0.heap.size, Row.nil w0.heap.size, Row.nil w0.heap.size, Row.nil w0.heap.size, Row.nil w0.heap.size, [], []⟩, ⟨rfl, rfl⟩⟩, rfl, (((((hw.sub hs).push0 rfl rfl (Own.nil w _ _)).push0 rfl rfl (Own.nil w _ _)).push0 rfl rfl (Own.nil w _ _)).push0 rfl rfl (Own.nil w _ _)).push0 rfl rfl (Own.nil w _ _)⟩
attribute [local irreducible] Code.wp wpList bodyPost Exit.then Exit.inBlock Calls wpQuiet Tri TriQ
section
variable (w0 : World) (cs : List Chunk)
theorem word_c (k n : Int) (a b c d : Bool) : Cal Try.prog 44 [entV k n a b c d] (Hp w0 cs) (fun _ : Unit => .int .u64 (encS k n a b c d).1) (fun _ => Hp w0 cs) := by
  refine cal_of_tri Try.func44 rfl Try.ntmps44 rfl ?_
  (repeat (first | refine tri_seq ?_ | refine tri_then ?_)); refine tri_region ?_; (repeat (first | refine au_pure ?_ | refine au_pass ?_ | refine au_box (fun _ => ?_) | refine au_alloc (fun _ => ?_) | refine au_store ?_ | refine au_make rfl rfl (fun _ => ?_) | refine au_lit rfl rfl rfl (fun _ => ?_) | refine au_append rfl rfl rfl rfl (fun _ => au_norm ?_) | refine au_storeE rfl rfl rfl rfl ?_)); refine tri_nil ?_; (repeat refine tri_then ?_)
  (repeat (first | refine zz ?_ | refine zv fun _ => ?_))
  refine au_call rfl rfl (cl_of rfl rfl rfl (fun _ h => Ret.hp (encode_any _ _ _ _ _ _ _) h)) ?_
  (repeat (first | refine zz ?_ | refine zv fun _ => ?_))
  refine au_done1 rfl ?_
  exact fun w hw => ⟨(), rfl, hw.sub (by repeat (first | exact List.Sublist.refl _ | assumption | apply List.Sublist.cons_cons | apply List.Sublist.cons))⟩
theorem is_c {vB vP vL vW vT : Value} {m : SM} (p : Int) (hT : RdH (Hp w0 cs) vT m.tb) (hl : m.tb.length ≤ 9223372036854775807) :
    Cal Try.prog 37 [shV vT vB vP vL vW, .int .i64 p] (Hp w0 cs) (fun _ : Unit => .bool (isP m p)) (fun _ => Hp w0 cs) := by
  refine cal_of_tri Try.func37 rfl Try.ntmps37 rfl ?_
  (repeat (first | refine tri_seq ?_ | refine tri_then ?_)); refine tri_region ?_; (repeat (first | refine au_pure ?_ | refine au_pass ?_ | refine au_box (fun _ => ?_) | refine au_alloc (fun _ => ?_) | refine au_store ?_ | refine au_make rfl rfl (fun _ => ?_) | refine au_lit rfl rfl rfl (fun _ => ?_) | refine au_append rfl rfl rfl rfl (fun _ => au_norm ?_) | refine au_storeE rfl rfl rfl rfl ?_)); refine tri_nil ?_; (repeat refine tri_then ?_)
  rename_i g2
  (repeat (first | refine zz ?_ | refine zv fun _ => ?_))
  cases h1 : decide (p ≥ 0)
  · have h1 := of_decide_eq_false h1
    (repeat (first | refine zz ?_ | refine zv fun _ => ?_))
    refine au_done1 rfl ?_
    exact fun w hw => ⟨(), by unfold isP; rw [decide_eq_false (by omega)], hw.sub (by repeat (first | exact List.Sublist.refl _ | assumption | apply List.Sublist.cons_cons | apply List.Sublist.cons))⟩
  · have h1 := of_decide_eq_true h1
    (repeat (first | refine zz ?_ | refine zv fun _ => ?_))
    refine au_pure ?_ (hy := yl_len rfl rfl hT.cons)
    (repeat (first | refine zz ?_ | refine zv fun _ => ?_))
    refine au_done1 rfl ?_
    refine fun w hw => ⟨(), ?_, hw.sub (by repeat (first | exact List.Sublist.refl _ | assumption | apply List.Sublist.cons_cons | apply List.Sublist.cons))⟩
    unfold isP
    rw [show decide (p < (m.tb.length : Int)) = decide (0 ≤ p ∧ p < (m.tb.length : Int)) by rw [decide_eq_decide]; omega]
theorem isP_iff {m : SM} {p : Int} : isP m p = true ↔ 0 ≤ p ∧ p < m.tb.length := by unfold isP; rw [decide_eq_true_eq]
set_option maxHeartbeats 1000000 in
theorem target_c {h : SH} {xb : List TB} {xp : List SV} {m : SM} (p : Int) (hC : RdS (Hp w0 cs) h xb xp m) (hL : SLe m) :
    Cal Try.prog 47 [hdV h, .int .i64 p] (Hp w0 cs) (fun _ : Unit => .tuple #[entE (if tgtE m p = 0 then tgtX m p else noEnt), .int .i64 (tgtE m p)]) (fun _ => Hp w0 cs) := by
  have hno : ∀ (w : World) (cs' : List Chunk) (e : Int), tgtE m p = e → ¬ e = 0 → Hp w0 cs' w → cs.Sublist cs' → ∃ s : Unit, Ending.returned (.tuple #[.agg #[.int .i64 0, .int .i64 0, .bool false, .bool false, .bool false, .bool false], .int .i64 e]) = .returned (.tuple #[entE (if tgtE m p = 0 then tgtX m p else noEnt), .int .i64 (tgtE m p)]) ∧ Hp w0 cs w := fun w cs' e he h0 hw hs => ⟨(), by rw [he, if_neg h0]; rfl, hw.sub hs⟩
  refine cal_of_tri Try.func47 rfl Try.ntmps47 rfl ?_
  (repeat (first | refine tri_seq ?_ | refine tri_then ?_)); refine tri_region ?_; (repeat (first | refine au_pure ?_ | refine au_pass ?_ | refine au_box (fun _ => ?_) | refine au_alloc (fun _ => ?_) | refine au_store ?_ | refine au_make rfl rfl (fun _ => ?_) | refine au_lit rfl rfl rfl (fun _ => ?_) | refine au_append rfl rfl rfl rfl (fun _ => au_norm ?_) | refine au_storeE rfl rfl rfl rfl ?_)); refine tri_nil ?_; (repeat refine tri_then ?_)
  rename_i g2 g4
  have hC1 := hC.cons (c := hdC g2 h) |>.cons (c := enC g4 0 0 false false false false)
  (repeat (first | refine zz ?_ | refine zv fun _ => ?_))
  refine au_callC rfl rfl rfl rfl rfl (scheck_c w0 _ hC1 hL) (fun _ => ?_)
  (repeat (first | refine zz ?_ | refine zv fun _ => ?_))
  cases h1 : (schk m != 0)
  case true =>
    have h1 := bne_iff_ne.1 h1
    (repeat (first | refine zz ?_ | refine zv fun _ => ?_))
    refine au_done2 rfl ?_
    exact fun w hw => hno w _ _ (by unfold tgtE; rw [if_pos h1]) h1 hw (by repeat (first | exact List.Sublist.refl _ | assumption | apply List.Sublist.cons_cons | apply List.Sublist.cons))
  have h1 : schk m = 0 := by simpa using h1
  have e1 : tgtE m p = if isP m p = false then 2 else if pgOk m.wd.length (tbW m p.toNat) = false then 6 else 0 := by unfold tgtE; rw [if_neg fun x => x h1]
  (repeat (first | refine zz ?_ | refine zv fun _ => ?_))
  refine au_callC rfl rfl rfl rfl rfl (is_c w0 _ p hC1.tb hL.tb) (fun _ => ?_)
  cases h2 : isP m p
  case false =>
    (repeat (first | refine zz ?_ | refine zv fun _ => ?_))
    refine au_done2 rfl ?_
    exact fun w hw => hno w _ 2 (by rw [e1, if_pos h2]) (by decide) hw (by repeat (first | exact List.Sublist.refl _ | assumption | apply List.Sublist.cons_cons | apply List.Sublist.cons))
  rw [if_neg (by rw [h2]; simp)] at e1
  (repeat (first | refine zz ?_ | refine zv fun _ => ?_))
  refine au_callC rfl rfl rfl rfl rfl (mapped_c w0 _ p hC1 hL (isP_iff.1 h2)) (fun _ => ?_)
  have e2 : tgtX m p = (decR (tbW m p.toNat)).1 := rfl
  rw [← e2]
  cases h3 : pgOk m.wd.length (tbW m p.toNat)
  case false =>
    (repeat (first | refine zz ?_ | refine zv fun _ => ?_))
    refine au_done2 rfl ?_
    exact fun w hw => hno w _ 6 (by rw [e1, if_pos h3]) (by decide) hw (by repeat (first | exact List.Sublist.refl _ | assumption | apply List.Sublist.cons_cons | apply List.Sublist.cons))
  rw [if_neg (by rw [h3]; simp)] at e1
  (repeat (first | refine zz ?_ | refine zv fun _ => ?_))
  refine au_done2 rfl ?_
  exact fun w hw => ⟨(), by rw [e1, if_pos rfl], hw.sub (by repeat (first | exact List.Sublist.refl _ | assumption | apply List.Sublist.cons_cons | apply List.Sublist.cons))⟩
end
end Go.Proofs.Ytojfaelafakemaa

/- The walk of the reference's copy of a shootdown machine. No conditions. -/
set_option linter.unusedSimpArgs false
set_option linter.unusedVariables false
namespace Go.Proofs.Ytojfaelafakemaa
open Go Go.RowKit
theorem perm_snoc {c : Chunk} (ps N cs : List Chunk) : (c :: (ps ++ (N ++ cs))).Perm (ps ++ ((N ++ [c]) ++ cs)) := by
  refine List.perm_middle.symm.trans (List.Perm.append_left ps ?_)
  rw [List.append_assoc]
  exact List.perm_middle.symm
theorem perm_snoc2 {c : Chunk} (ps NB N cs : List Chunk) : (c :: (ps ++ ((NB ++ N) ++ cs))).Perm (ps ++ ((NB ++ (N ++ [c])) ++ cs)) := by
  have := perm_snoc (c := c) ps (NB ++ N) cs
  rw [List.append_assoc NB N [c]] at this
  exact this
attribute [local irreducible] decR enOk pgOk teOk ivOk tlOk checkM lbOk formM limM schk rlbOk rmapN rlimM
attribute [local irreducible] Code.wp wpList bodyPost Exit.then Exit.inBlock Calls wpQuiet Tri TriQ
section
variable (w0 : World) (cs : List Chunk)
end
end Go.Proofs.Ytojfaelafakemaa

/- The walks of the shootdown machine's parts: use, notify. No conditions. -/
set_option linter.unusedSimpArgs false
set_option linter.unusedVariables false
namespace Go.Proofs.Ytojfaelafakemaa
open Go Go.RowKit
theorem focusP {α : Type} [Enc α] {e : Nat} {rs : List Row} {L : List (List α)} (hl : rs.length = L.length) {i : Nat} (hi : i < L.length) (K NB cs : List Chunk) : (K ++ ((NB ++ nestE e rs L) ++ cs)).Perm (slC (rs.getD i (Row.nil 0)) e (L.getD i default) :: (K ++ ((NB ++ nxE e rs L i) ++ cs))) := by
  have h := nestE_focus (e := e) hl hi (K ++ NB) cs
  have e1 : ∀ X : List Chunk, K ++ ((NB ++ X) ++ cs) = (K ++ NB) ++ (X ++ cs) := fun X => by simp
  rw [e1, e1]
  exact h
theorem unfocusP {α : Type} [Enc α] {e : Nat} {rs : List Row} {L : List (List α)} (hl : rs.length = L.length) {i : Nat} (hi : i < L.length) (r' : Row) (l' : List α) (K NB cs : List Chunk) : (slC r' e l' :: (K ++ ((NB ++ nxE e rs L i) ++ cs))).Perm (K ++ ((NB ++ nestE e (rs.set i r') (L.set i l')) ++ cs)) := by
  have h := nestE_unfocus (e := e) hl hi r' l' (K ++ NB) cs
  have e1 : ∀ X : List Chunk, K ++ ((NB ++ X) ++ cs) = (K ++ NB) ++ (X ++ cs) := fun X => by simp
  rw [e1, e1]
  exact h
theorem focusB {α : Type} [Enc α] {e : Nat} {rs : List Row} {L : List (List α)} (hl : rs.length = L.length) {i : Nat} (hi : i < L.length) (K NP cs : List Chunk) : (K ++ ((nestE e rs L ++ NP) ++ cs)).Perm (slC (rs.getD i (Row.nil 0)) e (L.getD i default) :: (K ++ ((nxE e rs L i ++ NP) ++ cs))) := by
  rw [List.append_assoc, List.append_assoc]
  exact nestE_focus (e := e) hl hi K (NP ++ cs)
theorem unfocusB {α : Type} [Enc α] {e : Nat} {rs : List Row} {L : List (List α)} (hl : rs.length = L.length) {i : Nat} (hi : i < L.length) (r' : Row) (l' : List α) (K NP cs : List Chunk) : (slC r' e l' :: (K ++ ((nxE e rs L i ++ NP) ++ cs))).Perm (K ++ ((nestE e (rs.set i r') (L.set i l') ++ NP) ++ cs)) := by
  rw [List.append_assoc, List.append_assoc]
  exact nestE_unfocus (e := e) hl hi r' l' K (NP ++ cs)
section
variable {m : SM} {p : Int}
theorem ntf_len : ∀ k, (ntfM m p k).1.length = m.pd.length
  | 0 => rfl
  | k + 1 => by
    unfold ntfM
    split
    · simp [ntf_len k]
    · exact ntf_len k
theorem ntf_get : ∀ k j, k ≤ j → (ntfM m p k).1.getD j default = m.pd.getD j default
  | 0, _, _ => rfl
  | k + 1, j, h => by
    unfold ntfM
    split
    · rcases Nat.lt_or_ge k (ntfM m p k).1.length with hk | hk
      · rw [gd_set hk, if_neg (by omega)]; exact ntf_get k j (by omega)
      · rw [List.set_eq_of_length_le hk]; exact ntf_get k j (by omega)
    · exact ntf_get k j (by omega)
theorem ntf_bd : ∀ k, 0 ≤ (ntfM m p k).2 ∧ (ntfM m p k).2 < 2 ^ k
  | 0 => by unfold ntfM; simp
  | k + 1 => by
    have := ntf_bd k
    have e : (2 : Int) ^ (k + 1) = 2 ^ k * 2 := Int.pow_succ ..
    unfold ntfM
    split
    · simp only; omega
    · omega
theorem ntf_yes {k : Nat} (h : covsM m k p = true) : ntfM m p (k + 1) = ((ntfM m p k).1.set k ((m.pd.getD k default) ++ [⟨0, p, false⟩]), (ntfM m p k).2 + 2 ^ k) := by
  conv => lhs; unfold ntfM
  rw [if_pos h]
theorem ntf_no {k : Nat} (h : covsM m k p = false) : ntfM m p (k + 1) = ntfM m p k := by
  conv => lhs; unfold ntfM
  rw [if_neg (by rw [h]; simp)]
end
attribute [local irreducible] decR enOk pgOk teOk ivOk tlOk checkM lbOk formM limM schk lookM
attribute [local irreducible] Code.wp wpList bodyPost Exit.then Exit.inBlock Calls wpQuiet Tri TriQ
section
variable (w0 : World) (cs : List Chunk)
set_option maxHeartbeats 1000000 in
theorem use_c {q : SR} {m : SM} (f : Int) (w : Bool) (v : Int) (hk : SOk q m) (hf : 0 ≤ f ∧ f < m.wd.length) (hl : m.wd.length ≤ 9223372036854775807) :
    Cal Try.prog 39 [hdV (hd q), .int .i64 f, .bool w, .int .i64 v] (Hp w0 (SC q m ++ cs)) (fun _ : Unit => .tuple #[hdV (hd q), .int .i64 (m.wd.getD f.toNat default), .int .i64 0]) (fun _ => Hp w0 (SC q (useM m f w v) ++ cs)) := by
  refine cal_of_tri Try.func39 rfl Try.ntmps39 rfl ?_
  (repeat (first | refine tri_seq ?_ | refine tri_then ?_)); refine tri_region ?_; (repeat (first | refine au_pure ?_ | refine au_pass ?_ | refine au_box (fun _ => ?_) | refine au_alloc (fun _ => ?_) | refine au_store ?_ | refine au_make rfl rfl (fun _ => ?_) | refine au_lit rfl rfl rfl (fun _ => ?_) | refine au_append rfl rfl rfl rfl (fun _ => au_norm ?_) | refine au_storeE rfl rfl rfl rfl ?_)); refine tri_nil ?_; (repeat refine tri_then ?_)
  rename_i g4 g8
  have hR : ∀ l : List Int, RdH (Hp w0 (shC g8 (.slice none 0 0) (.slice none 0 0) (.slice none 0 0) (.slice none 0 0) (.slice none 0 0) :: hdC g4 (hd q) :: tlS q.b (tlx q.bs m.tl) :: pdS q.p (q.ps.map Row.sv) :: u64S q.t m.tb :: lbS q.l m.lm :: inS q.w l :: ((SNb q m ++ SNp q m) ++ cs))) q.w.v l := fun l => rd_chunk ⟨6, rfl⟩
  (repeat (first | refine zz ?_ | refine zv fun _ => ?_))
  refine au_pure ?_ (hy := yl_idx (k := f.toNat) rfl rfl (hR _) (ix_int rfl (by omega)) (by rfl) (by omega))
  refine au_pure ?_ (hy := yl_loadE rfl rfl (hR _) (by rfl) (by omega) (by rfl))
  (repeat (first | refine zz ?_ | refine zv fun _ => ?_))
  cases w with
  | false =>
    (repeat (first | refine zz ?_ | refine zv fun _ => ?_))
    refine au_done3 rfl ?_
    exact fun w hw => ⟨(), rfl, hw.sub (by repeat (first | exact List.Sublist.refl _ | assumption | apply List.Sublist.cons_cons | apply List.Sublist.cons))⟩
  | true =>
    (repeat (first | refine zz ?_ | refine zv fun _ => ?_))
    refine au_pure ?_ (hy := yl_idx (k := f.toNat) rfl rfl (hR _) (ix_int rfl (by omega)) (by rfl) (by omega))
    refine au_storeE (r := q.w) (a := v) rfl rfl rfl rfl ?_
    (repeat (first | refine zz ?_ | refine zv fun _ => ?_))
    refine au_done3 rfl ?_
    exact fun w hw => ⟨(), rfl, hw.sub (by repeat (first | exact List.Sublist.refl _ | assumption | apply List.Sublist.cons_cons | apply List.Sublist.cons))⟩
set_option maxHeartbeats 2000000 in
theorem notify_c {q : SR} {m : SM} (p : Int) (hk : SOk q m) (hL : SLe m) (hpl : m.pd.length = m.tl.length) (hc4 : m.tl.length ≤ 4) (hpe : ∀ i, (m.pd.getD i default).length ≤ 1000000) :
    Cal Try.prog 48 [hdV (hd q), .int .i64 p] (Hp w0 (SC q m ++ cs)) (fun _ : {ps : List Row // ps.length = m.pd.length} => .int .i64 (ntfM m p m.tl.length).2)
      (fun s => Hp w0 (SC { q with ps := s.1 } { m with pd := (ntfM m p m.tl.length).1 } ++ cs)) := by
  refine cal_of_tri Try.func48 rfl Try.ntmps48 rfl ?_
  (repeat (first | refine tri_seq ?_ | refine tri_then ?_)); refine tri_region ?_; (repeat (first | refine au_pure ?_ | refine au_pass ?_ | refine au_box (fun _ => ?_) | refine au_alloc (fun _ => ?_) | refine au_store ?_ | refine au_make rfl rfl (fun _ => ?_) | refine au_lit rfl rfl rfl (fun _ => ?_) | refine au_append rfl rfl rfl rfl (fun _ => au_norm ?_) | refine au_storeE rfl rfl rfl rfl ?_)); refine tri_nil ?_; (repeat refine tri_then ?_)
  rename_i g2
  obtain ⟨rt, rb, rp, rl, rw', bs, ps0⟩ := q
  obtain ⟨hbs, hps⟩ := hk
  simp only at hbs hps
  have hT : ∀ (Y : List SV) (X : List Chunk), RdH (Hp w0 (shC g2 rt.v rb.v rp.v rl.v rw'.v :: tlS rb (tlx bs m.tl) :: pdS rp Y :: X)) rb.v (tlx bs m.tl) := fun _ _ => rd_chunk ⟨1, rfl⟩
  have hxl := tlx_len hbs
  refine tri_weak (H' := Hp w0 (shC g2 rt.v rb.v rp.v rl.v rw'.v :: tlS rb (tlx bs m.tl) :: pdS rp (ps0.map Row.sv) :: u64S rt m.tb :: lbS rl m.lm :: inS rw' m.wd :: ((nestE 71 bs (tls m) ++ nestE 62 ps0 m.pd) ++ cs))) (fun w h => h) ?_
  (repeat (first | refine zz ?_ | refine zv fun _ => ?_))
  refine au_pure ?_ (hy := yl_len rfl rfl (hT _ _))
  (repeat (first | refine zz ?_ | refine zv fun _ => ?_))
  refine tri_block ?_
  refine tri_loop2 (fun (c : Nat) (ps : List Row) => c ≤ m.tl.length ∧ ps.length = m.pd.length) (fun c _ => [(1, .int .i64 p), (2, .pointer (some ⟨g2, 0, none⟩)), (5, .int .i64 (ntfM m p c).2), (9, .int .i64 ((tlx bs m.tl).length : Int)), (10, .int .i64 (c : Int))])
    (fun c ps => Hp w0 (shC g2 rt.v rb.v rp.v rl.v rw'.v :: tlS rb (tlx bs m.tl) :: pdS rp (ps.map Row.sv) :: u64S rt m.tb :: lbS rl m.lm :: inS rw' m.wd :: ((nestE 71 bs (tls m) ++ nestE 62 ps (ntfM m p c).1) ++ cs))) (fun c _ => m.tl.length - c)
    0 ps0 ⟨by omega, hps⟩ (by repeat (first | exact trivial | refine ⟨rfl, ?_⟩)) (fun w h => h) ?_
  rintro c ps ⟨hcl, hpsl⟩
  have hnl := ntf_len (m := m) (p := p) c
  have hnb := ntf_bd (m := m) (p := p) c
  have hng := ntf_get (m := m) (p := p) c c (Nat.le_refl _)
  (repeat (first | refine zz ?_ | refine zv fun _ => ?_))
  rw [hxl]
  ((first | refine tri_cond (by rfl) (fun hc => ?_) (fun hc => ?_) | refine tri_gsplit (by rfl) (by rfl) (by (fail_if_success exact (rfl : _ = some (Value.bool true))); (fail_if_success exact (rfl : _ = some (Value.bool false))); rfl) (fun hc => ?_) (fun hc => ?_)) <;> (try simp only [decide_eq_true_eq, decide_eq_false_iff_not, beq_iff_eq, bne_iff_ne, ne_eq, Bool.not_eq_true', Bool.not_eq_false', beq_eq_false_iff_ne, bne_eq_false_iff_eq, Int.not_lt, Int.not_le, gt_iff_lt, ge_iff_le, Bool.and_eq_true, Bool.or_eq_true, Bool.and_eq_false_iff, Bool.or_eq_false_iff, Decidable.not_not, not_true_eq_false, not_false_eq_true, and_true, true_and, or_false, false_or, or_true, true_or, and_false, false_and, eq_self, Bool.true_eq_false, Bool.false_eq_true] at hc) <;> (try (exfalso; omega)))
  · have hy := ntf_yes (m := m) (p := p) (k := c)
    have hn := ntf_no (m := m) (p := p) (k := c)
    have hE : RdH (Hp w0 (shC g2 rt.v rb.v rp.v rl.v rw'.v :: tlS rb (tlx bs m.tl) :: pdS rp (ps.map Row.sv) :: u64S rt m.tb :: lbS rl m.lm :: inS rw' m.wd :: ((nestE 71 bs (tls m) ++ nestE 62 ps (ntfM m p c).1) ++ cs))) ((tlx bs m.tl).getD c default).s.v (m.tl.getD c default).l := by
      rw [tlx_get hbs (by omega), ← tls_get]
      refine rd_chunk (r := bs.getD c (Row.nil 0)) (e := 71) (has_mem ?_)
      exact List.mem_cons_of_mem _ (List.mem_cons_of_mem _ (List.mem_cons_of_mem _ (List.mem_cons_of_mem _ (List.mem_cons_of_mem _ (List.mem_cons_of_mem _ (List.mem_append_left _ (List.mem_append_left _ (nestE_mem (by simp [hbs]) (by simp; omega)))))))))
    have hz : ((tlx bs m.tl).getD c default).z = (m.tl.getD c default).z := by rw [tlx_get hbs (by omega)]
    have hle := hL.te c
    have hew := hL.ew c
    have hpc := hpe c
    (repeat (first | refine zz ?_ | refine zv fun _ => ?_))
    refine tri_block ?_
    (repeat (first | refine tri_seq ?_ | refine tri_then ?_)); refine tri_region ?_; (repeat (first | refine au_pure ?_ | refine au_pass ?_ | refine au_box (fun _ => ?_) | refine au_alloc (fun _ => ?_) | refine au_store ?_ | refine au_make rfl rfl (fun _ => ?_) | refine au_lit rfl rfl rfl (fun _ => ?_) | refine au_append rfl rfl rfl rfl (fun _ => au_norm ?_) | refine au_storeE rfl rfl rfl rfl ?_)); refine tri_nil ?_; (repeat refine tri_then ?_)
    refine tri_seq ?_
    refine tri_region ?_
    (repeat (first | refine zz ?_ | refine zv fun _ => ?_))
    refine au_pure ?_ (hy := yl_idx (k := c) rfl rfl (hT _ _) (ix_nat rfl) (by rfl) (by omega))
    refine au_pure ?_ (hy := yl_loadEN rfl rfl (hT _ _) (by rfl) (by omega) (by repeat (first | exact nf0 rfl | apply nfS rfl | exact nfR)) (by rfl))
    rw [hz]
    (repeat (first | refine zz ?_ | refine zv fun _ => ?_))
    refine au_callC rfl rfl rfl rfl rfl (covers_c w0 _ 0 p hE hle hew) (fun _ => ?_)
    rw [show (lookM (m.tl.getD c default).z (m.tl.getD c default).l 0 p).2 = covsM m c p from rfl]
    cases hcv : covsM m c p
    · (repeat (first | refine zz ?_ | refine zv fun _ => ?_))
      exact tri_nx2 (c + 1) ps (by omega) ⟨by omega, hpsl⟩ (by rw [hn hcv]; repeat (first | exact trivial | refine ⟨rfl, ?_⟩)) (fun w h => by rw [hn hcv]; exact h)
    · (repeat (first | refine au_pure ?_ | refine au_pass ?_ | refine au_box (fun _ => ?_) | refine au_alloc (fun _ => ?_) | refine au_store ?_ | refine au_make rfl rfl (fun _ => ?_) | refine au_lit rfl rfl rfl (fun _ => ?_) | refine au_append rfl rfl rfl rfl (fun _ => au_norm ?_) | refine au_storeE rfl rfl rfl rfl ?_)); refine tri_nil ?_; (repeat refine tri_then ?_)
      refine tri_if_t (by rfl) ?_
      have hfoc := focusP (e := 62) (rs := ps) (L := (ntfM m p c).1) (i := c) (by omega) (by omega) [shC g2 rt.v rb.v rp.v rl.v rw'.v, tlS rb (tlx bs m.tl), pdS rp (ps.map Row.sv), u64S rt m.tb, lbS rl m.lm, inS rw' m.wd] (nestE 71 bs (tls m)) cs
      have hunf := fun (r' : Row) (l' : List IV) => unfocusP (e := 62) (rs := ps) (L := (ntfM m p c).1) (i := c) (by omega) (by omega) r' l' [shC g2 rt.v rb.v rp.v rl.v rw'.v, tlS rb (tlx bs m.tl), pdS rp ((ps.map Row.sv).set c r'.sv), u64S rt m.tb, lbS rl m.lm, inS rw' m.wd] (nestE 71 bs (tls m)) cs
      rw [hng] at hfoc
      have hpg : (ps.map Row.sv).getD c default = (ps.getD c (Row.nil 0)).sv := map_getD_sv ps (by omega)
      have hpml : (ps.map Row.sv).length = ps.length := by simp
      obtain ⟨YY, hYY⟩ : ∃ Y, Y = ps.map Row.sv := ⟨_, rfl⟩
      obtain ⟨R0, hR0⟩ : ∃ R, R = ps.getD c (Row.nil 0) := ⟨_, rfl⟩
      obtain ⟨l0, hl0⟩ : ∃ l, l = m.pd.getD c default := ⟨_, rfl⟩
      obtain ⟨NX, hNX⟩ : ∃ X, X = (nestE 71 bs (tls m) ++ nxE 62 ps (ntfM m p c).1 c) ++ cs := ⟨_, rfl⟩
      rw [← hYY, ← hR0, ← hl0] at hfoc
      rw [← hYY, ← hR0] at hpg
      rw [← hYY] at hpml hunf ⊢
      rw [← hl0] at hpc hy
      refine tri_weak (H' := Hp w0 (ivS R0 l0 :: shC g2 rt.v rb.v rp.v rl.v rw'.v :: tlS rb (tlx bs m.tl) :: pdS rp YY :: u64S rt m.tb :: lbS rl m.lm :: inS rw' m.wd :: NX)) (fun w h => by rw [hNX]; exact HpM.perm h hfoc) ?_
      refine tri_seq ?_
      have hRy : RdH (Hp w0 (shC g2 rt.v rb.v rp.v rl.v rw'.v :: pdS rp YY :: NX)) rp.v YY := rd_chunk ⟨1, rfl⟩
      refine ar_held [13] (shC g2 rt.v rb.v rp.v rl.v rw'.v :: pdS rp YY :: NX) rfl ?_
      refine ar_free 0 rfl rfl rfl ?_; refine ar_free 2 rfl rfl rfl ?_; refine ar_free 3 rfl rfl rfl ?_; refine ar_free 5 rfl rfl rfl ?_; refine ar_free 8 rfl rfl rfl ?_
      refine ar_take 1 rfl rfl rfl ?_; refine ar_take 4 rfl rfl rfl ?_
      refine ar_take 6 rfl rfl rfl ?_ (hy := yl_idx (k := c) rfl rfl hRy (ix_nat rfl) (by rfl) (by omega))
      refine ar_take 7 rfl rfl rfl ?_ (hy := yl_loadE rfl rfl hRy (by rfl) (by omega) (by rfl))
      rw [hpg]
      refine ar_take 9 rfl rfl rfl ?_
      refine ar_op 10 rfl ?_
      refine au_lit (l := ([⟨0, p, false⟩] : List IV)) rfl rfl rfl (fun r1 => ?_)
      refine tri_nil ?_; refine ar_in ?_
      refine ar_op 11 rfl ?_
      refine au_append (r := R0) (l2 := ([⟨0, p, false⟩] : List IV)) rfl rfl rfl rfl (fun r2 => au_norm ?_) (h2 := rd_chunk ⟨0, rfl⟩) (hb := by rw [List.length_singleton]; omega)
      refine tri_nil ?_; refine ar_in ?_
      refine ar_take 12 rfl rfl rfl ?_ (hy := yl_idx (k := c) rfl rfl hRy (ix_nat rfl) (by rfl) (by omega))
      refine ar_op 13 rfl ?_
      refine au_storeE (a := r2.sv) rfl rfl rfl rfl ?_
      refine tri_nil ?_; refine ar_ink ?_
      refine ar_done ?_
      refine tri_weak (H' := Hp w0 (shC g2 rt.v rb.v rp.v rl.v rw'.v :: tlS rb (tlx bs m.tl) :: pdS rp ((ps.set c r2).map Row.sv) :: u64S rt m.tb :: lbS rl m.lm :: inS rw' m.wd :: ((nestE 71 bs (tls m) ++ nestE 62 (ps.set c r2) ((ntfM m p c).1.set c (l0 ++ [⟨0, p, false⟩]))) ++ cs))) (fun w h => ?_) ?_
      · rw [List.map_set, ← hYY]
        have h2 : Hp w0 (ivS r2 (l0 ++ [⟨0, p, false⟩]) :: shC g2 rt.v rb.v rp.v rl.v rw'.v :: tlS rb (tlx bs m.tl) :: pdS rp (YY.set c r2.sv) :: u64S rt m.tb :: lbS rl m.lm :: inS rw' m.wd :: NX) w := h.sub (by repeat (first | exact List.Sublist.refl _ | assumption | apply List.Sublist.cons_cons | apply List.Sublist.cons))
        rw [hNX] at h2
        exact HpM.perm h2 (hunf r2 (l0 ++ [⟨0, p, false⟩]))
      (repeat (first | refine zz ?_ | refine zv fun _ => ?_))
      refine au_pure ?_ (hy := yl_shl rfl rfl rfl (by omega))
      rw [shl_eq (by omega)]
      refine au_pure ?_ (hy := yl_or rfl rfl rfl)
      rw [or_eq hnb (by omega)]
      (repeat (first | refine zz ?_ | refine zv fun _ => ?_))
      exact tri_nx2 (c + 1) (ps.set c r2) (by omega) ⟨by omega, by simp [hpsl]⟩ (by rw [hy hcv]; repeat (first | exact trivial | refine ⟨rfl, ?_⟩)) (fun w h => by rw [hy hcv]; exact h)
  · have hce : c = m.tl.length := by omega
    subst hce
    (repeat (first | refine zz ?_ | refine zv fun _ => ?_))
    refine au_done1 rfl ?_
    exact fun w hw => ⟨⟨ps, hpsl⟩, rfl, hw.sub (by repeat (first | exact List.Sublist.refl _ | assumption | apply List.Sublist.cons_cons | apply List.Sublist.cons))⟩
end
end Go.Proofs.Ytojfaelafakemaa
