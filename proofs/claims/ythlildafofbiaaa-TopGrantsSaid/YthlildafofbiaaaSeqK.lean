/- A region that draws its order and whose last operations change what its first ones read: behind those (the list Ks) nothing is asked of the world. No conditions. -/
import Derived.Test.YthlildafofbiaaaAuto
set_option linter.unusedSimpArgs false
set_option linter.unusedVariables false
namespace Go.Proofs.Ythlildafofbiaaa
open Go Go.RowKit
section
variable {P : Program} {ops : Array Oper} {Q : Exit → Act → World → Prop} {md : Region.Mode} {S : World → Prop} {Ks : List Nat}
def wpAnyK (P : Program) (md : Region.Mode) (ops : Array Oper) (Q : Exit → Act → World → Prop) (S : World → Prop) (Ks : List Nat) : Nat → Array Bool → Act → World → Prop
  | 0, listed, a, w => Region.ready md ops listed = [] ∧ Q .normal a w
  | fuel + 1, listed, a, w => (Region.ready md ops listed = [] → Q .normal a w) ∧
    ∀ i ∈ Region.ready md ops listed, wpOp P ops Q i (fun a' w' => (Ks.contains i = false → S w') ∧ wpAnyK P md ops Q S Ks fuel (listed.setIfInBounds i true) a' w') a w
/-- Operation k comes behind operation i. -/
def waitsT (md : Region.Mode) (ops : Array Oper) (i : Nat) : Nat → Nat → Bool
  | 0, _ => false
  | f + 1, k => match ops[k]? with
    | some o => o.after.any fun e => Region.binds md e && (e.on == i || waitsT md ops i f e.on)
    | none => false
def closedB (md : Region.Mode) (ops : Array Oper) (listed : Array Bool) : Bool := (List.range listed.size).all fun j => !(listed.getD j false) || match ops[j]? with
  | some o => o.after.all fun e => !(Region.binds md e) || listed.getD e.on false
  | none => true
def Closed (md : Region.Mode) (ops : Array Oper) (listed : Array Bool) : Prop := ∀ j o, listed.getD j false = true → ops[j]? = some o → ∀ e ∈ o.after, Region.binds md e = true → listed.getD e.on false = true
theorem closed_of {listed : Array Bool} (h : closedB md ops listed = true) : Closed md ops listed := fun j o hj ho e he hb => by
  have hlt : j < listed.size := by
    rcases Nat.lt_or_ge j listed.size with h' | h'
    · exact h'
    · simp [Array.getElem?_eq_none h'] at hj
  have := List.all_eq_true.1 h j (List.mem_range.2 hlt)
  rw [hj, ho] at this
  simp only [Bool.not_true, Bool.false_or] at this
  have h2 := Array.all_eq_true'.1 this e he
  rw [hb] at h2
  simpa using h2
theorem waitsT_in {i : Nat} {listed : Array Bool} (hc : Closed md ops listed) : ∀ (f k : Nat) (o : Oper), ops[k]? = some o → (∀ e ∈ o.after, Region.binds md e = true → listed.getD e.on false = true) → waitsT md ops i f k = true → listed.getD i false = true
  | 0, _, _, _, _, h => by cases h
  | f + 1, k, o, ho, hall, h => by
    unfold waitsT at h
    rw [ho] at h
    simp only at h
    obtain ⟨e, he, heq⟩ := Array.any_eq_true'.1 h
    rw [Bool.and_eq_true, Bool.or_eq_true, beq_iff_eq] at heq
    have hl := hall e he heq.1
    rcases heq.2 with h' | h'
    · rw [← h']; exact hl
    · cases hk : ops[e.on]? with
      | none => cases f <;> simp [waitsT, hk] at h'
      | some o' => exact waitsT_in hc f e.on o' hk (fun e' he' hb' => hc e.on o' hl hk e' he' hb') h'
theorem wpAny_of_k : ∀ (fuel : Nat) (listed : Array Bool) (a : Act) (w : World), wpAnyK P md ops Q S Ks fuel listed a w → wpAny P md ops Q fuel listed a w
  | 0, _, _, _, h => h
  | fuel + 1, _, _, _, h => ⟨h.1, fun i hi => wpOp_mono (fun a' w' h' => wpAny_of_k fuel _ a' w' h'.2) (h.2 i hi)⟩
theorem wpAnyK_first {i : Nat} {oi : Oper} {v : Value} (hi : ops[i]? = some oi) (hsel : ∀ (j : Nat) (o : Oper) cs b, ops[j]? = some o → o.op ≠ .select cs b)
    (hQ : ∀ c a w, Q (.panic c) (a.put oi.dst v) w → Q (.panic c) a w) (hK : ∀ k, Ks.contains k = true → waitsT md ops i ops.size k = true) (hiK : Ks.contains i = false) :
    ∀ (fuel : Nat) (listed : Array Bool) (a : Act) (w : World), Closed md ops listed →
      (∀ j oj, ops[j]? = some oj → j ≠ i → listed.getD j true = false → (∀ e ∈ oj.after, Region.binds md e = true → e.on ≠ i) → oi.apart ops oj = true) →
      i ∈ Region.ready md ops listed → YieldsIf P ops S oi v a → S w →
      wpAnyK P md ops Q S Ks fuel (listed.setIfInBounds i true) (a.put oi.dst v) w → wpAnyK P md ops Q S Ks (fuel + 1) listed a w := by
  intro fuel
  induction fuel with
  | zero =>
    intro listed a w _ _ hr hy hS H
    refine ⟨fun h => (by rw [h] at hr; cases hr), fun j hj => ?_⟩
    by_cases hji : j = i
    · subst hji; exact hy.wpOp hi hS ⟨fun _ => hS, H⟩
    · have := ready_mono hj hji
      rw [H.1] at this
      cases this
  | succ fuel ih =>
    intro listed a w hcl hfree hr hy hS H
    refine ⟨fun h => (by rw [h] at hr; cases hr), fun j hj => ?_⟩
    by_cases hji : j = i
    · subst hji; exact hy.wpOp hi hS ⟨fun _ => hS, H⟩
    · have h1 := H.2 j (ready_mono hj hji)
      obtain ⟨hjun, oj, hoj, hall⟩ := mem_ready.1 hj
      have hnot : ∀ e ∈ oj.after, Region.binds md e = true → e.on ≠ i := fun e he hb heq => by
        have h1 := hall e he hb
        have h0 := (mem_ready.1 hr).1
        rw [heq] at h1
        rcases Nat.lt_or_ge i listed.size with h' | h'
        · simp [h'] at h0 h1; rw [h0] at h1; cases h1
        · simp [Array.getElem?_eq_none h'] at h1
      have hjK : Ks.contains j = false := by
        cases hc : Ks.contains j
        · rfl
        · have hw := waitsT_in hcl _ j oj hoj hall (hK j hc)
          have h0 := (mem_ready.1 hr).1
          rcases Nat.lt_or_ge i listed.size with h' | h'
          · simp [h'] at h0 hw; rw [h0] at hw; cases hw
          · simp [Array.getElem?_eq_none h'] at hw
      have hcl' : Closed md ops (listed.setIfInBounds j true) := fun k ok hk hok e he hb => by
        by_cases hjk : j = k
        · subst hjk
          rw [hoj] at hok
          cases hok
          exact getD_set_true (hall e he hb)
        · rw [getD_set_ne false hjk] at hk
          exact getD_set_true (hcl k ok hk hok e he hb)
      have h2 := wpOp_putIf hoj (hfree j oj hoj hji hjun hnot) (fun cs b => hsel i oi cs b hi) (fun cs b => hsel j oj cs b hoj) hQ hy h1
      have hfree' : ∀ k ok, ops[k]? = some ok → k ≠ i → (listed.setIfInBounds j true).getD k true = false →
          (∀ e ∈ ok.after, Region.binds md e = true → e.on ≠ i) → oi.apart ops ok = true := fun k ok hk hki hun hno => by
        refine hfree k ok hk hki ?_ hno
        by_cases hjk : j = k
        · subst hjk; exact hjun
        · rw [getD_set_ne true hjk] at hun; exact hun
      refine wpOp_mono (fun a' w' h3 => ⟨fun _ => h3.2.1 hjK, ih (listed.setIfInBounds j true) a' w' hcl' hfree' (ready_mono hr (Ne.symm hji)) h3.1 (h3.2.1 hjK) ?_⟩) h2
      rw [Array.setIfInBounds_comm _ _ hji]
      exact h3.2.2
end
def TK [Dl] (P : Program) (n : Nat) (l : List Oper) (S : World → Prop) (Ks : List Nat) (fuel : Nat) (listed : Array Bool) (F : Act → World → Prop) (E : Env) (H : World → Prop) : Prop := ∀ a w, FrOk n E a → H w → wpAnyK P .any l.toArray (Exit.then F NoQ) S Ks fuel listed a w
section
variable {M : List Nat} {P : Program} {n d : Nat} {Q : Exit → Act → World → Prop} {F : Act → World → Prop} {l : List Oper} {o : Oper} {E : Env} {H S : World → Prop} {w0 : World} {cs cs0 : List Chunk} {v : Value} {fuel : Nat} {listed : Array Bool} {Ks : List Nat}
theorem ak_held [Dl] (Ks : List Nat) (cs0 : List Chunk) {id : Nat} (hm : P.follows .mixedOrders = true) (k : TK P n l (HpM M w0 cs0) Ks l.length (Array.replicate l.length false) (Q .normal) E (HpM M w0 cs)) : Tri n ((Code.region id l.toArray true).wp P Q) E (HpM M w0 cs) := fun a w h1 h2 => by
  refine wp_mono (Q := Exit.then (Q .normal) NoQ) (wp_region_any hm (wpAny_of_k _ _ _ _ (k a _ h1 h2.drawn))) fun e a' w' q => ?_
  cases e with
  | normal => exact q
  | exit id => exact q.elim
  | goto l => exact q.elim
  | ret => exact q.elim
  | panic ch => exact q.elim
  | outgrown => exact q.elim
theorem tk_take [Dl] (i : Nat) (hi : l[i]? = some o) (hns : Region.noSelect l.toArray = true) (hf : Region.free .any l.toArray listed i = true) (hr : (Region.ready .any l.toArray listed).contains i = true)
    (hK : (Ks.all fun k => waitsT .any l.toArray i l.toArray.size k) = true) (hcl : closedB .any l.toArray listed = true) (hiK : Ks.contains i = false) (hS : ∀ w, H w → S w) (hy : ∀ a, FrOk n E a → YieldsIf P l.toArray S o v a) (k : ∀ a, FrOk n E a → ∀ w, H w → wpAnyK P .any l.toArray (Exit.then F NoQ) S Ks fuel (listed.setIfInBounds i true) (a.put o.dst v) w) :
    TK P n l S Ks (fuel + 1) listed F E H := fun a w h1 h2 =>
  wpAnyK_first (by simpa using hi) (Region.noSelect_spec hns) (fun _ _ _ h => h.elim) (fun k hk => List.all_eq_true.1 hK k (List.contains_iff_mem.1 hk)) hiK fuel listed a w (closed_of hcl) (Region.free_spec (by simpa using hi) hf) (by simpa using hr) (hy a h1) (hS w h2) (k a h1 w h2)
theorem ak_take [Dl] (i : Nat) (hi : l[i]? = some o) (hd : o.dst = some d) (hn : Nat.blt d n = true) (k : TK P n l (HpM M w0 cs0) Ks fuel (listed.setIfInBounds i true) F ((d, v) :: E) (HpM M w0 cs)) (hns : Region.noSelect l.toArray = true := by kernel_rfl) (hf : Region.free .any l.toArray listed i = true := by kernel_rfl) (hr : (Region.ready .any l.toArray listed).contains i = true := by kernel_rfl)
    (hK : (Ks.all fun k => waitsT .any l.toArray i l.toArray.size k) = true := by kernel_rfl) (hcl : closedB .any l.toArray listed = true := by kernel_rfl) (hiK : Ks.contains i = false := by rfl) (hs : cs0.Sublist cs := by repeat (first | exact List.Sublist.refl _ | assumption | apply List.Sublist.cons_cons | apply List.Sublist.cons)) (hw : Wan l n o E true := by first | exact wan_plain rfl | exact wan_yes rfl rfl rfl) (hy : Yl P n o E (HpM M w0 cs0) v := by first | exact yl_mv rfl rfl | exact yl_field rfl rfl | exact yl_load rfl rfl (by first | (apply has_at; (repeat (first | exact at0 | apply atS)); done) | (repeat (first | assumption | apply has_cons))) rfl | exact yl_addn rfl rfl rfl (by omega) | exact yl_subn rfl rfl rfl (by omega) | exact yl_int2 rfl rfl rfl rfl | exact yl_pick_t rfl rfl rfl | exact yl_pick_f rfl rfl rfl | exact yl_not rfl rfl | exact yl_ext rfl rfl rfl | exact yl_loadN rfl rfl (by first | (apply has_at; (repeat (first | exact at0 | apply atS)); done) | (repeat (first | assumption | apply has_cons))) (by repeat (first | exact nf0 rfl | apply nfS rfl | exact nfR)) (by rfl) | exact yl_build rfl rfl rfl (by repeat (first | exact nf0 rfl | apply nfS rfl | exact nfR)) | exact yl_shl rfl rfl rfl (by decide) | exact yl_shr rfl rfl rfl (by decide) | exact yl_convn rfl rfl (by omega) | exact yl_conv rfl rfl | exact yl_remn rfl rfl rfl (by omega) | exact yl_quon rfl rfl rfl (by omega) | exact yl_eqs rfl rfl rfl | exact yl_neqs rfl rfl rfl | exact yl_eqlb rfl rfl rfl | exact yl_neqb rfl rfl rfl | exact yl_neg rfl rfl | exact yl_len rfl rfl (by repeat (first | assumption | exact rd_chunk (by first | (apply has_at; (repeat (first | exact at0 | apply atS)); done) | (repeat (first | assumption | apply has_cons))) | apply RdH.cons | refine RdH.cut ?_ rfl (by omega) (by omega))) | exact yl_idx rfl rfl (by repeat (first | assumption | exact rd_chunk (by first | (apply has_at; (repeat (first | exact at0 | apply atS)); done) | (repeat (first | assumption | apply has_cons))) | apply RdH.cons | refine RdH.cut ?_ rfl (by omega) (by omega))) (by first | exact ix_nat rfl | exact ix_int rfl (by omega)) (by rfl) (by first | assumption | omega | decide | (simp only [List.length_set, List.length_append, List.length_replicate, List.length_cons, List.length_nil, List.length_drop, List.length_take] at *; omega)) | exact yl_fieldE rfl rfl | exact yl_loadE rfl rfl (by repeat (first | assumption | exact rd_chunk (by first | (apply has_at; (repeat (first | exact at0 | apply atS)); done) | (repeat (first | assumption | apply has_cons))) | apply RdH.cons | refine RdH.cut ?_ rfl (by omega) (by omega))) (by rfl) (by first | assumption | omega | decide | (simp only [List.length_set, List.length_append, List.length_replicate, List.length_cons, List.length_nil, List.length_drop, List.length_take] at *; omega)) (by rfl) | exact yl_loadEN rfl rfl (by repeat (first | assumption | exact rd_chunk (by first | (apply has_at; (repeat (first | exact at0 | apply atS)); done) | (repeat (first | assumption | apply has_cons))) | apply RdH.cons | refine RdH.cut ?_ rfl (by omega) (by omega))) (by rfl) (by first | assumption | omega | decide | (simp only [List.length_set, List.length_append, List.length_replicate, List.length_cons, List.length_nil, List.length_drop, List.length_take] at *; omega)) (by repeat (first | exact nf0 rfl | apply nfS rfl | exact nfR)) (by rfl) | exact yl_nilchk rfl rfl | exact yl_nilchkE rfl rfl | exact yl_eqnil rfl rfl rfl (by repeat (first | assumption | exact rd_chunk (by first | (apply has_at; (repeat (first | exact at0 | apply atS)); done) | (repeat (first | assumption | apply has_cons))) | apply RdH.cons | refine RdH.cut ?_ rfl (by omega) (by omega))) | exact yl_neqnil rfl rfl rfl (by repeat (first | assumption | exact rd_chunk (by first | (apply has_at; (repeat (first | exact at0 | apply atS)); done) | (repeat (first | assumption | apply has_cons))) | apply RdH.cons | refine RdH.cut ?_ rfl (by omega) (by omega))) | exact yl_cut rfl rfl (by repeat (first | assumption | exact rd_chunk (by first | (apply has_at; (repeat (first | exact at0 | apply atS)); done) | (repeat (first | assumption | apply has_cons))) | apply RdH.cons | refine RdH.cut ?_ rfl (by omega) (by omega))) (by first | exact ixo_none | exact ixo_some (by first | exact ix_nat rfl | exact ix_int rfl (by omega))) (by first | exact ixo_none | exact ixo_some (by first | exact ix_nat rfl | exact ix_int rfl (by omega))) (by omega) (by omega) | exact yl_func rfl rfl) : TK P n l (HpM M w0 cs0) Ks (fuel + 1) listed F E (HpM M w0 cs) :=
  tk_take i hi hns hf hr hK hcl hiK (fun _ h => h.sub hs) (fun a h1 => .inl ⟨hw a h1, fun w' hw' => hy a w' h1 hw'⟩) fun a h1 w h2 => by rw [hd]; exact k _ _ (h1.put hn v) h2
theorem ak_pass [Dl] (i : Nat) (hi : l[i]? = some o) (hd : o.dst = some d) (hn : Nat.blt d n = true) (k : TK P n l (HpM M w0 cs0) Ks fuel (listed.setIfInBounds i true) F ((d, undef) :: E) (HpM M w0 cs)) (hns : Region.noSelect l.toArray = true := by kernel_rfl) (hf : Region.free .any l.toArray listed i = true := by kernel_rfl) (hr : (Region.ready .any l.toArray listed).contains i = true := by kernel_rfl)
    (hK : (Ks.all fun k => waitsT .any l.toArray i l.toArray.size k) = true := by kernel_rfl) (hcl : closedB .any l.toArray listed = true := by kernel_rfl) (hiK : Ks.contains i = false := by rfl) (hs : cs0.Sublist cs := by repeat (first | exact List.Sublist.refl _ | assumption | apply List.Sublist.cons_cons | apply List.Sublist.cons)) (hw : Wan l n o E false := by first | exact wan_no rfl rfl rfl | exact wan_un rfl rfl rfl) : TK P n l (HpM M w0 cs0) Ks (fuel + 1) listed F E (HpM M w0 cs) :=
  tk_take (v := undef) i hi hns hf hr hK hcl hiK (fun _ h => h.sub hs) (fun a h1 => .inr ⟨hw a h1, rfl⟩) fun a h1 w h2 => by rw [hd]; exact k _ _ (h1.put hn undef) h2
theorem wpop_ofk {i : Nat} {o : Oper} {K : Act → World → Prop} (hi : l[i]? = some o) {a : Act} {w : World} (h : wpList P l.toArray (Exit.then K NoQ) [o] a w) : wpOp P l.toArray (Exit.then F NoQ) i K a w := by
  have hi' : l.toArray[i]? = some o := by simpa using hi
  unfold wpList at h
  unfold wpOp
  rw [hi']
  simp only
  by_cases hw : Region.wanted o (yielded l.toArray a.tmps) = true
  · rw [if_pos hw] at h ⊢
    rcases h with h | ⟨_, a', w', h⟩
    · left
      have e : wpList P l.toArray (Exit.then K NoQ) [] = K := by
        funext a w; rfl
      rw [e] at h
      unfold Oper.wp at h ⊢
      unfold Oper.upon at h ⊢
      split at h <;> exact h
    · exact h.elim
  · rw [if_neg hw] at h ⊢
    exact h
theorem wpAnyK_all {rs : List Nat} {md : Region.Mode} {ops : Array Oper} {a : Act} {w : World} (hr : Region.ready md ops listed = rs) (hne : rs ≠ [])
    (h : ∀ i ∈ rs, wpOp P ops Q i (fun a' w' => (Ks.contains i = false → S w') ∧ wpAnyK P md ops Q S Ks fuel (listed.setIfInBounds i true) a' w') a w) : wpAnyK P md ops Q S Ks (fuel + 1) listed a w :=
  ⟨fun h0 => absurd (hr ▸ h0) hne, hr ▸ h⟩
theorem ak_op [Dl] (i : Nat) (hi : l[i]? = some o) (k : Tri n (wpList P l.toArray (Exit.then (fun a w => (Ks.contains i = false → HpM M w0 cs0 w) ∧ wpAnyK P .any l.toArray (Exit.then F NoQ) (HpM M w0 cs0) Ks fuel (listed.setIfInBounds i true) a w) NoQ) [o]) E (HpM M w0 cs)) (hr : Region.ready .any l.toArray listed = [i] := by kernel_rfl) :
    TK P n l (HpM M w0 cs0) Ks (fuel + 1) listed F E (HpM M w0 cs) := fun a w h1 h2 => wpAnyK_all hr (by simp) fun j hj => by
  have : j = i := by simpa using hj
  subst this
  exact wpop_ofk hi (k a w h1 h2)
theorem ak_op2 [Dl] (i j : Nat) {oi oj : Oper} (hi : l[i]? = some oi) (hj : l[j]? = some oj)
    (ki : Tri n (wpList P l.toArray (Exit.then (fun a w => (Ks.contains i = false → HpM M w0 cs0 w) ∧ wpAnyK P .any l.toArray (Exit.then F NoQ) (HpM M w0 cs0) Ks fuel (listed.setIfInBounds i true) a w) NoQ) [oi]) E (HpM M w0 cs))
    (kj : Tri n (wpList P l.toArray (Exit.then (fun a w => (Ks.contains j = false → HpM M w0 cs0 w) ∧ wpAnyK P .any l.toArray (Exit.then F NoQ) (HpM M w0 cs0) Ks fuel (listed.setIfInBounds j true) a w) NoQ) [oj]) E (HpM M w0 cs))
    (hr : Region.ready .any l.toArray listed = [i, j] := by kernel_rfl) : TK P n l (HpM M w0 cs0) Ks (fuel + 1) listed F E (HpM M w0 cs) := fun a w h1 h2 => wpAnyK_all hr (by simp) fun k hk => by
  have : k = i ∨ k = j := by simpa using hk
  rcases this with rfl | rfl
  · exact wpop_ofk hi (ki a w h1 h2)
  · exact wpop_ofk hj (kj a w h1 h2)
theorem ak_in [Dl] {i : Nat} (k : TK P n l (HpM M w0 cs0) Ks fuel listed F E (HpM M w0 cs)) (hs : cs0.Sublist cs := by repeat (first | exact List.Sublist.refl _ | assumption | apply List.Sublist.cons_cons | apply List.Sublist.cons)) :
    Tri n (Exit.then (fun a w => (Ks.contains i = false → HpM M w0 cs0 w) ∧ wpAnyK P .any l.toArray (Exit.then F NoQ) (HpM M w0 cs0) Ks fuel listed a w) NoQ .normal) E (HpM M w0 cs) := fun a w h1 h2 => ⟨fun _ => h2.sub hs, k a w h1 h2⟩
theorem ak_ink [Dl] {i : Nat} (k : TK P n l (HpM M w0 cs0) Ks fuel listed F E (HpM M w0 cs)) (hs : Ks.contains i = true := by rfl) :
    Tri n (Exit.then (fun a w => (Ks.contains i = false → HpM M w0 cs0 w) ∧ wpAnyK P .any l.toArray (Exit.then F NoQ) (HpM M w0 cs0) Ks fuel listed a w) NoQ .normal) E (HpM M w0 cs) := fun a w h1 h2 => ⟨fun h => (by rw [hs] at h; cases h), k a w h1 h2⟩
theorem ak_weak [Dl] (cs' : List Chunk) (hs : cs'.Sublist cs) (k : TK P n l S Ks fuel listed F E (HpM M w0 cs')) : TK P n l S Ks fuel listed F E (HpM M w0 cs) := fun a w h1 h2 => k a w h1 (h2.sub hs)
theorem ak_done [Dl] (k : Tri n F E (HpM M w0 cs)) (hr : Region.ready .any l.toArray listed = [] := by kernel_rfl) : TK P n l (HpM M w0 cs0) Ks fuel listed F E (HpM M w0 cs) := fun a w h1 h2 => by
  cases fuel with
  | zero => exact ⟨hr, k a w h1 h2⟩
  | succ f => exact ⟨fun _ => k a w h1 h2, by rw [hr]; simp⟩
theorem tri_front [Dl] {c : Chunk} {ds : List Chunk} (i : Nat) (hi : At cs i c) (he : Nf (cs.eraseIdx i) ds) (k : Tri n F E (HpM M w0 (c :: ds))) : Tri n F E (HpM M w0 cs) := fun a w h1 h2 => k a w h1 (h2.front hi he)
end
end Go.Proofs.Ythlildafofbiaaa
