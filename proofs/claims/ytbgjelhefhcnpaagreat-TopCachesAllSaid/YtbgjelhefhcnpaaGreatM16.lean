/- Texts joined: SeqK, PtCheck. Each part's own remark says what it proves. -/
import Derived.Test.YtbgjelhefhcnpaaGreatM05
import Derived.Test.YtbgjelhefhcnpaaGreatM15
/- A region that draws its order and whose last operations change what its first ones read: behind those (the list Ks) nothing is asked of the world. No conditions. -/
set_option linter.unusedSimpArgs false
set_option linter.unusedVariables false
namespace Go.Proofs.YtbgjelhefhcnpaaGreat
open Go Go.RowKit
section
variable {P : Program} {ops : Array Oper} {Q : Exit → Act → World → Prop} {md : Region.Mode} {S : World → Prop} {Ks : List Nat}
def wpAnyK (P : Program) (md : Region.Mode) (ops : Array Oper) (Q : Exit → Act → World → Prop) (S : World → Prop) (Ks : List Nat) : Nat → Array Bool → Act → World → Prop
  | 0, listed, a, w => Region.ready md ops listed = [] ∧ Q .normal a w
  | fuel + 1, listed, a, w => (Region.ready md ops listed = [] → Q .normal a w) ∧
    ∀ i ∈ Region.ready md ops listed, wpOp P ops Q i (fun a' w' => (Ks.contains i = false → S w') ∧ wpAnyK P md ops Q S Ks fuel (listed.setIfInBounds i true) a' w') a w
/-- Operation k comes behind operation i. -/
def waitsT (md : Region.Mode) (ops : Array Oper) (i : Nat) : Nat → Nat → Bool
  | 0, _ => false
  | f + 1, k => match ops[k]? with
    | some o => o.after.any fun e => Region.binds md e && (e.on == i || waitsT md ops i f e.on)
    | none => false
def closedB (md : Region.Mode) (ops : Array Oper) (listed : Array Bool) : Bool := (List.range listed.size).all fun j => !(listed.getD j false) || match ops[j]? with
  | some o => o.after.all fun e => !(Region.binds md e) || listed.getD e.on false
  | none => true
def Closed (md : Region.Mode) (ops : Array Oper) (listed : Array Bool) : Prop := ∀ j o, listed.getD j false = true → ops[j]? = some o → ∀ e ∈ o.after, Region.binds md e = true → listed.getD e.on false = true
theorem closed_of {listed : Array Bool} (h : closedB md ops listed = true) : Closed md ops listed := fun j o hj ho e he hb => by
  have hlt : j < listed.size := by
    rcases Nat.lt_or_ge j listed.size with h' | h'
    · exact h'
    · simp [Array.getElem?_eq_none h'] at hj
  have := List.all_eq_true.1 h j (List.mem_range.2 hlt)
  rw [hj, ho] at this
  simp only [Bool.not_true, Bool.false_or] at this
  have h2 := Array.all_eq_true'.1 this e he
  rw [hb] at h2
  simpa using h2
theorem waitsT_in {i : Nat} {listed : Array Bool} (hc : Closed md ops listed) : ∀ (f k : Nat) (o : Oper), ops[k]? = some o → (∀ e ∈ o.after, Region.binds md e = true → listed.getD e.on false = true) → waitsT md ops i f k = true → listed.getD i false = true
  | 0, _, _, _, _, h => by cases h
  | f + 1, k, o, ho, hall, h => by
    unfold waitsT at h
    rw [ho] at h
    simp only at h
    obtain ⟨e, he, heq⟩ := Array.any_eq_true'.1 h
    rw [Bool.and_eq_true, Bool.or_eq_true, beq_iff_eq] at heq
    have hl := hall e he heq.1
    rcases heq.2 with h' | h'
    · rw [← h']; exact hl
    · cases hk : ops[e.on]? with
      | none => cases f <;> simp [waitsT, hk] at h'
      | some o' => exact waitsT_in hc f e.on o' hk (fun e' he' hb' => hc e.on o' hl hk e' he' hb') h'
theorem wpAny_of_k : ∀ (fuel : Nat) (listed : Array Bool) (a : Act) (w : World), wpAnyK P md ops Q S Ks fuel listed a w → wpAny P md ops Q fuel listed a w
  | 0, _, _, _, h => h
  | fuel + 1, _, _, _, h => ⟨h.1, fun i hi => wpOp_mono (fun a' w' h' => wpAny_of_k fuel _ a' w' h'.2) (h.2 i hi)⟩
theorem wpAnyK_first {i : Nat} {oi : Oper} {v : Value} (hi : ops[i]? = some oi) (hsel : ∀ (j : Nat) (o : Oper) cs b, ops[j]? = some o → o.op ≠ .select cs b)
    (hQ : ∀ c a w, Q (.panic c) (a.put oi.dst v) w → Q (.panic c) a w) (hK : ∀ k, Ks.contains k = true → waitsT md ops i ops.size k = true) (hiK : Ks.contains i = false) :
    ∀ (fuel : Nat) (listed : Array Bool) (a : Act) (w : World), Closed md ops listed →
      (∀ j oj, ops[j]? = some oj → j ≠ i → listed.getD j true = false → (∀ e ∈ oj.after, Region.binds md e = true → e.on ≠ i) → oi.apart ops oj = true) →
      i ∈ Region.ready md ops listed → YieldsIf P ops S oi v a → S w →
      wpAnyK P md ops Q S Ks fuel (listed.setIfInBounds i true) (a.put oi.dst v) w → wpAnyK P md ops Q S Ks (fuel + 1) listed a w := by
  intro fuel
  induction fuel with
  | zero =>
    intro listed a w _ _ hr hy hS H
    refine ⟨fun h => (by rw [h] at hr; cases hr), fun j hj => ?_⟩
    by_cases hji : j = i
    · subst hji; exact hy.wpOp hi hS ⟨fun _ => hS, H⟩
    · have := ready_mono hj hji
      rw [H.1] at this
      cases this
  | succ fuel ih =>
    intro listed a w hcl hfree hr hy hS H
    refine ⟨fun h => (by rw [h] at hr; cases hr), fun j hj => ?_⟩
    by_cases hji : j = i
    · subst hji; exact hy.wpOp hi hS ⟨fun _ => hS, H⟩
    · have h1 := H.2 j (ready_mono hj hji)
      obtain ⟨hjun, oj, hoj, hall⟩ := mem_ready.1 hj
      have hnot : ∀ e ∈ oj.after, Region.binds md e = true → e.on ≠ i := fun e he hb heq => by
        have h1 := hall e he hb
        have h0 := (mem_ready.1 hr).1
        rw [heq] at h1
        rcases Nat.lt_or_ge i listed.size with h' | h'
        · simp [h'] at h0 h1; rw [h0] at h1; cases h1
        · simp [Array.getElem?_eq_none h'] at h1
      have hjK : Ks.contains j = false := by
        cases hc : Ks.contains j
        · rfl
        · have hw := waitsT_in hcl _ j oj hoj hall (hK j hc)
          have h0 := (mem_ready.1 hr).1
          rcases Nat.lt_or_ge i listed.size with h' | h'
          · simp [h'] at h0 hw; rw [h0] at hw; cases hw
          · simp [Array.getElem?_eq_none h'] at hw
      have hcl' : Closed md ops (listed.setIfInBounds j true) := fun k ok hk hok e he hb => by
        by_cases hjk : j = k
        · subst hjk
          rw [hoj] at hok
          cases hok
          exact getD_set_true (hall e he hb)
        · rw [getD_set_ne false hjk] at hk
          exact getD_set_true (hcl k ok hk hok e he hb)
      have h2 := wpOp_putIf hoj (hfree j oj hoj hji hjun hnot) (fun cs b => hsel i oi cs b hi) (fun cs b => hsel j oj cs b hoj) hQ hy h1
      have hfree' : ∀ k ok, ops[k]? = some ok → k ≠ i → (listed.setIfInBounds j true).getD k true = false →
          (∀ e ∈ ok.after, Region.binds md e = true → e.on ≠ i) → oi.apart ops ok = true := fun k ok hk hki hun hno => by
        refine hfree k ok hk hki ?_ hno
        by_cases hjk : j = k
        · subst hjk; exact hjun
        · rw [getD_set_ne true hjk] at hun; exact hun
      refine wpOp_mono (fun a' w' h3 => ⟨fun _ => h3.2.1 hjK, ih (listed.setIfInBounds j true) a' w' hcl' hfree' (ready_mono hr (Ne.symm hji)) h3.1 (h3.2.1 hjK) ?_⟩) h2
      rw [Array.setIfInBounds_comm _ _ hji]
      exact h3.2.2
end
def TK [Dl] (P : Program) (n : Nat) (l : List Oper) (S : World → Prop) (Ks : List Nat) (fuel : Nat) (listed : Array Bool) (F : Act → World → Prop) (E : Env) (H : World → Prop) : Prop := ∀ a w, FrOk n E a → H w → wpAnyK P .any l.toArray (Exit.then F NoQ) S Ks fuel listed a w
section
variable {M : List Nat} {P : Program} {n d : Nat} {Q : Exit → Act → World → Prop} {F : Act → World → Prop} {l : List Oper} {o : Oper} {E : Env} {H S : World → Prop} {w0 : World} {cs cs0 : List Chunk} {v : Value} {fuel : Nat} {listed : Array Bool} {Ks : List Nat}
theorem ak_held [Dl] (Ks : List Nat) (cs0 : List Chunk) {id : Nat} (hm : P.follows .mixedOrders = true) (k : TK P n l (HpM M w0 cs0) Ks l.length (Array.replicate l.length false) (Q .normal) E (HpM M w0 cs)) : Tri n ((Code.region id l.toArray true).wp P Q) E (HpM M w0 cs) := fun a w h1 h2 => by
  refine wp_mono (Q := Exit.then (Q .normal) NoQ) (wp_region_any hm (wpAny_of_k _ _ _ _ (k a _ h1 h2.drawn))) fun e a' w' q => ?_
  cases e with
  | normal => exact q
  | exit id => exact q.elim
  | goto l => exact q.elim
  | ret => exact q.elim
  | panic ch => exact q.elim
  | outgrown => exact q.elim
theorem tk_take [Dl] (i : Nat) (hi : l[i]? = some o) (hns : Region.noSelect l.toArray = true) (hf : Region.free .any l.toArray listed i = true) (hr : (Region.ready .any l.toArray listed).contains i = true)
    (hK : (Ks.all fun k => waitsT .any l.toArray i l.toArray.size k) = true) (hcl : closedB .any l.toArray listed = true) (hiK : Ks.contains i = false) (hS : ∀ w, H w → S w) (hy : ∀ a, FrOk n E a → YieldsIf P l.toArray S o v a) (k : ∀ a, FrOk n E a → ∀ w, H w → wpAnyK P .any l.toArray (Exit.then F NoQ) S Ks fuel (listed.setIfInBounds i true) (a.put o.dst v) w) :
    TK P n l S Ks (fuel + 1) listed F E H := fun a w h1 h2 =>
  wpAnyK_first (by simpa using hi) (Region.noSelect_spec hns) (fun _ _ _ h => h.elim) (fun k hk => List.all_eq_true.1 hK k (List.contains_iff_mem.1 hk)) hiK fuel listed a w (closed_of hcl) (Region.free_spec (by simpa using hi) hf) (by simpa using hr) (hy a h1) (hS w h2) (k a h1 w h2)
theorem ak_take [Dl] (i : Nat) (hi : l[i]? = some o) (hd : o.dst = some d) (hn : Nat.blt d n = true) (k : TK P n l (HpM M w0 cs0) Ks fuel (listed.setIfInBounds i true) F ((d, v) :: E) (HpM M w0 cs)) (hns : Region.noSelect l.toArray = true := by kernel_rfl) (hf : Region.free .any l.toArray listed i = true := by kernel_rfl) (hr : (Region.ready .any l.toArray listed).contains i = true := by kernel_rfl)
    (hK : (Ks.all fun k => waitsT .any l.toArray i l.toArray.size k) = true := by kernel_rfl) (hcl : closedB .any l.toArray listed = true := by kernel_rfl) (hiK : Ks.contains i = false := by rfl) (hs : cs0.Sublist cs := by repeat (first | exact List.Sublist.refl _ | assumption | apply List.Sublist.cons_cons | apply List.Sublist.cons)) (hw : Wan l n o E true := by first | exact wan_plain rfl | exact wan_yes rfl rfl rfl) (hy : Yl P n o E (HpM M w0 cs0) v := by first | exact yl_mv rfl rfl | exact yl_field rfl rfl | exact yl_load rfl rfl (by first | (apply has_at; (repeat (first | exact at0 | apply atS)); done) | (repeat (first | assumption | apply has_cons))) rfl | exact yl_addn rfl rfl rfl (by omega) | exact yl_subn rfl rfl rfl (by omega) | exact yl_int2 rfl rfl rfl rfl | exact yl_pick_t rfl rfl rfl | exact yl_pick_f rfl rfl rfl | exact yl_not rfl rfl | exact yl_ext rfl rfl rfl | exact yl_loadN rfl rfl (by first | (apply has_at; (repeat (first | exact at0 | apply atS)); done) | (repeat (first | assumption | apply has_cons))) (by repeat (first | exact nf0 rfl | apply nfS rfl | exact nfR)) (by rfl) | exact yl_build rfl rfl rfl (by repeat (first | exact nf0 rfl | apply nfS rfl | exact nfR)) | exact yl_shl rfl rfl rfl (by decide) | exact yl_shr rfl rfl rfl (by decide) | exact yl_convn rfl rfl (by omega) | exact yl_conv rfl rfl | exact yl_remn rfl rfl rfl (by omega) | exact yl_quon rfl rfl rfl (by omega) | exact yl_eqs rfl rfl rfl | exact yl_neqs rfl rfl rfl | exact yl_eqlb rfl rfl rfl | exact yl_neqb rfl rfl rfl | exact yl_neg rfl rfl | exact yl_len rfl rfl (by repeat (first | assumption | exact rd_chunk (by first | (apply has_at; (repeat (first | exact at0 | apply atS)); done) | (repeat (first | assumption | apply has_cons))) | apply RdH.cons | refine RdH.cut ?_ rfl (by omega) (by omega))) | exact yl_idx rfl rfl (by repeat (first | assumption | exact rd_chunk (by first | (apply has_at; (repeat (first | exact at0 | apply atS)); done) | (repeat (first | assumption | apply has_cons))) | apply RdH.cons | refine RdH.cut ?_ rfl (by omega) (by omega))) (by first | exact ix_nat rfl | exact ix_int rfl (by omega)) (by rfl) (by first | assumption | omega | decide | (simp only [List.length_set, List.length_append, List.length_replicate, List.length_cons, List.length_nil, List.length_drop, List.length_take] at *; omega)) | exact yl_fieldE rfl rfl | exact yl_loadE rfl rfl (by repeat (first | assumption | exact rd_chunk (by first | (apply has_at; (repeat (first | exact at0 | apply atS)); done) | (repeat (first | assumption | apply has_cons))) | apply RdH.cons | refine RdH.cut ?_ rfl (by omega) (by omega))) (by rfl) (by first | assumption | omega | decide | (simp only [List.length_set, List.length_append, List.length_replicate, List.length_cons, List.length_nil, List.length_drop, List.length_take] at *; omega)) (by rfl) | exact yl_loadEN rfl rfl (by repeat (first | assumption | exact rd_chunk (by first | (apply has_at; (repeat (first | exact at0 | apply atS)); done) | (repeat (first | assumption | apply has_cons))) | apply RdH.cons | refine RdH.cut ?_ rfl (by omega) (by omega))) (by rfl) (by first | assumption | omega | decide | (simp only [List.length_set, List.length_append, List.length_replicate, List.length_cons, List.length_nil, List.length_drop, List.length_take] at *; omega)) (by repeat (first | exact nf0 rfl | apply nfS rfl | exact nfR)) (by rfl) | exact yl_nilchk rfl rfl | exact yl_nilchkE rfl rfl | exact yl_eqnil rfl rfl rfl (by repeat (first | assumption | exact rd_chunk (by first | (apply has_at; (repeat (first | exact at0 | apply atS)); done) | (repeat (first | assumption | apply has_cons))) | apply RdH.cons | refine RdH.cut ?_ rfl (by omega) (by omega))) | exact yl_neqnil rfl rfl rfl (by repeat (first | assumption | exact rd_chunk (by first | (apply has_at; (repeat (first | exact at0 | apply atS)); done) | (repeat (first | assumption | apply has_cons))) | apply RdH.cons | refine RdH.cut ?_ rfl (by omega) (by omega))) | exact yl_cut rfl rfl (by repeat (first | assumption | exact rd_chunk (by first | (apply has_at; (repeat (first | exact at0 | apply atS)); done) | (repeat (first | assumption | apply has_cons))) | apply RdH.cons | refine RdH.cut ?_ rfl (by omega) (by omega))) (by first | exact ixo_none | exact ixo_some (by first | exact ix_nat rfl | exact ix_int rfl (by omega))) (by first | exact ixo_none | exact ixo_some (by first | exact ix_nat rfl | exact ix_int rfl (by omega))) (by omega) (by omega) | exact yl_func rfl rfl) : TK P n l (HpM M w0 cs0) Ks (fuel + 1) listed F E (HpM M w0 cs) :=
  tk_take i hi hns hf hr hK hcl hiK (fun _ h => h.sub hs) (fun a h1 => .inl ⟨hw a h1, fun w' hw' => hy a w' h1 hw'⟩) fun a h1 w h2 => by rw [hd]; exact k _ _ (h1.put hn v) h2
theorem ak_pass [Dl] (i : Nat) (hi : l[i]? = some o) (hd : o.dst = some d) (hn : Nat.blt d n = true) (k : TK P n l (HpM M w0 cs0) Ks fuel (listed.setIfInBounds i true) F ((d, undef) :: E) (HpM M w0 cs)) (hns : Region.noSelect l.toArray = true := by kernel_rfl) (hf : Region.free .any l.toArray listed i = true := by kernel_rfl) (hr : (Region.ready .any l.toArray listed).contains i = true := by kernel_rfl)
    (hK : (Ks.all fun k => waitsT .any l.toArray i l.toArray.size k) = true := by kernel_rfl) (hcl : closedB .any l.toArray listed = true := by kernel_rfl) (hiK : Ks.contains i = false := by rfl) (hs : cs0.Sublist cs := by repeat (first | exact List.Sublist.refl _ | assumption | apply List.Sublist.cons_cons | apply List.Sublist.cons)) (hw : Wan l n o E false := by first | exact wan_no rfl rfl rfl | exact wan_un rfl rfl rfl) : TK P n l (HpM M w0 cs0) Ks (fuel + 1) listed F E (HpM M w0 cs) :=
  tk_take (v := undef) i hi hns hf hr hK hcl hiK (fun _ h => h.sub hs) (fun a h1 => .inr ⟨hw a h1, rfl⟩) fun a h1 w h2 => by rw [hd]; exact k _ _ (h1.put hn undef) h2
theorem wpop_ofk {i : Nat} {o : Oper} {K : Act → World → Prop} (hi : l[i]? = some o) {a : Act} {w : World} (h : wpList P l.toArray (Exit.then K NoQ) [o] a w) : wpOp P l.toArray (Exit.then F NoQ) i K a w := by
  have hi' : l.toArray[i]? = some o := by simpa using hi
  unfold wpList at h
  unfold wpOp
  rw [hi']
  simp only
  by_cases hw : Region.wanted o (yielded l.toArray a.tmps) = true
  · rw [if_pos hw] at h ⊢
    rcases h with h | ⟨_, a', w', h⟩
    · left
      have e : wpList P l.toArray (Exit.then K NoQ) [] = K := by
        funext a w; rfl
      rw [e] at h
      unfold Oper.wp at h ⊢
      unfold Oper.upon at h ⊢
      split at h <;> exact h
    · exact h.elim
  · rw [if_neg hw] at h ⊢
    exact h
theorem wpAnyK_all {rs : List Nat} {md : Region.Mode} {ops : Array Oper} {a : Act} {w : World} (hr : Region.ready md ops listed = rs) (hne : rs ≠ [])
    (h : ∀ i ∈ rs, wpOp P ops Q i (fun a' w' => (Ks.contains i = false → S w') ∧ wpAnyK P md ops Q S Ks fuel (listed.setIfInBounds i true) a' w') a w) : wpAnyK P md ops Q S Ks (fuel + 1) listed a w :=
  ⟨fun h0 => absurd (hr ▸ h0) hne, hr ▸ h⟩
theorem ak_op [Dl] (i : Nat) (hi : l[i]? = some o) (k : Tri n (wpList P l.toArray (Exit.then (fun a w => (Ks.contains i = false → HpM M w0 cs0 w) ∧ wpAnyK P .any l.toArray (Exit.then F NoQ) (HpM M w0 cs0) Ks fuel (listed.setIfInBounds i true) a w) NoQ) [o]) E (HpM M w0 cs)) (hr : Region.ready .any l.toArray listed = [i] := by kernel_rfl) :
    TK P n l (HpM M w0 cs0) Ks (fuel + 1) listed F E (HpM M w0 cs) := fun a w h1 h2 => wpAnyK_all hr (by simp) fun j hj => by
  have : j = i := by simpa using hj
  subst this
  exact wpop_ofk hi (k a w h1 h2)
theorem ak_op2 [Dl] (i j : Nat) {oi oj : Oper} (hi : l[i]? = some oi) (hj : l[j]? = some oj)
    (ki : Tri n (wpList P l.toArray (Exit.then (fun a w => (Ks.contains i = false → HpM M w0 cs0 w) ∧ wpAnyK P .any l.toArray (Exit.then F NoQ) (HpM M w0 cs0) Ks fuel (listed.setIfInBounds i true) a w) NoQ) [oi]) E (HpM M w0 cs))
    (kj : Tri n (wpList P l.toArray (Exit.then (fun a w => (Ks.contains j = false → HpM M w0 cs0 w) ∧ wpAnyK P .any l.toArray (Exit.then F NoQ) (HpM M w0 cs0) Ks fuel (listed.setIfInBounds j true) a w) NoQ) [oj]) E (HpM M w0 cs))
    (hr : Region.ready .any l.toArray listed = [i, j] := by kernel_rfl) : TK P n l (HpM M w0 cs0) Ks (fuel + 1) listed F E (HpM M w0 cs) := fun a w h1 h2 => wpAnyK_all hr (by simp) fun k hk => by
  have : k = i ∨ k = j := by simpa using hk
  rcases this with rfl | rfl
  · exact wpop_ofk hi (ki a w h1 h2)
  · exact wpop_ofk hj (kj a w h1 h2)
theorem ak_in [Dl] {i : Nat} (k : TK P n l (HpM M w0 cs0) Ks fuel listed F E (HpM M w0 cs)) (hs : cs0.Sublist cs := by repeat (first | exact List.Sublist.refl _ | assumption | apply List.Sublist.cons_cons | apply List.Sublist.cons)) :
    Tri n (Exit.then (fun a w => (Ks.contains i = false → HpM M w0 cs0 w) ∧ wpAnyK P .any l.toArray (Exit.then F NoQ) (HpM M w0 cs0) Ks fuel listed a w) NoQ .normal) E (HpM M w0 cs) := fun a w h1 h2 => ⟨fun _ => h2.sub hs, k a w h1 h2⟩
theorem ak_ink [Dl] {i : Nat} (k : TK P n l (HpM M w0 cs0) Ks fuel listed F E (HpM M w0 cs)) (hs : Ks.contains i = true := by rfl) :
    Tri n (Exit.then (fun a w => (Ks.contains i = false → HpM M w0 cs0 w) ∧ wpAnyK P .any l.toArray (Exit.then F NoQ) (HpM M w0 cs0) Ks fuel listed a w) NoQ .normal) E (HpM M w0 cs) := fun a w h1 h2 => ⟨fun h => (by rw [hs] at h; cases h), k a w h1 h2⟩
theorem ak_weak [Dl] (cs' : List Chunk) (hs : cs'.Sublist cs) (k : TK P n l S Ks fuel listed F E (HpM M w0 cs')) : TK P n l S Ks fuel listed F E (HpM M w0 cs) := fun a w h1 h2 => k a w h1 (h2.sub hs)
theorem ak_done [Dl] (k : Tri n F E (HpM M w0 cs)) (hr : Region.ready .any l.toArray listed = [] := by kernel_rfl) : TK P n l (HpM M w0 cs0) Ks fuel listed F E (HpM M w0 cs) := fun a w h1 h2 => by
  cases fuel with
  | zero => exact ⟨hr, k a w h1 h2⟩
  | succ f => exact ⟨fun _ => k a w h1 h2, by rw [hr]; simp⟩
theorem tri_front [Dl] {c : Chunk} {ds : List Chunk} (i : Nat) (hi : At cs i c) (he : Nf (cs.eraseIdx i) ds) (k : Tri n F E (HpM M w0 (c :: ds))) : Tri n F E (HpM M w0 cs) := fun a w h1 h2 => k a w h1 (h2.front hi he)
end
end Go.Proofs.YtbgjelhefhcnpaaGreat

/- The walk of a page table's Check: a table that holds a tree has no error. No conditions. -/
set_option linter.unusedSimpArgs false
set_option linter.unusedVariables false
namespace Go.Proofs.YtbgjelhefhcnpaaGreat
open Go Go.RowKit
theorem led_all {root : Int} {T : Tr} {ns : List ND} {ds : List DP} (h : PtOk root T ns ds) {j : Nat} (hj : j < ns.length) : (ledV ns (tV root T 8)).getD j default = true := by
  rw [led_at hj, tV_eq]
  refine decide_eq_true ?_
  rw [List.mem_reverse]
  refine List.mem_map.2 ⟨ns.getD j default, h.n.mem_iff.1 ?_, rfl⟩
  rw [getD_get hj]
  exact List.getElem_mem hj
theorem led_none (ns : List ND) : ledV ns [] = List.replicate ns.length false := by
  unfold ledV
  rw [List.map_eq_replicate_iff]
  intro x _
  exact decide_eq_false (by simp)
theorem legH_eq (g : Int) (s : Leg) (l : List Int) : legH g s l = l ++ (subD g s).map DP.g := by
  cases s with
  | no => exact (List.append_nil _).symm
  | huge w f => rfl
  | leaf f e => exact (List.append_nil _).symm
theorem mH_eq (m : Mid) (g : Int) (l : List Int) : mH m g l 8 = l ++ (all8.flatMap fun j => subD (g + j.val) (m.s j)).map DP.g := by
  have h : mH m g l 8 = legH (g + (7 : Nat)) (m.s 7) (legH (g + (6 : Nat)) (m.s 6) (legH (g + (5 : Nat)) (m.s 5) (legH (g + (4 : Nat)) (m.s 4) (legH (g + (3 : Nat)) (m.s 3) (legH (g + (2 : Nat)) (m.s 2) (legH (g + (1 : Nat)) (m.s 1) (legH (g + (0 : Nat)) (m.s 0) l))))))) := rfl
  rw [h]
  simp only [legH_eq, all8, List.flatMap_cons, List.flatMap_nil, List.map_append, List.append_assoc, List.map_nil, List.append_nil]
  rfl
theorem optH_eq (i : Fin 8) (o : Option Mid) (l : List Int) : optH (8 * ((i.val : Nat) : Int)) o l = l ++ (optD i o).map DP.g := by
  cases o with
  | none => exact (List.append_nil _).symm
  | some m => exact mH_eq m _ l
theorem tH_eq (T : Tr) : tH T 8 = (depsT T).map DP.g := by
  have h : tH T 8 = optH (8 * (((7 : Fin 8).val : Nat) : Int)) (T 7) (optH (8 * (((6 : Fin 8).val : Nat) : Int)) (T 6) (optH (8 * (((5 : Fin 8).val : Nat) : Int)) (T 5) (optH (8 * (((4 : Fin 8).val : Nat) : Int)) (T 4) (optH (8 * (((3 : Fin 8).val : Nat) : Int)) (T 3) (optH (8 * (((2 : Fin 8).val : Nat) : Int)) (T 2) (optH (8 * (((1 : Fin 8).val : Nat) : Int)) (T 1) (optH (8 * (((0 : Fin 8).val : Nat) : Int)) (T 0) []))))))) := rfl
  rw [h]
  simp only [optH_eq, depsT, all8, List.flatMap_cons, List.flatMap_nil, List.map_append, List.append_assoc, List.map_nil, List.append_nil, List.nil_append]
theorem nodes_len (root : Int) (T : Tr) : (nodesT root T).length ≤ 73 := by
  have hs : ∀ s : Leg, (subN s).length ≤ 1 := fun s => by cases s <;> simp [subN]
  have hm : ∀ o : Option Mid, (optN o).length ≤ 9 := fun o => by
    cases o with
    | none => simp [optN]
    | some m =>
      have h0 := hs (m.s 0); have h1 := hs (m.s 1); have h2 := hs (m.s 2); have h3 := hs (m.s 3); have h4 := hs (m.s 4); have h5 := hs (m.s 5); have h6 := hs (m.s 6); have h7 := hs (m.s 7)
      simp only [optN, midN, all8, List.flatMap_cons, List.flatMap_nil, List.length_cons, List.length_append, List.length_nil]
      omega
  have h0 := hm (T 0); have h1 := hm (T 1); have h2 := hm (T 2); have h3 := hm (T 3); have h4 := hm (T 4); have h5 := hm (T 5); have h6 := hm (T 6); have h7 := hm (T 7)
  simp only [nodesT, all8, List.flatMap_cons, List.flatMap_nil, List.length_cons, List.length_append, List.length_nil]
  omega
theorem deps_len (T : Tr) : (depsT T).length ≤ 64 := by
  have := tH_len T 8
  rw [tH_eq, List.length_map] at this
  exact this
theorem PtOk.nlen {root : Int} {T : Tr} {ns : List ND} {ds : List DP} (h : PtOk root T ns ds) : ns.length ≤ 73 := by rw [h.n.length_eq]; exact nodes_len root T
theorem PtOk.dlen {root : Int} {T : Tr} {ns : List ND} {ds : List DP} (h : PtOk root T ns ds) : ds.length ≤ 64 := by rw [h.d]; exact deps_len T
attribute [local irreducible] decR ixL suitM ledV tH tV
attribute [local irreducible] Code.wp wpList bodyPost Exit.then Exit.inBlock Calls wpQuiet Tri TriQ
section
variable (w0 : World) (cs : List Chunk)
theorem idxB_c {v : Value} {l : List Bool} (hR : RdH (Hp w0 cs) v l) (hl : l.length ≤ 1000000) (ht : ∀ j, j < l.length → l.getD j default = true) :
    Cal Tryz.prog 87 [v, .bool false] (Hp w0 cs) (fun _ : Unit => .int .i64 (-1)) (fun _ => Hp w0 cs) := by
  refine cal_of_tri Tryz.func87 rfl Tryz.ntmps87 rfl ?_
  (repeat (first | refine tri_seq ?_ | refine tri_then ?_)); refine tri_region ?_; (repeat (first | refine au_pure ?_ | refine au_pass ?_ | refine au_box (fun _ => ?_) | refine au_alloc (fun _ => ?_) | refine au_store ?_ | refine au_make rfl rfl (fun _ => ?_) | refine au_lit rfl rfl rfl (fun _ => ?_) | refine au_append rfl rfl rfl rfl (fun _ => au_norm ?_) | refine au_storeE rfl rfl rfl rfl ?_)); refine tri_nil ?_; (repeat refine tri_then ?_)
  (repeat (first | refine zz ?_ | refine zv fun _ => ?_))
  refine au_pure ?_ (hy := yl_len rfl rfl hR)
  (repeat (first | refine zz ?_ | refine zv fun _ => ?_))
  refine tri_block ?_
  refine tri_loop1 (fun (k : Nat) => k ≤ l.length) (fun k => [(0, v), (1, .bool false), (7, .int .i64 (l.length : Int)), (8, .int .i64 (k : Int))]) (fun _ => Hp w0 cs) (fun k => l.length - k) 0 (by omega) (by repeat (first | exact trivial | refine ⟨rfl, ?_⟩)) (fun _ h => h) ?_
  intro k hk
  (repeat (first | refine zz ?_ | refine zv fun _ => ?_))
  ((first | refine tri_cond (by rfl) (fun hc => ?_) (fun hc => ?_) | refine tri_gsplit (by rfl) (by rfl) (by (fail_if_success exact (rfl : _ = some (Value.bool true))); (fail_if_success exact (rfl : _ = some (Value.bool false))); rfl) (fun hc => ?_) (fun hc => ?_)) <;> (try simp only [decide_eq_true_eq, decide_eq_false_iff_not, beq_iff_eq, bne_iff_ne, ne_eq, Bool.not_eq_true', Bool.not_eq_false', beq_eq_false_iff_ne, bne_eq_false_iff_eq, Int.not_lt, Int.not_le, gt_iff_lt, ge_iff_le, Bool.and_eq_true, Bool.or_eq_true, Bool.and_eq_false_iff, Bool.or_eq_false_iff, Decidable.not_not, not_true_eq_false, not_false_eq_true, and_true, true_and, or_false, false_or, or_true, true_or, and_false, false_and, eq_self, Bool.true_eq_false, Bool.false_eq_true] at hc) <;> (try (exfalso; omega)))
  case refine_1 =>
    have htk := ht k (by omega)
    (repeat (first | refine zz ?_ | refine zv fun _ => ?_))
    refine tri_block ?_
    (repeat (first | refine zz ?_ | refine zv fun _ => ?_))
    refine au_pure ?_ (hy := yl_idx (k := k) rfl rfl hR (ix_nat rfl) (by rfl) (by omega))
    refine au_pure ?_ (hy := yl_loadE rfl rfl hR (by rfl) (by omega) (by rfl))
    rw [htk]
    refine au_pure ?_ (hy := yl_eqlb rfl rfl rfl)
    (repeat (first | refine zz ?_ | refine zv fun _ => ?_))
    exact tri_nx1 (k + 1) (by omega) (by omega) (by repeat (first | exact trivial | refine ⟨rfl, ?_⟩)) (fun _ h => h)
  (repeat (first | refine zz ?_ | refine zv fun _ => ?_))
  refine au_done1 rfl ?_
  exact fun w hw => ⟨(), rfl, hw⟩
theorem conB_c {v : Value} {l : List Bool} (hR : RdH (Hp w0 cs) v l) (hl : l.length ≤ 1000000) (ht : ∀ j, j < l.length → l.getD j default = true) :
    Cal Tryz.prog 59 [v, .bool false] (Hp w0 cs) (fun _ : Unit => .bool false) (fun _ => Hp w0 cs) := by
  refine cal_of_tri Tryz.func59 rfl Tryz.ntmps59 rfl ?_
  (repeat (first | refine tri_seq ?_ | refine tri_then ?_)); refine tri_region ?_; (repeat (first | refine au_pure ?_ | refine au_pass ?_ | refine au_box (fun _ => ?_) | refine au_alloc (fun _ => ?_) | refine au_store ?_ | refine au_make rfl rfl (fun _ => ?_) | refine au_lit rfl rfl rfl (fun _ => ?_) | refine au_append rfl rfl rfl rfl (fun _ => au_norm ?_) | refine au_storeE rfl rfl rfl rfl ?_)); refine tri_nil ?_; (repeat refine tri_then ?_)
  (repeat (first | refine zz ?_ | refine zv fun _ => ?_))
  refine au_callC rfl rfl rfl rfl rfl (idxB_c w0 cs hR hl ht) (fun _ => ?_)
  (repeat (first | refine zz ?_ | refine zv fun _ => ?_))
  refine au_done1 rfl ?_
  exact fun w hw => ⟨(), rfl, hw⟩
set_option maxHeartbeats 2000000 in
theorem Check_c {root : Int} {T : Tr} {vn vd : Value} {ns : List ND} {ds : List DP} (h : PtOk root T ns ds) (hN : RdH (Hp w0 cs) vn ns) (hD : RdH (Hp w0 cs) vd ds) :
    Cal Tryz.prog 17 [ptV root vn vd] (Hp w0 cs) (fun _ : Unit => .int .i64 0) (fun _ => Hp w0 cs) := by
  have hnl := h.nlen
  have hdl := h.dlen
  obtain ⟨k0, h01, h02, h03, h04⟩ := h.pl (root_mem root T)
  have h04 : aGet (ixL ns ns.length) root = some (k0 : Int) := h04
  have htl : (tH T 8).length = ds.length := by rw [tH_eq, List.length_map, h.d]
  refine cal_of_tri Tryz.func17 rfl Tryz.ntmps17 rfl ?_
  (repeat (first | refine tri_seq ?_ | refine tri_then ?_)); refine tri_region ?_; (repeat (first | refine au_pure ?_ | refine au_pass ?_ | refine au_box (fun _ => ?_) | refine au_alloc (fun _ => ?_) | refine au_store ?_ | refine au_make rfl rfl (fun _ => ?_) | refine au_lit rfl rfl rfl (fun _ => ?_) | refine au_append rfl rfl rfl rfl (fun _ => au_norm ?_) | refine au_storeE rfl rfl rfl rfl ?_)); refine tri_nil ?_; (repeat refine tri_then ?_)
  rename_i g1
  refine tri_weak (H' := Hp w0 (ptC g1 root vn vd :: cs)) (fun w h => h) ?_
  have hN1 := hN.cons (c := ptC g1 root vn vd)
  have hD1 := hD.cons (c := ptC g1 root vn vd)
  (repeat (first | refine zz ?_ | refine zv fun _ => ?_))
  refine au_callC rfl rfl rfl rfl rfl (numbers_c w0 _ (vd := vd) h hN1 hD1 (by omega) (by omega)) (fun _ => ?_)
  (repeat (first | refine zz ?_ | refine zv fun _ => ?_))
  refine au_callC rfl rfl rfl rfl rfl (index_c w0 _ (root := root) (vd := vd) hN1 (by omega)) ?_
  intro bm
  (repeat (first | refine zz ?_ | refine zv fun _ => ?_))
  rename_i g4
  refine au_pure ?_ (hy := yl_len rfl rfl hN1.cons.cons)
  refine au_make (α := Bool) (k := ns.length) (c := ns.length) rfl rfl (fun rl => ?_)
  refine tri_nilrow Int 3 ?_
  (repeat (first | refine zz ?_ | refine zv fun _ => ?_))
  rename_i g5 g6 g7
  refine au_pure ?_ (hy := yl_func rfl rfl)
  (repeat (first | refine zz ?_ | refine zv fun _ => ?_))
  refine tri_front 3 rfl (by repeat (first | exact nf0 rfl | apply nfS rfl | exact nfR)) ?_
  refine tri_front 2 rfl (by repeat (first | exact nf0 rfl | apply nfS rfl | exact nfR)) ?_
  refine tri_front 4 rfl (by repeat (first | exact nf0 rfl | apply nfS rfl | exact nfR)) ?_
  refine tri_weak (H' := Hp w0 (ckC g1 g4 g5 g6 g7 bm root vn vd ns rl (Row.nil w0.heap.size) (ledV ns []) [] cs)) (fun w h => by rw [led_none]; exact h) ?_
  (repeat (first | refine zz ?_ | refine zv fun _ => ?_))
  refine au_pure ?_ (hy := yl_look (β := Int) rfl rfl rfl (by first | (apply has_at; (repeat (first | exact at0 | apply atS)); done) | (repeat (first | assumption | apply has_cons))))
  rw [h04]
  (repeat (first | refine zz ?_ | refine zv fun _ => ?_))
  refine au_callC rfl rfl rfl rfl rfl (walk2_c w0 cs (g1 := g1) (g4 := g4) (g5 := g5) (g6 := g6) (g7 := g7) (bm := bm) (vd := vd) (rl := rl) (rh := Row.nil w0.heap.size) h hN h02 h03) ?_
  intro rh
  (repeat (first | refine zz ?_ | refine zv fun _ => ?_))
  refine au_callC rfl rfl rfl rfl rfl (conB_c w0 _ (v := rl.v) (l := ledV ns (tV root T 8)) (rd_chunk ⟨0, rfl⟩) (by rw [led_len]; omega) (fun j hj => led_all h (by rw [led_len] at hj; exact hj))) (fun _ => ?_)
  (repeat (first | refine zz ?_ | refine zv fun _ => ?_))
  refine au_pure ?_ (hy := yl_len rfl rfl (rd_chunk (r := rh) (l := tH T 8) ⟨2, rfl⟩))
  have hD2 : RdH (Hp w0 (ckC g1 g4 g5 g6 g7 bm root vn vd ns rl rh (ledV ns (tV root T 8)) (tH T 8) cs)) vd ds := hD.cons.cons.cons.cons.cons.cons.cons.cons
  (repeat (first | refine zz ?_ | refine zv fun _ => ?_))
  refine au_pure ?_ (hy := yl_len rfl rfl hD2)
  rw [htl]
  (repeat (first | refine zz ?_ | refine zv fun _ => ?_))
  rw [show ((ds.length : Int) != (ds.length : Int)) = false by simp]
  (repeat (first | refine zz ?_ | refine zv fun _ => ?_))
  refine au_pure ?_ (hy := yl_len rfl rfl hD2)
  (repeat (first | refine zz ?_ | refine zv fun _ => ?_))
  refine tri_block ?_
  refine tri_loop1 (fun (i : Nat) => i ≤ ds.length) (fun i => [(6, pR g6), (42, vd), (43, .int .i64 (ds.length : Int)), (44, .int .i64 (i : Int))]) (fun _ => Hp w0 (ckC g1 g4 g5 g6 g7 bm root vn vd ns rl rh (ledV ns (tV root T 8)) (tH T 8) cs)) (fun i => ds.length - i) 0 (by omega) (by repeat (first | exact trivial | refine ⟨rfl, ?_⟩)) (fun w h => h) ?_
  intro i hi
  (repeat (first | refine zz ?_ | refine zv fun _ => ?_))
  ((first | refine tri_cond (by rfl) (fun hc => ?_) (fun hc => ?_) | refine tri_gsplit (by rfl) (by rfl) (by (fail_if_success exact (rfl : _ = some (Value.bool true))); (fail_if_success exact (rfl : _ = some (Value.bool false))); rfl) (fun hc => ?_) (fun hc => ?_)) <;> (try simp only [decide_eq_true_eq, decide_eq_false_iff_not, beq_iff_eq, bne_iff_ne, ne_eq, Bool.not_eq_true', Bool.not_eq_false', beq_eq_false_iff_ne, bne_eq_false_iff_eq, Int.not_lt, Int.not_le, gt_iff_lt, ge_iff_le, Bool.and_eq_true, Bool.or_eq_true, Bool.and_eq_false_iff, Bool.or_eq_false_iff, Decidable.not_not, not_true_eq_false, not_false_eq_true, and_true, true_and, or_false, false_or, or_true, true_or, and_false, false_and, eq_self, Bool.true_eq_false, Bool.false_eq_true] at hc) <;> (try (exfalso; omega)))
  case refine_1 =>
    have hgi : (tH T 8).getD i default = (ds.getD i default).g := by
      have hib : i < (tH T 8).length := by omega
      rw [getD_get hib, getD_get (by omega)]
      simp only [tH_eq, List.getElem_map, ← h.d]
    (repeat (first | refine zz ?_ | refine zv fun _ => ?_))
    refine tri_block ?_
    (repeat (first | refine zz ?_ | refine zv fun _ => ?_))
    refine au_pure ?_ (hy := yl_idx (k := i) rfl rfl hD2 (ix_nat rfl) (by rfl) (by omega))
    refine au_pure ?_ (hy := yl_loadEN rfl rfl hD2 (by rfl) (by omega) (by repeat (first | exact nf0 rfl | apply nfS rfl | exact nfR)) (by rfl))
    (repeat (first | refine zz ?_ | refine zv fun _ => ?_))
    rename_i g9
    refine tri_weak (H' := Hp w0 (dpE g9 (ds.getD i default) :: ckC g1 g4 g5 g6 g7 bm root vn vd ns rl rh (ledV ns (tV root T 8)) (tH T 8) cs)) (fun w h => h) ?_
    (repeat (first | refine zz ?_ | refine zv fun _ => ?_))
    (repeat (first | refine tri_seq ?_ | refine tri_then ?_))
    refine au_draw rfl ?_
    (repeat (first | refine z1 ?_ | refine au_qpass rfl rfl ?_ | refine triq_nil ?_))
    refine au_qpure rfl rfl ?_ (hy := yl_idx (k := i) rfl rfl (rd_chunk (r := rh) (l := tH T 8) ⟨3, rfl⟩) (ix_nat rfl) (by rfl) (by omega))
    refine au_qpure rfl rfl ?_ (hy := yl_loadE rfl rfl (rd_chunk (r := rh) (l := tH T 8) ⟨3, rfl⟩) (by rfl) (by omega) (by rfl))
    rw [hgi]
    (repeat (first | refine z1 ?_ | refine au_qpass rfl rfl ?_ | refine triq_nil ?_))
    rw [show ((ds.getD i default).g != (ds.getD i default).g) = false by simp]
    (repeat (first | refine zz ?_ | refine zv fun _ => ?_))
    exact tri_nx1 (i + 1) (by omega) (by omega) (by repeat (first | exact trivial | refine ⟨rfl, ?_⟩)) (fun w h => h.sub (List.Sublist.cons _ (List.Sublist.refl _)))
  (repeat (first | refine zz ?_ | refine zv fun _ => ?_))
  refine au_done1 rfl ?_
  exact fun w hw => ⟨(), rfl, hw.sub (by repeat (first | exact List.Sublist.refl _ | assumption | apply List.Sublist.cons_cons | apply List.Sublist.cons))⟩
end
end Go.Proofs.YtbgjelhefhcnpaaGreat
