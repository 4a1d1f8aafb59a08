/- Texts joined: SeqR, PtPut, PtFresh. Each part's own remark says what it proves. -/
import Derived.Test.YtbgjelhefhcnpaaGreatM16
import Derived.Test.YtbgjelhefhcnpaaGreatM17
import Derived.Test.YtbgjelhefhcnpaaGreatM18
/- A region that draws its order, once more: what only reads memory is taken first, what reads none at any time; the operations in Ks may end what the first ones read. No conditions. -/
set_option linter.unusedSimpArgs false
set_option linter.unusedVariables false
namespace Go.Proofs.YtbgjelhefhcnpaaGreat
open Go Go.RowKit
section
variable {P : Program} {ops : Array Oper} {Q : Exit → Act → World → Prop} {md : Region.Mode} {S : World → Prop} {Ks : List Nat}
def wpAnyR (P : Program) (md : Region.Mode) (ops : Array Oper) (Q : Exit → Act → World → Prop) (S : World → Prop) (Ks : List Nat) : Nat → Array Bool → Act → World → Prop
  | 0, listed, a, w => Region.ready md ops listed = [] ∧ Q .normal a w
  | fuel + 1, listed, a, w => (Region.ready md ops listed = [] → Q .normal a w) ∧
    ∀ i ∈ Region.ready md ops listed, wpOp P ops Q i (fun a' w' => (Ks.contains i = false → S w → S w') ∧ wpAnyR P md ops Q S Ks fuel (listed.setIfInBounds i true) a' w') a w
theorem wpAny_of_r : ∀ (fuel : Nat) (listed : Array Bool) (a : Act) (w : World), wpAnyR P md ops Q S Ks fuel listed a w → wpAny P md ops Q fuel listed a w
  | 0, _, _, _, h => h
  | fuel + 1, _, _, _, h => ⟨h.1, fun i hi => wpOp_mono (fun a' w' h' => wpAny_of_r fuel _ a' w' h'.2) (h.2 i hi)⟩
theorem wpAnyR_first {i : Nat} {oi : Oper} {v : Value} (hi : ops[i]? = some oi) (hsel : ∀ (j : Nat) (o : Oper) cs b, ops[j]? = some o → o.op ≠ .select cs b)
    (hQ : ∀ c a w, Q (.panic c) (a.put oi.dst v) w → Q (.panic c) a w) (hK : ∀ k, Ks.contains k = true → waitsT md ops i ops.size k = true) (hiK : Ks.contains i = false) :
    ∀ (fuel : Nat) (listed : Array Bool) (a : Act) (w : World), Closed md ops listed →
      (∀ j oj, ops[j]? = some oj → j ≠ i → listed.getD j true = false → (∀ e ∈ oj.after, Region.binds md e = true → e.on ≠ i) → oi.apart ops oj = true) →
      i ∈ Region.ready md ops listed → YieldsIf P ops S oi v a → S w →
      wpAnyR P md ops Q S Ks fuel (listed.setIfInBounds i true) (a.put oi.dst v) w → wpAnyR P md ops Q S Ks (fuel + 1) listed a w := by
  intro fuel
  induction fuel with
  | zero =>
    intro listed a w _ _ hr hy hS H
    refine ⟨fun h => (by rw [h] at hr; cases hr), fun j hj => ?_⟩
    by_cases hji : j = i
    · subst hji; exact hy.wpOp hi hS ⟨fun _ h => h, H⟩
    · have := ready_mono hj hji
      rw [H.1] at this
      cases this
  | succ fuel ih =>
    intro listed a w hcl hfree hr hy hS H
    refine ⟨fun h => (by rw [h] at hr; cases hr), fun j hj => ?_⟩
    by_cases hji : j = i
    · subst hji; exact hy.wpOp hi hS ⟨fun _ h => h, H⟩
    · have h1 := H.2 j (ready_mono hj hji)
      obtain ⟨hjun, oj, hoj, hall⟩ := mem_ready.1 hj
      have hnot : ∀ e ∈ oj.after, Region.binds md e = true → e.on ≠ i := fun e he hb heq => by
        have h1 := hall e he hb
        have h0 := (mem_ready.1 hr).1
        rw [heq] at h1
        rcases Nat.lt_or_ge i listed.size with h' | h'
        · simp [h'] at h0 h1; rw [h0] at h1; cases h1
        · simp [Array.getElem?_eq_none h'] at h1
      have hjK : Ks.contains j = false := by
        cases hc : Ks.contains j
        · rfl
        · have hw := waitsT_in hcl _ j oj hoj hall (hK j hc)
          have h0 := (mem_ready.1 hr).1
          rcases Nat.lt_or_ge i listed.size with h' | h'
          · simp [h'] at h0 hw; rw [h0] at hw; cases hw
          · simp [Array.getElem?_eq_none h'] at hw
      have hcl' : Closed md ops (listed.setIfInBounds j true) := fun k ok hk hok e he hb => by
        by_cases hjk : j = k
        · subst hjk
          rw [hoj] at hok
          cases hok
          exact getD_set_true (hall e he hb)
        · rw [getD_set_ne false hjk] at hk
          exact getD_set_true (hcl k ok hk hok e he hb)
      have h2 := wpOp_putIf hoj (hfree j oj hoj hji hjun hnot) (fun cs b => hsel i oi cs b hi) (fun cs b => hsel j oj cs b hoj) hQ hy h1
      have hfree' : ∀ k ok, ops[k]? = some ok → k ≠ i → (listed.setIfInBounds j true).getD k true = false →
          (∀ e ∈ ok.after, Region.binds md e = true → e.on ≠ i) → oi.apart ops ok = true := fun k ok hk hki hun hno => by
        refine hfree k ok hk hki ?_ hno
        by_cases hjk : j = k
        · subst hjk; exact hjun
        · rw [getD_set_ne true hjk] at hun; exact hun
      refine wpOp_mono (fun a' w' h3 => ⟨fun _ _ => h3.2.1 hjK hS, ih (listed.setIfInBounds j true) a' w' hcl' hfree' (ready_mono hr (Ne.symm hji)) h3.1 (h3.2.1 hjK hS) ?_⟩) h2
      rw [Array.setIfInBounds_comm _ _ hji]
      exact h3.2.2
theorem wpAnyR_free {i : Nat} {oi : Oper} {v : Value} (hi : ops[i]? = some oi) (hsel : ∀ (j : Nat) (o : Oper) cs b, ops[j]? = some o → o.op ≠ .select cs b)
    (hQ : ∀ c a w, Q (.panic c) (a.put oi.dst v) w → Q (.panic c) a w) :
    ∀ (fuel : Nat) (listed : Array Bool) (a : Act) (w : World), Closed md ops listed →
      (∀ j oj, ops[j]? = some oj → j ≠ i → listed.getD j true = false → (∀ e ∈ oj.after, Region.binds md e = true → e.on ≠ i) → oi.apart ops oj = true) →
      i ∈ Region.ready md ops listed → YieldsIf P ops (fun _ => True) oi v a →
      wpAnyR P md ops Q S Ks fuel (listed.setIfInBounds i true) (a.put oi.dst v) w → wpAnyR P md ops Q S Ks (fuel + 1) listed a w := by
  intro fuel
  induction fuel with
  | zero =>
    intro listed a w _ _ hr hy H
    refine ⟨fun h => (by rw [h] at hr; cases hr), fun j hj => ?_⟩
    by_cases hji : j = i
    · subst hji; exact hy.wpOp hi trivial ⟨fun _ h => h, H⟩
    · have := ready_mono hj hji
      rw [H.1] at this
      cases this
  | succ fuel ih =>
    intro listed a w hcl hfree hr hy H
    refine ⟨fun h => (by rw [h] at hr; cases hr), fun j hj => ?_⟩
    by_cases hji : j = i
    · subst hji; exact hy.wpOp hi trivial ⟨fun _ h => h, H⟩
    · have h1 := H.2 j (ready_mono hj hji)
      obtain ⟨hjun, oj, hoj, hall⟩ := mem_ready.1 hj
      have hnot : ∀ e ∈ oj.after, Region.binds md e = true → e.on ≠ i := fun e he hb heq => by
        have h1 := hall e he hb
        have h0 := (mem_ready.1 hr).1
        rw [heq] at h1
        rcases Nat.lt_or_ge i listed.size with h' | h'
        · simp [h'] at h0 h1; rw [h0] at h1; cases h1
        · simp [Array.getElem?_eq_none h'] at h1
      have hcl' : Closed md ops (listed.setIfInBounds j true) := fun k ok hk hok e he hb => by
        by_cases hjk : j = k
        · subst hjk
          rw [hoj] at hok
          cases hok
          exact getD_set_true (hall e he hb)
        · rw [getD_set_ne false hjk] at hk
          exact getD_set_true (hcl k ok hk hok e he hb)
      have h2 := wpOp_putIf hoj (hfree j oj hoj hji hjun hnot) (fun cs b => hsel i oi cs b hi) (fun cs b => hsel j oj cs b hoj) hQ hy h1
      have hfree' : ∀ k ok, ops[k]? = some ok → k ≠ i → (listed.setIfInBounds j true).getD k true = false →
          (∀ e ∈ ok.after, Region.binds md e = true → e.on ≠ i) → oi.apart ops ok = true := fun k ok hk hki hun hno => by
        refine hfree k ok hk hki ?_ hno
        by_cases hjk : j = k
        · subst hjk; exact hjun
        · rw [getD_set_ne true hjk] at hun; exact hun
      refine wpOp_mono (fun a' w' h3 => ⟨h3.2.1, ih (listed.setIfInBounds j true) a' w' hcl' hfree' (ready_mono hr (Ne.symm hji)) h3.1 ?_⟩) h2
      rw [Array.setIfInBounds_comm _ _ hji]
      exact h3.2.2
end
def TR [Dl] (P : Program) (n : Nat) (l : List Oper) (S : World → Prop) (Ks : List Nat) (fuel : Nat) (listed : Array Bool) (F : Act → World → Prop) (E : Env) (H : World → Prop) : Prop := ∀ a w, FrOk n E a → H w → wpAnyR P .any l.toArray (Exit.then F NoQ) S Ks fuel listed a w
section
variable {M : List Nat} {P : Program} {n d : Nat} {Q : Exit → Act → World → Prop} {F : Act → World → Prop} {l : List Oper} {o : Oper} {E : Env} {H S : World → Prop} {w0 : World} {cs cs0 : List Chunk} {v : Value} {fuel : Nat} {listed : Array Bool} {Ks : List Nat}
theorem ar_held [Dl] (Ks : List Nat) (cs0 : List Chunk) {id : Nat} (hm : P.follows .mixedOrders = true) (k : TR P n l (HpM M w0 cs0) Ks l.length (Array.replicate l.length false) (Q .normal) E (HpM M w0 cs)) : Tri n ((Code.region id l.toArray true).wp P Q) E (HpM M w0 cs) := fun a w h1 h2 => by
  refine wp_mono (Q := Exit.then (Q .normal) NoQ) (wp_region_any hm (wpAny_of_r _ _ _ _ (k a _ h1 h2.drawn))) fun e a' w' q => ?_
  cases e with
  | normal => exact q
  | exit id => exact q.elim
  | goto l => exact q.elim
  | ret => exact q.elim
  | panic ch => exact q.elim
  | outgrown => exact q.elim
theorem ar_take [Dl] (i : Nat) (hi : l[i]? = some o) (hd : o.dst = some d) (hn : Nat.blt d n = true) (k : TR P n l (HpM M w0 cs0) Ks fuel (listed.setIfInBounds i true) F ((d, v) :: E) (HpM M w0 cs)) (hns : Region.noSelect l.toArray = true := by kernel_rfl) (hf : Region.free .any l.toArray listed i = true := by kernel_rfl) (hr : (Region.ready .any l.toArray listed).contains i = true := by kernel_rfl)
    (hK : (Ks.all fun k => waitsT .any l.toArray i l.toArray.size k) = true := by kernel_rfl) (hcl : closedB .any l.toArray listed = true := by kernel_rfl) (hiK : Ks.contains i = false := by rfl) (hs : cs0.Sublist cs := by repeat (first | exact List.Sublist.refl _ | assumption | apply List.Sublist.cons_cons | apply List.Sublist.cons)) (hw : Wan l n o E true := by first | exact wan_plain rfl | exact wan_yes rfl rfl rfl) (hy : Yl P n o E (HpM M w0 cs0) v := by first | exact yl_mv rfl rfl | exact yl_field rfl rfl | exact yl_load rfl rfl (by first | (apply has_at; (repeat (first | exact at0 | apply atS)); done) | (repeat (first | assumption | apply has_cons))) rfl | exact yl_addn rfl rfl rfl (by omega) | exact yl_subn rfl rfl rfl (by omega) | exact yl_int2 rfl rfl rfl rfl | exact yl_pick_t rfl rfl rfl | exact yl_pick_f rfl rfl rfl | exact yl_not rfl rfl | exact yl_ext rfl rfl rfl | exact yl_loadN rfl rfl (by first | (apply has_at; (repeat (first | exact at0 | apply atS)); done) | (repeat (first | assumption | apply has_cons))) (by repeat (first | exact nf0 rfl | apply nfS rfl | exact nfR)) (by rfl) | exact yl_build rfl rfl rfl (by repeat (first | exact nf0 rfl | apply nfS rfl | exact nfR)) | exact yl_shl rfl rfl rfl (by decide) | exact yl_shr rfl rfl rfl (by decide) | exact yl_convn rfl rfl (by omega) | exact yl_conv rfl rfl | exact yl_remn rfl rfl rfl (by omega) | exact yl_quon rfl rfl rfl (by omega) | exact yl_eqs rfl rfl rfl | exact yl_neqs rfl rfl rfl | exact yl_eqlb rfl rfl rfl | exact yl_neqb rfl rfl rfl | exact yl_neg rfl rfl | exact yl_len rfl rfl (by repeat (first | assumption | exact rd_chunk (by first | (apply has_at; (repeat (first | exact at0 | apply atS)); done) | (repeat (first | assumption | apply has_cons))) | apply RdH.cons | refine RdH.cut ?_ rfl (by omega) (by omega))) | exact yl_idx rfl rfl (by repeat (first | assumption | exact rd_chunk (by first | (apply has_at; (repeat (first | exact at0 | apply atS)); done) | (repeat (first | assumption | apply has_cons))) | apply RdH.cons | refine RdH.cut ?_ rfl (by omega) (by omega))) (by first | exact ix_nat rfl | exact ix_int rfl (by omega)) (by rfl) (by first | assumption | omega | decide | (simp only [List.length_set, List.length_append, List.length_replicate, List.length_cons, List.length_nil, List.length_drop, List.length_take] at *; omega)) | exact yl_fieldE rfl rfl | exact yl_loadE rfl rfl (by repeat (first | assumption | exact rd_chunk (by first | (apply has_at; (repeat (first | exact at0 | apply atS)); done) | (repeat (first | assumption | apply has_cons))) | apply RdH.cons | refine RdH.cut ?_ rfl (by omega) (by omega))) (by rfl) (by first | assumption | omega | decide | (simp only [List.length_set, List.length_append, List.length_replicate, List.length_cons, List.length_nil, List.length_drop, List.length_take] at *; omega)) (by rfl) | exact yl_loadEN rfl rfl (by repeat (first | assumption | exact rd_chunk (by first | (apply has_at; (repeat (first | exact at0 | apply atS)); done) | (repeat (first | assumption | apply has_cons))) | apply RdH.cons | refine RdH.cut ?_ rfl (by omega) (by omega))) (by rfl) (by first | assumption | omega | decide | (simp only [List.length_set, List.length_append, List.length_replicate, List.length_cons, List.length_nil, List.length_drop, List.length_take] at *; omega)) (by repeat (first | exact nf0 rfl | apply nfS rfl | exact nfR)) (by rfl) | exact yl_nilchk rfl rfl | exact yl_nilchkE rfl rfl | exact yl_eqnil rfl rfl rfl (by repeat (first | assumption | exact rd_chunk (by first | (apply has_at; (repeat (first | exact at0 | apply atS)); done) | (repeat (first | assumption | apply has_cons))) | apply RdH.cons | refine RdH.cut ?_ rfl (by omega) (by omega))) | exact yl_neqnil rfl rfl rfl (by repeat (first | assumption | exact rd_chunk (by first | (apply has_at; (repeat (first | exact at0 | apply atS)); done) | (repeat (first | assumption | apply has_cons))) | apply RdH.cons | refine RdH.cut ?_ rfl (by omega) (by omega))) | exact yl_cut rfl rfl (by repeat (first | assumption | exact rd_chunk (by first | (apply has_at; (repeat (first | exact at0 | apply atS)); done) | (repeat (first | assumption | apply has_cons))) | apply RdH.cons | refine RdH.cut ?_ rfl (by omega) (by omega))) (by first | exact ixo_none | exact ixo_some (by first | exact ix_nat rfl | exact ix_int rfl (by omega))) (by first | exact ixo_none | exact ixo_some (by first | exact ix_nat rfl | exact ix_int rfl (by omega))) (by omega) (by omega) | exact yl_func rfl rfl) : TR P n l (HpM M w0 cs0) Ks (fuel + 1) listed F E (HpM M w0 cs) := fun a w h1 h2 =>
  wpAnyR_first (v := v) (by simpa using hi) (Region.noSelect_spec hns) (fun _ _ _ h => h.elim) (fun k hk => List.all_eq_true.1 hK k (List.contains_iff_mem.1 hk)) hiK fuel listed a w (closed_of hcl) (Region.free_spec (by simpa using hi) hf) (by simpa using hr) (.inl ⟨hw a h1, fun w' hw' => hy a w' h1 hw'⟩) (h2.sub hs) (by rw [hd]; exact k _ _ (h1.put hn v) h2)
theorem wpAnyR_passes {i : Nat} {oi : Oper} (hi : l[i]? = some oi) (hns : Region.noSelect l.toArray = true) (hf : Region.free .any l.toArray listed i = true) (hr : (Region.ready .any l.toArray listed).contains i = true) (hcl : closedB .any l.toArray listed = true) {Q : Exit → Act → World → Prop} (hQ : ∀ c a w, Q (.panic c) (a.put oi.dst undef) w → Q (.panic c) a w) {a : Act} {w : World}
    (hw : Region.wanted oi (yielded l.toArray a.tmps) = false) (H : wpAnyR P .any l.toArray Q S Ks fuel (listed.setIfInBounds i true) (a.put oi.dst undef) w) : wpAnyR P .any l.toArray Q S Ks (fuel + 1) listed a w :=
  wpAnyR_free (v := undef) (by simpa using hi) (Region.noSelect_spec hns) hQ fuel listed a w (closed_of hcl) (Region.free_spec (by simpa using hi) hf) (by simpa using hr) (.inr ⟨hw, rfl⟩) H
/-- An operation that is passed over. -/
theorem ar_pass [Dl] (i : Nat) (hi : l[i]? = some o) (hd : o.dst = some d) (hn : Nat.blt d n = true) (k : TR P n l S Ks fuel (listed.setIfInBounds i true) F ((d, undef) :: E) H) (hns : Region.noSelect l.toArray = true := by kernel_rfl) (hf : Region.free .any l.toArray listed i = true := by kernel_rfl) (hr : (Region.ready .any l.toArray listed).contains i = true := by kernel_rfl)
    (hcl : closedB .any l.toArray listed = true := by kernel_rfl) (hw : Wan l n o E false := by first | exact wan_no rfl rfl rfl | exact wan_un rfl rfl rfl) : TR P n l S Ks (fuel + 1) listed F E H := fun a w h1 h2 =>
  wpAnyR_passes hi hns hf hr hcl (fun _ _ _ h => h.elim) (hw a h1) (by rw [hd]; exact k _ _ (h1.put hn undef) h2)
/-- An operation that reads no memory. -/
theorem ar_free [Dl] (i : Nat) (hi : l[i]? = some o) (hd : o.dst = some d) (hn : Nat.blt d n = true) (k : TR P n l S Ks fuel (listed.setIfInBounds i true) F ((d, v) :: E) H) (hns : Region.noSelect l.toArray = true := by kernel_rfl) (hf : Region.free .any l.toArray listed i = true := by kernel_rfl) (hr : (Region.ready .any l.toArray listed).contains i = true := by kernel_rfl)
    (hcl : closedB .any l.toArray listed = true := by kernel_rfl) (hw : Wan l n o E true := by first | exact wan_plain rfl | exact wan_yes rfl rfl rfl) (hy : Yl P n o E (fun _ => True) v := by first | exact yl_mv rfl rfl | exact yl_nilchk rfl rfl | exact yl_field rfl rfl | exact yl_ext rfl rfl rfl) : TR P n l S Ks (fuel + 1) listed F E H := fun a w h1 h2 =>
  wpAnyR_free (v := v) (by simpa using hi) (Region.noSelect_spec hns) (fun _ _ _ h => h.elim) fuel listed a w (closed_of hcl) (Region.free_spec (by simpa using hi) hf) (by simpa using hr) (.inl ⟨hw a h1, fun w' hw' => hy a w' h1 hw'⟩) (by rw [hd]; exact k _ _ (h1.put hn v) h2)
theorem wpAnyR_all {rs : List Nat} {md : Region.Mode} {ops : Array Oper} {a : Act} {w : World} (hr : Region.ready md ops listed = rs) (hne : rs ≠ [])
    (h : ∀ i ∈ rs, wpOp P ops Q i (fun a' w' => (Ks.contains i = false → S w') ∧ wpAnyR P md ops Q S Ks fuel (listed.setIfInBounds i true) a' w') a w) : wpAnyR P md ops Q S Ks (fuel + 1) listed a w :=
  ⟨fun h0 => absurd (hr ▸ h0) hne, fun i hi => wpOp_mono (fun a' w' h' => ⟨fun hk _ => h'.1 hk, h'.2⟩) (h i (hr ▸ hi))⟩
theorem ar_op [Dl] (i : Nat) (hi : l[i]? = some o) (k : Tri n (wpList P l.toArray (Exit.then (fun a w => (Ks.contains i = false → HpM M w0 cs0 w) ∧ wpAnyR P .any l.toArray (Exit.then F NoQ) (HpM M w0 cs0) Ks fuel (listed.setIfInBounds i true) a w) NoQ) [o]) E (HpM M w0 cs)) (hr : Region.ready .any l.toArray listed = [i] := by kernel_rfl) :
    TR P n l (HpM M w0 cs0) Ks (fuel + 1) listed F E (HpM M w0 cs) := fun a w h1 h2 => wpAnyR_all hr (by simp) fun j hj => by
  have : j = i := by simpa using hj
  subst this
  exact wpop_ofk hi (k a w h1 h2)
theorem ar_in [Dl] {i : Nat} (k : TR P n l (HpM M w0 cs0) Ks fuel listed F E (HpM M w0 cs)) (hs : cs0.Sublist cs := by repeat (first | exact List.Sublist.refl _ | assumption | apply List.Sublist.cons_cons | apply List.Sublist.cons)) :
    Tri n (Exit.then (fun a w => (Ks.contains i = false → HpM M w0 cs0 w) ∧ wpAnyR P .any l.toArray (Exit.then F NoQ) (HpM M w0 cs0) Ks fuel listed a w) NoQ .normal) E (HpM M w0 cs) := fun a w h1 h2 => ⟨fun _ => h2.sub hs, k a w h1 h2⟩
theorem ar_ink [Dl] {i : Nat} (k : TR P n l (HpM M w0 cs0) Ks fuel listed F E (HpM M w0 cs)) (hs : Ks.contains i = true := by rfl) :
    Tri n (Exit.then (fun a w => (Ks.contains i = false → HpM M w0 cs0 w) ∧ wpAnyR P .any l.toArray (Exit.then F NoQ) (HpM M w0 cs0) Ks fuel listed a w) NoQ .normal) E (HpM M w0 cs) := fun a w h1 h2 => ⟨fun h => (by rw [hs] at h; cases h), k a w h1 h2⟩
theorem ar_done [Dl] (k : Tri n F E (HpM M w0 cs)) (hr : Region.ready .any l.toArray listed = [] := by kernel_rfl) : TR P n l (HpM M w0 cs0) Ks fuel listed F E (HpM M w0 cs) := fun a w h1 h2 => by
  cases fuel with
  | zero => exact ⟨hr, k a w h1 h2⟩
  | succ f => exact ⟨fun _ => k a w h1 h2, by rw [hr]; simp⟩
end
end Go.Proofs.YtbgjelhefhcnpaaGreat

/- The walks of a page table's put, add, clone, fresh. No conditions. -/
set_option linter.unusedSimpArgs false
set_option linter.unusedVariables false
namespace Go.Proofs.YtbgjelhefhcnpaaGreat
open Go Go.RowKit
/-- The nodes behind a write of a word into a frame's node. -/
def putL (ns : List ND) (f : Int) (d : Fin 8) (w : Int) : List ND := ns.set (plI ns f).toNat ⟨(ns.getD (plI ns f).toNat default).f, updF (ns.getD (plI ns f).toNat default).e d w⟩
theorem put_len (ns : List ND) (f : Int) (d : Fin 8) (w : Int) : (putL ns f d w).length = ns.length := List.length_set
theorem end_at {root : Int} {T : Tr} {ns : List ND} {ds : List DP} (h : PtOk root T ns ds) (p : Nat) : ∃ k lv : Nat, plI ns (endP root T p).1 = (k : Int) ∧ k < ns.length ∧ (endP root T p).2.1 = (lv : Int) ∧ lv ≤ 2 := by
  unfold endP endT
  generalize dgF p 2 = a
  generalize dgF p 1 = b
  generalize dgF p 0 = c
  cases hT : T a with
  | none =>
    obtain ⟨k, h1, h2, _, _⟩ := h.pl (root_mem root T)
    exact ⟨k, 2, h1, h2, rfl, by decide⟩
  | some m =>
    obtain ⟨k, h1, h2, _, _⟩ := h.pl (mid_mem (root := root) hT)
    cases hs : m.s b with
    | no => exact ⟨k, 1, by simp only [hs]; exact h1, h2, by simp only [hs]; rfl, by decide⟩
    | huge w f => exact ⟨k, 1, by simp only [hs]; exact h1, h2, by simp only [hs]; rfl, by decide⟩
    | leaf f e =>
      obtain ⟨k, h1, h2, _, _⟩ := h.pl (leaf_mem (root := root) hT hs)
      exact ⟨k, 0, by simp only [hs]; exact h1, h2, by simp only [hs]; rfl, by decide⟩
attribute [local irreducible] decR ixL endP
attribute [local irreducible] Code.wp wpList bodyPost Exit.then Exit.inBlock Calls wpQuiet Tri TriQ
section
variable (w0 : World) (cs : List Chunk) {root : Int} {T : Tr} {ns : List ND} {ds : List DP} (h : PtOk root T ns ds) {rn : Row} {vd : Value} {gt : Nat}
include h
set_option maxHeartbeats 1000000 in
theorem put_c {p : Nat} (hp : p < 512) (w : Int) : Cal Tryz.prog 46 [pR gt, .int .i64 (p : Int), .int .u64 w] (Hp w0 (ptC gt root rn.v vd :: ndS rn ns :: cs)) (fun _ : Unit => .tuple #[])
    (fun _ => Hp w0 (ptC gt root rn.v vd :: ndS rn (putL ns (endP root T p).1 (dgF p (endP root T p).2.1.toNat) w) :: cs)) := by
  have hnl := h.nlen
  have hle := last_eq ns root T p
  obtain ⟨k, lv, e1, e2, e3, e4⟩ := end_at h p
  have hput : putL ns (endP root T p).1 (dgF p (endP root T p).2.1.toNat) w = ns.set k ⟨(ns.getD k default).f, updF (ns.getD k default).e (dgF p lv) w⟩ := by
    unfold putL
    rw [e1, e3, Int.toNat_natCast, Int.toNat_natCast]
  rw [hput]
  rw [e1, e3] at hle
  have hN : RdH (Hp w0 (ptC gt root rn.v vd :: ndS rn ns :: cs)) rn.v ns := rd_chunk ⟨1, rfl⟩
  refine cal_of_tri Tryz.func46 rfl Tryz.ntmps46 rfl ?_
  (repeat (first | refine zz ?_ | refine zv fun _ => ?_))
  refine au_callC rfl rfl rfl rfl rfl (last_c w0 _ (vn := rn.v) (vd := vd) h hN (by omega) hp) (fun _ => ?_)
  rw [hle]
  refine zv fun g6 => ?_
  refine zz ?_
  refine zz ?_
  refine tri_weak (H' := Hp w0 (spC g6 (k : Int) (lv : Int) (endP root T p).2.2 :: ptC gt root rn.v vd :: ndS rn ns :: cs)) (fun w h => h) ?_
  (repeat (first | refine tri_seq ?_ | refine tri_then ?_))
  refine ar_held [14] (spC g6 (k : Int) (lv : Int) (endP root T p).2.2 :: ptC gt root rn.v vd :: ndS rn ns :: cs) rfl ?_
  refine ar_take 0 rfl rfl rfl ?_; refine ar_take 1 rfl rfl rfl ?_; refine ar_take 2 rfl rfl rfl ?_; refine ar_take 3 rfl rfl rfl ?_; refine ar_take 4 rfl rfl rfl ?_; refine ar_take 5 rfl rfl rfl ?_; refine ar_take 6 rfl rfl rfl ?_; refine ar_take 7 rfl rfl rfl ?_; refine ar_take 8 rfl rfl rfl ?_
  refine ar_take 10 rfl rfl rfl ?_
  refine ar_take 11 rfl rfl rfl ?_ (hy := yl_idx (k := k) rfl rfl (rd_chunk (r := rn) (l := ns) ⟨2, rfl⟩) (ix_nat rfl) (by rfl) e2)
  refine ar_take 12 rfl rfl rfl ?_ (hy := yl_fieldE rfl rfl)
  refine ar_op 9 rfl ?_
  refine au_callC rfl rfl rfl rfl rfl (digit_c w0 _ p lv (by omega) (by omega)) (fun _ => ?_)
  refine tri_nil ?_; refine ar_in ?_
  refine ar_take 13 rfl rfl rfl ?_ (hy := yl_idxE (j := digM p lv) rfl rfl (ix_nat rfl) (dig_lt p lv))
  refine ar_op 14 rfl ?_
  have hd := dig_lt p lv
  refine au_storeE (k := k) (f := 1 + digM p lv) (a := (⟨(ns.getD k default).f, updF (ns.getD k default).e (dgF p lv) w⟩ : ND)) rfl rfl rfl rfl ?_ (hf := Nat.ble_eq_true_of_le (by show 1 + digM p lv + 1 ≤ 9; omega)) (ha0 := by
    show Enc.dec (setL (Enc.enc (ns.getD k default)) (1 + (dgF p lv).val) [.int .u64 w]) = _
    rw [nd_set, nd_dec]) (ha := nd_set (ns.getD k default) (dgF p lv) w)
  refine tri_nil ?_; refine ar_ink ?_
  refine ar_done ?_
  (repeat (first | refine zz ?_ | refine zv fun _ => ?_))
  refine tri_done0 (by first | exact .inl rfl | exact .inr rfl) rfl ?_
  exact fun w hw => ⟨(), rfl, hw.tail⟩
end
theorem yl_mkif [Dl] {P : Program} {n e sz : Nat} {z : Value} {o : Oper} {E : Env} {H : World → Prop} {x : Operand} {t : Nat} {v : Value} [hS : SlTy P t e sz z] (ho : o.op = .makeInterface t x) (hx : ev E x = some v) : Yl P n o E H (.iface t v) := fun a w h1 _ => by
  simp [execOp, ho, h1.ev hx, Instr.makeInterface, run_underlying hS.und]
/-- An empty node. -/
def newN (f : Int) : ND := Enc.dec [.int .i64 f, .int .u64 0, .int .u64 0, .int .u64 0, .int .u64 0, .int .u64 0, .int .u64 0, .int .u64 0, .int .u64 0]
theorem newN_eq (f : Int) : newN f = ⟨f, fun _ => 0⟩ := nd_dec ⟨f, fun _ => 0⟩
section
variable (w0 : World) (cs : List Chunk)
set_option maxHeartbeats 1000000 in
theorem add_c {root : Int} {ns : List ND} {rn : Row} {vd : Value} {gt : Nat} (f : Int) (h1 : 1 ≤ ns.length) (h2 : ns.length ≤ 1000) : Cal Tryz.prog 81 [pR gt, .int .i64 f] (Hp w0 (ptC gt root rn.v vd :: ndS rn ns :: cs)) (fun _ : Row × {l' : List ND // SortF (ns ++ [⟨f, fun _ => 0⟩]) l'} => .tuple #[])
    (fun y => Hp w0 (ptC gt root y.1.v vd :: ndS y.1 y.2.1 :: cs)) := by
  rw [← newN_eq]
  refine cal_of_tri Tryz.func81 rfl Tryz.ntmps81 rfl ?_
  (repeat (first | refine tri_seq ?_ | refine tri_then ?_)); refine tri_region ?_; (repeat (first | refine au_pure ?_ | refine au_pass ?_ | refine au_box (fun _ => ?_) | refine au_alloc (fun _ => ?_) | refine au_store ?_ | refine au_make rfl rfl (fun _ => ?_) | refine au_lit rfl rfl rfl (fun _ => ?_) | refine au_append rfl rfl rfl rfl (fun _ => au_norm ?_) | refine au_storeE rfl rfl rfl rfl ?_)); refine tri_nil ?_; (repeat refine tri_then ?_)
  rename_i g2
  refine tri_weak (H' := Hp w0 (blkC g2 99 [pR gt] :: ptC gt root rn.v vd :: ndS rn ns :: cs)) (fun w h => h) ?_
  (repeat (first | refine tri_seq ?_ | refine tri_then ?_))
  refine ar_held [11] (blkC g2 99 [pR gt] :: ptC gt root rn.v vd :: cs) rfl ?_
  refine ar_take 0 rfl rfl rfl ?_; refine ar_take 1 rfl rfl rfl ?_; refine ar_take 2 rfl rfl rfl ?_; refine ar_take 3 rfl rfl rfl ?_; refine ar_take 4 rfl rfl rfl ?_
  refine ar_take 5 rfl rfl rfl ?_; refine ar_take 6 rfl rfl rfl ?_
  refine ar_op 7 rfl ?_
  refine au_lit (l := [newN f]) rfl rfl rfl (fun r1 => ?_)
  refine tri_nil ?_; refine ar_in ?_
  refine ar_op 8 rfl ?_
  refine au_append (i := 3) (l := ns) (l2 := [newN f]) rfl rfl rfl rfl (fun r2 => ?_) (hi := rfl) (h2 := rd_chunk (r := r1) (l := [newN f]) ⟨0, rfl⟩) (hb := by simp only [List.length_cons, List.length_nil]; omega)
  refine tri_weak (H' := Hp w0 (ndS r1 [newN f] :: blkC g2 99 [pR gt] :: ptC gt root rn.v vd :: ndS r2 (ns ++ [newN f]) :: cs)) (fun w h => h) ?_
  refine tri_nil ?_; refine ar_in ?_
  refine ar_take 9 rfl rfl rfl ?_; refine ar_take 10 rfl rfl rfl ?_
  refine ar_op 11 rfl ?_
  refine au_store ?_
  refine tri_nil ?_; refine ar_ink ?_
  refine ar_done ?_
  refine tri_weak (H' := Hp w0 (ndS r2 (ns ++ [newN f]) :: blkC g2 99 [pR gt] :: ptC gt root r2.v vd :: cs)) (fun w h => (HpM.tail h).perm ((List.Perm.cons _ (List.Perm.swap _ _ _)).trans (List.Perm.swap _ _ _))) ?_
  (repeat (first | refine zz ?_ | refine zv fun _ => ?_))
  refine au_pure ?_ (hy := yl_mkif rfl rfl)
  (repeat (first | refine zz ?_ | refine zv fun _ => ?_))
  refine au_pure ?_ (hy := yl_func rfl rfl)
  (repeat (first | refine zz ?_ | refine zv fun _ => ?_))
  refine au_callC rfl rfl rfl rfl rfl (sort_c w0 cs (r := r2) (l := ns ++ [newN f]) (by rw [List.length_append, List.length_singleton]; omega) (by rw [List.length_append, List.length_singleton]; omega) (gp := g2) (gt := gt) (root := root) (vd := vd)) ?_
  intro l'
  (repeat (first | refine zz ?_ | refine zv fun _ => ?_))
  refine tri_done0 (by first | exact .inl rfl | exact .inr rfl) rfl ?_
  exact fun w hw => ⟨⟨r2, l'⟩, rfl, (hw.perm (List.Perm.swap _ _ _)).tail.perm (List.Perm.swap _ _ _)⟩
end
end Go.Proofs.YtbgjelhefhcnpaaGreat

/- The walks of a page table's clone, fresh, deepen. No conditions. -/
set_option linter.unusedSimpArgs false
set_option linter.unusedVariables false
namespace Go.Proofs.YtbgjelhefhcnpaaGreat
open Go Go.RowKit
/-- The places by frames, and 0 at the first k keys. -/
def setsL (m0 : List (Int × Int)) (key : Nat → Int) : Nat → List (Int × Int)
  | 0 => m0
  | k + 1 => aSet (setsL m0 key k) (key k) 0
theorem sets_get (m0 : List (Int × Int)) (key : Nat → Int) : ∀ k f, aGet (setsL m0 key k) f = if ∃ i, i < k ∧ key i = f then some 0 else aGet m0 f
  | 0, f => by rw [if_neg]; rfl; rintro ⟨i, h, _⟩; omega
  | k + 1, f => by
    show aGet (aSet (setsL m0 key k) (key k) 0) f = _
    rw [get_set, sets_get m0 key k]
    by_cases e : f = key k
    · rw [if_pos e, if_pos ⟨k, by omega, e.symm⟩]
    · rw [if_neg e]
      by_cases h : ∃ i, i < k ∧ key i = f
      · obtain ⟨i, hi, ei⟩ := h
        rw [if_pos ⟨i, hi, ei⟩, if_pos ⟨i, by omega, ei⟩]
      · rw [if_neg h, if_neg]
        rintro ⟨i, hi, ei⟩
        by_cases e2 : i = k
        · rw [e2] at ei; exact e ei.symm
        · exact h ⟨i, by omega, ei⟩
/-- Frames that a table does not use. -/
structure Frsh (root : Int) (T : Tr) (l : List Int) : Prop where
  d : l.Nodup
  n : ∀ f ∈ l, f ∉ frT root T
  r : ∀ f ∈ l, 0 ≤ f ∧ f ≤ 4294967295
theorem Frsh.look {root : Int} {T : Tr} {l : List Int} {ns : List ND} {ds : List DP} (hf : Frsh root T l) (h : PtOk root T ns ds) {i : Nat} (hi : i < l.length) :
    aGet (setsL (setsL (ixL ns ns.length) (fun k => (ds.getD k default).f) ds.length) (fun k => l.getD k default) i) (l.getD i default) = none := by
  have hm : l.getD i default ∈ l := by rw [getD_get hi]; exact List.getElem_mem hi
  have hno := hf.n _ hm
  unfold frT at hno
  rw [List.mem_append, not_or] at hno
  rw [sets_get, if_neg, sets_get, if_neg, (ix_keys h.o ns.length (Nat.le_refl _)).2, if_neg]
  · rintro ⟨j, hj, e⟩
    refine hno.1 (List.mem_map.2 ⟨ns.getD j default, h.n.mem_iff.1 ?_, e⟩)
    rw [getD_get hj]; exact List.getElem_mem hj
  · rintro ⟨j, hj, e⟩
    refine hno.2 (List.mem_map.2 ⟨ds.getD j default, ?_, e⟩)
    rw [← h.d, getD_get hj]; exact List.getElem_mem hj
  · rintro ⟨j, hj, e⟩
    have := List.pairwise_iff_getElem.1 (List.nodup_iff_pairwise_ne.1 hf.d) j i (by omega) hi hj
    rw [getD_get (by omega), getD_get hi] at e
    exact this e
attribute [local irreducible] decR ixL endP setsL
attribute [local irreducible] Code.wp wpList bodyPost Exit.then Exit.inBlock Calls wpQuiet Tri TriQ
section
variable (w0 : World) (cs : List Chunk)
set_option maxHeartbeats 1000000 in
theorem ptclone_c {root : Int} {vn vd : Value} {ns : List ND} {ds : List DP} (hN : RdH (Hp w0 cs) vn ns) (hD : RdH (Hp w0 cs) vd ds) (h1 : ns.length ≤ 1000) (h2 : ds.length ≤ 1000) : Cal Tryz.prog 45 [ptV root vn vd] (Hp w0 cs) (fun y : Row × Row => ptV root y.1.v y.2.v)
    (fun y => Hp w0 (ndS y.1 ns :: dpS y.2 ds :: cs)) := by
  refine cal_of_tri Tryz.func45 rfl Tryz.ntmps45 rfl ?_
  (repeat (first | refine tri_seq ?_ | refine tri_then ?_)); refine tri_region ?_; (repeat (first | refine au_pure ?_ | refine au_pass ?_ | refine au_box (fun _ => ?_) | refine au_alloc (fun _ => ?_) | refine au_store ?_ | refine au_make rfl rfl (fun _ => ?_) | refine au_lit rfl rfl rfl (fun _ => ?_) | refine au_append rfl rfl rfl rfl (fun _ => au_norm ?_) | refine au_storeE rfl rfl rfl rfl ?_)); refine tri_nil ?_; (repeat refine tri_then ?_)
  rename_i g1 g2
  refine tri_weak (H' := Hp w0 (ptC g2 0 (.slice none 0 0) (.slice none 0 0) :: ptC g1 root vn vd :: cs)) (fun w h => h) ?_
  (repeat (first | refine tri_seq ?_ | refine tri_then ?_))
  refine ar_held [7, 9] (ptC g2 0 (.slice none 0 0) (.slice none 0 0) :: ptC g1 root vn vd :: cs) rfl ?_
  refine ar_take 0 rfl rfl rfl ?_; refine ar_take 1 rfl rfl rfl ?_; refine ar_take 3 rfl rfl rfl ?_; refine ar_take 4 rfl rfl rfl ?_
  refine ar_op 2 rfl ?_
  refine au_callC rfl rfl rfl rfl rfl (cloneN_c w0 _ (hN.cons.cons) (by omega)) ?_
  intro r1
  refine tri_nil ?_; refine ar_in ?_
  refine ar_free 6 rfl rfl rfl ?_
  refine ar_op 5 rfl ?_
  refine au_callC rfl rfl rfl rfl rfl (cloneD_c w0 _ (hD.cons.cons.cons) (by omega)) ?_
  intro r2
  refine tri_nil ?_; refine ar_in ?_
  refine ar_op 7 rfl ?_
  refine au_store ?_
  refine tri_nil ?_; refine ar_ink ?_
  refine ar_free 8 rfl rfl rfl ?_
  refine ar_op 9 rfl ?_
  refine au_store ?_
  refine tri_nil ?_; refine ar_ink ?_
  refine ar_done ?_
  refine tri_weak (H' := Hp w0 (dpS r2 ds :: ndS r1 ns :: ptC g2 0 (.slice none 0 0) (.slice none 0 0) :: ptC g1 root r1.v r2.v :: cs)) (fun w h => h) ?_
  (repeat (first | refine zz ?_ | refine zv fun _ => ?_))
  refine au_done1 rfl ?_
  exact fun w hw => ⟨⟨r1, r2⟩, rfl, (hw.sub (List.Sublist.cons_cons _ (List.Sublist.cons_cons _ (List.Sublist.cons _ (List.Sublist.cons _ (List.Sublist.refl _)))))).perm (List.Perm.swap _ _ _)⟩
set_option maxHeartbeats 1000000 in
theorem fresh_c {root : Int} {T : Tr} {vn vd vf : Value} {ns : List ND} {ds : List DP} {l : List Int} (h : PtOk root T ns ds) (hN : RdH (Hp w0 cs) vn ns) (hD : RdH (Hp w0 cs) vd ds) (hL : RdH (Hp w0 cs) vf l) (hf : Frsh root T l) (hl : l.length ≤ 1000) {n : Int} (hn : n = (l.length : Int)) :
    Cal Tryz.prog 75 [ptV root vn vd, vf, .int .i64 n] (Hp w0 cs) (fun _ : Unit => .bool true) (fun _ => Hp w0 cs) := by
  subst hn
  have hnl := h.nlen
  have hdl := h.dlen
  obtain ⟨m0, hm0⟩ : ∃ m0, m0 = ixL ns ns.length := ⟨_, rfl⟩
  obtain ⟨key, hkey⟩ : ∃ key : Nat → Int, key = fun k => (ds.getD k default).f := ⟨_, rfl⟩
  obtain ⟨key2, hkey2⟩ : ∃ key : Nat → Int, key = fun k => l.getD k default := ⟨_, rfl⟩
  have hlook := fun i hi => hf.look h (i := i) hi
  rw [← hm0, ← hkey, ← hkey2] at hlook
  have hs1 : ∀ i, aSet (setsL m0 key i) (ds.getD i default).f 0 = setsL m0 key (i + 1) := fun i => by rw [setsL, hkey]
  have hs2 : ∀ m i, aSet (setsL m key2 i) (l.getD i default) 0 = setsL m key2 (i + 1) := fun m i => by rw [setsL, hkey2]
  refine cal_of_tri Tryz.func75 rfl Tryz.ntmps75 rfl ?_
  (repeat (first | refine tri_seq ?_ | refine tri_then ?_)); refine tri_region ?_; (repeat (first | refine au_pure ?_ | refine au_pass ?_ | refine au_box (fun _ => ?_) | refine au_alloc (fun _ => ?_) | refine au_store ?_ | refine au_make rfl rfl (fun _ => ?_) | refine au_lit rfl rfl rfl (fun _ => ?_) | refine au_append rfl rfl rfl rfl (fun _ => au_norm ?_) | refine au_storeE rfl rfl rfl rfl ?_)); refine tri_nil ?_; (repeat refine tri_then ?_)
  rename_i g1
  refine tri_weak (H' := Hp w0 (ptC g1 root vn vd :: cs)) (fun w h => h) ?_
  have hN1 := hN.cons (c := ptC g1 root vn vd)
  have hD1 := hD.cons (c := ptC g1 root vn vd)
  have hL1 := hL.cons (c := ptC g1 root vn vd)
  (repeat (first | refine zz ?_ | refine zv fun _ => ?_))
  refine au_pure ?_ (hy := yl_len rfl rfl hL1)
  (repeat (first | refine zz ?_ | refine zv fun _ => ?_))
  rw [show ((l.length : Int) != (l.length : Int)) = false by simp]
  (repeat (first | refine zz ?_ | refine zv fun _ => ?_))
  refine au_callC rfl rfl rfl rfl rfl (index_c w0 _ (root := root) (vd := vd) hN1 (by omega)) ?_
  intro bm
  rw [← hm0]
  refine tri_weak (H' := Hp w0 (mapC bm (setsL m0 key 0) :: ptC g1 root vn vd :: cs)) (fun w h => by rw [setsL]; exact h) ?_
  (repeat (first | refine zz ?_ | refine zv fun _ => ?_))
  refine au_pure ?_ (hy := yl_len rfl rfl hD1.cons)
  (repeat (first | refine zz ?_ | refine zv fun _ => ?_))
  refine tri_block ?_
  refine tri_loop1 (fun (i : Nat) => i ≤ ds.length) (fun i => [(1, vf), (7, .map (some bm)), (21, vd), (22, .int .i64 (ds.length : Int)), (23, .int .i64 (i : Int))]) (fun i => Hp w0 (mapC bm (setsL m0 key i) :: ptC g1 root vn vd :: cs)) (fun i => ds.length - i) 0 (by omega) (by repeat (first | exact trivial | refine ⟨rfl, ?_⟩)) (fun w h => h) ?_
  intro i hi
  have hD2 := hD1.cons (c := mapC bm (setsL m0 key i))
  (repeat (first | refine zz ?_ | refine zv fun _ => ?_))
  ((first | refine tri_cond (by rfl) (fun hc => ?_) (fun hc => ?_) | refine tri_gsplit (by rfl) (by rfl) (by (fail_if_success exact (rfl : _ = some (Value.bool true))); (fail_if_success exact (rfl : _ = some (Value.bool false))); rfl) (fun hc => ?_) (fun hc => ?_)) <;> (try simp only [decide_eq_true_eq, decide_eq_false_iff_not, beq_iff_eq, bne_iff_ne, ne_eq, Bool.not_eq_true', Bool.not_eq_false', beq_eq_false_iff_ne, bne_eq_false_iff_eq, Int.not_lt, Int.not_le, gt_iff_lt, ge_iff_le, Bool.and_eq_true, Bool.or_eq_true, Bool.and_eq_false_iff, Bool.or_eq_false_iff, Decidable.not_not, not_true_eq_false, not_false_eq_true, and_true, true_and, or_false, false_or, or_true, true_or, and_false, false_and, eq_self, Bool.true_eq_false, Bool.false_eq_true] at hc) <;> (try (exfalso; omega)))
  case refine_1 =>
    (repeat (first | refine zz ?_ | refine zv fun _ => ?_))
    refine tri_block ?_
    (repeat (first | refine zz ?_ | refine zv fun _ => ?_))
    refine au_pure ?_ (hy := yl_idx (k := i) rfl rfl hD2 (ix_nat rfl) (by rfl) (by omega))
    refine au_pure ?_ (hy := yl_loadEN rfl rfl hD2 (by rfl) (by omega) (by repeat (first | exact nf0 rfl | apply nfS rfl | exact nfR)) (by rfl))
    (repeat (first | refine au_pure ?_ | refine au_pass ?_ | refine au_box (fun _ => ?_) | refine au_alloc (fun _ => ?_) | refine au_store ?_ | refine au_make rfl rfl (fun _ => ?_) | refine au_lit rfl rfl rfl (fun _ => ?_) | refine au_append rfl rfl rfl rfl (fun _ => au_norm ?_) | refine au_storeE rfl rfl rfl rfl ?_)); refine tri_nil ?_; (repeat refine tri_then ?_)
    rename_i g9
    refine tri_weak (H' := Hp w0 (dpE g9 (ds.getD i default) :: mapC bm (setsL m0 key i) :: ptC g1 root vn vd :: cs)) (fun w h => h) ?_
    (repeat (first | refine zz ?_ | refine zv fun _ => ?_))
    refine tri_update (β := Int) (v := (0 : Int)) rfl (by first | exact wan_plain rfl | exact wan_yes rfl rfl rfl) rfl rfl rfl rfl (by repeat (first | exact at0 | apply atS)) (by repeat (first | exact nf0 rfl | apply nfS rfl | exact nfR)) ?_
    rw [hs1]
    (repeat (first | refine zz ?_ | refine zv fun _ => ?_))
    exact tri_nx1 (i + 1) (by omega) (by omega) (by repeat (first | exact trivial | refine ⟨rfl, ?_⟩)) (fun w h => h.sub (List.Sublist.cons _ (List.Sublist.refl _)))
  have hie : i = ds.length := by omega
  subst hie
  obtain ⟨m1, hm1⟩ : ∃ m1, m1 = setsL m0 key ds.length := ⟨_, rfl⟩
  rw [← hm1]
  rw [← hm1] at hlook
  have hL2 := fun m : List (Int × Int) => hL1.cons (c := mapC bm m)
  (repeat (first | refine zz ?_ | refine zv fun _ => ?_))
  refine au_pure ?_ (hy := yl_len rfl rfl (hL2 _))
  refine tri_weak (H' := Hp w0 (mapC bm (setsL m1 key2 0) :: ptC g1 root vn vd :: cs)) (fun w h => by rw [setsL]; exact h) ?_
  (repeat (first | refine zz ?_ | refine zv fun _ => ?_))
  refine tri_block ?_
  refine tri_loop1 (fun (i : Nat) => i ≤ l.length) (fun i => [(7, .map (some bm)), (31, vf), (32, .int .i64 (l.length : Int)), (33, .int .i64 (i : Int))]) (fun i => Hp w0 (mapC bm (setsL m1 key2 i) :: ptC g1 root vn vd :: cs)) (fun i => l.length - i) 0 (by omega) (by repeat (first | exact trivial | refine ⟨rfl, ?_⟩)) (fun w h => h) ?_
  clear hi
  intro i hi
  (repeat (first | refine zz ?_ | refine zv fun _ => ?_))
  ((first | refine tri_cond (by rfl) (fun hc => ?_) (fun hc => ?_) | refine tri_gsplit (by rfl) (by rfl) (by (fail_if_success exact (rfl : _ = some (Value.bool true))); (fail_if_success exact (rfl : _ = some (Value.bool false))); rfl) (fun hc => ?_) (fun hc => ?_)) <;> (try simp only [decide_eq_true_eq, decide_eq_false_iff_not, beq_iff_eq, bne_iff_ne, ne_eq, Bool.not_eq_true', Bool.not_eq_false', beq_eq_false_iff_ne, bne_eq_false_iff_eq, Int.not_lt, Int.not_le, gt_iff_lt, ge_iff_le, Bool.and_eq_true, Bool.or_eq_true, Bool.and_eq_false_iff, Bool.or_eq_false_iff, Decidable.not_not, not_true_eq_false, not_false_eq_true, and_true, true_and, or_false, false_or, or_true, true_or, and_false, false_and, eq_self, Bool.true_eq_false, Bool.false_eq_true] at hc) <;> (try (exfalso; omega)))
  case refine_1 =>
    have hno := hlook i (by omega)
    have hrg := hf.r (l.getD i default) (by rw [getD_get (by omega)]; exact List.getElem_mem _)
    (repeat (first | refine zz ?_ | refine zv fun _ => ?_))
    refine tri_block ?_
    (repeat (first | refine zz ?_ | refine zv fun _ => ?_))
    refine au_pure ?_ (hy := yl_idx (k := i) rfl rfl (hL2 _) (ix_nat rfl) (by rfl) (by omega))
    refine au_pure ?_ (hy := yl_loadE rfl rfl (hL2 _) (by rfl) (by omega) (by rfl))
    (repeat (first | refine zz ?_ | refine zv fun _ => ?_))
    refine au_pure ?_ (hy := yl_look2 (β := Int) rfl rfl rfl (by first | (apply has_at; (repeat (first | exact at0 | apply atS)); done) | (repeat (first | assumption | apply has_cons))))
    rw [hno]
    (repeat (first | refine zz ?_ | refine zv fun _ => ?_))
    refine au_callC rfl rfl rfl rfl rfl (isFrame_c w0 _ (l.getD i default) hrg) (fun _ => ?_)
    (repeat (first | refine zz ?_ | refine zv fun _ => ?_))
    refine tri_update (β := Int) (v := (0 : Int)) rfl (by first | exact wan_plain rfl | exact wan_yes rfl rfl rfl) rfl rfl rfl rfl (by repeat (first | exact at0 | apply atS)) (by repeat (first | exact nf0 rfl | apply nfS rfl | exact nfR)) ?_
    rw [hs2]
    (repeat (first | refine zz ?_ | refine zv fun _ => ?_))
    exact tri_nx1 (i + 1) (by omega) (by omega) (by repeat (first | exact trivial | refine ⟨rfl, ?_⟩)) (fun w h => h)
  (repeat (first | refine zz ?_ | refine zv fun _ => ?_))
  refine au_done1 rfl ?_
  exact fun w hw => ⟨(), rfl, hw.sub (List.Sublist.cons _ (List.Sublist.cons _ (List.Sublist.refl _)))⟩
end
end Go.Proofs.YtbgjelhefhcnpaaGreat
