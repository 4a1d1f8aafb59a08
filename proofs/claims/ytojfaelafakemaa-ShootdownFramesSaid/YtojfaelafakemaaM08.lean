/- Texts joined: SeqK, NestE, ShSpec. Each part's own remark says what it proves. -/
import Derived.Test.YtojfaelafakemaaM05
import Derived.Test.YtojfaelafakemaaM06
import Derived.Test.YtojfaelafakemaaM07
/- A region that draws its order and whose last operations change what its first ones read: behind those (the list Ks) nothing is asked of the world. No conditions. -/
set_option linter.unusedSimpArgs false
set_option linter.unusedVariables false
namespace Go.Proofs.Ytojfaelafakemaa
open Go Go.RowKit
section
variable {P : Program} {ops : Array Oper} {Q : Exit → Act → World → Prop} {md : Region.Mode} {S : World → Prop} {Ks : List Nat}
def wpAnyK (P : Program) (md : Region.Mode) (ops : Array Oper) (Q : Exit → Act → World → Prop) (S : World → Prop) (Ks : List Nat) : Nat → Array Bool → Act → World → Prop
  | 0, listed, a, w => Region.ready md ops listed = [] ∧ Q .normal a w
  | fuel + 1, listed, a, w => (Region.ready md ops listed = [] → Q .normal a w) ∧
    ∀ i ∈ Region.ready md ops listed, wpOp P ops Q i (fun a' w' => (Ks.contains i = false → S w') ∧ wpAnyK P md ops Q S Ks fuel (listed.setIfInBounds i true) a' w') a w
/-- Operation k comes behind operation i. -/
def waitsT (md : Region.Mode) (ops : Array Oper) (i : Nat) : Nat → Nat → Bool
  | 0, _ => false
  | f + 1, k => match ops[k]? with
    | some o => o.after.any fun e => Region.binds md e && (e.on == i || waitsT md ops i f e.on)
    | none => false
def closedB (md : Region.Mode) (ops : Array Oper) (listed : Array Bool) : Bool := (List.range listed.size).all fun j => !(listed.getD j false) || match ops[j]? with
  | some o => o.after.all fun e => !(Region.binds md e) || listed.getD e.on false
  | none => true
def Closed (md : Region.Mode) (ops : Array Oper) (listed : Array Bool) : Prop := ∀ j o, listed.getD j false = true → ops[j]? = some o → ∀ e ∈ o.after, Region.binds md e = true → listed.getD e.on false = true
theorem closed_of {listed : Array Bool} (h : closedB md ops listed = true) : Closed md ops listed := fun j o hj ho e he hb => by
  have hlt : j < listed.size := by
    rcases Nat.lt_or_ge j listed.size with h' | h'
    · exact h'
    · simp [Array.getElem?_eq_none h'] at hj
  have := List.all_eq_true.1 h j (List.mem_range.2 hlt)
  rw [hj, ho] at this
  simp only [Bool.not_true, Bool.false_or] at this
  have h2 := Array.all_eq_true'.1 this e he
  rw [hb] at h2
  simpa using h2
theorem waitsT_in {i : Nat} {listed : Array Bool} (hc : Closed md ops listed) : ∀ (f k : Nat) (o : Oper), ops[k]? = some o → (∀ e ∈ o.after, Region.binds md e = true → listed.getD e.on false = true) → waitsT md ops i f k = true → listed.getD i false = true
  | 0, _, _, _, _, h => by cases h
  | f + 1, k, o, ho, hall, h => by
    unfold waitsT at h
    rw [ho] at h
    simp only at h
    obtain ⟨e, he, heq⟩ := Array.any_eq_true'.1 h
    rw [Bool.and_eq_true, Bool.or_eq_true, beq_iff_eq] at heq
    have hl := hall e he heq.1
    rcases heq.2 with h' | h'
    · rw [← h']; exact hl
    · cases hk : ops[e.on]? with
      | none => cases f <;> simp [waitsT, hk] at h'
      | some o' => exact waitsT_in hc f e.on o' hk (fun e' he' hb' => hc e.on o' hl hk e' he' hb') h'
theorem wpAny_of_k : ∀ (fuel : Nat) (listed : Array Bool) (a : Act) (w : World), wpAnyK P md ops Q S Ks fuel listed a w → wpAny P md ops Q fuel listed a w
  | 0, _, _, _, h => h
  | fuel + 1, _, _, _, h => ⟨h.1, fun i hi => wpOp_mono (fun a' w' h' => wpAny_of_k fuel _ a' w' h'.2) (h.2 i hi)⟩
theorem wpAnyK_first {i : Nat} {oi : Oper} {v : Value} (hi : ops[i]? = some oi) (hsel : ∀ (j : Nat) (o : Oper) cs b, ops[j]? = some o → o.op ≠ .select cs b)
    (hQ : ∀ c a w, Q (.panic c) (a.put oi.dst v) w → Q (.panic c) a w) (hK : ∀ k, Ks.contains k = true → waitsT md ops i ops.size k = true) (hiK : Ks.contains i = false) :
    ∀ (fuel : Nat) (listed : Array Bool) (a : Act) (w : World), Closed md ops listed →
      (∀ j oj, ops[j]? = some oj → j ≠ i → listed.getD j true = false → (∀ e ∈ oj.after, Region.binds md e = true → e.on ≠ i) → oi.apart ops oj = true) →
      i ∈ Region.ready md ops listed → YieldsIf P ops S oi v a → S w →
      wpAnyK P md ops Q S Ks fuel (listed.setIfInBounds i true) (a.put oi.dst v) w → wpAnyK P md ops Q S Ks (fuel + 1) listed a w := by
  intro fuel
  induction fuel with
  | zero =>
    intro listed a w _ _ hr hy hS H
    refine ⟨fun h => (by rw [h] at hr; cases hr), fun j hj => ?_⟩
    by_cases hji : j = i
    · subst hji; exact hy.wpOp hi hS ⟨fun _ => hS, H⟩
    · have := ready_mono hj hji
      rw [H.1] at this
      cases this
  | succ fuel ih =>
    intro listed a w hcl hfree hr hy hS H
    refine ⟨fun h => (by rw [h] at hr; cases hr), fun j hj => ?_⟩
    by_cases hji : j = i
    · subst hji; exact hy.wpOp hi hS ⟨fun _ => hS, H⟩
    · have h1 := H.2 j (ready_mono hj hji)
      obtain ⟨hjun, oj, hoj, hall⟩ := mem_ready.1 hj
      have hnot : ∀ e ∈ oj.after, Region.binds md e = true → e.on ≠ i := fun e he hb heq => by
        have h1 := hall e he hb
        have h0 := (mem_ready.1 hr).1
        rw [heq] at h1
        rcases Nat.lt_or_ge i listed.size with h' | h'
        · simp [h'] at h0 h1; rw [h0] at h1; cases h1
        · simp [Array.getElem?_eq_none h'] at h1
      have hjK : Ks.contains j = false := by
        cases hc : Ks.contains j
        · rfl
        · have hw := waitsT_in hcl _ j oj hoj hall (hK j hc)
          have h0 := (mem_ready.1 hr).1
          rcases Nat.lt_or_ge i listed.size with h' | h'
          · simp [h'] at h0 hw; rw [h0] at hw; cases hw
          · simp [Array.getElem?_eq_none h'] at hw
      have hcl' : Closed md ops (listed.setIfInBounds j true) := fun k ok hk hok e he hb => by
        by_cases hjk : j = k
        · subst hjk
          rw [hoj] at hok
          cases hok
          exact getD_set_true (hall e he hb)
        · rw [getD_set_ne false hjk] at hk
          exact getD_set_true (hcl k ok hk hok e he hb)
      have h2 := wpOp_putIf hoj (hfree j oj hoj hji hjun hnot) (fun cs b => hsel i oi cs b hi) (fun cs b => hsel j oj cs b hoj) hQ hy h1
      have hfree' : ∀ k ok, ops[k]? = some ok → k ≠ i → (listed.setIfInBounds j true).getD k true = false →
          (∀ e ∈ ok.after, Region.binds md e = true → e.on ≠ i) → oi.apart ops ok = true := fun k ok hk hki hun hno => by
        refine hfree k ok hk hki ?_ hno
        by_cases hjk : j = k
        · subst hjk; exact hjun
        · rw [getD_set_ne true hjk] at hun; exact hun
      refine wpOp_mono (fun a' w' h3 => ⟨fun _ => h3.2.1 hjK, ih (listed.setIfInBounds j true) a' w' hcl' hfree' (ready_mono hr (Ne.symm hji)) h3.1 (h3.2.1 hjK) ?_⟩) h2
      rw [Array.setIfInBounds_comm _ _ hji]
      exact h3.2.2
end
def TK [Dl] (P : Program) (n : Nat) (l : List Oper) (S : World → Prop) (Ks : List Nat) (fuel : Nat) (listed : Array Bool) (F : Act → World → Prop) (E : Env) (H : World → Prop) : Prop := ∀ a w, FrOk n E a → H w → wpAnyK P .any l.toArray (Exit.then F NoQ) S Ks fuel listed a w
section
variable {M : List Nat} {P : Program} {n d : Nat} {Q : Exit → Act → World → Prop} {F : Act → World → Prop} {l : List Oper} {o : Oper} {E : Env} {H S : World → Prop} {w0 : World} {cs cs0 : List Chunk} {v : Value} {fuel : Nat} {listed : Array Bool} {Ks : List Nat}
theorem ak_held [Dl] (Ks : List Nat) (cs0 : List Chunk) {id : Nat} (hm : P.follows .mixedOrders = true) (k : TK P n l (HpM M w0 cs0) Ks l.length (Array.replicate l.length false) (Q .normal) E (HpM M w0 cs)) : Tri n ((Code.region id l.toArray true).wp P Q) E (HpM M w0 cs) := fun a w h1 h2 => by
  refine wp_mono (Q := Exit.then (Q .normal) NoQ) (wp_region_any hm (wpAny_of_k _ _ _ _ (k a _ h1 h2.drawn))) fun e a' w' q => ?_
  cases e with
  | normal => exact q
  | exit id => exact q.elim
  | goto l => exact q.elim
  | ret => exact q.elim
  | panic ch => exact q.elim
  | outgrown => exact q.elim
theorem tk_take [Dl] (i : Nat) (hi : l[i]? = some o) (hns : Region.noSelect l.toArray = true) (hf : Region.free .any l.toArray listed i = true) (hr : (Region.ready .any l.toArray listed).contains i = true)
    (hK : (Ks.all fun k => waitsT .any l.toArray i l.toArray.size k) = true) (hcl : closedB .any l.toArray listed = true) (hiK : Ks.contains i = false) (hS : ∀ w, H w → S w) (hy : ∀ a, FrOk n E a → YieldsIf P l.toArray S o v a) (k : ∀ a, FrOk n E a → ∀ w, H w → wpAnyK P .any l.toArray (Exit.then F NoQ) S Ks fuel (listed.setIfInBounds i true) (a.put o.dst v) w) :
    TK P n l S Ks (fuel + 1) listed F E H := fun a w h1 h2 =>
  wpAnyK_first (by simpa using hi) (Region.noSelect_spec hns) (fun _ _ _ h => h.elim) (fun k hk => List.all_eq_true.1 hK k (List.contains_iff_mem.1 hk)) hiK fuel listed a w (closed_of hcl) (Region.free_spec (by simpa using hi) hf) (by simpa using hr) (hy a h1) (hS w h2) (k a h1 w h2)
theorem ak_take [Dl] (i : Nat) (hi : l[i]? = some o) (hd : o.dst = some d) (hn : Nat.blt d n = true) (k : TK P n l (HpM M w0 cs0) Ks fuel (listed.setIfInBounds i true) F ((d, v) :: E) (HpM M w0 cs)) (hns : Region.noSelect l.toArray = true := by kernel_rfl) (hf : Region.free .any l.toArray listed i = true := by kernel_rfl) (hr : (Region.ready .any l.toArray listed).contains i = true := by kernel_rfl)
    (hK : (Ks.all fun k => waitsT .any l.toArray i l.toArray.size k) = true := by kernel_rfl) (hcl : closedB .any l.toArray listed = true := by kernel_rfl) (hiK : Ks.contains i = false := by rfl) (hs : cs0.Sublist cs := by repeat (first | exact List.Sublist.refl _ | assumption | apply List.Sublist.cons_cons | apply List.Sublist.cons)) (hw : Wan l n o E true := by first | exact wan_plain rfl | exact wan_yes rfl rfl rfl) (hy : Yl P n o E (HpM M w0 cs0) v := by first | exact yl_mv rfl rfl | exact yl_field rfl rfl | exact yl_load rfl rfl (by first | (apply has_at; (repeat (first | exact at0 | apply atS)); done) | (repeat (first | assumption | apply has_cons))) rfl | exact yl_addn rfl rfl rfl (by omega) | exact yl_subn rfl rfl rfl (by omega) | exact yl_int2 rfl rfl rfl rfl | exact yl_pick_t rfl rfl rfl | exact yl_pick_f rfl rfl rfl | exact yl_not rfl rfl | exact yl_ext rfl rfl rfl | exact yl_loadN rfl rfl (by first | (apply has_at; (repeat (first | exact at0 | apply atS)); done) | (repeat (first | assumption | apply has_cons))) (by repeat (first | exact nf0 rfl | apply nfS rfl | exact nfR)) (by rfl) | exact yl_build rfl rfl rfl (by repeat (first | exact nf0 rfl | apply nfS rfl | exact nfR)) | exact yl_shl rfl rfl rfl (by decide) | exact yl_shr rfl rfl rfl (by decide) | exact yl_convn rfl rfl (by omega) | exact yl_conv rfl rfl | exact yl_remn rfl rfl rfl (by omega) | exact yl_quon rfl rfl rfl (by omega) | exact yl_eqs rfl rfl rfl | exact yl_neqs rfl rfl rfl | exact yl_eqlb rfl rfl rfl | exact yl_neqb rfl rfl rfl | exact yl_neg rfl rfl | exact yl_len rfl rfl (by repeat (first | assumption | exact rd_chunk (by first | (apply has_at; (repeat (first | exact at0 | apply atS)); done) | (repeat (first | assumption | apply has_cons))) | apply RdH.cons | refine RdH.cut ?_ rfl (by omega) (by omega))) | exact yl_idx rfl rfl (by repeat (first | assumption | exact rd_chunk (by first | (apply has_at; (repeat (first | exact at0 | apply atS)); done) | (repeat (first | assumption | apply has_cons))) | apply RdH.cons | refine RdH.cut ?_ rfl (by omega) (by omega))) (by first | exact ix_nat rfl | exact ix_int rfl (by omega)) (by rfl) (by first | assumption | omega | decide | (simp only [List.length_set, List.length_append, List.length_replicate, List.length_cons, List.length_nil, List.length_drop, List.length_take] at *; omega)) | exact yl_fieldE rfl rfl | exact yl_loadE rfl rfl (by repeat (first | assumption | exact rd_chunk (by first | (apply has_at; (repeat (first | exact at0 | apply atS)); done) | (repeat (first | assumption | apply has_cons))) | apply RdH.cons | refine RdH.cut ?_ rfl (by omega) (by omega))) (by rfl) (by first | assumption | omega | decide | (simp only [List.length_set, List.length_append, List.length_replicate, List.length_cons, List.length_nil, List.length_drop, List.length_take] at *; omega)) (by rfl) | exact yl_loadEN rfl rfl (by repeat (first | assumption | exact rd_chunk (by first | (apply has_at; (repeat (first | exact at0 | apply atS)); done) | (repeat (first | assumption | apply has_cons))) | apply RdH.cons | refine RdH.cut ?_ rfl (by omega) (by omega))) (by rfl) (by first | assumption | omega | decide | (simp only [List.length_set, List.length_append, List.length_replicate, List.length_cons, List.length_nil, List.length_drop, List.length_take] at *; omega)) (by repeat (first | exact nf0 rfl | apply nfS rfl | exact nfR)) (by rfl) | exact yl_nilchk rfl rfl | exact yl_nilchkE rfl rfl | exact yl_eqnil rfl rfl rfl (by repeat (first | assumption | exact rd_chunk (by first | (apply has_at; (repeat (first | exact at0 | apply atS)); done) | (repeat (first | assumption | apply has_cons))) | apply RdH.cons | refine RdH.cut ?_ rfl (by omega) (by omega))) | exact yl_neqnil rfl rfl rfl (by repeat (first | assumption | exact rd_chunk (by first | (apply has_at; (repeat (first | exact at0 | apply atS)); done) | (repeat (first | assumption | apply has_cons))) | apply RdH.cons | refine RdH.cut ?_ rfl (by omega) (by omega))) | exact yl_cut rfl rfl (by repeat (first | assumption | exact rd_chunk (by first | (apply has_at; (repeat (first | exact at0 | apply atS)); done) | (repeat (first | assumption | apply has_cons))) | apply RdH.cons | refine RdH.cut ?_ rfl (by omega) (by omega))) (by first | exact ixo_none | exact ixo_some (by first | exact ix_nat rfl | exact ix_int rfl (by omega))) (by first | exact ixo_none | exact ixo_some (by first | exact ix_nat rfl | exact ix_int rfl (by omega))) (by omega) (by omega) | exact yl_func rfl rfl) : TK P n l (HpM M w0 cs0) Ks (fuel + 1) listed F E (HpM M w0 cs) :=
  tk_take i hi hns hf hr hK hcl hiK (fun _ h => h.sub hs) (fun a h1 => .inl ⟨hw a h1, fun w' hw' => hy a w' h1 hw'⟩) fun a h1 w h2 => by rw [hd]; exact k _ _ (h1.put hn v) h2
theorem ak_pass [Dl] (i : Nat) (hi : l[i]? = some o) (hd : o.dst = some d) (hn : Nat.blt d n = true) (k : TK P n l (HpM M w0 cs0) Ks fuel (listed.setIfInBounds i true) F ((d, undef) :: E) (HpM M w0 cs)) (hns : Region.noSelect l.toArray = true := by kernel_rfl) (hf : Region.free .any l.toArray listed i = true := by kernel_rfl) (hr : (Region.ready .any l.toArray listed).contains i = true := by kernel_rfl)
    (hK : (Ks.all fun k => waitsT .any l.toArray i l.toArray.size k) = true := by kernel_rfl) (hcl : closedB .any l.toArray listed = true := by kernel_rfl) (hiK : Ks.contains i = false := by rfl) (hs : cs0.Sublist cs := by repeat (first | exact List.Sublist.refl _ | assumption | apply List.Sublist.cons_cons | apply List.Sublist.cons)) (hw : Wan l n o E false := by first | exact wan_no rfl rfl rfl | exact wan_un rfl rfl rfl) : TK P n l (HpM M w0 cs0) Ks (fuel + 1) listed F E (HpM M w0 cs) :=
  tk_take (v := undef) i hi hns hf hr hK hcl hiK (fun _ h => h.sub hs) (fun a h1 => .inr ⟨hw a h1, rfl⟩) fun a h1 w h2 => by rw [hd]; exact k _ _ (h1.put hn undef) h2
theorem wpop_ofk {i : Nat} {o : Oper} {K : Act → World → Prop} (hi : l[i]? = some o) {a : Act} {w : World} (h : wpList P l.toArray (Exit.then K NoQ) [o] a w) : wpOp P l.toArray (Exit.then F NoQ) i K a w := by
  have hi' : l.toArray[i]? = some o := by simpa using hi
  unfold wpList at h
  unfold wpOp
  rw [hi']
  simp only
  by_cases hw : Region.wanted o (yielded l.toArray a.tmps) = true
  · rw [if_pos hw] at h ⊢
    rcases h with h | ⟨_, a', w', h⟩
    · left
      have e : wpList P l.toArray (Exit.then K NoQ) [] = K := by
        funext a w; rfl
      rw [e] at h
      unfold Oper.wp at h ⊢
      unfold Oper.upon at h ⊢
      split at h <;> exact h
    · exact h.elim
  · rw [if_neg hw] at h ⊢
    exact h
theorem wpAnyK_all {rs : List Nat} {md : Region.Mode} {ops : Array Oper} {a : Act} {w : World} (hr : Region.ready md ops listed = rs) (hne : rs ≠ [])
    (h : ∀ i ∈ rs, wpOp P ops Q i (fun a' w' => (Ks.contains i = false → S w') ∧ wpAnyK P md ops Q S Ks fuel (listed.setIfInBounds i true) a' w') a w) : wpAnyK P md ops Q S Ks (fuel + 1) listed a w :=
  ⟨fun h0 => absurd (hr ▸ h0) hne, hr ▸ h⟩
theorem ak_op [Dl] (i : Nat) (hi : l[i]? = some o) (k : Tri n (wpList P l.toArray (Exit.then (fun a w => (Ks.contains i = false → HpM M w0 cs0 w) ∧ wpAnyK P .any l.toArray (Exit.then F NoQ) (HpM M w0 cs0) Ks fuel (listed.setIfInBounds i true) a w) NoQ) [o]) E (HpM M w0 cs)) (hr : Region.ready .any l.toArray listed = [i] := by kernel_rfl) :
    TK P n l (HpM M w0 cs0) Ks (fuel + 1) listed F E (HpM M w0 cs) := fun a w h1 h2 => wpAnyK_all hr (by simp) fun j hj => by
  have : j = i := by simpa using hj
  subst this
  exact wpop_ofk hi (k a w h1 h2)
theorem ak_op2 [Dl] (i j : Nat) {oi oj : Oper} (hi : l[i]? = some oi) (hj : l[j]? = some oj)
    (ki : Tri n (wpList P l.toArray (Exit.then (fun a w => (Ks.contains i = false → HpM M w0 cs0 w) ∧ wpAnyK P .any l.toArray (Exit.then F NoQ) (HpM M w0 cs0) Ks fuel (listed.setIfInBounds i true) a w) NoQ) [oi]) E (HpM M w0 cs))
    (kj : Tri n (wpList P l.toArray (Exit.then (fun a w => (Ks.contains j = false → HpM M w0 cs0 w) ∧ wpAnyK P .any l.toArray (Exit.then F NoQ) (HpM M w0 cs0) Ks fuel (listed.setIfInBounds j true) a w) NoQ) [oj]) E (HpM M w0 cs))
    (hr : Region.ready .any l.toArray listed = [i, j] := by kernel_rfl) : TK P n l (HpM M w0 cs0) Ks (fuel + 1) listed F E (HpM M w0 cs) := fun a w h1 h2 => wpAnyK_all hr (by simp) fun k hk => by
  have : k = i ∨ k = j := by simpa using hk
  rcases this with rfl | rfl
  · exact wpop_ofk hi (ki a w h1 h2)
  · exact wpop_ofk hj (kj a w h1 h2)
theorem ak_in [Dl] {i : Nat} (k : TK P n l (HpM M w0 cs0) Ks fuel listed F E (HpM M w0 cs)) (hs : cs0.Sublist cs := by repeat (first | exact List.Sublist.refl _ | assumption | apply List.Sublist.cons_cons | apply List.Sublist.cons)) :
    Tri n (Exit.then (fun a w => (Ks.contains i = false → HpM M w0 cs0 w) ∧ wpAnyK P .any l.toArray (Exit.then F NoQ) (HpM M w0 cs0) Ks fuel listed a w) NoQ .normal) E (HpM M w0 cs) := fun a w h1 h2 => ⟨fun _ => h2.sub hs, k a w h1 h2⟩
theorem ak_ink [Dl] {i : Nat} (k : TK P n l (HpM M w0 cs0) Ks fuel listed F E (HpM M w0 cs)) (hs : Ks.contains i = true := by rfl) :
    Tri n (Exit.then (fun a w => (Ks.contains i = false → HpM M w0 cs0 w) ∧ wpAnyK P .any l.toArray (Exit.then F NoQ) (HpM M w0 cs0) Ks fuel listed a w) NoQ .normal) E (HpM M w0 cs) := fun a w h1 h2 => ⟨fun h => (by rw [hs] at h; cases h), k a w h1 h2⟩
theorem ak_weak [Dl] (cs' : List Chunk) (hs : cs'.Sublist cs) (k : TK P n l S Ks fuel listed F E (HpM M w0 cs')) : TK P n l S Ks fuel listed F E (HpM M w0 cs) := fun a w h1 h2 => k a w h1 (h2.sub hs)
theorem ak_done [Dl] (k : Tri n F E (HpM M w0 cs)) (hr : Region.ready .any l.toArray listed = [] := by kernel_rfl) : TK P n l (HpM M w0 cs0) Ks fuel listed F E (HpM M w0 cs) := fun a w h1 h2 => by
  cases fuel with
  | zero => exact ⟨hr, k a w h1 h2⟩
  | succ f => exact ⟨fun _ => k a w h1 h2, by rw [hr]; simp⟩
theorem tri_front [Dl] {c : Chunk} {ds : List Chunk} (i : Nat) (hi : At cs i c) (he : Nf (cs.eraseIdx i) ds) (k : Tri n F E (HpM M w0 (c :: ds))) : Tri n F E (HpM M w0 cs) := fun a w h1 h2 => k a w h1 (h2.front hi he)
end
end Go.Proofs.Ytojfaelafakemaa

/- Slices of slices of elements of any kind: rows of the call's own for them. No conditions. -/
set_option linter.unusedSimpArgs false
set_option linter.unusedVariables false
namespace Go.Proofs.Ytojfaelafakemaa
open Go Go.RowKit
/-- A slice value, as an element. -/
structure SV where
  A : Option Addr
  len : Nat
  cap : Nat
def SV.v (s : SV) : Value := .slice s.A s.len s.cap
instance : Enc SV where
  default := ⟨none, 0, 0⟩
  sz := 1
  enc := fun s => [s.v]
  dec := fun cs => match cs with | [.slice A l c] => ⟨A, l, c⟩ | _ => ⟨none, 0, 0⟩
  len := fun _ => rfl
  one := fun _ u hu => by simp at hu; subst hu; rfl
  pos := by decide
def Row.sv (r : Row) : SV := ⟨r.A, r.len, r.cap⟩
theorem Row.sv_v (r : Row) : r.sv.v = r.v := rfl
/-- Slice values that read as lists. -/
structure RdL {α : Type} [Enc α] (H : World → Prop) (vs : List SV) (L : List (List α)) : Prop where
  len : vs.length = L.length
  inn : ∀ i, RdH H (vs.getD i default).v (L.getD i default)
/-- Rows of the call's own, one for each list. -/
def nestE {α : Type} [Enc α] (e : Nat) (rs : List Row) (L : List (List α)) : List Chunk := List.zipWith (fun r l => slC r e l) rs L
def nxE {α : Type} [Enc α] (e : Nat) (rs : List Row) (L : List (List α)) (i : Nat) : List Chunk := (nestE e rs L).eraseIdx i
theorem eraseIdx_set {α : Type} : ∀ (l : List α) (i : Nat) (a : α), (l.set i a).eraseIdx i = l.eraseIdx i
  | [], _, _ => rfl
  | _ :: _, 0, _ => rfl
  | x :: l, i + 1, a => by rw [List.set_cons_succ, List.eraseIdx_cons_succ, List.eraseIdx_cons_succ, eraseIdx_set l i a]
theorem set_getD_self {α : Type} [Inhabited α] {l : List α} {i : Nat} (hi : i < l.length) (d : α) : l.set i (l.getD i d) = l := by
  rw [List.getD_eq_getElem?_getD, List.getElem?_eq_getElem hi, Option.getD_some, List.set_getElem_self]
theorem getD_none {α : Type} [Inhabited α] {l : List α} {i : Nat} (h : l.length ≤ i) : l.getD i default = default := by
  rw [List.getD_eq_getElem?_getD, List.getElem?_eq_none h]; rfl
theorem gd_set {α : Type} [Inhabited α] {l : List α} {i j : Nat} {a : α} (hi : i < l.length) : (l.set i a).getD j default = if i = j then a else l.getD j default := by
  rw [List.getD_eq_getElem?_getD, List.getElem?_set]
  by_cases h : i = j
  · rw [if_pos h, if_pos h, if_pos (by omega)]; rfl
  · rw [if_neg h, if_neg h, List.getD_eq_getElem?_getD]
theorem map_getD_sv (rs : List Row) {i : Nat} (hi : i < rs.length) : (rs.map Row.sv).getD i default = (rs.getD i (Row.nil 0)).sv := by
  rw [List.getD_eq_getElem?_getD, List.getD_eq_getElem?_getD, List.getElem?_map, List.getElem?_eq_getElem hi]
  rfl
theorem rs_self {rs : List Row} {i : Nat} (hi : i < rs.length) : rs.set i (rs.getD i (Row.nil 0)) = rs := by rw [List.getD_eq_getElem?_getD, List.getElem?_eq_getElem hi, Option.getD_some, List.set_getElem_self]
theorem has_mem {cs : List Chunk} {c : Chunk} (h : c ∈ cs) : Has cs c := by
  obtain ⟨i, hi, he⟩ := List.getElem_of_mem h
  exact ⟨i, by rw [← he]; exact List.getElem?_eq_getElem hi⟩
theorem lit_perm {p q : List Nat} (h : p.Perm q) (f : Nat → Chunk) (X : List Chunk) : (p.map f ++ X).Perm (q.map f ++ X) := (h.map f).append_right X
section
variable {α : Type} [Enc α] {M : List Nat} {w0 : World} {cs ds : List Chunk} {H H' : World → Prop} {vs : List SV} {L : List (List α)} {e : Nat} {r : Row} {rs : List Row}
theorem RdL.cons {c : Chunk} (h : RdL (HpM M w0 cs) vs L) : RdL (HpM M w0 (c :: cs)) vs L := ⟨h.len, fun i => (h.inn i).cons⟩
theorem RdL.app (h : RdL (HpM M w0 cs) vs L) : RdL (HpM M w0 (ds ++ cs)) vs L := ⟨h.len, fun i => (h.inn i).app⟩
theorem RdL.imp (h : RdL H vs L) (hs : ∀ w, H' w → H w) : RdL H' vs L := ⟨h.len, fun i w hw => h.inn i w (hs w hw)⟩
theorem nestE_get (hl : rs.length = L.length) {i : Nat} (hi : i < L.length) : (nestE e rs L)[i]? = some (slC (rs.getD i (Row.nil 0)) e (L.getD i default)) := by
  unfold nestE
  rw [List.getElem?_zipWith, List.getElem?_eq_getElem hi, List.getElem?_eq_getElem (by omega)]
  simp [List.getD_eq_getElem?_getD, List.getElem?_eq_getElem hi, List.getElem?_eq_getElem (show i < rs.length by omega)]
theorem nestE_len (hl : rs.length = L.length) : (nestE e rs L).length = L.length := by unfold nestE; simp [hl]
theorem nestE_mem (hl : rs.length = L.length) {i : Nat} (hi : i < L.length) : slC (rs.getD i (Row.nil 0)) e (L.getD i default) ∈ nestE e rs L := List.mem_of_getElem? (nestE_get hl hi)
theorem nestE_set (rs : List Row) (L : List (List α)) (i : Nat) (r' : Row) (l' : List α) : (nestE e rs L).set i (slC r' e l') = nestE e (rs.set i r') (L.set i l') := by
  unfold nestE
  apply List.ext_getElem?
  intro j
  rw [List.getElem?_set, List.getElem?_zipWith, List.getElem?_zipWith, List.getElem?_set, List.getElem?_set, List.length_zipWith]
  by_cases h : i = j
  · subst h
    simp only [if_true]
    by_cases h1 : i < rs.length <;> by_cases h2 : i < L.length <;> first | (simp [h1, h2]; done) | (simp [h1, h2]; omega)
  · simp [h]
theorem nestE_snoc (hl : rs.length = L.length) (r' : Row) (l' : List α) : nestE e (rs ++ [r']) (L ++ [l']) = nestE e rs L ++ [slC r' e l'] := by
  unfold nestE
  rw [List.zipWith_append hl]
  rfl
/-- A row of a nest in front. -/
theorem nestE_focus (hl : rs.length = L.length) {i : Nat} (hi : i < L.length) (A B : List Chunk) : (A ++ (nestE e rs L ++ B)).Perm (slC (rs.getD i (Row.nil 0)) e (L.getD i default) :: (A ++ (nxE e rs L i ++ B))) := by
  have h1 := nestE_get (e := e) hl hi
  have h2 : i < (nestE e rs L).length := by rw [nestE_len hl]; exact hi
  rw [List.getElem?_eq_getElem h2] at h1
  have h3 := perm_erase (nestE e rs L) i h2
  rw [Option.some.inj h1] at h3
  exact (List.Perm.append_left A (List.Perm.append_right B h3)).trans List.perm_middle
theorem nestE_unfocus (hl : rs.length = L.length) {i : Nat} (hi : i < L.length) (r' : Row) (l' : List α) (A B : List Chunk) : (slC r' e l' :: (A ++ (nxE e rs L i ++ B))).Perm (A ++ (nestE e (rs.set i r') (L.set i l') ++ B)) := by
  have h0 : (nestE e (rs.set i r') (L.set i l')).eraseIdx i = nxE e rs L i := by rw [← nestE_set, eraseIdx_set]; rfl
  have h1 := nestE_focus (e := e) (rs := rs.set i r') (L := L.set i l') (i := i) (by simp [hl]) (by simpa using hi) A B
  unfold nxE at h1
  rw [h0] at h1
  have e1 : (rs.set i r').getD i (Row.nil 0) = r' := by rw [List.getD_eq_getElem?_getD, List.getElem?_set_self (by omega)]; rfl
  have e2 : (L.set i l').getD i default = l' := by rw [List.getD_eq_getElem?_getD, List.getElem?_set_self (by omega)]; rfl
  rw [e1, e2] at h1
  exact h1.symm
theorem rdL_own (hl : rs.length = L.length) (hm : ∀ i, i < L.length → Has cs (slC (rs.getD i (Row.nil 0)) e (L.getD i default))) : RdL (HpM M w0 cs) (rs.map Row.sv) L := ⟨by rw [List.length_map, hl], fun i => by
  rcases Nat.lt_or_ge i L.length with h | h
  · rw [map_getD_sv rs (by omega)]
    exact rd_chunk (hm i h)
  · rw [getD_none (by rw [List.length_map]; omega), getD_none h]
    exact rd_nil⟩
end
end Go.Proofs.Ytojfaelafakemaa

/- The shootdown machine in plain Lean: how it reads, and what its functions compute. No conditions. -/
set_option linter.unusedSimpArgs false
set_option linter.unusedVariables false
namespace Go.Proofs.Ytojfaelafakemaa
open Go Go.RowKit
structure W64 where
  v : Int
  deriving DecidableEq
instance : Enc W64 where
  default := ⟨0⟩
  sz := 1
  enc := fun s => [.int .u64 s.v]
  dec := fun cs => match cs with | [.int _ i] => ⟨i⟩ | _ => ⟨0⟩
  len := fun _ => rfl
  one := fun _ u hu => by simp at hu; subst hu; rfl
  pos := by decide
/-- An invalidation. -/
structure IV where
  s : Int
  p : Int
  o : Bool
  deriving DecidableEq
instance : Enc IV where
  default := ⟨0, 0, false⟩
  sz := 3
  enc := fun x => [.int .i64 x.s, .int .i64 x.p, .bool x.o]
  dec := fun cs => match cs with | [.int _ a, .int _ b, .bool c] => ⟨a, b, c⟩ | _ => ⟨0, 0, false⟩
  len := fun _ => rfl
  one := fun _ u hu => by simp at hu; rcases hu with rfl | rfl | rfl <;> rfl
  pos := by decide
/-- A frame in limbo. -/
structure LB where
  f : Int
  a : Int
  deriving DecidableEq
instance : Enc LB where
  default := ⟨0, 0⟩
  sz := 2
  enc := fun x => [.int .i64 x.f, .int .i64 x.a]
  dec := fun cs => match cs with | [.int _ a, .int _ b] => ⟨a, b⟩ | _ => ⟨0, 0⟩
  len := fun _ => rfl
  one := fun _ u hu => by simp at hu; rcases hu with rfl | rfl <;> rfl
  pos := by decide
/-- A cache, as an element. -/
structure TB where
  z : Int
  s : SV
instance : Enc TB where
  default := ⟨0, ⟨none, 0, 0⟩⟩
  sz := 2
  enc := fun x => [.int .i64 x.z, x.s.v]
  dec := fun cs => match cs with | [.int _ z, .slice A l c] => ⟨z, ⟨A, l, c⟩⟩ | _ => ⟨0, ⟨none, 0, 0⟩⟩
  len := fun _ => rfl
  one := fun _ u hu => by simp at hu; rcases hu with rfl | rfl <;> rfl
  pos := by decide
instance : ElT Try.prog 47 W64 := ⟨trivial⟩
instance : ElT Try.prog 62 IV := ⟨trivial⟩
instance : ElT Try.prog 41 LB := ⟨trivial⟩
instance : ElT Try.prog 52 TB := ⟨trivial⟩
instance : ElT Try.prog 60 SV := ⟨trivial⟩
instance : ElT Try.prog 3 Int := ⟨trivial⟩
instance : ElT Try.prog 4 Bool := ⟨trivial⟩
/-- A cache. -/
structure TL where
  z : Int
  l : List TE
  deriving DecidableEq
instance : Inhabited TL := ⟨⟨0, []⟩⟩
/-- A machine. -/
structure SM where
  tb : List W64
  tl : List TL
  pd : List (List IV)
  lm : List LB
  wd : List Int
  deriving DecidableEq
def SM.zero : SM := ⟨[], [], [], [], []⟩
abbrev shV (vT vB vP vL vW : Value) : Value := .agg #[vT, vB, vP, vL, vW]
abbrev shC (g : Nat) (vT vB vP vL vW : Value) : Chunk := blkC g 31 [vT, vB, vP, vL, vW]
abbrev u64S (r : Row) (l : List W64) : Chunk := slC r 47 l
abbrev ivS (r : Row) (l : List IV) : Chunk := slC r 62 l
abbrev lbS (r : Row) (l : List LB) : Chunk := slC r 41 l
abbrev tlS (r : Row) (l : List TB) : Chunk := slC r 52 l
abbrev pdS (r : Row) (l : List SV) : Chunk := slC r 60 l
abbrev inS (r : Row) (l : List Int) : Chunk := slC r 3 l
abbrev boS (r : Row) (l : List Bool) : Chunk := slC r 4 l
abbrev eS (r : Row) (l : List TE) : Chunk := slC r 71 l
/-- The header values of a machine. -/
structure SH where
  t : SV
  b : SV
  p : SV
  l : SV
  w : SV
abbrev hdV (h : SH) : Value := shV h.t.v h.b.v h.p.v h.l.v h.w.v
abbrev hdC (g : Nat) (h : SH) : Chunk := shC g h.t.v h.b.v h.p.v h.l.v h.w.v
structure RdS (H : World → Prop) (h : SH) (xb : List TB) (xp : List SV) (m : SM) : Prop where
  tb : RdH H h.t.v m.tb
  tl : RdH H h.b.v xb
  tll : xb.length = m.tl.length
  tz : ∀ i, (xb.getD i default).z = (m.tl.getD i default).z
  te : ∀ i, RdH H (xb.getD i default).s.v (m.tl.getD i default).l
  pd : RdH H h.p.v xp
  pdl : xp.length = m.pd.length
  pe : ∀ i, RdH H (xp.getD i default).v (m.pd.getD i default)
  lm : RdH H h.l.v m.lm
  wd : RdH H h.w.v m.wd
section
variable {M : List Nat} {w0 : World} {cs ds : List Chunk} {H H' : World → Prop} {h : SH} {xb : List TB} {xp : List SV} {m : SM}
theorem RdS.imp (a : RdS H h xb xp m) (hs : ∀ w, H' w → H w) : RdS H' h xb xp m :=
  ⟨fun w hw => a.tb w (hs w hw), fun w hw => a.tl w (hs w hw), a.tll, a.tz, fun i w hw => a.te i w (hs w hw), fun w hw => a.pd w (hs w hw), a.pdl, fun i w hw => a.pe i w (hs w hw), fun w hw => a.lm w (hs w hw), fun w hw => a.wd w (hs w hw)⟩
theorem RdS.sub (a : RdS (HpM M w0 cs) h xb xp m) (hs : cs.Sublist ds) : RdS (HpM M w0 ds) h xb xp m := a.imp fun w hw => hw.sub hs
theorem RdS.cons {c : Chunk} (a : RdS (HpM M w0 cs) h xb xp m) : RdS (HpM M w0 (c :: cs)) h xb xp m := a.imp fun w hw => hw.tail
theorem RdS.app (a : RdS (HpM M w0 cs) h xb xp m) : RdS (HpM M w0 (ds ++ cs)) h xb xp m := a.sub (List.sublist_append_right ..)
theorem RdS.more (a : RdS (HpM M w0 cs) h xb xp m) : RdS (HpM M w0 (cs ++ ds)) h xb xp m := a.sub (List.sublist_append_left ..)
end
/-- The lists are no longer than slices can be; words are words. -/
structure SLe (m : SM) : Prop where
  tb : m.tb.length ≤ 9223372036854775807
  tl : m.tl.length ≤ 9223372036854775807
  te : ∀ i, (m.tl.getD i default).l.length ≤ 9223372036854775807
  pd : m.pd.length ≤ 9223372036854775807
  pe : ∀ i, (m.pd.getD i default).length ≤ 9223372036854775807
  lm : m.lm.length ≤ 9223372036854775807
  wd : m.wd.length ≤ 9223372036854775807
  tw : ∀ i, 0 ≤ (m.tb.getD i default).v ∧ (m.tb.getD i default).v < 18446744073709551616
  ew : ∀ i, ∀ t ∈ (m.tl.getD i default).l, Wf t
/- What the machine does. -/
/-- The entry of a mapped page. -/
def pgOk (n : Nat) (w : Int) : Bool := decide ((decR w).2 = 0 ∧ (decR w).1.k = 1 ∧ (decR w).1.d = false ∧ (decR w).1.n < n)
/-- An entry that the table may have. -/
def enOk (n : Nat) (w : Int) : Bool := decide ((decR w).2 = 0 ∧ (decR w).1.k = 0) || pgOk n w
def frW (n : Nat) (w : Int) : Int := if pgOk n w = true then (decR w).1.n else -1
def tbW (m : SM) (p : Nat) : Int := (m.tb.getD p default).v
def frM (m : SM) (p : Nat) : Int := frW m.wd.length (tbW m p)
def teOk (n q : Nat) (t : TE) : Bool := pgOk n t.w && (t.s == 0 && decide (t.p < q))
def ivOk (q : Nat) (v : IV) : Bool := decide (v.s = 0 ∧ 0 ≤ v.p ∧ v.p < q ∧ v.o = false)
def tlOk (m : SM) (b : TL) : Bool := checkM b.z b.l == 0 && b.l.all (teOk m.wd.length m.tb.length)
def formM (m : SM) : Bool := m.tb.all (fun w => enOk m.wd.length w.v) && (m.tl.all (tlOk m) && m.pd.all fun l => l.all (ivOk m.tb.length))
def bitA (a : Int) (c : Nat) : Bool := a / 2 ^ c % 2 == 1
/-- The frame f is mapped by a page below k. -/
def usedT (m : SM) (k : Nat) (f : Int) : Bool := (List.range k).any fun p => frM m p == f
/-- The frame f is in limbo, ahead of place k. -/
def usedL (m : SM) (k : Nat) (f : Int) : Bool := (m.lm.take k).any fun x => x.f == f
def dupT (m : SM) (p : Nat) : Bool := decide (0 ≤ frM m p) && usedT m p (frM m p)
def lbOk (m : SM) (i : Nat) (x : LB) : Bool :=
  decide (0 ≤ x.f ∧ x.f < m.wd.length) && (!(usedT m m.tb.length x.f || usedL m i x.f) && (decide (1 ≤ x.a ∧ x.a < 2 ^ m.tl.length) && (List.range m.tl.length).all fun c => !(bitA x.a c && (m.pd.getD c default).isEmpty)))
def limM (m : SM) : Bool := (List.range m.tb.length).all (fun p => !dupT m p) && (List.range m.lm.length).all fun i => lbOk m i (m.lm.getD i default)
def owesM (m : SM) (c : Nat) (p : Int) : Bool := (m.pd.getD c default).any fun v => v.p == p
def sameM (m : SM) (t : TE) : Bool := pgOk m.wd.length (tbW m t.p.toNat) && (decR (tbW m t.p.toNat)).1.n == (decR t.w).1.n
def waitM (m : SM) (c : Nat) (t : TE) : Bool := m.lm.any fun x => x.f == (decR t.w).1.n && bitA x.a c
def freshM (m : SM) (t : TE) : Bool := sameM m t && (((decR (tbW m t.p.toNat)).1.a || !(decR t.w).1.a) && ((decR (tbW m t.p.toNat)).1.c || !(decR t.w).1.c))
def coverM (m : SM) (c : Nat) (t : TE) : Bool := freshM m t || (owesM m c t.p && (sameM m t || waitM m c t))
def coversM (m : SM) : Bool := (List.range m.tl.length).all fun c => (m.tl.getD c default).l.all (coverM m c)
def rangeM (m : SM) : Bool := decide (1 ≤ m.tl.length ∧ m.tl.length ≤ 4 ∧ m.pd.length = m.tl.length ∧ 1 ≤ m.wd.length ∧ m.wd.length ≤ 256 ∧ 1 ≤ m.tb.length ∧ m.tb.length ≤ 512)
def schk (m : SM) : Int := if rangeM m = false then 2 else if formM m = false then 3 else if limM m = false then 11 else if coversM m = false then 11 else 0
def isP (m : SM) (p : Int) : Bool := decide (0 ≤ p ∧ p < m.tb.length)
def freeB (m : SM) (f : Int) : Bool := !(usedT m m.tb.length f || usedL m m.lm.length f)
def wordM (e : Ent) : Int := (encS e.k e.n e.a e.b e.c e.d).1
def mapM (m : SM) (p f : Int) (w : Bool) : SM × Int :=
  if schk m ≠ 0 then (.zero, schk m) else if ¬ (isP m p = true ∧ 0 ≤ f ∧ f < m.wd.length) then (.zero, 2) else if pgOk m.wd.length (tbW m p.toNat) = true then (.zero, 7) else if freeB m f = false then (.zero, 21)
  else ({ m with tb := m.tb.set p.toNat ⟨wordM ⟨1, f, w, false, false, false⟩⟩, wd := m.wd.set f.toNat 0 }, 0)
def covsM (m : SM) (c : Nat) (p : Int) : Bool := (lookM (m.tl.getD c default).z (m.tl.getD c default).l 0 p).2
def ntfM (m : SM) (p : Int) : Nat → List (List IV) × Int
  | 0 => (m.pd, 0)
  | k + 1 => if covsM m k p = true then ((ntfM m p k).1.set k ((m.pd.getD k default) ++ [⟨0, p, false⟩]), (ntfM m p k).2 + 2 ^ k) else ntfM m p k
def tgtE (m : SM) (p : Int) : Int := if schk m ≠ 0 then schk m else if isP m p = false then 2 else if pgOk m.wd.length (tbW m p.toNat) = false then 6 else 0
def tgtX (m : SM) (p : Int) : Ent := (decR (tbW m p.toNat)).1
def unmapM (m : SM) (p : Int) : SM × Int :=
  if tgtE m p ≠ 0 then (.zero, tgtE m p) else
    ({ m with tb := m.tb.set p.toNat ⟨0⟩, pd := (ntfM m p m.tl.length).1, lm := if (ntfM m p m.tl.length).2 = 0 then m.lm else m.lm ++ [⟨(tgtX m p).n, (ntfM m p m.tl.length).2⟩] }, 0)
def protM (m : SM) (p : Int) : SM × Int :=
  if tgtE m p ≠ 0 then (.zero, tgtE m p) else if (tgtX m p).a = true then
    ({ m with tb := m.tb.set p.toNat ⟨wordM ⟨(tgtX m p).k, (tgtX m p).n, false, (tgtX m p).b, (tgtX m p).c, (tgtX m p).d⟩⟩, pd := (ntfM m p m.tl.length).1 }, 0) else (m, 0)
def useM (m : SM) (f : Int) (w : Bool) (v : Int) : SM := if w = true then { m with wd := m.wd.set f.toNat v } else m
def setTl (m : SM) (c : Nat) (l : List TE) : SM := { m with tl := m.tl.set c ⟨(m.tl.getD c default).z, l⟩ }
/-- An access that its cache serves. -/
def hitA (m : SM) (c p : Int) (w : Bool) : Bool := (lookM (m.tl.getD c.toNat default).z (m.tl.getD c.toNat default).l 0 p).2 &&
  (!w || ((decR (lookM (m.tl.getD c.toNat default).z (m.tl.getD c.toNat default).l 0 p).1).1.a && (decR (lookM (m.tl.getD c.toNat default).z (m.tl.getD c.toNat default).l 0 p).1).1.c))
def accG (m : SM) (c p : Int) (w : Bool) (v : Int) : SM × Int × Int :=
  if hitA m c p w = true then (useM m (decR (lookM (m.tl.getD c.toNat default).z (m.tl.getD c.toNat default).l 0 p).1).1.n w v, m.wd.getD (decR (lookM (m.tl.getD c.toNat default).z (m.tl.getD c.toNat default).l 0 p).1).1.n.toNat default, 0)
  else if pgOk m.wd.length (tbW m p.toNat) = false then (setTl m c.toNat (invL (m.tl.getD c.toNat default).l 0 p), 0, 13)
  else if w = true ∧ (tgtX m p).a = false then (setTl m c.toNat (invL (m.tl.getD c.toNat default).l 0 p), 0, 12)
  else (useM { (setTl m c.toNat (mkL (m.tl.getD c.toNat default).z (invL (m.tl.getD c.toNat default).l 0 p) (mkX 0 p (markR (tbW m p.toNat) w).1))) with tb := m.tb.set p.toNat ⟨(markR (tbW m p.toNat) w).1⟩ } (tgtX m p).n w v, m.wd.getD (tgtX m p).n.toNat default, 0)
def accM (m : SM) (c p : Int) (w : Bool) (v : Int) : SM × Int × Int := if schk m ≠ 0 then (.zero, 0, schk m) else if ¬ (0 ≤ c ∧ c < m.tl.length ∧ isP m p = true) then (.zero, 0, 2) else accG m c p w v
def invsL (l : List TE) (ps : List IV) : List TE := ps.foldl (fun l v => invL l 0 v.p) l
def clrA (c : Nat) (x : LB) : LB := ⟨x.f, if bitA x.a c = true then x.a - 2 ^ c else x.a⟩
def ackG (m : SM) (c : Nat) : SM := { (setTl m c (invsL (m.tl.getD c default).l (m.pd.getD c default))) with pd := m.pd.set c [], lm := (m.lm.map (clrA c)).filter fun x => !(x.a == 0) }
def ackM (m : SM) (c : Int) : SM × Int := if schk m ≠ 0 then (.zero, schk m) else if ¬ (0 ≤ c ∧ c < m.tl.length) then (.zero, 2) else (ackG m c.toNat, 0)
def quietM (m : SM) : Bool := decide (schk m = 0) && m.pd.all fun l => l.isEmpty
def freeM (m : SM) : List Int := if schk m ≠ 0 then [] else ((List.range m.wd.length).map fun (i : Nat) => (i : Int)).filter (freeB m)
def snewM (c z f p : Int) : SM × Int :=
  if c < 1 ∨ 4 < c ∨ z < 1 ∨ 16 < z ∨ f < 1 ∨ 256 < f ∨ p < 1 ∨ 512 < p then (.zero, 2) else (⟨List.replicate p.toNat ⟨0⟩, List.replicate c.toNat ⟨z, []⟩, List.replicate c.toNat [], [], List.replicate f.toNat 0⟩, 0)
/-- An operation of a script. -/
structure SO where
  k : Int
  c : Int
  p : Int
  f : Int
  w : Bool
  v : Int
  deriving DecidableEq
def sdoM (m : SM) (o : SO) : SM × Int × Int :=
  if o.k = 0 then ((mapM m o.p o.f o.w).1, 0, (mapM m o.p o.f o.w).2) else if o.k = 1 then ((unmapM m o.p).1, 0, (unmapM m o.p).2) else if o.k = 2 then ((protM m o.p).1, 0, (protM m o.p).2)
  else if o.k = 3 ∨ o.k = 4 then accM m o.c o.p (o.k == 4) o.v else ((ackM m o.c).1, 0, (ackM m o.c).2)
end Go.Proofs.Ytojfaelafakemaa
