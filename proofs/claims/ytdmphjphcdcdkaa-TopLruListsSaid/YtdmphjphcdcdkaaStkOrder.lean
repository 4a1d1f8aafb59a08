/- LRU and FIFO as ways to serve the references, and the bounds on all of them. No conditions. -/
import Derived.Test.YtdmphjphcdcdkaaStkBel2
set_option linter.unusedSimpArgs false
set_option linter.unusedVariables false
namespace Go.Proofs.Ytdmphjphcdcdkaa
structure RStep (f : Nat) (r : Int) (q q' : Nat × List Int) : Prop where
  nd : q'.2.Nodup
  le : q'.2.length ≤ f
  sub : ∀ p ∈ q'.2, p ∈ q.2 ∨ p = r
  is : (r ∈ q.2 ∧ q'.1 = q.1 ∧ q'.2.length = q.2.length) ∨ (r ∉ q.2 ∧ q'.1 = q.1 + 1 ∧ r ∈ q'.2 ∧ (q.2.length + 1 ≤ f → q'.2.length = q.2.length + 1))
section
variable {refs : List Int} {f : Nat} {P : Nat → Nat × List Int}
theorem run_of (h : ∀ i, i < refs.length → RStep f (refs.getD i default) (P i) (P (i + 1))) : ∀ d i, d = refs.length - i → i ≤ refs.length → (P i).1 ≤ (P refs.length).1 ∧ Run refs f i (P i).2 ((P refs.length).1 - (P i).1)
  | 0, i, hd, hi => by
    have : i = refs.length := by omega
    subst this
    rw [Nat.sub_self]
    exact ⟨Nat.le_refl _, .done⟩
  | d + 1, i, hd, hi => by
    have hi' : i < refs.length := by omega
    obtain ⟨ih1, ih2⟩ := run_of h d (i + 1) (by omega) (by omega)
    have hs := h i hi'
    rcases hs.is with ⟨h1, h2, h3⟩ | ⟨h1, h2, h3, h4⟩
    · rw [h2] at ih1 ih2
      exact ⟨ih1, .hit hi' h1 hs.nd (fun p hp => (hs.sub p hp).elim id fun e => by rw [e]; exact h1) hs.le ih2⟩
    · rw [h2] at ih1 ih2
      have e : (P refs.length).1 - (P i).1 = ((P refs.length).1 - ((P i).1 + 1)) + 1 := by omega
      rw [e]
      exact ⟨by omega, .miss hi' h1 hs.nd hs.sub h3 hs.le ih2⟩
theorem run_full (h : ∀ i, i < refs.length → RStep f (refs.getD i default) (P i) (P (i + 1))) (h0 : P 0 = (0, [])) : Run refs f 0 [] (P refs.length).1 := by
  have := (run_of h refs.length 0 rfl (Nat.zero_le _)).2
  rw [h0] at this
  exact this
theorem few (h : ∀ i, i < refs.length → RStep f (refs.getD i default) (P i) (P (i + 1))) (h0 : P 0 = (0, [])) (hd : dcN refs ≤ f) : ∀ i, i ≤ refs.length → (P i).2.Nodup ∧ (∀ p ∈ (P i).2, p ∈ refs) ∧ (P i).1 = (P i).2.length
  | 0, _ => by rw [h0]; exact ⟨List.nodup_nil, fun p hp => (by cases hp), rfl⟩
  | i + 1, hi => by
    obtain ⟨g1, g2, g3⟩ := few h h0 hd i (by omega)
    have hs := h i (by omega)
    have hr : refs.getD i default ∈ refs := by rw [getD_get (by omega)]; exact List.getElem_mem _
    refine ⟨hs.nd, fun p hp => (hs.sub p hp).elim (g2 p) fun e => by rw [e]; exact hr, ?_⟩
    rcases hs.is with ⟨h1, h2, h3⟩ | ⟨h1, h2, h3, h4⟩
    · omega
    · have := nodup_le (K := refs.getD i default :: (P i).2) (L := ddL refs) (List.nodup_cons.2 ⟨h1, g1⟩) fun x hx => by
        rw [(dd_spec refs).2.2]
        rcases List.mem_cons.1 hx with rfl | hx
        · exact hr
        · exact g2 x hx
      rw [(dd_spec refs).1, List.length_cons] at this
      have := h4 (by omega)
      omega
theorem few_le (h : ∀ i, i < refs.length → RStep f (refs.getD i default) (P i) (P (i + 1))) (h0 : P 0 = (0, [])) (hd : dcN refs ≤ f) : (P refs.length).1 ≤ dcN refs := by
  obtain ⟨g1, g2, g3⟩ := few h h0 hd refs.length (Nat.le_refl _)
  have := nodup_le (K := (P refs.length).2) (L := ddL refs) g1 fun x hx => ((dd_spec refs).2.2 x).2 (g2 x hx)
  rw [(dd_spec refs).1] at this
  omega
theorem run_ge {i : Nat} {S : List Int} {c : Nat} (h : Run refs f i S c) : ∀ K : List Int, K.Nodup → (∀ p ∈ K, p ∈ refs.drop i) → (∀ p ∈ K, p ∉ S) → K.length ≤ c := by
  induction h with
  | done =>
    intro K _ h _
    cases K with
    | nil => exact Nat.le_refl _
    | cons x K => have := h x (List.mem_cons_self ..); rw [List.drop_length] at this; cases this
  | @hit i S S' c hi hr hn hs hl hR ih =>
    intro K hK h1 h2
    refine ih K hK (fun p hp => ?_) (fun p hp hm => h2 p hp (hs p hm))
    have := h1 p hp
    rw [List.drop_eq_getElem_cons hi] at this
    rcases List.mem_cons.1 this with e | h
    · exact absurd hr (by rw [getD_get hi, ← e]; exact h2 p hp)
    · exact h
  | @miss i S S' c hi hr hn hs hr' hl hR ih =>
    intro K hK h1 h2
    have hl := List.length_erase_of_mem (a := refs.getD i default) (l := K)
    have := ih (K.erase (refs.getD i default)) (hK.sublist (List.erase_sublist ..)) (fun p hp => ?_) (fun p hp hm => ?_)
    · by_cases hm : refs.getD i default ∈ K
      · have := hl hm; omega
      · rw [List.erase_of_not_mem hm] at this; omega
    · rw [hK.mem_erase_iff] at hp
      have := h1 p hp.2
      rw [List.drop_eq_getElem_cons hi] at this
      rcases List.mem_cons.1 this with e | h
      · exact absurd e (by have := hp.1; rwa [getD_get hi] at this)
      · exact h
    · rw [hK.mem_erase_iff] at hp
      rcases hs p hm with h | h
      · exact h2 p hp.2 h
      · exact hp.1 h
theorem run_dc {c : Nat} (h : Run refs f 0 [] c) : dcN refs ≤ c := by
  rw [← (dd_spec refs).1]
  exact run_ge h (ddL refs) (dd_spec refs).2.1 (fun p hp => by rw [List.drop_zero]; exact ((dd_spec refs).2.2 p).1 hp) (fun p _ h => by cases h)
/- LRU. -/
theorem touch_nd {s : List Int} (h : s.Nodup) (p : Int) : (touchL s p).Nodup := by
  unfold touchL
  rw [List.nodup_cons, h.mem_erase_iff]
  exact ⟨fun h => h.1 rfl, h.sublist (List.erase_sublist ..)⟩
theorem stk_nd (l : List Int) : ∀ i, i ≤ l.length → (stkL (l.take i)).Nodup
  | 0, _ => by simp [stkL, walkP]
  | i + 1, hi => by rw [(walk_step (l := l) (by omega)).2]; exact touch_nd (stk_nd l i (by omega)) _
def lruP (refs : List Int) (f : Nat) (i : Nat) : Nat × List Int := ((distL (refs.take i)).countP (missB (f : Int)), (stkL (refs.take i)).take f)
theorem lru_rstep (hf : 1 ≤ f) (i : Nat) (hi : i < refs.length) : RStep f (refs.getD i default) (lruP refs f i) (lruP refs f (i + 1)) := by
  obtain ⟨e1, e2⟩ := walk_step hi
  obtain ⟨r, hr⟩ : ∃ r, r = refs.getD i default := ⟨_, rfl⟩
  obtain ⟨s, hs⟩ : ∃ s, s = stkL (refs.take i) := ⟨_, rfl⟩
  have hn : s.Nodup := by rw [hs]; exact stk_nd refs i (by omega)
  unfold lruP
  rw [e1, e2, ← hr, ← hs]
  have hcs : (distL (refs.take i) ++ [touchD s r]).countP (missB (f : Int)) = (distL (refs.take i)).countP (missB (f : Int)) + if missB (f : Int) (touchD s r) then 1 else 0 := by
    rw [List.countP_append]
    simp [List.countP_cons]
  have htn := touch_nd hn r
  have hmiss : r ∈ s.take f ↔ ¬ missB (f : Int) (touchD s r) = true := by
    rw [← lru_miss, ← touchD_mem]
    omega
  have hsub : ∀ p ∈ (touchL s r).take f, p ∈ s.take f ∨ p = r := fun p hp => by
    rw [← lru_step] at hp
    have : p ∈ touchL (s.take f) r := by
      unfold truncL at hp
      split at hp
      · rw [wl_last (by unfold touchL; simp)] at hp
        exact List.mem_of_mem_take hp
      · exact hp
    unfold touchL at this
    rcases List.mem_cons.1 this with h | h
    · exact .inr h
    · exact .inl (List.mem_of_mem_erase h)
  have hrin : r ∈ (touchL s r).take f := by
    unfold touchL
    cases f with
    | zero => omega
    | succ g => rw [List.take_succ_cons]; exact List.mem_cons_self ..
  refine ⟨htn.sublist (List.take_sublist ..), by rw [List.length_take]; omega, hsub, ?_⟩
  simp only
  rw [hcs]
  have htl : (touchL s r).length = if r ∈ s then s.length else s.length + 1 := by
    unfold touchL
    rw [List.length_cons]
    split
    · rename_i h
      have := List.length_pos_of_mem h
      rw [List.length_erase_of_mem h]
      omega
    · rename_i h
      rw [List.erase_of_not_mem h]
  by_cases hm : r ∈ s.take f
  · rw [if_neg (hmiss.1 hm)]
    rw [if_pos (List.mem_of_mem_take hm)] at htl
    exact .inl ⟨hm, rfl, by rw [List.length_take, List.length_take, htl]⟩
  · rw [if_pos (Decidable.byContradiction fun h => hm (hmiss.2 h))]
    refine .inr ⟨hm, rfl, hrin, fun hle => ?_⟩
    rw [List.length_take] at hle ⊢
    rw [List.length_take]
    have hsl : s.length < f := by omega
    have hrs : r ∉ s := by rwa [List.take_of_length_le (by omega)] at hm
    rw [if_neg hrs] at htl
    omega
theorem lru_run (hf : 1 ≤ f) : Run refs f 0 [] (lruN refs (f : Int)) := by
  have := run_full (refs := refs) (P := lruP refs f) (lru_rstep hf) (by unfold lruP; simp [stkL, distL, walkP])
  unfold lruP at this
  rw [List.take_length] at this
  exact this
theorem lru_few (hf : 1 ≤ f) (hd : dcN refs ≤ f) : lruN refs (f : Int) ≤ dcN refs := by
  have := few_le (refs := refs) (P := lruP refs f) (lru_rstep hf) (by unfold lruP; simp [stkL, distL, walkP]) hd
  unfold lruP at this
  rw [List.take_length] at this
  exact this
/- FIFO. -/
theorem fifo_inv (l : List Int) (f : Nat) : ∀ i, i ≤ l.length → (fifoP (f : Int) (l.take i)).2.Nodup ∧ (fifoP (f : Int) (l.take i)).2.length ≤ f
  | 0, _ => by simp [fifoP]
  | i + 1, hi => by
    obtain ⟨h1, h2⟩ := fifo_inv l f i (by omega)
    rw [fifo_step (f : Int) (by omega)]
    obtain ⟨r, hr⟩ : ∃ r, r = l.getD i default := ⟨_, rfl⟩
    rw [← hr]
    unfold fifoS
    split
    · exact ⟨h1, h2⟩
    · rename_i ha
      have hni : r ∉ (fifoP (f : Int) (l.take i)).2 := fun h => ha (List.any_eq_true.2 ⟨r, h, by unfold eqB; simp⟩)
      have hn2 : ((fifoP (f : Int) (l.take i)).2 ++ [r]).Nodup := by
        rw [List.nodup_append]
        exact ⟨h1, by simp, fun a ha b hb => by rw [List.mem_singleton.1 hb]; exact fun e => hni (e ▸ ha)⟩
      simp only
      split
      · exact ⟨hn2.sublist (List.drop_sublist ..), by rw [List.length_drop, List.length_append]; simp; omega⟩
      · exact ⟨hn2, by omega⟩
theorem fifo_rstep (hf : 1 ≤ f) (i : Nat) (hi : i < refs.length) : RStep f (refs.getD i default) (fifoP (f : Int) (refs.take i)) (fifoP (f : Int) (refs.take (i + 1))) := by
  obtain ⟨g1, g2⟩ := fifo_inv refs f i (by omega)
  obtain ⟨k1, k2⟩ := fifo_inv refs f (i + 1) (by omega)
  have hst := fifo_step (f : Int) (l := refs) (i := i) hi
  obtain ⟨n, q, hq⟩ : ∃ n q, fifoP (f : Int) (refs.take i) = (n, q) := ⟨_, _, rfl⟩
  obtain ⟨r, hr⟩ : ∃ r, r = refs.getD i default := ⟨_, rfl⟩
  rw [hq, ← hr] at hst
  rw [hq] at g1 g2 ⊢
  rw [← hr]
  simp only at g1 g2
  by_cases hm : r ∈ q
  · have ha : q.any (eqB r) = true := List.any_eq_true.2 ⟨r, hm, by unfold eqB; simp⟩
    have e : fifoP (f : Int) (refs.take (i + 1)) = (n, q) := by rw [hst]; unfold fifoS; rw [if_pos ha]
    rw [e]
    exact ⟨g1, g2, fun p hp => .inl hp, .inl ⟨hm, rfl, rfl⟩⟩
  · have ha : ¬ q.any (eqB r) = true := fun h => by
      obtain ⟨x, hx, he⟩ := List.any_eq_true.1 h
      unfold eqB at he
      have : r = x := by simpa using he
      exact hm (this ▸ hx)
    have e : fifoP (f : Int) (refs.take (i + 1)) = (n + 1, if ((q ++ [r]).length : Int) > (f : Int) then (q ++ [r]).drop 1 else q ++ [r]) := by rw [hst]; unfold fifoS; rw [if_neg ha]
    refine ⟨k1, k2, ?_, ?_⟩
    · rw [e]
      simp only
      intro p hp
      have : p ∈ q ++ [r] := by
        split at hp
        · exact List.mem_of_mem_drop hp
        · exact hp
      rwa [List.mem_append, List.mem_singleton] at this
    · rw [e]
      refine .inr ⟨hm, rfl, ?_, fun hle => ?_⟩
      · simp only
        split
        · rename_i hgt
          cases q with
          | nil => simp at hgt; omega
          | cons x q => simp
        · simp
      · simp only at hle ⊢
        rw [if_neg (by simp; omega)]
        simp
theorem fifo_run (hf : 1 ≤ f) : Run refs f 0 [] (fifoP (f : Int) refs).1 := by
  have := run_full (refs := refs) (P := fun i => fifoP (f : Int) (refs.take i)) (fifo_rstep hf) (by simp [fifoP])
  rwa [List.take_length] at this
theorem fifo_few (hf : 1 ≤ f) (hd : dcN refs ≤ f) : (fifoP (f : Int) refs).1 ≤ dcN refs := by
  have := few_le (refs := refs) (P := fun i => fifoP (f : Int) (refs.take i)) (fifo_rstep hf) (by simp [fifoP]) hd
  rwa [List.take_length] at this
theorem lru_zero (l : List Int) : lruN l 0 = l.length := by
  unfold lruN
  have h1 := (walk_len l l.length (Nat.le_refl _)).1
  rw [List.take_length] at h1
  rw [← h1, List.countP_eq_length]
  intro d _
  unfold missB
  rw [Bool.or_eq_true, decide_eq_true_eq, decide_eq_true_eq]
  omega
theorem fifo_zero (l : List Int) : ∀ i, i ≤ l.length → fifoP 0 (l.take i) = (i, [])
  | 0, _ => by simp [fifoP]
  | i + 1, hi => by
    rw [fifo_step 0 (by omega), fifo_zero l i (by omega)]
    unfold fifoS
    simp
theorem opt_run (hf : 1 ≤ f) : Run refs f 0 [] (optN refs (f : Int)) := bel_run (opt_bel hf) List.nodup_nil (Nat.zero_le _)
/- All that the law asks. -/
theorem order_all (refs : List Int) (f : Nat) :
    (f = 0 → lruN refs (f : Int) = refs.length ∧ (fifoP (f : Int) refs).1 = refs.length ∧ optN refs (f : Int) = refs.length) ∧
    (1 ≤ f → dcN refs ≤ f → lruN refs (f : Int) = dcN refs ∧ (fifoP (f : Int) refs).1 = dcN refs ∧ optN refs (f : Int) = dcN refs) ∧
    (1 ≤ f → optN refs (f : Int) ≤ lruN refs (f : Int) ∧ optN refs (f : Int) ≤ (fifoP (f : Int) refs).1 ∧ dcN refs ≤ optN refs (f : Int)) := by
  have h3 : 1 ≤ f → optN refs (f : Int) ≤ lruN refs (f : Int) ∧ optN refs (f : Int) ≤ (fifoP (f : Int) refs).1 ∧ dcN refs ≤ optN refs (f : Int) := fun hf =>
    ⟨bel_best (opt_bel hf) (lru_run hf), bel_best (opt_bel hf) (fifo_run hf), run_dc (opt_run hf)⟩
  refine ⟨fun e => ?_, fun hf hd => ?_, h3⟩
  · subst e
    refine ⟨lru_zero refs, ?_, optN_zero refs⟩
    have := fifo_zero refs refs.length (Nat.le_refl _)
    rw [List.take_length] at this
    show (fifoP 0 refs).1 = _
    rw [this]
  · obtain ⟨a1, a2, a3⟩ := h3 hf
    have b1 := lru_few hf hd
    have b2 := fifo_few hf hd
    omega
end
end Go.Proofs.Ytdmphjphcdcdkaa
