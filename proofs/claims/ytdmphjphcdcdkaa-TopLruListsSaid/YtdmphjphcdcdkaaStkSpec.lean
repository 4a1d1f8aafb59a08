/- What package stackdist computes, in plain Lean. No conditions. -/
import Derived.Test.YtdmphjphcdcdkaaLst
set_option linter.unusedSimpArgs false
set_option linter.unusedVariables false
namespace Go.Proofs.Ytdmphjphcdcdkaa
def touchD (s : List Int) (p : Int) : Int := idxM (eqB p) s
def touchL (s : List Int) (p : Int) : List Int := p :: s.erase p
theorem erase_at : ∀ {s : List Int} {k : Nat} {p : Int}, k < s.length → s.getD k default = p → (∀ j, j < k → ¬ s.getD j default = p) → s.erase p = s.take k ++ s.drop (k + 1)
  | [], k, _, h, _, _ => by simp at h
  | x :: s, 0, p, _, h, _ => by
    have : x = p := h
    subst this
    simp
  | x :: s, k + 1, p, hk, h, hn => by
    have hx : ¬ x = p := hn 0 (by omega)
    rw [List.erase_cons_tail (by simpa using hx)]
    rw [erase_at (k := k) (by simpa using hk) h (fun j hj => hn (j + 1) (by omega))]
    simp
theorem erase_no {s : List Int} {p : Int} (h : s.any (eqB p) = false) : s.erase p = s := by
  rw [List.any_eq_false] at h
  exact List.erase_of_not_mem fun hm => h p hm (by simp [eqB])
theorem touchL_no {s : List Int} {p : Int} (h : touchD s p < 0) : touchL s p = p :: s := by
  have ha : s.any (eqB p) = false := by
    cases ha : s.any (eqB p)
    · rfl
    · have := (idxM_lt ha).1
      unfold touchD at h
      omega
  unfold touchL
  rw [erase_no ha]
theorem touch_any {s : List Int} {p : Int} (h : ¬ touchD s p < 0) : s.any (eqB p) = true := by
  cases ha : s.any (eqB p)
  · exfalso
    apply h
    unfold touchD idxM
    rw [ha]
    simp
  · rfl
theorem touchL_at {s : List Int} {p : Int} (h : ¬ touchD s p < 0) : touchD s p = ((touchD s p).toNat : Int) ∧ (touchD s p).toNat < s.length ∧ touchL s p = p :: (s.take (touchD s p).toNat ++ s.drop ((touchD s p).toNat + 1)) := by
  have ha := touch_any h
  obtain ⟨h1, h2⟩ := idxM_lt ha
  have h3 := idxM_at ha
  refine ⟨by unfold touchD; omega, h2, ?_⟩
  unfold touchL
  rw [erase_at h2 (of_decide_eq_true h3).symm]
  · rfl
  · intro j hj e
    have he : (idxM (eqB p) s).toNat = s.findIdx (eqB p) := by
      unfold idxM; rw [ha]; rfl
    rw [he] at hj
    have := List.not_of_lt_findIdx hj
    rw [getD_get (by have := List.findIdx_le_length (p := eqB p) (xs := s); omega)] at e
    simp [eqB, e] at this
theorem touchL_len (s : List Int) (p : Int) : (touchL s p).length ≤ s.length + 1 := by
  unfold touchL
  have := List.length_erase_le (a := p) (l := s)
  simp only [List.length_cons]
  omega
def walkP (refs : List Int) : List Int × List Int := refs.foldl (fun q p => (q.1 ++ [touchD q.2 p], touchL q.2 p)) ([], [])
def distL (refs : List Int) : List Int := (walkP refs).1
def stkL (refs : List Int) : List Int := (walkP refs).2
theorem walk_app (l : List Int) (p : Int) : distL (l ++ [p]) = distL l ++ [touchD (stkL l) p] ∧ stkL (l ++ [p]) = touchL (stkL l) p := by
  unfold distL stkL walkP
  rw [List.foldl_append]
  exact ⟨rfl, rfl⟩
theorem walk_step {l : List Int} {i : Nat} (h : i < l.length) : distL (l.take (i + 1)) = distL (l.take i) ++ [touchD (stkL (l.take i)) (l.getD i default)] ∧ stkL (l.take (i + 1)) = touchL (stkL (l.take i)) (l.getD i default) := by
  rw [take_step h]
  exact walk_app _ _
theorem walk_len (l : List Int) : ∀ i, i ≤ l.length → (distL (l.take i)).length = i ∧ (stkL (l.take i)).length ≤ i
  | 0, _ => by simp [distL, stkL, walkP]
  | i + 1, h => by
    obtain ⟨h1, h2⟩ := walk_len l i (by omega)
    obtain ⟨e1, e2⟩ := walk_step (l := l) (i := i) (by omega)
    rw [e1, e2]
    have := touchL_len (stkL (l.take i)) (l.getD i default)
    exact ⟨by rw [List.length_append, h1]; rfl, by omega⟩
def reqE (n : Nat) (k : Int) : Int := if 4096 < n then 9 else if k < 0 ∨ 4096 < k then 2 else 0
theorem req_ok {n : Nat} {k : Int} (h : reqE n k = 0) : n ≤ 4096 ∧ 0 ≤ k ∧ k ≤ 4096 := by
  unfold reqE at h
  split at h
  · cases h
  · split at h
    · cases h
    · omega
def missB (f : Int) (d : Int) : Bool := decide (d < 0) || decide (d ≥ f)
def lruN (refs : List Int) (f : Int) : Nat := (distL refs).countP (missB f)
def lruS (refs : List Int) (f : Int) : List Int := (stkL refs).take f.toNat
/- First in, first out: the queue and the faults. -/
def fifoS (f : Int) (q : Nat × List Int) (p : Int) : Nat × List Int := if q.2.any (eqB p) then q else (q.1 + 1, if ((q.2 ++ [p]).length : Int) > f then (q.2 ++ [p]).drop 1 else q.2 ++ [p])
def fifoP (f : Int) (refs : List Int) : Nat × List Int := refs.foldl (fifoS f) (0, [])
theorem fifo_step (f : Int) {l : List Int} {i : Nat} (h : i < l.length) : fifoP f (l.take (i + 1)) = fifoS f (fifoP f (l.take i)) (l.getD i default) := by
  unfold fifoP
  rw [take_step h, List.foldl_append]
  rfl
theorem fifo_len (f : Int) (l : List Int) : ∀ i, i ≤ l.length → (fifoP f (l.take i)).1 ≤ i ∧ (fifoP f (l.take i)).2.length ≤ i
  | 0, _ => by simp [fifoP]
  | i + 1, h => by
    obtain ⟨h1, h2⟩ := fifo_len f l i (by omega)
    rw [fifo_step f (by omega)]
    unfold fifoS
    split
    · omega
    · simp only
      split <;> simp <;> omega
end Go.Proofs.Ytdmphjphcdcdkaa
