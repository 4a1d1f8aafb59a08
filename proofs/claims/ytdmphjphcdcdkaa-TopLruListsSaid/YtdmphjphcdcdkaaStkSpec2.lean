/- What the reference of stackdist computes, in plain Lean. No conditions. -/
import Derived.Test.YtdmphjphcdcdkaaStkSpec
set_option linter.unusedSimpArgs false
set_option linter.unusedVariables false
namespace Go.Proofs.Ytdmphjphcdcdkaa
/-- A list without its element at a place. -/
def wl (s : List Int) (a : Int) : List Int := if 0 ≤ a then s.eraseIdx a.toNat else s
theorem wl_step (a : Int) {s : List Int} {i : Nat} (h : i < s.length) : wl (s.take (i + 1)) a = wl (s.take i) a ++ if (i : Int) = a then [] else [s.getD i default] := by
  have hl : (s.take i).length = i := by rw [List.length_take]; omega
  rw [take_step h]
  unfold wl
  by_cases h0 : 0 ≤ a
  · rw [if_pos h0, if_pos h0]
    rcases Nat.lt_trichotomy a.toNat i with h1 | h1 | h1
    · rw [if_neg (by omega), List.eraseIdx_append_of_lt_length (by omega)]
    · rw [if_pos (by omega), List.eraseIdx_append_of_length_le (by omega), hl, h1, Nat.sub_self]
      rw [List.eraseIdx_of_length_le (l := s.take i) (by omega)]
      rfl
    · rw [if_neg (by omega), List.eraseIdx_of_length_le (by simp; omega), List.eraseIdx_of_length_le (by omega)]
  · rw [if_neg h0, if_neg h0, if_neg (by omega)]
theorem wl_len (s : List Int) (a : Int) : (wl s a).length ≤ s.length := by
  unfold wl
  split
  · rw [List.length_eraseIdx]; split <;> omega
  · exact Nat.le_refl _
theorem wl_touch (s : List Int) (p : Int) : p :: wl s (touchD s p) = touchL s p := by
  by_cases h : touchD s p < 0
  · rw [touchL_no h]
    unfold wl
    rw [if_neg (by omega)]
  · obtain ⟨h1, h2, h3⟩ := touchL_at h
    rw [h3]
    unfold wl
    rw [if_pos (by omega), List.eraseIdx_eq_take_drop_succ]
theorem wl_last {s : List Int} (h : 0 < s.length) : wl s ((s.length : Int) - 1) = s.take (s.length - 1) := by
  unfold wl
  rw [if_pos (by omega), show ((s.length : Int) - 1).toNat = s.length - 1 by omega, List.eraseIdx_eq_take_drop_succ, List.drop_of_length_le (by omega), List.append_nil]
theorem wl_zero (s : List Int) : wl s 0 = s.drop 1 := by
  unfold wl
  rw [if_pos (by omega), List.eraseIdx_eq_take_drop_succ]
  rfl
theorem touchD_lt {s : List Int} {p : Int} : touchD s p < 0 ↔ ∀ j, j < s.length → ¬ s.getD j default = p := by
  constructor
  · intro h j hj e
    by_cases ha : s.any (eqB p) = true
    · have := (idxM_lt ha).1
      unfold touchD at h
      omega
    · exact ha (any_some hj (by simp only [eqB, decide_eq_true_eq]; exact e.symm))
  · intro h
    have : touchD s p = -1 := idxM_none fun j hj => by simp only [eqB, decide_eq_false_iff_not]; exact fun e => h j hj e.symm
    omega
theorem touchD_at {s : List Int} {p : Int} {k : Nat} (hk : k < s.length) (h : s.getD k default = p) (hn : ∀ j, j < k → ¬ s.getD j default = p) : touchD s p = (k : Int) :=
  idxM_some hk (by simp only [eqB, decide_eq_true_eq]; exact h.symm) fun j hj => by simp only [eqB, decide_eq_false_iff_not]; exact fun e => hn j hj e.symm
theorem touch_spec (s : List Int) (p : Int) : (touchD s p < 0 ∧ ∀ j, j < s.length → ¬ s.getD j default = p) ∨ ∃ k : Nat, touchD s p = (k : Int) ∧ k < s.length ∧ s.getD k default = p ∧ ∀ j, j < k → ¬ s.getD j default = p := by
  by_cases h : touchD s p < 0
  · exact .inl ⟨h, touchD_lt.1 h⟩
  · obtain ⟨h1, h2, _⟩ := touchL_at h
    have ha := touch_any h
    refine .inr ⟨(touchD s p).toNat, h1, h2, ?_, fun j hj e => ?_⟩
    · have := idxM_at ha
      exact (of_decide_eq_true this).symm
    · have he : (touchD s p).toNat = s.findIdx (eqB p) := by
        unfold touchD idxM; rw [ha]; rfl
      rw [he] at hj
      have := List.not_of_lt_findIdx hj
      rw [getD_get (by have := List.findIdx_le_length (p := eqB p) (xs := s); omega)] at e
      simp [eqB, e] at this
/-- A stack, cut to f pages: a page is not in it just if it is a fault with f frames. -/
theorem lru_miss (f : Nat) (s : List Int) (p : Int) : touchD (s.take f) p < 0 ↔ missB (f : Int) (touchD s p) = true := by
  unfold missB
  rw [Bool.or_eq_true, decide_eq_true_eq, decide_eq_true_eq]
  rcases touch_spec s p with ⟨h1, h2⟩ | ⟨k, h1, h2, h3, h4⟩
  · refine ⟨fun _ => .inl h1, fun _ => touchD_lt.2 fun j hj => ?_⟩
    rw [List.length_take] at hj
    rw [getD_take (by omega)]
    exact h2 j (by omega)
  · rw [h1]
    constructor
    · intro h
      right
      have := touchD_lt.1 h
      by_cases hk : k < f
      · exact absurd (by rw [getD_take hk]; exact h3) (this k (by rw [List.length_take]; omega))
      · omega
    · intro h
      refine touchD_lt.2 fun j hj => ?_
      rw [List.length_take] at hj
      rw [getD_take (by omega)]
      exact h4 j (by omega)
def truncL (f : Nat) (l : List Int) : List Int := if (l.length : Int) > (f : Int) then wl l ((l.length : Int) - 1) else l
theorem take_erase {s : List Int} {d f : Nat} (h : d < f) : (s.take f).eraseIdx d = (s.eraseIdx d).take (f - 1) := by
  apply List.ext_getElem?
  intro i
  rw [List.getElem?_take, List.getElem?_eraseIdx, List.getElem?_eraseIdx]
  by_cases h1 : i < d
  · rw [if_pos h1, if_pos h1, List.getElem?_take, if_pos (by omega), if_pos (by omega)]
  · rw [if_neg h1, if_neg h1, List.getElem?_take]
    by_cases h2 : i < f - 1
    · rw [if_pos h2, if_pos (by omega)]
    · rw [if_neg h2, if_neg (by omega)]
theorem take_erase' {s : List Int} {d f : Nat} (h : f ≤ d) : (s.eraseIdx d).take f = s.take f := by
  apply List.ext_getElem?
  intro i
  rw [List.getElem?_take, List.getElem?_take, List.getElem?_eraseIdx]
  by_cases h1 : i < f
  · rw [if_pos h1, if_pos h1, if_pos (by omega)]
  · rw [if_neg h1, if_neg h1]
theorem lru_step (f : Nat) (s : List Int) (p : Int) : truncL f (touchL (s.take f) p) = (touchL s p).take f := by
  have hlt : (s.take f).length = min f s.length := List.length_take
  rw [← wl_touch s p, ← wl_touch (s.take f) p]
  by_cases hm : touchD (s.take f) p < 0
  · have hms := (lru_miss f s p).1 hm
    have hw : wl (s.take f) (touchD (s.take f) p) = s.take f := by unfold wl; rw [if_neg (by omega)]
    rw [hw]
    have hS : (wl s (touchD s p)).take (f - 1) = s.take (f - 1) ∧ (s.length < f → wl s (touchD s p) = s) := by
      rcases touch_spec s p with ⟨h1, h2⟩ | ⟨k, h1, h2, h3, h4⟩
      · have : wl s (touchD s p) = s := by unfold wl; rw [if_neg (by omega)]
        exact ⟨by rw [this], fun _ => this⟩
      · unfold missB at hms
        rw [Bool.or_eq_true, decide_eq_true_eq, decide_eq_true_eq, h1] at hms
        refine ⟨?_, fun h => by omega⟩
        unfold wl
        rw [if_pos (by omega), h1, Int.toNat_natCast]
        exact take_erase' (by omega)
    unfold truncL
    split
    · rename_i hgt
      simp only [List.length_cons] at hgt
      rw [wl_last (by simp), List.length_cons, Nat.add_sub_cancel, hlt, Nat.min_eq_left (by omega)]
      cases f with
      | zero => rfl
      | succ f =>
        rw [List.take_succ_cons, List.take_succ_cons, List.take_take]
        rw [Nat.add_sub_cancel] at hS
        rw [hS.1, Nat.min_eq_left (by omega)]
    · rename_i hgt
      simp only [List.length_cons] at hgt
      have hls : s.length < f := by omega
      rw [hS.2 hls, List.take_of_length_le (by omega), List.take_of_length_le (by simp; omega)]
  · rcases touch_spec (s.take f) p with ⟨h1, _⟩ | ⟨k, h1, h2, h3, h4⟩
    · exact absurd h1 hm
    · rw [hlt] at h2
      have hkf : k < f := by omega
      have hk : touchD s p = (k : Int) := touchD_at (by omega) (by rw [getD_take hkf] at h3; exact h3) fun j hj => by have := h4 j hj; rwa [getD_take (by omega)] at this
      have e1 : wl (s.take f) (touchD (s.take f) p) = (s.eraseIdx k).take (f - 1) := by
        unfold wl
        rw [h1, if_pos (by omega), Int.toNat_natCast, take_erase hkf]
      have e2 : wl s (touchD s p) = s.eraseIdx k := by
        unfold wl
        rw [hk, if_pos (by omega), Int.toNat_natCast]
      rw [e1, e2]
      have hf : f = (f - 1) + 1 := by omega
      conv => rhs; rw [hf, List.take_succ_cons]
      unfold truncL
      rw [if_neg]
      rw [List.length_cons, List.length_take]
      omega
end Go.Proofs.Ytdmphjphcdcdkaa
