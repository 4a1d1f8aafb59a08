/- Lists in plain terms. No conditions. -/
import Derived.Test.YthlildafofbiaaaAuto
set_option linter.unusedSimpArgs false
set_option linter.unusedVariables false
namespace Go.Proofs.Ythlildafofbiaaa
def eqB {α : Type} [DecidableEq α] (s x : α) : Bool := decide (s = x)
section
variable {α : Type} [Inhabited α] {p : α → Bool} {l m : List α} {k : Nat} {a : α}
theorem getD_get {j : Nat} (hj : j < l.length) : l.getD j default = l[j] := by
  rw [List.getD_eq_getElem?_getD, List.getElem?_eq_getElem hj]; rfl
theorem getD_any : l.any p = false ↔ ∀ j, j < l.length → p (l.getD j default) = false := by
  rw [List.any_eq_false]
  constructor
  · intro h j hj
    have := h _ (List.getElem_mem hj)
    rw [getD_get hj]
    simpa using this
  · intro h x hx
    obtain ⟨j, hj, rfl⟩ := List.getElem_of_mem hx
    have := h j hj
    rw [getD_get hj] at this
    simpa using this
/-- The first place of what p accepts, or -1. -/
def idxM {α : Type} (p : α → Bool) (l : List α) : Int := if l.any p then (l.findIdx p : Int) else -1
theorem idxM_some (hk : k < l.length) (hp : p (l.getD k default) = true) (hn : ∀ j, j < k → p (l.getD j default) = false) : idxM p l = (k : Int) := by
  have ha : l.any p = true := by
    rw [List.any_eq_true]
    exact ⟨l[k], List.getElem_mem hk, by rw [← getD_get hk]; exact hp⟩
  have : l.findIdx p = k := by
    rw [List.findIdx_eq hk]
    exact ⟨by rw [← getD_get hk]; exact hp, fun j hj => by rw [← getD_get (by omega)]; exact hn j hj⟩
  simp [idxM, ha, this]
theorem idxM_none (hn : ∀ j, j < l.length → p (l.getD j default) = false) : idxM p l = -1 := by
  simp [idxM, getD_any.2 hn]
theorem idxM_ge {α : Type} (p : α → Bool) (l : List α) : decide (idxM p l ≥ 0) = l.any p := by
  unfold idxM
  split <;> rename_i h <;> simp_all
theorem any_some (hk : k < l.length) (hp : p (l.getD k default) = true) : l.any p = true := by
  rw [List.any_eq_true]
  exact ⟨l[k], List.getElem_mem hk, by rw [← getD_get hk]; exact hp⟩
theorem idxM_lt {α : Type} {p : α → Bool} {l : List α} (h : l.any p = true) : 0 ≤ idxM p l ∧ (idxM p l).toNat < l.length := by
  rw [idxM, if_pos h]
  have : l.findIdx p < l.length := by
    rw [List.findIdx_lt_length]
    simpa using h
  omega
theorem idxM_at (h : l.any p = true) : p (l.getD (idxM p l).toNat default) = true := by
  have hlt := (idxM_lt h).2
  rw [getD_get hlt]
  rw [idxM, if_pos h] at hlt
  have := List.findIdx_getElem (p := p) (w := hlt)
  simpa [idxM, h] using this
theorem take_step (hk : k < l.length) : l.take (k + 1) = l.take k ++ [l.getD k default] := by
  rw [List.take_add_one, List.getD_eq_getElem?_getD, List.getElem?_eq_getElem hk]; rfl
theorem count_step (p : α → Bool) {l : List α} (hk : k < l.length) : (l.take (k + 1)).countP p = (l.take k).countP p + if p (l.getD k default) then 1 else 0 := by
  rw [take_step hk, List.countP_append, List.countP_singleton]
theorem count_le {α : Type} (p : α → Bool) (l : List α) (k : Nat) : (l.take k).countP p ≤ k :=
  Nat.le_trans List.countP_le_length (List.length_take_le _ _)
theorem all_step (hp : ∀ j, j < k → p (l.getD j default) = false) (h : p (l.getD k default) = false) : ∀ j, j < k + 1 → p (l.getD j default) = false := fun j hj => by
  rcases Nat.lt_or_eq_of_le (Nat.le_of_lt_succ hj) with h' | rfl
  · exact hp j h'
  · exact h
theorem all_next {q : Nat → Prop} (hp : ∀ j, j < k → q j) (h : q k) : ∀ j, j < k + 1 → q j := fun j hj => by
  rcases Nat.lt_or_eq_of_le (Nat.le_of_lt_succ hj) with h' | rfl
  · exact hp j h'
  · exact h
theorem set_self (hk : k < l.length) : l.set k (l.getD k default) = l := by
  rw [getD_get hk]; simp
theorem getD_set_self (hk : k < l.length) : (l.set k a).getD k default = a := by
  rw [getD_get (by simpa using hk)]; simp
theorem getD_set (j : Nat) (hk : k < l.length) : (l.set k a).getD j default = if j = k then a else l.getD j default := by
  by_cases h : j = k
  · subst h; rw [if_pos rfl, getD_set_self hk]
  · rw [if_neg h, List.getD_eq_getElem?_getD, List.getD_eq_getElem?_getD, List.getElem?_set_ne (fun e => h e.symm)]
theorem ext_getD (h : l.length = m.length) (h' : ∀ j, j < l.length → l.getD j default = m.getD j default) : l = m := by
  apply List.ext_getElem h
  intro j h1 h2
  rw [← getD_get h1, ← getD_get h2]
  exact h' j h1
theorem getD_app (j : Nat) : (l ++ m).getD j default = if j < l.length then l.getD j default else m.getD (j - l.length) default := by
  simp only [List.getD_eq_getElem?_getD]
  split
  · rw [List.getElem?_append_left (by assumption)]
  · rw [List.getElem?_append_right (by omega)]
theorem getD_take {j : Nat} (h : j < k) : (l.take k).getD j default = l.getD j default := by
  simp only [List.getD_eq_getElem?_getD]
  rw [List.getElem?_take, if_pos h]
theorem getD_drop (j : Nat) : (l.drop k).getD j default = l.getD (k + j) default := by
  simp only [List.getD_eq_getElem?_getD, List.getElem?_drop]
theorem getD_rep {j n : Nat} (h : j < n) : (List.replicate n a).getD j default = a := by
  rw [getD_get (by simpa using h), List.getElem_replicate]
end
end Go.Proofs.Ythlildafofbiaaa
