/- Association lists in plain terms. No conditions. -/
import Derived.Test.YthlildafofbiaaaMap
set_option linter.unusedSimpArgs false
set_option linter.unusedVariables false
namespace Go.Proofs.Ythlildafofbiaaa
section
variable {β : Type}
def keysL (l : List (Int × β)) : List Int := l.map (·.1)
theorem find_none : ∀ {l : List (Int × β)} {k : Int}, aFind l k = none ↔ k ∉ keysL l
  | [], k => by simp [aFind, keysL]
  | p :: r, k => by
    rw [aFind]
    have ih := find_none (l := r) (k := k)
    by_cases e : k = p.1
    · rw [if_pos e]; simp [keysL, e]
    · rw [if_neg e]
      have : (aFind r k).map (fun q => (q.1 + 1, q.2)) = none ↔ aFind r k = none := by cases aFind r k <;> simp
      rw [this, ih]
      simp [keysL, e]
theorem get_none {l : List (Int × β)} {k : Int} : aGet l k = none ↔ k ∉ keysL l := by
  unfold aGet
  rw [← find_none]
  cases aFind l k <;> simp
theorem get_cons (p : Int × β) (r : List (Int × β)) (k : Int) : aGet (p :: r) k = if k = p.1 then some p.2 else aGet r k := by
  unfold aGet
  rw [aFind]
  split
  · rfl
  · cases aFind r k <;> rfl
theorem set_none {l : List (Int × β)} {k : Int} (h : aGet l k = none) (v : β) : aSet l k v = l ++ [(k, v)] := by
  have : aFind l k = none := by rw [find_none]; exact get_none.1 h
  unfold aSet; rw [this]
theorem find_cons_ne {p : Int × β} {r : List (Int × β)} {k : Int} (e : ¬ k = p.1) : aFind (p :: r) k = (aFind r k).map fun q => (q.1 + 1, q.2) := by rw [aFind, if_neg e]
theorem set_cons (p : Int × β) (r : List (Int × β)) (k : Int) (v : β) : aSet (p :: r) k v = if k = p.1 then (k, v) :: r else p :: aSet r k v := by
  by_cases e : k = p.1
  · rw [if_pos e]; unfold aSet; rw [aFind, if_pos e]; rfl
  · rw [if_neg e]; unfold aSet; rw [find_cons_ne e]
    cases aFind r k <;> rfl
theorem del_cons (p : Int × β) (r : List (Int × β)) (k : Int) : aDel (p :: r) k = if k = p.1 then r else p :: aDel r k := by
  by_cases e : k = p.1
  · rw [if_pos e]; unfold aDel; rw [aFind, if_pos e]; rfl
  · rw [if_neg e]; unfold aDel; rw [find_cons_ne e]
    cases aFind r k <;> rfl
theorem get_set : ∀ (l : List (Int × β)) (k k' : Int) (v : β), aGet (aSet l k v) k' = if k' = k then some v else aGet l k'
  | [], k, k', v => by
    have : aSet ([] : List (Int × β)) k v = [(k, v)] := rfl
    rw [this, get_cons]
  | p :: r, k, k', v => by
    rw [set_cons]
    by_cases e : k = p.1
    · rw [if_pos e, get_cons, get_cons]
      by_cases e' : k' = k
      · simp [e']
      · simp [e', ← e]
    · rw [if_neg e, get_cons, get_cons, get_set r k k' v]
      by_cases e' : k' = p.1
      · rw [if_pos e', if_pos e', if_neg]
        omega
      · rw [if_neg e', if_neg e']
theorem get_del : ∀ {l : List (Int × β)} (k k' : Int), (keysL l).Nodup → aGet (aDel l k) k' = if k' = k then none else aGet l k'
  | [], k, k', _ => by
    have : aDel ([] : List (Int × β)) k = [] := rfl
    rw [this]
    split <;> rfl
  | p :: r, k, k', h => by
    have h' := List.nodup_cons.1 h
    rw [del_cons]
    by_cases e : k = p.1
    · rw [if_pos e, get_cons]
      by_cases e' : k' = k
      · rw [if_pos e', get_none, e', e]; exact h'.1
      · rw [if_neg e', if_neg (by omega)]
    · rw [if_neg e, get_cons, get_cons, get_del k k' h'.2]
      by_cases e' : k' = p.1
      · rw [if_pos e', if_pos e', if_neg]; omega
      · rw [if_neg e', if_neg e']
theorem keys_set : ∀ (l : List (Int × β)) (k : Int) (v : β), keysL (aSet l k v) = if k ∈ keysL l then keysL l else keysL l ++ [k]
  | [], k, v => rfl
  | p :: r, k, v => by
    rw [set_cons]
    by_cases e : k = p.1
    · rw [if_pos e, if_pos (by simp [keysL, e])]
      simp [keysL, e]
    · rw [if_neg e]
      have ih := keys_set r k v
      show p.1 :: keysL (aSet r k v) = _
      rw [ih, show keysL (p :: r) = p.1 :: keysL r from rfl]
      by_cases hm : k ∈ keysL r
      · rw [if_pos hm, if_pos (List.mem_cons_of_mem _ hm)]
      · rw [if_neg hm, if_neg (by rw [List.mem_cons, not_or]; exact ⟨e, hm⟩)]; rfl
theorem nodup_set {l : List (Int × β)} (h : (keysL l).Nodup) (k : Int) (v : β) : (keysL (aSet l k v)).Nodup := by
  rw [keys_set]
  split
  · exact h
  · rename_i hm
    rw [List.nodup_append]
    exact ⟨h, by simp, fun a ha b hb => by rw [List.mem_singleton.1 hb]; exact fun e => hm (e ▸ ha)⟩
theorem keys_del : ∀ (l : List (Int × β)) (k : Int), keysL (aDel l k) = (keysL l).erase k
  | [], k => rfl
  | p :: r, k => by
    rw [del_cons]
    by_cases e : k = p.1
    · rw [if_pos e]; simp [keysL, e]
    · rw [if_neg e]
      show p.1 :: keysL (aDel r k) = (p.1 :: keysL r).erase k
      rw [keys_del r k, List.erase_cons_tail (by simpa using fun h => e h.symm)]
theorem nodup_del {l : List (Int × β)} (h : (keysL l).Nodup) (k : Int) : (keysL (aDel l k)).Nodup := by
  rw [keys_del]
  exact h.sublist (List.erase_sublist ..)
theorem len_keys (l : List (Int × β)) : (keysL l).length = l.length := List.length_map ..
theorem len_set (l : List (Int × β)) (k : Int) (v : β) : (aSet l k v).length = if k ∈ keysL l then l.length else l.length + 1 := by
  have := congrArg List.length (keys_set l k v)
  rw [len_keys] at this
  rw [this]
  split
  · exact len_keys l
  · rw [List.length_append, len_keys]; rfl
theorem mem_get {l : List (Int × β)} (h : (keysL l).Nodup) {p : Int × β} (hm : p ∈ l) : aGet l p.1 = some p.2 := by
  induction l with
  | nil => cases hm
  | cons q r ih =>
    have h' := List.nodup_cons.1 h
    rw [get_cons]
    rcases List.mem_cons.1 hm with rfl | hm
    · rw [if_pos rfl]
    · rw [if_neg, ih h'.2 hm]
      intro e
      exact h'.1 (List.mem_map.2 ⟨p, hm, e⟩)
theorem get_mem {l : List (Int × β)} {k : Int} {v : β} (h : aGet l k = some v) : (k, v) ∈ l := by
  unfold aGet at h
  cases hf : aFind l k with
  | none => rw [hf] at h; cases h
  | some q =>
    rw [hf] at h
    obtain ⟨j, v'⟩ := q
    simp only [Option.map_some, Option.some.injEq] at h
    subst h
    exact List.mem_of_getElem? (aFind_some hf)
end
/-- A list without repetitions is no longer than one that has all its elements. -/
theorem nodup_le : ∀ {K L : List Int}, K.Nodup → (∀ x ∈ K, x ∈ L) → K.length ≤ L.length
  | [], _, _, _ => Nat.zero_le _
  | x :: K, L, h, hs => by
    have h' := List.nodup_cons.1 h
    have hx := hs x (List.mem_cons_self ..)
    have := nodup_le (K := K) (L := L.erase x) h'.2 fun y hy => by
      have hne : y ≠ x := fun e => h'.1 (e ▸ hy)
      exact (List.mem_erase_of_ne hne).2 (hs y (List.mem_cons_of_mem _ hy))
    rw [List.length_erase_of_mem hx] at this
    have := List.length_pos_of_mem hx
    simp only [List.length_cons]
    omega
/-- The number of different elements: of those that do not come again. -/
def dcN : List Int → Nat
  | [] => 0
  | x :: r => (if x ∈ r then 0 else 1) + dcN r
def ddL : List Int → List Int
  | [] => []
  | x :: r => if x ∈ r then ddL r else x :: ddL r
theorem dd_spec : ∀ l : List Int, (ddL l).length = dcN l ∧ (ddL l).Nodup ∧ ∀ x, x ∈ ddL l ↔ x ∈ l
  | [] => by simp [ddL, dcN]
  | x :: r => by
    obtain ⟨h1, h2, h3⟩ := dd_spec r
    unfold ddL dcN
    by_cases e : x ∈ r
    · rw [if_pos e, if_pos e]
      refine ⟨by omega, h2, fun y => ?_⟩
      rw [h3, List.mem_cons]
      constructor
      · exact .inr
      · rintro (rfl | h)
        · exact e
        · exact h
    · rw [if_neg e, if_neg e]
      refine ⟨by simp [h1]; omega, List.nodup_cons.2 ⟨fun h => e ((h3 x).1 h), h2⟩, fun y => ?_⟩
      rw [List.mem_cons, List.mem_cons, h3]
theorem dc_of {K W : List Int} (h : K.Nodup) (hm : ∀ x, x ∈ K ↔ x ∈ W) : K.length = dcN W := by
  obtain ⟨h1, h2, h3⟩ := dd_spec W
  rw [← h1]
  exact Nat.le_antisymm (nodup_le h fun x hx => (h3 x).2 ((hm x).1 hx)) (nodup_le h2 fun x hx => (hm x).2 ((h3 x).1 hx))
end Go.Proofs.Ythlildafofbiaaa
