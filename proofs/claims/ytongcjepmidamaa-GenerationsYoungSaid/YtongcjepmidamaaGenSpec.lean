/- Lists of lists of frames, in plain terms. No conditions. -/
import Derived.Test.YtongcjepmidamaaALst
import Derived.Test.YtongcjepmidamaaLst
set_option linter.unusedSimpArgs false
set_option linter.unusedVariables false
namespace Go.Proofs.Ytongcjepmidamaa
abbrev GL := List (List Int)
def prT (L : GL) (i : Nat) : List (Nat × Int) := (List.range i).flatMap fun a => (L.getD a default).map fun f => (a, f)
def prL (L : GL) : List (Nat × Int) := prT L L.length
def off (L : GL) (i : Nat) : Nat := (prT L i).length
theorem prT_succ (L : GL) (i : Nat) : prT L (i + 1) = prT L i ++ (L.getD i default).map fun f => (i, f) := by
  unfold prT
  rw [List.range_succ, List.flatMap_append]
  simp
theorem off_succ (L : GL) (i : Nat) : off L (i + 1) = off L i + (L.getD i default).length := by
  unfold off
  rw [prT_succ, List.length_append, List.length_map]
theorem prT_pre (L : GL) (i : Nat) : ∀ d, ∃ r, prT L (i + d) = prT L i ++ r
  | 0 => ⟨[], by simp⟩
  | d + 1 => by
    obtain ⟨r, h⟩ := prT_pre L i d
    refine ⟨r ++ (L.getD (i + d) default).map fun f => (i + d, f), ?_⟩
    rw [← Nat.add_assoc, prT_succ, h, List.append_assoc]
theorem off_le (L : GL) {i : Nat} (hi : i ≤ L.length) : off L i ≤ (prL L).length := by
  obtain ⟨r, h⟩ := prT_pre L i (L.length - i)
  rw [show i + (L.length - i) = L.length by omega] at h
  unfold prL off
  rw [h, List.length_append]
  omega
theorem pr_get {L : GL} {i j : Nat} (hi : i < L.length) (hj : j < (L.getD i default).length) : off L i + j < (prL L).length ∧ (prL L).getD (off L i + j) default = (i, (L.getD i default).getD j default) := by
  have h1 := off_le L (i := i + 1) (by omega)
  rw [off_succ] at h1
  refine ⟨by omega, ?_⟩
  obtain ⟨r, h⟩ := prT_pre L (i + 1) (L.length - (i + 1))
  rw [show i + 1 + (L.length - (i + 1)) = L.length by omega, prT_succ] at h
  unfold prL
  rw [h, List.getD_eq_getElem?_getD, List.append_assoc, List.getElem?_append_right (by unfold off; omega), show off L i + j - (prT L i).length = j by unfold off; omega,
    List.getElem?_append_left (by rw [List.length_map]; exact hj), List.getElem?_map, List.getElem?_eq_getElem hj]
  exact congrArg (Prod.mk i) (getD_get hj).symm
theorem prT_snd (L : GL) : ∀ i, i ≤ L.length → (prT L i).map (·.2) = (L.take i).flatten
  | 0, _ => by simp [prT]
  | i + 1, hi => by
    rw [prT_succ, List.map_append, prT_snd L i (by omega), List.take_succ_eq_append_getElem (by omega), List.flatten_append, List.map_map]
    have : (L.getD i default).map ((fun p : Nat × Int => p.2) ∘ fun f => (i, f)) = L[i] := by
      rw [List.getD_eq_getElem?_getD, List.getElem?_eq_getElem (by omega)]
      simp only [Option.getD_some]
      exact List.map_id _
    rw [this]
    simp
theorem pr_snd (L : GL) : (prL L).map (·.2) = L.flatten := by
  have := prT_snd L L.length (Nat.le_refl _)
  rwa [List.take_length] at this
theorem pr_len (L : GL) : (prL L).length = L.flatten.length := by rw [← pr_snd, List.length_map]
def okF (f : Int) : Bool := decide (0 ≤ f ∧ f < 256)
def chkG (L : GL) : Int := if L.length ≠ 4 then 3 else if L.flatten.any (fun f => !okF f) then 2 else if dcN L.flatten ≠ L.flatten.length then 7 else 0
def agT (q : List (Nat × Int)) : List (Int × Int) := q.foldl (fun al p => aSet al p.2 (p.1 : Int)) []
theorem agT_snoc (q : List (Nat × Int)) (p : Nat × Int) : agT (q ++ [p]) = aSet (agT q) p.2 (p.1 : Int) := by unfold agT; rw [List.foldl_append]; rfl
def agM (L : GL) : List (Int × Int) := agT (prL L)
theorem agT_keys : ∀ (n : Nat) (q : List (Nat × Int)), q.length = n → (keysL (agT q)).Nodup ∧ ∀ x, x ∈ keysL (agT q) ↔ x ∈ q.map (·.2)
  | 0, q, h => by
    have : q = [] := List.eq_nil_of_length_eq_zero h
    subst this
    exact ⟨List.nodup_nil, fun x => by simp [agT, keysL]⟩
  | n + 1, q, h => by
    obtain ⟨q', p, rfl⟩ : ∃ q' p, q = q' ++ [p] := by
      rcases List.eq_nil_or_concat q with h' | ⟨q', p, h'⟩
      · rw [h'] at h; cases h
      · exact ⟨q', p, by rw [h', List.concat_eq_append]⟩
    obtain ⟨h1, h2⟩ := agT_keys n q' (by simp at h; omega)
    rw [agT_snoc]
    refine ⟨nodup_set h1 _ _, fun x => ?_⟩
    rw [keys_set, List.map_append, List.mem_append, ← h2]
    simp only [List.map_cons, List.map_nil, List.mem_singleton]
    split
    · rename_i hm
      constructor
      · exact .inl
      · rintro (h | rfl)
        · exact h
        · exact hm
    · rw [List.mem_append, List.mem_singleton]
theorem ag_len (L : GL) : (agM L).length = dcN L.flatten := by
  obtain ⟨h1, h2⟩ := agT_keys _ (prL L) rfl
  rw [← len_keys]
  refine dc_of h1 fun x => ?_
  unfold agM at *
  rw [h2, pr_snd]
theorem take_snoc {α : Type} [Inhabited α] {l : List α} {k : Nat} (h : k < l.length) : l.take (k + 1) = l.take k ++ [l.getD k default] := by
  rw [List.take_succ_eq_append_getElem h, List.getD_eq_getElem?_getD, List.getElem?_eq_getElem h]
  rfl
end Go.Proofs.Ytongcjepmidamaa
