/- From the reading of an argument that is an array by value to a list of its elements. No conditions. -/
import Derived.Test.YthlildafofbiaaaLiftS
set_option linter.unusedVariables false
namespace Go.Proofs.Ythlildafofbiaaa
open Go Go.ChangeShapes Go.WideShapes Go.ChangeAt Go.RowKit
section
variable {H : Type} {enc : TypeId × Value → H} {P : Program} {w : World} {base : Nat} {spare : Nat → Bool} {held : Bool}
theorem okWide_arr {r : Reach} {b0 n e : Nat} {t : TypeId} {v : Value} (ht : P.underlying t = some (.array n e)) (h : Value.okWide P w r b0 t v) : ∃ cs, v = .agg cs ∧ cs.size = P.cellsOf t := by
  simp only [Value.okWide, ht] at h
  obtain ⟨cs, h1, h2, _⟩ := h
  exact ⟨cs, h1, h2⟩
theorem arr_cells {α : Type} [Enc α] {W : α → Prop} {t e n fuel : Nat} {cs : List Value} {x : DataW H × List MemPlace} [hR : Rds P e α W] (ht : P.underlying t = some (.array n e)) (hc : P.cellsOf t = n * P.cellsOf e) (h : DataW.trod enc P w base spare held fuel t cs = some x) :
    ∃ l : List α, cs = encs l ∧ l.length = n ∧ ∀ a ∈ l, W a := by
  obtain ⟨xs, m, _, _, hl, hx, hg⟩ := DataW.trod_array ht h
  rw [hc] at hl
  have hsz := hR.sz
  have hpos : 0 < Enc.sz α := Enc.pos
  obtain ⟨l, hll, hl2⟩ := choose_list (α := α) (p := fun i y => (cs.drop (i * Enc.sz α)).take (Enc.sz α) = Enc.enc y ∧ W y) n fun i hi => by
    have h1 := hg i hi
    rw [List.getElem?_eq_getElem (by omega), hsz] at h1
    have hlen : ((cs.drop (i * Enc.sz α)).take (Enc.sz α)).length = Enc.sz α := by
      have : (i + 1) * Enc.sz α ≤ n * Enc.sz α := Nat.mul_le_mul_right _ hi
      rw [Nat.add_mul] at this
      rw [List.length_take, List.length_drop, hl, hsz]
      omega
    obtain ⟨y, h2, h3⟩ := hR.rd h1 hlen
    exact ⟨y, h2, h3⟩
  refine ⟨l, ?_, hll, fun a ha => ?_⟩
  · apply List.ext_getElem?
    intro j
    by_cases hj : j < n * Enc.sz α
    · have hi : j / Enc.sz α < n := Nat.div_lt_of_lt_mul (by rw [Nat.mul_comm]; exact hj)
      have e1 : j / Enc.sz α * Enc.sz α + j % Enc.sz α = j := by rw [Nat.mul_comm]; exact Nat.div_add_mod j _
      have hm : j % Enc.sz α < Enc.sz α := Nat.mod_lt _ hpos
      have h1 := encs_get (l := l) (i := j / Enc.sz α) (j := j % Enc.sz α) (by omega) hm
      rw [e1, ← (hl2 _ hi).1, List.getElem?_take, if_pos hm, List.getElem?_drop, e1] at h1
      exact h1.symm
    · rw [List.getElem?_eq_none (by rw [hl, hsz]; omega), List.getElem?_eq_none (by rw [length_encs, hll]; omega)]
  · obtain ⟨j, hj, rfl⟩ := mem_getD ha
    exact (hl2 j (by omega)).2
theorem arr_val {α : Type} [Enc α] {W : α → Prop} {r : Reach} {b0 t e n : Nat} {v : Value} {d : DataW H} {p : List MemPlace} [hR : Rds P e α W] (ht : P.underlying t = some (.array n e)) (hc : P.cellsOf t = n * P.cellsOf e) (hv : Value.okWide P w r b0 t v) (h : DataW.Trod enc P w base spare held t v d p) :
    ∃ l : List α, v = .agg (encs l).toArray ∧ l.length = n ∧ ∀ a ∈ l, W a := by
  obtain ⟨cs, rfl, hsz⟩ := okWide_arr ht hv
  obtain ⟨fuel, hf⟩ := h
  obtain ⟨l, h1, h2, h3⟩ := arr_cells ht hc hf
  refine ⟨l, ?_, h2, h3⟩
  rw [← h1]
  simp [Value.cells]
theorem getD_all {α : Type} [Inhabited α] {l : List α} {Q : α → Prop} (h : ∀ a ∈ l, Q a) (hd : Q default) (j : Nat) : Q (l.getD j default) := by
  rcases Nat.lt_or_ge j l.length with hj | hj
  · rw [List.getD_eq_getElem?_getD, List.getElem?_eq_getElem hj]
    exact h _ (List.getElem_mem hj)
  · rw [List.getD_eq_getElem?_getD, List.getElem?_eq_none hj]
    exact hd
end
end Go.Proofs.Ythlildafofbiaaa
