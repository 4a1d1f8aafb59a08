/- From the reading of the law's argument to its plain form. No conditions. -/
import Derived.Test.YthlildafofbiaaaLiftA
import Derived.Test.YthlildafofbiaaaGrStep
set_option linter.unusedVariables false
namespace Go.Proofs.Ythlildafofbiaaa
open Go Go.ChangeShapes Go.WideShapes Go.ChangeAt Go.RowKit
section
variable {H : Type} {enc : TypeId × Value → H} {P : Program} {w : World} {base : Nat} {spare : Nat → Bool} {held : Bool}
theorem field_u8 {t i : Nat} {fs : Array Field} {f : Field} {cs : List Value} {x : DataW H × List MemPlace} {n : Nat} (hs : P.underlying t = some (.struct fs)) (hf : fs[i]? = some f) (hU : P.underlying f.type = some (.int .u8)) (hc : P.cellsOf f.type = 1)
    (h : DataW.trod enc P w base spare held n t cs = some x) : ∃ z, cs[f.offset]? = some (.int .u8 z) ∧ 0 ≤ z ∧ z ≤ 255 := by
  obtain ⟨xs, k, _, _, _, hlen, hg⟩ := DataW.trod_struct hs h
  have hil : i < xs.length := by rw [hlen]; exact (Array.getElem?_eq_some_iff.1 hf).1
  have := hg i f hf
  rw [List.getElem?_eq_getElem hil, hc] at this
  obtain ⟨z, h1, _, hw⟩ := DataW.trod_int hU this
  have hb := bounds_u8 hw
  refine ⟨z, ?_, by omega, by omega⟩
  have h2 : ((cs.drop f.offset).take 1)[0]? = some (.int .u8 z) := by rw [h1]; rfl
  rw [List.getElem?_take, if_pos (by omega), List.getElem?_drop] at h2
  exact h2
end
instance : Rds Try.prog 27 GO Gk := ⟨by kernel_rfl, fun {_ _ _ _ _ _ _ cs _} h hl => by
  obtain ⟨z0, e0, w0⟩ := field_u8 (i := 0) Try.underlying27 rfl Try.underlying5 (by kernel_rfl) h
  obtain ⟨z1, e1, w1⟩ := field_u8 (i := 1) Try.underlying27 rfl Try.underlying5 (by kernel_rfl) h
  obtain ⟨z2, e2, w2⟩ := field_u8 (i := 2) Try.underlying27 rfl Try.underlying5 (by kernel_rfl) h
  obtain ⟨z3, e3, w3⟩ := field_u8 (i := 3) Try.underlying27 rfl Try.underlying5 (by kernel_rfl) h
  replace hl : cs.length = 4 := hl
  match cs, hl with
  | [c0, c1, c2, c3], _ =>
    replace e0 : some c0 = some (.int .u8 z0) := e0
    replace e1 : some c1 = some (.int .u8 z1) := e1
    replace e2 : some c2 = some (.int .u8 z2) := e2
    replace e3 : some c3 = some (.int .u8 z3) := e3
    simp only [Option.some.injEq] at e0 e1 e2 e3
    subst e0 e1 e2 e3
    exact ⟨⟨z0, z1, z2, z3⟩, rfl, ⟨w0, w1, w2, w3⟩⟩⟩
end Go.Proofs.Ythlildafofbiaaa
