/- What the laws' arguments read as. No conditions. -/
import Derived.Test.YtpcammiidklkhaaTlbSame
import Derived.Test.YtpcammiidklkhaaLiftA
set_option linter.unusedSimpArgs false
set_option linter.unusedVariables false
namespace Go.Proofs.Ytpcammiidklkhaa
open Go Go.ChangeShapes Go.WideShapes Go.ChangeAt Go.RowKit
instance : Rds Try.prog 3 Int I64 := rds_int Try.underlying3 (by kernel_rfl)
theorem two_of {α : Type} {l : List α} (h : l.length = 2) : ∃ a b, l = [a, b] := by
  match l, h with
  | [a, b], _ => exact ⟨a, b, rfl⟩
section
variable {H : Type} {enc : TypeId × Value → H} {P : Program} {w : World} {base : Nat} {spare : Nat → Bool} {held : Bool}
theorem field_u64 {t i : Nat} {fs : Array Field} {f : Field} {cs : List Value} {x : DataW H × List MemPlace} {n : Nat} (hs : P.underlying t = some (.struct fs)) (hf : fs[i]? = some f) (hU : P.underlying f.type = some (.int .u64)) (hc : P.cellsOf f.type = 1)
    (h : DataW.trod enc P w base spare held n t cs = some x) : ∃ z, cs[f.offset]? = some (.int .u64 z) ∧ 0 ≤ z ∧ z < 18446744073709551616 := by
  obtain ⟨xs, k, _, _, _, hlen, hg⟩ := DataW.trod_struct hs h
  have hil : i < xs.length := by rw [hlen]; exact (Array.getElem?_eq_some_iff.1 hf).1
  have := hg i f hf
  rw [List.getElem?_eq_getElem hil, hc] at this
  obtain ⟨z, h1, _, hw⟩ := DataW.trod_int hU this
  have hb := bounds_u64 hw
  refine ⟨z, ?_, by omega, by omega⟩
  have h2 : ((cs.drop f.offset).take 1)[0]? = some (.int .u64 z) := by rw [h1]; rfl
  rw [List.getElem?_take, if_pos (by omega), List.getElem?_drop] at h2
  exact h2
end
instance : Rds Try.prog 42 TE Wf := ⟨by kernel_rfl, fun {_ _ _ _ _ _ _ cs _} h hl => by
  obtain ⟨z0, e0, w0⟩ := field_int (i := 0) Try.underlying42 rfl Try.underlying3 (by kernel_rfl) h
  obtain ⟨z1, e1, w1⟩ := field_int (i := 1) Try.underlying42 rfl Try.underlying3 (by kernel_rfl) h
  obtain ⟨z2, e2, w2⟩ := field_u64 (i := 2) Try.underlying42 rfl Try.underlying31 (by kernel_rfl) h
  replace hl : cs.length = 3 := hl
  match cs, hl with
  | [c0, c1, c2], _ =>
    replace e0 : some c0 = some (.int .i64 z0) := e0
    replace e1 : some c1 = some (.int .i64 z1) := e1
    replace e2 : some c2 = some (.int .u64 z2) := e2
    simp only [Option.some.injEq] at e0 e1 e2
    subst e0 e1 e2
    exact ⟨⟨z0, z1, z2⟩, rfl, w0, w1, w2⟩⟩
def WfO (o : OpT) : Prop := I64 o.k ∧ I64 o.s ∧ I64 o.p ∧ 0 ≤ o.w ∧ o.w < 18446744073709551616
instance : Rds Try.prog 49 OpT WfO := ⟨by kernel_rfl, fun {_ _ _ _ _ _ _ cs _} h hl => by
  obtain ⟨z0, e0, w0⟩ := field_int (i := 0) Try.underlying49 rfl Try.underlying3 (by kernel_rfl) h
  obtain ⟨z1, e1, w1⟩ := field_int (i := 1) Try.underlying49 rfl Try.underlying3 (by kernel_rfl) h
  obtain ⟨z2, e2, w2⟩ := field_int (i := 2) Try.underlying49 rfl Try.underlying3 (by kernel_rfl) h
  obtain ⟨z3, e3, w3⟩ := field_u64 (i := 3) Try.underlying49 rfl Try.underlying31 (by kernel_rfl) h
  replace hl : cs.length = 4 := hl
  match cs, hl with
  | [c0, c1, c2, c3], _ =>
    replace e0 : some c0 = some (.int .i64 z0) := e0
    replace e1 : some c1 = some (.int .i64 z1) := e1
    replace e2 : some c2 = some (.int .i64 z2) := e2
    replace e3 : some c3 = some (.int .u64 z3) := e3
    simp only [Option.some.injEq] at e0 e1 e2 e3
    subst e0 e1 e2 e3
    exact ⟨⟨z0, z1, z2, z3⟩, rfl, w0, w1, w2, w3⟩⟩
theorem tlb_val {H : Type} {enc : TypeId × Value → H} {r : Reach} {b0 base : Nat} {spare : Nat → Bool} {held : Bool} {w : World} {v : Value} {d : DataW H} {p : List MemPlace} (hv : Value.okWide Try.prog w r b0 24 v)
    (h : DataW.Trod enc Try.prog w base spare held 24 v d p) : ∃ (z : Int) (sv : Value) (l : List TE), v = tlbV z sv ∧ Rd w sv l ∧ I64 z ∧ ∀ a ∈ l, Wf a := by
  obtain ⟨cs, rfl, hl, hf⟩ := open_struct Try.underlying24 hv h
  have hc : Try.prog.cellsOf 24 = 2 := by kernel_rfl
  have hi : Try.prog.cellsOf 3 = 1 := by kernel_rfl
  have hb : Try.prog.cellsOf 22 = 1 := by kernel_rfl
  rw [hc] at hl
  match cs, hl with
  | [c0, c1], _ =>
    obtain ⟨f0, x0, g0⟩ := hf 0 _ rfl
    obtain ⟨f1, x1, g1⟩ := hf 1 _ rfl
    replace g0 : DataW.trod enc Try.prog w base spare held f0 3 (([c0, c1].drop 0).take (Try.prog.cellsOf 3)) = some x0 := g0
    replace g1 : DataW.trod enc Try.prog w base spare held f1 22 (([c0, c1].drop 1).take (Try.prog.cellsOf 22)) = some x1 := g1
    rw [hi] at g0
    rw [hb] at g1
    obtain ⟨k, e0, _, hk⟩ := DataW.trod_int Try.underlying3 g0
    simp at e0
    subst e0
    obtain ⟨l, hR, hW⟩ := rd_cells (α := TE) (W := Wf) Try.underlying22 g1
    exact ⟨k, c1, l, rfl, hR, wf_i64 hk, hW⟩
end Go.Proofs.Ytpcammiidklkhaa
