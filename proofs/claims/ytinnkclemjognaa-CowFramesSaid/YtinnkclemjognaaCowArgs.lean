/- From the reading of an argument that is a machine to its plain form. No conditions. -/
import Derived.Test.YtinnkclemjognaaLiftN
import Derived.Test.YtinnkclemjognaaLiftA
import Derived.Test.YtinnkclemjognaaCowLaws2
set_option linter.unusedVariables false
namespace Go.Proofs.Ytinnkclemjognaa
open Go Go.ChangeShapes Go.WideShapes Go.ChangeAt Go.RowKit
instance : Rds Try.prog 3 Int I64 := rds_int Try.underlying3 (by kernel_rfl)
instance : Rds Try.prog 64 PG (fun s => I64 s.fr) := ⟨by kernel_rfl, fun {_ _ _ _ _ _ _ cs _} h hl => by
  obtain ⟨z0, e0, w0⟩ := field_int (i := 0) Try.underlying64 rfl Try.underlying3 (by kernel_rfl) h
  obtain ⟨z1, e1⟩ := field_bool (i := 1) Try.underlying64 rfl Try.underlying4 (by kernel_rfl) h
  replace hl : cs.length = 2 := hl
  match cs, hl with
  | [c0, c1], _ =>
    replace e0 : some c0 = some (.int .i64 z0) := e0
    simp only [Option.some.injEq] at e0
    subst e0
    replace e1 : some c1 = some (.bool z1) := e1
    simp only [Option.some.injEq] at e1
    subst e1
    exact ⟨⟨z0, z1⟩, rfl, w0⟩⟩

instance : Rds Try.prog 57 FR (fun s => I64 s.ct ∧ I64 s.wd) := ⟨by kernel_rfl, fun {_ _ _ _ _ _ _ cs _} h hl => by
  obtain ⟨z0, e0, w0⟩ := field_int (i := 0) Try.underlying57 rfl Try.underlying3 (by kernel_rfl) h
  obtain ⟨z1, e1, w1⟩ := field_int (i := 1) Try.underlying57 rfl Try.underlying3 (by kernel_rfl) h
  replace hl : cs.length = 2 := hl
  match cs, hl with
  | [c0, c1], _ =>
    replace e0 : some c0 = some (.int .i64 z0) := e0
    simp only [Option.some.injEq] at e0
    subst e0
    replace e1 : some c1 = some (.int .i64 z1) := e1
    simp only [Option.some.injEq] at e1
    subst e1
    exact ⟨⟨z0, z1⟩, rfl, ⟨w0, w1⟩⟩⟩

instance : Rds Try.prog 40 OP (fun s => I64 s.kd ∧ I64 s.s ∧ I64 s.p ∧ I64 s.w) := ⟨by kernel_rfl, fun {_ _ _ _ _ _ _ cs _} h hl => by
  obtain ⟨z0, e0, w0⟩ := field_int (i := 0) Try.underlying40 rfl Try.underlying3 (by kernel_rfl) h
  obtain ⟨z1, e1, w1⟩ := field_int (i := 1) Try.underlying40 rfl Try.underlying3 (by kernel_rfl) h
  obtain ⟨z2, e2, w2⟩ := field_int (i := 2) Try.underlying40 rfl Try.underlying3 (by kernel_rfl) h
  obtain ⟨z3, e3, w3⟩ := field_int (i := 3) Try.underlying40 rfl Try.underlying3 (by kernel_rfl) h
  replace hl : cs.length = 4 := hl
  match cs, hl with
  | [c0, c1, c2, c3], _ =>
    replace e0 : some c0 = some (.int .i64 z0) := e0
    simp only [Option.some.injEq] at e0
    subst e0
    replace e1 : some c1 = some (.int .i64 z1) := e1
    simp only [Option.some.injEq] at e1
    subst e1
    replace e2 : some c2 = some (.int .i64 z2) := e2
    simp only [Option.some.injEq] at e2
    subst e2
    replace e3 : some c3 = some (.int .i64 z3) := e3
    simp only [Option.some.injEq] at e3
    subst e3
    exact ⟨⟨z0, z1, z2, z3⟩, rfl, ⟨w0, w1, w2, w3⟩⟩⟩

theorem two_of {l : List Int} (h : l.length = 2) : ∃ a b, l = [a, b] := by
  match l, h with
  | [a, b], _ => exact ⟨a, b, rfl⟩
section
variable {H : Type} {enc : TypeId × Value → H} {w : World} {base : Nat} {spare : Nat → Bool} {held : Bool}
theorem field_at {P : Program} {t i : Nat} {fs : Array Field} {f : Field} {cs : List Value} {x : DataW H × List MemPlace} {n : Nat} (hs : P.underlying t = some (.struct fs)) (hf : fs[i]? = some f)
    (h : DataW.trod enc P w base spare held n t cs = some x) : ∃ k y, DataW.trod enc P w base spare held k f.type ((cs.drop f.offset).take (P.cellsOf f.type)) = some y := by
  obtain ⟨xs, k, _, _, _, hlen, hg⟩ := DataW.trod_struct hs h
  have hil : i < xs.length := by rw [hlen]; exact (Array.getElem?_eq_some_iff.1 hf).1
  have := hg i f hf
  rw [List.getElem?_eq_getElem hil] at this
  exact ⟨_, _, this⟩
theorem sp_key {n : Nat} {cs : List Value} {x : DataW H × List MemPlace} (h : DataW.trod enc Try.prog w base spare held n 62 cs = some x) (hl : cs.length = 2) : ∃ y : SP, cs = Enc.enc y ∧ ∃ l : List PG, Rd w y.s.v l := by
  obtain ⟨k0, y0, h0⟩ := field_at (i := 0) Try.underlying62 rfl h
  obtain ⟨k1, y1, h1⟩ := field_at (i := 1) Try.underlying62 rfl h
  match cs, hl with
  | [a, b], _ =>
    replace h0 : DataW.trod enc Try.prog w base spare held k0 4 (([a, b].drop 0).take (Try.prog.cellsOf 4)) = some y0 := h0
    replace h1 : DataW.trod enc Try.prog w base spare held k1 60 (([a, b].drop 1).take (Try.prog.cellsOf 60)) = some y1 := h1
    rw [show Try.prog.cellsOf 4 = 1 by kernel_rfl] at h0
    rw [show Try.prog.cellsOf 60 = 1 by kernel_rfl] at h1
    replace h0 : DataW.trod enc Try.prog w base spare held k0 4 [a] = some y0 := h0
    replace h1 : DataW.trod enc Try.prog w base spare held k1 60 [b] = some y1 := h1
    obtain ⟨z, e, _⟩ := DataW.trod_bool Try.underlying4 h0
    simp only [List.cons.injEq, and_true] at e
    subst e
    obtain ⟨l, hl, _⟩ := rd_cells (α := PG) Try.underlying60 h1
    obtain ⟨A', c', hu, _⟩ := hl.form
    exact ⟨⟨z, ⟨A', l.length, c'⟩⟩, by rw [hu]; rfl, l, by rw [hu] at hl; exact hl⟩
theorem rd_cow {r : Reach} {b0 : Nat} {v : Value} {d : DataW H} {p : List MemPlace} (hv : Value.okWide Try.prog w r b0 27 v) (h : DataW.Trod enc Try.prog w base spare held 27 v d p) :
    ∃ (sS sF : SV) (xs : List SP) (m : CW), v = cowV m.z sS.v sF.v m.cp ∧ RdC (Hp w []) sS.v sF.v xs m ∧ CLe m := by
  obtain ⟨cs, rfl, hl, hf⟩ := open_struct Try.underlying27 hv h
  rw [show Try.prog.cellsOf 27 = 4 by kernel_rfl] at hl
  obtain ⟨k0, y0, h0⟩ := hf 0 _ rfl
  obtain ⟨k1, y1, h1⟩ := hf 1 _ rfl
  obtain ⟨k2, y2, h2⟩ := hf 2 _ rfl
  obtain ⟨k3, y3, h3⟩ := hf 3 _ rfl
  match cs, hl with
  | [c0, c1, c2, c3], _ =>
    replace h0 : DataW.trod enc Try.prog w base spare held k0 3 (([c0, c1, c2, c3].drop 0).take (Try.prog.cellsOf 3)) = some y0 := h0
    replace h1 : DataW.trod enc Try.prog w base spare held k1 24 (([c0, c1, c2, c3].drop 1).take (Try.prog.cellsOf 24)) = some y1 := h1
    replace h2 : DataW.trod enc Try.prog w base spare held k2 25 (([c0, c1, c2, c3].drop 2).take (Try.prog.cellsOf 25)) = some y2 := h2
    replace h3 : DataW.trod enc Try.prog w base spare held k3 3 (([c0, c1, c2, c3].drop 3).take (Try.prog.cellsOf 3)) = some y3 := h3
    rw [show Try.prog.cellsOf 3 = 1 by kernel_rfl] at h0 h3
    rw [show Try.prog.cellsOf 24 = 1 by kernel_rfl] at h1
    rw [show Try.prog.cellsOf 25 = 1 by kernel_rfl] at h2
    replace h0 : DataW.trod enc Try.prog w base spare held k0 3 [c0] = some y0 := h0
    replace h1 : DataW.trod enc Try.prog w base spare held k1 24 [c1] = some y1 := h1
    replace h2 : DataW.trod enc Try.prog w base spare held k2 25 [c2] = some y2 := h2
    replace h3 : DataW.trod enc Try.prog w base spare held k3 3 [c3] = some y3 := h3
    obtain ⟨z, e0, _, _⟩ := DataW.trod_int Try.underlying3 h0
    obtain ⟨cp, e3, _, _⟩ := DataW.trod_int Try.underlying3 h3
    simp only [List.cons.injEq, and_true] at e0 e3
    subst e0 e3
    obtain ⟨xs, R1, W1⟩ := rd_cellsW (α := SP) (W := fun y => ∃ l : List PG, Rd w y.s.v l) (by kernel_rfl) (fun h hl => sp_key h hl) Try.underlying24 h1
    obtain ⟨fm, R2, _⟩ := rd_cells (α := FR) Try.underlying25 h2
    obtain ⟨A1, c1', e1, _⟩ := R1.form
    obtain ⟨A2, c2', e2, _⟩ := R2.form
    subst e1 e2
    obtain ⟨L, hL, hL2⟩ := choose_list (α := CS) (p := fun i s => s.lv = (xs.getD i default).lv ∧ Rd w (xs.getD i default).s.v s.pg) xs.length fun i hi => by
      obtain ⟨l, hl⟩ := W1 (xs.getD i default) (by rw [List.getD_eq_getElem?_getD, List.getElem?_eq_getElem hi]; exact List.getElem_mem hi)
      exact ⟨⟨(xs.getD i default).lv, l⟩, rfl, hl⟩
    have hin : ∀ i, Rd w (xs.getD i default).s.v (L.getD i default).pg := fun i => by
      rcases Nat.lt_or_ge i xs.length with hi | hi
      · exact (hL2 i hi).2
      · rw [getD_none hi, getD_none (by omega)]
        exact Rd.nil w
    refine ⟨⟨A1, xs.length, c1'⟩, ⟨A2, fm.length, c2'⟩, xs, ⟨z, L, fm, cp⟩, rfl, ⟨RdH.of_rd R1, RdH.of_rd R2, hL.symm, fun i => ?_, fun i => RdH.of_rd (hin i)⟩, ⟨by rw [hL]; exact R1.le, R2.le, fun i => (hin i).le⟩⟩
    rcases Nat.lt_or_ge i xs.length with hi | hi
    · exact (hL2 i hi).1.symm
    · rw [getD_none hi, getD_none (l := L) (by omega)]; rfl
end
end Go.Proofs.Ytinnkclemjognaa
