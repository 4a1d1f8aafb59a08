/- Texts joined: ShArgP. Each part's own remark says what it proves. -/
import Derived.Test.YtojfaelafakemaaM07
import Derived.Test.YtojfaelafakemaaM25
/- From the readings of the laws' arguments to their plain form. No conditions. -/
set_option linter.unusedVariables false
namespace Go.Proofs.Ytojfaelafakemaa
open Go Go.ChangeShapes Go.WideShapes Go.ChangeAt Go.RowKit
instance : Rds Try.prog 35 SO (fun s => I64 s.k ∧ I64 s.c ∧ I64 s.p ∧ I64 s.f ∧ I64 s.v) := ⟨by kernel_rfl, fun {_ _ _ _ _ _ _ cs _} h hl => by
  obtain ⟨z0, e0, w0⟩ := field_int (i := 0) Try.underlying35 rfl Try.underlying3 (by kernel_rfl) h
  obtain ⟨z1, e1, w1⟩ := field_int (i := 1) Try.underlying35 rfl Try.underlying3 (by kernel_rfl) h
  obtain ⟨z2, e2, w2⟩ := field_int (i := 2) Try.underlying35 rfl Try.underlying3 (by kernel_rfl) h
  obtain ⟨z3, e3, w3⟩ := field_int (i := 3) Try.underlying35 rfl Try.underlying3 (by kernel_rfl) h
  obtain ⟨z4, e4⟩ := field_bool (i := 4) Try.underlying35 rfl Try.underlying4 (by kernel_rfl) h
  obtain ⟨z5, e5, w5⟩ := field_int (i := 5) Try.underlying35 rfl Try.underlying3 (by kernel_rfl) h
  replace hl : cs.length = 6 := hl
  match cs, hl with
  | [c0, c1, c2, c3, c4, c5], _ =>
    replace e0 : some c0 = some (.int .i64 z0) := e0
    simp only [Option.some.injEq] at e0
    subst e0
    replace e1 : some c1 = some (.int .i64 z1) := e1
    simp only [Option.some.injEq] at e1
    subst e1
    replace e2 : some c2 = some (.int .i64 z2) := e2
    simp only [Option.some.injEq] at e2
    subst e2
    replace e3 : some c3 = some (.int .i64 z3) := e3
    simp only [Option.some.injEq] at e3
    subst e3
    replace e4 : some c4 = some (.bool z4) := e4
    simp only [Option.some.injEq] at e4
    subst e4
    replace e5 : some c5 = some (.int .i64 z5) := e5
    simp only [Option.some.injEq] at e5
    subst e5
    exact ⟨⟨z0, z1, z2, z3, z4, z5⟩, rfl, ⟨w0, w1, w2, w3, w5⟩⟩⟩
end Go.Proofs.Ytojfaelafakemaa
