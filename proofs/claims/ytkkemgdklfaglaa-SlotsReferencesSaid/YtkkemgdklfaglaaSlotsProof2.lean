/- The laws' rows, out of the contracts: for every input the law returns true and its arguments read as they did. No conditions. -/
import Derived.Test.YtkkemgdklfaglaaSlotsLaws5
import Derived.Test.YtkkemgdklfaglaaLiftS
set_option linter.unusedSimpArgs false
set_option linter.unusedVariables false
namespace Go.Proofs.Ytkkemgdklfaglaa
open Go Go.ChangeShapes Go.WideShapes Go.ChangeAt Go.RowKit
theorem seat_own : ownKnob Try.prog.godebug = none := by kernel_rfl
theorem seat_laidOut : laidOutB Try.prog = true := by kernel_rfl
instance : Rds Try.prog 41 Slot (fun s => I64 s.place ∧ I64 s.count) := ⟨by kernel_rfl, fun {_ _ _ _ _ _ _ cs _} h hl => by
  obtain ⟨z0, e0, w0⟩ := field_int (i := 0) Try.underlying41 rfl Try.underlying3 (by kernel_rfl) h
  obtain ⟨z1, e1, w1⟩ := field_int (i := 1) Try.underlying41 rfl Try.underlying3 (by kernel_rfl) h
  replace hl : cs.length = 2 := hl
  match cs, hl with
  | [c0, c1], _ =>
    replace e0 : some c0 = some (.int .i64 z0) := e0
    simp only [Option.some.injEq] at e0
    subst e0
    replace e1 : some c1 = some (.int .i64 z1) := e1
    simp only [Option.some.injEq] at e1
    subst e1
    exact ⟨⟨z0, z1⟩, rfl, ⟨w0, w1⟩⟩⟩
instance : Rds Try.prog 34 SOp (fun s => I64 s.kind ∧ I64 s.slot ∧ I64 s.place) := ⟨by kernel_rfl, fun {_ _ _ _ _ _ _ cs _} h hl => by
  obtain ⟨z0, e0, w0⟩ := field_int (i := 0) Try.underlying34 rfl Try.underlying3 (by kernel_rfl) h
  obtain ⟨z1, e1, w1⟩ := field_int (i := 1) Try.underlying34 rfl Try.underlying3 (by kernel_rfl) h
  obtain ⟨z2, e2, w2⟩ := field_int (i := 2) Try.underlying34 rfl Try.underlying3 (by kernel_rfl) h
  replace hl : cs.length = 3 := hl
  match cs, hl with
  | [c0, c1, c2], _ =>
    replace e0 : some c0 = some (.int .i64 z0) := e0
    simp only [Option.some.injEq] at e0
    subst e0
    replace e1 : some c1 = some (.int .i64 z1) := e1
    simp only [Option.some.injEq] at e1
    subst e1
    replace e2 : some c2 = some (.int .i64 z2) := e2
    simp only [Option.some.injEq] at e2
    subst e2
    exact ⟨⟨z0, z1, z2⟩, rfl, ⟨w0, w1, w2⟩⟩⟩

set_option maxRecDepth 100000 in
theorem slotsReferences_lifted (os : Os) (started : os.Started) (H : Type) (enc : TypeId × Value → H) :
    ReturnsInHanded {} Try.checked os 4 .any (Rows.slotsReferencesSpec.pre6 enc Try.prog Try.f4 Rows.slotsReferencesRow.domain false) (Rows.slotsReferencesSpec.post enc Try.prog Try.f4 false true false false) := by
  refine returnsInHanded_of_change (C := Try.checked) seat_own started (by kernel_rfl) Try.func4
    (ChangeSpec.witness6 (enc := enc) (C := Try.checked) false ⟨#[], #[.int .u8 0, .slice none 0 0], []⟩ 8 (by kernel_rfl) (by kernel_rfl) (by kernel_rfl) (by kernel_rfl)) ?_
  intro W base args ds gs before hval0 hW hcnd _
  have hval : ∀ (j : Nat) t v, Try.f4.params[j]? = some t → args[j]? = some v → Value.okWide Try.prog W .any base t v := hval0
  have hW' := hW
  obtain ⟨p, q, hA0, hV, rfl, hfz, hnd⟩ := hW
  have hA : DataW.TrodAll enc Try.prog W 0 (fun _ => true) true Try.f4.params.toList args.toList ds p := hA0
  rw [Try.params4] at hA hval
  obtain ⟨v0, v1, d0, d1, p0, p1, rfl, rfl, rfl, h0, h1⟩ := trodAll_two hA
  obtain ⟨rfl, rfl⟩ := trodVars_none hV
  obtain ⟨x0, rfl, rfl, rfl, wx0⟩ := open_int Try.underlying5 (hval 0 5 v0 rfl rfl) h0
  have bx0 := bounds_u8 wx0
  obtain ⟨l1, R1, W1⟩ := rd_arg (α := SOp) Try.underlying30 (hval 1 30 v1 rfl rfl) h1
  clear hA0 hval0
  refine (ret_of_cal (refs_c W [] x0 (by omega) (by omega) (RdH.of_rd R1) R1.le)).mono fun e W' ⟨he, hb⟩ => ?_
  subst he
  exact ⟨_, rfl, law_post seat_laidOut hW' rfl ⟨rfl, rfl, rfl⟩ ⟨_, rfl, Try.underlying4⟩ (ht_of (by kernel_rfl)) hb⟩
theorem slotsReferences_holds : Rows.SlotsReferencesSaid :=
  OpenClaim.holds_of_wide 4 Try.f4 rfl rfl rfl rfl rfl rfl rfl ⟨rfl, rfl, rfl, rfl, rfl⟩ rfl rfl rfl rfl rfl (by kernel_rfl) Try.func4 (by kernel_rfl)
    (of_decide_eq_true (by kernel_rfl)) (by unfold Func.isWrapper; first | (rw [if_pos (by decide +kernel)]; kernel_rfl) | (rw [if_neg (by decide +kernel)]; exact ⟨rfl, rfl⟩))
    (fun os started H enc _ => slotsReferences_lifted os started H enc)

end Go.Proofs.Ytkkemgdklfaglaa
