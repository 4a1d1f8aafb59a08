/- The laws' rows, out of the contracts: for every input the law returns true and its arguments read as they did. No conditions. -/
import Derived.Test.YtongcjepmidamaaGenLaws2
import Derived.Test.YtongcjepmidamaaLiftN
set_option linter.unusedSimpArgs false
set_option linter.unusedVariables false
namespace Go.Proofs.Ytongcjepmidamaa
open Go Go.ChangeShapes Go.WideShapes Go.ChangeAt Go.RowKit
theorem seat_own : ownKnob Try.prog.godebug = none := by kernel_rfl
theorem seat_laidOut : laidOutB Try.prog = true := by kernel_rfl
instance : Rds Try.prog 3 Int I64 := rds_int Try.underlying3 (by kernel_rfl)

set_option maxRecDepth 100000 in
theorem generationsAsks_lifted (os : Os) (started : os.Started) (H : Type) (enc : TypeId × Value → H) :
    ReturnsInHanded {} Try.checked os 3 .any (Rows.generationsAsksSpec.pre6 enc Try.prog Try.f3 Rows.generationsAsksRow.domain false) (Rows.generationsAsksSpec.post enc Try.prog Try.f3 false true false false) := by
  refine returnsInHanded_of_change (C := Try.checked) seat_own started (by kernel_rfl) Try.func3
    (ChangeSpec.witness6 (enc := enc) (C := Try.checked) false ⟨#[], #[.slice none 0 0, .int .i64 0], []⟩ 8 (by kernel_rfl) (by kernel_rfl) (by kernel_rfl) (by kernel_rfl)) ?_
  intro W base args ds gs before hval0 hW hcnd _
  have hval : ∀ (j : Nat) t v, Try.f3.params[j]? = some t → args[j]? = some v → Value.okWide Try.prog W .any base t v := hval0
  have hW' := hW
  obtain ⟨p, q, hA0, hV, rfl, hfz, hnd⟩ := hW
  have hA : DataW.TrodAll enc Try.prog W 0 (fun _ => true) true Try.f3.params.toList args.toList ds p := hA0
  rw [Try.params3] at hA hval
  obtain ⟨v0, v1, d0, d1, p0, p1, rfl, rfl, rfl, h0, h1⟩ := trodAll_two hA
  obtain ⟨rfl, rfl⟩ := trodVars_none hV
  obtain ⟨vs0, L0, R0, B0, D0⟩ := rd_argN Try.underlying22 Try.underlying25 (by kernel_rfl) (hval 0 22 v0 rfl rfl) h0
  obtain ⟨x1, rfl, rfl, rfl, wx1⟩ := open_int Try.underlying3 (hval 1 3 v1 rfl rfl) h1
  have bx1 := bounds_i64 wx1
  clear hA0 hval0
  refine (ret_of_cal (asks_law W [] x1 R0 B0 D0)).mono fun e W' ⟨he, hb⟩ => ?_
  subst he
  exact ⟨_, rfl, law_post seat_laidOut hW' rfl ⟨rfl, rfl, rfl⟩ ⟨_, rfl, Try.underlying4⟩ (ht_of (by kernel_rfl)) hb⟩
theorem generationsAsks_holds : Rows.GenerationsAsksSaid :=
  OpenClaim.holds_of_wide 3 Try.f3 rfl rfl rfl rfl rfl rfl rfl ⟨rfl, rfl, rfl, rfl, rfl⟩ rfl rfl rfl rfl rfl (by kernel_rfl) Try.func3 (by kernel_rfl)
    (of_decide_eq_true (by kernel_rfl)) (by unfold Func.isWrapper; first | (rw [if_pos (by decide +kernel)]; kernel_rfl) | (rw [if_neg (by decide +kernel)]; exact ⟨rfl, rfl⟩))
    (fun os started H enc _ => generationsAsks_lifted os started H enc)

set_option maxRecDepth 100000 in
theorem generationsChanges_lifted (os : Os) (started : os.Started) (H : Type) (enc : TypeId × Value → H) :
    ReturnsInHanded {} Try.checked os 4 .any (Rows.generationsChangesSpec.pre6 enc Try.prog Try.f4 Rows.generationsChangesRow.domain false) (Rows.generationsChangesSpec.post enc Try.prog Try.f4 false true false false) := by
  refine returnsInHanded_of_change (C := Try.checked) seat_own started (by kernel_rfl) Try.func4
    (ChangeSpec.witness6 (enc := enc) (C := Try.checked) false ⟨#[], #[.slice none 0 0, .int .i64 0, .int .i64 0], []⟩ 8 (by kernel_rfl) (by kernel_rfl) (by kernel_rfl) (by kernel_rfl)) ?_
  intro W base args ds gs before hval0 hW hcnd _
  have hval : ∀ (j : Nat) t v, Try.f4.params[j]? = some t → args[j]? = some v → Value.okWide Try.prog W .any base t v := hval0
  have hW' := hW
  obtain ⟨p, q, hA0, hV, rfl, hfz, hnd⟩ := hW
  have hA : DataW.TrodAll enc Try.prog W 0 (fun _ => true) true Try.f4.params.toList args.toList ds p := hA0
  rw [Try.params4] at hA hval
  obtain ⟨v0, v1, v2, d0, d1, d2, p0, p1, p2, rfl, rfl, rfl, h0, h1, h2⟩ := trodAll_three hA
  obtain ⟨rfl, rfl⟩ := trodVars_none hV
  obtain ⟨vs0, L0, R0, B0, D0⟩ := rd_argN Try.underlying22 Try.underlying25 (by kernel_rfl) (hval 0 22 v0 rfl rfl) h0
  obtain ⟨x1, rfl, rfl, rfl, wx1⟩ := open_int Try.underlying3 (hval 1 3 v1 rfl rfl) h1
  have bx1 := bounds_i64 wx1
  obtain ⟨x2, rfl, rfl, rfl, wx2⟩ := open_int Try.underlying3 (hval 2 3 v2 rfl rfl) h2
  have bx2 := bounds_i64 wx2
  clear hA0 hval0
  refine (ret_of_cal (changes_law W [] x1 x2 R0 B0 D0)).mono fun e W' ⟨he, hb⟩ => ?_
  subst he
  exact ⟨_, rfl, law_post seat_laidOut hW' rfl ⟨rfl, rfl, rfl⟩ ⟨_, rfl, Try.underlying4⟩ (ht_of (by kernel_rfl)) hb⟩
theorem generationsChanges_holds : Rows.GenerationsChangesSaid :=
  OpenClaim.holds_of_wide 4 Try.f4 rfl rfl rfl rfl rfl rfl rfl ⟨rfl, rfl, rfl, rfl, rfl⟩ rfl rfl rfl rfl rfl (by kernel_rfl) Try.func4 (by kernel_rfl)
    (of_decide_eq_true (by kernel_rfl)) (by unfold Func.isWrapper; first | (rw [if_pos (by decide +kernel)]; kernel_rfl) | (rw [if_neg (by decide +kernel)]; exact ⟨rfl, rfl⟩))
    (fun os started H enc _ => generationsChanges_lifted os started H enc)

set_option maxRecDepth 100000 in
theorem generationsAges_lifted (os : Os) (started : os.Started) (H : Type) (enc : TypeId × Value → H) :
    ReturnsInHanded {} Try.checked os 5 .any (Rows.generationsAgesSpec.pre6 enc Try.prog Try.f5 Rows.generationsAgesRow.domain false) (Rows.generationsAgesSpec.post enc Try.prog Try.f5 false true false false) := by
  refine returnsInHanded_of_change (C := Try.checked) seat_own started (by kernel_rfl) Try.func5
    (ChangeSpec.witness6 (enc := enc) (C := Try.checked) false ⟨#[], #[.slice none 0 0, .slice none 0 0], []⟩ 8 (by kernel_rfl) (by kernel_rfl) (by kernel_rfl) (by kernel_rfl)) ?_
  intro W base args ds gs before hval0 hW hcnd _
  have hval : ∀ (j : Nat) t v, Try.f5.params[j]? = some t → args[j]? = some v → Value.okWide Try.prog W .any base t v := hval0
  have hW' := hW
  obtain ⟨p, q, hA0, hV, rfl, hfz, hnd⟩ := hW
  have hA : DataW.TrodAll enc Try.prog W 0 (fun _ => true) true Try.f5.params.toList args.toList ds p := hA0
  rw [Try.params5] at hA hval
  obtain ⟨v0, v1, d0, d1, p0, p1, rfl, rfl, rfl, h0, h1⟩ := trodAll_two hA
  obtain ⟨rfl, rfl⟩ := trodVars_none hV
  obtain ⟨vs0, L0, R0, B0, D0⟩ := rd_argN Try.underlying22 Try.underlying25 (by kernel_rfl) (hval 0 22 v0 rfl rfl) h0
  obtain ⟨l1, R1, W1⟩ := rd_arg (α := Int) Try.underlying25 (hval 1 25 v1 rfl rfl) h1
  clear hA0 hval0
  refine (ret_of_cal (ages_law W [] R0 (RdH.of_rd R1) B0 D0 R1.le)).mono fun e W' ⟨he, hb⟩ => ?_
  subst he
  exact ⟨_, rfl, law_post seat_laidOut hW' rfl ⟨rfl, rfl, rfl⟩ ⟨_, rfl, Try.underlying4⟩ (ht_of (by kernel_rfl)) hb⟩
theorem generationsAges_holds : Rows.GenerationsAgesSaid :=
  OpenClaim.holds_of_wide 5 Try.f5 rfl rfl rfl rfl rfl rfl rfl ⟨rfl, rfl, rfl, rfl, rfl⟩ rfl rfl rfl rfl rfl (by kernel_rfl) Try.func5 (by kernel_rfl)
    (of_decide_eq_true (by kernel_rfl)) (by unfold Func.isWrapper; first | (rw [if_pos (by decide +kernel)]; kernel_rfl) | (rw [if_neg (by decide +kernel)]; exact ⟨rfl, rfl⟩))
    (fun os started H enc _ => generationsAges_lifted os started H enc)

end Go.Proofs.Ytongcjepmidamaa
