/- Texts joined: ShProof. Each part's own remark says what it proves. -/
import Derived.Test.YtojfaelafakemaaGreatShArgsJ
/- The laws' rows, out of the contracts: for every input the law returns true and its arguments read as they did. No conditions. -/
set_option linter.unusedSimpArgs false
set_option linter.unusedVariables false
namespace Go.Proofs.YtojfaelafakemaaGreat
open Go Go.ChangeShapes Go.WideShapes Go.ChangeAt Go.RowKit
theorem seat_own : ownKnob Tryz.prog.godebug = none := by kernel_rfl
theorem seat_laidOut : laidOutB Tryz.prog = true := by kernel_rfl

set_option maxRecDepth 100000 in
theorem shootdownChecks_lifted (os : Os) (started : os.Started) (H : Type) (enc : TypeId × Value → H) :
    ReturnsInHanded {} Tryz.checked os 4 .any (Rows.shootdownChecksSpec.pre6 enc Tryz.prog Tryz.f4 Rows.shootdownChecksRow.domain false) (Rows.shootdownChecksSpec.post enc Tryz.prog Tryz.f4 false true false false) := by
  refine returnsInHanded_of_change (C := Tryz.checked) seat_own started (by kernel_rfl) Tryz.func4
    (ChangeSpec.witness6 (enc := enc) (C := Tryz.checked) false ⟨#[], #[.agg #[.slice none 0 0, .slice none 0 0, .slice none 0 0, .slice none 0 0, .slice none 0 0], .agg #[.int .i64 0, .int .i64 0, .int .i64 0, .int .i64 0, .bool false, .int .i64 0]], []⟩ 8 (by kernel_rfl) (by kernel_rfl) (by kernel_rfl) (by kernel_rfl)) ?_
  intro W base args ds gs before hval0 hW hcnd _
  have hval : ∀ (j : Nat) t v, Tryz.f4.params[j]? = some t → args[j]? = some v → Value.okWide Tryz.prog W .any base t v := hval0
  have hW' := hW
  obtain ⟨p, q, hA0, hV, rfl, hfz, hnd⟩ := hW
  have hA : DataW.TrodAll enc Tryz.prog W 0 (fun _ => true) true Tryz.f4.params.toList args.toList ds p := hA0
  rw [Tryz.params4] at hA hval
  obtain ⟨v0, v1, d0, d1, p0, p1, rfl, rfl, rfl, h0, h1⟩ := trodAll_two hA
  obtain ⟨rfl, rfl⟩ := trodVars_none hV
  obtain ⟨q0, xb0, xp0, m0, rfl, C0, L0⟩ := rd_shoot (hval 0 31 v0 rfl rfl) h0
  obtain ⟨s1, rfl, W1⟩ := rd_val (α := SO) Tryz.underlying36 (hval 1 36 v1 rfl rfl) h1
  clear hA0 hval0
  refine (ret_of_cal (checks_law W [] s1 C0 L0)).mono fun e W' ⟨he, hb⟩ => ?_
  subst he
  exact ⟨_, rfl, law_post seat_laidOut hW' rfl ⟨rfl, rfl, rfl⟩ ⟨_, rfl, Tryz.underlying4⟩ (ht_of (by kernel_rfl)) hb⟩
theorem shootdownChecks_holds : Rows.ShootdownChecksSaid :=
  OpenClaim.holds_of_wide 4 Tryz.f4 rfl rfl rfl rfl rfl rfl rfl ⟨rfl, rfl, rfl, rfl, rfl⟩ rfl rfl rfl rfl rfl (by kernel_rfl) Tryz.func4 (by kernel_rfl)
    (of_decide_eq_true (by kernel_rfl)) (by unfold Func.isWrapper; first | (rw [if_pos (by decide +kernel)]; kernel_rfl) | (rw [if_neg (by decide +kernel)]; exact ⟨rfl, rfl⟩))
    (fun os started H enc _ => shootdownChecks_lifted os started H enc)

end Go.Proofs.YtojfaelafakemaaGreat
