/- The laws' rows, out of the contracts: for every input the law returns true and its arguments read as they did. No conditions. -/
import Derived.Test.YtpcammiidklkhaaTlbKeeps
import Derived.Test.YtpcammiidklkhaaTlbArgs
set_option linter.unusedSimpArgs false
set_option linter.unusedVariables false
namespace Go.Proofs.Ytpcammiidklkhaa
open Go Go.ChangeShapes Go.WideShapes Go.ChangeAt Go.RowKit
theorem seat_own : ownKnob Try.prog.godebug = none := by kernel_rfl
theorem seat_laidOut : laidOutB Try.prog = true := by kernel_rfl

set_option maxRecDepth 100000 in
theorem tlbKeeps_lifted (os : Os) (started : os.Started) (H : Type) (enc : TypeId × Value → H) :
    ReturnsInHanded {} Try.checked os 11 .any (Rows.tlbKeepsSpec.pre6 enc Try.prog Try.f11 Rows.tlbKeepsRow.domain false) (Rows.tlbKeepsSpec.post enc Try.prog Try.f11 false true false false) := by
  refine returnsInHanded_of_change (C := Try.checked) seat_own started (by kernel_rfl) Try.func11
    (ChangeSpec.witness6 (enc := enc) (C := Try.checked) false ⟨#[], #[.agg #[.int .i64 0, .slice none 0 0], .agg #[.int .i64 0, .int .i64 0], .int .u64 0], []⟩ 8 (by kernel_rfl) (by kernel_rfl) (by kernel_rfl) (by kernel_rfl)) ?_
  intro W base args ds gs before hval0 hW hcnd _
  have hval : ∀ (j : Nat) t v, Try.f11.params[j]? = some t → args[j]? = some v → Value.okWide Try.prog W .any base t v := hval0
  have hW' := hW
  obtain ⟨p, q, hA0, hV, rfl, hfz, hnd⟩ := hW
  have hA : DataW.TrodAll enc Try.prog W 0 (fun _ => true) true Try.f11.params.toList args.toList ds p := hA0
  rw [Try.params11] at hA hval
  obtain ⟨v0, v1, v2, d0, d1, d2, p0, p1, p2, rfl, rfl, rfl, h0, h1, h2⟩ := trodAll_three hA
  obtain ⟨rfl, rfl⟩ := trodVars_none hV
  obtain ⟨z0, sv0, l0, rfl, R0, Z0, W0⟩ := tlb_val (hval 0 24 v0 rfl rfl) h0
  obtain ⟨m1, rfl, q1, W1⟩ := arr_val (α := Int) Try.underlying35 (by kernel_rfl) (hval 1 35 v1 rfl rfl) h1
  obtain ⟨a1, b1, rfl⟩ := two_of q1
  obtain ⟨x2, rfl, rfl, rfl, wx2⟩ := open_int Try.underlying31 (hval 2 31 v2 rfl rfl) h2
  have bx2 := bounds_u64 wx2
  clear hA0 hval0
  refine (ret_of_cal (keeps_c W [] (RdH.of_rd R0) R0.le W0 (by omega) (by omega))).mono fun e W' ⟨he, hb⟩ => ?_
  subst he
  exact ⟨_, rfl, law_post seat_laidOut hW' rfl ⟨rfl, rfl, rfl⟩ ⟨_, rfl, Try.underlying4⟩ (ht_of (by kernel_rfl)) hb⟩
theorem tlbKeeps_holds : Rows.TlbKeepsSaid :=
  OpenClaim.holds_of_wide 11 Try.f11 rfl rfl rfl rfl rfl rfl rfl ⟨rfl, rfl, rfl, rfl, rfl⟩ rfl rfl rfl rfl rfl (by kernel_rfl) Try.func11 (by kernel_rfl)
    (of_decide_eq_true (by kernel_rfl)) (by unfold Func.isWrapper; first | (rw [if_pos (by decide +kernel)]; kernel_rfl) | (rw [if_neg (by decide +kernel)]; exact ⟨rfl, rfl⟩))
    (fun os started H enc _ => tlbKeeps_lifted os started H enc)

end Go.Proofs.Ytpcammiidklkhaa
