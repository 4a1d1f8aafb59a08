/- The laws' rows, out of the contracts: for every input the law returns true and its arguments read as they did. No conditions. -/
import Derived.Test.YtpcammiidklkhaaTlbOnce
import Derived.Test.YtpcammiidklkhaaTlbArgs
set_option linter.unusedSimpArgs false
set_option linter.unusedVariables false
namespace Go.Proofs.Ytpcammiidklkhaa
open Go Go.ChangeShapes Go.WideShapes Go.ChangeAt Go.RowKit
theorem seat_own : ownKnob Try.prog.godebug = none := by kernel_rfl
theorem seat_laidOut : laidOutB Try.prog = true := by kernel_rfl

set_option maxRecDepth 100000 in
theorem tlbPlays_lifted (os : Os) (started : os.Started) (H : Type) (enc : TypeId × Value → H) :
    ReturnsInHanded {} Try.checked os 8 .any (Rows.tlbPlaysSpec.pre6 enc Try.prog Try.f8 Rows.tlbPlaysRow.domain false) (Rows.tlbPlaysSpec.post enc Try.prog Try.f8 false true false false) := by
  refine returnsInHanded_of_change (C := Try.checked) seat_own started (by kernel_rfl) Try.func8
    (ChangeSpec.witness6 (enc := enc) (C := Try.checked) false ⟨#[], #[.int .u8 0, .slice none 0 0], []⟩ 8 (by kernel_rfl) (by kernel_rfl) (by kernel_rfl) (by kernel_rfl)) ?_
  intro W base args ds gs before hval0 hW hcnd _
  have hval : ∀ (j : Nat) t v, Try.f8.params[j]? = some t → args[j]? = some v → Value.okWide Try.prog W .any base t v := hval0
  have hW' := hW
  obtain ⟨p, q, hA0, hV, rfl, hfz, hnd⟩ := hW
  have hA : DataW.TrodAll enc Try.prog W 0 (fun _ => true) true Try.f8.params.toList args.toList ds p := hA0
  rw [Try.params8] at hA hval
  obtain ⟨v0, v1, d0, d1, p0, p1, rfl, rfl, rfl, h0, h1⟩ := trodAll_two hA
  obtain ⟨rfl, rfl⟩ := trodVars_none hV
  obtain ⟨x0, rfl, rfl, rfl, wx0⟩ := open_int Try.underlying5 (hval 0 5 v0 rfl rfl) h0
  have bx0 := bounds_u8 wx0
  obtain ⟨m0, rfl⟩ : ∃ m : Nat, x0 = (m : Int) := ⟨x0.toNat, by omega⟩
  obtain ⟨l1, R1, W1⟩ := rd_arg (α := OpT) Try.underlying46 (hval 1 46 v1 rfl rfl) h1
  clear hA0 hval0
  refine (ret_of_cal (plays_c W [] (m := m0) (by omega) (RdH.of_rd R1) R1.le (fun o ho => (W1 o ho).2.2.2))).mono fun e W' ⟨he, hb⟩ => ?_
  subst he
  exact ⟨_, rfl, law_post seat_laidOut hW' rfl ⟨rfl, rfl, rfl⟩ ⟨_, rfl, Try.underlying4⟩ (ht_of (by kernel_rfl)) hb⟩
theorem tlbPlays_holds : Rows.TlbPlaysSaid :=
  OpenClaim.holds_of_wide 8 Try.f8 rfl rfl rfl rfl rfl rfl rfl ⟨rfl, rfl, rfl, rfl, rfl⟩ rfl rfl rfl rfl rfl (by kernel_rfl) Try.func8 (by kernel_rfl)
    (of_decide_eq_true (by kernel_rfl)) (by unfold Func.isWrapper; first | (rw [if_pos (by decide +kernel)]; kernel_rfl) | (rw [if_neg (by decide +kernel)]; exact ⟨rfl, rfl⟩))
    (fun os started H enc _ => tlbPlays_lifted os started H enc)

set_option maxRecDepth 100000 in
theorem tlbOnce_lifted (os : Os) (started : os.Started) (H : Type) (enc : TypeId × Value → H) :
    ReturnsInHanded {} Try.checked os 9 .any (Rows.tlbOnceSpec.pre6 enc Try.prog Try.f9 Rows.tlbOnceRow.domain false) (Rows.tlbOnceSpec.post enc Try.prog Try.f9 false true false false) := by
  refine returnsInHanded_of_change (C := Try.checked) seat_own started (by kernel_rfl) Try.func9
    (ChangeSpec.witness6 (enc := enc) (C := Try.checked) false ⟨#[], #[.int .u8 0, .slice none 0 0, .agg #[.int .i64 0, .int .i64 0]], []⟩ 8 (by kernel_rfl) (by kernel_rfl) (by kernel_rfl) (by kernel_rfl)) ?_
  intro W base args ds gs before hval0 hW hcnd _
  have hval : ∀ (j : Nat) t v, Try.f9.params[j]? = some t → args[j]? = some v → Value.okWide Try.prog W .any base t v := hval0
  have hW' := hW
  obtain ⟨p, q, hA0, hV, rfl, hfz, hnd⟩ := hW
  have hA : DataW.TrodAll enc Try.prog W 0 (fun _ => true) true Try.f9.params.toList args.toList ds p := hA0
  rw [Try.params9] at hA hval
  obtain ⟨v0, v1, v2, d0, d1, d2, p0, p1, p2, rfl, rfl, rfl, h0, h1, h2⟩ := trodAll_three hA
  obtain ⟨rfl, rfl⟩ := trodVars_none hV
  obtain ⟨x0, rfl, rfl, rfl, wx0⟩ := open_int Try.underlying5 (hval 0 5 v0 rfl rfl) h0
  have bx0 := bounds_u8 wx0
  obtain ⟨m0, rfl⟩ : ∃ m : Nat, x0 = (m : Int) := ⟨x0.toNat, by omega⟩
  obtain ⟨l1, R1, W1⟩ := rd_arg (α := OpT) Try.underlying46 (hval 1 46 v1 rfl rfl) h1
  obtain ⟨m2, rfl, q2, W2⟩ := arr_val (α := Int) Try.underlying35 (by kernel_rfl) (hval 2 35 v2 rfl rfl) h2
  obtain ⟨a2, b2, rfl⟩ := two_of q2
  clear hA0 hval0
  refine (ret_of_cal (once_c W [] (m := m0) (by omega) (RdH.of_rd R1) R1.le (fun o ho => (W1 o ho).2.2.2))).mono fun e W' ⟨he, hb⟩ => ?_
  subst he
  exact ⟨_, rfl, law_post seat_laidOut hW' rfl ⟨rfl, rfl, rfl⟩ ⟨_, rfl, Try.underlying4⟩ (ht_of (by kernel_rfl)) hb⟩
theorem tlbOnce_holds : Rows.TlbOnceSaid :=
  OpenClaim.holds_of_wide 9 Try.f9 rfl rfl rfl rfl rfl rfl rfl ⟨rfl, rfl, rfl, rfl, rfl⟩ rfl rfl rfl rfl rfl (by kernel_rfl) Try.func9 (by kernel_rfl)
    (of_decide_eq_true (by kernel_rfl)) (by unfold Func.isWrapper; first | (rw [if_pos (by decide +kernel)]; kernel_rfl) | (rw [if_neg (by decide +kernel)]; exact ⟨rfl, rfl⟩))
    (fun os started H enc _ => tlbOnce_lifted os started H enc)

end Go.Proofs.Ytpcammiidklkhaa
