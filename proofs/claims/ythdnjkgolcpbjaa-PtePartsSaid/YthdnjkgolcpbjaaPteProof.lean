/- The laws' rows, out of the contracts: for every input the law returns true and its arguments read as they did. No conditions. -/
import Derived.Test.YthdnjkgolcpbjaaPteMain
import Derived.Test.YthdnjkgolcpbjaaLift
set_option linter.unusedSimpArgs false
set_option linter.unusedVariables false
namespace Go.Proofs.Ythdnjkgolcpbjaa
open Go Go.ChangeShapes Go.WideShapes Go.ChangeAt Go.RowKit
theorem seat_own : ownKnob Try.prog.godebug = none := by kernel_rfl
theorem seat_laidOut : laidOutB Try.prog = true := by kernel_rfl

theorem open_ent {H : Type} {enc : TypeId × Value → H} {r : Reach} {b0 base : Nat} {spare : Nat → Bool} {held : Bool} {w : World} {v : Value} {d : DataW H} {p : List MemPlace} (hv : Value.okWide Try.prog w r b0 23 v)
    (h : DataW.Trod enc Try.prog w base spare held 23 v d p) : ∃ (k n : Int) (a b c d : Bool), v = entV k n a b c d := by
  obtain ⟨cs, rfl, hl, hf⟩ := open_struct Try.underlying23 hv h
  have hc : Try.prog.cellsOf 23 = 6 := by kernel_rfl
  have hi : Try.prog.cellsOf 3 = 1 := by kernel_rfl
  have hb : Try.prog.cellsOf 4 = 1 := by kernel_rfl
  rw [hc] at hl
  match cs, hl with
  | [c0, c1, c2, c3, c4, c5], _ =>
    obtain ⟨f0, x0, g0⟩ := hf 0 _ rfl
    obtain ⟨f1, x1, g1⟩ := hf 1 _ rfl
    obtain ⟨f2, x2, g2⟩ := hf 2 _ rfl
    obtain ⟨f3, x3, g3⟩ := hf 3 _ rfl
    obtain ⟨f4, x4, g4⟩ := hf 4 _ rfl
    obtain ⟨f5, x5, g5⟩ := hf 5 _ rfl
    replace g0 : DataW.trod enc Try.prog w base spare held f0 3 (([c0, c1, c2, c3, c4, c5].drop 0).take (Try.prog.cellsOf 3)) = some x0 := g0
    replace g1 : DataW.trod enc Try.prog w base spare held f1 3 (([c0, c1, c2, c3, c4, c5].drop 1).take (Try.prog.cellsOf 3)) = some x1 := g1
    replace g2 : DataW.trod enc Try.prog w base spare held f2 4 (([c0, c1, c2, c3, c4, c5].drop 2).take (Try.prog.cellsOf 4)) = some x2 := g2
    replace g3 : DataW.trod enc Try.prog w base spare held f3 4 (([c0, c1, c2, c3, c4, c5].drop 3).take (Try.prog.cellsOf 4)) = some x3 := g3
    replace g4 : DataW.trod enc Try.prog w base spare held f4 4 (([c0, c1, c2, c3, c4, c5].drop 4).take (Try.prog.cellsOf 4)) = some x4 := g4
    replace g5 : DataW.trod enc Try.prog w base spare held f5 4 (([c0, c1, c2, c3, c4, c5].drop 5).take (Try.prog.cellsOf 4)) = some x5 := g5
    rw [hi] at g0 g1
    rw [hb] at g2 g3 g4 g5
    obtain ⟨k, e0, _, _⟩ := DataW.trod_int Try.underlying3 g0
    obtain ⟨n, e1, _, _⟩ := DataW.trod_int Try.underlying3 g1
    obtain ⟨a, e2, _⟩ := DataW.trod_bool Try.underlying4 g2
    obtain ⟨b, e3, _⟩ := DataW.trod_bool Try.underlying4 g3
    obtain ⟨c, e4, _⟩ := DataW.trod_bool Try.underlying4 g4
    obtain ⟨d, e5, _⟩ := DataW.trod_bool Try.underlying4 g5
    simp at e0 e1 e2 e3 e4 e5
    subst e0 e1 e2 e3 e4 e5
    exact ⟨k, n, a, b, c, d, rfl⟩

set_option maxRecDepth 100000 in
theorem pteEncodes_lifted (os : Os) (started : os.Started) (H : Type) (enc : TypeId × Value → H) :
    ReturnsInHanded {} Try.checked os 3 .any (Rows.pteEncodesSpec.pre6 enc Try.prog Try.f3 Rows.pteEncodesRow.domain false) (Rows.pteEncodesSpec.post enc Try.prog Try.f3 false true false false) := by
  refine returnsInHanded_of_change (C := Try.checked) seat_own started (by kernel_rfl) Try.func3
    (ChangeSpec.witness6 (enc := enc) (C := Try.checked) false ⟨#[], #[.agg #[.int .i64 0, .int .i64 0, .bool false, .bool false, .bool false, .bool false]], []⟩ 8 (by kernel_rfl) (by kernel_rfl) (by kernel_rfl) (by kernel_rfl)) ?_
  intro W base args ds gs before hval0 hW hcnd _
  have hval : ∀ (j : Nat) t v, Try.f3.params[j]? = some t → args[j]? = some v → Value.okWide Try.prog W .any base t v := hval0
  have hW' := hW
  obtain ⟨p, q, hA0, hV, rfl, hfz, hnd⟩ := hW
  have hA : DataW.TrodAll enc Try.prog W 0 (fun _ => true) true Try.f3.params.toList args.toList ds p := hA0
  rw [Try.params3] at hA hval
  obtain ⟨v0, d0, rfl, rfl, h0⟩ := trodAll_one hA
  obtain ⟨rfl, rfl⟩ := trodVars_none hV
  obtain ⟨k0, n0, a0, b0, c0, d0, rfl⟩ := open_ent (hval 0 23 v0 rfl rfl) h0
  clear hA0 hval0
  refine (encodes_any k0 n0 a0 b0 c0 d0 W).mono fun e W' ⟨he, hb⟩ => ?_
  subst he
  exact ⟨_, rfl, law_post seat_laidOut hW' rfl ⟨rfl, rfl, rfl⟩ ⟨_, rfl, Try.underlying4⟩ (ht_of (by kernel_rfl)) hb⟩
theorem pteEncodes_holds : Rows.PteEncodesSaid :=
  OpenClaim.holds_of_wide 3 Try.f3 rfl rfl rfl rfl rfl rfl rfl ⟨rfl, rfl, rfl, rfl, rfl⟩ rfl rfl rfl rfl rfl (by kernel_rfl) Try.func3 (by kernel_rfl)
    (of_decide_eq_true (by kernel_rfl)) (by unfold Func.isWrapper; first | (rw [if_pos (by decide +kernel)]; kernel_rfl) | (rw [if_neg (by decide +kernel)]; exact ⟨rfl, rfl⟩))
    (fun os started H enc _ => pteEncodes_lifted os started H enc)

set_option maxRecDepth 100000 in
theorem pteDecodes_lifted (os : Os) (started : os.Started) (H : Type) (enc : TypeId × Value → H) :
    ReturnsInHanded {} Try.checked os 4 .any (Rows.pteDecodesSpec.pre6 enc Try.prog Try.f4 Rows.pteDecodesRow.domain false) (Rows.pteDecodesSpec.post enc Try.prog Try.f4 false true false false) := by
  refine returnsInHanded_of_change (C := Try.checked) seat_own started (by kernel_rfl) Try.func4
    (ChangeSpec.witness6 (enc := enc) (C := Try.checked) false ⟨#[], #[.int .u64 0], []⟩ 8 (by kernel_rfl) (by kernel_rfl) (by kernel_rfl) (by kernel_rfl)) ?_
  intro W base args ds gs before hval0 hW hcnd _
  have hval : ∀ (j : Nat) t v, Try.f4.params[j]? = some t → args[j]? = some v → Value.okWide Try.prog W .any base t v := hval0
  have hW' := hW
  obtain ⟨p, q, hA0, hV, rfl, hfz, hnd⟩ := hW
  have hA : DataW.TrodAll enc Try.prog W 0 (fun _ => true) true Try.f4.params.toList args.toList ds p := hA0
  rw [Try.params4] at hA hval
  obtain ⟨v0, d0, rfl, rfl, h0⟩ := trodAll_one hA
  obtain ⟨rfl, rfl⟩ := trodVars_none hV
  obtain ⟨x0, rfl, rfl, rfl, wx0⟩ := open_int Try.underlying24 (hval 0 24 v0 rfl rfl) h0
  have bx0 := bounds_u64 wx0
  clear hA0 hval0
  refine (decodes_any x0 W (by omega) (by omega)).mono fun e W' ⟨he, hb⟩ => ?_
  subst he
  exact ⟨_, rfl, law_post seat_laidOut hW' rfl ⟨rfl, rfl, rfl⟩ ⟨_, rfl, Try.underlying4⟩ (ht_of (by kernel_rfl)) hb⟩
theorem pteDecodes_holds : Rows.PteDecodesSaid :=
  OpenClaim.holds_of_wide 4 Try.f4 rfl rfl rfl rfl rfl rfl rfl ⟨rfl, rfl, rfl, rfl, rfl⟩ rfl rfl rfl rfl rfl (by kernel_rfl) Try.func4 (by kernel_rfl)
    (of_decide_eq_true (by kernel_rfl)) (by unfold Func.isWrapper; first | (rw [if_pos (by decide +kernel)]; kernel_rfl) | (rw [if_neg (by decide +kernel)]; exact ⟨rfl, rfl⟩))
    (fun os started H enc _ => pteDecodes_lifted os started H enc)

set_option maxRecDepth 100000 in
theorem pteParts_lifted (os : Os) (started : os.Started) (H : Type) (enc : TypeId × Value → H) :
    ReturnsInHanded {} Try.checked os 5 .any (Rows.ptePartsSpec.pre6 enc Try.prog Try.f5 Rows.ptePartsRow.domain false) (Rows.ptePartsSpec.post enc Try.prog Try.f5 false true false false) := by
  refine returnsInHanded_of_change (C := Try.checked) seat_own started (by kernel_rfl) Try.func5
    (ChangeSpec.witness6 (enc := enc) (C := Try.checked) false ⟨#[], #[.int .u64 0, .int .i64 0], []⟩ 8 (by kernel_rfl) (by kernel_rfl) (by kernel_rfl) (by kernel_rfl)) ?_
  intro W base args ds gs before hval0 hW hcnd _
  have hval : ∀ (j : Nat) t v, Try.f5.params[j]? = some t → args[j]? = some v → Value.okWide Try.prog W .any base t v := hval0
  have hW' := hW
  obtain ⟨p, q, hA0, hV, rfl, hfz, hnd⟩ := hW
  have hA : DataW.TrodAll enc Try.prog W 0 (fun _ => true) true Try.f5.params.toList args.toList ds p := hA0
  rw [Try.params5] at hA hval
  obtain ⟨v0, v1, d0, d1, p0, p1, rfl, rfl, rfl, h0, h1⟩ := trodAll_two hA
  obtain ⟨rfl, rfl⟩ := trodVars_none hV
  obtain ⟨x0, rfl, rfl, rfl, wx0⟩ := open_int Try.underlying24 (hval 0 24 v0 rfl rfl) h0
  have bx0 := bounds_u64 wx0
  obtain ⟨x1, rfl, rfl, rfl, wx1⟩ := open_int Try.underlying3 (hval 1 3 v1 rfl rfl) h1
  have bx1 := bounds_i64 wx1
  clear hA0 hval0
  refine (parts_any x0 x1 W (by omega) (by omega) bx1).mono fun e W' ⟨he, hb⟩ => ?_
  subst he
  exact ⟨_, rfl, law_post seat_laidOut hW' rfl ⟨rfl, rfl, rfl⟩ ⟨_, rfl, Try.underlying4⟩ (ht_of (by kernel_rfl)) hb⟩
theorem pteParts_holds : Rows.PtePartsSaid :=
  OpenClaim.holds_of_wide 5 Try.f5 rfl rfl rfl rfl rfl rfl rfl ⟨rfl, rfl, rfl, rfl, rfl⟩ rfl rfl rfl rfl rfl (by kernel_rfl) Try.func5 (by kernel_rfl)
    (of_decide_eq_true (by kernel_rfl)) (by unfold Func.isWrapper; first | (rw [if_pos (by decide +kernel)]; kernel_rfl) | (rw [if_neg (by decide +kernel)]; exact ⟨rfl, rfl⟩))
    (fun os started H enc _ => pteParts_lifted os started H enc)

set_option maxRecDepth 100000 in
theorem pteInverse_lifted (os : Os) (started : os.Started) (H : Type) (enc : TypeId × Value → H) :
    ReturnsInHanded {} Try.checked os 6 .any (Rows.pteInverseSpec.pre6 enc Try.prog Try.f6 Rows.pteInverseRow.domain false) (Rows.pteInverseSpec.post enc Try.prog Try.f6 false true false false) := by
  refine returnsInHanded_of_change (C := Try.checked) seat_own started (by kernel_rfl) Try.func6
    (ChangeSpec.witness6 (enc := enc) (C := Try.checked) false ⟨#[], #[.agg #[.int .i64 0, .int .i64 0, .bool false, .bool false, .bool false, .bool false], .int .u64 0], []⟩ 8 (by kernel_rfl) (by kernel_rfl) (by kernel_rfl) (by kernel_rfl)) ?_
  intro W base args ds gs before hval0 hW hcnd _
  have hval : ∀ (j : Nat) t v, Try.f6.params[j]? = some t → args[j]? = some v → Value.okWide Try.prog W .any base t v := hval0
  have hW' := hW
  obtain ⟨p, q, hA0, hV, rfl, hfz, hnd⟩ := hW
  have hA : DataW.TrodAll enc Try.prog W 0 (fun _ => true) true Try.f6.params.toList args.toList ds p := hA0
  rw [Try.params6] at hA hval
  obtain ⟨v0, v1, d0, d1, p0, p1, rfl, rfl, rfl, h0, h1⟩ := trodAll_two hA
  obtain ⟨rfl, rfl⟩ := trodVars_none hV
  obtain ⟨k0, n0, a0, b0, c0, d0, rfl⟩ := open_ent (hval 0 23 v0 rfl rfl) h0
  obtain ⟨x1, rfl, rfl, rfl, wx1⟩ := open_int Try.underlying24 (hval 1 24 v1 rfl rfl) h1
  have bx1 := bounds_u64 wx1
  clear hA0 hval0
  refine (inverse_any k0 n0 a0 b0 c0 d0 x1 W (by omega) (by omega)).mono fun e W' ⟨he, hb⟩ => ?_
  subst he
  exact ⟨_, rfl, law_post seat_laidOut hW' rfl ⟨rfl, rfl, rfl⟩ ⟨_, rfl, Try.underlying4⟩ (ht_of (by kernel_rfl)) hb⟩
theorem pteInverse_holds : Rows.PteInverseSaid :=
  OpenClaim.holds_of_wide 6 Try.f6 rfl rfl rfl rfl rfl rfl rfl ⟨rfl, rfl, rfl, rfl, rfl⟩ rfl rfl rfl rfl rfl (by kernel_rfl) Try.func6 (by kernel_rfl)
    (of_decide_eq_true (by kernel_rfl)) (by unfold Func.isWrapper; first | (rw [if_pos (by decide +kernel)]; kernel_rfl) | (rw [if_neg (by decide +kernel)]; exact ⟨rfl, rfl⟩))
    (fun os started H enc _ => pteInverse_lifted os started H enc)

set_option maxRecDepth 100000 in
theorem pteDistinct_lifted (os : Os) (started : os.Started) (H : Type) (enc : TypeId × Value → H) :
    ReturnsInHanded {} Try.checked os 7 .any (Rows.pteDistinctSpec.pre6 enc Try.prog Try.f7 Rows.pteDistinctRow.domain false) (Rows.pteDistinctSpec.post enc Try.prog Try.f7 false true false false) := by
  refine returnsInHanded_of_change (C := Try.checked) seat_own started (by kernel_rfl) Try.func7
    (ChangeSpec.witness6 (enc := enc) (C := Try.checked) false ⟨#[], #[.agg #[.int .i64 0, .int .i64 0, .bool false, .bool false, .bool false, .bool false], .agg #[.int .i64 0, .int .i64 0, .bool false, .bool false, .bool false, .bool false]], []⟩ 8 (by kernel_rfl) (by kernel_rfl) (by kernel_rfl) (by kernel_rfl)) ?_
  intro W base args ds gs before hval0 hW hcnd _
  have hval : ∀ (j : Nat) t v, Try.f7.params[j]? = some t → args[j]? = some v → Value.okWide Try.prog W .any base t v := hval0
  have hW' := hW
  obtain ⟨p, q, hA0, hV, rfl, hfz, hnd⟩ := hW
  have hA : DataW.TrodAll enc Try.prog W 0 (fun _ => true) true Try.f7.params.toList args.toList ds p := hA0
  rw [Try.params7] at hA hval
  obtain ⟨v0, v1, d0, d1, p0, p1, rfl, rfl, rfl, h0, h1⟩ := trodAll_two hA
  obtain ⟨rfl, rfl⟩ := trodVars_none hV
  obtain ⟨k0, n0, a0, b0, c0, d0, rfl⟩ := open_ent (hval 0 23 v0 rfl rfl) h0
  obtain ⟨k1, n1, a1, b1, c1, d1, rfl⟩ := open_ent (hval 1 23 v1 rfl rfl) h1
  clear hA0 hval0
  refine (distinct_any k0 n0 a0 b0 c0 d0 k1 n1 a1 b1 c1 d1 W).mono fun e W' ⟨he, hb⟩ => ?_
  subst he
  exact ⟨_, rfl, law_post seat_laidOut hW' rfl ⟨rfl, rfl, rfl⟩ ⟨_, rfl, Try.underlying4⟩ (ht_of (by kernel_rfl)) hb⟩
theorem pteDistinct_holds : Rows.PteDistinctSaid :=
  OpenClaim.holds_of_wide 7 Try.f7 rfl rfl rfl rfl rfl rfl rfl ⟨rfl, rfl, rfl, rfl, rfl⟩ rfl rfl rfl rfl rfl (by kernel_rfl) Try.func7 (by kernel_rfl)
    (of_decide_eq_true (by kernel_rfl)) (by unfold Func.isWrapper; first | (rw [if_pos (by decide +kernel)]; kernel_rfl) | (rw [if_neg (by decide +kernel)]; exact ⟨rfl, rfl⟩))
    (fun os started H enc _ => pteDistinct_lifted os started H enc)

set_option maxRecDepth 100000 in
theorem pteMarks_lifted (os : Os) (started : os.Started) (H : Type) (enc : TypeId × Value → H) :
    ReturnsInHanded {} Try.checked os 8 .any (Rows.pteMarksSpec.pre6 enc Try.prog Try.f8 Rows.pteMarksRow.domain false) (Rows.pteMarksSpec.post enc Try.prog Try.f8 false true false false) := by
  refine returnsInHanded_of_change (C := Try.checked) seat_own started (by kernel_rfl) Try.func8
    (ChangeSpec.witness6 (enc := enc) (C := Try.checked) false ⟨#[], #[.int .u64 0, .bool false], []⟩ 8 (by kernel_rfl) (by kernel_rfl) (by kernel_rfl) (by kernel_rfl)) ?_
  intro W base args ds gs before hval0 hW hcnd _
  have hval : ∀ (j : Nat) t v, Try.f8.params[j]? = some t → args[j]? = some v → Value.okWide Try.prog W .any base t v := hval0
  have hW' := hW
  obtain ⟨p, q, hA0, hV, rfl, hfz, hnd⟩ := hW
  have hA : DataW.TrodAll enc Try.prog W 0 (fun _ => true) true Try.f8.params.toList args.toList ds p := hA0
  rw [Try.params8] at hA hval
  obtain ⟨v0, v1, d0, d1, p0, p1, rfl, rfl, rfl, h0, h1⟩ := trodAll_two hA
  obtain ⟨rfl, rfl⟩ := trodVars_none hV
  obtain ⟨x0, rfl, rfl, rfl, wx0⟩ := open_int Try.underlying24 (hval 0 24 v0 rfl rfl) h0
  have bx0 := bounds_u64 wx0
  obtain ⟨x1, rfl, rfl, rfl⟩ := open_bool Try.underlying4 (hval 1 4 v1 rfl rfl) h1
  clear hA0 hval0
  refine (marks_any x0 x1 W (by omega) (by omega)).mono fun e W' ⟨he, hb⟩ => ?_
  subst he
  exact ⟨_, rfl, law_post seat_laidOut hW' rfl ⟨rfl, rfl, rfl⟩ ⟨_, rfl, Try.underlying4⟩ (ht_of (by kernel_rfl)) hb⟩
theorem pteMarks_holds : Rows.PteMarksSaid :=
  OpenClaim.holds_of_wide 8 Try.f8 rfl rfl rfl rfl rfl rfl rfl ⟨rfl, rfl, rfl, rfl, rfl⟩ rfl rfl rfl rfl rfl (by kernel_rfl) Try.func8 (by kernel_rfl)
    (of_decide_eq_true (by kernel_rfl)) (by unfold Func.isWrapper; first | (rw [if_pos (by decide +kernel)]; kernel_rfl) | (rw [if_neg (by decide +kernel)]; exact ⟨rfl, rfl⟩))
    (fun os started H enc _ => pteMarks_lifted os started H enc)

set_option maxRecDepth 100000 in
theorem pteBits_lifted (os : Os) (started : os.Started) (H : Type) (enc : TypeId × Value → H) :
    ReturnsInHanded {} Try.checked os 9 .any (Rows.pteBitsSpec.pre6 enc Try.prog Try.f9 Rows.pteBitsRow.domain false) (Rows.pteBitsSpec.post enc Try.prog Try.f9 false true false false) := by
  refine returnsInHanded_of_change (C := Try.checked) seat_own started (by kernel_rfl) Try.func9
    (ChangeSpec.witness6 (enc := enc) (C := Try.checked) false ⟨#[], #[.int .u64 0, .bool false], []⟩ 8 (by kernel_rfl) (by kernel_rfl) (by kernel_rfl) (by kernel_rfl)) ?_
  intro W base args ds gs before hval0 hW hcnd _
  have hval : ∀ (j : Nat) t v, Try.f9.params[j]? = some t → args[j]? = some v → Value.okWide Try.prog W .any base t v := hval0
  have hW' := hW
  obtain ⟨p, q, hA0, hV, rfl, hfz, hnd⟩ := hW
  have hA : DataW.TrodAll enc Try.prog W 0 (fun _ => true) true Try.f9.params.toList args.toList ds p := hA0
  rw [Try.params9] at hA hval
  obtain ⟨v0, v1, d0, d1, p0, p1, rfl, rfl, rfl, h0, h1⟩ := trodAll_two hA
  obtain ⟨rfl, rfl⟩ := trodVars_none hV
  obtain ⟨x0, rfl, rfl, rfl, wx0⟩ := open_int Try.underlying24 (hval 0 24 v0 rfl rfl) h0
  have bx0 := bounds_u64 wx0
  obtain ⟨x1, rfl, rfl, rfl⟩ := open_bool Try.underlying4 (hval 1 4 v1 rfl rfl) h1
  clear hA0 hval0
  refine (bits_any x0 x1 W (by omega) (by omega)).mono fun e W' ⟨he, hb⟩ => ?_
  subst he
  exact ⟨_, rfl, law_post seat_laidOut hW' rfl ⟨rfl, rfl, rfl⟩ ⟨_, rfl, Try.underlying4⟩ (ht_of (by kernel_rfl)) hb⟩
theorem pteBits_holds : Rows.PteBitsSaid :=
  OpenClaim.holds_of_wide 9 Try.f9 rfl rfl rfl rfl rfl rfl rfl ⟨rfl, rfl, rfl, rfl, rfl⟩ rfl rfl rfl rfl rfl (by kernel_rfl) Try.func9 (by kernel_rfl)
    (of_decide_eq_true (by kernel_rfl)) (by unfold Func.isWrapper; first | (rw [if_pos (by decide +kernel)]; kernel_rfl) | (rw [if_neg (by decide +kernel)]; exact ⟨rfl, rfl⟩))
    (fun os started H enc _ => pteBits_lifted os started H enc)

end Go.Proofs.Ythdnjkgolcpbjaa
