/- Texts joined: TlbCheck, TlbOpsM. Each part's own remark says what it proves. -/
import Derived.Test.YtbgjelhefhcnpaaGreatM09
import Derived.Test.YtbgjelhefhcnpaaGreatM08
/- The walks of package tlb and its reference: Check, and what Fill, Invalidate and Flush leave. No conditions. -/
set_option linter.unusedSimpArgs false
set_option linter.unusedVariables false
namespace Go.Proofs.YtbgjelhefhcnpaaGreat
open Go Go.RowKit
attribute [local irreducible] Code.wp wpList bodyPost Exit.then Exit.inBlock Calls wpQuiet Tri TriQ
abbrev teC (g : Nat) (x : TE) : Chunk := blkC g 118 [.int .i64 x.s, .int .i64 x.p, .int .u64 x.w]
abbrev tlbV (z : Int) (v : Value) : Value := .agg #[.int .i64 z, v]
abbrev tlbC (g : Nat) (z : Int) (v : Value) : Chunk := blkC g 33 [.int .i64 z, v]
theorem Vd.wf {x : TE} (h : Vd x) (hx : 0 ≤ x.w ∧ x.w < 18446744073709551616) : Wf x := ⟨by have := h.s; omega, by have := h.p; omega, hx⟩
section
variable (w0 : World) (cs : List Chunk)
theorem checkf_c {g : Nat} {x : TE} {l : List TE} (hi : Has cs (teC g x)) (hx : Wf x) (bx : x.p ≤ 4611686018427387904) (hl : ∀ y ∈ l, Wf y ∧ y.p ≤ 4611686018427387904) : Tst w0 cs 63 [.pointer (some ⟨g, 0, none⟩)] (ovM x) l := fun ds y hy => by
  have hi' : Has (ds ++ cs) (teC g x) := has_app hi
  show Cal _ _ [teV y, .pointer (some ⟨g, 0, none⟩)] _ _ _
  refine cal_of_tri Tryz.func63 rfl Tryz.ntmps63 rfl ?_
  (repeat (first | refine au_pure ?_ | refine au_pass ?_ | refine au_box (fun _ => ?_) | refine au_alloc (fun _ => ?_) | refine au_store ?_ | refine au_make rfl rfl (fun _ => ?_) | refine au_lit rfl rfl rfl (fun _ => ?_) | refine au_append rfl rfl rfl rfl (fun _ => au_norm ?_) | refine au_storeE rfl rfl rfl rfl ?_ | refine tri_seq ?_ | refine tri_then ?_ | refine tri_region ?_ | refine tri_nil ?_ | refine tri_skip ?_ | refine tri_ret ?_ | refine tri_exit ?_ | refine tri_thenr ?_ | refine tri_thene ?_ | refine tri_blkn ?_ | refine tri_blkr ?_ | refine tri_blke ?_ | refine tri_blko (by rfl) ?_ | refine tri_if_t (by rfl) ?_ | refine tri_if_f (by rfl) ?_ | fail))
  refine au_call rfl rfl (cl_of rfl rfl rfl (fun _ h => Ret.hp (overlap_any x y _ hx (hl y hy).1 bx (hl y hy).2) h)) ?_
  (repeat (first | refine au_pure ?_ | refine au_pass ?_ | refine au_box (fun _ => ?_) | refine au_alloc (fun _ => ?_) | refine au_store ?_ | refine au_make rfl rfl (fun _ => ?_) | refine au_lit rfl rfl rfl (fun _ => ?_) | refine au_append rfl rfl rfl rfl (fun _ => au_norm ?_) | refine au_storeE rfl rfl rfl rfl ?_ | refine tri_seq ?_ | refine tri_then ?_ | refine tri_region ?_ | refine tri_nil ?_ | refine tri_skip ?_ | refine tri_ret ?_ | refine tri_exit ?_ | refine tri_thenr ?_ | refine tri_thene ?_ | refine tri_blkn ?_ | refine tri_blkr ?_ | refine tri_blke ?_ | refine tri_blko (by rfl) ?_ | refine tri_if_t (by rfl) ?_ | refine tri_if_f (by rfl) ?_ | fail))
  refine au_done1 rfl ?_
  intro w hw; exact ⟨(), rfl, hw.sub (by repeat (first | exact List.Sublist.refl _ | assumption | apply List.Sublist.cons_cons | apply List.Sublist.cons))⟩
theorem fillf_c {g : Nat} {x : TE} {l : List TE} (hi : Has cs (teC g x)) (hx : Wf x) (bx : x.p ≤ 4611686018427387904) (hl : ∀ y ∈ l, Wf y ∧ y.p ≤ 4611686018427387904) : Tst w0 cs 69 [.pointer (some ⟨g, 0, none⟩)] (ovM x) l := fun ds y hy => by
  have hi' : Has (ds ++ cs) (teC g x) := has_app hi
  show Cal _ _ [teV y, .pointer (some ⟨g, 0, none⟩)] _ _ _
  refine cal_of_tri Tryz.func69 rfl Tryz.ntmps69 rfl ?_
  (repeat (first | refine au_pure ?_ | refine au_pass ?_ | refine au_box (fun _ => ?_) | refine au_alloc (fun _ => ?_) | refine au_store ?_ | refine au_make rfl rfl (fun _ => ?_) | refine au_lit rfl rfl rfl (fun _ => ?_) | refine au_append rfl rfl rfl rfl (fun _ => au_norm ?_) | refine au_storeE rfl rfl rfl rfl ?_ | refine tri_seq ?_ | refine tri_then ?_ | refine tri_region ?_ | refine tri_nil ?_ | refine tri_skip ?_ | refine tri_ret ?_ | refine tri_exit ?_ | refine tri_thenr ?_ | refine tri_thene ?_ | refine tri_blkn ?_ | refine tri_blkr ?_ | refine tri_blke ?_ | refine tri_blko (by rfl) ?_ | refine tri_if_t (by rfl) ?_ | refine tri_if_f (by rfl) ?_ | fail))
  refine au_call rfl rfl (cl_of rfl rfl rfl (fun _ h => Ret.hp (overlap_any x y _ hx (hl y hy).1 bx (hl y hy).2) h)) ?_
  (repeat (first | refine au_pure ?_ | refine au_pass ?_ | refine au_box (fun _ => ?_) | refine au_alloc (fun _ => ?_) | refine au_store ?_ | refine au_make rfl rfl (fun _ => ?_) | refine au_lit rfl rfl rfl (fun _ => ?_) | refine au_append rfl rfl rfl rfl (fun _ => au_norm ?_) | refine au_storeE rfl rfl rfl rfl ?_ | refine tri_seq ?_ | refine tri_then ?_ | refine tri_region ?_ | refine tri_nil ?_ | refine tri_skip ?_ | refine tri_ret ?_ | refine tri_exit ?_ | refine tri_thenr ?_ | refine tri_thene ?_ | refine tri_blkn ?_ | refine tri_blkr ?_ | refine tri_blke ?_ | refine tri_blko (by rfl) ?_ | refine tri_if_t (by rfl) ?_ | refine tri_if_f (by rfl) ?_ | fail))
  refine au_done1 rfl ?_
  intro w hw; exact ⟨(), rfl, hw.sub (by repeat (first | exact List.Sublist.refl _ | assumption | apply List.Sublist.cons_cons | apply List.Sublist.cons))⟩
theorem invf_c {g g' : Nat} {s p : Int} {l : List TE} (hi : Has cs (blkC g 3 [.int .i64 s])) (hj : Has cs (blkC g' 3 [.int .i64 p])) (hl : ∀ y ∈ l, Wf y ∧ y.p ≤ 4611686018427387904) : Tst w0 cs 67 [.pointer (some ⟨g, 0, none⟩), .pointer (some ⟨g', 0, none⟩)] (fun y => covM y s p) l := fun ds y hy => by
  have hi' : Has (ds ++ cs) (blkC g 3 [.int .i64 s]) := has_app hi
  have hj' : Has (ds ++ cs) (blkC g' 3 [.int .i64 p]) := has_app hj
  show Cal _ _ [teV y, .pointer (some ⟨g, 0, none⟩), .pointer (some ⟨g', 0, none⟩)] _ _ _
  refine cal_of_tri Tryz.func67 rfl Tryz.ntmps67 rfl ?_
  (repeat (first | refine au_pure ?_ | refine au_pass ?_ | refine au_box (fun _ => ?_) | refine au_alloc (fun _ => ?_) | refine au_store ?_ | refine au_make rfl rfl (fun _ => ?_) | refine au_lit rfl rfl rfl (fun _ => ?_) | refine au_append rfl rfl rfl rfl (fun _ => au_norm ?_) | refine au_storeE rfl rfl rfl rfl ?_ | refine tri_seq ?_ | refine tri_then ?_ | refine tri_region ?_ | refine tri_nil ?_ | refine tri_skip ?_ | refine tri_ret ?_ | refine tri_exit ?_ | refine tri_thenr ?_ | refine tri_thene ?_ | refine tri_blkn ?_ | refine tri_blkr ?_ | refine tri_blke ?_ | refine tri_blko (by rfl) ?_ | refine tri_if_t (by rfl) ?_ | refine tri_if_f (by rfl) ?_ | fail))
  refine au_call rfl rfl (cl_of rfl rfl rfl (fun _ h => Ret.hp (covers_any y s p _ (hl y hy).1 (hl y hy).2) h)) ?_
  (repeat (first | refine au_pure ?_ | refine au_pass ?_ | refine au_box (fun _ => ?_) | refine au_alloc (fun _ => ?_) | refine au_store ?_ | refine au_make rfl rfl (fun _ => ?_) | refine au_lit rfl rfl rfl (fun _ => ?_) | refine au_append rfl rfl rfl rfl (fun _ => au_norm ?_) | refine au_storeE rfl rfl rfl rfl ?_ | refine tri_seq ?_ | refine tri_then ?_ | refine tri_region ?_ | refine tri_nil ?_ | refine tri_skip ?_ | refine tri_ret ?_ | refine tri_exit ?_ | refine tri_thenr ?_ | refine tri_thene ?_ | refine tri_blkn ?_ | refine tri_blkr ?_ | refine tri_blke ?_ | refine tri_blko (by rfl) ?_ | refine tri_if_t (by rfl) ?_ | refine tri_if_f (by rfl) ?_ | fail))
  refine au_done1 rfl ?_
  intro w hw; exact ⟨(), rfl, hw.sub (by repeat (first | exact List.Sublist.refl _ | assumption | apply List.Sublist.cons_cons | apply List.Sublist.cons))⟩
theorem any_drop0 (l : List TE) (k : Nat) (p : TE → Bool) : ((l.take k).drop 0).any p = (l.take k).any p := by rw [List.drop_zero]
set_option maxHeartbeats 2000000 in
theorem check_c {z : Int} {v : Value} {l : List TE} (hR : RdH (Hp w0 cs) v l) (hlen : l.length ≤ 9223372036854775807) (hw : ∀ x ∈ l, Wf x) :
    Cal Tryz.prog 18 [tlbV z v] (Hp w0 cs) (fun _ : Unit => .int .i64 (checkM z l)) (fun _ => Hp w0 cs) := by
  refine cal_of_tri Tryz.func18 rfl Tryz.ntmps18 rfl ?_
  (repeat (first | refine au_pure ?_ | refine au_pass ?_ | refine au_box (fun _ => ?_) | refine au_alloc (fun _ => ?_) | refine au_store ?_ | refine au_make rfl rfl (fun _ => ?_) | refine au_lit rfl rfl rfl (fun _ => ?_) | refine au_append rfl rfl rfl rfl (fun _ => au_norm ?_) | refine au_storeE rfl rfl rfl rfl ?_ | refine tri_seq ?_ | refine tri_then ?_ | refine tri_region ?_ | refine tri_nil ?_ | refine tri_skip ?_ | refine tri_ret ?_ | refine tri_exit ?_ | refine tri_thenr ?_ | refine tri_thene ?_ | refine tri_blkn ?_ | refine tri_blkr ?_ | refine tri_blke ?_ | refine tri_blko (by rfl) ?_ | refine tri_if_t (by rfl) ?_ | refine tri_if_f (by rfl) ?_ | fail))
  rename_i g1
  (repeat' (first | refine au_pure ?_ | refine au_pass ?_ | refine au_box (fun _ => ?_) | refine au_alloc (fun _ => ?_) | refine au_store ?_ | refine au_make rfl rfl (fun _ => ?_) | refine au_lit rfl rfl rfl (fun _ => ?_) | refine au_append rfl rfl rfl rfl (fun _ => au_norm ?_) | refine au_storeE rfl rfl rfl rfl ?_ | refine tri_seq ?_ | refine tri_then ?_ | refine tri_region ?_ | refine tri_nil ?_ | refine tri_skip ?_ | refine tri_ret ?_ | refine tri_exit ?_ | refine tri_thenr ?_ | refine tri_thene ?_ | refine tri_blkn ?_ | refine tri_blkr ?_ | refine tri_blke ?_ | refine tri_blko (by rfl) ?_ | refine tri_if_t (by rfl) ?_ | refine tri_if_f (by rfl) ?_ | ((first | refine tri_cond (by rfl) (fun hc => ?_) (fun hc => ?_) | refine tri_gsplit (by rfl) (by rfl) (by (fail_if_success exact (rfl : _ = some (Value.bool true))); (fail_if_success exact (rfl : _ = some (Value.bool false))); rfl) (fun hc => ?_) (fun hc => ?_)) <;> (try simp only [decide_eq_true_eq, decide_eq_false_iff_not, beq_iff_eq, bne_iff_ne, ne_eq, Bool.not_eq_true', Bool.not_eq_false', beq_eq_false_iff_ne, bne_eq_false_iff_eq, Int.not_lt, Int.not_le, gt_iff_lt, ge_iff_le, Bool.and_eq_true, Bool.or_eq_true, Bool.and_eq_false_iff, Bool.or_eq_false_iff, Decidable.not_not, not_true_eq_false, not_false_eq_true, and_true, true_and, or_false, false_or, or_true, true_or, and_false, false_and, eq_self, Bool.true_eq_false, Bool.false_eq_true] at hc) <;> (try (exfalso; omega))) | fail))
  · refine au_done1 rfl ?_
    intro w hw; refine ⟨(), ?_, hw.sub (by repeat (first | exact List.Sublist.refl _ | assumption | apply List.Sublist.cons_cons | apply List.Sublist.cons))⟩
    rw [checkM, if_pos (by omega)]
  · refine au_done1 rfl ?_
    intro w hw; refine ⟨(), ?_, hw.sub (by repeat (first | exact List.Sublist.refl _ | assumption | apply List.Sublist.cons_cons | apply List.Sublist.cons))⟩
    rw [checkM, if_pos (by omega)]
  · refine au_done1 rfl ?_
    intro w hw; refine ⟨(), ?_, hw.sub (by repeat (first | exact List.Sublist.refl _ | assumption | apply List.Sublist.cons_cons | apply List.Sublist.cons))⟩
    rw [checkM, if_neg (by omega), if_pos (by omega)]
  have hcm : ∀ c, errG (badAt l) l.length 0 = c → checkM z l = c := fun c h => by rw [checkM, if_neg (by omega), if_neg (by omega), h]
  refine tri_block ?_
  refine tri_loop1 (fun k => k ≤ l.length ∧ ∀ j, j < k → badAt l j = 0) (fun k => [(1, .pointer (some ⟨g1, 0, none⟩)), (2, .int .i64 0), (23, v), (24, .int .i64 (l.length : Int)), (25, .int .i64 (k : Int))]) (fun _ => Hp w0 (tlbC g1 z v :: cs)) (fun k => l.length - k)
    0 ⟨by omega, fun j hj => by omega⟩ (by repeat (first | exact trivial | refine ⟨rfl, ?_⟩)) (fun _ h => h) ?_
  rintro k ⟨hk, hp⟩
  (repeat' (first | refine au_pure ?_ | refine au_pass ?_ | refine au_box (fun _ => ?_) | refine au_alloc (fun _ => ?_) | refine au_store ?_ | refine au_make rfl rfl (fun _ => ?_) | refine au_lit rfl rfl rfl (fun _ => ?_) | refine au_append rfl rfl rfl rfl (fun _ => au_norm ?_) | refine au_storeE rfl rfl rfl rfl ?_ | refine tri_seq ?_ | refine tri_then ?_ | refine tri_region ?_ | refine tri_nil ?_ | refine tri_skip ?_ | refine tri_ret ?_ | refine tri_exit ?_ | refine tri_thenr ?_ | refine tri_thene ?_ | refine tri_blkn ?_ | refine tri_blkr ?_ | refine tri_blke ?_ | refine tri_blko (by rfl) ?_ | refine tri_if_t (by rfl) ?_ | refine tri_if_f (by rfl) ?_ | ((first | refine tri_cond (by rfl) (fun hc => ?_) (fun hc => ?_) | refine tri_gsplit (by rfl) (by rfl) (by (fail_if_success exact (rfl : _ = some (Value.bool true))); (fail_if_success exact (rfl : _ = some (Value.bool false))); rfl) (fun hc => ?_) (fun hc => ?_)) <;> (try simp only [decide_eq_true_eq, decide_eq_false_iff_not, beq_iff_eq, bne_iff_ne, ne_eq, Bool.not_eq_true', Bool.not_eq_false', beq_eq_false_iff_ne, bne_eq_false_iff_eq, Int.not_lt, Int.not_le, gt_iff_lt, ge_iff_le, Bool.and_eq_true, Bool.or_eq_true, Bool.and_eq_false_iff, Bool.or_eq_false_iff, Decidable.not_not, not_true_eq_false, not_false_eq_true, and_true, true_and, or_false, false_or, or_true, true_or, and_false, false_and, eq_self, Bool.true_eq_false, Bool.false_eq_true] at hc) <;> (try (exfalso; omega))) | fail))
  · refine tri_block ?_
    have hwk := wf_at hw k
    obtain ⟨x, hx⟩ : ∃ x, x = l.getD k default := ⟨_, rfl⟩
    rw [← hx] at hwk
    have hbk : badAt l k = if okT x = 0 then (if (l.take k).any (ovM x) then 7 else 0) else okT x := by rw [badAt, ← hx]
    have hat : ∀ c, ¬ c = 0 → badAt l k = c → checkM z l = c := fun c h1 h2 => hcm c (errG_at h1 h2 _ _ (by omega) (by omega) fun j _ hj => hp j hj)
    (repeat (first | refine au_pure ?_ | refine au_pass ?_ | refine au_box (fun _ => ?_) | refine au_alloc (fun _ => ?_) | refine au_store ?_ | refine au_make rfl rfl (fun _ => ?_) | refine au_lit rfl rfl rfl (fun _ => ?_) | refine au_append rfl rfl rfl rfl (fun _ => au_norm ?_) | refine au_storeE rfl rfl rfl rfl ?_ | refine tri_seq ?_ | refine tri_then ?_ | refine tri_region ?_ | refine tri_nil ?_ | refine tri_skip ?_ | refine tri_ret ?_ | refine tri_exit ?_ | refine tri_thenr ?_ | refine tri_thene ?_ | refine tri_blkn ?_ | refine tri_blkr ?_ | refine tri_blke ?_ | refine tri_blko (by rfl) ?_ | refine tri_if_t (by rfl) ?_ | refine tri_if_f (by rfl) ?_ | fail))
    rename_i g4
    rw [← hx]
    refine au_call rfl rfl (cl_of rfl rfl rfl (fun _ h => Ret.hp (place_any _ _ _) h)) ?_
    (repeat' (first | refine au_pure ?_ | refine au_pass ?_ | refine au_box (fun _ => ?_) | refine au_alloc (fun _ => ?_) | refine au_store ?_ | refine au_make rfl rfl (fun _ => ?_) | refine au_lit rfl rfl rfl (fun _ => ?_) | refine au_append rfl rfl rfl rfl (fun _ => au_norm ?_) | refine au_storeE rfl rfl rfl rfl ?_ | refine tri_seq ?_ | refine tri_then ?_ | refine tri_region ?_ | refine tri_nil ?_ | refine tri_skip ?_ | refine tri_ret ?_ | refine tri_exit ?_ | refine tri_thenr ?_ | refine tri_thene ?_ | refine tri_blkn ?_ | refine tri_blkr ?_ | refine tri_blke ?_ | refine tri_blko (by rfl) ?_ | refine tri_if_t (by rfl) ?_ | refine tri_if_f (by rfl) ?_ | ((first | refine tri_cond (by rfl) (fun hc => ?_) (fun hc => ?_) | refine tri_gsplit (by rfl) (by rfl) (by (fail_if_success exact (rfl : _ = some (Value.bool true))); (fail_if_success exact (rfl : _ = some (Value.bool false))); rfl) (fun hc => ?_) (fun hc => ?_)) <;> (try simp only [decide_eq_true_eq, decide_eq_false_iff_not, beq_iff_eq, bne_iff_ne, ne_eq, Bool.not_eq_true', Bool.not_eq_false', beq_eq_false_iff_ne, bne_eq_false_iff_eq, Int.not_lt, Int.not_le, gt_iff_lt, ge_iff_le, Bool.and_eq_true, Bool.or_eq_true, Bool.and_eq_false_iff, Bool.or_eq_false_iff, Decidable.not_not, not_true_eq_false, not_false_eq_true, and_true, true_and, or_false, false_or, or_true, true_or, and_false, false_and, eq_self, Bool.true_eq_false, Bool.false_eq_true] at hc) <;> (try (exfalso; omega))) | fail))
    · have hne : ¬ plcM x.s x.p = 0 := by assumption
      have hok : okT x = plcM x.s x.p := by
        unfold okT
        rw [if_neg hne]
        unfold plcM at hne ⊢
        split at hne
        · exact absurd rfl hne
        · rw [if_neg (by assumption)]
      refine au_done1 rfl ?_
      intro w hw; refine ⟨(), ?_, hw.sub (by repeat (first | exact List.Sublist.refl _ | assumption | apply List.Sublist.cons_cons | apply List.Sublist.cons))⟩
      rw [hat _ hne (by rw [hbk, if_neg (by rw [hok]; exact hne), hok])]
    have hpl : plcM x.s x.p = 0 := by assumption
    obtain ⟨ps, pp⟩ := plc_ok hpl
    refine au_call rfl rfl (cl_of rfl rfl rfl (fun _ h => Ret.hp (trans_any _ _ hwk.2.2.1 hwk.2.2.2) h)) ?_
    (repeat' (first | refine au_pure ?_ | refine au_pass ?_ | refine au_box (fun _ => ?_) | refine au_alloc (fun _ => ?_) | refine au_store ?_ | refine au_make rfl rfl (fun _ => ?_) | refine au_lit rfl rfl rfl (fun _ => ?_) | refine au_append rfl rfl rfl rfl (fun _ => au_norm ?_) | refine au_storeE rfl rfl rfl rfl ?_ | refine tri_seq ?_ | refine tri_then ?_ | refine tri_region ?_ | refine tri_nil ?_ | refine tri_skip ?_ | refine tri_ret ?_ | refine tri_exit ?_ | refine tri_thenr ?_ | refine tri_thene ?_ | refine tri_blkn ?_ | refine tri_blkr ?_ | refine tri_blke ?_ | refine tri_blko (by rfl) ?_ | refine tri_if_t (by rfl) ?_ | refine tri_if_f (by rfl) ?_ | ((first | refine tri_cond (by rfl) (fun hc => ?_) (fun hc => ?_) | refine tri_gsplit (by rfl) (by rfl) (by (fail_if_success exact (rfl : _ = some (Value.bool true))); (fail_if_success exact (rfl : _ = some (Value.bool false))); rfl) (fun hc => ?_) (fun hc => ?_)) <;> (try simp only [decide_eq_true_eq, decide_eq_false_iff_not, beq_iff_eq, bne_iff_ne, ne_eq, Bool.not_eq_true', Bool.not_eq_false', beq_eq_false_iff_ne, bne_eq_false_iff_eq, Int.not_lt, Int.not_le, gt_iff_lt, ge_iff_le, Bool.and_eq_true, Bool.or_eq_true, Bool.and_eq_false_iff, Bool.or_eq_false_iff, Decidable.not_not, not_true_eq_false, not_false_eq_true, and_true, true_and, or_false, false_or, or_true, true_or, and_false, false_and, eq_self, Bool.true_eq_false, Bool.false_eq_true] at hc) <;> (try (exfalso; omega))) | fail))
    · have ht : tr x.w = false := by assumption
      have hok : okT x = 3 := by unfold okT formT; rw [if_pos hpl, ht]; rfl
      refine au_done1 rfl ?_
      intro w hw; refine ⟨(), ?_, hw.sub (by repeat (first | exact List.Sublist.refl _ | assumption | apply List.Sublist.cons_cons | apply List.Sublist.cons))⟩
      rw [hat 3 (by decide) (by rw [hbk, hok]; rfl)]
    · have hh : hu x.w = true := by assumption
      have hok : okT x = 3 := by unfold okT formT; rw [if_pos hpl, hh, if_neg]; simp; intro _; assumption
      refine au_done1 rfl ?_
      intro w hw; refine ⟨(), ?_, hw.sub (by repeat (first | exact List.Sublist.refl _ | assumption | apply List.Sublist.cons_cons | apply List.Sublist.cons))⟩
      rw [hat 3 (by decide) (by rw [hbk, hok]; rfl)]
    all_goals
      have hvd : Vd x := ⟨ps, pp, by assumption, fun hh => by first | assumption | (exfalso; simp_all; done)⟩
      have hok : okT x = 0 := okT_vd.2 hvd
      have hpre : ∀ y ∈ (l.take k).drop 0, Wf y ∧ y.p ≤ 4611686018427387904 := fun y hy => by
        rw [List.drop_zero] at hy
        refine ⟨hw y (List.mem_of_mem_take hy), ?_⟩
        rw [List.mem_take_iff_getElem] at hy
        obtain ⟨j, hj, rfl⟩ := hy
        have := (bad_zero.1 (hp j (by omega))).1.p
        rw [getD_get (by omega)] at this
        omega
      have hlk : ((l.take k).drop 0).length ≤ 9223372036854775807 := by simp; omega
      refine au_callC rfl rfl rfl rfl rfl (containsFunc_c w0 _ (l := (l.take k).drop 0) (by repeat (first | assumption | exact rd_chunk (by first | (apply has_at; (repeat (first | exact at0 | apply atS)); done) | (repeat (first | assumption | apply has_cons))) | apply RdH.cons | refine RdH.cut ?_ rfl (by omega) (by omega))) hlk (checkf_c w0 _ (x := x) (by first | (apply has_at; (repeat (first | exact at0 | apply atS)); done) | (repeat (first | assumption | apply has_cons))) hwk (by omega) hpre)) (fun _ => ?_)
      rw [any_drop0]
      (repeat' (first | refine au_pure ?_ | refine au_pass ?_ | refine au_box (fun _ => ?_) | refine au_alloc (fun _ => ?_) | refine au_store ?_ | refine au_make rfl rfl (fun _ => ?_) | refine au_lit rfl rfl rfl (fun _ => ?_) | refine au_append rfl rfl rfl rfl (fun _ => au_norm ?_) | refine au_storeE rfl rfl rfl rfl ?_ | refine tri_seq ?_ | refine tri_then ?_ | refine tri_region ?_ | refine tri_nil ?_ | refine tri_skip ?_ | refine tri_ret ?_ | refine tri_exit ?_ | refine tri_thenr ?_ | refine tri_thene ?_ | refine tri_blkn ?_ | refine tri_blkr ?_ | refine tri_blke ?_ | refine tri_blko (by rfl) ?_ | refine tri_if_t (by rfl) ?_ | refine tri_if_f (by rfl) ?_ | ((first | refine tri_cond (by rfl) (fun hc => ?_) (fun hc => ?_) | refine tri_gsplit (by rfl) (by rfl) (by (fail_if_success exact (rfl : _ = some (Value.bool true))); (fail_if_success exact (rfl : _ = some (Value.bool false))); rfl) (fun hc => ?_) (fun hc => ?_)) <;> (try simp only [decide_eq_true_eq, decide_eq_false_iff_not, beq_iff_eq, bne_iff_ne, ne_eq, Bool.not_eq_true', Bool.not_eq_false', beq_eq_false_iff_ne, bne_eq_false_iff_eq, Int.not_lt, Int.not_le, gt_iff_lt, ge_iff_le, Bool.and_eq_true, Bool.or_eq_true, Bool.and_eq_false_iff, Bool.or_eq_false_iff, Decidable.not_not, not_true_eq_false, not_false_eq_true, and_true, true_and, or_false, false_or, or_true, true_or, and_false, false_and, eq_self, Bool.true_eq_false, Bool.false_eq_true] at hc) <;> (try (exfalso; omega))) | fail))
      · have ha : (l.take k).any (ovM x) = true := by assumption
        refine au_done1 rfl ?_
        intro w hw; refine ⟨(), ?_, hw.sub (by repeat (first | exact List.Sublist.refl _ | assumption | apply List.Sublist.cons_cons | apply List.Sublist.cons))⟩
        rw [hat 7 (by decide) (by rw [hbk, if_pos hok, if_pos ha])]
      · have ha : (l.take k).any (ovM x) = false := by assumption
        exact tri_nx1 (k + 1) (by omega) ⟨by omega, all_next hp (by rw [hbk, if_pos hok, ha]; rfl)⟩ (by repeat (first | exact trivial | refine ⟨rfl, ?_⟩)) (fun _ h => h.sub (by repeat (first | exact List.Sublist.refl _ | assumption | apply List.Sublist.cons_cons | apply List.Sublist.cons)))
  · refine au_done1 rfl ?_
    intro w hw; refine ⟨(), ?_, hw.sub (by repeat (first | exact List.Sublist.refl _ | assumption | apply List.Sublist.cons_cons | apply List.Sublist.cons))⟩
    rw [hcm 0 (errG_no _ _ fun j _ hj => hp j (by omega))]
end
end Go.Proofs.YtbgjelhefhcnpaaGreat

/- What Lookup, Fill, Invalidate and Flush compute, in plain Lean. No conditions. -/
set_option linter.unusedSimpArgs false
set_option linter.unusedVariables false
namespace Go.Proofs.YtbgjelhefhcnpaaGreat
open Go Go.RowKit
def lookL (l : List TE) (s p : Int) : Int × Bool := match l.find? (fun x => covM x s p) with | some x => (x.w, true) | none => (0, false)
def lookM (z : Int) (l : List TE) (s p : Int) : Int × Bool := if checkM z l = 0 then lookL l s p else (0, false)
theorem look_at {l : List TE} {s p : Int} {k : Nat} (hk : k < l.length) (h : covM (l.getD k default) s p = true) (hn : ∀ j, j < k → covM (l.getD j default) s p = false) : lookL l s p = ((l.getD k default).w, true) := by
  have : l.find? (fun x => covM x s p) = some (l.getD k default) := by
    rw [List.find?_eq_some_iff_getElem]
    refine ⟨h, k, hk, (getD_get hk).symm, fun j hj => ?_⟩
    have := hn j hj
    rw [getD_get (by omega)] at this
    simp [this]
  unfold lookL; rw [this]
theorem look_no {l : List TE} {s p : Int} (hn : ∀ j, j < l.length → covM (l.getD j default) s p = false) : lookL l s p = (0, false) := by
  have : l.find? (fun x => covM x s p) = none := by
    rw [List.find?_eq_none]
    intro x hx
    obtain ⟨j, hj, rfl⟩ := List.getElem_of_mem hx
    have := hn j hj
    rw [getD_get hj] at this
    simp [this]
  unfold lookL; rw [this]
def mkX (s p w : Int) : TE := ⟨s, if hu w then grp p else p, w⟩
def mkE (z : Int) (l : List TE) (s p w : Int) : Int := if checkM z l = 0 then (if plcM s p = 0 then (if tr w then 0 else 3) else 2) else checkM z l
def mkK (l : List TE) (x : TE) : List TE := l.filter fun y => !ovM x y
def dropK (z : Int) (k : List TE) : List TE := if (k.length : Int) = z then k.drop 1 else k
def mkL (z : Int) (l : List TE) (x : TE) : List TE := dropK z (mkK l x) ++ [x]
def resZ (e z : Int) : Int := if e = 0 then z else 0
def resL (e : Int) (l : List TE) : List TE := if e = 0 then l else []
def invE (z : Int) (l : List TE) (s p : Int) : Int := if checkM z l = 0 then plcM s p else checkM z l
def invL (l : List TE) (s p : Int) : List TE := l.filter fun y => !covM y s p
def flE (z : Int) (l : List TE) (s : Int) : Int := if checkM z l = 0 then plcM s 0 else checkM z l
def flL (l : List TE) (s : Int) : List TE := l.filter fun y => !(y.s == s)
theorem plc_two {s p : Int} : plcM s p = 0 ∨ plcM s p = 2 := by unfold plcM; split <;> simp
theorem plc_ne {s p : Int} (h : ¬ plcM s p = 0) : plcM s p = 2 := by rcases plc_two (s := s) (p := p) with h' | h' <;> simp_all
theorem dropK_le {z : Int} {l : List TE} (hz : 1 ≤ z) (hl : (l.length : Int) ≤ z) : ((dropK z l).length : Int) + 1 ≤ z := by
  unfold dropK
  split
  · rw [List.length_drop]; omega
  · omega
theorem mkX_vd {s p w : Int} (h : plcM s p = 0) (ht : tr w = true) : Vd (mkX s p w) := by
  obtain ⟨h1, h2⟩ := plc_ok h
  refine ⟨h1, ?_, ht, fun hh => ?_⟩
  · show 0 ≤ (if hu w then grp p else p) ∧ (if hu w then grp p else p) < 512
    unfold grp
    split <;> omega
  · show (if hu w then grp p else p) % 8 = 0
    have : hu w = true := hh
    rw [if_pos this]
    unfold grp; omega
end Go.Proofs.YtbgjelhefhcnpaaGreat
