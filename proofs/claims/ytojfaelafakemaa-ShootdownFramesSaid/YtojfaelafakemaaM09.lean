/- Texts joined: TlbPte, TlbWalks, Clr. Each part's own remark says what it proves. -/
import Derived.Test.YtojfaelafakemaaM06
import Derived.Test.YtojfaelafakemaaM07
import Derived.Test.YtojfaelafakemaaM05
/- Walks of Encode and Decode of package pte and of its reference. No conditions. -/
set_option linter.unusedSimpArgs false
set_option linter.unusedVariables false
namespace Go.Proofs.Ytojfaelafakemaa
open Go Go.RowKit
attribute [local irreducible] Code.wp wpList bodyPost Exit.then Exit.inBlock Calls wpQuiet Tri TriQ

abbrev entV (k n : Int) (a b c d : Bool) : Value := .agg #[.int .i64 k, .int .i64 n, .bool a, .bool b, .bool c, .bool d]

theorem ret_bool {a b : Bool} (h : a = b) : Ending.returned (.bool a) = .returned (.bool b) := by rw [h]
set_option maxHeartbeats 400000 in
theorem flag_any (b : Bool) (v : Int) (w : World) : Calls Try.prog 70 [.bool b, .int .u64 v].toArray w (Ret (.int .u64 (bitS b v)) w) := by
  refine calls_of_tri Try.func70 rfl Try.ntmps70 rfl ?_
  cases b
  all_goals
    (repeat (first | refine au_pure ?_ | refine au_pass ?_ | refine au_box (fun _ => ?_) | refine au_alloc (fun _ => ?_) | refine au_store ?_ | refine au_make rfl rfl (fun _ => ?_) | refine au_lit rfl rfl rfl (fun _ => ?_) | refine au_append rfl rfl rfl rfl (fun _ => au_norm ?_) | refine au_storeE rfl rfl rfl rfl ?_ | refine tri_seq ?_ | refine tri_then ?_ | refine tri_region ?_ | refine tri_nil ?_ | refine tri_skip ?_ | refine tri_ret ?_ | refine tri_exit ?_ | refine tri_thenr ?_ | refine tri_thene ?_ | refine tri_blkn ?_ | refine tri_blkr ?_ | refine tri_blke ?_ | refine tri_blko (by rfl) ?_ | refine tri_if_t (by rfl) ?_ | refine tri_if_f (by rfl) ?_ | fail))
    refine au_done1 rfl ?_
    exact fun w h => ⟨rfl, h.below⟩

set_option maxHeartbeats 400000 in
theorem formed_any (k n : Int) (a b c d : Bool) (w : World) : Calls Try.prog 69 [entV k n a b c d].toArray w (Ret (.bool (formS k n a b c d)) w) := by
  refine calls_of_tri Try.func69 rfl Try.ntmps69 rfl ?_
  (repeat' (first | refine au_pure ?_ | refine au_pass ?_ | refine au_box (fun _ => ?_) | refine au_alloc (fun _ => ?_) | refine au_store ?_ | refine au_make rfl rfl (fun _ => ?_) | refine au_lit rfl rfl rfl (fun _ => ?_) | refine au_append rfl rfl rfl rfl (fun _ => au_norm ?_) | refine au_storeE rfl rfl rfl rfl ?_ | refine tri_seq ?_ | refine tri_then ?_ | refine tri_region ?_ | refine tri_nil ?_ | refine tri_skip ?_ | refine tri_ret ?_ | refine tri_exit ?_ | refine tri_thenr ?_ | refine tri_thene ?_ | refine tri_blkn ?_ | refine tri_blkr ?_ | refine tri_blke ?_ | refine tri_blko (by rfl) ?_ | refine tri_block ?_ | refine tri_if_t (by rfl) ?_ | refine tri_if_f (by rfl) ?_ | ((first | refine tri_cond (by rfl) (fun hc => ?_) (fun hc => ?_) | refine tri_gsplit (by rfl) (by rfl) (by (fail_if_success exact (rfl : _ = some (Value.bool true))); (fail_if_success exact (rfl : _ = some (Value.bool false))); rfl) (fun hc => ?_) (fun hc => ?_)) <;> (try simp only [decide_eq_true_eq, decide_eq_false_iff_not, beq_iff_eq, bne_iff_ne, ne_eq, Bool.not_eq_true', Bool.not_eq_false', beq_eq_false_iff_ne, bne_eq_false_iff_eq, Int.not_lt, Int.not_le, gt_iff_lt, ge_iff_le, Bool.and_eq_true, Bool.or_eq_true, Bool.and_eq_false_iff, Bool.or_eq_false_iff, Decidable.not_not, not_true_eq_false, not_false_eq_true, and_true, true_and, or_false, false_or, or_true, true_or, and_false, false_and, eq_self, Bool.true_eq_false, Bool.false_eq_true] at hc) <;> (try (exfalso; omega))) | fail))
  all_goals
    refine au_done1 rfl ?_
    refine fun w h => ⟨ret_bool ?_, h.below⟩
    simp_all [formS]

theorem ret_wi {a b : Int} {x : Int × Int} (h : x = (a, b)) : Ending.returned (.tuple #[.int .u64 a, .int .i64 b]) = .returned (.tuple #[.int .u64 x.1, .int .i64 x.2]) := by rw [h]
set_option maxHeartbeats 400000 in
theorem encode_any (k n : Int) (a b c d : Bool) (w : World) : Calls Try.prog 36 [entV k n a b c d].toArray w (Ret (.tuple #[.int .u64 (encS k n a b c d).1, .int .i64 (encS k n a b c d).2]) w) := by
  refine calls_of_tri Try.func36 rfl Try.ntmps36 rfl ?_
  (repeat (first | refine au_pure ?_ | refine au_pass ?_ | refine au_box (fun _ => ?_) | refine au_alloc (fun _ => ?_) | refine au_store ?_ | refine au_make rfl rfl (fun _ => ?_) | refine au_lit rfl rfl rfl (fun _ => ?_) | refine au_append rfl rfl rfl rfl (fun _ => au_norm ?_) | refine au_storeE rfl rfl rfl rfl ?_ | refine tri_seq ?_ | refine tri_then ?_ | refine tri_region ?_ | refine tri_nil ?_ | refine tri_skip ?_ | refine tri_ret ?_ | refine tri_exit ?_ | refine tri_thenr ?_ | refine tri_thene ?_ | refine tri_blkn ?_ | refine tri_blkr ?_ | refine tri_blke ?_ | refine tri_blko (by rfl) ?_ | refine tri_if_t (by rfl) ?_ | refine tri_if_f (by rfl) ?_ | fail))
  rename_i g
  refine tri_cut (α := PLift (0 ≤ k ∧ k ≤ 4)) (fun _ => [(1, .pointer (some ⟨g, 0, none⟩))]) (fun _ => Hp w [blkC g 54 [.int .i64 k, .int .i64 n, .bool a, .bool b, .bool c, .bool d]]) ?rest ?first
  case first =>
    (repeat' (first | refine au_pure ?_ | refine au_pass ?_ | refine au_box (fun _ => ?_) | refine au_alloc (fun _ => ?_) | refine au_store ?_ | refine au_make rfl rfl (fun _ => ?_) | refine au_lit rfl rfl rfl (fun _ => ?_) | refine au_append rfl rfl rfl rfl (fun _ => au_norm ?_) | refine au_storeE rfl rfl rfl rfl ?_ | refine tri_seq ?_ | refine tri_then ?_ | refine tri_region ?_ | refine tri_nil ?_ | refine tri_skip ?_ | refine tri_ret ?_ | refine tri_exit ?_ | refine tri_thenr ?_ | refine tri_thene ?_ | refine tri_blkn ?_ | refine tri_blkr ?_ | refine tri_blke ?_ | refine tri_blko (by rfl) ?_ | refine tri_block ?_ | refine tri_if_t (by rfl) ?_ | refine tri_if_f (by rfl) ?_ | ((first | refine tri_cond (by rfl) (fun hc => ?_) (fun hc => ?_) | refine tri_gsplit (by rfl) (by rfl) (by (fail_if_success exact (rfl : _ = some (Value.bool true))); (fail_if_success exact (rfl : _ = some (Value.bool false))); rfl) (fun hc => ?_) (fun hc => ?_)) <;> (try simp only [decide_eq_true_eq, decide_eq_false_iff_not, beq_iff_eq, bne_iff_ne, ne_eq, Bool.not_eq_true', Bool.not_eq_false', beq_eq_false_iff_ne, bne_eq_false_iff_eq, Int.not_lt, Int.not_le, gt_iff_lt, ge_iff_le, Bool.and_eq_true, Bool.or_eq_true, Bool.and_eq_false_iff, Bool.or_eq_false_iff, Decidable.not_not, not_true_eq_false, not_false_eq_true, and_true, true_and, or_false, false_or, or_true, true_or, and_false, false_and, eq_self, Bool.true_eq_false, Bool.false_eq_true] at hc) <;> (try (exfalso; omega))) | fail))
    all_goals first
      | exact tri_met ⟨by omega⟩ (by repeat (first | exact trivial | refine ⟨rfl, ?_⟩)) (fun _ h => h)
      | (refine au_done2 rfl ?_; exact fun w h => ⟨ret_wi (enc_arg (by omega)), h.below⟩)
  case rest =>
    rintro ⟨hk0, hk4⟩
    (repeat' (first | refine au_pure ?_ | refine au_pass ?_ | refine au_box (fun _ => ?_) | refine au_alloc (fun _ => ?_) | refine au_store ?_ | refine au_make rfl rfl (fun _ => ?_) | refine au_lit rfl rfl rfl (fun _ => ?_) | refine au_append rfl rfl rfl rfl (fun _ => au_norm ?_) | refine au_storeE rfl rfl rfl rfl ?_ | refine tri_seq ?_ | refine tri_then ?_ | refine tri_region ?_ | refine tri_nil ?_ | refine tri_skip ?_ | refine tri_ret ?_ | refine tri_exit ?_ | refine tri_thenr ?_ | refine tri_thene ?_ | refine tri_blkn ?_ | refine tri_blkr ?_ | refine tri_blke ?_ | refine tri_blko (by rfl) ?_ | refine tri_if_t (by rfl) ?_ | refine tri_if_f (by rfl) ?_ | ((first | refine tri_cond (by rfl) (fun hc => ?_) (fun hc => ?_) | refine tri_gsplit (by rfl) (by rfl) (by (fail_if_success exact (rfl : _ = some (Value.bool true))); (fail_if_success exact (rfl : _ = some (Value.bool false))); rfl) (fun hc => ?_) (fun hc => ?_)) <;> (try simp only [decide_eq_true_eq, decide_eq_false_iff_not, beq_iff_eq, bne_iff_ne, ne_eq, Bool.not_eq_true', Bool.not_eq_false', beq_eq_false_iff_ne, bne_eq_false_iff_eq, Int.not_lt, Int.not_le, gt_iff_lt, ge_iff_le, Bool.and_eq_true, Bool.or_eq_true, Bool.and_eq_false_iff, Bool.or_eq_false_iff, Decidable.not_not, not_true_eq_false, not_false_eq_true, and_true, true_and, or_false, false_or, or_true, true_or, and_false, false_and, eq_self, Bool.true_eq_false, Bool.false_eq_true] at hc) <;> (try (exfalso; omega))) | fail))
    all_goals try (refine au_done2 rfl ?_; exact fun w h => ⟨ret_wi (enc_rng hk0 hk4 (by simp_all [rngB])), h.below⟩)
    all_goals
      have hr : rngB k n d = false := by simp_all [rngB]
      refine au_call rfl rfl (cl_of rfl rfl rfl (fun _ h => Ret.hp (formed_any _ _ _ _ _ _ _) h)) ?_
      (repeat' (first | refine au_pure ?_ | refine au_pass ?_ | refine au_box (fun _ => ?_) | refine au_alloc (fun _ => ?_) | refine au_store ?_ | refine au_make rfl rfl (fun _ => ?_) | refine au_lit rfl rfl rfl (fun _ => ?_) | refine au_append rfl rfl rfl rfl (fun _ => au_norm ?_) | refine au_storeE rfl rfl rfl rfl ?_ | refine tri_seq ?_ | refine tri_then ?_ | refine tri_region ?_ | refine tri_nil ?_ | refine tri_skip ?_ | refine tri_ret ?_ | refine tri_exit ?_ | refine tri_thenr ?_ | refine tri_thene ?_ | refine tri_blkn ?_ | refine tri_blkr ?_ | refine tri_blke ?_ | refine tri_blko (by rfl) ?_ | refine tri_if_t (by rfl) ?_ | refine tri_if_f (by rfl) ?_ | ((first | refine tri_cond (by rfl) (fun hc => ?_) (fun hc => ?_) | refine tri_gsplit (by rfl) (by rfl) (by (fail_if_success exact (rfl : _ = some (Value.bool true))); (fail_if_success exact (rfl : _ = some (Value.bool false))); rfl) (fun hc => ?_) (fun hc => ?_)) <;> (try simp only [decide_eq_true_eq, decide_eq_false_iff_not, beq_iff_eq, bne_iff_ne, ne_eq, Bool.not_eq_true', Bool.not_eq_false', beq_eq_false_iff_ne, bne_eq_false_iff_eq, Int.not_lt, Int.not_le, gt_iff_lt, ge_iff_le, Bool.and_eq_true, Bool.or_eq_true, Bool.and_eq_false_iff, Bool.or_eq_false_iff, Decidable.not_not, not_true_eq_false, not_false_eq_true, and_true, true_and, or_false, false_or, or_true, true_or, and_false, false_and, eq_self, Bool.true_eq_false, Bool.false_eq_true] at hc) <;> (try (exfalso; omega))) | fail))
    all_goals try (refine au_done2 rfl ?_; exact fun w h => ⟨ret_wi (enc_form hk0 hk4 (by simp_all [rngB]) (by simp_all)), h.below⟩)
    all_goals
      refine au_draw rfl ?_; repeat (first | refine au_qpure rfl rfl ?_ | refine au_qpass rfl rfl ?_ | refine triq_nil ?_ | (refine triq_call rfl rfl (by first | exact wan_plain rfl | exact wan_yes rfl rfl rfl) (cl_of rfl rfl rfl (fun _ h => Ret.hp (flag_any _ _ _) h)) ?_))
      (repeat (first | refine au_pure ?_ | refine au_pass ?_ | refine au_box (fun _ => ?_) | refine au_alloc (fun _ => ?_) | refine au_store ?_ | refine au_make rfl rfl (fun _ => ?_) | refine au_lit rfl rfl rfl (fun _ => ?_) | refine au_append rfl rfl rfl rfl (fun _ => au_norm ?_) | refine au_storeE rfl rfl rfl rfl ?_ | refine tri_seq ?_ | refine tri_then ?_ | refine tri_region ?_ | refine tri_nil ?_ | refine tri_skip ?_ | refine tri_ret ?_ | refine tri_exit ?_ | refine tri_thenr ?_ | refine tri_thene ?_ | refine tri_blkn ?_ | refine tri_blkr ?_ | refine tri_blke ?_ | refine tri_blko (by rfl) ?_ | refine tri_if_t (by rfl) ?_ | refine tri_if_f (by rfl) ?_ | fail))
      refine au_done2 rfl ?_
      exact fun w h => ⟨ret_wi (show encS k n a b c d = (wordW k n a b c d, 0) from enc_ok hk0 hk4 (by assumption) (by assumption)), h.below⟩

abbrev entE (e : Ent) : Value := entV e.k e.n e.a e.b e.c e.d
abbrev decV (x : Int) : Value := .tuple #[entE (decR x).1, .int .i64 (decR x).2]
theorem ret_de {x : Int} {e : Ent} {c : Int} (h : decR x = (e, c)) : Ending.returned (.tuple #[entE e, .int .i64 c]) = .returned (decV x) := by unfold decV; rw [h]
set_option maxHeartbeats 400000 in
theorem decode_any (x : Int) (w : World) (h0 : 0 ≤ x) (h1 : x < 18446744073709551616) : Calls Try.prog 16 [.int .u64 x].toArray w (Ret (decV x) w) := by
  have hde := deW_eq h0 h1
  have hbad : ¬ ((enc (deW x)).2 = 0 ∧ (enc (deW x)).1 = x) → decR x = (noEnt, 3) := fun h => decR_bad (by rwa [hde] at h)
  have hgood : (enc (deW x)).2 = 0 ∧ (enc (deW x)).1 = x → decR x = (deW x, 0) := fun h => by rw [hde] at h ⊢; exact decR_good h
  clear hde
  refine calls_of_tri Try.func16 rfl Try.ntmps16 rfl ?_
  (repeat (first | refine au_pure ?_ | refine au_pass ?_ | refine au_box (fun _ => ?_) | refine au_alloc (fun _ => ?_) | refine au_store ?_ | refine au_make rfl rfl (fun _ => ?_) | refine au_lit rfl rfl rfl (fun _ => ?_) | refine au_append rfl rfl rfl rfl (fun _ => au_norm ?_) | refine au_storeE rfl rfl rfl rfl ?_ | refine tri_seq ?_ | refine tri_then ?_ | refine tri_region ?_ | refine tri_nil ?_ | refine tri_skip ?_ | refine tri_ret ?_ | refine tri_exit ?_ | refine tri_thenr ?_ | refine tri_thene ?_ | refine tri_blkn ?_ | refine tri_blkr ?_ | refine tri_blke ?_ | refine tri_blko (by rfl) ?_ | refine tri_if_t (by rfl) ?_ | refine tri_if_f (by rfl) ?_ | fail))
  refine au_call rfl rfl (cl_of rfl rfl rfl (fun _ h => Ret.hp (encode_any _ _ _ _ _ _ _) h)) ?_
  (repeat' (first | refine au_pure ?_ | refine au_pass ?_ | refine au_box (fun _ => ?_) | refine au_alloc (fun _ => ?_) | refine au_store ?_ | refine au_make rfl rfl (fun _ => ?_) | refine au_lit rfl rfl rfl (fun _ => ?_) | refine au_append rfl rfl rfl rfl (fun _ => au_norm ?_) | refine au_storeE rfl rfl rfl rfl ?_ | refine tri_seq ?_ | refine tri_then ?_ | refine tri_region ?_ | refine tri_nil ?_ | refine tri_skip ?_ | refine tri_ret ?_ | refine tri_exit ?_ | refine tri_thenr ?_ | refine tri_thene ?_ | refine tri_blkn ?_ | refine tri_blkr ?_ | refine tri_blke ?_ | refine tri_blko (by rfl) ?_ | refine tri_if_t (by rfl) ?_ | refine tri_if_f (by rfl) ?_ | ((first | refine tri_cond (by rfl) (fun hc => ?_) (fun hc => ?_) | refine tri_gsplit (by rfl) (by rfl) (by (fail_if_success exact (rfl : _ = some (Value.bool true))); (fail_if_success exact (rfl : _ = some (Value.bool false))); rfl) (fun hc => ?_) (fun hc => ?_)) <;> (try simp only [decide_eq_true_eq, decide_eq_false_iff_not, beq_iff_eq, bne_iff_ne, ne_eq, Bool.not_eq_true', Bool.not_eq_false', beq_eq_false_iff_ne, bne_eq_false_iff_eq, Int.not_lt, Int.not_le, gt_iff_lt, ge_iff_le, Bool.and_eq_true, Bool.or_eq_true, Bool.and_eq_false_iff, Bool.or_eq_false_iff, Decidable.not_not, not_true_eq_false, not_false_eq_true, and_true, true_and, or_false, false_or, or_true, true_or, and_false, false_and, eq_self, Bool.true_eq_false, Bool.false_eq_true] at hc) <;> (try (exfalso; omega))) | fail))
  all_goals
    refine au_done2 rfl ?_
    first
      | exact fun w h => ⟨ret_de (hgood ⟨by assumption, by assumption⟩), h.below⟩
      | exact fun w h => ⟨ret_de (hbad (fun hh => by first | exact absurd hh.1 (by assumption) | exact absurd hh.2 (by assumption))), h.below⟩
theorem decode_at {x k n u : Int} {a b c d : Bool} (w : World) (h0 : 0 ≤ x) (h1 : x < 18446744073709551616) (hp : decR x = (⟨k, n, a, b, c, d⟩, u)) : Calls Try.prog 16 [.int .u64 x].toArray w (Ret (.tuple #[entV k n a b c d, .int .i64 u]) w) := by
  have := decode_any x w h0 h1
  unfold decV at this
  rwa [hp] at this
end Go.Proofs.Ytojfaelafakemaa

/- The walks of package tlb and its reference: one entry. No conditions. -/
set_option linter.unusedSimpArgs false
set_option linter.unusedVariables false
namespace Go.Proofs.Ytojfaelafakemaa
open Go Go.RowKit
attribute [local irreducible] Code.wp wpList bodyPost Exit.then Exit.inBlock Calls wpQuiet Tri TriQ
abbrev teV (x : TE) : Value := .agg #[.int .i64 x.s, .int .i64 x.p, .int .u64 x.w]
theorem ret_b {a b : Bool} (h : a = b) : Ending.returned (.bool a) = .returned (.bool b) := by rw [h]
theorem ret_i {a b : Int} (h : a = b) : Ending.returned (.int .i64 a) = .returned (.int .i64 b) := by rw [h]
theorem ret_bb {a b c d : Bool} (h : a = b) (h' : c = d) : Ending.returned (.tuple #[.bool a, .bool c]) = .returned (.tuple #[.bool b, .bool d]) := by rw [h, h']
theorem tr_of {x k n u : Int} {a b c d : Bool} (hp : decR x = (⟨k, n, a, b, c, d⟩, u)) : tr x = decide (u = 0 ∧ k = 1) ∧ hu x = (decide (u = 0) && d) := by
  unfold tr hu; rw [hp]; exact ⟨rfl, rfl⟩
theorem trans_any (x : Int) (w : World) (h0 : 0 ≤ x) (h1 : x < 18446744073709551616) : Calls Try.prog 64 [.int .u64 x].toArray w (Ret (.tuple #[.bool (tr x), .bool (hu x)]) w) := by
  rcases decR_cases x with ⟨⟨k, n, a, b, c, d⟩, hp⟩ | hp
  · obtain ⟨e1, e2⟩ := tr_of hp
    refine calls_of_tri Try.func64 rfl Try.ntmps64 rfl ?_
    (repeat (first | refine au_pure ?_ | refine au_pass ?_ | refine au_box (fun _ => ?_) | refine au_alloc (fun _ => ?_) | refine au_store ?_ | refine au_make rfl rfl (fun _ => ?_) | refine au_lit rfl rfl rfl (fun _ => ?_) | refine au_append rfl rfl rfl rfl (fun _ => au_norm ?_) | refine au_storeE rfl rfl rfl rfl ?_ | refine tri_seq ?_ | refine tri_then ?_ | refine tri_region ?_ | refine tri_nil ?_ | refine tri_skip ?_ | refine tri_ret ?_ | refine tri_exit ?_ | refine tri_thenr ?_ | refine tri_thene ?_ | refine tri_blkn ?_ | refine tri_blkr ?_ | refine tri_blke ?_ | refine tri_blko (by rfl) ?_ | refine tri_if_t (by rfl) ?_ | refine tri_if_f (by rfl) ?_ | fail))
    refine au_call rfl rfl (cl_of rfl rfl rfl (fun _ h => Ret.hp (decode_at _ h0 h1 hp) h)) ?_
    (repeat (first | refine au_pure ?_ | refine au_pass ?_ | refine au_box (fun _ => ?_) | refine au_alloc (fun _ => ?_) | refine au_store ?_ | refine au_make rfl rfl (fun _ => ?_) | refine au_lit rfl rfl rfl (fun _ => ?_) | refine au_append rfl rfl rfl rfl (fun _ => au_norm ?_) | refine au_storeE rfl rfl rfl rfl ?_ | refine tri_seq ?_ | refine tri_then ?_ | refine tri_region ?_ | refine tri_nil ?_ | refine tri_skip ?_ | refine tri_ret ?_ | refine tri_exit ?_ | refine tri_thenr ?_ | refine tri_thene ?_ | refine tri_blkn ?_ | refine tri_blkr ?_ | refine tri_blke ?_ | refine tri_blko (by rfl) ?_ | refine tri_if_t (by rfl) ?_ | refine tri_if_f (by rfl) ?_ | fail))
    refine au_draw rfl ?_
    (repeat (first | refine au_qpure rfl rfl ?_ | refine au_qpass rfl rfl ?_ | refine triq_nil ?_))
    (repeat (first | refine au_pure ?_ | refine au_pass ?_ | refine au_box (fun _ => ?_) | refine au_alloc (fun _ => ?_) | refine au_store ?_ | refine au_make rfl rfl (fun _ => ?_) | refine au_lit rfl rfl rfl (fun _ => ?_) | refine au_append rfl rfl rfl rfl (fun _ => au_norm ?_) | refine au_storeE rfl rfl rfl rfl ?_ | refine tri_seq ?_ | refine tri_then ?_ | refine tri_region ?_ | refine tri_nil ?_ | refine tri_skip ?_ | refine tri_ret ?_ | refine tri_exit ?_ | refine tri_thenr ?_ | refine tri_thene ?_ | refine tri_blkn ?_ | refine tri_blkr ?_ | refine tri_blke ?_ | refine tri_blko (by rfl) ?_ | refine tri_if_t (by rfl) ?_ | refine tri_if_f (by rfl) ?_ | fail))
    refine au_done2 rfl ?_
    refine fun w h => ⟨ret_bb ?_ ?_, h.below⟩
    · rw [e1]; simp [Bool.beq_eq_decide_eq]
    · rw [e2]; simp
  · obtain ⟨e1, e2⟩ := tr_of (k := 0) (n := 0) (a := false) (b := false) (c := false) (d := false) (u := 3) hp
    refine calls_of_tri Try.func64 rfl Try.ntmps64 rfl ?_
    (repeat (first | refine au_pure ?_ | refine au_pass ?_ | refine au_box (fun _ => ?_) | refine au_alloc (fun _ => ?_) | refine au_store ?_ | refine au_make rfl rfl (fun _ => ?_) | refine au_lit rfl rfl rfl (fun _ => ?_) | refine au_append rfl rfl rfl rfl (fun _ => au_norm ?_) | refine au_storeE rfl rfl rfl rfl ?_ | refine tri_seq ?_ | refine tri_then ?_ | refine tri_region ?_ | refine tri_nil ?_ | refine tri_skip ?_ | refine tri_ret ?_ | refine tri_exit ?_ | refine tri_thenr ?_ | refine tri_thene ?_ | refine tri_blkn ?_ | refine tri_blkr ?_ | refine tri_blke ?_ | refine tri_blko (by rfl) ?_ | refine tri_if_t (by rfl) ?_ | refine tri_if_f (by rfl) ?_ | fail))
    refine au_call rfl rfl (cl_of rfl rfl rfl (fun _ h => Ret.hp (decode_at (k := 0) (n := 0) (a := false) (b := false) (c := false) (d := false) (u := 3) _ h0 h1 hp) h)) ?_
    (repeat (first | refine au_pure ?_ | refine au_pass ?_ | refine au_box (fun _ => ?_) | refine au_alloc (fun _ => ?_) | refine au_store ?_ | refine au_make rfl rfl (fun _ => ?_) | refine au_lit rfl rfl rfl (fun _ => ?_) | refine au_append rfl rfl rfl rfl (fun _ => au_norm ?_) | refine au_storeE rfl rfl rfl rfl ?_ | refine tri_seq ?_ | refine tri_then ?_ | refine tri_region ?_ | refine tri_nil ?_ | refine tri_skip ?_ | refine tri_ret ?_ | refine tri_exit ?_ | refine tri_thenr ?_ | refine tri_thene ?_ | refine tri_blkn ?_ | refine tri_blkr ?_ | refine tri_blke ?_ | refine tri_blko (by rfl) ?_ | refine tri_if_t (by rfl) ?_ | refine tri_if_f (by rfl) ?_ | fail))
    refine au_draw rfl ?_
    (repeat (first | refine au_qpure rfl rfl ?_ | refine au_qpass rfl rfl ?_ | refine triq_nil ?_))
    (repeat (first | refine au_pure ?_ | refine au_pass ?_ | refine au_box (fun _ => ?_) | refine au_alloc (fun _ => ?_) | refine au_store ?_ | refine au_make rfl rfl (fun _ => ?_) | refine au_lit rfl rfl rfl (fun _ => ?_) | refine au_append rfl rfl rfl rfl (fun _ => au_norm ?_) | refine au_storeE rfl rfl rfl rfl ?_ | refine tri_seq ?_ | refine tri_then ?_ | refine tri_region ?_ | refine tri_nil ?_ | refine tri_skip ?_ | refine tri_ret ?_ | refine tri_exit ?_ | refine tri_thenr ?_ | refine tri_thene ?_ | refine tri_blkn ?_ | refine tri_blkr ?_ | refine tri_blke ?_ | refine tri_blko (by rfl) ?_ | refine tri_if_t (by rfl) ?_ | refine tri_if_f (by rfl) ?_ | fail))
    refine au_done2 rfl ?_
    refine fun w h => ⟨ret_bb ?_ ?_, h.below⟩
    · rw [e1]; simp
    · rw [e2]; simp
theorem span_any (x : Int) (w : World) (h0 : 0 ≤ x) (h1 : x < 18446744073709551616) : Calls Try.prog 68 [.int .u64 x].toArray w (Ret (.int .i64 (spanM x)) w) := by
  refine calls_of_tri Try.func68 rfl Try.ntmps68 rfl ?_
  (repeat (first | refine au_pure ?_ | refine au_pass ?_ | refine au_box (fun _ => ?_) | refine au_alloc (fun _ => ?_) | refine au_store ?_ | refine au_make rfl rfl (fun _ => ?_) | refine au_lit rfl rfl rfl (fun _ => ?_) | refine au_append rfl rfl rfl rfl (fun _ => au_norm ?_) | refine au_storeE rfl rfl rfl rfl ?_ | refine tri_seq ?_ | refine tri_then ?_ | refine tri_region ?_ | refine tri_nil ?_ | refine tri_skip ?_ | refine tri_ret ?_ | refine tri_exit ?_ | refine tri_thenr ?_ | refine tri_thene ?_ | refine tri_blkn ?_ | refine tri_blkr ?_ | refine tri_blke ?_ | refine tri_blko (by rfl) ?_ | refine tri_if_t (by rfl) ?_ | refine tri_if_f (by rfl) ?_ | fail))
  refine au_call rfl rfl (cl_of rfl rfl rfl (fun _ h => Ret.hp (trans_any _ _ h0 h1) h)) ?_
  (repeat' (first | refine au_pure ?_ | refine au_pass ?_ | refine au_box (fun _ => ?_) | refine au_alloc (fun _ => ?_) | refine au_store ?_ | refine au_make rfl rfl (fun _ => ?_) | refine au_lit rfl rfl rfl (fun _ => ?_) | refine au_append rfl rfl rfl rfl (fun _ => au_norm ?_) | refine au_storeE rfl rfl rfl rfl ?_ | refine tri_seq ?_ | refine tri_then ?_ | refine tri_region ?_ | refine tri_nil ?_ | refine tri_skip ?_ | refine tri_ret ?_ | refine tri_exit ?_ | refine tri_thenr ?_ | refine tri_thene ?_ | refine tri_blkn ?_ | refine tri_blkr ?_ | refine tri_blke ?_ | refine tri_blko (by rfl) ?_ | refine tri_if_t (by rfl) ?_ | refine tri_if_f (by rfl) ?_ | ((first | refine tri_cond (by rfl) (fun hc => ?_) (fun hc => ?_) | refine tri_gsplit (by rfl) (by rfl) (by (fail_if_success exact (rfl : _ = some (Value.bool true))); (fail_if_success exact (rfl : _ = some (Value.bool false))); rfl) (fun hc => ?_) (fun hc => ?_)) <;> (try simp only [decide_eq_true_eq, decide_eq_false_iff_not, beq_iff_eq, bne_iff_ne, ne_eq, Bool.not_eq_true', Bool.not_eq_false', beq_eq_false_iff_ne, bne_eq_false_iff_eq, Int.not_lt, Int.not_le, gt_iff_lt, ge_iff_le, Bool.and_eq_true, Bool.or_eq_true, Bool.and_eq_false_iff, Bool.or_eq_false_iff, Decidable.not_not, not_true_eq_false, not_false_eq_true, and_true, true_and, or_false, false_or, or_true, true_or, and_false, false_and, eq_self, Bool.true_eq_false, Bool.false_eq_true] at hc) <;> (try (exfalso; omega))) | fail))
  all_goals
    refine au_done1 rfl ?_
    refine fun w h => ⟨ret_i ?_, h.below⟩
    unfold spanM
    simp_all
theorem place_any (s p : Int) (w : World) : Calls Try.prog 59 [.int .i64 s, .int .i64 p].toArray w (Ret (.int .i64 (plcM s p)) w) := by
  refine calls_of_tri Try.func59 rfl Try.ntmps59 rfl ?_
  (repeat' (first | refine au_pure ?_ | refine au_pass ?_ | refine au_box (fun _ => ?_) | refine au_alloc (fun _ => ?_) | refine au_store ?_ | refine au_make rfl rfl (fun _ => ?_) | refine au_lit rfl rfl rfl (fun _ => ?_) | refine au_append rfl rfl rfl rfl (fun _ => au_norm ?_) | refine au_storeE rfl rfl rfl rfl ?_ | refine tri_seq ?_ | refine tri_then ?_ | refine tri_region ?_ | refine tri_nil ?_ | refine tri_skip ?_ | refine tri_ret ?_ | refine tri_exit ?_ | refine tri_thenr ?_ | refine tri_thene ?_ | refine tri_blkn ?_ | refine tri_blkr ?_ | refine tri_blke ?_ | refine tri_blko (by rfl) ?_ | refine tri_if_t (by rfl) ?_ | refine tri_if_f (by rfl) ?_ | ((first | refine tri_cond (by rfl) (fun hc => ?_) (fun hc => ?_) | refine tri_gsplit (by rfl) (by rfl) (by (fail_if_success exact (rfl : _ = some (Value.bool true))); (fail_if_success exact (rfl : _ = some (Value.bool false))); rfl) (fun hc => ?_) (fun hc => ?_)) <;> (try simp only [decide_eq_true_eq, decide_eq_false_iff_not, beq_iff_eq, bne_iff_ne, ne_eq, Bool.not_eq_true', Bool.not_eq_false', beq_eq_false_iff_ne, bne_eq_false_iff_eq, Int.not_lt, Int.not_le, gt_iff_lt, ge_iff_le, Bool.and_eq_true, Bool.or_eq_true, Bool.and_eq_false_iff, Bool.or_eq_false_iff, Decidable.not_not, not_true_eq_false, not_false_eq_true, and_true, true_and, or_false, false_or, or_true, true_or, and_false, false_and, eq_self, Bool.true_eq_false, Bool.false_eq_true] at hc) <;> (try (exfalso; omega))) | fail))
  all_goals
    refine au_done1 rfl ?_
    refine fun w h => ⟨ret_i ?_, h.below⟩
    unfold plcM spR pgR
    simp only [decide_eq_true_eq]
    first
      | rw [if_neg (by omega)]
      | rw [if_pos (by omega)]
set_option maxHeartbeats 1000000 in
theorem covers_any (x : TE) (s p : Int) (w : World) (hx : Wf x) (hb : x.p ≤ 4611686018427387904) : Calls Try.prog 35 [teV x, .int .i64 s, .int .i64 p].toArray w (Ret (.bool (covM x s p)) w) := by
  obtain ⟨xs, xp, v⟩ := x
  obtain ⟨hs, hp, h0, h1⟩ := hx
  dsimp only at hs hp h0 h1
  have hsp := span_bd v
  have hb' : xp ≤ 4611686018427387904 := hb
  have hp' : -9223372036854775808 ≤ xp := hp.1
  dsimp only [teV]
  refine calls_of_tri Try.func35 rfl Try.ntmps35 rfl ?_
  (repeat (first | refine au_pure ?_ | refine au_pass ?_ | refine au_box (fun _ => ?_) | refine au_alloc (fun _ => ?_) | refine au_store ?_ | refine au_make rfl rfl (fun _ => ?_) | refine au_lit rfl rfl rfl (fun _ => ?_) | refine au_append rfl rfl rfl rfl (fun _ => au_norm ?_) | refine au_storeE rfl rfl rfl rfl ?_ | refine tri_seq ?_ | refine tri_then ?_ | refine tri_region ?_ | refine tri_nil ?_ | refine tri_skip ?_ | refine tri_ret ?_ | refine tri_exit ?_ | refine tri_thenr ?_ | refine tri_thene ?_ | refine tri_blkn ?_ | refine tri_blkr ?_ | refine tri_blke ?_ | refine tri_blko (by rfl) ?_ | refine tri_if_t (by rfl) ?_ | refine tri_if_f (by rfl) ?_ | fail))
  refine au_draw rfl ?_
  (repeat (first | refine au_qpure rfl rfl ?_ | refine au_qpass rfl rfl ?_ | refine triq_nil ?_))
  refine triq_split 11 rfl (fun hc => ?_) (fun hc => ?_)
  · rw [beq_iff_eq] at hc
    (repeat (first | refine au_qpure rfl rfl ?_ | refine au_qpass rfl rfl ?_ | refine triq_nil ?_))
    refine triq_split 17 rfl (fun hc1 => ?_) (fun hc1 => ?_)
    · rw [decide_eq_true_eq] at hc1
      (repeat (first | refine au_qpure rfl rfl ?_ | refine au_qpass rfl rfl ?_ | refine triq_nil ?_))
      refine triq_call rfl rfl (by first | exact wan_plain rfl | exact wan_yes rfl rfl rfl) (cl_of rfl rfl rfl (fun _ h => Ret.hp (span_any _ _ h0 h1) h)) ?_
      (repeat (first | refine au_qpure rfl rfl ?_ | refine au_qpass rfl rfl ?_ | refine triq_nil ?_))
      (repeat (first | refine au_pure ?_ | refine au_pass ?_ | refine au_box (fun _ => ?_) | refine au_alloc (fun _ => ?_) | refine au_store ?_ | refine au_make rfl rfl (fun _ => ?_) | refine au_lit rfl rfl rfl (fun _ => ?_) | refine au_append rfl rfl rfl rfl (fun _ => au_norm ?_) | refine au_storeE rfl rfl rfl rfl ?_ | refine tri_seq ?_ | refine tri_then ?_ | refine tri_region ?_ | refine tri_nil ?_ | refine tri_skip ?_ | refine tri_ret ?_ | refine tri_exit ?_ | refine tri_thenr ?_ | refine tri_thene ?_ | refine tri_blkn ?_ | refine tri_blkr ?_ | refine tri_blke ?_ | refine tri_blko (by rfl) ?_ | refine tri_if_t (by rfl) ?_ | refine tri_if_f (by rfl) ?_ | fail))
      refine au_done1 rfl ?_
      refine fun w h => ⟨ret_b ?_, h.below⟩
      unfold covM
      exact decide_eq_decide.2 ⟨fun h => ⟨hc, by omega, h⟩, fun h => h.2.2⟩
    · rw [decide_eq_false_iff_not] at hc1
      (repeat (first | refine au_qpure rfl rfl ?_ | refine au_qpass rfl rfl ?_ | refine triq_nil ?_))
      (repeat (first | refine au_pure ?_ | refine au_pass ?_ | refine au_box (fun _ => ?_) | refine au_alloc (fun _ => ?_) | refine au_store ?_ | refine au_make rfl rfl (fun _ => ?_) | refine au_lit rfl rfl rfl (fun _ => ?_) | refine au_append rfl rfl rfl rfl (fun _ => au_norm ?_) | refine au_storeE rfl rfl rfl rfl ?_ | refine tri_seq ?_ | refine tri_then ?_ | refine tri_region ?_ | refine tri_nil ?_ | refine tri_skip ?_ | refine tri_ret ?_ | refine tri_exit ?_ | refine tri_thenr ?_ | refine tri_thene ?_ | refine tri_blkn ?_ | refine tri_blkr ?_ | refine tri_blke ?_ | refine tri_blko (by rfl) ?_ | refine tri_if_t (by rfl) ?_ | refine tri_if_f (by rfl) ?_ | fail))
      refine au_done1 rfl ?_
      refine fun w h => ⟨ret_b ?_, h.below⟩
      exact (decide_eq_false (fun h => hc1 h.2.1)).symm
  · rw [beq_eq_false_iff_ne] at hc
    (repeat (first | refine au_qpure rfl rfl ?_ | refine au_qpass rfl rfl ?_ | refine triq_nil ?_))
    (repeat (first | refine au_pure ?_ | refine au_pass ?_ | refine au_box (fun _ => ?_) | refine au_alloc (fun _ => ?_) | refine au_store ?_ | refine au_make rfl rfl (fun _ => ?_) | refine au_lit rfl rfl rfl (fun _ => ?_) | refine au_append rfl rfl rfl rfl (fun _ => au_norm ?_) | refine au_storeE rfl rfl rfl rfl ?_ | refine tri_seq ?_ | refine tri_then ?_ | refine tri_region ?_ | refine tri_nil ?_ | refine tri_skip ?_ | refine tri_ret ?_ | refine tri_exit ?_ | refine tri_thenr ?_ | refine tri_thene ?_ | refine tri_blkn ?_ | refine tri_blkr ?_ | refine tri_blke ?_ | refine tri_blko (by rfl) ?_ | refine tri_if_t (by rfl) ?_ | refine tri_if_f (by rfl) ?_ | fail))
    refine au_done1 rfl ?_
    refine fun w h => ⟨ret_b ?_, h.below⟩
    exact (decide_eq_false (fun h => hc h.1)).symm
set_option maxHeartbeats 1000000 in
theorem overlap_any (x y : TE) (w : World) (hx : Wf x) (hy : Wf y) (bx : x.p ≤ 4611686018427387904) (by_ : y.p ≤ 4611686018427387904) : Calls Try.prog 67 [teV x, teV y].toArray w (Ret (.bool (ovM x y)) w) := by
  obtain ⟨xs, xp, v⟩ := x
  obtain ⟨ys, yp, u⟩ := y
  obtain ⟨hs, hp, h0, h1⟩ := hx
  dsimp only at hs hp h0 h1
  obtain ⟨hs', hp', h0', h1'⟩ := hy
  dsimp only at hs' hp' h0' h1'
  have hsp := span_bd v
  have hsp' := span_bd u
  have bx' : -9223372036854775808 ≤ xp ∧ xp ≤ 4611686018427387904 := ⟨hp.1, bx⟩
  have by' : -9223372036854775808 ≤ yp ∧ yp ≤ 4611686018427387904 := ⟨hp'.1, by_⟩
  dsimp only [teV]
  refine calls_of_tri Try.func67 rfl Try.ntmps67 rfl ?_
  (repeat (first | refine au_pure ?_ | refine au_pass ?_ | refine au_box (fun _ => ?_) | refine au_alloc (fun _ => ?_) | refine au_store ?_ | refine au_make rfl rfl (fun _ => ?_) | refine au_lit rfl rfl rfl (fun _ => ?_) | refine au_append rfl rfl rfl rfl (fun _ => au_norm ?_) | refine au_storeE rfl rfl rfl rfl ?_ | refine tri_seq ?_ | refine tri_then ?_ | refine tri_region ?_ | refine tri_nil ?_ | refine tri_skip ?_ | refine tri_ret ?_ | refine tri_exit ?_ | refine tri_thenr ?_ | refine tri_thene ?_ | refine tri_blkn ?_ | refine tri_blkr ?_ | refine tri_blke ?_ | refine tri_blko (by rfl) ?_ | refine tri_if_t (by rfl) ?_ | refine tri_if_f (by rfl) ?_ | fail))
  refine au_draw rfl ?_
  (repeat (first | refine au_qpure rfl rfl ?_ | refine au_qpass rfl rfl ?_ | refine triq_nil ?_))
  refine triq_split 10 rfl (fun hc => ?_) (fun hc => ?_)
  · rw [beq_iff_eq] at hc
    (repeat (first | refine au_qpure rfl rfl ?_ | refine au_qpass rfl rfl ?_ | refine triq_nil ?_))
    refine triq_call rfl rfl (by first | exact wan_plain rfl | exact wan_yes rfl rfl rfl) (cl_of rfl rfl rfl (fun _ h => Ret.hp (span_any _ _ h0' h1') h)) ?_
    (repeat (first | refine au_qpure rfl rfl ?_ | refine au_qpass rfl rfl ?_ | refine triq_nil ?_))
    refine triq_split 21 rfl (fun hc1 => ?_) (fun hc1 => ?_)
    · rw [decide_eq_true_eq] at hc1
      (repeat (first | refine au_qpure rfl rfl ?_ | refine au_qpass rfl rfl ?_ | refine triq_nil ?_))
      refine triq_call rfl rfl (by first | exact wan_plain rfl | exact wan_yes rfl rfl rfl) (cl_of rfl rfl rfl (fun _ h => Ret.hp (span_any _ _ h0 h1) h)) ?_
      (repeat (first | refine au_qpure rfl rfl ?_ | refine au_qpass rfl rfl ?_ | refine triq_nil ?_))
      (repeat (first | refine au_pure ?_ | refine au_pass ?_ | refine au_box (fun _ => ?_) | refine au_alloc (fun _ => ?_) | refine au_store ?_ | refine au_make rfl rfl (fun _ => ?_) | refine au_lit rfl rfl rfl (fun _ => ?_) | refine au_append rfl rfl rfl rfl (fun _ => au_norm ?_) | refine au_storeE rfl rfl rfl rfl ?_ | refine tri_seq ?_ | refine tri_then ?_ | refine tri_region ?_ | refine tri_nil ?_ | refine tri_skip ?_ | refine tri_ret ?_ | refine tri_exit ?_ | refine tri_thenr ?_ | refine tri_thene ?_ | refine tri_blkn ?_ | refine tri_blkr ?_ | refine tri_blke ?_ | refine tri_blko (by rfl) ?_ | refine tri_if_t (by rfl) ?_ | refine tri_if_f (by rfl) ?_ | fail))
      refine au_done1 rfl ?_
      refine fun w h => ⟨ret_b ?_, h.below⟩
      unfold ovM
      exact decide_eq_decide.2 ⟨fun h => ⟨hc, hc1, h⟩, fun h => h.2.2⟩
    · rw [decide_eq_false_iff_not] at hc1
      (repeat (first | refine au_qpure rfl rfl ?_ | refine au_qpass rfl rfl ?_ | refine triq_nil ?_))
      (repeat (first | refine au_pure ?_ | refine au_pass ?_ | refine au_box (fun _ => ?_) | refine au_alloc (fun _ => ?_) | refine au_store ?_ | refine au_make rfl rfl (fun _ => ?_) | refine au_lit rfl rfl rfl (fun _ => ?_) | refine au_append rfl rfl rfl rfl (fun _ => au_norm ?_) | refine au_storeE rfl rfl rfl rfl ?_ | refine tri_seq ?_ | refine tri_then ?_ | refine tri_region ?_ | refine tri_nil ?_ | refine tri_skip ?_ | refine tri_ret ?_ | refine tri_exit ?_ | refine tri_thenr ?_ | refine tri_thene ?_ | refine tri_blkn ?_ | refine tri_blkr ?_ | refine tri_blke ?_ | refine tri_blko (by rfl) ?_ | refine tri_if_t (by rfl) ?_ | refine tri_if_f (by rfl) ?_ | fail))
      refine au_done1 rfl ?_
      refine fun w h => ⟨ret_b ?_, h.below⟩
      exact (decide_eq_false (fun h => hc1 h.2.1)).symm
  · rw [beq_eq_false_iff_ne] at hc
    (repeat (first | refine au_qpure rfl rfl ?_ | refine au_qpass rfl rfl ?_ | refine triq_nil ?_))
    (repeat (first | refine au_pure ?_ | refine au_pass ?_ | refine au_box (fun _ => ?_) | refine au_alloc (fun _ => ?_) | refine au_store ?_ | refine au_make rfl rfl (fun _ => ?_) | refine au_lit rfl rfl rfl (fun _ => ?_) | refine au_append rfl rfl rfl rfl (fun _ => au_norm ?_) | refine au_storeE rfl rfl rfl rfl ?_ | refine tri_seq ?_ | refine tri_then ?_ | refine tri_region ?_ | refine tri_nil ?_ | refine tri_skip ?_ | refine tri_ret ?_ | refine tri_exit ?_ | refine tri_thenr ?_ | refine tri_thene ?_ | refine tri_blkn ?_ | refine tri_blkr ?_ | refine tri_blke ?_ | refine tri_blko (by rfl) ?_ | refine tri_if_t (by rfl) ?_ | refine tri_if_f (by rfl) ?_ | fail))
    refine au_done1 rfl ?_
    refine fun w h => ⟨ret_b ?_, h.below⟩
    exact (decide_eq_false (fun h => hc h.1)).symm
end Go.Proofs.Ytojfaelafakemaa

/- The built-in clear on the rest of a row of the call's own. No conditions. -/
set_option linter.unusedSimpArgs false
set_option linter.unusedVariables false
namespace Go.Proofs.Ytojfaelafakemaa
open Go Go.RowKit
section
variable {M : List Nat} {P : Program} {n : Nat} {Q : Exit → Act → World → Prop} {ops rest : List Oper} {o : Oper} {E : Env} {w0 w : World} {cs : List Chunk} {x : Operand} {t e sz : Nat} {z : Value} {α : Type} [Enc α] {l : List α} {r : Row}
theorem tri_clear [Dl] {i a : Nat} {cs' : List Chunk} [hS : SlTy P t e sz z] (hd : o.dst = none) (hw : Wan ops n o E true) (ho : o.op = .call { callee := .builtin .clear, args := #[x], argTypes := #[t] })
    (hx : ev E x = some (cut r.v a l.length sz)) (hi : At cs i (slC r e l)) (hs : Enc.sz α = sz) (ha : Enc.enc (default : α) = z.cells.toList) (hal : a ≤ l.length) (hcs : Nf (cs.set i (slC r e (l.take a ++ List.replicate (l.length - a) default))) cs')
    (kk : Tri n (wpList P ops.toArray Q rest) E (HpM M w0 cs')) : Tri n (wpList P ops.toArray Q (o :: rest)) E (HpM M w0 cs) := by
  subst hcs
  subst hs
  intro b w hb h2
  refine wpList_want (hw b hb) ?_
  unfold Oper.wp
  obtain ⟨q1, q2, q3, g4⟩ := h2.at_ i _ hi
  have hlen := Own.len g4
  by_cases hae : a = l.length
  · have hr : (execOp b.eval o).run P w = .ok (.value (.tuple #[])) w := by
      have hz : l.length - a = 0 := by omega
      simp only [execOp, ho, resolve, invoke, builtin, Sem.run_bind, Sem.run_pure, Result.andThen_ok, List.map_toArray, List.map_cons, List.map_nil, hb.ev hx]
      simp only [Go.Proofs.Ytojfaelafakemaa.cut, Row.v, hz]
      generalize (if r.cap = a then r.A else Option.map (fun x => x.add (a * Enc.sz α)) r.A) = A
      cases A <;> simp [Builtin.clear_, run_underlying hS.und]
    rw [hr, Oper.upon_value, hd]
    have hl : l.take a ++ List.replicate (l.length - a) (default : α) = l := by rw [hae, List.take_length, Nat.sub_self]; simp
    rw [hl] at kk
    have hcs : cs.set i (slC r e l) = cs := by
      apply List.ext_getElem?
      intro j
      by_cases h : i = j
      · subst h
        have : cs[i]? = some (slC r e l) := hi
        rw [List.getElem?_set_self (List.getElem?_eq_some_iff.1 this).1, this]
      · rw [List.getElem?_set_ne h]
    rw [hcs] at kk
    exact kk _ _ hb h2
  · rcases g4.row with ⟨_, h4, _⟩ | ⟨g, o', cur, h3, h4, h5, h6, h7, h8⟩
    · omega
    · obtain ⟨ti, hti, hz, hsz, _, hzs⟩ := hS.get
      have hal' : a < l.length := by omega
      have hkl : l.length * Enc.sz α ≤ r.cap * Enc.sz α := Nat.mul_le_mul_right _ (by rw [← hlen]; exact g4.lec)
      have hsub : (l.length - a) * Enc.sz α = l.length * Enc.sz α - a * Enc.sz α := Nat.sub_mul _ _ _
      have hal2 : a * Enc.sz α ≤ l.length * Enc.sz α := Nat.mul_le_mul_right _ hal
      have hvs : (Builtin.zeroCells z.cells (l.length - a)).toList = encs (List.replicate (l.length - a) (default : α)) := by
        have := made_cells (default : α) z.cells.toList ha (l.length - a)
        rw [← this]
        have e1 : z.cells.toList.toArray = z.cells := by simp
        rw [e1, ← hzs]
        rfl
      have hvl : (encs (List.replicate (l.length - a) (default : α))).length = l.length * Enc.sz α - a * Enc.sz α := by rw [length_encs, List.length_replicate, hsub]
      have hst := run_storeCells_at (P := P) g (o' + a * Enc.sz α) e (encs (List.replicate (l.length - a) (default : α))) 0 cur w h6 (by rw [hvl]; omega) (one_encs _)
      have hr : (execOp b.eval o).run P w = .ok (.value (.tuple #[])) (w.setRow g (cur.toList.take (o' + a * Enc.sz α + 0) ++ encs (List.replicate (l.length - a) (default : α)) ++ cur.toList.drop (o' + a * Enc.sz α + 0 + (encs (List.replicate (l.length - a) (default : α))).length)).toArray) := by
        have hca : ¬ r.cap = a := by have := g4.lec; omega
        have hcut : Go.Proofs.Ytojfaelafakemaa.cut r.v a l.length (Enc.sz α) = .slice (some ⟨g, o' + a * Enc.sz α, none⟩) (l.length - a) (r.cap - a) := by
          rw [Row.v, h3]
          simp only [Go.Proofs.Ytojfaelafakemaa.cut, if_neg hca, Option.map_some, add_lit]
        rw [hcut] at hx
        obtain ⟨m, hm⟩ : ∃ m, l.length - a = m + 1 := ⟨l.length - a - 1, by omega⟩
        simp only [execOp, ho, resolve, invoke, builtin, Sem.run_bind, Sem.run_pure, Result.andThen_ok, List.map_toArray, List.map_cons, List.map_nil, hb.ev hx]
        rw [hm] at hvs hst ⊢
        simp [Builtin.clear_, run_underlying hS.und, zeroValue, typeInfo, hti, hz, hvs, hst]
      rw [hr, Oper.upon_value, hd]
      refine kk _ _ hb (h2.set hi ⟨rfl, rfl, rfl, by simp [World.setRow]⟩ (fun b' _ hb' => setRow_other w g b' _ ?_) (.inl ⟨rfl, rfl⟩) (by have q3' : r.hi ≤ w.heap.size := q3; show r.hi ≤ _; simpa [World.setRow] using q3') ?_)
      · have : b' < r.lo ∨ r.hi ≤ b' := hb'
        omega
      · have hnl : (l.take a ++ List.replicate (l.length - a) (default : α)).length = l.length := by simp; omega
        have hal3 : cur.toList.length = cur.size := by simp
        have hall : cur.toList = cur.toList.take o' ++ (encs l ++ (cur.toList.drop o').drop (r.len * Enc.sz α)) := by
          rw [← h8, List.take_append_drop, List.take_append_drop]
        have ht : (cur.toList.take o').length = o' := by rw [List.length_take]; omega
        have hel : (encs l).length = l.length * Enc.sz α := length_encs l
        have ht1 : cur.toList.take (o' + a * Enc.sz α + 0) = cur.toList.take o' ++ encs (l.take a) := by
          conv => lhs; rw [hall]
          rw [List.take_append, ht, List.take_of_length_le (by rw [ht]; omega), show o' + a * Enc.sz α + 0 - o' = a * Enc.sz α by omega, List.take_append_of_le_length (by omega), encs_take]
        have hd1 : cur.toList.drop (o' + a * Enc.sz α + 0 + (encs (List.replicate (l.length - a) (default : α))).length) = (cur.toList.drop o').drop (r.len * Enc.sz α) := by
          rw [List.drop_drop, hvl, hlen]
          congr 1
          omega
        have hnew : cur.toList.take (o' + a * Enc.sz α + 0) ++ encs (List.replicate (l.length - a) (default : α)) ++ cur.toList.drop (o' + a * Enc.sz α + 0 + (encs (List.replicate (l.length - a) (default : α))).length)
            = cur.toList.take o' ++ (encs (l.take a ++ List.replicate (l.length - a) (default : α)) ++ (cur.toList.drop o').drop (r.len * Enc.sz α)) := by
          rw [ht1, hd1, encs_append]; simp only [List.append_assoc]
        refine ⟨by rw [hnl]; exact hlen, g4.lec, g4.cap, .inr ⟨g, o', _, h3, h4, h5, setRow_heap w g _ _ e _ h6, ?_, ?_⟩⟩
        · simp only [List.size_toArray, List.length_append, List.length_take, List.length_drop, hvl]
          omega
        · simp only
          rw [hnew, List.drop_append_of_le_length (by omega), List.drop_of_length_le (by omega)]
          simp only [List.nil_append]
          have hlen2 : (encs (l.take a ++ List.replicate (l.length - a) (default : α))).length = r.len * Enc.sz α := by rw [length_encs, hnl, hlen]
          rw [← hlen2, List.take_left]
end
end Go.Proofs.Ytojfaelafakemaa
