/- What the machine takes from the library: Clone, IndexFunc, Repeat, bits.Mul. No conditions. -/
import Derived.Test.YtinnkclemjognaaCowSpec
import Derived.Test.YtinnkclemjognaaCopy
set_option linter.unusedSimpArgs false
set_option linter.unusedVariables false
namespace Go.Proofs.Ytinnkclemjognaa
open Go Go.RowKit
attribute [local irreducible] Code.wp wpList bodyPost Exit.then Exit.inBlock Calls wpQuiet Tri TriQ
abbrev frV (x : FR) : Value := .agg #[.int .i64 x.ct, .int .i64 x.wd]
abbrev pgV (x : PG) : Value := .agg #[.int .i64 x.fr, .bool x.wr]
theorem clonePG_c (w0 : World) (cs : List Chunk) {v : Value} {l : List PG} (hR : RdH (Hp w0 cs) v l) (hlen : l.length ≤ 1000000) :
    Cal Try.prog 36 [v] (Hp w0 cs) (fun r : Row => r.v) (fun r => Hp w0 (slC r 64 l :: cs)) := by
  refine cal_of_tri Try.func36 rfl Try.ntmps36 rfl ?_
  (repeat' (first | refine au_pure ?_ | refine au_pass ?_ | refine au_box (fun _ => ?_) | refine au_alloc (fun _ => ?_) | refine au_store ?_ | refine au_make rfl rfl (fun _ => ?_) | refine au_lit rfl rfl rfl (fun _ => ?_) | refine au_append rfl rfl rfl rfl (fun _ => au_norm ?_) | refine au_storeE rfl rfl rfl rfl ?_ | refine tri_seq ?_ | refine tri_then ?_ | refine tri_region ?_ | refine tri_nil ?_ | refine tri_skip ?_ | refine tri_ret ?_ | refine tri_exit ?_ | refine tri_thenr ?_ | refine tri_thene ?_ | refine tri_blkn ?_ | refine tri_blkr ?_ | refine tri_blke ?_ | refine tri_blko (by rfl) ?_ | refine tri_if_t (by rfl) ?_ | refine tri_if_f (by rfl) ?_ | ((first | refine tri_cond (by rfl) (fun hc => ?_) (fun hc => ?_) | refine tri_gsplit (by rfl) (by rfl) (by (fail_if_success exact (rfl : _ = some (Value.bool true))); (fail_if_success exact (rfl : _ = some (Value.bool false))); rfl) (fun hc => ?_) (fun hc => ?_)) <;> (try simp only [decide_eq_true_eq, decide_eq_false_iff_not, beq_iff_eq, bne_iff_ne, ne_eq, Bool.not_eq_true', Bool.not_eq_false', beq_eq_false_iff_ne, bne_eq_false_iff_eq, Int.not_lt, Int.not_le, gt_iff_lt, ge_iff_le, Bool.and_eq_true, Bool.or_eq_true, Bool.and_eq_false_iff, Bool.or_eq_false_iff, Decidable.not_not, not_true_eq_false, not_false_eq_true, and_true, true_and, or_false, false_or, or_true, true_or, and_false, false_and, eq_self, Bool.true_eq_false, Bool.false_eq_true] at hc) <;> (try (exfalso; omega))) | fail))
  · refine tri_nilrow PG 64 ?_
    refine au_done1 rfl ?_
    intro w hw
    refine ⟨Row.nil w0.heap.size, rfl, ?_⟩
    have : l = [] := (hR w hw.tail).isNil hc
    exact this ▸ hw
  · refine au_done1 rfl ?_
    intro w hw
    exact ⟨_, rfl, hw⟩
theorem cloneSP_c (w0 : World) (cs : List Chunk) {v : Value} {l : List SP} (hR : RdH (Hp w0 cs) v l) (hlen : l.length ≤ 1000000) :
    Cal Try.prog 53 [v] (Hp w0 cs) (fun r : Row => r.v) (fun r => Hp w0 (slC r 62 l :: cs)) := by
  refine cal_of_tri Try.func53 rfl Try.ntmps53 rfl ?_
  (repeat' (first | refine au_pure ?_ | refine au_pass ?_ | refine au_box (fun _ => ?_) | refine au_alloc (fun _ => ?_) | refine au_store ?_ | refine au_make rfl rfl (fun _ => ?_) | refine au_lit rfl rfl rfl (fun _ => ?_) | refine au_append rfl rfl rfl rfl (fun _ => au_norm ?_) | refine au_storeE rfl rfl rfl rfl ?_ | refine tri_seq ?_ | refine tri_then ?_ | refine tri_region ?_ | refine tri_nil ?_ | refine tri_skip ?_ | refine tri_ret ?_ | refine tri_exit ?_ | refine tri_thenr ?_ | refine tri_thene ?_ | refine tri_blkn ?_ | refine tri_blkr ?_ | refine tri_blke ?_ | refine tri_blko (by rfl) ?_ | refine tri_if_t (by rfl) ?_ | refine tri_if_f (by rfl) ?_ | ((first | refine tri_cond (by rfl) (fun hc => ?_) (fun hc => ?_) | refine tri_gsplit (by rfl) (by rfl) (by (fail_if_success exact (rfl : _ = some (Value.bool true))); (fail_if_success exact (rfl : _ = some (Value.bool false))); rfl) (fun hc => ?_) (fun hc => ?_)) <;> (try simp only [decide_eq_true_eq, decide_eq_false_iff_not, beq_iff_eq, bne_iff_ne, ne_eq, Bool.not_eq_true', Bool.not_eq_false', beq_eq_false_iff_ne, bne_eq_false_iff_eq, Int.not_lt, Int.not_le, gt_iff_lt, ge_iff_le, Bool.and_eq_true, Bool.or_eq_true, Bool.and_eq_false_iff, Bool.or_eq_false_iff, Decidable.not_not, not_true_eq_false, not_false_eq_true, and_true, true_and, or_false, false_or, or_true, true_or, and_false, false_and, eq_self, Bool.true_eq_false, Bool.false_eq_true] at hc) <;> (try (exfalso; omega))) | fail))
  · refine tri_nilrow SP 62 ?_
    refine au_done1 rfl ?_
    intro w hw
    refine ⟨Row.nil w0.heap.size, rfl, ?_⟩
    have : l = [] := (hR w hw.tail).isNil hc
    exact this ▸ hw
  · refine au_done1 rfl ?_
    intro w hw
    exact ⟨_, rfl, hw⟩
theorem cloneFR_c (w0 : World) (cs : List Chunk) {v : Value} {l : List FR} (hR : RdH (Hp w0 cs) v l) (hlen : l.length ≤ 1000000) :
    Cal Try.prog 54 [v] (Hp w0 cs) (fun r : Row => r.v) (fun r => Hp w0 (slC r 57 l :: cs)) := by
  refine cal_of_tri Try.func54 rfl Try.ntmps54 rfl ?_
  (repeat' (first | refine au_pure ?_ | refine au_pass ?_ | refine au_box (fun _ => ?_) | refine au_alloc (fun _ => ?_) | refine au_store ?_ | refine au_make rfl rfl (fun _ => ?_) | refine au_lit rfl rfl rfl (fun _ => ?_) | refine au_append rfl rfl rfl rfl (fun _ => au_norm ?_) | refine au_storeE rfl rfl rfl rfl ?_ | refine tri_seq ?_ | refine tri_then ?_ | refine tri_region ?_ | refine tri_nil ?_ | refine tri_skip ?_ | refine tri_ret ?_ | refine tri_exit ?_ | refine tri_thenr ?_ | refine tri_thene ?_ | refine tri_blkn ?_ | refine tri_blkr ?_ | refine tri_blke ?_ | refine tri_blko (by rfl) ?_ | refine tri_if_t (by rfl) ?_ | refine tri_if_f (by rfl) ?_ | ((first | refine tri_cond (by rfl) (fun hc => ?_) (fun hc => ?_) | refine tri_gsplit (by rfl) (by rfl) (by (fail_if_success exact (rfl : _ = some (Value.bool true))); (fail_if_success exact (rfl : _ = some (Value.bool false))); rfl) (fun hc => ?_) (fun hc => ?_)) <;> (try simp only [decide_eq_true_eq, decide_eq_false_iff_not, beq_iff_eq, bne_iff_ne, ne_eq, Bool.not_eq_true', Bool.not_eq_false', beq_eq_false_iff_ne, bne_eq_false_iff_eq, Int.not_lt, Int.not_le, gt_iff_lt, ge_iff_le, Bool.and_eq_true, Bool.or_eq_true, Bool.and_eq_false_iff, Bool.or_eq_false_iff, Decidable.not_not, not_true_eq_false, not_false_eq_true, and_true, true_and, or_false, false_or, or_true, true_or, and_false, false_and, eq_self, Bool.true_eq_false, Bool.false_eq_true] at hc) <;> (try (exfalso; omega))) | fail))
  · refine tri_nilrow FR 57 ?_
    refine au_done1 rfl ?_
    intro w hw
    refine ⟨Row.nil w0.heap.size, rfl, ?_⟩
    have : l = [] := (hR w hw.tail).isNil hc
    exact this ▸ hw
  · refine au_done1 rfl ?_
    intro w hw
    exact ⟨_, rfl, hw⟩
def TstFR (w0 : World) (cs : List Chunk) (g : Nat) (capd : List Value) (p : FR → Bool) : Prop := ∀ ds s, Cal Try.prog g ([.agg #[.int .i64 s.ct, .int .i64 s.wd]] ++ capd) (Hp w0 (ds ++ cs)) (fun _ : Unit => .bool (p s)) (fun _ => Hp w0 (ds ++ cs))
theorem indexFuncFR_c (w0 : World) (cs : List Chunk) {v : Value} {l : List FR} (hR : RdH (Hp w0 cs) v l) (hlen : l.length ≤ 9223372036854775807) {g : Nat} {capd : List Value} {p : FR → Bool} (hg : TstFR w0 cs g capd p) [Fun_ Try.prog g] :
    Cal Try.prog 33 [v, .func (.func g) #[] capd.toArray] (Hp w0 cs) (fun _ : Unit => .int .i64 (idxM p l)) (fun _ => Hp w0 cs) := by
  refine cal_of_tri Try.func33 rfl Try.ntmps33 rfl ?_
  (repeat (first | refine au_pure ?_ | refine au_pass ?_ | refine au_box (fun _ => ?_) | refine au_alloc (fun _ => ?_) | refine au_store ?_ | refine au_make rfl rfl (fun _ => ?_) | refine au_lit rfl rfl rfl (fun _ => ?_) | refine au_append rfl rfl rfl rfl (fun _ => au_norm ?_) | refine au_storeE rfl rfl rfl rfl ?_ | refine tri_seq ?_ | refine tri_then ?_ | refine tri_region ?_ | refine tri_nil ?_ | refine tri_skip ?_ | refine tri_ret ?_ | refine tri_exit ?_ | refine tri_thenr ?_ | refine tri_thene ?_ | refine tri_blkn ?_ | refine tri_blkr ?_ | refine tri_blke ?_ | refine tri_blko (by rfl) ?_ | refine tri_if_t (by rfl) ?_ | refine tri_if_f (by rfl) ?_ | fail))
  refine tri_block ?_
  refine tri_loop1 (fun k => k ≤ l.length ∧ ∀ j, j < k → p (l.getD j default) = false) (fun k => [(0, v), (1, .func (.func g) #[] capd.toArray), (7, .int .i64 (l.length : Int)), (8, .int .i64 (k : Int))]) (fun _ => Hp w0 cs) (fun k => l.length - k)
    0 ⟨by omega, fun j hj => by omega⟩ (by repeat (first | exact trivial | refine ⟨rfl, ?_⟩)) (fun _ h => h) ?_
  rintro k ⟨hk, hp⟩
  (repeat' (first | refine au_pure ?_ | refine au_pass ?_ | refine au_box (fun _ => ?_) | refine au_alloc (fun _ => ?_) | refine au_store ?_ | refine au_make rfl rfl (fun _ => ?_) | refine au_lit rfl rfl rfl (fun _ => ?_) | refine au_append rfl rfl rfl rfl (fun _ => au_norm ?_) | refine au_storeE rfl rfl rfl rfl ?_ | refine tri_seq ?_ | refine tri_then ?_ | refine tri_region ?_ | refine tri_nil ?_ | refine tri_skip ?_ | refine tri_ret ?_ | refine tri_exit ?_ | refine tri_thenr ?_ | refine tri_thene ?_ | refine tri_blkn ?_ | refine tri_blkr ?_ | refine tri_blke ?_ | refine tri_blko (by rfl) ?_ | refine tri_if_t (by rfl) ?_ | refine tri_if_f (by rfl) ?_ | ((first | refine tri_cond (by rfl) (fun hc => ?_) (fun hc => ?_) | refine tri_gsplit (by rfl) (by rfl) (by (fail_if_success exact (rfl : _ = some (Value.bool true))); (fail_if_success exact (rfl : _ = some (Value.bool false))); rfl) (fun hc => ?_) (fun hc => ?_)) <;> (try simp only [decide_eq_true_eq, decide_eq_false_iff_not, beq_iff_eq, bne_iff_ne, ne_eq, Bool.not_eq_true', Bool.not_eq_false', beq_eq_false_iff_ne, bne_eq_false_iff_eq, Int.not_lt, Int.not_le, gt_iff_lt, ge_iff_le, Bool.and_eq_true, Bool.or_eq_true, Bool.and_eq_false_iff, Bool.or_eq_false_iff, Decidable.not_not, not_true_eq_false, not_false_eq_true, and_true, true_and, or_false, false_or, or_true, true_or, and_false, false_and, eq_self, Bool.true_eq_false, Bool.false_eq_true] at hc) <;> (try (exfalso; omega))) | fail))
  · refine tri_block ?_
    (repeat (first | refine au_pure ?_ | refine au_pass ?_ | refine au_box (fun _ => ?_) | refine au_alloc (fun _ => ?_) | refine au_store ?_ | refine au_make rfl rfl (fun _ => ?_) | refine au_lit rfl rfl rfl (fun _ => ?_) | refine au_append rfl rfl rfl rfl (fun _ => au_norm ?_) | refine au_storeE rfl rfl rfl rfl ?_ | refine tri_seq ?_ | refine tri_then ?_ | refine tri_region ?_ | refine tri_nil ?_ | refine tri_skip ?_ | refine tri_ret ?_ | refine tri_exit ?_ | refine tri_thenr ?_ | refine tri_thene ?_ | refine tri_blkn ?_ | refine tri_blkr ?_ | refine tri_blke ?_ | refine tri_blko (by rfl) ?_ | refine tri_if_t (by rfl) ?_ | refine tri_if_f (by rfl) ?_ | fail))
    refine au_callC rfl rfl rfl rfl rfl (hg [] (l.getD k default)) (fun _ => ?_)
    (repeat' (first | refine au_pure ?_ | refine au_pass ?_ | refine au_box (fun _ => ?_) | refine au_alloc (fun _ => ?_) | refine au_store ?_ | refine au_make rfl rfl (fun _ => ?_) | refine au_lit rfl rfl rfl (fun _ => ?_) | refine au_append rfl rfl rfl rfl (fun _ => au_norm ?_) | refine au_storeE rfl rfl rfl rfl ?_ | refine tri_seq ?_ | refine tri_then ?_ | refine tri_region ?_ | refine tri_nil ?_ | refine tri_skip ?_ | refine tri_ret ?_ | refine tri_exit ?_ | refine tri_thenr ?_ | refine tri_thene ?_ | refine tri_blkn ?_ | refine tri_blkr ?_ | refine tri_blke ?_ | refine tri_blko (by rfl) ?_ | refine tri_if_t (by rfl) ?_ | refine tri_if_f (by rfl) ?_ | ((first | refine tri_cond (by rfl) (fun hc => ?_) (fun hc => ?_) | refine tri_gsplit (by rfl) (by rfl) (by (fail_if_success exact (rfl : _ = some (Value.bool true))); (fail_if_success exact (rfl : _ = some (Value.bool false))); rfl) (fun hc => ?_) (fun hc => ?_)) <;> (try simp only [decide_eq_true_eq, decide_eq_false_iff_not, beq_iff_eq, bne_iff_ne, ne_eq, Bool.not_eq_true', Bool.not_eq_false', beq_eq_false_iff_ne, bne_eq_false_iff_eq, Int.not_lt, Int.not_le, gt_iff_lt, ge_iff_le, Bool.and_eq_true, Bool.or_eq_true, Bool.and_eq_false_iff, Bool.or_eq_false_iff, Decidable.not_not, not_true_eq_false, not_false_eq_true, and_true, true_and, or_false, false_or, or_true, true_or, and_false, false_and, eq_self, Bool.true_eq_false, Bool.false_eq_true] at hc) <;> (try (exfalso; omega))) | fail))
    · refine au_done1 rfl ?_
      exact fun w hw => ⟨(), by rw [idxM_some (k := k) (by omega) (by assumption) hp], hw⟩
    · exact tri_nx1 (k + 1) (by omega) ⟨by omega, all_step hp (by assumption)⟩ (by repeat (first | exact trivial | refine ⟨rfl, ?_⟩)) (fun _ h => h)
  · refine au_done1 rfl ?_
    exact fun w hw => ⟨(), by rw [idxM_none fun j hj => hp j (by omega)], hw⟩
theorem fin_all (P : Nat → Prop) [DecidablePred P] (h : (List.range 513).all (fun n => decide (P n)) = true) : ∀ n, n ≤ 512 → P n := fun n hn => by
  have := List.all_eq_true.1 h n (List.mem_range.2 (by omega))
  exact of_decide_eq_true this
theorem ret_uu {a b c d : Int} (h : a = b) (h' : c = d) : Ending.returned (.tuple #[.int .u64 a, .int .u64 c]) = .returned (.tuple #[.int .u64 b, .int .u64 d]) := by rw [h, h']
theorem mul64_any (n : Nat) (hn : n ≤ 512) (w : World) : Calls Try.prog 61 [.int .u64 1, .int .u64 (n : Int)].toArray w (Ret (.tuple #[.int .u64 0, .int .u64 (n : Int)]) w) := by
  refine calls_of_tri Try.func61 rfl Try.ntmps61 rfl ?_
  (repeat (first | refine au_pure ?_ | refine au_pass ?_ | refine au_box (fun _ => ?_) | refine au_alloc (fun _ => ?_) | refine au_store ?_ | refine au_make rfl rfl (fun _ => ?_) | refine au_lit rfl rfl rfl (fun _ => ?_) | refine au_append rfl rfl rfl rfl (fun _ => au_norm ?_) | refine au_storeE rfl rfl rfl rfl ?_ | refine tri_seq ?_ | refine tri_then ?_ | refine tri_region ?_ | refine tri_nil ?_ | refine tri_skip ?_ | refine tri_ret ?_ | refine tri_exit ?_ | refine tri_thenr ?_ | refine tri_thene ?_ | refine tri_blkn ?_ | refine tri_blkr ?_ | refine tri_blke ?_ | refine tri_blko (by rfl) ?_ | refine tri_if_t (by rfl) ?_ | refine tri_if_f (by rfl) ?_ | fail))
  refine au_done2 rfl ?_
  refine fun w h => ⟨ret_uu ?_ ?_, h.below⟩
  · clear h
    clear w
    revert n
    refine fin_all _ ?_
    kernel_rfl
  · rw [wrap_u64 (by omega)]; omega
theorem mul_any (n : Nat) (hn : n ≤ 512) (w : World) : Calls Try.prog 52 [.int .u64 1, .int .u64 (n : Int)].toArray w (Ret (.tuple #[.int .u64 0, .int .u64 (n : Int)]) w) := by
  refine calls_of_tri Try.func52 rfl Try.ntmps52 rfl ?_
  (repeat (first | refine au_pure ?_ | refine au_pass ?_ | refine au_box (fun _ => ?_) | refine au_alloc (fun _ => ?_) | refine au_store ?_ | refine au_make rfl rfl (fun _ => ?_) | refine au_lit rfl rfl rfl (fun _ => ?_) | refine au_append rfl rfl rfl rfl (fun _ => au_norm ?_) | refine au_storeE rfl rfl rfl rfl ?_ | refine tri_seq ?_ | refine tri_then ?_ | refine tri_region ?_ | refine tri_nil ?_ | refine tri_skip ?_ | refine tri_ret ?_ | refine tri_exit ?_ | refine tri_thenr ?_ | refine tri_thene ?_ | refine tri_blkn ?_ | refine tri_blkr ?_ | refine tri_blke ?_ | refine tri_blko (by rfl) ?_ | refine tri_if_t (by rfl) ?_ | refine tri_if_f (by rfl) ?_ | fail))
  refine au_call rfl rfl (cl_of rfl rfl rfl (fun _ h => Ret.hp (mul64_any n hn _) h)) ?_
  (repeat (first | refine au_pure ?_ | refine au_pass ?_ | refine au_box (fun _ => ?_) | refine au_alloc (fun _ => ?_) | refine au_store ?_ | refine au_make rfl rfl (fun _ => ?_) | refine au_lit rfl rfl rfl (fun _ => ?_) | refine au_append rfl rfl rfl rfl (fun _ => au_norm ?_) | refine au_storeE rfl rfl rfl rfl ?_ | refine tri_seq ?_ | refine tri_then ?_ | refine tri_region ?_ | refine tri_nil ?_ | refine tri_skip ?_ | refine tri_ret ?_ | refine tri_exit ?_ | refine tri_thenr ?_ | refine tri_thene ?_ | refine tri_blkn ?_ | refine tri_blkr ?_ | refine tri_blke ?_ | refine tri_blko (by rfl) ?_ | refine tri_if_t (by rfl) ?_ | refine tri_if_f (by rfl) ?_ | fail))
  refine au_done2 rfl ?_
  refine fun w h => ⟨ret_uu ?_ ?_, h.below⟩ <;> rfl
theorem rep_copy {p : PG} {n j k : Nat} (hj : j ≤ n) (hk : k = min j (n - j)) : (List.replicate j p ++ List.replicate (n - j) (default : PG)).take j ++ (((List.replicate j p ++ List.replicate (n - j) (default : PG)).take j).take k ++ (List.replicate j p ++ List.replicate (n - j) (default : PG)).drop (j + k)) = List.replicate (j + k) p ++ List.replicate (n - (j + k)) default := by
  rw [List.take_left' (by simp), List.drop_append, List.drop_of_length_le (by simp), List.take_replicate, List.drop_replicate, List.length_replicate, ← List.append_assoc, List.nil_append, List.replicate_append_replicate, show min k j = k by omega, show n - j - (j + k - j) = n - (j + k) by omega]
theorem rep_c (w0 : World) (cs : List Chunk) {v : Value} {p : PG} (n : Nat) (hn : n ≤ 512) (h1 : 1 ≤ n) (hR : RdH (Hp w0 cs) v [p]) :
    Cal Try.prog 30 [v, .int .i64 (n : Int)] (Hp w0 cs) (fun r : Row => r.v) (fun r => Hp w0 (pgS r (List.replicate n p) :: cs)) := by
  refine cal_of_tri Try.func30 rfl Try.ntmps30 rfl ?_
  (repeat (first | refine au_pure ?_ | refine au_pass ?_ | refine au_box (fun _ => ?_) | refine au_alloc (fun _ => ?_) | refine au_store ?_ | refine au_make rfl rfl (fun _ => ?_) | refine au_lit rfl rfl rfl (fun _ => ?_) | refine au_append rfl rfl rfl rfl (fun _ => au_norm ?_) | refine au_storeE rfl rfl rfl rfl ?_ | refine tri_seq ?_ | refine tri_then ?_ | refine tri_region ?_ | refine tri_nil ?_ | refine tri_skip ?_ | refine tri_ret ?_ | refine tri_exit ?_ | refine tri_thenr ?_ | refine tri_thene ?_ | refine tri_blkn ?_ | refine tri_blkr ?_ | refine tri_blke ?_ | refine tri_blko (by rfl) ?_ | refine tri_if_t (by rfl) ?_ | refine tri_if_f (by rfl) ?_ | fail))
  rw [decide_eq_false (show ¬ (n : Int) < 0 by omega)]
  (repeat (first | refine au_pure ?_ | refine au_pass ?_ | refine au_box (fun _ => ?_) | refine au_alloc (fun _ => ?_) | refine au_store ?_ | refine au_make rfl rfl (fun _ => ?_) | refine au_lit rfl rfl rfl (fun _ => ?_) | refine au_append rfl rfl rfl rfl (fun _ => au_norm ?_) | refine au_storeE rfl rfl rfl rfl ?_ | refine tri_seq ?_ | refine tri_then ?_ | refine tri_region ?_ | refine tri_nil ?_ | refine tri_skip ?_ | refine tri_ret ?_ | refine tri_exit ?_ | refine tri_thenr ?_ | refine tri_thene ?_ | refine tri_blkn ?_ | refine tri_blkr ?_ | refine tri_blke ?_ | refine tri_blko (by rfl) ?_ | refine tri_if_t (by rfl) ?_ | refine tri_if_f (by rfl) ?_ | fail))
  rw [wrap_u64 (z := (n : Int)) (by omega)]
  refine au_call rfl rfl (cl_of rfl rfl rfl (fun _ h => Ret.hp (mul_any n hn _) h)) ?_
  (repeat (first | refine au_pure ?_ | refine au_pass ?_ | refine au_box (fun _ => ?_) | refine au_alloc (fun _ => ?_) | refine au_store ?_ | refine au_make rfl rfl (fun _ => ?_) | refine au_lit rfl rfl rfl (fun _ => ?_) | refine au_append rfl rfl rfl rfl (fun _ => au_norm ?_) | refine au_storeE rfl rfl rfl rfl ?_ | refine tri_seq ?_ | refine tri_then ?_ | refine tri_region ?_ | refine tri_nil ?_ | refine tri_skip ?_ | refine tri_ret ?_ | refine tri_exit ?_ | refine tri_thenr ?_ | refine tri_thene ?_ | refine tri_blkn ?_ | refine tri_blkr ?_ | refine tri_blke ?_ | refine tri_blko (by rfl) ?_ | refine tri_if_t (by rfl) ?_ | refine tri_if_f (by rfl) ?_ | fail))
  rw [decide_eq_false (show ¬ ((0 : Int) > 0) by omega)]
  (repeat (first | refine au_pure ?_ | refine au_pass ?_ | refine au_box (fun _ => ?_) | refine au_alloc (fun _ => ?_) | refine au_store ?_ | refine au_make rfl rfl (fun _ => ?_) | refine au_lit rfl rfl rfl (fun _ => ?_) | refine au_append rfl rfl rfl rfl (fun _ => au_norm ?_) | refine au_storeE rfl rfl rfl rfl ?_ | refine tri_seq ?_ | refine tri_then ?_ | refine tri_region ?_ | refine tri_nil ?_ | refine tri_skip ?_ | refine tri_ret ?_ | refine tri_exit ?_ | refine tri_thenr ?_ | refine tri_thene ?_ | refine tri_blkn ?_ | refine tri_blkr ?_ | refine tri_blke ?_ | refine tri_blko (by rfl) ?_ | refine tri_if_t (by rfl) ?_ | refine tri_if_f (by rfl) ?_ | fail))
  rw [decide_eq_false (show ¬ ((n : Int) > 9223372036854775807) by omega)]
  (repeat (first | refine au_pure ?_ | refine au_pass ?_ | refine au_box (fun _ => ?_) | refine au_alloc (fun _ => ?_) | refine au_store ?_ | refine au_make rfl rfl (fun _ => ?_) | refine au_lit rfl rfl rfl (fun _ => ?_) | refine au_append rfl rfl rfl rfl (fun _ => au_norm ?_) | refine au_storeE rfl rfl rfl rfl ?_ | refine tri_seq ?_ | refine tri_then ?_ | refine tri_region ?_ | refine tri_nil ?_ | refine tri_skip ?_ | refine tri_ret ?_ | refine tri_exit ?_ | refine tri_thenr ?_ | refine tri_thene ?_ | refine tri_blkn ?_ | refine tri_blkr ?_ | refine tri_blke ?_ | refine tri_blko (by rfl) ?_ | refine tri_if_t (by rfl) ?_ | refine tri_if_f (by rfl) ?_ | fail))
  rename_i r
  refine tri_copy (α := PG) (a := 0) (k := 1) (l2 := [p]) rfl rfl (by first | exact wan_plain rfl | exact wan_yes rfl rfl rfl) rfl rfl shows_row rfl (by repeat (first | assumption | exact rd_chunk (by first | (apply has_at; (repeat (first | exact at0 | apply atS)); done) | (repeat (first | assumption | apply has_cons))) | apply RdH.cons | refine RdH.cut ?_ rfl (by omega) (by omega))) at0 rfl (by omega) (by rw [List.length_replicate]; simp; omega) rfl ?_
  rw [show (List.replicate n (default : PG)).take 0 ++ ([p].take 1 ++ (List.replicate n (default : PG)).drop (0 + 1)) = List.replicate 1 p ++ List.replicate (n - 1) default by rw [List.drop_replicate]; rfl]
  (repeat (first | refine au_pure ?_ | refine au_pass ?_ | refine au_box (fun _ => ?_) | refine au_alloc (fun _ => ?_) | refine au_store ?_ | refine au_make rfl rfl (fun _ => ?_) | refine au_lit rfl rfl rfl (fun _ => ?_) | refine au_append rfl rfl rfl rfl (fun _ => au_norm ?_) | refine au_storeE rfl rfl rfl rfl ?_ | refine tri_seq ?_ | refine tri_then ?_ | refine tri_region ?_ | refine tri_nil ?_ | refine tri_skip ?_ | refine tri_ret ?_ | refine tri_exit ?_ | refine tri_thenr ?_ | refine tri_thene ?_ | refine tri_blkn ?_ | refine tri_blkr ?_ | refine tri_blke ?_ | refine tri_blko (by rfl) ?_ | refine tri_if_t (by rfl) ?_ | refine tri_if_f (by rfl) ?_ | fail))
  refine tri_block ?_
  refine tri_loop1 (fun (j : Nat) => 1 ≤ j ∧ j ≤ n) (fun j => [(7, r.v), (8, .int .i64 (j : Int))]) (fun j => Hp w0 (pgS r (List.replicate j p ++ List.replicate (n - j) default) :: cs)) (fun j => n - j)
    1 ⟨by omega, h1⟩ (by repeat (first | exact trivial | refine ⟨rfl, ?_⟩)) (fun w h => h.sub (by repeat (first | exact List.Sublist.refl _ | assumption | apply List.Sublist.cons_cons | apply List.Sublist.cons))) ?_
  rintro j ⟨hj1, hj⟩
  have hll : (List.replicate j p ++ List.replicate (n - j) (default : PG)).length = n := by simp; omega
  (repeat (first | refine au_pure ?_ | refine au_pass ?_ | refine au_box (fun _ => ?_) | refine au_alloc (fun _ => ?_) | refine au_store ?_ | refine au_make rfl rfl (fun _ => ?_) | refine au_lit rfl rfl rfl (fun _ => ?_) | refine au_append rfl rfl rfl rfl (fun _ => au_norm ?_) | refine au_storeE rfl rfl rfl rfl ?_ | refine tri_seq ?_ | refine tri_then ?_ | refine tri_region ?_ | refine tri_nil ?_ | refine tri_skip ?_ | refine tri_ret ?_ | refine tri_exit ?_ | refine tri_thenr ?_ | refine tri_thene ?_ | refine tri_blkn ?_ | refine tri_blkr ?_ | refine tri_blke ?_ | refine tri_blko (by rfl) ?_ | refine tri_if_t (by rfl) ?_ | refine tri_if_f (by rfl) ?_ | fail))
  rw [hll]
  ((first | refine tri_cond (by rfl) (fun hc => ?_) (fun hc => ?_) | refine tri_gsplit (by rfl) (by rfl) (by (fail_if_success exact (rfl : _ = some (Value.bool true))); (fail_if_success exact (rfl : _ = some (Value.bool false))); rfl) (fun hc => ?_) (fun hc => ?_)) <;> (try simp only [decide_eq_true_eq, decide_eq_false_iff_not, beq_iff_eq, bne_iff_ne, ne_eq, Bool.not_eq_true', Bool.not_eq_false', beq_eq_false_iff_ne, bne_eq_false_iff_eq, Int.not_lt, Int.not_le, gt_iff_lt, ge_iff_le, Bool.and_eq_true, Bool.or_eq_true, Bool.and_eq_false_iff, Bool.or_eq_false_iff, Decidable.not_not, not_true_eq_false, not_false_eq_true, and_true, true_and, or_false, false_or, or_true, true_or, and_false, false_and, eq_self, Bool.true_eq_false, Bool.false_eq_true] at hc) <;> (try (exfalso; omega)))
  · (repeat (first | refine au_pure ?_ | refine au_pass ?_ | refine au_box (fun _ => ?_) | refine au_alloc (fun _ => ?_) | refine au_store ?_ | refine au_make rfl rfl (fun _ => ?_) | refine au_lit rfl rfl rfl (fun _ => ?_) | refine au_append rfl rfl rfl rfl (fun _ => au_norm ?_) | refine au_storeE rfl rfl rfl rfl ?_ | refine tri_seq ?_ | refine tri_then ?_ | refine tri_region ?_ | refine tri_nil ?_ | refine tri_skip ?_ | refine tri_ret ?_ | refine tri_exit ?_ | refine tri_thenr ?_ | refine tri_thene ?_ | refine tri_blkn ?_ | refine tri_blkr ?_ | refine tri_blke ?_ | refine tri_blko (by rfl) ?_ | refine tri_if_t (by rfl) ?_ | refine tri_if_f (by rfl) ?_ | fail))
    refine tri_block ?_
    have hcp := rep_copy (p := p) (k := min j (n - j)) hj rfl
    obtain ⟨T, hT⟩ : ∃ T, T = List.replicate j p ++ List.replicate (n - j) (default : PG) := ⟨_, rfl⟩
    rw [← hT] at hcp hll ⊢
    refine au_held rfl T r 64 at0 ?_
    refine au_take 0 rfl rfl rfl ?_
    refine au_take 1 rfl rfl rfl ?_
    refine au_take 2 rfl rfl rfl ?_
    refine au_take 3 rfl rfl rfl ?_ (hy := fun l' hl' => hl' ▸ yl_cut (a := j) (b := l'.length) rfl rfl (rd_chunk (by first | (apply has_at; (repeat (first | exact at0 | apply atS)); done) | (repeat (first | assumption | apply has_cons)))) (ixo_some (ix_nat rfl)) ixo_none (by omega) (by omega))
    refine au_take 4 rfl rfl rfl ?_
    refine au_take 5 rfl rfl rfl ?_
    refine au_take 6 rfl rfl rfl ?_ (hy := fun l' hl' => yl_cut (a := 0) (b := j) rfl rfl (rd_chunk (by first | (apply has_at; (repeat (first | exact at0 | apply atS)); done) | (repeat (first | assumption | apply has_cons)))) ixo_none (ixo_some (ix_nat rfl)) (by omega) (by omega))
    refine au_hop 7 rfl ?_
    refine tri_copy (α := PG) (a := j) (k := min j (n - j)) (l2 := (T.take j).drop 0) rfl rfl (by first | exact wan_plain rfl | exact wan_yes rfl rfl rfl) rfl rfl shows_cut rfl (RdH.cut (rd_chunk (by first | (apply has_at; (repeat (first | exact at0 | apply atS)); done) | (repeat (first | assumption | apply has_cons)))) rfl (by omega) (by omega)) at0 rfl (by omega) (by rw [List.drop_zero, List.length_take]; omega) rfl ?_
    rw [List.drop_zero, hcp]
    refine tri_nil ?_
    refine au_hin ?_ (hl := by simp; omega)
    refine au_take 8 rfl rfl rfl ?_ (hl := by simp; omega)
    refine au_take 9 rfl rfl rfl ?_ (hl := by simp; omega)
    refine au_hdone ?_
    (repeat (first | refine au_pure ?_ | refine au_pass ?_ | refine au_box (fun _ => ?_) | refine au_alloc (fun _ => ?_) | refine au_store ?_ | refine au_make rfl rfl (fun _ => ?_) | refine au_lit rfl rfl rfl (fun _ => ?_) | refine au_append rfl rfl rfl rfl (fun _ => au_norm ?_) | refine au_storeE rfl rfl rfl rfl ?_ | refine tri_seq ?_ | refine tri_then ?_ | refine tri_region ?_ | refine tri_nil ?_ | refine tri_skip ?_ | refine tri_ret ?_ | refine tri_exit ?_ | refine tri_thenr ?_ | refine tri_thene ?_ | refine tri_blkn ?_ | refine tri_blkr ?_ | refine tri_blke ?_ | refine tri_blko (by rfl) ?_ | refine tri_if_t (by rfl) ?_ | refine tri_if_f (by rfl) ?_ | fail))
    rw [show (j : Int) + ((min j (n - j) : Nat) : Int) = ((j + min j (n - j) : Nat) : Int) by omega]
    exact tri_nx1 (j + min j (n - j)) (by omega) ⟨by omega, by omega⟩ (by repeat (first | exact trivial | refine ⟨rfl, ?_⟩)) (fun w h => h.sub (by repeat (first | exact List.Sublist.refl _ | assumption | apply List.Sublist.cons_cons | apply List.Sublist.cons)))
  · have hjn : j = n := by omega
    subst hjn
    rw [Nat.sub_self]
    (repeat (first | refine au_pure ?_ | refine au_pass ?_ | refine au_box (fun _ => ?_) | refine au_alloc (fun _ => ?_) | refine au_store ?_ | refine au_make rfl rfl (fun _ => ?_) | refine au_lit rfl rfl rfl (fun _ => ?_) | refine au_append rfl rfl rfl rfl (fun _ => au_norm ?_) | refine au_storeE rfl rfl rfl rfl ?_ | refine tri_seq ?_ | refine tri_then ?_ | refine tri_region ?_ | refine tri_nil ?_ | refine tri_skip ?_ | refine tri_ret ?_ | refine tri_exit ?_ | refine tri_thenr ?_ | refine tri_thene ?_ | refine tri_blkn ?_ | refine tri_blkr ?_ | refine tri_blke ?_ | refine tri_blko (by rfl) ?_ | refine tri_if_t (by rfl) ?_ | refine tri_if_f (by rfl) ?_ | fail))
    refine au_done1 rfl ?_
    intro w hw
    refine ⟨r, rfl, ?_⟩
    rw [List.replicate_zero, List.append_nil] at hw
    exact hw.sub (by repeat (first | exact List.Sublist.refl _ | assumption | apply List.Sublist.cons_cons | apply List.Sublist.cons))
end Go.Proofs.Ytinnkclemjognaa
