/- The walks of compaction: the kinds of cells. No conditions. -/
import Derived.Test.YtgajefdhmpgecaaCompLaws2
import Derived.Test.YtgajefdhmpgecaaArr
import Derived.Tactics
set_option linter.unusedSimpArgs false
set_option linter.unusedVariables false
namespace Go.Proofs.Ytgajefdhmpgecaa
open Go Go.RowKit
attribute [local irreducible] Code.wp wpList bodyPost Exit.then Exit.inBlock Calls wpQuiet Tri TriQ
instance : ArTy Try.prog 44 3 3 1 := ⟨Try.underlying44, Try.sizeOf3⟩
theorem eq3 (a b c a' b' c' : Int) (w : World) : (Op.equalIn 10000 44 (.agg #[.int .i64 a, .int .i64 b, .int .i64 c]) (.agg #[.int .i64 a', .int .i64 b', .int .i64 c'])).run Try.prog w = .ok (a == a' && (b == b' && c == c')) w := by
  have u3 := Try.underlying3
  have a3 := Try.isAgg3
  have z3 := Try.sizeOf3
  rw [show (10000 : Nat) = 9999 + 1 from rfl, Op.equalIn]
  simp only [Sem.run_bind, run_underlying Try.underlying44, Result.andThen_ok]
  simp only [Std.Legacy.Range.forIn_eq_forIn_range', Std.Legacy.Range.size, Nat.sub_zero, Nat.add_sub_cancel, Nat.div_one, List.range'_succ, List.range'_zero, List.forIn_cons, List.forIn_nil]
  go_simp
  by_cases h1 : a = a' <;> by_cases h2 : b = b' <;> by_cases h3 : c = c' <;> simp [h1, h2, h3]
instance (a b c a' b' c' : Int) : Neq_ Try.prog 44 (.agg #[.int .i64 a, .int .i64 b, .int .i64 c]) (.agg #[.int .i64 a', .int .i64 b', .int .i64 c']) (!(a == a' && (b == b' && c == c'))) := ⟨fun w p q => by simp [go_sem], fun w => by
  rw [run_neq_struct, eq3]; rfl⟩
instance (a b c a' b' c' : Int) : Eq_ Try.prog 44 (.agg #[.int .i64 a, .int .i64 b, .int .i64 c]) (.agg #[.int .i64 a', .int .i64 b', .int .i64 c']) (a == a' && (b == b' && c == c')) := ⟨fun w p q => by simp [go_sem], fun w => by
  rw [run_eql_struct, eq3]; rfl⟩
def knd (l : List Int) (k : Int) : Nat := l.countP fun c => decide (c = k)
theorem knd_step {l : List Int} {i : Nat} {k : Int} (hi : i < l.length) : knd (l.take (i + 1)) k = knd (l.take i) k + if l.getD i default = k then 1 else 0 := by
  unfold knd
  rw [count_step _ hi]
  simp only [decide_eq_true_eq]
theorem knd_le (l : List Int) (i : Nat) (k : Int) : knd (l.take i) k ≤ i := count_le _ _ _
def kV (x : Int × Int × Int) : Value := .agg #[.int .i64 x.1, .int .i64 x.2.1, .int .i64 x.2.2]
section
variable (w0 : World) (cs : List Chunk)
theorem kinds_c {v : Value} {l : List Int} (hR : RdH (Hp w0 cs) v l) (hlen : l.length ≤ 9223372036854775807) :
    Cal Try.prog 30 [v] (Hp w0 cs) (fun x : {x : Int × Int × Int // l.any badC = false → x = (((knd l 0 : Nat) : Int), ((knd l 1 : Nat) : Int), ((knd l 2 : Nat) : Int))} => .tuple #[kV x.1, .bool (!l.any badC)]) (fun _ => Hp w0 cs) := by
  refine cal_of_tri Try.func30 rfl Try.ntmps30 rfl ?_
  (repeat (first | refine au_pure ?_ | refine au_pass ?_ | refine au_box (fun _ => ?_) | refine au_alloc (fun _ => ?_) | refine au_store ?_ | refine au_make rfl rfl (fun _ => ?_) | refine au_lit rfl rfl rfl (fun _ => ?_) | refine au_append rfl rfl rfl rfl (fun _ => au_norm ?_) | refine au_storeE rfl rfl rfl rfl ?_ | refine tri_seq ?_ | refine tri_then ?_ | refine tri_region ?_ | refine tri_nil ?_ | refine tri_skip ?_ | refine tri_ret ?_ | refine tri_exit ?_ | refine tri_thenr ?_ | refine tri_thene ?_ | refine tri_blkn ?_ | refine tri_blkr ?_ | refine tri_blke ?_ | refine tri_blko (by rfl) ?_ | refine tri_if_t (by rfl) ?_ | refine tri_if_f (by rfl) ?_ | fail))
  rename_i g g'
  refine tri_block ?_
  refine tri_loop1 (fun i => i ≤ l.length ∧ ∀ j, j < i → badC (l.getD j default) = false) (fun i => [(2, .pointer (some ⟨g, 0, none⟩)), (4, .pointer (some ⟨g', 0, none⟩)), (7, v), (8, .int .i64 (l.length : Int)), (9, .int .i64 (i : Int))])
    (fun i => Hp w0 (blkC g' 44 [.int .i64 (knd (l.take i) 0 : Nat), .int .i64 (knd (l.take i) 1 : Nat), .int .i64 (knd (l.take i) 2 : Nat)] :: blkC g 44 [.int .i64 0, .int .i64 0, .int .i64 0] :: cs)) (fun i => l.length - i) 0 ⟨by omega, fun j hj => by omega⟩ (by repeat (first | exact trivial | refine ⟨rfl, ?_⟩)) (fun _ h => h) ?_
  rintro i ⟨hi, hp⟩
  have h0 := knd_le l i 0
  have h1 := knd_le l i 1
  have h2 := knd_le l i 2
  (repeat' (first | refine au_pure ?_ | refine au_pass ?_ | refine au_box (fun _ => ?_) | refine au_alloc (fun _ => ?_) | refine au_store ?_ | refine au_make rfl rfl (fun _ => ?_) | refine au_lit rfl rfl rfl (fun _ => ?_) | refine au_append rfl rfl rfl rfl (fun _ => au_norm ?_) | refine au_storeE rfl rfl rfl rfl ?_ | refine tri_seq ?_ | refine tri_then ?_ | refine tri_region ?_ | refine tri_nil ?_ | refine tri_skip ?_ | refine tri_ret ?_ | refine tri_exit ?_ | refine tri_thenr ?_ | refine tri_thene ?_ | refine tri_blkn ?_ | refine tri_blkr ?_ | refine tri_blke ?_ | refine tri_blko (by rfl) ?_ | refine tri_if_t (by rfl) ?_ | refine tri_if_f (by rfl) ?_ | ((first | refine tri_cond (by rfl) (fun hc => ?_) (fun hc => ?_) | refine tri_gsplit (by rfl) (by rfl) (by (fail_if_success exact (rfl : _ = some (Value.bool true))); (fail_if_success exact (rfl : _ = some (Value.bool false))); rfl) (fun hc => ?_) (fun hc => ?_)) <;> (try simp only [decide_eq_true_eq, decide_eq_false_iff_not, beq_iff_eq, bne_iff_ne, ne_eq, Bool.not_eq_true', Bool.not_eq_false', beq_eq_false_iff_ne, bne_eq_false_iff_eq, Int.not_lt, Int.not_le, gt_iff_lt, ge_iff_le, Bool.and_eq_true, Bool.or_eq_true, Bool.and_eq_false_iff, Bool.or_eq_false_iff, Decidable.not_not, not_true_eq_false, not_false_eq_true, and_true, true_and, or_false, false_or, or_true, true_or, and_false, false_and, eq_self, Bool.true_eq_false, Bool.false_eq_true] at hc) <;> (try (exfalso; omega))) | fail))
  · have e0 := knd_step (k := 0) (show i < l.length by omega)
    have e1 := knd_step (k := 1) (show i < l.length by omega)
    have e2 := knd_step (k := 2) (show i < l.length by omega)
    refine tri_block ?_
    (repeat (first | refine au_pure ?_ | refine au_pass ?_ | refine au_box (fun _ => ?_) | refine au_alloc (fun _ => ?_) | refine au_store ?_ | refine au_make rfl rfl (fun _ => ?_) | refine au_lit rfl rfl rfl (fun _ => ?_) | refine au_append rfl rfl rfl rfl (fun _ => au_norm ?_) | refine au_storeE rfl rfl rfl rfl ?_ | refine tri_seq ?_ | refine tri_then ?_ | refine tri_region ?_ | refine tri_nil ?_ | refine tri_skip ?_ | refine tri_ret ?_ | refine tri_exit ?_ | refine tri_thenr ?_ | refine tri_thene ?_ | refine tri_blkn ?_ | refine tri_blkr ?_ | refine tri_blke ?_ | refine tri_blko (by rfl) ?_ | refine tri_if_t (by rfl) ?_ | refine tri_if_f (by rfl) ?_ | fail))
    refine tri_block ?_
    (repeat' (first | refine au_pure ?_ | refine au_pass ?_ | refine au_box (fun _ => ?_) | refine au_alloc (fun _ => ?_) | refine au_store ?_ | refine au_make rfl rfl (fun _ => ?_) | refine au_lit rfl rfl rfl (fun _ => ?_) | refine au_append rfl rfl rfl rfl (fun _ => au_norm ?_) | refine au_storeE rfl rfl rfl rfl ?_ | refine tri_seq ?_ | refine tri_then ?_ | refine tri_region ?_ | refine tri_nil ?_ | refine tri_skip ?_ | refine tri_ret ?_ | refine tri_exit ?_ | refine tri_thenr ?_ | refine tri_thene ?_ | refine tri_blkn ?_ | refine tri_blkr ?_ | refine tri_blke ?_ | refine tri_blko (by rfl) ?_ | refine tri_if_t (by rfl) ?_ | refine tri_if_f (by rfl) ?_ | ((first | refine tri_cond (by rfl) (fun hc => ?_) (fun hc => ?_) | refine tri_gsplit (by rfl) (by rfl) (by (fail_if_success exact (rfl : _ = some (Value.bool true))); (fail_if_success exact (rfl : _ = some (Value.bool false))); rfl) (fun hc => ?_) (fun hc => ?_)) <;> (try simp only [decide_eq_true_eq, decide_eq_false_iff_not, beq_iff_eq, bne_iff_ne, ne_eq, Bool.not_eq_true', Bool.not_eq_false', beq_eq_false_iff_ne, bne_eq_false_iff_eq, Int.not_lt, Int.not_le, gt_iff_lt, ge_iff_le, Bool.and_eq_true, Bool.or_eq_true, Bool.and_eq_false_iff, Bool.or_eq_false_iff, Decidable.not_not, not_true_eq_false, not_false_eq_true, and_true, true_and, or_false, false_or, or_true, true_or, and_false, false_and, eq_self, Bool.true_eq_false, Bool.false_eq_true] at hc) <;> (try (exfalso; omega))) | refine au_pure (hy := yl_idxA rfl rfl (by first | exact ix_nat rfl | exact ix_int rfl (by omega)) (by decide)) ?_ | fail))
    · rw [if_pos (by assumption)] at e0
      rw [if_neg (by omega)] at e1 e2
      refine tri_nx1 (i + 1) (by omega) ⟨by omega, all_step hp (decide_eq_false (by omega))⟩ (by repeat (first | exact trivial | refine ⟨rfl, ?_⟩)) (fun _ h => by rw [e0, e1, e2]; exact h.sub (by repeat (first | exact List.Sublist.refl _ | assumption | apply List.Sublist.cons_cons | apply List.Sublist.cons)))
    · rw [if_pos (by assumption)] at e1
      rw [if_neg (by omega)] at e0 e2
      refine tri_nx1 (i + 1) (by omega) ⟨by omega, all_step hp (decide_eq_false (by omega))⟩ (by repeat (first | exact trivial | refine ⟨rfl, ?_⟩)) (fun _ h => by rw [e0, e1, e2]; exact h.sub (by repeat (first | exact List.Sublist.refl _ | assumption | apply List.Sublist.cons_cons | apply List.Sublist.cons)))
    · rw [if_pos (by assumption)] at e2
      rw [if_neg (by omega)] at e0 e1
      refine tri_nx1 (i + 1) (by omega) ⟨by omega, all_step hp (decide_eq_false (by omega))⟩ (by repeat (first | exact trivial | refine ⟨rfl, ?_⟩)) (fun _ h => by rw [e0, e1, e2]; exact h.sub (by repeat (first | exact List.Sublist.refl _ | assumption | apply List.Sublist.cons_cons | apply List.Sublist.cons)))
    · have hb : l.any badC = true := any_some (show i < l.length by omega) (decide_eq_true (by omega))
      refine au_done2 rfl ?_
      intro w hw
      exact ⟨⟨(((knd (l.take i) 0 : Nat) : Int), ((knd (l.take i) 1 : Nat) : Int), ((knd (l.take i) 2 : Nat) : Int)), fun h => absurd (hb.symm.trans h) (by decide)⟩, by simp only [hb]; rfl, hw.sub (by repeat (first | exact List.Sublist.refl _ | assumption | apply List.Sublist.cons_cons | apply List.Sublist.cons))⟩
  · have hb : l.any badC = false := getD_any.2 fun j hj => hp j (by omega)
    have hil : i = l.length := by omega
    subst hil
    rw [List.take_length]
    (repeat (first | refine au_pure ?_ | refine au_pass ?_ | refine au_box (fun _ => ?_) | refine au_alloc (fun _ => ?_) | refine au_store ?_ | refine au_make rfl rfl (fun _ => ?_) | refine au_lit rfl rfl rfl (fun _ => ?_) | refine au_append rfl rfl rfl rfl (fun _ => au_norm ?_) | refine au_storeE rfl rfl rfl rfl ?_ | refine tri_seq ?_ | refine tri_then ?_ | refine tri_region ?_ | refine tri_nil ?_ | refine tri_skip ?_ | refine tri_ret ?_ | refine tri_exit ?_ | refine tri_thenr ?_ | refine tri_thene ?_ | refine tri_blkn ?_ | refine tri_blkr ?_ | refine tri_blke ?_ | refine tri_blko (by rfl) ?_ | refine tri_if_t (by rfl) ?_ | refine tri_if_f (by rfl) ?_ | fail))
    refine au_done2 rfl ?_
    intro w hw
    exact ⟨⟨_, fun _ => rfl⟩, by rw [hb]; rfl, hw.sub (by repeat (first | exact List.Sublist.refl _ | assumption | apply List.Sublist.cons_cons | apply List.Sublist.cons))⟩
end
end Go.Proofs.Ytgajefdhmpgecaa
