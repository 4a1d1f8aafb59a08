/- The walks of compaction: Clear of the reference. No conditions. -/
import Derived.Test.YtgajefdhmpgecaaCompClear
set_option linter.unusedSimpArgs false
set_option linter.unusedVariables false
namespace Go.Proofs.Ytgajefdhmpgecaa
open Go Go.RowKit
attribute [local irreducible] Code.wp wpList bodyPost Exit.then Exit.inBlock Calls wpQuiet Tri TriQ
/-- How many free cells outside of a range there are from t on. -/
def frF (l : List Int) (a b : Nat) : Nat → Nat → Nat
  | 0, _ => 0
  | f + 1, t => (if freeAt l a b t then 1 else 0) + frF l a b f (t + 1)
def frM (l : List Int) (a b t : Nat) : Nat := frF l a b (l.length - t) t
theorem fr_step {l : List Int} {a b t : Nat} (ht : t < l.length) : frM l a b t = (if freeAt l a b t then 1 else 0) + frM l a b (t + 1) := by
  unfold frM
  rw [show l.length - t = (l.length - (t + 1)) + 1 by omega, frF]
theorem fr_end {l : List Int} {a b t : Nat} (ht : l.length ≤ t) : frM l a b t = 0 := by
  unfold frM
  rw [show l.length - t = 0 by omega]; rfl
theorem fr_seek {l : List Int} {a b : Nat} : ∀ k t, l.length - t = k → t ≤ l.length → frM l a b t = if seekM l a b t < l.length then 1 + frM l a b (seekM l a b t + 1) else 0
  | 0, t, h, ht => by rw [fr_end (by omega), seek_end (by omega), if_neg (by omega)]
  | k + 1, t, h, ht => by
    by_cases hf : freeAt l a b t
    · rw [seek_at hf, fr_step (by omega), if_pos hf, if_pos (by omega)]
    · rw [seek_step (by omega) hf, fr_step (by omega), if_neg hf, fr_seek k (t + 1) (by omega) (by omega)]; omega
theorem cnt_front {l : List Int} {i y : Nat} {k : Int} (h : i < y) (hy : y ≤ l.length) : cntM l i y k = (if l.getD i default = k then 1 else 0) + cntM l (i + 1) y k := by
  unfold cntM
  have e : (l.take y).drop i = l.getD i default :: (l.take y).drop (i + 1) := by
    have hl : i < (l.take y).length := by rw [List.length_take]; omega
    rw [List.drop_eq_getElem_cons hl, getD_get (show i < l.length by omega), List.getElem_take]
  rw [e, List.countP_cons]
  simp only [decide_eq_true_eq]
  omega
theorem clr_some {l : List Int} {a b : Nat} : ∀ k i t, i + k ≤ l.length → t ≤ l.length → ((clrM l a b k i t).isSome = true ↔ cntM l i (i + k) 1 ≤ frM l a b t)
  | 0, i, t, h, ht => by
    rw [clrM, cnt_nil (by omega)]
    simp
  | k + 1, i, t, h, ht => by
    have hs := seek_spec (l := l) (a := a) (b := b) ht
    rw [clrM, cnt_front (show i < i + (k + 1) by omega) h]
    by_cases hm : l.getD i default = 1
    · rw [if_pos hm, if_pos hm, fr_seek _ t rfl ht]
      by_cases hj : seekM l a b t < l.length
      · rw [if_pos hj, if_pos hj, Option.isSome_map, clr_some k (i + 1) _ (by omega) (by omega), show i + 1 + k = i + (k + 1) by omega]
        omega
      · rw [if_neg hj, if_neg hj]
        simp
    · rw [if_neg hm, if_neg hm, clr_some k (i + 1) t (by omega) ht, show i + 1 + k = i + (k + 1) by omega]
      omega
theorem fr_cnt {l : List Int} {a b : Nat} (hab : a ≤ b) (hb : b ≤ l.length) : ∀ k t, l.length - t = k → t ≤ l.length → frM l a b t = cntM l t a 0 + cntM l (max t b) l.length 0
  | 0, t, h, ht => by rw [fr_end (by omega), cnt_nil (by omega), cnt_nil (by omega)]
  | k + 1, t, h, ht => by
    rw [fr_step (by omega), fr_cnt hab hb k (t + 1) (by omega) (by omega)]
    by_cases h1 : t < a
    · have e1 : max t b = b := by omega
      have e2 : max (t + 1) b = b := by omega
      rw [e1, e2, cnt_front h1 (by omega)]
      have : freeAt l a b t ↔ l.getD t default = 0 := ⟨fun h => h.1, fun h => ⟨h, by omega⟩⟩
      simp only [this]; omega
    · rw [cnt_nil (show a ≤ t by omega), cnt_nil (show a ≤ t + 1 by omega)]
      by_cases h2 : t < b
      · have e1 : max t b = b := by omega
        have e2 : max (t + 1) b = b := by omega
        rw [e1, e2, if_neg (fun h => h.2 ⟨by omega, h2⟩)]; omega
      · have e1 : max t b = t := by omega
        have e2 : max (t + 1) b = t + 1 := by omega
        have : freeAt l a b t ↔ l.getD t default = 0 := ⟨fun h => h.1, fun h => ⟨h, by omega⟩⟩
        rw [e1, e2, cnt_front (show t < l.length by omega) (Nat.le_refl _)]
        simp only [this]; omega
theorem fr_zero {l : List Int} {a b : Nat} (hab : a ≤ b) (hb : b ≤ l.length) : frM l a b 0 = cntM l 0 a 0 + cntM l b l.length 0 := by
  rw [fr_cnt hab hb _ 0 rfl (by omega), show max 0 b = b by omega]
section
variable (w0 : World) (cs : List Chunk)
set_option maxHeartbeats 2000000 in
theorem rclear_c {v : Value} {l : List Int} (s c : Int) (hR : RdH (Hp w0 cs) v l) (hlen : l.length ≤ 9223372036854775807) (hI : -9223372036854775808 ≤ s ∧ s ≤ 9223372036854775807) :
    Cal Try.prog 29 [v, .int .i64 s, .int .i64 c] (Hp w0 cs) (fun r : Row => .tuple #[r.v, .int .i64 (clearE l s c)]) (fun r => Hp w0 (movS r (clearL l s c) :: cs)) := by
  refine cal_of_tri Try.func29 rfl Try.ntmps29 rfl ?_
  have bad : ∀ n, clearE l s c = n → ¬ n = 0 → ∀ w, HpM [] w0 (slC (Row.nil w0.heap.size) 26 ([] : List Mv) :: cs) w → ∃ r : Row, Ending.returned (.tuple #[.slice none 0 0, .int .i64 n]) = .returned (.tuple #[r.v, .int .i64 (clearE l s c)]) ∧ Hp w0 (movS r (clearL l s c) :: cs) w := fun n h h0 w hw =>
    ⟨Row.nil w0.heap.size, by rw [h]; rfl, by rw [clearL, if_neg (by rw [h]; exact h0)]; exact hw⟩
  (repeat (first | refine au_pure ?_ | refine au_pass ?_ | refine au_box (fun _ => ?_) | refine au_alloc (fun _ => ?_) | refine au_store ?_ | refine au_make rfl rfl (fun _ => ?_) | refine au_lit rfl rfl rfl (fun _ => ?_) | refine au_append rfl rfl rfl rfl (fun _ => au_norm ?_) | refine au_storeE rfl rfl rfl rfl ?_ | refine tri_seq ?_ | refine tri_then ?_ | refine tri_region ?_ | refine tri_nil ?_ | refine tri_skip ?_ | refine tri_ret ?_ | refine tri_exit ?_ | refine tri_thenr ?_ | refine tri_thene ?_ | refine tri_blkn ?_ | refine tri_blkr ?_ | refine tri_blke ?_ | refine tri_blko (by rfl) ?_ | refine tri_if_t (by rfl) ?_ | refine tri_if_f (by rfl) ?_ | fail))
  refine au_callC rfl rfl rfl rfl rfl (rcheck_c w0 _ (l := l) (by repeat (first | assumption | exact rd_chunk (by first | (apply has_at; (repeat (first | exact at0 | apply atS)); done) | (repeat (first | assumption | apply has_cons))) | apply RdH.cons | refine RdH.cut ?_ rfl (by omega) (by omega))) hlen) (fun _ => ?_)
  (repeat' (first | refine au_pure ?_ | refine au_pass ?_ | refine au_box (fun _ => ?_) | refine au_alloc (fun _ => ?_) | refine au_store ?_ | refine au_make rfl rfl (fun _ => ?_) | refine au_lit rfl rfl rfl (fun _ => ?_) | refine au_append rfl rfl rfl rfl (fun _ => au_norm ?_) | refine au_storeE rfl rfl rfl rfl ?_ | refine tri_seq ?_ | refine tri_then ?_ | refine tri_region ?_ | refine tri_nil ?_ | refine tri_skip ?_ | refine tri_ret ?_ | refine tri_exit ?_ | refine tri_thenr ?_ | refine tri_thene ?_ | refine tri_blkn ?_ | refine tri_blkr ?_ | refine tri_blke ?_ | refine tri_blko (by rfl) ?_ | refine tri_if_t (by rfl) ?_ | refine tri_if_f (by rfl) ?_ | ((first | refine tri_cond (by rfl) (fun hc => ?_) (fun hc => ?_) | refine tri_gsplit (by rfl) (by rfl) (by (fail_if_success exact (rfl : _ = some (Value.bool true))); (fail_if_success exact (rfl : _ = some (Value.bool false))); rfl) (fun hc => ?_) (fun hc => ?_)) <;> (try simp only [decide_eq_true_eq, decide_eq_false_iff_not, beq_iff_eq, bne_iff_ne, ne_eq, Bool.not_eq_true', Bool.not_eq_false', beq_eq_false_iff_ne, bne_eq_false_iff_eq, Int.not_lt, Int.not_le, gt_iff_lt, ge_iff_le, Bool.and_eq_true, Bool.or_eq_true, Bool.and_eq_false_iff, Bool.or_eq_false_iff, Decidable.not_not, not_true_eq_false, not_false_eq_true, and_true, true_and, or_false, false_or, or_true, true_or, and_false, false_and, eq_self, Bool.true_eq_false, Bool.false_eq_true] at hc) <;> (try (exfalso; omega))) | fail))
  · refine tri_nilrow Mv 26 ?_
    refine au_done2 rfl ?_
    exact bad _ (by rw [clearE, if_neg hc]) hc
  iterate 4
    · have hle := checkM_le (by assumption : checkM l = 0)
      first
        | (refine tri_nilrow Mv 26 ?_
           refine au_done2 rfl ?_
           exact bad _ (by rw [clearE, if_pos (by assumption), if_neg (by unfold rngOk; omega)]) (by decide))
        | skip
  have h0 : checkM l = 0 := by assumption
  have hle := checkM_le h0
  obtain ⟨a, rfl⟩ : ∃ a : Nat, s = (a : Int) := ⟨s.toNat, by omega⟩
  obtain ⟨n, rfl⟩ : ∃ n : Nat, c = (n : Int) := ⟨c.toNat, by omega⟩
  have hrg : rngOk l a n := ⟨by omega, by omega, by omega, by omega⟩
  have hE : clearE l a n = if 0 < cntM l a (a + n) 2 then 11 else if (clrM l a (a + n) n a 0).isSome = true then 0 else 8 := by
    rw [clearE, if_pos h0, if_pos hrg]; rfl
  have hL : clearL l a n = if clearE l a n = 0 then (clrM l a (a + n) n a 0).getD [] else [] := rfl
  have hz := fr_zero (l := l) (show a ≤ a + n by omega) (by omega)
  have hsome := clr_some (l := l) (a := a) (b := a + n) n a 0 (by omega) (by omega)
  have hc1 := cnt_le l 0 a 0
  have hc2 := cnt_le l (a + n) l.length 0
  refine au_callC rfl rfl rfl rfl rfl (count_c w0 _ (l := l) a (a + n) 2 (by omega) (by omega) (by repeat (first | assumption | exact rd_chunk (by first | (apply has_at; (repeat (first | exact at0 | apply atS)); done) | (repeat (first | assumption | apply has_cons))) | apply RdH.cons | refine RdH.cut ?_ rfl (by omega) (by omega))) (by omega)) (fun _ => ?_)
  (repeat' (first | refine au_pure ?_ | refine au_pass ?_ | refine au_box (fun _ => ?_) | refine au_alloc (fun _ => ?_) | refine au_store ?_ | refine au_make rfl rfl (fun _ => ?_) | refine au_lit rfl rfl rfl (fun _ => ?_) | refine au_append rfl rfl rfl rfl (fun _ => au_norm ?_) | refine au_storeE rfl rfl rfl rfl ?_ | refine tri_seq ?_ | refine tri_then ?_ | refine tri_region ?_ | refine tri_nil ?_ | refine tri_skip ?_ | refine tri_ret ?_ | refine tri_exit ?_ | refine tri_thenr ?_ | refine tri_thene ?_ | refine tri_blkn ?_ | refine tri_blkr ?_ | refine tri_blke ?_ | refine tri_blko (by rfl) ?_ | refine tri_if_t (by rfl) ?_ | refine tri_if_f (by rfl) ?_ | ((first | refine tri_cond (by rfl) (fun hc => ?_) (fun hc => ?_) | refine tri_gsplit (by rfl) (by rfl) (by (fail_if_success exact (rfl : _ = some (Value.bool true))); (fail_if_success exact (rfl : _ = some (Value.bool false))); rfl) (fun hc => ?_) (fun hc => ?_)) <;> (try simp only [decide_eq_true_eq, decide_eq_false_iff_not, beq_iff_eq, bne_iff_ne, ne_eq, Bool.not_eq_true', Bool.not_eq_false', beq_eq_false_iff_ne, bne_eq_false_iff_eq, Int.not_lt, Int.not_le, gt_iff_lt, ge_iff_le, Bool.and_eq_true, Bool.or_eq_true, Bool.and_eq_false_iff, Bool.or_eq_false_iff, Decidable.not_not, not_true_eq_false, not_false_eq_true, and_true, true_and, or_false, false_or, or_true, true_or, and_false, false_and, eq_self, Bool.true_eq_false, Bool.false_eq_true] at hc) <;> (try (exfalso; omega))) | fail))
  · refine tri_nilrow Mv 26 ?_
    refine au_done2 rfl ?_
    exact bad _ (by rw [hE, if_pos (by omega)]) (by decide)
  · rw [if_neg (by omega)] at hE
    refine au_callC rfl rfl rfl rfl rfl (count_c w0 _ (l := l) 0 a 0 (by omega) (by omega) (by repeat (first | assumption | exact rd_chunk (by first | (apply has_at; (repeat (first | exact at0 | apply atS)); done) | (repeat (first | assumption | apply has_cons))) | apply RdH.cons | refine RdH.cut ?_ rfl (by omega) (by omega))) (by omega)) (fun _ => ?_)
    (repeat (first | refine au_pure ?_ | refine au_pass ?_ | refine au_box (fun _ => ?_) | refine au_alloc (fun _ => ?_) | refine au_store ?_ | refine au_make rfl rfl (fun _ => ?_) | refine au_lit rfl rfl rfl (fun _ => ?_) | refine au_append rfl rfl rfl rfl (fun _ => au_norm ?_) | refine au_storeE rfl rfl rfl rfl ?_ | refine tri_seq ?_ | refine tri_then ?_ | refine tri_region ?_ | refine tri_nil ?_ | refine tri_skip ?_ | refine tri_ret ?_ | refine tri_exit ?_ | refine tri_thenr ?_ | refine tri_thene ?_ | refine tri_blkn ?_ | refine tri_blkr ?_ | refine tri_blke ?_ | refine tri_blko (by rfl) ?_ | refine tri_if_t (by rfl) ?_ | refine tri_if_f (by rfl) ?_ | fail))
    refine au_callC rfl rfl rfl rfl rfl (count_c w0 _ (l := l) (a + n) l.length 0 (by omega) (by omega) (by repeat (first | assumption | exact rd_chunk (by first | (apply has_at; (repeat (first | exact at0 | apply atS)); done) | (repeat (first | assumption | apply has_cons))) | apply RdH.cons | refine RdH.cut ?_ rfl (by omega) (by omega))) (by omega)) (fun _ => ?_)
    (repeat (first | refine au_pure ?_ | refine au_pass ?_ | refine au_box (fun _ => ?_) | refine au_alloc (fun _ => ?_) | refine au_store ?_ | refine au_make rfl rfl (fun _ => ?_) | refine au_lit rfl rfl rfl (fun _ => ?_) | refine au_append rfl rfl rfl rfl (fun _ => au_norm ?_) | refine au_storeE rfl rfl rfl rfl ?_ | refine tri_seq ?_ | refine tri_then ?_ | refine tri_region ?_ | refine tri_nil ?_ | refine tri_skip ?_ | refine tri_ret ?_ | refine tri_exit ?_ | refine tri_thenr ?_ | refine tri_thene ?_ | refine tri_blkn ?_ | refine tri_blkr ?_ | refine tri_blke ?_ | refine tri_blko (by rfl) ?_ | refine tri_if_t (by rfl) ?_ | refine tri_if_f (by rfl) ?_ | fail))
    refine au_callC rfl rfl rfl rfl rfl (count_c w0 _ (l := l) a (a + n) 1 (by omega) (by omega) (by repeat (first | assumption | exact rd_chunk (by first | (apply has_at; (repeat (first | exact at0 | apply atS)); done) | (repeat (first | assumption | apply has_cons))) | apply RdH.cons | refine RdH.cut ?_ rfl (by omega) (by omega))) (by omega)) (fun _ => ?_)
    (repeat' (first | refine au_pure ?_ | refine au_pass ?_ | refine au_box (fun _ => ?_) | refine au_alloc (fun _ => ?_) | refine au_store ?_ | refine au_make rfl rfl (fun _ => ?_) | refine au_lit rfl rfl rfl (fun _ => ?_) | refine au_append rfl rfl rfl rfl (fun _ => au_norm ?_) | refine au_storeE rfl rfl rfl rfl ?_ | refine tri_seq ?_ | refine tri_then ?_ | refine tri_region ?_ | refine tri_nil ?_ | refine tri_skip ?_ | refine tri_ret ?_ | refine tri_exit ?_ | refine tri_thenr ?_ | refine tri_thene ?_ | refine tri_blkn ?_ | refine tri_blkr ?_ | refine tri_blke ?_ | refine tri_blko (by rfl) ?_ | refine tri_if_t (by rfl) ?_ | refine tri_if_f (by rfl) ?_ | ((first | refine tri_cond (by rfl) (fun hc => ?_) (fun hc => ?_) | refine tri_gsplit (by rfl) (by rfl) (by (fail_if_success exact (rfl : _ = some (Value.bool true))); (fail_if_success exact (rfl : _ = some (Value.bool false))); rfl) (fun hc => ?_) (fun hc => ?_)) <;> (try simp only [decide_eq_true_eq, decide_eq_false_iff_not, beq_iff_eq, bne_iff_ne, ne_eq, Bool.not_eq_true', Bool.not_eq_false', beq_eq_false_iff_ne, bne_eq_false_iff_eq, Int.not_lt, Int.not_le, gt_iff_lt, ge_iff_le, Bool.and_eq_true, Bool.or_eq_true, Bool.and_eq_false_iff, Bool.or_eq_false_iff, Decidable.not_not, not_true_eq_false, not_false_eq_true, and_true, true_and, or_false, false_or, or_true, true_or, and_false, false_and, eq_self, Bool.true_eq_false, Bool.false_eq_true] at hc) <;> (try (exfalso; omega))) | fail))
    · have hno : ¬ (clrM l a (a + n) n a 0).isSome = true := fun h => by rw [hsome] at h; omega
      refine tri_nilrow Mv 26 ?_
      refine au_done2 rfl ?_
      exact bad _ (by rw [hE, if_neg hno]) (by decide)
    · have hyes : (clrM l a (a + n) n a 0).isSome = true := by rw [hsome]; omega
      have hE0 : clearE l a n = 0 := by rw [hE, if_pos hyes]
      refine tri_nilrow Mv 26 ?_
      refine tri_block ?_
      refine tri_loop5 (fun k i t ms r => i + k = a + n ∧ t ≤ l.length ∧ ms.length + k ≤ 4096 ∧ (clrM l a (a + n) k i t).isSome = true ∧ (clrM l a (a + n) k i t).map (fun x => ms ++ x) = clrM l a (a + n) n a 0) (fun k i t ms r => [(0, v), (1, .int .i64 (a : Int)), (9, .int .i64 ((a : Int) + (n : Int))), (11, r.v), (12, .int .i64 (t : Int)), (13, .int .i64 (i : Int))])
        (fun k i t ms r => Hp w0 (movS r ms :: cs)) (fun k i t ms r => k) n a 0 [] (Row.nil w0.heap.size) ⟨rfl, by omega, by simp only [List.length_nil]; omega, hyes, by simp⟩ (by repeat (first | exact trivial | refine ⟨rfl, ?_⟩)) (fun _ h => h) ?_
      rintro k i t ms r ⟨h1, h2, h3, hso, h4⟩
      cases k with
      | zero =>
        (repeat' (first | refine au_pure ?_ | refine au_pass ?_ | refine au_box (fun _ => ?_) | refine au_alloc (fun _ => ?_) | refine au_store ?_ | refine au_make rfl rfl (fun _ => ?_) | refine au_lit rfl rfl rfl (fun _ => ?_) | refine au_append rfl rfl rfl rfl (fun _ => au_norm ?_) | refine au_storeE rfl rfl rfl rfl ?_ | refine tri_seq ?_ | refine tri_then ?_ | refine tri_region ?_ | refine tri_nil ?_ | refine tri_skip ?_ | refine tri_ret ?_ | refine tri_exit ?_ | refine tri_thenr ?_ | refine tri_thene ?_ | refine tri_blkn ?_ | refine tri_blkr ?_ | refine tri_blke ?_ | refine tri_blko (by rfl) ?_ | refine tri_if_t (by rfl) ?_ | refine tri_if_f (by rfl) ?_ | ((first | refine tri_cond (by rfl) (fun hc => ?_) (fun hc => ?_) | refine tri_gsplit (by rfl) (by rfl) (by (fail_if_success exact (rfl : _ = some (Value.bool true))); (fail_if_success exact (rfl : _ = some (Value.bool false))); rfl) (fun hc => ?_) (fun hc => ?_)) <;> (try simp only [decide_eq_true_eq, decide_eq_false_iff_not, beq_iff_eq, bne_iff_ne, ne_eq, Bool.not_eq_true', Bool.not_eq_false', beq_eq_false_iff_ne, bne_eq_false_iff_eq, Int.not_lt, Int.not_le, gt_iff_lt, ge_iff_le, Bool.and_eq_true, Bool.or_eq_true, Bool.and_eq_false_iff, Bool.or_eq_false_iff, Decidable.not_not, not_true_eq_false, not_false_eq_true, and_true, true_and, or_false, false_or, or_true, true_or, and_false, false_and, eq_self, Bool.true_eq_false, Bool.false_eq_true] at hc) <;> (try (exfalso; omega))) | fail))
        refine au_done2 rfl ?_
        intro w hw
        have hs : clrM l a (a + n) n a 0 = some ms := by rw [← h4, clrM]; simp
        refine ⟨r, by rw [hE0], ?_⟩
        rw [hL, if_pos hE0, hs]; exact hw
      | succ k =>
      have hi : i < l.length := by omega
      (repeat (first | refine au_pure ?_ | refine au_pass ?_ | refine au_box (fun _ => ?_) | refine au_alloc (fun _ => ?_) | refine au_store ?_ | refine au_make rfl rfl (fun _ => ?_) | refine au_lit rfl rfl rfl (fun _ => ?_) | refine au_append rfl rfl rfl rfl (fun _ => au_norm ?_) | refine au_storeE rfl rfl rfl rfl ?_ | refine tri_seq ?_ | refine tri_then ?_ | refine tri_region ?_ | refine tri_nil ?_ | refine tri_skip ?_ | refine tri_ret ?_ | refine tri_exit ?_ | refine tri_thenr ?_ | refine tri_thene ?_ | refine tri_blkn ?_ | refine tri_blkr ?_ | refine tri_blke ?_ | refine tri_blko (by rfl) ?_ | refine tri_if_t (by rfl) ?_ | refine tri_if_f (by rfl) ?_ | fail))
      rw [decide_eq_true (show (i : Int) < (a : Int) + (n : Int) by omega)]
      (repeat (first | refine au_pure ?_ | refine au_pass ?_ | refine au_box (fun _ => ?_) | refine au_alloc (fun _ => ?_) | refine au_store ?_ | refine au_make rfl rfl (fun _ => ?_) | refine au_lit rfl rfl rfl (fun _ => ?_) | refine au_append rfl rfl rfl rfl (fun _ => au_norm ?_) | refine au_storeE rfl rfl rfl rfl ?_ | refine tri_seq ?_ | refine tri_then ?_ | refine tri_region ?_ | refine tri_nil ?_ | refine tri_skip ?_ | refine tri_ret ?_ | refine tri_exit ?_ | refine tri_thenr ?_ | refine tri_thene ?_ | refine tri_blkn ?_ | refine tri_blkr ?_ | refine tri_blke ?_ | refine tri_blko (by rfl) ?_ | refine tri_if_t (by rfl) ?_ | refine tri_if_f (by rfl) ?_ | fail))
      refine tri_block ?_
      by_cases hm : l.getD i default = 1
      · rw [clrM, if_pos hm] at h4 hso
        have hsk : seekM l a (a + n) t < l.length := Decidable.byContradiction fun h => by rw [if_neg h] at hso; cases hso
        rw [if_pos hsk] at h4 hso
        rw [Option.isSome_map] at hso
        (repeat (first | refine au_pure ?_ | refine au_pass ?_ | refine au_box (fun _ => ?_) | refine au_alloc (fun _ => ?_) | refine au_store ?_ | refine au_make rfl rfl (fun _ => ?_) | refine au_lit rfl rfl rfl (fun _ => ?_) | refine au_append rfl rfl rfl rfl (fun _ => au_norm ?_) | refine au_storeE rfl rfl rfl rfl ?_ | refine tri_seq ?_ | refine tri_then ?_ | refine tri_region ?_ | refine tri_nil ?_ | refine tri_skip ?_ | refine tri_ret ?_ | refine tri_exit ?_ | refine tri_thenr ?_ | refine tri_thene ?_ | refine tri_blkn ?_ | refine tri_blkr ?_ | refine tri_blke ?_ | refine tri_blko (by rfl) ?_ | refine tri_if_t (by rfl) ?_ | refine tri_if_f (by rfl) ?_ | fail))
        rw [hm]
        (repeat (first | refine au_pure ?_ | refine au_pass ?_ | refine au_box (fun _ => ?_) | refine au_alloc (fun _ => ?_) | refine au_store ?_ | refine au_make rfl rfl (fun _ => ?_) | refine au_lit rfl rfl rfl (fun _ => ?_) | refine au_append rfl rfl rfl rfl (fun _ => au_norm ?_) | refine au_storeE rfl rfl rfl rfl ?_ | refine tri_seq ?_ | refine tri_then ?_ | refine tri_region ?_ | refine tri_nil ?_ | refine tri_skip ?_ | refine tri_ret ?_ | refine tri_exit ?_ | refine tri_thenr ?_ | refine tri_thene ?_ | refine tri_blkn ?_ | refine tri_blkr ?_ | refine tri_blke ?_ | refine tri_blko (by rfl) ?_ | refine tri_if_t (by rfl) ?_ | refine tri_if_f (by rfl) ?_ | fail))
        refine tri_block ?_
        refine tri_loop1 (fun j => t ≤ j ∧ j ≤ seekM l a (a + n) t ∧ seekM l a (a + n) j = seekM l a (a + n) t) (fun j => [(0, v), (1, .int .i64 (a : Int)), (9, .int .i64 ((a : Int) + (n : Int))), (11, r.v), (12, .int .i64 (j : Int)), (13, .int .i64 (i : Int))]) (fun _ => Hp w0 (movS r ms :: cs)) (fun j => l.length - j) t ⟨by omega, (seek_spec h2).1, rfl⟩
          (by repeat (first | exact trivial | refine ⟨rfl, ?_⟩)) (fun _ h => h) ?_
        rintro j ⟨h5, h6, h7⟩
        (repeat' (first | refine au_pure ?_ | refine au_pass ?_ | refine au_box (fun _ => ?_) | refine au_alloc (fun _ => ?_) | refine au_store ?_ | refine au_make rfl rfl (fun _ => ?_) | refine au_lit rfl rfl rfl (fun _ => ?_) | refine au_append rfl rfl rfl rfl (fun _ => au_norm ?_) | refine au_storeE rfl rfl rfl rfl ?_ | refine tri_seq ?_ | refine tri_then ?_ | refine tri_region ?_ | refine tri_nil ?_ | refine tri_skip ?_ | refine tri_ret ?_ | refine tri_exit ?_ | refine tri_thenr ?_ | refine tri_thene ?_ | refine tri_blkn ?_ | refine tri_blkr ?_ | refine tri_blke ?_ | refine tri_blko (by rfl) ?_ | refine tri_if_t (by rfl) ?_ | refine tri_if_f (by rfl) ?_ | ((first | refine tri_cond (by rfl) (fun hc => ?_) (fun hc => ?_) | refine tri_gsplit (by rfl) (by rfl) (by (fail_if_success exact (rfl : _ = some (Value.bool true))); (fail_if_success exact (rfl : _ = some (Value.bool false))); rfl) (fun hc => ?_) (fun hc => ?_)) <;> (try simp only [decide_eq_true_eq, decide_eq_false_iff_not, beq_iff_eq, bne_iff_ne, ne_eq, Bool.not_eq_true', Bool.not_eq_false', beq_eq_false_iff_ne, bne_eq_false_iff_eq, Int.not_lt, Int.not_le, gt_iff_lt, ge_iff_le, Bool.and_eq_true, Bool.or_eq_true, Bool.and_eq_false_iff, Bool.or_eq_false_iff, Decidable.not_not, not_true_eq_false, not_false_eq_true, and_true, true_and, or_false, false_or, or_true, true_or, and_false, false_and, eq_self, Bool.true_eq_false, Bool.false_eq_true] at hc) <;> (try (exfalso; omega))) | fail))
        all_goals first
          | (have hnf : ¬ freeAt l a (a + n) j := by
               unfold freeAt
               omega
             have hsj := (seek_spec (l := l) (a := a) (b := a + n) (t := j + 1) (by omega)).1
             have hst := seek_step (l := l) (show j < l.length by omega) hnf
             refine tri_block ?_
             (repeat (first | refine au_pure ?_ | refine au_pass ?_ | refine au_box (fun _ => ?_) | refine au_alloc (fun _ => ?_) | refine au_store ?_ | refine au_make rfl rfl (fun _ => ?_) | refine au_lit rfl rfl rfl (fun _ => ?_) | refine au_append rfl rfl rfl rfl (fun _ => au_norm ?_) | refine au_storeE rfl rfl rfl rfl ?_ | refine tri_seq ?_ | refine tri_then ?_ | refine tri_region ?_ | refine tri_nil ?_ | refine tri_skip ?_ | refine tri_ret ?_ | refine tri_exit ?_ | refine tri_thenr ?_ | refine tri_thene ?_ | refine tri_blkn ?_ | refine tri_blkr ?_ | refine tri_blke ?_ | refine tri_blko (by rfl) ?_ | refine tri_if_t (by rfl) ?_ | refine tri_if_f (by rfl) ?_ | fail))
             refine tri_nx1 (j + 1) (by omega) ⟨by omega, by omega, ?_⟩ (by repeat (first | exact trivial | refine ⟨rfl, ?_⟩)) (fun _ h => h)
             rw [← h7, hst])
          | (have hj : freeAt l a (a + n) j := ⟨by assumption, by omega⟩
             have hsk' : seekM l a (a + n) t = j := by rw [← h7, seek_at hj]
             rw [hsk'] at h4 hso
             rename_i r1 r2
             refine tri_nx5 k (i + 1) (j + 1) (ms ++ [⟨(i : Int), (j : Int)⟩]) r2 (by omega) ⟨by omega, by omega, by simp only [List.length_append, List.length_cons, List.length_nil]; omega, hso, ?_⟩ (by repeat (first | exact trivial | refine ⟨rfl, ?_⟩)) (fun _ h => h.sub (by repeat (first | exact List.Sublist.refl _ | assumption | apply List.Sublist.cons_cons | apply List.Sublist.cons)))
             rw [← h4]
             cases clrM l a (a + n) k (i + 1) (j + 1) with
             | none => rfl
             | some x => simp)
      · rw [clrM, if_neg hm] at h4 hso
        (repeat' (first | refine au_pure ?_ | refine au_pass ?_ | refine au_box (fun _ => ?_) | refine au_alloc (fun _ => ?_) | refine au_store ?_ | refine au_make rfl rfl (fun _ => ?_) | refine au_lit rfl rfl rfl (fun _ => ?_) | refine au_append rfl rfl rfl rfl (fun _ => au_norm ?_) | refine au_storeE rfl rfl rfl rfl ?_ | refine tri_seq ?_ | refine tri_then ?_ | refine tri_region ?_ | refine tri_nil ?_ | refine tri_skip ?_ | refine tri_ret ?_ | refine tri_exit ?_ | refine tri_thenr ?_ | refine tri_thene ?_ | refine tri_blkn ?_ | refine tri_blkr ?_ | refine tri_blke ?_ | refine tri_blko (by rfl) ?_ | refine tri_if_t (by rfl) ?_ | refine tri_if_f (by rfl) ?_ | ((first | refine tri_cond (by rfl) (fun hc => ?_) (fun hc => ?_) | refine tri_gsplit (by rfl) (by rfl) (by (fail_if_success exact (rfl : _ = some (Value.bool true))); (fail_if_success exact (rfl : _ = some (Value.bool false))); rfl) (fun hc => ?_) (fun hc => ?_)) <;> (try simp only [decide_eq_true_eq, decide_eq_false_iff_not, beq_iff_eq, bne_iff_ne, ne_eq, Bool.not_eq_true', Bool.not_eq_false', beq_eq_false_iff_ne, bne_eq_false_iff_eq, Int.not_lt, Int.not_le, gt_iff_lt, ge_iff_le, Bool.and_eq_true, Bool.or_eq_true, Bool.and_eq_false_iff, Bool.or_eq_false_iff, Decidable.not_not, not_true_eq_false, not_false_eq_true, and_true, true_and, or_false, false_or, or_true, true_or, and_false, false_and, eq_self, Bool.true_eq_false, Bool.false_eq_true] at hc) <;> (try (exfalso; omega))) | fail))
        exact tri_nx5 k (i + 1) t ms r (by omega) ⟨by omega, h2, by omega, hso, h4⟩ (by repeat (first | exact trivial | refine ⟨rfl, ?_⟩)) (fun _ h => h)
end
end Go.Proofs.Ytgajefdhmpgecaa
