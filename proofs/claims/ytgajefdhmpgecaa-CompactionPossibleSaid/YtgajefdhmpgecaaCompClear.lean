/- The walks of compaction: Clear. No conditions. -/
import Derived.Test.YtgajefdhmpgecaaCompBlocks3
set_option linter.unusedSimpArgs false
set_option linter.unusedVariables false
namespace Go.Proofs.Ytgajefdhmpgecaa
open Go Go.RowKit
attribute [local irreducible] Code.wp wpList bodyPost Exit.then Exit.inBlock Calls wpQuiet Tri TriQ
def freeAt (l : List Int) (a b j : Nat) : Prop := l.getD j default = 0 ∧ ¬ (a ≤ j ∧ j < b)
instance (l : List Int) (a b j : Nat) : Decidable (freeAt l a b j) := by unfold freeAt; infer_instance
/-- The next free cell outside of a range, or the number of cells. -/
def seekF (l : List Int) (a b : Nat) : Nat → Nat → Nat
  | 0, t => t
  | f + 1, t => if freeAt l a b t then t else seekF l a b f (t + 1)
def seekM (l : List Int) (a b t : Nat) : Nat := seekF l a b (l.length - t) t
theorem seek_at {l : List Int} {a b t : Nat} (h : freeAt l a b t) : seekM l a b t = t := by
  unfold seekM
  cases l.length - t with
  | zero => rfl
  | succ f => rw [seekF, if_pos h]
theorem seek_step {l : List Int} {a b t : Nat} (ht : t < l.length) (h : ¬ freeAt l a b t) : seekM l a b t = seekM l a b (t + 1) := by
  unfold seekM
  rw [show l.length - t = (l.length - (t + 1)) + 1 by omega, seekF, if_neg h]
theorem seek_end {l : List Int} {a b t : Nat} (h : l.length ≤ t) : seekM l a b t = t := by
  unfold seekM
  rw [show l.length - t = 0 by omega]; rfl
theorem seek_ind {l : List Int} {a b : Nat} : ∀ k t, l.length - t = k → t ≤ l.length → t ≤ seekM l a b t ∧ seekM l a b t ≤ l.length ∧ (seekM l a b t < l.length → freeAt l a b (seekM l a b t)) ∧ ∀ j, t ≤ j → j < seekM l a b t → ¬ freeAt l a b j
  | 0, t, h, ht => by
    rw [seek_end (by omega)]
    exact ⟨Nat.le_refl _, ht, fun h => by omega, fun j h1 h2 => by omega⟩
  | k + 1, t, h, ht => by
    by_cases hf : freeAt l a b t
    · rw [seek_at hf]
      exact ⟨Nat.le_refl _, ht, fun _ => hf, fun j h1 h2 => by omega⟩
    · rw [seek_step (by omega) hf]
      obtain ⟨h1, h2, h3, h4⟩ := seek_ind (l := l) (a := a) (b := b) k (t + 1) (by omega) (by omega)
      refine ⟨by omega, h2, h3, fun j h5 h6 => ?_⟩
      by_cases e : j = t
      · rw [e]; exact hf
      · exact h4 j (by omega) h6
theorem seek_spec {l : List Int} {a b t : Nat} (ht : t ≤ l.length) : t ≤ seekM l a b t ∧ seekM l a b t ≤ l.length ∧ (seekM l a b t < l.length → freeAt l a b (seekM l a b t)) ∧ ∀ j, t ≤ j → j < seekM l a b t → ¬ freeAt l a b j := seek_ind _ t rfl ht
/-- The moves out of a range, of its k cells from i on, the free cells taken from t on; none if they do not suffice. -/
def clrM (l : List Int) (a b : Nat) : Nat → Nat → Nat → Option (List Mv)
  | 0, _, _ => some []
  | k + 1, i, t => if l.getD i default = 1 then if seekM l a b t < l.length then (clrM l a b k (i + 1) (seekM l a b t + 1)).map fun ms => ⟨(i : Int), (seekM l a b t : Int)⟩ :: ms else none else clrM l a b k (i + 1) t
def rngOk (l : List Int) (s c : Int) : Prop := 0 ≤ s ∧ 0 ≤ c ∧ s ≤ (l.length : Int) ∧ c ≤ (l.length : Int) - s
instance (l : List Int) (s c : Int) : Decidable (rngOk l s c) := by unfold rngOk; infer_instance
def clr0 (l : List Int) (s c : Int) : Option (List Mv) := clrM l s.toNat (s.toNat + c.toNat) c.toNat s.toNat 0
def clearE (l : List Int) (s c : Int) : Int := if checkM l = 0 then if rngOk l s c then if 0 < cntM l s.toNat (s.toNat + c.toNat) 2 then 11 else if (clr0 l s c).isSome = true then 0 else 8 else 2 else checkM l
def clearL (l : List Int) (s c : Int) : List Mv := if clearE l s c = 0 then (clr0 l s c).getD [] else []
theorem any_pin {l : List Int} {a b : Nat} : ((l.take b).drop a).any (eqB 2) = decide (0 < cntM l a b 2) := by
  rw [Bool.eq_iff_iff, List.any_eq_true, decide_eq_true_eq]
  unfold cntM
  rw [List.countP_pos_iff]
  simp only [eqB, decide_eq_true_eq]
  exact ⟨fun ⟨x, h1, h2⟩ => ⟨x, h1, h2.symm⟩, fun ⟨x, h1, h2⟩ => ⟨x, h1, h2.symm⟩⟩
section
variable (w0 : World) (cs : List Chunk)
set_option maxHeartbeats 2000000 in
theorem clear_c {v : Value} {l : List Int} (s c : Int) (hR : RdH (Hp w0 cs) v l) (hlen : l.length ≤ 9223372036854775807) (hI : -9223372036854775808 ≤ s ∧ s ≤ 9223372036854775807) :
    Cal Try.prog 28 [v, .int .i64 s, .int .i64 c] (Hp w0 cs) (fun r : Row => .tuple #[r.v, .int .i64 (clearE l s c)]) (fun r => Hp w0 (movS r (clearL l s c) :: cs)) := by
  refine cal_of_tri Try.func28 rfl Try.ntmps28 rfl ?_
  have bad : ∀ n, clearE l s c = n → ¬ n = 0 → ∀ w, HpM [] w0 (slC (Row.nil w0.heap.size) 26 ([] : List Mv) :: cs) w → ∃ r : Row, Ending.returned (.tuple #[.slice none 0 0, .int .i64 n]) = .returned (.tuple #[r.v, .int .i64 (clearE l s c)]) ∧ Hp w0 (movS r (clearL l s c) :: cs) w := fun n h h0 w hw =>
    ⟨Row.nil w0.heap.size, by rw [h]; rfl, by rw [clearL, if_neg (by rw [h]; exact h0)]; exact hw⟩
  (repeat (first | refine au_pure ?_ | refine au_pass ?_ | refine au_box (fun _ => ?_) | refine au_alloc (fun _ => ?_) | refine au_store ?_ | refine au_make rfl rfl (fun _ => ?_) | refine au_lit rfl rfl rfl (fun _ => ?_) | refine au_append rfl rfl rfl rfl (fun _ => au_norm ?_) | refine au_storeE rfl rfl rfl rfl ?_ | refine tri_seq ?_ | refine tri_then ?_ | refine tri_region ?_ | refine tri_nil ?_ | refine tri_skip ?_ | refine tri_ret ?_ | refine tri_exit ?_ | refine tri_thenr ?_ | refine tri_thene ?_ | refine tri_blkn ?_ | refine tri_blkr ?_ | refine tri_blke ?_ | refine tri_blko (by rfl) ?_ | refine tri_if_t (by rfl) ?_ | refine tri_if_f (by rfl) ?_ | fail))
  refine au_callC rfl rfl rfl rfl rfl (check_c w0 _ (l := l) (by repeat (first | assumption | exact rd_chunk (by first | (apply has_at; (repeat (first | exact at0 | apply atS)); done) | (repeat (first | assumption | apply has_cons))) | apply RdH.cons | refine RdH.cut ?_ rfl (by omega) (by omega))) hlen) (fun _ => ?_)
  (repeat' (first | refine au_pure ?_ | refine au_pass ?_ | refine au_box (fun _ => ?_) | refine au_alloc (fun _ => ?_) | refine au_store ?_ | refine au_make rfl rfl (fun _ => ?_) | refine au_lit rfl rfl rfl (fun _ => ?_) | refine au_append rfl rfl rfl rfl (fun _ => au_norm ?_) | refine au_storeE rfl rfl rfl rfl ?_ | refine tri_seq ?_ | refine tri_then ?_ | refine tri_region ?_ | refine tri_nil ?_ | refine tri_skip ?_ | refine tri_ret ?_ | refine tri_exit ?_ | refine tri_thenr ?_ | refine tri_thene ?_ | refine tri_blkn ?_ | refine tri_blkr ?_ | refine tri_blke ?_ | refine tri_blko (by rfl) ?_ | refine tri_if_t (by rfl) ?_ | refine tri_if_f (by rfl) ?_ | ((first | refine tri_cond (by rfl) (fun hc => ?_) (fun hc => ?_) | refine tri_gsplit (by rfl) (by rfl) (by (fail_if_success exact (rfl : _ = some (Value.bool true))); (fail_if_success exact (rfl : _ = some (Value.bool false))); rfl) (fun hc => ?_) (fun hc => ?_)) <;> (try simp only [decide_eq_true_eq, decide_eq_false_iff_not, beq_iff_eq, bne_iff_ne, ne_eq, Bool.not_eq_true', Bool.not_eq_false', beq_eq_false_iff_ne, bne_eq_false_iff_eq, Int.not_lt, Int.not_le, gt_iff_lt, ge_iff_le, Bool.and_eq_true, Bool.or_eq_true, Bool.and_eq_false_iff, Bool.or_eq_false_iff, Decidable.not_not, not_true_eq_false, not_false_eq_true, and_true, true_and, or_false, false_or, or_true, true_or, and_false, false_and, eq_self, Bool.true_eq_false, Bool.false_eq_true] at hc) <;> (try (exfalso; omega))) | fail))
  · refine tri_nilrow Mv 26 ?_
    refine au_done2 rfl ?_
    exact bad _ (by rw [clearE, if_neg hc]) hc
  iterate 4
    · have hle := checkM_le (by assumption : checkM l = 0)
      first
        | (refine tri_nilrow Mv 26 ?_
           refine au_done2 rfl ?_
           exact bad _ (by rw [clearE, if_pos (by assumption), if_neg (by unfold rngOk; omega)]) (by decide))
        | skip
  have h0 : checkM l = 0 := by assumption
  have hle := checkM_le h0
  obtain ⟨a, rfl⟩ : ∃ a : Nat, s = (a : Int) := ⟨s.toNat, by omega⟩
  obtain ⟨n, rfl⟩ : ∃ n : Nat, c = (n : Int) := ⟨c.toNat, by omega⟩
  have hrg : rngOk l a n := ⟨by omega, by omega, by omega, by omega⟩
  have hE : clearE l a n = if 0 < cntM l a (a + n) 2 then 11 else if (clrM l a (a + n) n a 0).isSome = true then 0 else 8 := by
    rw [clearE, if_pos h0, if_pos hrg]; rfl
  have hL : clearL l a n = if clearE l a n = 0 then (clrM l a (a + n) n a 0).getD [] else [] := rfl
  have e1 : ((a : Int) + (n : Int)).toNat = a + n := by omega
  rw [Int.toNat_natCast, e1]
  have hcl := cut_len (l := l) (show a ≤ a + n by omega) (by omega)
  refine au_callC rfl rfl rfl rfl rfl (contains_c w0 _ (l := (l.take (a + n)).drop a) 2 (by repeat (first | assumption | exact rd_chunk (by first | (apply has_at; (repeat (first | exact at0 | apply atS)); done) | (repeat (first | assumption | apply has_cons))) | apply RdH.cons | refine RdH.cut ?_ rfl (by omega) (by omega))) (by omega)) (fun _ => ?_)
  rw [any_pin]
  (repeat' (first | refine au_pure ?_ | refine au_pass ?_ | refine au_box (fun _ => ?_) | refine au_alloc (fun _ => ?_) | refine au_store ?_ | refine au_make rfl rfl (fun _ => ?_) | refine au_lit rfl rfl rfl (fun _ => ?_) | refine au_append rfl rfl rfl rfl (fun _ => au_norm ?_) | refine au_storeE rfl rfl rfl rfl ?_ | refine tri_seq ?_ | refine tri_then ?_ | refine tri_region ?_ | refine tri_nil ?_ | refine tri_skip ?_ | refine tri_ret ?_ | refine tri_exit ?_ | refine tri_thenr ?_ | refine tri_thene ?_ | refine tri_blkn ?_ | refine tri_blkr ?_ | refine tri_blke ?_ | refine tri_blko (by rfl) ?_ | refine tri_if_t (by rfl) ?_ | refine tri_if_f (by rfl) ?_ | ((first | refine tri_cond (by rfl) (fun hc => ?_) (fun hc => ?_) | refine tri_gsplit (by rfl) (by rfl) (by (fail_if_success exact (rfl : _ = some (Value.bool true))); (fail_if_success exact (rfl : _ = some (Value.bool false))); rfl) (fun hc => ?_) (fun hc => ?_)) <;> (try simp only [decide_eq_true_eq, decide_eq_false_iff_not, beq_iff_eq, bne_iff_ne, ne_eq, Bool.not_eq_true', Bool.not_eq_false', beq_eq_false_iff_ne, bne_eq_false_iff_eq, Int.not_lt, Int.not_le, gt_iff_lt, ge_iff_le, Bool.and_eq_true, Bool.or_eq_true, Bool.and_eq_false_iff, Bool.or_eq_false_iff, Decidable.not_not, not_true_eq_false, not_false_eq_true, and_true, true_and, or_false, false_or, or_true, true_or, and_false, false_and, eq_self, Bool.true_eq_false, Bool.false_eq_true] at hc) <;> (try (exfalso; omega))) | fail))
  · refine tri_nilrow Mv 26 ?_
    refine au_done2 rfl ?_
    exact bad _ (by rw [hE, if_pos hc]) (by decide)
  · rw [if_neg (by omega)] at hE
    refine tri_nilrow Mv 26 ?_
    refine tri_block ?_
    refine tri_loop5 (fun k i t ms r => i + k = a + n ∧ t ≤ l.length ∧ ms.length + k ≤ 4096 ∧ (clrM l a (a + n) k i t).map (fun x => ms ++ x) = clrM l a (a + n) n a 0) (fun k i t ms r => [(0, v), (1, .int .i64 (a : Int)), (9, .int .i64 ((a : Int) + (n : Int))), (10, r.v), (11, .int .i64 ((t : Int) - 1)), (12, .int .i64 (i : Int))])
      (fun k i t ms r => Hp w0 (movS r ms :: cs)) (fun k i t ms r => k) n a 0 [] (Row.nil w0.heap.size) ⟨rfl, by omega, by simp only [List.length_nil]; omega, by simp⟩ (by repeat (first | exact trivial | refine ⟨rfl, ?_⟩)) (fun _ h => h) ?_
    rintro k i t ms r ⟨h1, h2, h3, h4⟩
    cases k with
    | zero =>
      (repeat' (first | refine au_pure ?_ | refine au_pass ?_ | refine au_box (fun _ => ?_) | refine au_alloc (fun _ => ?_) | refine au_store ?_ | refine au_make rfl rfl (fun _ => ?_) | refine au_lit rfl rfl rfl (fun _ => ?_) | refine au_append rfl rfl rfl rfl (fun _ => au_norm ?_) | refine au_storeE rfl rfl rfl rfl ?_ | refine tri_seq ?_ | refine tri_then ?_ | refine tri_region ?_ | refine tri_nil ?_ | refine tri_skip ?_ | refine tri_ret ?_ | refine tri_exit ?_ | refine tri_thenr ?_ | refine tri_thene ?_ | refine tri_blkn ?_ | refine tri_blkr ?_ | refine tri_blke ?_ | refine tri_blko (by rfl) ?_ | refine tri_if_t (by rfl) ?_ | refine tri_if_f (by rfl) ?_ | ((first | refine tri_cond (by rfl) (fun hc => ?_) (fun hc => ?_) | refine tri_gsplit (by rfl) (by rfl) (by (fail_if_success exact (rfl : _ = some (Value.bool true))); (fail_if_success exact (rfl : _ = some (Value.bool false))); rfl) (fun hc => ?_) (fun hc => ?_)) <;> (try simp only [decide_eq_true_eq, decide_eq_false_iff_not, beq_iff_eq, bne_iff_ne, ne_eq, Bool.not_eq_true', Bool.not_eq_false', beq_eq_false_iff_ne, bne_eq_false_iff_eq, Int.not_lt, Int.not_le, gt_iff_lt, ge_iff_le, Bool.and_eq_true, Bool.or_eq_true, Bool.and_eq_false_iff, Bool.or_eq_false_iff, Decidable.not_not, not_true_eq_false, not_false_eq_true, and_true, true_and, or_false, false_or, or_true, true_or, and_false, false_and, eq_self, Bool.true_eq_false, Bool.false_eq_true] at hc) <;> (try (exfalso; omega))) | fail))
      refine au_done2 rfl ?_
      intro w hw
      have hs : clrM l a (a + n) n a 0 = some ms := by rw [← h4, clrM]; simp
      have hE0 : clearE l a n = 0 := by rw [hE, hs]; rfl
      refine ⟨r, by rw [hE0], ?_⟩
      rw [hL, if_pos hE0, hs]; exact hw
    | succ k =>
    have hi : i < l.length := by omega
    (repeat (first | refine au_pure ?_ | refine au_pass ?_ | refine au_box (fun _ => ?_) | refine au_alloc (fun _ => ?_) | refine au_store ?_ | refine au_make rfl rfl (fun _ => ?_) | refine au_lit rfl rfl rfl (fun _ => ?_) | refine au_append rfl rfl rfl rfl (fun _ => au_norm ?_) | refine au_storeE rfl rfl rfl rfl ?_ | refine tri_seq ?_ | refine tri_then ?_ | refine tri_region ?_ | refine tri_nil ?_ | refine tri_skip ?_ | refine tri_ret ?_ | refine tri_exit ?_ | refine tri_thenr ?_ | refine tri_thene ?_ | refine tri_blkn ?_ | refine tri_blkr ?_ | refine tri_blke ?_ | refine tri_blko (by rfl) ?_ | refine tri_if_t (by rfl) ?_ | refine tri_if_f (by rfl) ?_ | fail))
    rw [decide_eq_true (show (i : Int) < (a : Int) + (n : Int) by omega)]
    (repeat (first | refine au_pure ?_ | refine au_pass ?_ | refine au_box (fun _ => ?_) | refine au_alloc (fun _ => ?_) | refine au_store ?_ | refine au_make rfl rfl (fun _ => ?_) | refine au_lit rfl rfl rfl (fun _ => ?_) | refine au_append rfl rfl rfl rfl (fun _ => au_norm ?_) | refine au_storeE rfl rfl rfl rfl ?_ | refine tri_seq ?_ | refine tri_then ?_ | refine tri_region ?_ | refine tri_nil ?_ | refine tri_skip ?_ | refine tri_ret ?_ | refine tri_exit ?_ | refine tri_thenr ?_ | refine tri_thene ?_ | refine tri_blkn ?_ | refine tri_blkr ?_ | refine tri_blke ?_ | refine tri_blko (by rfl) ?_ | refine tri_if_t (by rfl) ?_ | refine tri_if_f (by rfl) ?_ | fail))
    refine tri_block ?_
    by_cases hm : l.getD i default = 1
    · rw [clrM, if_pos hm] at h4
      (repeat (first | refine au_pure ?_ | refine au_pass ?_ | refine au_box (fun _ => ?_) | refine au_alloc (fun _ => ?_) | refine au_store ?_ | refine au_make rfl rfl (fun _ => ?_) | refine au_lit rfl rfl rfl (fun _ => ?_) | refine au_append rfl rfl rfl rfl (fun _ => au_norm ?_) | refine au_storeE rfl rfl rfl rfl ?_ | refine tri_seq ?_ | refine tri_then ?_ | refine tri_region ?_ | refine tri_nil ?_ | refine tri_skip ?_ | refine tri_ret ?_ | refine tri_exit ?_ | refine tri_thenr ?_ | refine tri_thene ?_ | refine tri_blkn ?_ | refine tri_blkr ?_ | refine tri_blke ?_ | refine tri_blko (by rfl) ?_ | refine tri_if_t (by rfl) ?_ | refine tri_if_f (by rfl) ?_ | fail))
      rw [hm]
      (repeat (first | refine au_pure ?_ | refine au_pass ?_ | refine au_box (fun _ => ?_) | refine au_alloc (fun _ => ?_) | refine au_store ?_ | refine au_make rfl rfl (fun _ => ?_) | refine au_lit rfl rfl rfl (fun _ => ?_) | refine au_append rfl rfl rfl rfl (fun _ => au_norm ?_) | refine au_storeE rfl rfl rfl rfl ?_ | refine tri_seq ?_ | refine tri_then ?_ | refine tri_region ?_ | refine tri_nil ?_ | refine tri_skip ?_ | refine tri_ret ?_ | refine tri_exit ?_ | refine tri_thenr ?_ | refine tri_thene ?_ | refine tri_blkn ?_ | refine tri_blkr ?_ | refine tri_blke ?_ | refine tri_blko (by rfl) ?_ | refine tri_if_t (by rfl) ?_ | refine tri_if_f (by rfl) ?_ | fail))
      rw [show (t : Int) - 1 + 1 = t by omega]
      refine tri_block ?_
      refine tri_loop1 (fun j => t ≤ j ∧ j ≤ l.length ∧ seekM l a (a + n) j = seekM l a (a + n) t) (fun j => [(0, v), (1, .int .i64 (a : Int)), (9, .int .i64 ((a : Int) + (n : Int))), (10, r.v), (11, .int .i64 (j : Int)), (12, .int .i64 (i : Int))]) (fun _ => Hp w0 (movS r ms :: cs)) (fun j => l.length - j) t ⟨by omega, h2, rfl⟩
        (by repeat (first | exact trivial | refine ⟨rfl, ?_⟩)) (fun _ h => h) ?_
      rintro j ⟨h5, h6, h7⟩
      (repeat' (first | refine au_pure ?_ | refine au_pass ?_ | refine au_box (fun _ => ?_) | refine au_alloc (fun _ => ?_) | refine au_store ?_ | refine au_make rfl rfl (fun _ => ?_) | refine au_lit rfl rfl rfl (fun _ => ?_) | refine au_append rfl rfl rfl rfl (fun _ => au_norm ?_) | refine au_storeE rfl rfl rfl rfl ?_ | refine tri_seq ?_ | refine tri_then ?_ | refine tri_region ?_ | refine tri_nil ?_ | refine tri_skip ?_ | refine tri_ret ?_ | refine tri_exit ?_ | refine tri_thenr ?_ | refine tri_thene ?_ | refine tri_blkn ?_ | refine tri_blkr ?_ | refine tri_blke ?_ | refine tri_blko (by rfl) ?_ | refine tri_if_t (by rfl) ?_ | refine tri_if_f (by rfl) ?_ | ((first | refine tri_cond (by rfl) (fun hc => ?_) (fun hc => ?_) | refine tri_gsplit (by rfl) (by rfl) (by (fail_if_success exact (rfl : _ = some (Value.bool true))); (fail_if_success exact (rfl : _ = some (Value.bool false))); rfl) (fun hc => ?_) (fun hc => ?_)) <;> (try simp only [decide_eq_true_eq, decide_eq_false_iff_not, beq_iff_eq, bne_iff_ne, ne_eq, Bool.not_eq_true', Bool.not_eq_false', beq_eq_false_iff_ne, bne_eq_false_iff_eq, Int.not_lt, Int.not_le, gt_iff_lt, ge_iff_le, Bool.and_eq_true, Bool.or_eq_true, Bool.and_eq_false_iff, Bool.or_eq_false_iff, Decidable.not_not, not_true_eq_false, not_false_eq_true, and_true, true_and, or_false, false_or, or_true, true_or, and_false, false_and, eq_self, Bool.true_eq_false, Bool.false_eq_true] at hc) <;> (try (exfalso; omega))) | fail))
      all_goals first
        | (have hnf : ¬ freeAt l a (a + n) j := by
             unfold freeAt
             omega
           refine tri_block ?_
           (repeat (first | refine au_pure ?_ | refine au_pass ?_ | refine au_box (fun _ => ?_) | refine au_alloc (fun _ => ?_) | refine au_store ?_ | refine au_make rfl rfl (fun _ => ?_) | refine au_lit rfl rfl rfl (fun _ => ?_) | refine au_append rfl rfl rfl rfl (fun _ => au_norm ?_) | refine au_storeE rfl rfl rfl rfl ?_ | refine tri_seq ?_ | refine tri_then ?_ | refine tri_region ?_ | refine tri_nil ?_ | refine tri_skip ?_ | refine tri_ret ?_ | refine tri_exit ?_ | refine tri_thenr ?_ | refine tri_thene ?_ | refine tri_blkn ?_ | refine tri_blkr ?_ | refine tri_blke ?_ | refine tri_blko (by rfl) ?_ | refine tri_if_t (by rfl) ?_ | refine tri_if_f (by rfl) ?_ | fail))
           refine tri_nx1 (j + 1) (by omega) ⟨by omega, by omega, ?_⟩ (by repeat (first | exact trivial | refine ⟨rfl, ?_⟩)) (fun _ h => h)
           rw [← h7, seek_step (by omega) hnf])
        | (have hj : freeAt l a (a + n) j := ⟨by assumption, by omega⟩
           have hsk : seekM l a (a + n) t = j := by rw [← h7, seek_at hj]
           rw [hsk, if_pos (by omega)] at h4
           rename_i r1 r2
           refine tri_nx5 k (i + 1) (j + 1) (ms ++ [⟨(i : Int), (j : Int)⟩]) r2 (by omega) ⟨by omega, by omega, by simp only [List.length_append, List.length_cons, List.length_nil]; omega, ?_⟩ ?_ (fun _ h => h.sub (by repeat (first | exact List.Sublist.refl _ | assumption | apply List.Sublist.cons_cons | apply List.Sublist.cons)))
           · rw [← h4]
             cases clrM l a (a + n) k (i + 1) (j + 1) with
             | none => rfl
             | some x => simp
           · refine ⟨rfl, rfl, rfl, rfl, ?_, rfl, trivial⟩
             rw [show ((j + 1 : Nat) : Int) - 1 = j by omega]; rfl)
        | (have hsk : seekM l a (a + n) t = l.length := by rw [← h7, show j = l.length by omega, seek_end (Nat.le_refl _)]
           rw [hsk, if_neg (by omega)] at h4
           have hE0 : clearE l a n = 8 := by rw [hE, ← h4]; rfl
           refine tri_nilrow Mv 26 ?_
           refine au_done2 rfl ?_
           intro w hw
           refine ⟨Row.nil w0.heap.size, by rw [hE0]; rfl, ?_⟩
           rw [hL, hE0, if_neg (by decide)]; exact hw.sub (by repeat (first | exact List.Sublist.refl _ | assumption | apply List.Sublist.cons_cons | apply List.Sublist.cons)))
    · rw [clrM, if_neg hm] at h4
      (repeat' (first | refine au_pure ?_ | refine au_pass ?_ | refine au_box (fun _ => ?_) | refine au_alloc (fun _ => ?_) | refine au_store ?_ | refine au_make rfl rfl (fun _ => ?_) | refine au_lit rfl rfl rfl (fun _ => ?_) | refine au_append rfl rfl rfl rfl (fun _ => au_norm ?_) | refine au_storeE rfl rfl rfl rfl ?_ | refine tri_seq ?_ | refine tri_then ?_ | refine tri_region ?_ | refine tri_nil ?_ | refine tri_skip ?_ | refine tri_ret ?_ | refine tri_exit ?_ | refine tri_thenr ?_ | refine tri_thene ?_ | refine tri_blkn ?_ | refine tri_blkr ?_ | refine tri_blke ?_ | refine tri_blko (by rfl) ?_ | refine tri_if_t (by rfl) ?_ | refine tri_if_f (by rfl) ?_ | ((first | refine tri_cond (by rfl) (fun hc => ?_) (fun hc => ?_) | refine tri_gsplit (by rfl) (by rfl) (by (fail_if_success exact (rfl : _ = some (Value.bool true))); (fail_if_success exact (rfl : _ = some (Value.bool false))); rfl) (fun hc => ?_) (fun hc => ?_)) <;> (try simp only [decide_eq_true_eq, decide_eq_false_iff_not, beq_iff_eq, bne_iff_ne, ne_eq, Bool.not_eq_true', Bool.not_eq_false', beq_eq_false_iff_ne, bne_eq_false_iff_eq, Int.not_lt, Int.not_le, gt_iff_lt, ge_iff_le, Bool.and_eq_true, Bool.or_eq_true, Bool.and_eq_false_iff, Bool.or_eq_false_iff, Decidable.not_not, not_true_eq_false, not_false_eq_true, and_true, true_and, or_false, false_or, or_true, true_or, and_false, false_and, eq_self, Bool.true_eq_false, Bool.false_eq_true] at hc) <;> (try (exfalso; omega))) | fail))
      exact tri_nx5 k (i + 1) t ms r (by omega) ⟨by omega, h2, by omega, h4⟩ (by repeat (first | exact trivial | refine ⟨rfl, ?_⟩)) (fun _ h => h)
end
end Go.Proofs.Ytgajefdhmpgecaa
