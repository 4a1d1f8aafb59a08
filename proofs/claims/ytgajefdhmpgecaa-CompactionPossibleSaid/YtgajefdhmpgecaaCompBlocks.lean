/- The walks of compaction: runs and blocks. No conditions. -/
import Derived.Test.YtgajefdhmpgecaaCompRef
set_option linter.unusedSimpArgs false
set_option linter.unusedVariables false
namespace Go.Proofs.Ytgajefdhmpgecaa
open Go Go.RowKit
attribute [local irreducible] Code.wp wpList bodyPost Exit.then Exit.inBlock Calls wpQuiet Tri TriQ
/-- The n cells from j on are free. -/
def Z (l : List Int) (j n : Nat) : Prop := ∀ k, j ≤ k → k < j + n → l.getD k default = 0
/-- The lowest of the longest runs of free cells within the first i cells. -/
structure RunP (l : List Int) (i s b : Nat) : Prop where
  le : s + b ≤ i
  z : Z l s b
  max : ∀ j n, j + n ≤ i → Z l j n → n ≤ b
  min : ∀ j, j < s → ¬ Z l j b
theorem RunP.uniq {l : List Int} {i s b s' b' : Nat} (h : RunP l i s b) (h' : RunP l i s' b') : s = s' ∧ b = b' := by
  have e : b = b' := Nat.le_antisymm (h'.max s b h.le h.z) (h.max s' b' h'.le h'.z)
  subst e
  refine ⟨?_, rfl⟩
  rcases Nat.lt_trichotomy s s' with h1 | h1 | h1
  · exact absurd h.z (h'.min s h1)
  · exact h1
  · exact absurd h'.z (h.min s' h1)
/-- Just r free cells stand ahead of i. -/
structure TailP (l : List Int) (i r : Nat) : Prop where
  le : r ≤ i
  z : Z l (i - r) r
  max : ∀ n, n ≤ i → Z l (i - n) n → n ≤ r
theorem tail_free {l : List Int} {i r : Nat} (h : TailP l i r) (h0 : l.getD i default = 0) : TailP l (i + 1) (r + 1) := by
  have hle := h.le
  refine ⟨by omega, fun k h1 h2 => ?_, fun n hn hz => ?_⟩
  · by_cases e : k = i
    · rw [e]; exact h0
    · exact h.z k (by omega) (by omega)
  · rcases Nat.eq_zero_or_pos n with e | e
    · omega
    · have := h.max (n - 1) (by omega) fun k h1 h2 => hz k (by omega) (by omega)
      omega
theorem tail_used {l : List Int} {i r : Nat} (h : TailP l i r) (h0 : ¬ l.getD i default = 0) : TailP l (i + 1) 0 := by
  refine ⟨by omega, fun k h1 h2 => by omega, fun n hn hz => ?_⟩
  rcases Nat.eq_zero_or_pos n with e | e
  · omega
  · exact absurd (hz i (by omega) (by omega)) h0
theorem run_more {l : List Int} {i s b r : Nat} (h : RunP l i s b) (ht : TailP l (i + 1) r) (hr : b < r) : RunP l (i + 1) (i + 1 - r) r := by
  have hle := ht.le
  refine ⟨by omega, ht.z, fun j n hn hz => ?_, fun j hj hz => ?_⟩
  · by_cases e : j + n ≤ i
    · have := h.max j n e hz; omega
    · exact ht.max n (by omega) (by rw [show i + 1 - n = j by omega]; exact hz)
  · have := h.max j r (by omega) hz; omega
theorem run_same {l : List Int} {i s b r : Nat} (h : RunP l i s b) (ht : TailP l (i + 1) r) (hr : r ≤ b) : RunP l (i + 1) s b := by
  have hle := h.le
  refine ⟨by omega, h.z, fun j n hn hz => ?_, h.min⟩
  by_cases e : j + n ≤ i
  · exact h.max j n e hz
  · have := ht.max n (by omega) (by rw [show i + 1 - n = j by omega]; exact hz)
    omega
/-- The same, of the runs that begin among the first i. -/
structure RunS (l : List Int) (i s b : Nat) : Prop where
  le : s + b ≤ l.length
  z : Z l s b
  max : ∀ j n, j < i → j + n ≤ l.length → Z l j n → n ≤ b
  min : ∀ j, j < s → ¬ Z l j b
/-- Just n free cells stand from i on. -/
structure FromP (l : List Int) (i n : Nat) : Prop where
  le : i + n ≤ l.length
  z : Z l i n
  stop : i + n < l.length → ¬ l.getD (i + n) default = 0
theorem FromP.max {l : List Int} {i n m : Nat} (h : FromP l i n) (hm : i + m ≤ l.length) (hz : Z l i m) : m ≤ n := by
  apply Decidable.byContradiction
  intro hlt
  exact h.stop (by omega) (hz (i + n) (by omega) (by omega))
theorem runs_more {l : List Int} {i s b n : Nat} (h : RunS l i s b) (hi : i < l.length) (hf : FromP l i n) (hr : b < n) : RunS l (i + 1) i n := by
  refine ⟨hf.le, hf.z, fun j m hj hm hz => ?_, fun j hj hz => ?_⟩
  · by_cases e : j = i
    · subst e; exact hf.max hm hz
    · have := h.max j m (by omega) hm hz; omega
  · have := h.max j n hj (by have := hf.le; omega) hz; omega
theorem runs_same {l : List Int} {i s b n : Nat} (h : RunS l i s b) (hf : FromP l i n) (hr : n ≤ b) : RunS l (i + 1) s b :=
  ⟨h.le, h.z, fun j m hj hm hz => by
    by_cases e : j = i
    · subst e; have := hf.max hm hz; omega
    · exact h.max j m (by omega) hm hz, h.min⟩
theorem RunS.run {l : List Int} {s b : Nat} (h : RunS l l.length s b) : RunP l l.length s b := ⟨h.le, h.z, fun j n hn hz => by
  by_cases e : j < l.length
  · exact h.max j n e hn hz
  · omega, h.min⟩
def RunR (l : List Int) (s b : Nat) : Prop := if checkM l = 0 then RunP l l.length s b else s = 0 ∧ b = 0
theorem RunR.uniq {l : List Int} {s b s' b' : Nat} (h : RunR l s b) (h' : RunR l s' b') : s = s' ∧ b = b' := by
  unfold RunR at h h'
  split at h
  · rename_i hc
    rw [if_pos hc] at h'
    exact h.uniq h'
  · rename_i hc
    rw [if_neg hc] at h'
    omega
section
variable (w0 : World) (cs : List Chunk)
theorem run_c {v : Value} {l : List Int} (hR : RdH (Hp w0 cs) v l) (hlen : l.length ≤ 9223372036854775807) :
    Cal Try.prog 22 [v] (Hp w0 cs) (fun x : {x : Nat × Nat // RunR l x.1 x.2} => .tuple #[.int .i64 (x.1.1 : Int), .int .i64 (x.1.2 : Int)]) (fun _ => Hp w0 cs) := by
  refine cal_of_tri Try.func22 rfl Try.ntmps22 rfl ?_
  (repeat (first | refine au_pure ?_ | refine au_pass ?_ | refine au_box (fun _ => ?_) | refine au_alloc (fun _ => ?_) | refine au_store ?_ | refine au_make rfl rfl (fun _ => ?_) | refine au_lit rfl rfl rfl (fun _ => ?_) | refine au_append rfl rfl rfl rfl (fun _ => au_norm ?_) | refine au_storeE rfl rfl rfl rfl ?_ | refine tri_seq ?_ | refine tri_then ?_ | refine tri_region ?_ | refine tri_nil ?_ | refine tri_skip ?_ | refine tri_ret ?_ | refine tri_exit ?_ | refine tri_thenr ?_ | refine tri_thene ?_ | refine tri_blkn ?_ | refine tri_blkr ?_ | refine tri_blke ?_ | refine tri_blko (by rfl) ?_ | refine tri_if_t (by rfl) ?_ | refine tri_if_f (by rfl) ?_ | fail))
  refine au_callC rfl rfl rfl rfl rfl (check_c w0 _ (l := l) (by repeat (first | assumption | exact rd_chunk (by first | (apply has_at; (repeat (first | exact at0 | apply atS)); done) | (repeat (first | assumption | apply has_cons))) | apply RdH.cons | refine RdH.cut ?_ rfl (by omega) (by omega))) hlen) (fun _ => ?_)
  (repeat' (first | refine au_pure ?_ | refine au_pass ?_ | refine au_box (fun _ => ?_) | refine au_alloc (fun _ => ?_) | refine au_store ?_ | refine au_make rfl rfl (fun _ => ?_) | refine au_lit rfl rfl rfl (fun _ => ?_) | refine au_append rfl rfl rfl rfl (fun _ => au_norm ?_) | refine au_storeE rfl rfl rfl rfl ?_ | refine tri_seq ?_ | refine tri_then ?_ | refine tri_region ?_ | refine tri_nil ?_ | refine tri_skip ?_ | refine tri_ret ?_ | refine tri_exit ?_ | refine tri_thenr ?_ | refine tri_thene ?_ | refine tri_blkn ?_ | refine tri_blkr ?_ | refine tri_blke ?_ | refine tri_blko (by rfl) ?_ | refine tri_if_t (by rfl) ?_ | refine tri_if_f (by rfl) ?_ | ((first | refine tri_cond (by rfl) (fun hc => ?_) (fun hc => ?_) | refine tri_gsplit (by rfl) (by rfl) (by (fail_if_success exact (rfl : _ = some (Value.bool true))); (fail_if_success exact (rfl : _ = some (Value.bool false))); rfl) (fun hc => ?_) (fun hc => ?_)) <;> (try simp only [decide_eq_true_eq, decide_eq_false_iff_not, beq_iff_eq, bne_iff_ne, ne_eq, Bool.not_eq_true', Bool.not_eq_false', beq_eq_false_iff_ne, bne_eq_false_iff_eq, Int.not_lt, Int.not_le, gt_iff_lt, ge_iff_le, Bool.and_eq_true, Bool.or_eq_true, Bool.and_eq_false_iff, Bool.or_eq_false_iff, Decidable.not_not, not_true_eq_false, not_false_eq_true, and_true, true_and, or_false, false_or, or_true, true_or, and_false, false_and, eq_self, Bool.true_eq_false, Bool.false_eq_true] at hc) <;> (try (exfalso; omega))) | fail))
  · refine au_done2 rfl ?_
    exact fun w hw => ⟨⟨(0, 0), by rw [RunR, if_neg hc]; exact ⟨rfl, rfl⟩⟩, rfl, hw⟩
  · have hle := checkM_le hc
    have hc0 := hc
    refine tri_block ?_
    refine tri_loop4 (fun i s b r => i ≤ l.length ∧ RunP l i s b ∧ TailP l i r ∧ r ≤ b) (fun i s b r => [(12, v), (13, .int .i64 (l.length : Int)), (14, .int .i64 (i : Int)), (4, .int .i64 (s : Int)), (5, .int .i64 (b : Int)), (6, .int .i64 (r : Int))]) (fun _ _ _ _ => Hp w0 cs) (fun i _ _ _ => l.length - i)
      0 0 0 0 ⟨by omega, ⟨by omega, fun k h1 h2 => by omega, fun j n hn _ => by omega, fun j hj => by omega⟩, ⟨by omega, fun k h1 h2 => by omega, fun n hn _ => hn⟩, by omega⟩ (by repeat (first | exact trivial | refine ⟨rfl, ?_⟩)) (fun _ h => h) ?_
    rintro i s b r ⟨h1, h2, h3, h4⟩
    have hb := h2.le
    (repeat' (first | refine au_pure ?_ | refine au_pass ?_ | refine au_box (fun _ => ?_) | refine au_alloc (fun _ => ?_) | refine au_store ?_ | refine au_make rfl rfl (fun _ => ?_) | refine au_lit rfl rfl rfl (fun _ => ?_) | refine au_append rfl rfl rfl rfl (fun _ => au_norm ?_) | refine au_storeE rfl rfl rfl rfl ?_ | refine tri_seq ?_ | refine tri_then ?_ | refine tri_region ?_ | refine tri_nil ?_ | refine tri_skip ?_ | refine tri_ret ?_ | refine tri_exit ?_ | refine tri_thenr ?_ | refine tri_thene ?_ | refine tri_blkn ?_ | refine tri_blkr ?_ | refine tri_blke ?_ | refine tri_blko (by rfl) ?_ | refine tri_if_t (by rfl) ?_ | refine tri_if_f (by rfl) ?_ | ((first | refine tri_cond (by rfl) (fun hc => ?_) (fun hc => ?_) | refine tri_gsplit (by rfl) (by rfl) (by (fail_if_success exact (rfl : _ = some (Value.bool true))); (fail_if_success exact (rfl : _ = some (Value.bool false))); rfl) (fun hc => ?_) (fun hc => ?_)) <;> (try simp only [decide_eq_true_eq, decide_eq_false_iff_not, beq_iff_eq, bne_iff_ne, ne_eq, Bool.not_eq_true', Bool.not_eq_false', beq_eq_false_iff_ne, bne_eq_false_iff_eq, Int.not_lt, Int.not_le, gt_iff_lt, ge_iff_le, Bool.and_eq_true, Bool.or_eq_true, Bool.and_eq_false_iff, Bool.or_eq_false_iff, Decidable.not_not, not_true_eq_false, not_false_eq_true, and_true, true_and, or_false, false_or, or_true, true_or, and_false, false_and, eq_self, Bool.true_eq_false, Bool.false_eq_true] at hc) <;> (try (exfalso; omega))) | fail))
    · refine tri_block ?_
      by_cases h0 : l.getD i default = 0
      · have ht := tail_free h3 h0
        (repeat' (first | refine au_pure ?_ | refine au_pass ?_ | refine au_box (fun _ => ?_) | refine au_alloc (fun _ => ?_) | refine au_store ?_ | refine au_make rfl rfl (fun _ => ?_) | refine au_lit rfl rfl rfl (fun _ => ?_) | refine au_append rfl rfl rfl rfl (fun _ => au_norm ?_) | refine au_storeE rfl rfl rfl rfl ?_ | refine tri_seq ?_ | refine tri_then ?_ | refine tri_region ?_ | refine tri_nil ?_ | refine tri_skip ?_ | refine tri_ret ?_ | refine tri_exit ?_ | refine tri_thenr ?_ | refine tri_thene ?_ | refine tri_blkn ?_ | refine tri_blkr ?_ | refine tri_blke ?_ | refine tri_blko (by rfl) ?_ | refine tri_if_t (by rfl) ?_ | refine tri_if_f (by rfl) ?_ | ((first | refine tri_cond (by rfl) (fun hc => ?_) (fun hc => ?_) | refine tri_gsplit (by rfl) (by rfl) (by (fail_if_success exact (rfl : _ = some (Value.bool true))); (fail_if_success exact (rfl : _ = some (Value.bool false))); rfl) (fun hc => ?_) (fun hc => ?_)) <;> (try simp only [decide_eq_true_eq, decide_eq_false_iff_not, beq_iff_eq, bne_iff_ne, ne_eq, Bool.not_eq_true', Bool.not_eq_false', beq_eq_false_iff_ne, bne_eq_false_iff_eq, Int.not_lt, Int.not_le, gt_iff_lt, ge_iff_le, Bool.and_eq_true, Bool.or_eq_true, Bool.and_eq_false_iff, Bool.or_eq_false_iff, Decidable.not_not, not_true_eq_false, not_false_eq_true, and_true, true_and, or_false, false_or, or_true, true_or, and_false, false_and, eq_self, Bool.true_eq_false, Bool.false_eq_true] at hc) <;> (try (exfalso; omega))) | fail))
        · exact tri_nx4 (i + 1) (i + 1 - (r + 1)) (r + 1) (r + 1) (by omega) ⟨by omega, run_more h2 ht (by omega), ht, by omega⟩ (by refine ⟨rfl, rfl, rfl, ?_, rfl, rfl, trivial⟩; rw [show ((i + 1 - (r + 1) : Nat) : Int) = (i : Int) - ((r : Int) + 1) + 1 by have := h3.le; omega]; rfl) (fun _ h => h)
        · exact tri_nx4 (i + 1) s b (r + 1) (by omega) ⟨by omega, run_same h2 ht (by omega), ht, by omega⟩ (by repeat (first | exact trivial | refine ⟨rfl, ?_⟩)) (fun _ h => h)
      · have ht := tail_used h3 h0
        (repeat' (first | refine au_pure ?_ | refine au_pass ?_ | refine au_box (fun _ => ?_) | refine au_alloc (fun _ => ?_) | refine au_store ?_ | refine au_make rfl rfl (fun _ => ?_) | refine au_lit rfl rfl rfl (fun _ => ?_) | refine au_append rfl rfl rfl rfl (fun _ => au_norm ?_) | refine au_storeE rfl rfl rfl rfl ?_ | refine tri_seq ?_ | refine tri_then ?_ | refine tri_region ?_ | refine tri_nil ?_ | refine tri_skip ?_ | refine tri_ret ?_ | refine tri_exit ?_ | refine tri_thenr ?_ | refine tri_thene ?_ | refine tri_blkn ?_ | refine tri_blkr ?_ | refine tri_blke ?_ | refine tri_blko (by rfl) ?_ | refine tri_if_t (by rfl) ?_ | refine tri_if_f (by rfl) ?_ | ((first | refine tri_cond (by rfl) (fun hc => ?_) (fun hc => ?_) | refine tri_gsplit (by rfl) (by rfl) (by (fail_if_success exact (rfl : _ = some (Value.bool true))); (fail_if_success exact (rfl : _ = some (Value.bool false))); rfl) (fun hc => ?_) (fun hc => ?_)) <;> (try simp only [decide_eq_true_eq, decide_eq_false_iff_not, beq_iff_eq, bne_iff_ne, ne_eq, Bool.not_eq_true', Bool.not_eq_false', beq_eq_false_iff_ne, bne_eq_false_iff_eq, Int.not_lt, Int.not_le, gt_iff_lt, ge_iff_le, Bool.and_eq_true, Bool.or_eq_true, Bool.and_eq_false_iff, Bool.or_eq_false_iff, Decidable.not_not, not_true_eq_false, not_false_eq_true, and_true, true_and, or_false, false_or, or_true, true_or, and_false, false_and, eq_self, Bool.true_eq_false, Bool.false_eq_true] at hc) <;> (try (exfalso; omega))) | fail))
        exact tri_nx4 (i + 1) s b 0 (by omega) ⟨by omega, run_same h2 ht (by omega), ht, by omega⟩ (by repeat (first | exact trivial | refine ⟨rfl, ?_⟩)) (fun _ h => h)
    · have hil : i = l.length := by omega
      subst hil
      refine au_done2 rfl ?_
      exact fun w hw => ⟨⟨(s, b), by rw [RunR, if_pos hc0]; exact h2⟩, rfl, hw⟩
theorem from_c {v : Value} {l : List Int} (i : Nat) (hi : i ≤ l.length) (hR : RdH (Hp w0 cs) v l) (hlen : l.length ≤ 4096) :
    Cal Try.prog 35 [v, .int .i64 (i : Int)] (Hp w0 cs) (fun x : {x : Nat // FromP l i x} => .int .i64 (x.1 : Int)) (fun _ => Hp w0 cs) := by
  refine cal_of_tri Try.func35 rfl Try.ntmps35 rfl ?_
  (repeat (first | refine au_pure ?_ | refine au_pass ?_ | refine au_box (fun _ => ?_) | refine au_alloc (fun _ => ?_) | refine au_store ?_ | refine au_make rfl rfl (fun _ => ?_) | refine au_lit rfl rfl rfl (fun _ => ?_) | refine au_append rfl rfl rfl rfl (fun _ => au_norm ?_) | refine au_storeE rfl rfl rfl rfl ?_ | refine tri_seq ?_ | refine tri_then ?_ | refine tri_region ?_ | refine tri_nil ?_ | refine tri_skip ?_ | refine tri_ret ?_ | refine tri_exit ?_ | refine tri_thenr ?_ | refine tri_thene ?_ | refine tri_blkn ?_ | refine tri_blkr ?_ | refine tri_blke ?_ | refine tri_blko (by rfl) ?_ | refine tri_if_t (by rfl) ?_ | refine tri_if_f (by rfl) ?_ | fail))
  refine tri_block ?_
  refine tri_loop1 (fun n => i + n ≤ l.length ∧ Z l i n) (fun n => [(0, v), (1, .int .i64 (i : Int)), (5, .int .i64 (n : Int))]) (fun _ => Hp w0 cs) (fun n => l.length - n) 0 ⟨hi, fun k h1 h2 => by omega⟩ (by repeat (first | exact trivial | refine ⟨rfl, ?_⟩)) (fun _ h => h) ?_
  rintro n ⟨h1, h2⟩
  have e : ((i : Int) + (n : Int)).toNat = i + n := by omega
  (repeat' (first | refine au_pure ?_ | refine au_pass ?_ | refine au_box (fun _ => ?_) | refine au_alloc (fun _ => ?_) | refine au_store ?_ | refine au_make rfl rfl (fun _ => ?_) | refine au_lit rfl rfl rfl (fun _ => ?_) | refine au_append rfl rfl rfl rfl (fun _ => au_norm ?_) | refine au_storeE rfl rfl rfl rfl ?_ | refine tri_seq ?_ | refine tri_then ?_ | refine tri_region ?_ | refine tri_nil ?_ | refine tri_skip ?_ | refine tri_ret ?_ | refine tri_exit ?_ | refine tri_thenr ?_ | refine tri_thene ?_ | refine tri_blkn ?_ | refine tri_blkr ?_ | refine tri_blke ?_ | refine tri_blko (by rfl) ?_ | refine tri_if_t (by rfl) ?_ | refine tri_if_f (by rfl) ?_ | ((first | refine tri_cond (by rfl) (fun hc => ?_) (fun hc => ?_) | refine tri_gsplit (by rfl) (by rfl) (by (fail_if_success exact (rfl : _ = some (Value.bool true))); (fail_if_success exact (rfl : _ = some (Value.bool false))); rfl) (fun hc => ?_) (fun hc => ?_)) <;> (try simp only [decide_eq_true_eq, decide_eq_false_iff_not, beq_iff_eq, bne_iff_ne, ne_eq, Bool.not_eq_true', Bool.not_eq_false', beq_eq_false_iff_ne, bne_eq_false_iff_eq, Int.not_lt, Int.not_le, gt_iff_lt, ge_iff_le, Bool.and_eq_true, Bool.or_eq_true, Bool.and_eq_false_iff, Bool.or_eq_false_iff, Decidable.not_not, not_true_eq_false, not_false_eq_true, and_true, true_and, or_false, false_or, or_true, true_or, and_false, false_and, eq_self, Bool.true_eq_false, Bool.false_eq_true] at hc) <;> (try (exfalso; omega))) | fail))
  · refine tri_block ?_
    (repeat (first | refine au_pure ?_ | refine au_pass ?_ | refine au_box (fun _ => ?_) | refine au_alloc (fun _ => ?_) | refine au_store ?_ | refine au_make rfl rfl (fun _ => ?_) | refine au_lit rfl rfl rfl (fun _ => ?_) | refine au_append rfl rfl rfl rfl (fun _ => au_norm ?_) | refine au_storeE rfl rfl rfl rfl ?_ | refine tri_seq ?_ | refine tri_then ?_ | refine tri_region ?_ | refine tri_nil ?_ | refine tri_skip ?_ | refine tri_ret ?_ | refine tri_exit ?_ | refine tri_thenr ?_ | refine tri_thene ?_ | refine tri_blkn ?_ | refine tri_blkr ?_ | refine tri_blke ?_ | refine tri_blko (by rfl) ?_ | refine tri_if_t (by rfl) ?_ | refine tri_if_f (by rfl) ?_ | fail))
    refine tri_nx1 (n + 1) (by omega) ⟨by omega, fun k h3 h4 => ?_⟩ (by repeat (first | exact trivial | refine ⟨rfl, ?_⟩)) (fun _ h => h)
    by_cases hk : k = i + n
    · rw [hk]; exact hc
    · exact h2 k h3 (by omega)
  · refine au_done1 rfl ?_
    exact fun w hw => ⟨⟨n, h1, h2, fun _ => hc⟩, rfl, hw⟩
  · refine au_done1 rfl ?_
    exact fun w hw => ⟨⟨n, h1, h2, fun h => by omega⟩, rfl, hw⟩
theorem rrun_c {v : Value} {l : List Int} (hR : RdH (Hp w0 cs) v l) (hlen : l.length ≤ 9223372036854775807) :
    Cal Try.prog 23 [v] (Hp w0 cs) (fun x : {x : Nat × Nat // RunR l x.1 x.2} => .tuple #[.int .i64 (x.1.1 : Int), .int .i64 (x.1.2 : Int)]) (fun _ => Hp w0 cs) := by
  refine cal_of_tri Try.func23 rfl Try.ntmps23 rfl ?_
  (repeat (first | refine au_pure ?_ | refine au_pass ?_ | refine au_box (fun _ => ?_) | refine au_alloc (fun _ => ?_) | refine au_store ?_ | refine au_make rfl rfl (fun _ => ?_) | refine au_lit rfl rfl rfl (fun _ => ?_) | refine au_append rfl rfl rfl rfl (fun _ => au_norm ?_) | refine au_storeE rfl rfl rfl rfl ?_ | refine tri_seq ?_ | refine tri_then ?_ | refine tri_region ?_ | refine tri_nil ?_ | refine tri_skip ?_ | refine tri_ret ?_ | refine tri_exit ?_ | refine tri_thenr ?_ | refine tri_thene ?_ | refine tri_blkn ?_ | refine tri_blkr ?_ | refine tri_blke ?_ | refine tri_blko (by rfl) ?_ | refine tri_if_t (by rfl) ?_ | refine tri_if_f (by rfl) ?_ | fail))
  refine au_callC rfl rfl rfl rfl rfl (rcheck_c w0 _ (l := l) (by repeat (first | assumption | exact rd_chunk (by first | (apply has_at; (repeat (first | exact at0 | apply atS)); done) | (repeat (first | assumption | apply has_cons))) | apply RdH.cons | refine RdH.cut ?_ rfl (by omega) (by omega))) hlen) (fun _ => ?_)
  (repeat' (first | refine au_pure ?_ | refine au_pass ?_ | refine au_box (fun _ => ?_) | refine au_alloc (fun _ => ?_) | refine au_store ?_ | refine au_make rfl rfl (fun _ => ?_) | refine au_lit rfl rfl rfl (fun _ => ?_) | refine au_append rfl rfl rfl rfl (fun _ => au_norm ?_) | refine au_storeE rfl rfl rfl rfl ?_ | refine tri_seq ?_ | refine tri_then ?_ | refine tri_region ?_ | refine tri_nil ?_ | refine tri_skip ?_ | refine tri_ret ?_ | refine tri_exit ?_ | refine tri_thenr ?_ | refine tri_thene ?_ | refine tri_blkn ?_ | refine tri_blkr ?_ | refine tri_blke ?_ | refine tri_blko (by rfl) ?_ | refine tri_if_t (by rfl) ?_ | refine tri_if_f (by rfl) ?_ | ((first | refine tri_cond (by rfl) (fun hc => ?_) (fun hc => ?_) | refine tri_gsplit (by rfl) (by rfl) (by (fail_if_success exact (rfl : _ = some (Value.bool true))); (fail_if_success exact (rfl : _ = some (Value.bool false))); rfl) (fun hc => ?_) (fun hc => ?_)) <;> (try simp only [decide_eq_true_eq, decide_eq_false_iff_not, beq_iff_eq, bne_iff_ne, ne_eq, Bool.not_eq_true', Bool.not_eq_false', beq_eq_false_iff_ne, bne_eq_false_iff_eq, Int.not_lt, Int.not_le, gt_iff_lt, ge_iff_le, Bool.and_eq_true, Bool.or_eq_true, Bool.and_eq_false_iff, Bool.or_eq_false_iff, Decidable.not_not, not_true_eq_false, not_false_eq_true, and_true, true_and, or_false, false_or, or_true, true_or, and_false, false_and, eq_self, Bool.true_eq_false, Bool.false_eq_true] at hc) <;> (try (exfalso; omega))) | fail))
  · refine au_done2 rfl ?_
    exact fun w hw => ⟨⟨(0, 0), by rw [RunR, if_neg hc]; exact ⟨rfl, rfl⟩⟩, rfl, hw⟩
  · have hle := checkM_le hc
    have hc0 := hc
    refine tri_block ?_
    refine tri_loop3 (fun i s b => i ≤ l.length ∧ RunS l i s b) (fun i s b => [(0, v), (6, .int .i64 (i : Int)), (4, .int .i64 (s : Int)), (5, .int .i64 (b : Int))]) (fun _ _ _ => Hp w0 cs) (fun i _ _ => l.length - i)
      0 0 0 ⟨by omega, by omega, fun k h1 h2 => by omega, fun j n hj => by omega, fun j hj => by omega⟩ (by repeat (first | exact trivial | refine ⟨rfl, ?_⟩)) (fun _ h => h) ?_
    rintro i s b ⟨h1, h2⟩
    (repeat' (first | refine au_pure ?_ | refine au_pass ?_ | refine au_box (fun _ => ?_) | refine au_alloc (fun _ => ?_) | refine au_store ?_ | refine au_make rfl rfl (fun _ => ?_) | refine au_lit rfl rfl rfl (fun _ => ?_) | refine au_append rfl rfl rfl rfl (fun _ => au_norm ?_) | refine au_storeE rfl rfl rfl rfl ?_ | refine tri_seq ?_ | refine tri_then ?_ | refine tri_region ?_ | refine tri_nil ?_ | refine tri_skip ?_ | refine tri_ret ?_ | refine tri_exit ?_ | refine tri_thenr ?_ | refine tri_thene ?_ | refine tri_blkn ?_ | refine tri_blkr ?_ | refine tri_blke ?_ | refine tri_blko (by rfl) ?_ | refine tri_if_t (by rfl) ?_ | refine tri_if_f (by rfl) ?_ | ((first | refine tri_cond (by rfl) (fun hc => ?_) (fun hc => ?_) | refine tri_gsplit (by rfl) (by rfl) (by (fail_if_success exact (rfl : _ = some (Value.bool true))); (fail_if_success exact (rfl : _ = some (Value.bool false))); rfl) (fun hc => ?_) (fun hc => ?_)) <;> (try simp only [decide_eq_true_eq, decide_eq_false_iff_not, beq_iff_eq, bne_iff_ne, ne_eq, Bool.not_eq_true', Bool.not_eq_false', beq_eq_false_iff_ne, bne_eq_false_iff_eq, Int.not_lt, Int.not_le, gt_iff_lt, ge_iff_le, Bool.and_eq_true, Bool.or_eq_true, Bool.and_eq_false_iff, Bool.or_eq_false_iff, Decidable.not_not, not_true_eq_false, not_false_eq_true, and_true, true_and, or_false, false_or, or_true, true_or, and_false, false_and, eq_self, Bool.true_eq_false, Bool.false_eq_true] at hc) <;> (try (exfalso; omega))) | fail))
    · refine tri_block ?_
      (repeat (first | refine au_pure ?_ | refine au_pass ?_ | refine au_box (fun _ => ?_) | refine au_alloc (fun _ => ?_) | refine au_store ?_ | refine au_make rfl rfl (fun _ => ?_) | refine au_lit rfl rfl rfl (fun _ => ?_) | refine au_append rfl rfl rfl rfl (fun _ => au_norm ?_) | refine au_storeE rfl rfl rfl rfl ?_ | refine tri_seq ?_ | refine tri_then ?_ | refine tri_region ?_ | refine tri_nil ?_ | refine tri_skip ?_ | refine tri_ret ?_ | refine tri_exit ?_ | refine tri_thenr ?_ | refine tri_thene ?_ | refine tri_blkn ?_ | refine tri_blkr ?_ | refine tri_blke ?_ | refine tri_blko (by rfl) ?_ | refine tri_if_t (by rfl) ?_ | refine tri_if_f (by rfl) ?_ | fail))
      refine au_callC rfl rfl rfl rfl rfl (from_c w0 _ (l := l) i (by omega) (by repeat (first | assumption | exact rd_chunk (by first | (apply has_at; (repeat (first | exact at0 | apply atS)); done) | (repeat (first | assumption | apply has_cons))) | apply RdH.cons | refine RdH.cut ?_ rfl (by omega) (by omega))) (by omega)) ?_
      rintro ⟨n, hn⟩
      (repeat' (first | refine au_pure ?_ | refine au_pass ?_ | refine au_box (fun _ => ?_) | refine au_alloc (fun _ => ?_) | refine au_store ?_ | refine au_make rfl rfl (fun _ => ?_) | refine au_lit rfl rfl rfl (fun _ => ?_) | refine au_append rfl rfl rfl rfl (fun _ => au_norm ?_) | refine au_storeE rfl rfl rfl rfl ?_ | refine tri_seq ?_ | refine tri_then ?_ | refine tri_region ?_ | refine tri_nil ?_ | refine tri_skip ?_ | refine tri_ret ?_ | refine tri_exit ?_ | refine tri_thenr ?_ | refine tri_thene ?_ | refine tri_blkn ?_ | refine tri_blkr ?_ | refine tri_blke ?_ | refine tri_blko (by rfl) ?_ | refine tri_if_t (by rfl) ?_ | refine tri_if_f (by rfl) ?_ | ((first | refine tri_cond (by rfl) (fun hc => ?_) (fun hc => ?_) | refine tri_gsplit (by rfl) (by rfl) (by (fail_if_success exact (rfl : _ = some (Value.bool true))); (fail_if_success exact (rfl : _ = some (Value.bool false))); rfl) (fun hc => ?_) (fun hc => ?_)) <;> (try simp only [decide_eq_true_eq, decide_eq_false_iff_not, beq_iff_eq, bne_iff_ne, ne_eq, Bool.not_eq_true', Bool.not_eq_false', beq_eq_false_iff_ne, bne_eq_false_iff_eq, Int.not_lt, Int.not_le, gt_iff_lt, ge_iff_le, Bool.and_eq_true, Bool.or_eq_true, Bool.and_eq_false_iff, Bool.or_eq_false_iff, Decidable.not_not, not_true_eq_false, not_false_eq_true, and_true, true_and, or_false, false_or, or_true, true_or, and_false, false_and, eq_self, Bool.true_eq_false, Bool.false_eq_true] at hc) <;> (try (exfalso; omega))) | fail))
      · exact tri_nx3 (i + 1) i n (by omega) ⟨by omega, runs_more h2 (by omega) hn (by omega)⟩ (by repeat (first | exact trivial | refine ⟨rfl, ?_⟩)) (fun _ h => h)
      · exact tri_nx3 (i + 1) s b (by omega) ⟨by omega, runs_same h2 hn (by omega)⟩ (by repeat (first | exact trivial | refine ⟨rfl, ?_⟩)) (fun _ h => h)
    · have hil : i = l.length := by omega
      subst hil
      refine au_done2 rfl ?_
      exact fun w hw => ⟨⟨(s, b), by rw [RunR, if_pos hc0]; exact h2.run⟩, rfl, hw⟩
/-- How many cells from a up to b are of a kind. -/
def cntM (l : List Int) (a b : Nat) (k : Int) : Nat := ((l.take b).drop a).countP fun c => decide (c = k)
theorem cnt_step {l : List Int} {a i : Nat} {k : Int} (h : a ≤ i) (hi : i < l.length) : cntM l a (i + 1) k = cntM l a i k + if l.getD i default = k then 1 else 0 := by
  unfold cntM
  rw [take_step hi, List.drop_append_of_le_length (by rw [List.length_take]; omega), List.countP_append, List.countP_singleton]
  simp only [decide_eq_true_eq]
theorem cnt_le (l : List Int) (a b : Nat) (k : Int) : cntM l a b k ≤ l.length := by
  unfold cntM
  refine Nat.le_trans List.countP_le_length ?_
  rw [List.length_drop, List.length_take]; omega
theorem cnt_nil {l : List Int} {a b : Nat} {k : Int} (h : b ≤ a) : cntM l a b k = 0 := by
  unfold cntM
  rw [List.drop_of_length_le (by rw [List.length_take]; omega)]; rfl
theorem count_c {v : Value} {l : List Int} (a b : Nat) (k : Int) (hab : a ≤ b) (hb : b ≤ l.length) (hR : RdH (Hp w0 cs) v l) (hlen : l.length ≤ 4096) :
    Cal Try.prog 38 [v, .int .i64 (a : Int), .int .i64 (b : Int), .int .i64 k] (Hp w0 cs) (fun _ : Unit => .int .i64 (cntM l a b k : Int)) (fun _ => Hp w0 cs) := by
  refine cal_of_tri Try.func38 rfl Try.ntmps38 rfl ?_
  (repeat (first | refine au_pure ?_ | refine au_pass ?_ | refine au_box (fun _ => ?_) | refine au_alloc (fun _ => ?_) | refine au_store ?_ | refine au_make rfl rfl (fun _ => ?_) | refine au_lit rfl rfl rfl (fun _ => ?_) | refine au_append rfl rfl rfl rfl (fun _ => au_norm ?_) | refine au_storeE rfl rfl rfl rfl ?_ | refine tri_seq ?_ | refine tri_then ?_ | refine tri_region ?_ | refine tri_nil ?_ | refine tri_skip ?_ | refine tri_ret ?_ | refine tri_exit ?_ | refine tri_thenr ?_ | refine tri_thene ?_ | refine tri_blkn ?_ | refine tri_blkr ?_ | refine tri_blke ?_ | refine tri_blko (by rfl) ?_ | refine tri_if_t (by rfl) ?_ | refine tri_if_f (by rfl) ?_ | fail))
  refine tri_block ?_
  refine tri_loop1 (fun i => a ≤ i ∧ i ≤ b) (fun i => [(0, v), (2, .int .i64 (b : Int)), (3, .int .i64 k), (9, .int .i64 (cntM l a i k : Int)), (10, .int .i64 (i : Int))]) (fun _ => Hp w0 cs) (fun i => b - i) a ⟨by omega, hab⟩
    (by refine ⟨rfl, rfl, rfl, ?_, rfl, trivial⟩; rw [cnt_nil (Nat.le_refl a)]; rfl) (fun _ h => h) ?_
  rintro i ⟨h1, h2⟩
  have hcl := cnt_le l a i k
  (repeat' (first | refine au_pure ?_ | refine au_pass ?_ | refine au_box (fun _ => ?_) | refine au_alloc (fun _ => ?_) | refine au_store ?_ | refine au_make rfl rfl (fun _ => ?_) | refine au_lit rfl rfl rfl (fun _ => ?_) | refine au_append rfl rfl rfl rfl (fun _ => au_norm ?_) | refine au_storeE rfl rfl rfl rfl ?_ | refine tri_seq ?_ | refine tri_then ?_ | refine tri_region ?_ | refine tri_nil ?_ | refine tri_skip ?_ | refine tri_ret ?_ | refine tri_exit ?_ | refine tri_thenr ?_ | refine tri_thene ?_ | refine tri_blkn ?_ | refine tri_blkr ?_ | refine tri_blke ?_ | refine tri_blko (by rfl) ?_ | refine tri_if_t (by rfl) ?_ | refine tri_if_f (by rfl) ?_ | ((first | refine tri_cond (by rfl) (fun hc => ?_) (fun hc => ?_) | refine tri_gsplit (by rfl) (by rfl) (by (fail_if_success exact (rfl : _ = some (Value.bool true))); (fail_if_success exact (rfl : _ = some (Value.bool false))); rfl) (fun hc => ?_) (fun hc => ?_)) <;> (try simp only [decide_eq_true_eq, decide_eq_false_iff_not, beq_iff_eq, bne_iff_ne, ne_eq, Bool.not_eq_true', Bool.not_eq_false', beq_eq_false_iff_ne, bne_eq_false_iff_eq, Int.not_lt, Int.not_le, gt_iff_lt, ge_iff_le, Bool.and_eq_true, Bool.or_eq_true, Bool.and_eq_false_iff, Bool.or_eq_false_iff, Decidable.not_not, not_true_eq_false, not_false_eq_true, and_true, true_and, or_false, false_or, or_true, true_or, and_false, false_and, eq_self, Bool.true_eq_false, Bool.false_eq_true] at hc) <;> (try (exfalso; omega))) | fail))
  · refine tri_block ?_
    have hs := cnt_step (k := k) h1 (show i < l.length by omega)
    (repeat' (first | refine au_pure ?_ | refine au_pass ?_ | refine au_box (fun _ => ?_) | refine au_alloc (fun _ => ?_) | refine au_store ?_ | refine au_make rfl rfl (fun _ => ?_) | refine au_lit rfl rfl rfl (fun _ => ?_) | refine au_append rfl rfl rfl rfl (fun _ => au_norm ?_) | refine au_storeE rfl rfl rfl rfl ?_ | refine tri_seq ?_ | refine tri_then ?_ | refine tri_region ?_ | refine tri_nil ?_ | refine tri_skip ?_ | refine tri_ret ?_ | refine tri_exit ?_ | refine tri_thenr ?_ | refine tri_thene ?_ | refine tri_blkn ?_ | refine tri_blkr ?_ | refine tri_blke ?_ | refine tri_blko (by rfl) ?_ | refine tri_if_t (by rfl) ?_ | refine tri_if_f (by rfl) ?_ | ((first | refine tri_cond (by rfl) (fun hc => ?_) (fun hc => ?_) | refine tri_gsplit (by rfl) (by rfl) (by (fail_if_success exact (rfl : _ = some (Value.bool true))); (fail_if_success exact (rfl : _ = some (Value.bool false))); rfl) (fun hc => ?_) (fun hc => ?_)) <;> (try simp only [decide_eq_true_eq, decide_eq_false_iff_not, beq_iff_eq, bne_iff_ne, ne_eq, Bool.not_eq_true', Bool.not_eq_false', beq_eq_false_iff_ne, bne_eq_false_iff_eq, Int.not_lt, Int.not_le, gt_iff_lt, ge_iff_le, Bool.and_eq_true, Bool.or_eq_true, Bool.and_eq_false_iff, Bool.or_eq_false_iff, Decidable.not_not, not_true_eq_false, not_false_eq_true, and_true, true_and, or_false, false_or, or_true, true_or, and_false, false_and, eq_self, Bool.true_eq_false, Bool.false_eq_true] at hc) <;> (try (exfalso; omega))) | fail))
    · rw [if_pos (by assumption)] at hs
      refine tri_nx1 (i + 1) (by omega) (by omega) ⟨rfl, rfl, rfl, ?_, rfl, trivial⟩ (fun _ h => h)
      rw [hs]; rfl
    · rw [if_neg (by assumption)] at hs
      refine tri_nx1 (i + 1) (by omega) (by omega) ⟨rfl, rfl, rfl, ?_, rfl, trivial⟩ (fun _ h => h)
      rw [hs]; rfl
  · have : i = b := by omega
    subst this
    refine au_done1 rfl ?_
    intro w hw; exact ⟨(), rfl, hw.sub (by repeat (first | exact List.Sublist.refl _ | assumption | apply List.Sublist.cons_cons | apply List.Sublist.cons))⟩
end
end Go.Proofs.Ytgajefdhmpgecaa
