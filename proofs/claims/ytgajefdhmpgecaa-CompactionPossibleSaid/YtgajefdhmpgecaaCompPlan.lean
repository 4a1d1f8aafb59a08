/- The walks of compaction: Plan of the reference. No conditions. -/
import Derived.Test.YtgajefdhmpgecaaCompBlocks3
set_option linter.unusedSimpArgs false
set_option linter.unusedVariables false
namespace Go.Proofs.Ytgajefdhmpgecaa
open Go Go.RowKit
attribute [local irreducible] Code.wp wpList bodyPost Exit.then Exit.inBlock Calls wpQuiet Tri TriQ
theorem lowM_spec {l : List Int} {a : Nat} (h : a ≤ l.length) : a ≤ lowM l a ∧ lowM l a ≤ l.length ∧ (∀ j, a ≤ j → j < lowM l a → ¬ l.getD j default = 0) ∧ (lowM l a < l.length → l.getD (lowM l a) default = 0) := by
  have hle := lowM_le h
  refine ⟨Nat.le_add_right _ _, hle, fun j h1 h2 => ?_, fun hlt => ?_⟩
  · have hlen : j < l.length := by omega
    unfold lowM at h2
    have h3 : j - a < (l.drop a).findIdx fun c => decide (c = 0) := by omega
    have := List.not_of_lt_findIdx h3
    rw [getD_get hlen]
    simpa [show a + (j - a) = j by omega] using this
  · unfold lowM at hlt hle ⊢
    have h3 : (l.drop a).findIdx (fun c => decide (c = 0)) < (l.drop a).length := by rw [List.length_drop]; omega
    have := List.findIdx_getElem (p := fun c => decide (c = (0 : Int))) (w := h3)
    rw [getD_get hlt]
    simpa using this
theorem highM_spec (l : List Int) : ∀ n, (∀ j, highM l n ≤ j → j < n → ¬ l.getD j default = 1) ∧ (0 < highM l n → l.getD (highM l n - 1) default = 1)
  | 0 => ⟨fun j h1 h2 => by omega, fun h => by cases h⟩
  | k + 1 => by
    obtain ⟨h1, h2⟩ := highM_spec l k
    unfold highM
    split
    · rename_i h
      exact ⟨fun j h3 h4 => by omega, fun _ => h⟩
    · rename_i h
      refine ⟨fun j h3 h4 => ?_, h2⟩
      by_cases e : j = k
      · rw [e]; exact h
      · exact h1 j h3 (by omega)
theorem highM_eq {l : List Int} {m : Nat} : ∀ n, m ≤ n → (∀ j, m ≤ j → j < n → ¬ l.getD j default = 1) → (0 < m → l.getD (m - 1) default = 1) → highM l n = m
  | 0, h, _, _ => by have : m = 0 := by omega
                     rw [this]; rfl
  | k + 1, h, h1, h2 => by
    unfold highM
    by_cases e : m = k + 1
    · subst e
      rw [if_pos (by simpa using h2 (by omega))]
    · rw [if_neg (h1 k (by omega) (by omega))]
      exact highM_eq k (by omega) (fun j h3 h4 => h1 j h3 (by omega)) h2
/-- What the moves so far have left: below a no free cell, from n on no movable one, between them all as it was. -/
structure Inv (now l : List Int) (a n : Nat) : Prop where
  chk : checkM now = 0
  len : now.length = l.length
  ale : a ≤ l.length
  nle : n ≤ l.length
  below : ∀ j, j < a → ¬ now.getD j default = 0
  above : ∀ j, n ≤ j → j < l.length → ¬ now.getD j default = 1
  mid : ∀ j, a ≤ j → j < n → now.getD j default = l.getD j default
theorem Inv.next {now l : List Int} {a n : Nat} (h : Inv now l a n) : nextM now = if (lowM l a : Int) < (highM l n : Int) - 1 then some ⟨(highM l n : Int) - 1, (lowM l a : Int)⟩ else none := by
  obtain ⟨a1, a2, a3, a4⟩ := lowM_spec h.ale
  obtain ⟨b1, b2⟩ := highM_spec l n
  have b3 := highM_le l n
  have hn := h.nle
  have hlen := h.len
  split
  · rename_i hlt
    have e1 : lowM now 0 = lowM l a := lowM_eq (by omega) (by omega) (fun j _ hj => by
      by_cases e : j < a
      · exact h.below j e
      · rw [h.mid j (by omega) (by omega)]; exact a3 j (by omega) hj) (fun _ => by rw [h.mid _ a1 (by omega)]; exact a4 (by omega))
    have e2 : highM now now.length = highM l n := highM_eq _ (by omega) (fun j h1 h2 => by
      by_cases e : n ≤ j
      · exact h.above j e (by omega)
      · rw [h.mid j (by omega) (by omega)]; exact b1 j h1 (by omega)) (fun h0 => by rw [h.mid _ (by omega) (by omega)]; exact b2 h0)
    rw [nextM, e1, e2, if_pos ⟨h.chk, hlt⟩]
  · rename_i hlt
    rw [nextM, if_neg]
    rintro ⟨_, hx⟩
    obtain ⟨c1, c2, c3, c4⟩ := lowM_spec (l := now) (a := 0) (by omega)
    obtain ⟨d1, d2⟩ := highM_spec now now.length
    have d3 := highM_le now now.length
    generalize lowM now 0 = x at *
    generalize highM now now.length = y at *
    have x0 := c4 (by omega)
    have y1 := d2 (by omega)
    have xa : a ≤ x := Decidable.byContradiction fun e => h.below x (by omega) x0
    have yn : y - 1 < n := Decidable.byContradiction fun e => h.above (y - 1) (by omega) (by omega) y1
    rw [h.mid x xa (by omega)] at x0
    rw [h.mid (y - 1) (by omega) yn] at y1
    have g1 : lowM l a ≤ x := Decidable.byContradiction fun e => a3 x xa (by omega) x0
    have g2 : y ≤ highM l n := Decidable.byContradiction fun e => b1 (y - 1) (by omega) yn y1
    omega
theorem check_set {l : List Int} {k : Nat} {c : Int} (h : checkM l = 0) (hc : c = 0 ∨ c = 1) : checkM (l.set k c) = 0 := by
  have hle := checkM_le h
  have hb : l.any badC = false := by
    unfold checkM at h
    rw [if_neg (by omega)] at h
    cases hx : l.any badC with
    | false => rfl
    | true => rw [hx] at h; cases h
  have : (l.set k c).any badC = false := getD_any.2 fun j hj => by
    rw [List.length_set] at hj
    by_cases e : k < l.length
    · rw [getD_set j e]
      split
      · rcases hc with rfl | rfl <;> rfl
      · exact getD_any.1 hb j hj
    · rw [List.set_eq_of_length_le (by omega)]; exact getD_any.1 hb j hj
  rw [checkM, List.length_set, if_neg (by omega), this]; rfl
theorem Inv.move {now l : List Int} {a n : Nat} (h : Inv now l a n) (hlt : (lowM l a : Int) < (highM l n : Int) - 1) : Inv ((now.set (highM l n - 1) 0).set (lowM l a) 1) l (lowM l a + 1) (highM l n - 1) := by
  obtain ⟨a1, a2, a3, a4⟩ := lowM_spec h.ale
  obtain ⟨b1, b2⟩ := highM_spec l n
  have b3 := highM_le l n
  have hn := h.nle
  have hlen := h.len
  have hg : ∀ j, ((now.set (highM l n - 1) 0).set (lowM l a) 1).getD j default = if j = lowM l a then 1 else if j = highM l n - 1 then 0 else now.getD j default := fun j => by
    rw [getD_set j (by rw [List.length_set]; omega), getD_set j (by omega)]
  refine ⟨check_set (check_set h.chk (.inl rfl)) (.inr rfl), by simpa using hlen, by omega, by omega, fun j hj => ?_, fun j h1 h2 => ?_, fun j h1 h2 => ?_⟩
  · rw [hg]
    split
    · decide
    · rw [if_neg (by omega)]
      by_cases e : j < a
      · exact h.below j e
      · rw [h.mid j (by omega) (by omega)]; exact a3 j (by omega) (by omega)
  · rw [hg, if_neg (by omega)]
    split
    · decide
    · by_cases e : n ≤ j
      · exact h.above j e h2
      · rw [h.mid j (by omega) (by omega)]; exact b1 j (by omega) (by omega)
  · rw [hg, if_neg (by omega), if_neg (by omega)]
    exact h.mid j (by omega) (by omega)
section
variable (w0 : World) (cs : List Chunk)
set_option maxHeartbeats 2000000 in
theorem rplan_c {v : Value} {l : List Int} (hR : RdH (Hp w0 cs) v l) (hlen : l.length ≤ 9223372036854775807) :
    Cal Try.prog 15 [v] (Hp w0 cs) (fun r : Row => .tuple #[r.v, .int .i64 (checkM l)]) (fun r => Hp w0 (movS r (planL l) :: cs)) := by
  refine cal_of_tri Try.func15 rfl Try.ntmps15 rfl ?_
  (repeat (first | refine au_pure ?_ | refine au_pass ?_ | refine au_box (fun _ => ?_) | refine au_alloc (fun _ => ?_) | refine au_store ?_ | refine au_make rfl rfl (fun _ => ?_) | refine au_lit rfl rfl rfl (fun _ => ?_) | refine au_append rfl rfl rfl rfl (fun _ => au_norm ?_) | refine au_storeE rfl rfl rfl rfl ?_ | refine tri_seq ?_ | refine tri_then ?_ | refine tri_region ?_ | refine tri_nil ?_ | refine tri_skip ?_ | refine tri_ret ?_ | refine tri_exit ?_ | refine tri_thenr ?_ | refine tri_thene ?_ | refine tri_blkn ?_ | refine tri_blkr ?_ | refine tri_blke ?_ | refine tri_blko (by rfl) ?_ | refine tri_if_t (by rfl) ?_ | refine tri_if_f (by rfl) ?_ | fail))
  refine au_callC rfl rfl rfl rfl rfl (rcheck_c w0 _ (l := l) (by repeat (first | assumption | exact rd_chunk (by first | (apply has_at; (repeat (first | exact at0 | apply atS)); done) | (repeat (first | assumption | apply has_cons))) | apply RdH.cons | refine RdH.cut ?_ rfl (by omega) (by omega))) hlen) (fun _ => ?_)
  (repeat' (first | refine au_pure ?_ | refine au_pass ?_ | refine au_box (fun _ => ?_) | refine au_alloc (fun _ => ?_) | refine au_store ?_ | refine au_make rfl rfl (fun _ => ?_) | refine au_lit rfl rfl rfl (fun _ => ?_) | refine au_append rfl rfl rfl rfl (fun _ => au_norm ?_) | refine au_storeE rfl rfl rfl rfl ?_ | refine tri_seq ?_ | refine tri_then ?_ | refine tri_region ?_ | refine tri_nil ?_ | refine tri_skip ?_ | refine tri_ret ?_ | refine tri_exit ?_ | refine tri_thenr ?_ | refine tri_thene ?_ | refine tri_blkn ?_ | refine tri_blkr ?_ | refine tri_blke ?_ | refine tri_blko (by rfl) ?_ | refine tri_if_t (by rfl) ?_ | refine tri_if_f (by rfl) ?_ | ((first | refine tri_cond (by rfl) (fun hc => ?_) (fun hc => ?_) | refine tri_gsplit (by rfl) (by rfl) (by (fail_if_success exact (rfl : _ = some (Value.bool true))); (fail_if_success exact (rfl : _ = some (Value.bool false))); rfl) (fun hc => ?_) (fun hc => ?_)) <;> (try simp only [decide_eq_true_eq, decide_eq_false_iff_not, beq_iff_eq, bne_iff_ne, ne_eq, Bool.not_eq_true', Bool.not_eq_false', beq_eq_false_iff_ne, bne_eq_false_iff_eq, Int.not_lt, Int.not_le, gt_iff_lt, ge_iff_le, Bool.and_eq_true, Bool.or_eq_true, Bool.and_eq_false_iff, Bool.or_eq_false_iff, Decidable.not_not, not_true_eq_false, not_false_eq_true, and_true, true_and, or_false, false_or, or_true, true_or, and_false, false_and, eq_self, Bool.true_eq_false, Bool.false_eq_true] at hc) <;> (try (exfalso; omega))) | fail))
  · refine tri_nilrow Mv 26 ?_
    refine au_done2 rfl ?_
    intro w hw
    refine ⟨Row.nil w0.heap.size, rfl, ?_⟩
    rw [planL, if_neg hc]; exact hw
  · have hle := checkM_le hc
    have hc0 := hc
    refine au_callC rfl rfl rfl rfl rfl (copy_c w0 _ (l := l) (by repeat (first | assumption | exact rd_chunk (by first | (apply has_at; (repeat (first | exact at0 | apply atS)); done) | (repeat (first | assumption | apply has_cons))) | apply RdH.cons | refine RdH.cut ?_ rfl (by omega) (by omega))) (by omega)) ?_
    intro r0
    (repeat (first | refine au_pure ?_ | refine au_pass ?_ | refine au_box (fun _ => ?_) | refine au_alloc (fun _ => ?_) | refine au_store ?_ | refine au_make rfl rfl (fun _ => ?_) | refine au_lit rfl rfl rfl (fun _ => ?_) | refine au_append rfl rfl rfl rfl (fun _ => au_norm ?_) | refine au_storeE rfl rfl rfl rfl ?_ | refine tri_seq ?_ | refine tri_then ?_ | refine tri_region ?_ | refine tri_nil ?_ | refine tri_skip ?_ | refine tri_ret ?_ | refine tri_exit ?_ | refine tri_thenr ?_ | refine tri_thene ?_ | refine tri_blkn ?_ | refine tri_blkr ?_ | refine tri_blke ?_ | refine tri_blko (by rfl) ?_ | refine tri_if_t (by rfl) ?_ | refine tri_if_f (by rfl) ?_ | fail))
    refine au_callC rfl rfl rfl rfl rfl (rnext_c w0 _ (l := l) (by repeat (first | assumption | exact rd_chunk (by first | (apply has_at; (repeat (first | exact at0 | apply atS)); done) | (repeat (first | assumption | apply has_cons))) | apply RdH.cons | refine RdH.cut ?_ rfl (by omega) (by omega))) (by omega)) (fun _ => ?_)
    (repeat (first | refine au_pure ?_ | refine au_pass ?_ | refine au_box (fun _ => ?_) | refine au_alloc (fun _ => ?_) | refine au_store ?_ | refine au_make rfl rfl (fun _ => ?_) | refine au_lit rfl rfl rfl (fun _ => ?_) | refine au_append rfl rfl rfl rfl (fun _ => au_norm ?_) | refine au_storeE rfl rfl rfl rfl ?_ | refine tri_seq ?_ | refine tri_then ?_ | refine tri_region ?_ | refine tri_nil ?_ | refine tri_skip ?_ | refine tri_ret ?_ | refine tri_exit ?_ | refine tri_thenr ?_ | refine tri_thene ?_ | refine tri_blkn ?_ | refine tri_blkr ?_ | refine tri_blke ?_ | refine tri_blko (by rfl) ?_ | refine tri_if_t (by rfl) ?_ | refine tri_if_f (by rfl) ?_ | fail))
    rename_i g
    refine tri_nilrow Mv 26 ?_
    refine tri_block ?_
    refine tri_loop5 (fun a n ms now r => Inv now l a n ∧ ∃ f, highM l n ≤ f ∧ ms.length + f ≤ 4096 ∧ ms ++ planR l f (lowM l a) (highM l n) = planL l) (fun a n ms now r => [(5, r0.v), (6, r.v), (7, .pointer (some ⟨g, 0, none⟩)), (8, .bool (nextM now).isSome)])
      (fun a n ms now r => Hp w0 (movS r ms :: blkC g 26 [.int .i64 ((nextM now).getD default).frm, .int .i64 ((nextM now).getD default).dst] :: celS r0 now :: cs)) (fun a n ms now r => n) 0 l.length [] l (Row.nil w0.heap.size)
      ⟨⟨hc0, rfl, by omega, by omega, fun j hj => by omega, fun j h1 h2 => by omega, fun j _ _ => rfl⟩, l.length, highM_le _ _, by simpa using hle, by rw [planL, if_pos hc0]; rfl⟩ (by repeat (first | exact trivial | refine ⟨rfl, ?_⟩)) (fun _ h => h) ?_
    rintro a n ms now r ⟨hI, f, f1, f2, f3⟩
    have hnx := hI.next
    have hal := (lowM_spec hI.ale).1
    have hal2 := lowM_le hI.ale
    have hhl := highM_le l n
    have hnl := hI.nle
    have hln := hI.len
    by_cases hlt : (lowM l a : Int) < (highM l n : Int) - 1
    · have hI2 := hI.move hlt
      rw [if_pos hlt] at hnx
      rw [hnx]
      simp only [Option.getD_some, Option.isSome_some]
      (repeat (first | refine au_pure ?_ | refine au_pass ?_ | refine au_box (fun _ => ?_) | refine au_alloc (fun _ => ?_) | refine au_store ?_ | refine au_make rfl rfl (fun _ => ?_) | refine au_lit rfl rfl rfl (fun _ => ?_) | refine au_append rfl rfl rfl rfl (fun _ => au_norm ?_) | refine au_storeE rfl rfl rfl rfl ?_ | refine tri_seq ?_ | refine tri_then ?_ | refine tri_region ?_ | refine tri_nil ?_ | refine tri_skip ?_ | refine tri_ret ?_ | refine tri_exit ?_ | refine tri_thenr ?_ | refine tri_thene ?_ | refine tri_blkn ?_ | refine tri_blkr ?_ | refine tri_blke ?_ | refine tri_blko (by rfl) ?_ | refine tri_if_t (by rfl) ?_ | refine tri_if_f (by rfl) ?_ | fail))
      refine tri_block ?_
      (repeat (first | refine au_pure ?_ | refine au_pass ?_ | refine au_box (fun _ => ?_) | refine au_alloc (fun _ => ?_) | refine au_store ?_ | refine au_make rfl rfl (fun _ => ?_) | refine au_lit rfl rfl rfl (fun _ => ?_) | refine au_append rfl rfl rfl rfl (fun _ => au_norm ?_) | refine au_storeE rfl rfl rfl rfl ?_ | refine tri_seq ?_ | refine tri_then ?_ | refine tri_region ?_ | refine tri_nil ?_ | refine tri_skip ?_ | refine tri_ret ?_ | refine tri_exit ?_ | refine tri_thenr ?_ | refine tri_thene ?_ | refine tri_blkn ?_ | refine tri_blkr ?_ | refine tri_blke ?_ | refine tri_blko (by rfl) ?_ | refine tri_if_t (by rfl) ?_ | refine tri_if_f (by rfl) ?_ | fail))
      rename_i rl r2
      have e1 : ((highM l n : Int) - 1).toNat = highM l n - 1 := by omega
      refine tri_weak (H' := Hp w0 (movS r2 (ms ++ [⟨(highM l n : Int) - 1, (lowM l a : Int)⟩]) :: blkC g 26 [.int .i64 ((highM l n : Int) - 1), .int .i64 (lowM l a : Int)] :: celS r0 now :: cs)) (fun _ h => h.sub (by repeat (first | exact List.Sublist.refl _ | assumption | apply List.Sublist.cons_cons | apply List.Sublist.cons))) ?_
      refine au_held rfl now r0 3 (by repeat (first | exact at0 | apply atS)) ?_; refine au_take 0 rfl rfl rfl ?_; refine au_take 1 rfl rfl rfl ?_; refine au_take 2 rfl rfl rfl ?_; refine au_take 3 rfl rfl rfl ?_; refine au_take 4 rfl rfl rfl ?_; refine au_take 5 rfl rfl rfl ?_; refine au_take 6 rfl rfl rfl ?_; refine au_hop 7 rfl ?_; refine au_storeE rfl rfl rfl rfl ?_; refine tri_nil ?_; refine au_hin ?_; refine au_take 8 rfl rfl rfl ?_; refine au_hop 9 rfl ?_; refine au_storeE rfl rfl rfl rfl ?_; refine tri_nil ?_; refine au_hin ?_; refine au_hdone ?_
      rw [e1]
      refine tri_weak (H' := Hp w0 (movS r2 (ms ++ [⟨(highM l n : Int) - 1, (lowM l a : Int)⟩]) :: blkC g 26 [.int .i64 ((highM l n : Int) - 1), .int .i64 (lowM l a : Int)] :: celS r0 ((now.set (highM l n - 1) 0).set (lowM l a) 1) :: cs)) (fun _ h => h) ?_
      generalize (now.set (highM l n - 1) 0).set (lowM l a) 1 = now2 at *
      have hln2 := hI2.len
      (repeat (first | refine au_pure ?_ | refine au_pass ?_ | refine au_box (fun _ => ?_) | refine au_alloc (fun _ => ?_) | refine au_store ?_ | refine au_make rfl rfl (fun _ => ?_) | refine au_lit rfl rfl rfl (fun _ => ?_) | refine au_append rfl rfl rfl rfl (fun _ => au_norm ?_) | refine au_storeE rfl rfl rfl rfl ?_ | refine tri_seq ?_ | refine tri_then ?_ | refine tri_region ?_ | refine tri_nil ?_ | refine tri_skip ?_ | refine tri_ret ?_ | refine tri_exit ?_ | refine tri_thenr ?_ | refine tri_thene ?_ | refine tri_blkn ?_ | refine tri_blkr ?_ | refine tri_blke ?_ | refine tri_blko (by rfl) ?_ | refine tri_if_t (by rfl) ?_ | refine tri_if_f (by rfl) ?_ | fail))
      refine au_callC rfl rfl rfl rfl rfl (rnext_c w0 _ (l := now2) (by repeat (first | assumption | exact rd_chunk (by first | (apply has_at; (repeat (first | exact at0 | apply atS)); done) | (repeat (first | assumption | apply has_cons))) | apply RdH.cons | refine RdH.cut ?_ rfl (by omega) (by omega))) (by omega)) (fun _ => ?_)
      (repeat (first | refine au_pure ?_ | refine au_pass ?_ | refine au_box (fun _ => ?_) | refine au_alloc (fun _ => ?_) | refine au_store ?_ | refine au_make rfl rfl (fun _ => ?_) | refine au_lit rfl rfl rfl (fun _ => ?_) | refine au_append rfl rfl rfl rfl (fun _ => au_norm ?_) | refine au_storeE rfl rfl rfl rfl ?_ | refine tri_seq ?_ | refine tri_then ?_ | refine tri_region ?_ | refine tri_nil ?_ | refine tri_skip ?_ | refine tri_ret ?_ | refine tri_exit ?_ | refine tri_thenr ?_ | refine tri_thene ?_ | refine tri_blkn ?_ | refine tri_blkr ?_ | refine tri_blke ?_ | refine tri_blko (by rfl) ?_ | refine tri_if_t (by rfl) ?_ | refine tri_if_f (by rfl) ?_ | fail))
      cases f with
      | zero => exfalso; omega
      | succ f =>
      rw [planR, if_pos hlt] at f3
      have hh2 := highM_le l (highM l n - 1)
      refine tri_nx5 (lowM l a + 1) (highM l n - 1) (ms ++ [⟨(highM l n : Int) - 1, (lowM l a : Int)⟩]) now2 r2 (by omega) ⟨hI2, f, by omega, by simp only [List.length_append, List.length_cons, List.length_nil]; omega, ?_⟩ (by repeat (first | exact trivial | refine ⟨rfl, ?_⟩)) (fun _ h => h.sub (by repeat (first | exact List.Sublist.refl _ | assumption | apply List.Sublist.cons_cons | apply List.Sublist.cons)))
      rw [← f3, List.append_assoc]; rfl
    · rw [if_neg hlt] at hnx
      rw [hnx]
      (repeat (first | refine au_pure ?_ | refine au_pass ?_ | refine au_box (fun _ => ?_) | refine au_alloc (fun _ => ?_) | refine au_store ?_ | refine au_make rfl rfl (fun _ => ?_) | refine au_lit rfl rfl rfl (fun _ => ?_) | refine au_append rfl rfl rfl rfl (fun _ => au_norm ?_) | refine au_storeE rfl rfl rfl rfl ?_ | refine tri_seq ?_ | refine tri_then ?_ | refine tri_region ?_ | refine tri_nil ?_ | refine tri_skip ?_ | refine tri_ret ?_ | refine tri_exit ?_ | refine tri_thenr ?_ | refine tri_thene ?_ | refine tri_blkn ?_ | refine tri_blkr ?_ | refine tri_blke ?_ | refine tri_blko (by rfl) ?_ | refine tri_if_t (by rfl) ?_ | refine tri_if_f (by rfl) ?_ | fail))
      refine au_done2 rfl ?_
      intro w hw
      refine ⟨r, by rw [hc0], ?_⟩
      have : planR l f (lowM l a) (highM l n) = [] := by
        cases f with
        | zero => rfl
        | succ f => rw [planR, if_neg (by omega)]
      rw [this, List.append_nil] at f3
      exact f3 ▸ hw.sub (by repeat (first | exact List.Sublist.refl _ | assumption | apply List.Sublist.cons_cons | apply List.Sublist.cons))
end
end Go.Proofs.Ytgajefdhmpgecaa
