/- The walks of slots: the reference, continued. No conditions. -/
import Derived.Test.YtkkemgdklfaglaaSlotsRef
set_option linter.unusedSimpArgs false
set_option linter.unusedVariables false
namespace Go.Proofs.Ytkkemgdklfaglaa
open Go Go.RowKit
attribute [local irreducible] Code.wp wpList bodyPost Exit.then Exit.inBlock Calls wpQuiet Tri TriQ
theorem slot_ext {a b : Slot} (h : a.place = b.place) (h' : a.count = b.count) : a = b := by
  cases a; cases b; simp_all
section
variable (w0 : World) (cs : List Chunk)
theorem rdrop_c {v : Value} {l : List Slot} (i : Int) (held : Bool) (hR : RdH (Hp w0 cs) v l) (hlen : l.length ≤ 9223372036854775807) :
    Cal Try.prog 25 [v, .int .i64 i, .bool held] (Hp w0 cs) (fun r : Row => .tuple #[r.v, .bool (dropF l i held), .int .i64 (withE l i dropE)]) (fun r => Hp w0 (slS r (withL l i dropE (dropG held)) :: cs)) := by
  refine cal_of_tri Try.func25 rfl Try.ntmps25 rfl ?_
  (repeat (first | refine au_pure ?_ | refine au_pass ?_ | refine au_box (fun _ => ?_) | refine au_alloc (fun _ => ?_) | refine au_store ?_ | refine au_make rfl rfl (fun _ => ?_) | refine au_lit rfl rfl rfl (fun _ => ?_) | refine au_append rfl rfl rfl rfl (fun _ => au_norm ?_) | refine au_storeE rfl rfl rfl rfl ?_ | refine tri_seq ?_ | refine tri_then ?_ | refine tri_region ?_ | refine tri_nil ?_ | refine tri_skip ?_ | refine tri_ret ?_ | refine tri_exit ?_ | refine tri_thenr ?_ | refine tri_thene ?_ | refine tri_blkn ?_ | refine tri_blkr ?_ | refine tri_blke ?_ | refine tri_blko (by rfl) ?_ | refine tri_if_t (by rfl) ?_ | refine tri_if_f (by rfl) ?_ | fail))
  refine au_callC rfl rfl rfl rfl rfl (rusd_c w0 cs i hR hlen) (fun _ => ?_)
  (repeat' (first | refine au_pure ?_ | refine au_pass ?_ | refine au_box (fun _ => ?_) | refine au_alloc (fun _ => ?_) | refine au_store ?_ | refine au_make rfl rfl (fun _ => ?_) | refine au_lit rfl rfl rfl (fun _ => ?_) | refine au_append rfl rfl rfl rfl (fun _ => au_norm ?_) | refine au_storeE rfl rfl rfl rfl ?_ | refine tri_seq ?_ | refine tri_then ?_ | refine tri_region ?_ | refine tri_nil ?_ | refine tri_skip ?_ | refine tri_ret ?_ | refine tri_exit ?_ | refine tri_thenr ?_ | refine tri_thene ?_ | refine tri_blkn ?_ | refine tri_blkr ?_ | refine tri_blke ?_ | refine tri_blko (by rfl) ?_ | refine tri_if_t (by rfl) ?_ | refine tri_if_f (by rfl) ?_ | ((first | refine tri_cond (by rfl) (fun hc => ?_) (fun hc => ?_) | refine tri_gsplit (by rfl) (by rfl) (by (fail_if_success exact (rfl : _ = some (Value.bool true))); (fail_if_success exact (rfl : _ = some (Value.bool false))); rfl) (fun hc => ?_) (fun hc => ?_)) <;> (try simp only [decide_eq_true_eq, decide_eq_false_iff_not, beq_iff_eq, bne_iff_ne, ne_eq, Bool.not_eq_true', Bool.not_eq_false', beq_eq_false_iff_ne, bne_eq_false_iff_eq, Int.not_lt, Int.not_le, gt_iff_lt, ge_iff_le, Bool.and_eq_true, Bool.or_eq_true, Bool.and_eq_false_iff, Bool.or_eq_false_iff, Decidable.not_not, not_true_eq_false, not_false_eq_true, and_true, true_and, or_false, false_or, or_true, true_or, and_false, false_and, eq_self, Bool.true_eq_false, Bool.false_eq_true] at hc) <;> (try (exfalso; omega))) | fail))
  · have hf : dropF l i held = false := by
      have h := fun h1 h2 => hc (by rw [usdM, if_pos h1, if_pos h2])
      simp only [dropF]
      by_cases h1 : checkM l = 0
      · have : inUse l i = false := by simpa using h h1
        simp [this]
      · simp [h1]
    refine tri_nilrow Slot 41 ?_
    refine au_done3 rfl ?_
    intro w hw
    refine ⟨Row.nil w0.heap.size, ?_, ?_⟩
    · rw [usd_with _ hc, hf]; rfl
    · rw [usd_nil _ _ hc]; exact hw
  · have hu := usd_at hc
    have hi := inUse_lt hu.2
    have hb := checkM_at hu.1 hi.2.2
    have hf : dropF l i held = dropB held (l.getD i.toNat default) := by simp [dropF, hu.1, hu.2]
    (repeat' (first | refine au_pure ?_ | refine au_pass ?_ | refine au_box (fun _ => ?_) | refine au_alloc (fun _ => ?_) | refine au_store ?_ | refine au_make rfl rfl (fun _ => ?_) | refine au_lit rfl rfl rfl (fun _ => ?_) | refine au_append rfl rfl rfl rfl (fun _ => au_norm ?_) | refine au_storeE rfl rfl rfl rfl ?_ | refine tri_seq ?_ | refine tri_then ?_ | refine tri_region ?_ | refine tri_nil ?_ | refine tri_skip ?_ | refine tri_ret ?_ | refine tri_exit ?_ | refine tri_thenr ?_ | refine tri_thene ?_ | refine tri_blkn ?_ | refine tri_blkr ?_ | refine tri_blke ?_ | refine tri_blko (by rfl) ?_ | refine tri_if_t (by rfl) ?_ | refine tri_if_f (by rfl) ?_ | ((first | refine tri_cond (by rfl) (fun hc => ?_) (fun hc => ?_) | refine tri_gsplit (by rfl) (by rfl) (by (fail_if_success exact (rfl : _ = some (Value.bool true))); (fail_if_success exact (rfl : _ = some (Value.bool false))); rfl) (fun hc => ?_) (fun hc => ?_)) <;> (try simp only [decide_eq_true_eq, decide_eq_false_iff_not, beq_iff_eq, bne_iff_ne, ne_eq, Bool.not_eq_true', Bool.not_eq_false', beq_eq_false_iff_ne, bne_eq_false_iff_eq, Int.not_lt, Int.not_le, gt_iff_lt, ge_iff_le, Bool.and_eq_true, Bool.or_eq_true, Bool.and_eq_false_iff, Bool.or_eq_false_iff, Decidable.not_not, not_true_eq_false, not_false_eq_true, and_true, true_and, or_false, false_or, or_true, true_or, and_false, false_and, eq_self, Bool.true_eq_false, Bool.false_eq_true] at hc) <;> (try (exfalso; omega))) | fail))
    · have he : dropE (l.getD i.toNat default) = 11 := by rw [dropE, if_pos (by assumption)]
      have hb' : dropB held (l.getD i.toNat default) = false := by unfold dropB; rw [show (l.getD i.toNat default).count = 0 by assumption]; rfl
      refine tri_nilrow Slot 41 ?_
      refine au_done3 rfl ?_
      intro w hw
      refine ⟨Row.nil w0.heap.size, ?_, ?_⟩
      · rw [withE_at hu, he, hf, hb']; rfl
      · rw [withL_no (by rw [he]; decide)]; exact hw
    · have hc0 : ¬ (l.getD i.toNat default).count = 0 := by assumption
      have he : dropE (l.getD i.toNat default) = 0 := by rw [dropE, if_neg hc0]
      refine au_callC rfl rfl rfl rfl rfl (copy_c w0 cs hR (by have := checkM_le hu.1; omega)) ?_
      intro r
      (repeat' (first | refine au_pure ?_ | refine au_pass ?_ | refine au_box (fun _ => ?_) | refine au_alloc (fun _ => ?_) | refine au_store ?_ | refine au_make rfl rfl (fun _ => ?_) | refine au_lit rfl rfl rfl (fun _ => ?_) | refine au_append rfl rfl rfl rfl (fun _ => au_norm ?_) | refine au_storeE rfl rfl rfl rfl ?_ | refine tri_seq ?_ | refine tri_then ?_ | refine tri_region ?_ | refine tri_nil ?_ | refine tri_skip ?_ | refine tri_ret ?_ | refine tri_exit ?_ | refine tri_thenr ?_ | refine tri_thene ?_ | refine tri_blkn ?_ | refine tri_blkr ?_ | refine tri_blke ?_ | refine tri_blko (by rfl) ?_ | refine tri_if_t (by rfl) ?_ | refine tri_if_f (by rfl) ?_ | ((first | refine tri_cond (by rfl) (fun hc => ?_) (fun hc => ?_) | refine tri_gsplit (by rfl) (by rfl) (by (fail_if_success exact (rfl : _ = some (Value.bool true))); (fail_if_success exact (rfl : _ = some (Value.bool false))); rfl) (fun hc => ?_) (fun hc => ?_)) <;> (try simp only [decide_eq_true_eq, decide_eq_false_iff_not, beq_iff_eq, bne_iff_ne, ne_eq, Bool.not_eq_true', Bool.not_eq_false', beq_eq_false_iff_ne, bne_eq_false_iff_eq, Int.not_lt, Int.not_le, gt_iff_lt, ge_iff_le, Bool.and_eq_true, Bool.or_eq_true, Bool.and_eq_false_iff, Bool.or_eq_false_iff, Decidable.not_not, not_true_eq_false, not_false_eq_true, and_true, true_and, or_false, false_or, or_true, true_or, and_false, false_and, eq_self, Bool.true_eq_false, Bool.false_eq_true] at hc) <;> (try (exfalso; omega))) | fail))
      · have hc1 : (l.getD i.toNat default).count - 1 = 0 := by
          have h : ((l.set i.toNat (Enc.dec (setL (Enc.enc (l.getD i.toNat default)) (0 + 1) (Value.int .i64 ((l.getD i.toNat default).count - 1)).cells.toList))).getD i.toNat default).count = 0 := by assumption
          rw [getD_set_self hi.2.2] at h
          exact h
        have hb' : dropB held (l.getD i.toNat default) = true := by unfold dropB; rw [show (l.getD i.toNat default).count = 1 by omega, hc]; rfl
        have hG : dropG held (l.getD i.toNat default) = ⟨0, 0⟩ := by rw [dropG, if_neg hc0, hb', if_pos rfl]
        refine au_done3 rfl ?_
        intro w hw
        refine ⟨r, ?_, ?_⟩
        · rw [withE_at hu, he, hf, hb']
        · rw [getD_set_self hi.2.2, List.set_set] at hw
          rw [withL_at hu he, hG]; exact hw
      · have hb' : dropB held (l.getD i.toNat default) = false := by unfold dropB; rw [hc]; simp
        have hG : dropG held (l.getD i.toNat default) = ⟨(l.getD i.toNat default).place, (l.getD i.toNat default).count - 1⟩ := by rw [dropG, if_neg hc0, hb', if_neg Bool.false_ne_true]
        refine au_done3 rfl ?_
        intro w hw
        refine ⟨r, ?_, ?_⟩
        · rw [withE_at hu, he, hf, hb']
        · rw [withL_at hu he, hG]; exact hw
      · rw [getD_set_self hi.2.2] at hc
        change ¬ (l.getD i.toNat default).count - 1 = 0 at hc
        have hb' : dropB held (l.getD i.toNat default) = false := by
          unfold dropB
          rw [Bool.and_eq_false_iff, beq_eq_false_iff_ne]
          left; omega
        have hG : dropG held (l.getD i.toNat default) = ⟨(l.getD i.toNat default).place, (l.getD i.toNat default).count - 1⟩ := by rw [dropG, if_neg hc0, hb', if_neg Bool.false_ne_true]
        refine au_done3 rfl ?_
        intro w hw
        refine ⟨r, ?_, ?_⟩
        · rw [withE_at hu, he, hf, hb']
        · rw [withL_at hu he, hG]; exact hw
theorem same_c {v v' : Value} {l l' : List Slot} (hR : RdH (Hp w0 cs) v l) (hR' : RdH (Hp w0 cs) v' l') (hlen : l.length ≤ 9223372036854775807) (hlen' : l'.length ≤ 9223372036854775807) :
    Cal Try.prog 12 [v, v'] (Hp w0 cs) (fun _ : Unit => .bool (decide (l = l'))) (fun _ => Hp w0 cs) := by
  refine cal_of_tri Try.func12 rfl Try.ntmps12 rfl ?_
  (repeat' (first | refine au_pure ?_ | refine au_pass ?_ | refine au_box (fun _ => ?_) | refine au_alloc (fun _ => ?_) | refine au_store ?_ | refine au_make rfl rfl (fun _ => ?_) | refine au_lit rfl rfl rfl (fun _ => ?_) | refine au_append rfl rfl rfl rfl (fun _ => au_norm ?_) | refine au_storeE rfl rfl rfl rfl ?_ | refine tri_seq ?_ | refine tri_then ?_ | refine tri_region ?_ | refine tri_nil ?_ | refine tri_skip ?_ | refine tri_ret ?_ | refine tri_exit ?_ | refine tri_thenr ?_ | refine tri_thene ?_ | refine tri_blkn ?_ | refine tri_blkr ?_ | refine tri_blke ?_ | refine tri_blko (by rfl) ?_ | refine tri_if_t (by rfl) ?_ | refine tri_if_f (by rfl) ?_ | ((first | refine tri_cond (by rfl) (fun hc => ?_) (fun hc => ?_) | refine tri_gsplit (by rfl) (by rfl) (by (fail_if_success exact (rfl : _ = some (Value.bool true))); (fail_if_success exact (rfl : _ = some (Value.bool false))); rfl) (fun hc => ?_) (fun hc => ?_)) <;> (try simp only [decide_eq_true_eq, decide_eq_false_iff_not, beq_iff_eq, bne_iff_ne, ne_eq, Bool.not_eq_true', Bool.not_eq_false', beq_eq_false_iff_ne, bne_eq_false_iff_eq, Int.not_lt, Int.not_le, gt_iff_lt, ge_iff_le, Bool.and_eq_true, Bool.or_eq_true, Bool.and_eq_false_iff, Bool.or_eq_false_iff, Decidable.not_not, not_true_eq_false, not_false_eq_true, and_true, true_and, or_false, false_or, or_true, true_or, and_false, false_and, eq_self, Bool.true_eq_false, Bool.false_eq_true] at hc) <;> (try (exfalso; omega))) | fail))
  · refine au_done1 rfl ?_
    intro w hw; refine ⟨(), ?_, hw.sub (by repeat (first | exact List.Sublist.refl _ | assumption | apply List.Sublist.cons_cons | apply List.Sublist.cons))⟩
    rw [decide_eq_false]
    rintro rfl
    exact hc rfl
  · have hll : l.length = l'.length := by omega
    refine tri_block ?_
    refine tri_loop1 (fun k => k ≤ l.length ∧ ∀ j, j < k → l.getD j default = l'.getD j default) (fun k => [(0, v), (1, v'), (5, .int .i64 (k : Int))]) (fun _ => Hp w0 cs) (fun k => l.length - k)
      0 ⟨by omega, fun j hj => by omega⟩ (by repeat (first | exact trivial | refine ⟨rfl, ?_⟩)) (fun _ h => h) ?_
    rintro k ⟨hk, hp⟩
    (repeat' (first | refine au_pure ?_ | refine au_pass ?_ | refine au_box (fun _ => ?_) | refine au_alloc (fun _ => ?_) | refine au_store ?_ | refine au_make rfl rfl (fun _ => ?_) | refine au_lit rfl rfl rfl (fun _ => ?_) | refine au_append rfl rfl rfl rfl (fun _ => au_norm ?_) | refine au_storeE rfl rfl rfl rfl ?_ | refine tri_seq ?_ | refine tri_then ?_ | refine tri_region ?_ | refine tri_nil ?_ | refine tri_skip ?_ | refine tri_ret ?_ | refine tri_exit ?_ | refine tri_thenr ?_ | refine tri_thene ?_ | refine tri_blkn ?_ | refine tri_blkr ?_ | refine tri_blke ?_ | refine tri_blko (by rfl) ?_ | refine tri_if_t (by rfl) ?_ | refine tri_if_f (by rfl) ?_ | ((first | refine tri_cond (by rfl) (fun hc => ?_) (fun hc => ?_) | refine tri_gsplit (by rfl) (by rfl) (by (fail_if_success exact (rfl : _ = some (Value.bool true))); (fail_if_success exact (rfl : _ = some (Value.bool false))); rfl) (fun hc => ?_) (fun hc => ?_)) <;> (try simp only [decide_eq_true_eq, decide_eq_false_iff_not, beq_iff_eq, bne_iff_ne, ne_eq, Bool.not_eq_true', Bool.not_eq_false', beq_eq_false_iff_ne, bne_eq_false_iff_eq, Int.not_lt, Int.not_le, gt_iff_lt, ge_iff_le, Bool.and_eq_true, Bool.or_eq_true, Bool.and_eq_false_iff, Bool.or_eq_false_iff, Decidable.not_not, not_true_eq_false, not_false_eq_true, and_true, true_and, or_false, false_or, or_true, true_or, and_false, false_and, eq_self, Bool.true_eq_false, Bool.false_eq_true] at hc) <;> (try (exfalso; omega))) | fail))
    · refine tri_block ?_
      refine tri_seq ?_
      refine au_draw rfl ?_; repeat (first | refine au_qpure rfl rfl ?_ | refine au_qpass rfl rfl ?_ | refine triq_nil ?_)
      (repeat' (first | refine au_pure ?_ | refine au_pass ?_ | refine au_box (fun _ => ?_) | refine au_alloc (fun _ => ?_) | refine au_store ?_ | refine au_make rfl rfl (fun _ => ?_) | refine au_lit rfl rfl rfl (fun _ => ?_) | refine au_append rfl rfl rfl rfl (fun _ => au_norm ?_) | refine au_storeE rfl rfl rfl rfl ?_ | refine tri_seq ?_ | refine tri_then ?_ | refine tri_region ?_ | refine tri_nil ?_ | refine tri_skip ?_ | refine tri_ret ?_ | refine tri_exit ?_ | refine tri_thenr ?_ | refine tri_thene ?_ | refine tri_blkn ?_ | refine tri_blkr ?_ | refine tri_blke ?_ | refine tri_blko (by rfl) ?_ | refine tri_if_t (by rfl) ?_ | refine tri_if_f (by rfl) ?_ | ((first | refine tri_cond (by rfl) (fun hc => ?_) (fun hc => ?_) | refine tri_gsplit (by rfl) (by rfl) (by (fail_if_success exact (rfl : _ = some (Value.bool true))); (fail_if_success exact (rfl : _ = some (Value.bool false))); rfl) (fun hc => ?_) (fun hc => ?_)) <;> (try simp only [decide_eq_true_eq, decide_eq_false_iff_not, beq_iff_eq, bne_iff_ne, ne_eq, Bool.not_eq_true', Bool.not_eq_false', beq_eq_false_iff_ne, bne_eq_false_iff_eq, Int.not_lt, Int.not_le, gt_iff_lt, ge_iff_le, Bool.and_eq_true, Bool.or_eq_true, Bool.and_eq_false_iff, Bool.or_eq_false_iff, Decidable.not_not, not_true_eq_false, not_false_eq_true, and_true, true_and, or_false, false_or, or_true, true_or, and_false, false_and, eq_self, Bool.true_eq_false, Bool.false_eq_true] at hc) <;> (try (exfalso; omega))) | fail))
      · refine au_done1 rfl ?_
        intro w hw; refine ⟨(), ?_, hw.sub (by repeat (first | exact List.Sublist.refl _ | assumption | apply List.Sublist.cons_cons | apply List.Sublist.cons))⟩
        rw [decide_eq_false]
        rintro rfl
        simp at hc
      · refine tri_nx1 (k + 1) (by omega) ⟨by omega, fun j hj => ?_⟩ (by repeat (first | exact trivial | refine ⟨rfl, ?_⟩)) (fun _ h => h)
        rcases Nat.lt_or_eq_of_le (Nat.le_of_lt_succ hj) with h | rfl
        · exact hp j h
        · exact slot_ext hc.1 hc.2
    · have he : l = l' := by
        apply List.ext_getElem hll
        intro j h1 h2
        rw [← getD_get h1, ← getD_get h2]
        exact hp j (by omega)
      refine au_done1 rfl ?_
      intro w hw; refine ⟨(), ?_, hw.sub (by repeat (first | exact List.Sublist.refl _ | assumption | apply List.Sublist.cons_cons | apply List.Sublist.cons))⟩
      rw [decide_eq_true he]
end
end Go.Proofs.Ytkkemgdklfaglaa
