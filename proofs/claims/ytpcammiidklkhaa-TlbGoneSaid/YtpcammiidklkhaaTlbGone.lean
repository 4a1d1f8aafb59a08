/- The law TlbGone. No conditions. -/
import Derived.Test.YtpcammiidklkhaaTlbLaws
import Derived.Test.YtpcammiidklkhaaTlbInv
set_option linter.unusedSimpArgs false
set_option linter.unusedVariables false
namespace Go.Proofs.Ytpcammiidklkhaa
open Go Go.RowKit
attribute [local irreducible] Code.wp wpList bodyPost Exit.then Exit.inBlock Calls wpQuiet Tri TriQ
theorem filter_at {α : Type} [Inhabited α] (q : α → Bool) {l : List α} {i : Nat} (hi : i < l.length) (h : q (l.getD i default) = true) : (l.take i).countP q < (l.filter q).length ∧ (l.filter q).getD ((l.take i).countP q) default = l.getD i default := by
  have e : l.filter q = (l.take i).filter q ++ l.getD i default :: (l.drop (i + 1)).filter q := by
    have h1 : l = l.take i ++ l.getD i default :: l.drop (i + 1) := by
      conv => lhs; rw [← List.take_append_drop i l]
      congr 1
      rw [getD_get hi]
      exact List.drop_eq_getElem_cons hi
    conv => lhs; rw [h1]
    rw [List.filter_append, List.filter_cons, if_pos h]
  have hc : (l.take i).countP q = ((l.take i).filter q).length := List.countP_eq_length_filter
  rw [e, hc]
  refine ⟨by simp, ?_⟩
  rw [getD_app, if_neg (by omega), Nat.sub_self]
  rfl
/-- What Fill leaves: the page is found with its word, and without it the others stay. -/
theorem gone_fill {z : Int} {l : List TE} {s p u : Int} (hI : Iv z l) (he : mkE z l s p u = 0) (hub : 0 ≤ u ∧ u < 18446744073709551616) :
    Iv z (mkL z l (mkX s p u)) ∧ lookM z (mkL z l (mkX s p u)) s p = (u, true) ∧ invE z (mkL z l (mkX s p u)) s p = 0 ∧ (invL (mkL z l (mkX s p u)) s p).length + 1 = (mkL z l (mkX s p u)).length ∧ (lookM z (invL (mkL z l (mkX s p u)) s p) s p).2 = false := by
  obtain ⟨_, h1, h2⟩ := mkE_zero he
  have hv := mkX_vd h1 h2
  obtain ⟨x, hx⟩ : ∃ x, x = mkX s p u := ⟨_, rfl⟩
  have hI' : Iv z (mkL z l x) := by rw [hx]; exact iv_fill hI hv (mkX_wf h1 h2 hub)
  have hxw : x.w = u := by rw [hx]; rfl
  have hc : covM x s p = true := by
    obtain ⟨a, b⟩ := plc_ok h1
    rw [hx]
    unfold covM spanM mkX grp
    rw [decide_eq_true_eq]
    refine ⟨rfl, ?_⟩
    cases hu u
    · simp only [Bool.false_eq_true, if_false]; omega
    · simp only [if_true]; omega
  have hn : ∀ y ∈ dropK z (mkK l x), covM y s p = false := fun y hy => by
    have := (mkK_mem (dropK_mem hy)).2
    cases hcy : covM y s p
    · rfl
    · rw [cov_ov hc hcy] at this; cases this
  rw [← hx] at hv ⊢
  have hk : checkM z (mkL z l x) = 0 := check_ok.2 hI'.ok
  have hlen : (mkL z l x).length = (dropK z (mkK l x)).length + 1 := by unfold mkL; simp
  have hat : (mkL z l x).getD (dropK z (mkK l x)).length default = x := by
    unfold mkL
    rw [getD_app, if_neg (by omega), Nat.sub_self]; rfl
  have hbf : ∀ j, j < (dropK z (mkK l x)).length → covM ((mkL z l x).getD j default) s p = false := fun j hj => by
    have : (mkL z l x).getD j default = (dropK z (mkK l x)).getD j default := by unfold mkL; rw [getD_app, if_pos hj]
    rw [this]
    exact hn _ (mem_getD' hj)
  have hinv : invL (mkL z l x) s p = dropK z (mkK l x) := by
    unfold invL mkL
    rw [List.filter_append]
    have e1 : (dropK z (mkK l x)).filter (fun y => !covM y s p) = dropK z (mkK l x) := List.filter_eq_self.2 fun y hy => by rw [hn y hy]; rfl
    have e2 : [x].filter (fun y => !covM y s p) = [] := by simp [hc]
    rw [e1, e2, List.append_nil]
  refine ⟨hI', ?_, ?_, by rw [hinv, hlen], ?_⟩
  · unfold lookM
    rw [if_pos hk, look_at (k := (dropK z (mkK l x)).length) (by omega) (by rw [hat]; exact hc) hbf, hat, hxw]
  · unfold invE
    rw [if_pos hk, h1]
  · rw [hinv]
    have hI2 : Iv z (dropK z (mkK l x)) := iv_dropK (iv_filter hI _)
    unfold lookM
    rw [if_pos (check_ok.2 hI2.ok), look_cnt]
    apply decide_eq_false
    have : cntC (dropK z (mkK l x)) s p = 0 := List.countP_eq_zero.2 fun y hy => by rw [hn y hy]; simp
    omega
theorem gone_flush {z : Int} {l : List TE} (hI : Iv z l) (s p : Int) : (lookM z (flL l s) s p).2 = false := by
  have hI2 : Iv z (flL l s) := iv_filter hI _
  unfold lookM
  rw [if_pos (check_ok.2 hI2.ok), look_cnt]
  apply decide_eq_false
  have : cntC (flL l s) s p = 0 := List.countP_eq_zero.2 fun y hy => by
    have := (List.mem_filter.1 hy).2
    unfold covM
    simp at this
    simp
    intro h
    exact absurd h this
  omega
section
variable (w0 : World) (cs : List Chunk)
set_option maxHeartbeats 4000000 in
theorem gone_c {z s p u : Int} {v : Value} {l : List TE} (hR : RdH (Hp w0 cs) v l) (hlen : l.length ≤ 9223372036854775807) (hw : ∀ x ∈ l, Wf x) (hu0 : 0 ≤ u) (hu1 : u < 18446744073709551616) :
    Cal Try.prog 10 [tlbV z v, .agg #[.int .i64 s, .int .i64 p], .int .u64 u] (Hp w0 cs) (fun _ : Unit => .bool true) (fun _ => Hp w0 cs) := by
  refine cal_of_tri Try.func10 rfl Try.ntmps10 rfl ?_
  (repeat (first | refine au_pure ?_ | refine au_pass ?_ | refine au_box (fun _ => ?_) | refine au_alloc (fun _ => ?_) | refine au_store ?_ | refine au_make rfl rfl (fun _ => ?_) | refine au_lit rfl rfl rfl (fun _ => ?_) | refine au_append rfl rfl rfl rfl (fun _ => au_norm ?_) | refine au_storeE rfl rfl rfl rfl ?_ | refine tri_seq ?_ | refine tri_then ?_ | refine tri_region ?_ | refine tri_nil ?_ | refine tri_skip ?_ | refine tri_ret ?_ | refine tri_exit ?_ | refine tri_thenr ?_ | refine tri_thene ?_ | refine tri_blkn ?_ | refine tri_blkr ?_ | refine tri_blke ?_ | refine tri_blko (by rfl) ?_ | refine tri_if_t (by rfl) ?_ | refine tri_if_f (by rfl) ?_ | fail))
  rename_i g3 g4
  refine au_callC rfl rfl rfl rfl rfl (few_c w0 _ (l := l) 20 (by repeat (first | assumption | exact rd_chunk (by first | (apply has_at; (repeat (first | exact at0 | apply atS)); done) | (repeat (first | assumption | apply has_cons))) | apply RdH.cons | refine RdH.cut ?_ rfl (by omega) (by omega))) hlen) (fun _ => ?_)
  (repeat' (first | refine au_pure ?_ | refine au_pass ?_ | refine au_box (fun _ => ?_) | refine au_alloc (fun _ => ?_) | refine au_store ?_ | refine au_make rfl rfl (fun _ => ?_) | refine au_lit rfl rfl rfl (fun _ => ?_) | refine au_append rfl rfl rfl rfl (fun _ => au_norm ?_) | refine au_storeE rfl rfl rfl rfl ?_ | refine tri_seq ?_ | refine tri_then ?_ | refine tri_region ?_ | refine tri_nil ?_ | refine tri_skip ?_ | refine tri_ret ?_ | refine tri_exit ?_ | refine tri_thenr ?_ | refine tri_thene ?_ | refine tri_blkn ?_ | refine tri_blkr ?_ | refine tri_blke ?_ | refine tri_blko (by rfl) ?_ | refine tri_if_t (by rfl) ?_ | refine tri_if_f (by rfl) ?_ | ((first | refine tri_cond (by rfl) (fun hc => ?_) (fun hc => ?_) | refine tri_gsplit (by rfl) (by rfl) (by (fail_if_success exact (rfl : _ = some (Value.bool true))); (fail_if_success exact (rfl : _ = some (Value.bool false))); rfl) (fun hc => ?_) (fun hc => ?_)) <;> (try simp only [decide_eq_true_eq, decide_eq_false_iff_not, beq_iff_eq, bne_iff_ne, ne_eq, Bool.not_eq_true', Bool.not_eq_false', beq_eq_false_iff_ne, bne_eq_false_iff_eq, Int.not_lt, Int.not_le, gt_iff_lt, ge_iff_le, Bool.and_eq_true, Bool.or_eq_true, Bool.and_eq_false_iff, Bool.or_eq_false_iff, Decidable.not_not, not_true_eq_false, not_false_eq_true, and_true, true_and, or_false, false_or, or_true, true_or, and_false, false_and, eq_self, Bool.true_eq_false, Bool.false_eq_true] at hc) <;> (try (exfalso; omega))) | fail))
  · refine au_callC rfl rfl rfl rfl rfl (awake_c w0 _) (fun _ => ?_)
    (repeat (first | refine au_pure ?_ | refine au_pass ?_ | refine au_box (fun _ => ?_) | refine au_alloc (fun _ => ?_) | refine au_store ?_ | refine au_make rfl rfl (fun _ => ?_) | refine au_lit rfl rfl rfl (fun _ => ?_) | refine au_append rfl rfl rfl rfl (fun _ => au_norm ?_) | refine au_storeE rfl rfl rfl rfl ?_ | refine tri_seq ?_ | refine tri_then ?_ | refine tri_region ?_ | refine tri_nil ?_ | refine tri_skip ?_ | refine tri_ret ?_ | refine tri_exit ?_ | refine tri_thenr ?_ | refine tri_thene ?_ | refine tri_blkn ?_ | refine tri_blkr ?_ | refine tri_blke ?_ | refine tri_blko (by rfl) ?_ | refine tri_if_t (by rfl) ?_ | refine tri_if_f (by rfl) ?_ | fail))
    refine au_done1 rfl ?_
    intro w hw; exact ⟨(), rfl, hw.sub (by repeat (first | exact List.Sublist.refl _ | assumption | apply List.Sublist.cons_cons | apply List.Sublist.cons))⟩
  refine au_callC rfl rfl rfl rfl rfl (rcheck_c w0 _ (z := z) (l := l) (by repeat (first | assumption | exact rd_chunk (by first | (apply has_at; (repeat (first | exact at0 | apply atS)); done) | (repeat (first | assumption | apply has_cons))) | apply RdH.cons | refine RdH.cut ?_ rfl (by omega) (by omega))) hlen hw) (fun _ => ?_)
  (repeat' (first | refine au_pure ?_ | refine au_pass ?_ | refine au_box (fun _ => ?_) | refine au_alloc (fun _ => ?_) | refine au_store ?_ | refine au_make rfl rfl (fun _ => ?_) | refine au_lit rfl rfl rfl (fun _ => ?_) | refine au_append rfl rfl rfl rfl (fun _ => au_norm ?_) | refine au_storeE rfl rfl rfl rfl ?_ | refine tri_seq ?_ | refine tri_then ?_ | refine tri_region ?_ | refine tri_nil ?_ | refine tri_skip ?_ | refine tri_ret ?_ | refine tri_exit ?_ | refine tri_thenr ?_ | refine tri_thene ?_ | refine tri_blkn ?_ | refine tri_blkr ?_ | refine tri_blke ?_ | refine tri_blko (by rfl) ?_ | refine tri_if_t (by rfl) ?_ | refine tri_if_f (by rfl) ?_ | ((first | refine tri_cond (by rfl) (fun hc => ?_) (fun hc => ?_) | refine tri_gsplit (by rfl) (by rfl) (by (fail_if_success exact (rfl : _ = some (Value.bool true))); (fail_if_success exact (rfl : _ = some (Value.bool false))); rfl) (fun hc => ?_) (fun hc => ?_)) <;> (try simp only [decide_eq_true_eq, decide_eq_false_iff_not, beq_iff_eq, bne_iff_ne, ne_eq, Bool.not_eq_true', Bool.not_eq_false', beq_eq_false_iff_ne, bne_eq_false_iff_eq, Int.not_lt, Int.not_le, gt_iff_lt, ge_iff_le, Bool.and_eq_true, Bool.or_eq_true, Bool.and_eq_false_iff, Bool.or_eq_false_iff, Decidable.not_not, not_true_eq_false, not_false_eq_true, and_true, true_and, or_false, false_or, or_true, true_or, and_false, false_and, eq_self, Bool.true_eq_false, Bool.false_eq_true] at hc) <;> (try (exfalso; omega))) | fail))
  · refine au_callC rfl rfl rfl rfl rfl (awake_c w0 _) (fun _ => ?_)
    (repeat (first | refine au_pure ?_ | refine au_pass ?_ | refine au_box (fun _ => ?_) | refine au_alloc (fun _ => ?_) | refine au_store ?_ | refine au_make rfl rfl (fun _ => ?_) | refine au_lit rfl rfl rfl (fun _ => ?_) | refine au_append rfl rfl rfl rfl (fun _ => au_norm ?_) | refine au_storeE rfl rfl rfl rfl ?_ | refine tri_seq ?_ | refine tri_then ?_ | refine tri_region ?_ | refine tri_nil ?_ | refine tri_skip ?_ | refine tri_ret ?_ | refine tri_exit ?_ | refine tri_thenr ?_ | refine tri_thene ?_ | refine tri_blkn ?_ | refine tri_blkr ?_ | refine tri_blke ?_ | refine tri_blko (by rfl) ?_ | refine tri_if_t (by rfl) ?_ | refine tri_if_f (by rfl) ?_ | fail))
    refine au_done1 rfl ?_
    intro w hw; exact ⟨(), rfl, hw.sub (by repeat (first | exact List.Sublist.refl _ | assumption | apply List.Sublist.cons_cons | apply List.Sublist.cons))⟩
  have hok : checkM z l = 0 := by assumption
  have hI : Iv z l := ⟨check_ok.1 hok, hw⟩
  have hll := hI.len
  refine au_draw rfl ?_
  (repeat (first | refine au_qpure rfl rfl ?_ | refine au_qpure rfl rfl (hy := yl_idxA rfl rfl (by first | exact ix_nat rfl | exact ix_int rfl (by omega)) (by decide)) ?_ | refine au_qpass rfl rfl ?_ | refine triq_nil ?_))
  (repeat (first | refine au_pure ?_ | refine au_pass ?_ | refine au_box (fun _ => ?_) | refine au_alloc (fun _ => ?_) | refine au_store ?_ | refine au_make rfl rfl (fun _ => ?_) | refine au_lit rfl rfl rfl (fun _ => ?_) | refine au_append rfl rfl rfl rfl (fun _ => au_norm ?_) | refine au_storeE rfl rfl rfl rfl ?_ | refine tri_seq ?_ | refine tri_then ?_ | refine tri_region ?_ | refine tri_nil ?_ | refine tri_skip ?_ | refine tri_ret ?_ | refine tri_exit ?_ | refine tri_thenr ?_ | refine tri_thene ?_ | refine tri_blkn ?_ | refine tri_blkr ?_ | refine tri_blke ?_ | refine tri_blko (by rfl) ?_ | refine tri_if_t (by rfl) ?_ | refine tri_if_f (by rfl) ?_ | fail))
  refine au_callC rfl rfl rfl rfl rfl (fill_c w0 _ (z := z) (l := l) s p u (by repeat (first | assumption | exact rd_chunk (by first | (apply has_at; (repeat (first | exact at0 | apply atS)); done) | (repeat (first | assumption | apply has_cons))) | apply RdH.cons | refine RdH.cut ?_ rfl (by omega) (by omega))) hlen hw hu0 hu1) ?_
  intro rx
  (repeat (first | refine au_pure ?_ | refine au_pass ?_ | refine au_box (fun _ => ?_) | refine au_alloc (fun _ => ?_) | refine au_store ?_ | refine au_make rfl rfl (fun _ => ?_) | refine au_lit rfl rfl rfl (fun _ => ?_) | refine au_append rfl rfl rfl rfl (fun _ => au_norm ?_) | refine au_storeE rfl rfl rfl rfl ?_ | refine tri_seq ?_ | refine tri_then ?_ | refine tri_region ?_ | refine tri_nil ?_ | refine tri_skip ?_ | refine tri_ret ?_ | refine tri_exit ?_ | refine tri_thenr ?_ | refine tri_thene ?_ | refine tri_blkn ?_ | refine tri_blkr ?_ | refine tri_blke ?_ | refine tri_blko (by rfl) ?_ | refine tri_if_t (by rfl) ?_ | refine tri_if_f (by rfl) ?_ | fail))
  refine tri_cut1 (fun _ : Unit => True) (fun _ => [(3, .pointer (some ⟨g3, 0, none⟩)), (6, .bool false), (7, .int .i64 s), (8, .int .i64 p)]) (fun _ => Hp w0 (tlbC g3 z v :: cs)) ?_ ?_
  · ((first | refine tri_cond (by rfl) (fun hc => ?_) (fun hc => ?_) | refine tri_gsplit (by rfl) (by rfl) (by (fail_if_success exact (rfl : _ = some (Value.bool true))); (fail_if_success exact (rfl : _ = some (Value.bool false))); rfl) (fun hc => ?_) (fun hc => ?_)) <;> (try simp only [decide_eq_true_eq, decide_eq_false_iff_not, beq_iff_eq, bne_iff_ne, ne_eq, Bool.not_eq_true', Bool.not_eq_false', beq_eq_false_iff_ne, bne_eq_false_iff_eq, Int.not_lt, Int.not_le, gt_iff_lt, ge_iff_le, Bool.and_eq_true, Bool.or_eq_true, Bool.and_eq_false_iff, Bool.or_eq_false_iff, Decidable.not_not, not_true_eq_false, not_false_eq_true, and_true, true_and, or_false, false_or, or_true, true_or, and_false, false_and, eq_self, Bool.true_eq_false, Bool.false_eq_true] at hc) <;> (try (exfalso; omega)))
    · have he : mkE z l s p u = 0 := by assumption
      obtain ⟨i1, i2, i3, i4, i5⟩ := gone_fill hI he ⟨hu0, hu1⟩
      obtain ⟨x, hx⟩ : ∃ x, x = mkL z l (mkX s p u) := ⟨_, rfl⟩
      have hz0 : resZ 0 z = z := rfl
      have hx0 : resL 0 x = x := rfl
      rw [he, hz0, ← hx, hx0]
      rw [← hx] at i1 i2 i3 i4 i5
      have hlx := i1.len
      (repeat (first | refine au_pure ?_ | refine au_pass ?_ | refine au_box (fun _ => ?_) | refine au_alloc (fun _ => ?_) | refine au_store ?_ | refine au_make rfl rfl (fun _ => ?_) | refine au_lit rfl rfl rfl (fun _ => ?_) | refine au_append rfl rfl rfl rfl (fun _ => au_norm ?_) | refine au_storeE rfl rfl rfl rfl ?_ | refine tri_seq ?_ | refine tri_then ?_ | refine tri_region ?_ | refine tri_nil ?_ | refine tri_skip ?_ | refine tri_ret ?_ | refine tri_exit ?_ | refine tri_thenr ?_ | refine tri_thene ?_ | refine tri_blkn ?_ | refine tri_blkr ?_ | refine tri_blke ?_ | refine tri_blko (by rfl) ?_ | refine tri_if_t (by rfl) ?_ | refine tri_if_f (by rfl) ?_ | fail))
      refine au_callC rfl rfl rfl rfl rfl (lookup_at w0 _ (z := z) (l := x) s p (by repeat (first | assumption | exact rd_chunk (by first | (apply has_at; (repeat (first | exact at0 | apply atS)); done) | (repeat (first | assumption | apply has_cons))) | apply RdH.cons | refine RdH.cut ?_ rfl (by omega) (by omega))) (by omega) i1.wf i2) (fun _ => ?_)
      (repeat (first | refine au_pure ?_ | refine au_pass ?_ | refine au_box (fun _ => ?_) | refine au_alloc (fun _ => ?_) | refine au_store ?_ | refine au_make rfl rfl (fun _ => ?_) | refine au_lit rfl rfl rfl (fun _ => ?_) | refine au_append rfl rfl rfl rfl (fun _ => au_norm ?_) | refine au_storeE rfl rfl rfl rfl ?_ | refine tri_seq ?_ | refine tri_then ?_ | refine tri_region ?_ | refine tri_nil ?_ | refine tri_skip ?_ | refine tri_ret ?_ | refine tri_exit ?_ | refine tri_thenr ?_ | refine tri_thene ?_ | refine tri_blkn ?_ | refine tri_blkr ?_ | refine tri_blke ?_ | refine tri_blko (by rfl) ?_ | refine tri_if_t (by rfl) ?_ | refine tri_if_f (by rfl) ?_ | fail))
      rw [bne_self_eq_false u]
      (repeat (first | refine au_pure ?_ | refine au_pass ?_ | refine au_box (fun _ => ?_) | refine au_alloc (fun _ => ?_) | refine au_store ?_ | refine au_make rfl rfl (fun _ => ?_) | refine au_lit rfl rfl rfl (fun _ => ?_) | refine au_append rfl rfl rfl rfl (fun _ => au_norm ?_) | refine au_storeE rfl rfl rfl rfl ?_ | refine tri_seq ?_ | refine tri_then ?_ | refine tri_region ?_ | refine tri_nil ?_ | refine tri_skip ?_ | refine tri_ret ?_ | refine tri_exit ?_ | refine tri_thenr ?_ | refine tri_thene ?_ | refine tri_blkn ?_ | refine tri_blkr ?_ | refine tri_blke ?_ | refine tri_blko (by rfl) ?_ | refine tri_if_t (by rfl) ?_ | refine tri_if_f (by rfl) ?_ | fail))
      refine au_callC rfl rfl rfl rfl rfl (inval_c w0 _ (z := z) (l := x) s p (by repeat (first | assumption | exact rd_chunk (by first | (apply has_at; (repeat (first | exact at0 | apply atS)); done) | (repeat (first | assumption | apply has_cons))) | apply RdH.cons | refine RdH.cut ?_ rfl (by omega) (by omega))) (by omega) i1.wf) ?_
      intro ry
      rw [i3]
      obtain ⟨y, hy⟩ : ∃ y, y = invL x s p := ⟨_, rfl⟩
      have hy0 : resL 0 y = y := rfl
      have hwy : ∀ e ∈ y, Wf e := fun e he => i1.wf e (by rw [hy] at he; exact (List.mem_filter.1 he).1)
      rw [hz0, ← hy, hy0]
      rw [← hy] at i4 i5
      (repeat (first | refine au_pure ?_ | refine au_pass ?_ | refine au_box (fun _ => ?_) | refine au_alloc (fun _ => ?_) | refine au_store ?_ | refine au_make rfl rfl (fun _ => ?_) | refine au_lit rfl rfl rfl (fun _ => ?_) | refine au_append rfl rfl rfl rfl (fun _ => au_norm ?_) | refine au_storeE rfl rfl rfl rfl ?_ | refine tri_seq ?_ | refine tri_then ?_ | refine tri_region ?_ | refine tri_nil ?_ | refine tri_skip ?_ | refine tri_ret ?_ | refine tri_exit ?_ | refine tri_thenr ?_ | refine tri_thene ?_ | refine tri_blkn ?_ | refine tri_blkr ?_ | refine tri_blke ?_ | refine tri_blko (by rfl) ?_ | refine tri_if_t (by rfl) ?_ | refine tri_if_f (by rfl) ?_ | fail))
      refine au_callC rfl rfl rfl rfl rfl (covers_at w0 _ (z := z) (l := y) s p (by repeat (first | assumption | exact rd_chunk (by first | (apply has_at; (repeat (first | exact at0 | apply atS)); done) | (repeat (first | assumption | apply has_cons))) | apply RdH.cons | refine RdH.cut ?_ rfl (by omega) (by omega))) (by omega) hwy i5) (fun _ => ?_)
      (repeat (first | refine au_pure ?_ | refine au_pass ?_ | refine au_box (fun _ => ?_) | refine au_alloc (fun _ => ?_) | refine au_store ?_ | refine au_make rfl rfl (fun _ => ?_) | refine au_lit rfl rfl rfl (fun _ => ?_) | refine au_append rfl rfl rfl rfl (fun _ => au_norm ?_) | refine au_storeE rfl rfl rfl rfl ?_ | refine tri_seq ?_ | refine tri_then ?_ | refine tri_region ?_ | refine tri_nil ?_ | refine tri_skip ?_ | refine tri_ret ?_ | refine tri_exit ?_ | refine tri_thenr ?_ | refine tri_thene ?_ | refine tri_blkn ?_ | refine tri_blkr ?_ | refine tri_blke ?_ | refine tri_blko (by rfl) ?_ | refine tri_if_t (by rfl) ?_ | refine tri_if_f (by rfl) ?_ | fail))
      rw [show ((y.length : Int) + 1 != (x.length : Int)) = false by rw [bne_eq_false_iff_eq]; omega]
      (repeat (first | refine au_pure ?_ | refine au_pass ?_ | refine au_box (fun _ => ?_) | refine au_alloc (fun _ => ?_) | refine au_store ?_ | refine au_make rfl rfl (fun _ => ?_) | refine au_lit rfl rfl rfl (fun _ => ?_) | refine au_append rfl rfl rfl rfl (fun _ => au_norm ?_) | refine au_storeE rfl rfl rfl rfl ?_ | refine tri_seq ?_ | refine tri_then ?_ | refine tri_region ?_ | refine tri_nil ?_ | refine tri_skip ?_ | refine tri_ret ?_ | refine tri_exit ?_ | refine tri_thenr ?_ | refine tri_thene ?_ | refine tri_blkn ?_ | refine tri_blkr ?_ | refine tri_blke ?_ | refine tri_blko (by rfl) ?_ | refine tri_if_t (by rfl) ?_ | refine tri_if_f (by rfl) ?_ | fail))
      exact tri_mt1 () trivial (by repeat (first | exact trivial | refine ⟨rfl, ?_⟩)) (fun _ h => h.sub (by repeat (first | exact List.Sublist.refl _ | assumption | apply List.Sublist.cons_cons | apply List.Sublist.cons)))
    · (repeat (first | refine au_pure ?_ | refine au_pass ?_ | refine au_box (fun _ => ?_) | refine au_alloc (fun _ => ?_) | refine au_store ?_ | refine au_make rfl rfl (fun _ => ?_) | refine au_lit rfl rfl rfl (fun _ => ?_) | refine au_append rfl rfl rfl rfl (fun _ => au_norm ?_) | refine au_storeE rfl rfl rfl rfl ?_ | refine tri_seq ?_ | refine tri_then ?_ | refine tri_region ?_ | refine tri_nil ?_ | refine tri_skip ?_ | refine tri_ret ?_ | refine tri_exit ?_ | refine tri_thenr ?_ | refine tri_thene ?_ | refine tri_blkn ?_ | refine tri_blkr ?_ | refine tri_blke ?_ | refine tri_blko (by rfl) ?_ | refine tri_if_t (by rfl) ?_ | refine tri_if_f (by rfl) ?_ | fail))
      exact tri_mt1 () trivial (by repeat (first | exact trivial | refine ⟨rfl, ?_⟩)) (fun _ h => h.sub (by repeat (first | exact List.Sublist.refl _ | assumption | apply List.Sublist.cons_cons | apply List.Sublist.cons)))
  rintro - -
  (repeat (first | refine au_pure ?_ | refine au_pass ?_ | refine au_box (fun _ => ?_) | refine au_alloc (fun _ => ?_) | refine au_store ?_ | refine au_make rfl rfl (fun _ => ?_) | refine au_lit rfl rfl rfl (fun _ => ?_) | refine au_append rfl rfl rfl rfl (fun _ => au_norm ?_) | refine au_storeE rfl rfl rfl rfl ?_ | refine tri_seq ?_ | refine tri_then ?_ | refine tri_region ?_ | refine tri_nil ?_ | refine tri_skip ?_ | refine tri_ret ?_ | refine tri_exit ?_ | refine tri_thenr ?_ | refine tri_thene ?_ | refine tri_blkn ?_ | refine tri_blkr ?_ | refine tri_blke ?_ | refine tri_blko (by rfl) ?_ | refine tri_if_t (by rfl) ?_ | refine tri_if_f (by rfl) ?_ | fail))
  refine au_callC rfl rfl rfl rfl rfl (flush_c w0 _ (z := z) (l := l) s (by repeat (first | assumption | exact rd_chunk (by first | (apply has_at; (repeat (first | exact at0 | apply atS)); done) | (repeat (first | assumption | apply has_cons))) | apply RdH.cons | refine RdH.cut ?_ rfl (by omega) (by omega))) hlen hw) ?_
  intro rz
  (repeat' (first | refine au_pure ?_ | refine au_pass ?_ | refine au_box (fun _ => ?_) | refine au_alloc (fun _ => ?_) | refine au_store ?_ | refine au_make rfl rfl (fun _ => ?_) | refine au_lit rfl rfl rfl (fun _ => ?_) | refine au_append rfl rfl rfl rfl (fun _ => au_norm ?_) | refine au_storeE rfl rfl rfl rfl ?_ | refine tri_seq ?_ | refine tri_then ?_ | refine tri_region ?_ | refine tri_nil ?_ | refine tri_skip ?_ | refine tri_ret ?_ | refine tri_exit ?_ | refine tri_thenr ?_ | refine tri_thene ?_ | refine tri_blkn ?_ | refine tri_blkr ?_ | refine tri_blke ?_ | refine tri_blko (by rfl) ?_ | refine tri_if_t (by rfl) ?_ | refine tri_if_f (by rfl) ?_ | ((first | refine tri_cond (by rfl) (fun hc => ?_) (fun hc => ?_) | refine tri_gsplit (by rfl) (by rfl) (by (fail_if_success exact (rfl : _ = some (Value.bool true))); (fail_if_success exact (rfl : _ = some (Value.bool false))); rfl) (fun hc => ?_) (fun hc => ?_)) <;> (try simp only [decide_eq_true_eq, decide_eq_false_iff_not, beq_iff_eq, bne_iff_ne, ne_eq, Bool.not_eq_true', Bool.not_eq_false', beq_eq_false_iff_ne, bne_eq_false_iff_eq, Int.not_lt, Int.not_le, gt_iff_lt, ge_iff_le, Bool.and_eq_true, Bool.or_eq_true, Bool.and_eq_false_iff, Bool.or_eq_false_iff, Decidable.not_not, not_true_eq_false, not_false_eq_true, and_true, true_and, or_false, false_or, or_true, true_or, and_false, false_and, eq_self, Bool.true_eq_false, Bool.false_eq_true] at hc) <;> (try (exfalso; omega))) | fail))
  · refine au_callC rfl rfl rfl rfl rfl (awake_c w0 _) (fun _ => ?_)
    (repeat (first | refine au_pure ?_ | refine au_pass ?_ | refine au_box (fun _ => ?_) | refine au_alloc (fun _ => ?_) | refine au_store ?_ | refine au_make rfl rfl (fun _ => ?_) | refine au_lit rfl rfl rfl (fun _ => ?_) | refine au_append rfl rfl rfl rfl (fun _ => au_norm ?_) | refine au_storeE rfl rfl rfl rfl ?_ | refine tri_seq ?_ | refine tri_then ?_ | refine tri_region ?_ | refine tri_nil ?_ | refine tri_skip ?_ | refine tri_ret ?_ | refine tri_exit ?_ | refine tri_thenr ?_ | refine tri_thene ?_ | refine tri_blkn ?_ | refine tri_blkr ?_ | refine tri_blke ?_ | refine tri_blko (by rfl) ?_ | refine tri_if_t (by rfl) ?_ | refine tri_if_f (by rfl) ?_ | fail))
    refine au_done1 rfl ?_
    intro w hw; exact ⟨(), rfl, hw.sub (by repeat (first | exact List.Sublist.refl _ | assumption | apply List.Sublist.cons_cons | apply List.Sublist.cons))⟩
  have hf : flE z l s = 0 := by assumption
  have hz0 : resZ 0 z = z := rfl
  obtain ⟨f, hfl⟩ : ∃ f, f = flL l s := ⟨_, rfl⟩
  have hx0 : resL 0 f = f := rfl
  have hIf : Iv z f := by rw [hfl]; exact iv_filter hI _
  have hlf := hIf.len
  have hgo := gone_flush hI s p
  rw [hf, hz0, ← hfl, hx0]
  rw [← hfl] at hgo
  rename_i g15
  refine tri_block ?_
  refine tri_loop1 (fun i => i ≤ l.length) (fun i => [(3, .pointer (some ⟨g3, 0, none⟩)), (6, .bool false), (7, .int .i64 s), (8, .int .i64 p), (15, .pointer (some ⟨g15, 0, none⟩)), (17, .int .i64 ((l.take i).countP (fun y => !(y.s == s)) : Nat)), (18, .int .i64 (i : Int))]) (fun i => Hp w0 (tlbC g15 z rz.v :: teS rz f :: tlbC g3 z v :: cs)) (fun i => l.length - i)
    0 (by omega) (by repeat (first | exact trivial | refine ⟨rfl, ?_⟩)) (fun _ h => h.sub (by repeat (first | exact List.Sublist.refl _ | assumption | apply List.Sublist.cons_cons | apply List.Sublist.cons))) ?_
  intro i hi
  obtain ⟨c, hcd⟩ : ∃ c, c = (l.take i).countP (fun y => !(y.s == s)) := ⟨_, rfl⟩
  have hcle : c ≤ l.length := by
    have := List.countP_le_length (p := fun y : TE => !(y.s == s)) (l := l.take i)
    rw [List.length_take] at this
    omega
  rw [← hcd]
  (repeat (first | refine au_pure ?_ | refine au_pass ?_ | refine au_box (fun _ => ?_) | refine au_alloc (fun _ => ?_) | refine au_store ?_ | refine au_make rfl rfl (fun _ => ?_) | refine au_lit rfl rfl rfl (fun _ => ?_) | refine au_append rfl rfl rfl rfl (fun _ => au_norm ?_) | refine au_storeE rfl rfl rfl rfl ?_ | refine tri_seq ?_ | refine tri_then ?_ | refine tri_region ?_ | refine tri_nil ?_ | refine tri_skip ?_ | refine tri_ret ?_ | refine tri_exit ?_ | refine tri_thenr ?_ | refine tri_thene ?_ | refine tri_blkn ?_ | refine tri_blkr ?_ | refine tri_blke ?_ | refine tri_blko (by rfl) ?_ | refine tri_if_t (by rfl) ?_ | refine tri_if_f (by rfl) ?_ | fail))
  ((first | refine tri_cond (by rfl) (fun hc => ?_) (fun hc => ?_) | refine tri_gsplit (by rfl) (by rfl) (by (fail_if_success exact (rfl : _ = some (Value.bool true))); (fail_if_success exact (rfl : _ = some (Value.bool false))); rfl) (fun hc => ?_) (fun hc => ?_)) <;> (try simp only [decide_eq_true_eq, decide_eq_false_iff_not, beq_iff_eq, bne_iff_ne, ne_eq, Bool.not_eq_true', Bool.not_eq_false', beq_eq_false_iff_ne, bne_eq_false_iff_eq, Int.not_lt, Int.not_le, gt_iff_lt, ge_iff_le, Bool.and_eq_true, Bool.or_eq_true, Bool.and_eq_false_iff, Bool.or_eq_false_iff, Decidable.not_not, not_true_eq_false, not_false_eq_true, and_true, true_and, or_false, false_or, or_true, true_or, and_false, false_and, eq_self, Bool.true_eq_false, Bool.false_eq_true] at hc) <;> (try (exfalso; omega)))
  · (repeat (first | refine au_pure ?_ | refine au_pass ?_ | refine au_box (fun _ => ?_) | refine au_alloc (fun _ => ?_) | refine au_store ?_ | refine au_make rfl rfl (fun _ => ?_) | refine au_lit rfl rfl rfl (fun _ => ?_) | refine au_append rfl rfl rfl rfl (fun _ => au_norm ?_) | refine au_storeE rfl rfl rfl rfl ?_ | refine tri_seq ?_ | refine tri_then ?_ | refine tri_region ?_ | refine tri_nil ?_ | refine tri_skip ?_ | refine tri_ret ?_ | refine tri_exit ?_ | refine tri_thenr ?_ | refine tri_thene ?_ | refine tri_blkn ?_ | refine tri_blkr ?_ | refine tri_blke ?_ | refine tri_blko (by rfl) ?_ | refine tri_if_t (by rfl) ?_ | refine tri_if_f (by rfl) ?_ | fail))
    refine tri_block ?_
    have hcs := count_step (fun y : TE => !(y.s == s)) (l := l) (k := i) (by omega)
    rw [← hcd] at hcs
    (repeat (first | refine au_pure ?_ | refine au_pass ?_ | refine au_box (fun _ => ?_) | refine au_alloc (fun _ => ?_) | refine au_store ?_ | refine au_make rfl rfl (fun _ => ?_) | refine au_lit rfl rfl rfl (fun _ => ?_) | refine au_append rfl rfl rfl rfl (fun _ => au_norm ?_) | refine au_storeE rfl rfl rfl rfl ?_ | refine tri_seq ?_ | refine tri_then ?_ | refine tri_region ?_ | refine tri_nil ?_ | refine tri_skip ?_ | refine tri_ret ?_ | refine tri_exit ?_ | refine tri_thenr ?_ | refine tri_thene ?_ | refine tri_blkn ?_ | refine tri_blkr ?_ | refine tri_blke ?_ | refine tri_blko (by rfl) ?_ | refine tri_if_t (by rfl) ?_ | refine tri_if_f (by rfl) ?_ | fail))
    ((first | refine tri_cond (by rfl) (fun hc => ?_) (fun hc => ?_) | refine tri_gsplit (by rfl) (by rfl) (by (fail_if_success exact (rfl : _ = some (Value.bool true))); (fail_if_success exact (rfl : _ = some (Value.bool false))); rfl) (fun hc => ?_) (fun hc => ?_)) <;> (try simp only [decide_eq_true_eq, decide_eq_false_iff_not, beq_iff_eq, bne_iff_ne, ne_eq, Bool.not_eq_true', Bool.not_eq_false', beq_eq_false_iff_ne, bne_eq_false_iff_eq, Int.not_lt, Int.not_le, gt_iff_lt, ge_iff_le, Bool.and_eq_true, Bool.or_eq_true, Bool.and_eq_false_iff, Bool.or_eq_false_iff, Decidable.not_not, not_true_eq_false, not_false_eq_true, and_true, true_and, or_false, false_or, or_true, true_or, and_false, false_and, eq_self, Bool.true_eq_false, Bool.false_eq_true] at hc) <;> (try (exfalso; omega)))
    · have hs : (l.getD i default).s = s := by assumption
      rw [show (!((l.getD i default).s == s)) = false by rw [hs, beq_self_eq_true]; rfl] at hcs
      (repeat (first | refine au_pure ?_ | refine au_pass ?_ | refine au_box (fun _ => ?_) | refine au_alloc (fun _ => ?_) | refine au_store ?_ | refine au_make rfl rfl (fun _ => ?_) | refine au_lit rfl rfl rfl (fun _ => ?_) | refine au_append rfl rfl rfl rfl (fun _ => au_norm ?_) | refine au_storeE rfl rfl rfl rfl ?_ | refine tri_seq ?_ | refine tri_then ?_ | refine tri_region ?_ | refine tri_nil ?_ | refine tri_skip ?_ | refine tri_ret ?_ | refine tri_exit ?_ | refine tri_thenr ?_ | refine tri_thene ?_ | refine tri_blkn ?_ | refine tri_blkr ?_ | refine tri_blke ?_ | refine tri_blko (by rfl) ?_ | refine tri_if_t (by rfl) ?_ | refine tri_if_f (by rfl) ?_ | fail))
      exact tri_nx1 (i + 1) (by omega) (by omega) (by rw [hcs]; repeat (first | exact trivial | refine ⟨rfl, ?_⟩)) (fun _ h => h.sub (by repeat (first | exact List.Sublist.refl _ | assumption | apply List.Sublist.cons_cons | apply List.Sublist.cons)))
    · have hs : ¬ (l.getD i default).s = s := by assumption
      have hq : (!((l.getD i default).s == s)) = true := by rw [beq_eq_false_iff_ne.2 hs]; rfl
      obtain ⟨q1, q2⟩ := filter_at (fun y : TE => !(y.s == s)) (l := l) (i := i) (by omega) hq
      have hff : l.filter (fun y : TE => !(y.s == s)) = f := hfl.symm
      rw [hq, if_pos rfl] at hcs
      rw [hff, ← hcd] at q1 q2
      (repeat (first | refine au_pure ?_ | refine au_pass ?_ | refine au_box (fun _ => ?_) | refine au_alloc (fun _ => ?_) | refine au_store ?_ | refine au_make rfl rfl (fun _ => ?_) | refine au_lit rfl rfl rfl (fun _ => ?_) | refine au_append rfl rfl rfl rfl (fun _ => au_norm ?_) | refine au_storeE rfl rfl rfl rfl ?_ | refine tri_seq ?_ | refine tri_then ?_ | refine tri_region ?_ | refine tri_nil ?_ | refine tri_skip ?_ | refine tri_ret ?_ | refine tri_exit ?_ | refine tri_thenr ?_ | refine tri_thene ?_ | refine tri_blkn ?_ | refine tri_blkr ?_ | refine tri_blke ?_ | refine tri_blko (by rfl) ?_ | refine tri_if_t (by rfl) ?_ | refine tri_if_f (by rfl) ?_ | fail))
      refine au_draw rfl ?_
      (repeat (first | refine au_qpure rfl rfl ?_ | refine au_qpass rfl rfl ?_ | refine triq_nil ?_))
      rw [decide_eq_false (show ¬ ((c : Int) ≥ (f.length : Int)) by omega)]
      (repeat (first | refine au_qpure rfl rfl ?_ | refine au_qpass rfl rfl ?_ | refine triq_nil ?_))
      rw [q2]
      (repeat' (first | refine au_pure ?_ | refine au_pass ?_ | refine au_box (fun _ => ?_) | refine au_alloc (fun _ => ?_) | refine au_store ?_ | refine au_make rfl rfl (fun _ => ?_) | refine au_lit rfl rfl rfl (fun _ => ?_) | refine au_append rfl rfl rfl rfl (fun _ => au_norm ?_) | refine au_storeE rfl rfl rfl rfl ?_ | refine tri_seq ?_ | refine tri_then ?_ | refine tri_region ?_ | refine tri_nil ?_ | refine tri_skip ?_ | refine tri_ret ?_ | refine tri_exit ?_ | refine tri_thenr ?_ | refine tri_thene ?_ | refine tri_blkn ?_ | refine tri_blkr ?_ | refine tri_blke ?_ | refine tri_blko (by rfl) ?_ | refine tri_if_t (by rfl) ?_ | refine tri_if_f (by rfl) ?_ | ((first | refine tri_cond (by rfl) (fun hc => ?_) (fun hc => ?_) | refine tri_gsplit (by rfl) (by rfl) (by (fail_if_success exact (rfl : _ = some (Value.bool true))); (fail_if_success exact (rfl : _ = some (Value.bool false))); rfl) (fun hc => ?_) (fun hc => ?_)) <;> (try simp only [decide_eq_true_eq, decide_eq_false_iff_not, beq_iff_eq, bne_iff_ne, ne_eq, Bool.not_eq_true', Bool.not_eq_false', beq_eq_false_iff_ne, bne_eq_false_iff_eq, Int.not_lt, Int.not_le, gt_iff_lt, ge_iff_le, Bool.and_eq_true, Bool.or_eq_true, Bool.and_eq_false_iff, Bool.or_eq_false_iff, Decidable.not_not, not_true_eq_false, not_false_eq_true, and_true, true_and, or_false, false_or, or_true, true_or, and_false, false_and, eq_self, Bool.true_eq_false, Bool.false_eq_true] at hc) <;> (try (exfalso; omega))) | fail))
      all_goals first
        | (exfalso; simp_all; done)
        | exact tri_nx1 (i + 1) (by omega) (by omega) (by rw [hcs]; repeat (first | exact trivial | refine ⟨rfl, ?_⟩)) (fun _ h => h.sub (by repeat (first | exact List.Sublist.refl _ | assumption | apply List.Sublist.cons_cons | apply List.Sublist.cons)))
  · have hil : i = l.length := by omega
    have hcf : c = f.length := by rw [hcd, hil, List.take_length, hfl]; exact List.countP_eq_length_filter
    (repeat (first | refine au_pure ?_ | refine au_pass ?_ | refine au_box (fun _ => ?_) | refine au_alloc (fun _ => ?_) | refine au_store ?_ | refine au_make rfl rfl (fun _ => ?_) | refine au_lit rfl rfl rfl (fun _ => ?_) | refine au_append rfl rfl rfl rfl (fun _ => au_norm ?_) | refine au_storeE rfl rfl rfl rfl ?_ | refine tri_seq ?_ | refine tri_then ?_ | refine tri_region ?_ | refine tri_nil ?_ | refine tri_skip ?_ | refine tri_ret ?_ | refine tri_exit ?_ | refine tri_thenr ?_ | refine tri_thene ?_ | refine tri_blkn ?_ | refine tri_blkr ?_ | refine tri_blke ?_ | refine tri_blko (by rfl) ?_ | refine tri_if_t (by rfl) ?_ | refine tri_if_f (by rfl) ?_ | fail))
    rw [show ((c : Int) == (f.length : Int)) = true by rw [beq_iff_eq, hcf]]
    (repeat (first | refine au_pure ?_ | refine au_pass ?_ | refine au_box (fun _ => ?_) | refine au_alloc (fun _ => ?_) | refine au_store ?_ | refine au_make rfl rfl (fun _ => ?_) | refine au_lit rfl rfl rfl (fun _ => ?_) | refine au_append rfl rfl rfl rfl (fun _ => au_norm ?_) | refine au_storeE rfl rfl rfl rfl ?_ | refine tri_seq ?_ | refine tri_then ?_ | refine tri_region ?_ | refine tri_nil ?_ | refine tri_skip ?_ | refine tri_ret ?_ | refine tri_exit ?_ | refine tri_thenr ?_ | refine tri_thene ?_ | refine tri_blkn ?_ | refine tri_blkr ?_ | refine tri_blke ?_ | refine tri_blko (by rfl) ?_ | refine tri_if_t (by rfl) ?_ | refine tri_if_f (by rfl) ?_ | fail))
    refine au_callC rfl rfl rfl rfl rfl (covers_at w0 _ (z := z) (l := f) s p (by repeat (first | assumption | exact rd_chunk (by first | (apply has_at; (repeat (first | exact at0 | apply atS)); done) | (repeat (first | assumption | apply has_cons))) | apply RdH.cons | refine RdH.cut ?_ rfl (by omega) (by omega))) (by omega) hIf.wf hgo) (fun _ => ?_)
    (repeat (first | refine au_pure ?_ | refine au_pass ?_ | refine au_box (fun _ => ?_) | refine au_alloc (fun _ => ?_) | refine au_store ?_ | refine au_make rfl rfl (fun _ => ?_) | refine au_lit rfl rfl rfl (fun _ => ?_) | refine au_append rfl rfl rfl rfl (fun _ => au_norm ?_) | refine au_storeE rfl rfl rfl rfl ?_ | refine tri_seq ?_ | refine tri_then ?_ | refine tri_region ?_ | refine tri_nil ?_ | refine tri_skip ?_ | refine tri_ret ?_ | refine tri_exit ?_ | refine tri_thenr ?_ | refine tri_thene ?_ | refine tri_blkn ?_ | refine tri_blkr ?_ | refine tri_blke ?_ | refine tri_blko (by rfl) ?_ | refine tri_if_t (by rfl) ?_ | refine tri_if_f (by rfl) ?_ | fail))
    refine au_callC rfl rfl rfl rfl rfl (awake_c w0 _) (fun _ => ?_)
    (repeat (first | refine au_pure ?_ | refine au_pass ?_ | refine au_box (fun _ => ?_) | refine au_alloc (fun _ => ?_) | refine au_store ?_ | refine au_make rfl rfl (fun _ => ?_) | refine au_lit rfl rfl rfl (fun _ => ?_) | refine au_append rfl rfl rfl rfl (fun _ => au_norm ?_) | refine au_storeE rfl rfl rfl rfl ?_ | refine tri_seq ?_ | refine tri_then ?_ | refine tri_region ?_ | refine tri_nil ?_ | refine tri_skip ?_ | refine tri_ret ?_ | refine tri_exit ?_ | refine tri_thenr ?_ | refine tri_thene ?_ | refine tri_blkn ?_ | refine tri_blkr ?_ | refine tri_blke ?_ | refine tri_blko (by rfl) ?_ | refine tri_if_t (by rfl) ?_ | refine tri_if_f (by rfl) ?_ | fail))
    refine au_done1 rfl ?_
    intro w hw; exact ⟨(), rfl, hw.sub (by repeat (first | exact List.Sublist.refl _ | assumption | apply List.Sublist.cons_cons | apply List.Sublist.cons))⟩
end
end Go.Proofs.Ytpcammiidklkhaa
