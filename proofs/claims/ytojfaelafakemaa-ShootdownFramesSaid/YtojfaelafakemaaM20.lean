/- Texts joined: TlbOps, TlbSame, ShROps, ShROps2, ShROps3, ShMark. Each part's own remark says what it proves. -/
import Derived.Test.YtojfaelafakemaaM12
import Derived.Test.YtojfaelafakemaaM07
import Derived.Test.YtojfaelafakemaaM19
import Derived.Test.YtojfaelafakemaaM18
import Derived.Test.YtojfaelafakemaaM09
/- The walks of Fill, Invalidate and Flush. No conditions. -/
set_option linter.unusedSimpArgs false
set_option linter.unusedVariables false
namespace Go.Proofs.Ytojfaelafakemaa
open Go Go.RowKit
attribute [local irreducible] Code.wp wpList bodyPost Exit.then Exit.inBlock Calls wpQuiet Tri TriQ
section
variable (w0 : World) (cs : List Chunk)
set_option maxHeartbeats 2000000 in
theorem without_c {z : Int} {v : Value} {l : List TE} (hR : RdH (Hp w0 cs) v l) (hlen : l.length ≤ 1000000) {g : Nat} {capd : List Value} {p : TE → Bool} (hg : Tst w0 cs g capd p l) [Fun_ Try.prog g] :
    Cal Try.prog 60 [tlbV z v, .func (.func g) #[] capd.toArray] (Hp w0 cs) (fun r : Row => tlbV z r.v) (fun r => Hp w0 (teS r (l.filter fun x => !p x) :: cs)) := by
  refine cal_of_tri Try.func60 rfl Try.ntmps60 rfl ?_
  (repeat (first | refine au_pure ?_ | refine au_pass ?_ | refine au_box (fun _ => ?_) | refine au_alloc (fun _ => ?_) | refine au_store ?_ | refine au_make rfl rfl (fun _ => ?_) | refine au_lit rfl rfl rfl (fun _ => ?_) | refine au_append rfl rfl rfl rfl (fun _ => au_norm ?_) | refine au_storeE rfl rfl rfl rfl ?_ | refine tri_seq ?_ | refine tri_then ?_ | refine tri_region ?_ | refine tri_nil ?_ | refine tri_skip ?_ | refine tri_ret ?_ | refine tri_exit ?_ | refine tri_thenr ?_ | refine tri_thene ?_ | refine tri_blkn ?_ | refine tri_blkr ?_ | refine tri_blke ?_ | refine tri_blko (by rfl) ?_ | refine tri_if_t (by rfl) ?_ | refine tri_if_f (by rfl) ?_ | fail))
  rename_i g2 g4
  refine tri_held (Hp w0 (tlbC g2 z v :: cs)) rfl ?_
  refine ap_take 0 rfl rfl rfl ?_; refine ap_take 1 rfl rfl rfl ?_; refine ap_take 2 rfl rfl rfl ?_; refine ap_take 3 rfl rfl rfl ?_
  refine ap_take 5 rfl rfl rfl ?_
  refine ap_op 4 rfl ?_
  refine au_callC rfl rfl rfl rfl rfl (clone_c w0 _ (l := l) (by repeat (first | assumption | exact rd_chunk (by first | (apply has_at; (repeat (first | exact at0 | apply atS)); done) | (repeat (first | assumption | apply has_cons))) | apply RdH.cons | refine RdH.cut ?_ rfl (by omega) (by omega))) hlen) ?_
  intro r
  refine tri_nil ?_
  refine ap_in ?_
  refine ap_op 6 rfl ?_
  refine au_callC rfl rfl rfl rfl rfl (deleteFunc_c w0 _ (r := r) (l := l) hlen ((hg.cons _).cons _)) ?_
  intro r'
  refine tri_nil ?_
  refine ap_in ?_
  refine ap_take 7 rfl rfl rfl ?_
  refine ap_op 8 rfl ?_
  refine au_store ?_
  refine tri_nil ?_
  refine ap_in ?_
  refine ap_done ?_
  (repeat (first | refine au_pure ?_ | refine au_pass ?_ | refine au_box (fun _ => ?_) | refine au_alloc (fun _ => ?_) | refine au_store ?_ | refine au_make rfl rfl (fun _ => ?_) | refine au_lit rfl rfl rfl (fun _ => ?_) | refine au_append rfl rfl rfl rfl (fun _ => au_norm ?_) | refine au_storeE rfl rfl rfl rfl ?_ | refine tri_seq ?_ | refine tri_then ?_ | refine tri_region ?_ | refine tri_nil ?_ | refine tri_skip ?_ | refine tri_ret ?_ | refine tri_exit ?_ | refine tri_thenr ?_ | refine tri_thene ?_ | refine tri_blkn ?_ | refine tri_blkr ?_ | refine tri_blke ?_ | refine tri_blko (by rfl) ?_ | refine tri_if_t (by rfl) ?_ | refine tri_if_f (by rfl) ?_ | fail))
  refine au_done1 rfl ?_
  exact fun w hw => ⟨r', rfl, hw.sub (by repeat (first | exact List.Sublist.refl _ | assumption | apply List.Sublist.cons_cons | apply List.Sublist.cons))⟩
set_option maxHeartbeats 4000000 in
theorem fill_c {z : Int} {v : Value} {l : List TE} (s p u : Int) (hR : RdH (Hp w0 cs) v l) (hlen : l.length ≤ 9223372036854775807) (hw : ∀ x ∈ l, Wf x) (hu0 : 0 ≤ u) (hu1 : u < 18446744073709551616) :
    Cal Try.prog 42 [tlbV z v, .int .i64 s, .int .i64 p, .int .u64 u] (Hp w0 cs) (fun r : Row => .tuple #[tlbV (resZ (mkE z l s p u) z) r.v, .int .i64 (mkE z l s p u)]) (fun r => Hp w0 (teS r (resL (mkE z l s p u) (mkL z l (mkX s p u))) :: cs)) := by
  refine cal_of_tri Try.func42 rfl Try.ntmps42 rfl ?_
  (repeat (first | refine au_pure ?_ | refine au_pass ?_ | refine au_box (fun _ => ?_) | refine au_alloc (fun _ => ?_) | refine au_store ?_ | refine au_make rfl rfl (fun _ => ?_) | refine au_lit rfl rfl rfl (fun _ => ?_) | refine au_append rfl rfl rfl rfl (fun _ => au_norm ?_) | refine au_storeE rfl rfl rfl rfl ?_ | refine tri_seq ?_ | refine tri_then ?_ | refine tri_region ?_ | refine tri_nil ?_ | refine tri_skip ?_ | refine tri_ret ?_ | refine tri_exit ?_ | refine tri_thenr ?_ | refine tri_thene ?_ | refine tri_blkn ?_ | refine tri_blkr ?_ | refine tri_blke ?_ | refine tri_blko (by rfl) ?_ | refine tri_if_t (by rfl) ?_ | refine tri_if_f (by rfl) ?_ | fail))
  rename_i g4 g8
  refine au_callC rfl rfl rfl rfl rfl (check_c w0 _ (l := l) (by repeat (first | assumption | exact rd_chunk (by first | (apply has_at; (repeat (first | exact at0 | apply atS)); done) | (repeat (first | assumption | apply has_cons))) | apply RdH.cons | refine RdH.cut ?_ rfl (by omega) (by omega))) hlen hw) (fun _ => ?_)
  (repeat' (first | refine au_pure ?_ | refine au_pass ?_ | refine au_box (fun _ => ?_) | refine au_alloc (fun _ => ?_) | refine au_store ?_ | refine au_make rfl rfl (fun _ => ?_) | refine au_lit rfl rfl rfl (fun _ => ?_) | refine au_append rfl rfl rfl rfl (fun _ => au_norm ?_) | refine au_storeE rfl rfl rfl rfl ?_ | refine tri_seq ?_ | refine tri_then ?_ | refine tri_region ?_ | refine tri_nil ?_ | refine tri_skip ?_ | refine tri_ret ?_ | refine tri_exit ?_ | refine tri_thenr ?_ | refine tri_thene ?_ | refine tri_blkn ?_ | refine tri_blkr ?_ | refine tri_blke ?_ | refine tri_blko (by rfl) ?_ | refine tri_if_t (by rfl) ?_ | refine tri_if_f (by rfl) ?_ | ((first | refine tri_cond (by rfl) (fun hc => ?_) (fun hc => ?_) | refine tri_gsplit (by rfl) (by rfl) (by (fail_if_success exact (rfl : _ = some (Value.bool true))); (fail_if_success exact (rfl : _ = some (Value.bool false))); rfl) (fun hc => ?_) (fun hc => ?_)) <;> (try simp only [decide_eq_true_eq, decide_eq_false_iff_not, beq_iff_eq, bne_iff_ne, ne_eq, Bool.not_eq_true', Bool.not_eq_false', beq_eq_false_iff_ne, bne_eq_false_iff_eq, Int.not_lt, Int.not_le, gt_iff_lt, ge_iff_le, Bool.and_eq_true, Bool.or_eq_true, Bool.and_eq_false_iff, Bool.or_eq_false_iff, Decidable.not_not, not_true_eq_false, not_false_eq_true, and_true, true_and, or_false, false_or, or_true, true_or, and_false, false_and, eq_self, Bool.true_eq_false, Bool.false_eq_true] at hc) <;> (try (exfalso; omega))) | fail))
  · have hne : ¬ checkM z l = 0 := by assumption
    have he : mkE z l s p u = checkM z l := by unfold mkE; rw [if_neg hne]
    refine tri_nilrow TE 71 ?_
    refine au_done2 rfl ?_
    intro w hw
    refine ⟨Row.nil w0.heap.size, ?_, ?_⟩
    · rw [he, resZ, if_neg hne]; rfl
    · rw [he, resL, if_neg hne]; exact hw.sub (by repeat (first | exact List.Sublist.refl _ | assumption | apply List.Sublist.cons_cons | apply List.Sublist.cons))
  have hok : checkM z l = 0 := by assumption
  have hO := check_ok.1 hok
  have hvd := hO.v
  have hz := hO.z
  have hln := hO.n
  refine au_call rfl rfl (cl_of rfl rfl rfl (fun _ h => Ret.hp (place_any _ _ _) h)) ?_
  (repeat' (first | refine au_pure ?_ | refine au_pass ?_ | refine au_box (fun _ => ?_) | refine au_alloc (fun _ => ?_) | refine au_store ?_ | refine au_make rfl rfl (fun _ => ?_) | refine au_lit rfl rfl rfl (fun _ => ?_) | refine au_append rfl rfl rfl rfl (fun _ => au_norm ?_) | refine au_storeE rfl rfl rfl rfl ?_ | refine tri_seq ?_ | refine tri_then ?_ | refine tri_region ?_ | refine tri_nil ?_ | refine tri_skip ?_ | refine tri_ret ?_ | refine tri_exit ?_ | refine tri_thenr ?_ | refine tri_thene ?_ | refine tri_blkn ?_ | refine tri_blkr ?_ | refine tri_blke ?_ | refine tri_blko (by rfl) ?_ | refine tri_if_t (by rfl) ?_ | refine tri_if_f (by rfl) ?_ | ((first | refine tri_cond (by rfl) (fun hc => ?_) (fun hc => ?_) | refine tri_gsplit (by rfl) (by rfl) (by (fail_if_success exact (rfl : _ = some (Value.bool true))); (fail_if_success exact (rfl : _ = some (Value.bool false))); rfl) (fun hc => ?_) (fun hc => ?_)) <;> (try simp only [decide_eq_true_eq, decide_eq_false_iff_not, beq_iff_eq, bne_iff_ne, ne_eq, Bool.not_eq_true', Bool.not_eq_false', beq_eq_false_iff_ne, bne_eq_false_iff_eq, Int.not_lt, Int.not_le, gt_iff_lt, ge_iff_le, Bool.and_eq_true, Bool.or_eq_true, Bool.and_eq_false_iff, Bool.or_eq_false_iff, Decidable.not_not, not_true_eq_false, not_false_eq_true, and_true, true_and, or_false, false_or, or_true, true_or, and_false, false_and, eq_self, Bool.true_eq_false, Bool.false_eq_true] at hc) <;> (try (exfalso; omega))) | fail))
  · have hne : ¬ plcM s p = 0 := by assumption
    have he : mkE z l s p u = plcM s p := by unfold mkE; rw [if_pos hok, if_neg hne, plc_ne hne]
    refine tri_nilrow TE 71 ?_
    refine au_done2 rfl ?_
    intro w hw
    refine ⟨Row.nil w0.heap.size, ?_, ?_⟩
    · rw [he, resZ, if_neg hne]; rfl
    · rw [he, resL, if_neg hne]; exact hw.sub (by repeat (first | exact List.Sublist.refl _ | assumption | apply List.Sublist.cons_cons | apply List.Sublist.cons))
  have hpl : plcM s p = 0 := by assumption
  obtain ⟨hs8, hp8⟩ := plc_ok hpl
  refine au_call rfl rfl (cl_of rfl rfl rfl (fun _ h => Ret.hp (trans_any _ _ hu0 hu1) h)) ?_
  cases ht : tr u
  · have he : mkE z l s p u = 3 := by unfold mkE; rw [if_pos hok, if_pos hpl, ht]; rfl
    (repeat (first | refine au_pure ?_ | refine au_pass ?_ | refine au_box (fun _ => ?_) | refine au_alloc (fun _ => ?_) | refine au_store ?_ | refine au_make rfl rfl (fun _ => ?_) | refine au_lit rfl rfl rfl (fun _ => ?_) | refine au_append rfl rfl rfl rfl (fun _ => au_norm ?_) | refine au_storeE rfl rfl rfl rfl ?_ | refine tri_seq ?_ | refine tri_then ?_ | refine tri_region ?_ | refine tri_nil ?_ | refine tri_skip ?_ | refine tri_ret ?_ | refine tri_exit ?_ | refine tri_thenr ?_ | refine tri_thene ?_ | refine tri_blkn ?_ | refine tri_blkr ?_ | refine tri_blke ?_ | refine tri_blko (by rfl) ?_ | refine tri_if_t (by rfl) ?_ | refine tri_if_f (by rfl) ?_ | fail))
    refine tri_nilrow TE 71 ?_
    refine au_done2 rfl ?_
    intro w hw
    refine ⟨Row.nil w0.heap.size, ?_, ?_⟩
    · rw [he]; rfl
    · rw [he]; exact hw.sub (by repeat (first | exact List.Sublist.refl _ | assumption | apply List.Sublist.cons_cons | apply List.Sublist.cons))
  have he : mkE z l s p u = 0 := by unfold mkE; rw [if_pos hok, if_pos hpl, ht]; rfl
  have hxd := mkX_vd hpl ht
  have hxp := hxd.p
  (repeat (first | refine au_pure ?_ | refine au_pass ?_ | refine au_box (fun _ => ?_) | refine au_alloc (fun _ => ?_) | refine au_store ?_ | refine au_make rfl rfl (fun _ => ?_) | refine au_lit rfl rfl rfl (fun _ => ?_) | refine au_append rfl rfl rfl rfl (fun _ => au_norm ?_) | refine au_storeE rfl rfl rfl rfl ?_ | refine tri_seq ?_ | refine tri_then ?_ | refine tri_region ?_ | refine tri_nil ?_ | refine tri_skip ?_ | refine tri_ret ?_ | refine tri_exit ?_ | refine tri_thenr ?_ | refine tri_thene ?_ | refine tri_blkn ?_ | refine tri_blkr ?_ | refine tri_blke ?_ | refine tri_blko (by rfl) ?_ | refine tri_if_t (by rfl) ?_ | refine tri_if_f (by rfl) ?_ | fail))
  refine tri_cut1 (fun px => px = (mkX s p u).p) (fun px => [(1, .int .i64 s), (2, .int .i64 px), (3, .int .u64 u), (4, .pointer (some ⟨g4, 0, none⟩)), (8, .pointer (some ⟨g8, 0, none⟩))]) (fun px => Hp w0 (tlbC g8 0 (.slice none 0 0) :: tlbC g4 z v :: cs)) ?_ ?_
  · (repeat' (first | refine au_pure ?_ | refine au_pass ?_ | refine au_box (fun _ => ?_) | refine au_alloc (fun _ => ?_) | refine au_store ?_ | refine au_make rfl rfl (fun _ => ?_) | refine au_lit rfl rfl rfl (fun _ => ?_) | refine au_append rfl rfl rfl rfl (fun _ => au_norm ?_) | refine au_storeE rfl rfl rfl rfl ?_ | refine tri_seq ?_ | refine tri_then ?_ | refine tri_region ?_ | refine tri_nil ?_ | refine tri_skip ?_ | refine tri_ret ?_ | refine tri_exit ?_ | refine tri_thenr ?_ | refine tri_thene ?_ | refine tri_blkn ?_ | refine tri_blkr ?_ | refine tri_blke ?_ | refine tri_blko (by rfl) ?_ | refine tri_if_t (by rfl) ?_ | refine tri_if_f (by rfl) ?_ | ((first | refine tri_cond (by rfl) (fun hc => ?_) (fun hc => ?_) | refine tri_gsplit (by rfl) (by rfl) (by (fail_if_success exact (rfl : _ = some (Value.bool true))); (fail_if_success exact (rfl : _ = some (Value.bool false))); rfl) (fun hc => ?_) (fun hc => ?_)) <;> (try simp only [decide_eq_true_eq, decide_eq_false_iff_not, beq_iff_eq, bne_iff_ne, ne_eq, Bool.not_eq_true', Bool.not_eq_false', beq_eq_false_iff_ne, bne_eq_false_iff_eq, Int.not_lt, Int.not_le, gt_iff_lt, ge_iff_le, Bool.and_eq_true, Bool.or_eq_true, Bool.and_eq_false_iff, Bool.or_eq_false_iff, Decidable.not_not, not_true_eq_false, not_false_eq_true, and_true, true_and, or_false, false_or, or_true, true_or, and_false, false_and, eq_self, Bool.true_eq_false, Bool.false_eq_true] at hc) <;> (try (exfalso; omega))) | fail))
    · have hh : hu u = true := by assumption
      refine tri_mt1 _ ?_ (by repeat (first | exact trivial | refine ⟨rfl, ?_⟩)) (fun _ h => h)
      unfold mkX grp
      rw [if_pos hh]
    · have hh : hu u = false := by assumption
      refine tri_mt1 _ ?_ (by repeat (first | exact trivial | refine ⟨rfl, ?_⟩)) (fun _ h => h)
      unfold mkX
      rw [hh]; rfl
  intro px hpx
  subst hpx
  obtain ⟨x, hx⟩ : ∃ x, x = mkX s p u := ⟨_, rfl⟩
  have hs : s = x.s := by rw [hx]; rfl
  have hu : u = x.w := by rw [hx]; rfl
  rw [← hx] at hxd hxp ⊢
  rw [hs, hu] at he ⊢
  (repeat (first | refine au_pure ?_ | refine au_pass ?_ | refine au_box (fun _ => ?_) | refine au_alloc (fun _ => ?_) | refine au_store ?_ | refine au_make rfl rfl (fun _ => ?_) | refine au_lit rfl rfl rfl (fun _ => ?_) | refine au_append rfl rfl rfl rfl (fun _ => au_norm ?_) | refine au_storeE rfl rfl rfl rfl ?_ | refine tri_seq ?_ | refine tri_then ?_ | refine tri_region ?_ | refine tri_nil ?_ | refine tri_skip ?_ | refine tri_ret ?_ | refine tri_exit ?_ | refine tri_thenr ?_ | refine tri_thene ?_ | refine tri_blkn ?_ | refine tri_blkr ?_ | refine tri_blke ?_ | refine tri_blko (by rfl) ?_ | refine tri_if_t (by rfl) ?_ | refine tri_if_f (by rfl) ?_ | fail))
  rename_i g14
  have hall : ∀ y ∈ l, Wf y ∧ y.p ≤ 4611686018427387904 := fun y hy => ⟨hw y hy, by have := (hvd y hy).p; omega⟩
  have hwx : Wf x := hxd.wf (by rw [← hu]; exact ⟨hu0, hu1⟩)
  refine au_callC rfl rfl rfl rfl rfl (without_c w0 _ (l := l) (by repeat (first | assumption | exact rd_chunk (by first | (apply has_at; (repeat (first | exact at0 | apply atS)); done) | (repeat (first | assumption | apply has_cons))) | apply RdH.cons | refine RdH.cut ?_ rfl (by omega) (by omega))) (by omega) (fillf_c w0 _ (x := x) (by first | (apply has_at; (repeat (first | exact at0 | apply atS)); done) | (repeat (first | assumption | apply has_cons))) hwx (by omega) hall)) ?_
  intro r
  have hkl : (mkK l x).length ≤ l.length := List.length_filter_le ..
  (repeat (first | refine au_pure ?_ | refine au_pass ?_ | refine au_box (fun _ => ?_) | refine au_alloc (fun _ => ?_) | refine au_store ?_ | refine au_make rfl rfl (fun _ => ?_) | refine au_lit rfl rfl rfl (fun _ => ?_) | refine au_append rfl rfl rfl rfl (fun _ => au_norm ?_) | refine au_storeE rfl rfl rfl rfl ?_ | refine tri_seq ?_ | refine tri_then ?_ | refine tri_region ?_ | refine tri_nil ?_ | refine tri_skip ?_ | refine tri_ret ?_ | refine tri_exit ?_ | refine tri_thenr ?_ | refine tri_thene ?_ | refine tri_blkn ?_ | refine tri_blkr ?_ | refine tri_blke ?_ | refine tri_blko (by rfl) ?_ | refine tri_if_t (by rfl) ?_ | refine tri_if_f (by rfl) ?_ | fail))
  rename_i g15
  have hkd : (List.filter (fun y => !ovM x y) l) = mkK l x := rfl
  rw [hkd]
  obtain ⟨k, hk⟩ : ∃ k, k = mkK l x := ⟨_, rfl⟩
  rw [← hk] at hkl ⊢
  have hdl := dropK_le (z := z) (l := k) hz.1 (by omega)
  refine tri_cut2 (fun (r' : Row) k' => k' = dropK z k) (fun r' k' => [(14, .pointer (some ⟨g14, 0, none⟩)), (15, .pointer (some ⟨g15, 0, none⟩)), (8, .pointer (some ⟨g8, 0, none⟩))]) (fun r' k' => Hp w0 (tlbC g15 z r'.v :: teS r' k' :: teC g14 x :: tlbC g8 0 (.slice none 0 0) :: cs)) ?_ ?_
  · (repeat' (first | refine au_pure ?_ | refine au_pass ?_ | refine au_box (fun _ => ?_) | refine au_alloc (fun _ => ?_) | refine au_store ?_ | refine au_make rfl rfl (fun _ => ?_) | refine au_lit rfl rfl rfl (fun _ => ?_) | refine au_append rfl rfl rfl rfl (fun _ => au_norm ?_) | refine au_storeE rfl rfl rfl rfl ?_ | refine tri_seq ?_ | refine tri_then ?_ | refine tri_region ?_ | refine tri_nil ?_ | refine tri_skip ?_ | refine tri_ret ?_ | refine tri_exit ?_ | refine tri_thenr ?_ | refine tri_thene ?_ | refine tri_blkn ?_ | refine tri_blkr ?_ | refine tri_blke ?_ | refine tri_blko (by rfl) ?_ | refine tri_if_t (by rfl) ?_ | refine tri_if_f (by rfl) ?_ | ((first | refine tri_cond (by rfl) (fun hc => ?_) (fun hc => ?_) | refine tri_gsplit (by rfl) (by rfl) (by (fail_if_success exact (rfl : _ = some (Value.bool true))); (fail_if_success exact (rfl : _ = some (Value.bool false))); rfl) (fun hc => ?_) (fun hc => ?_)) <;> (try simp only [decide_eq_true_eq, decide_eq_false_iff_not, beq_iff_eq, bne_iff_ne, ne_eq, Bool.not_eq_true', Bool.not_eq_false', beq_eq_false_iff_ne, bne_eq_false_iff_eq, Int.not_lt, Int.not_le, gt_iff_lt, ge_iff_le, Bool.and_eq_true, Bool.or_eq_true, Bool.and_eq_false_iff, Bool.or_eq_false_iff, Decidable.not_not, not_true_eq_false, not_false_eq_true, and_true, true_and, or_false, false_or, or_true, true_or, and_false, false_and, eq_self, Bool.true_eq_false, Bool.false_eq_true] at hc) <;> (try (exfalso; omega))) | fail))
    · have hkz : (k.length : Int) = z := by assumption
      refine au_pure (hy := yl_cut (a := 1) (b := k.length) rfl rfl (by repeat (first | assumption | exact rd_chunk (by first | (apply has_at; (repeat (first | exact at0 | apply atS)); done) | (repeat (first | assumption | apply has_cons))) | apply RdH.cons | refine RdH.cut ?_ rfl (by omega) (by omega))) (ixo_some (ix_nat rfl)) ixo_none (by omega) (by omega)) ?_
      (repeat (first | refine au_pure ?_ | refine au_pass ?_ | refine au_box (fun _ => ?_) | refine au_alloc (fun _ => ?_) | refine au_store ?_ | refine au_make rfl rfl (fun _ => ?_) | refine au_lit rfl rfl rfl (fun _ => ?_) | refine au_append rfl rfl rfl rfl (fun _ => au_norm ?_) | refine au_storeE rfl rfl rfl rfl ?_ | refine tri_seq ?_ | refine tri_then ?_ | refine tri_region ?_ | refine tri_nil ?_ | refine tri_skip ?_ | refine tri_ret ?_ | refine tri_exit ?_ | refine tri_thenr ?_ | refine tri_thene ?_ | refine tri_blkn ?_ | refine tri_blkr ?_ | refine tri_blke ?_ | refine tri_blko (by rfl) ?_ | refine tri_if_t (by rfl) ?_ | refine tri_if_f (by rfl) ?_ | fail))
      refine tri_recut (a := 1) (b := k.length) (atS at0) (by omega) (Nat.le_refl _) (by repeat (first | exact nf0 rfl | apply nfS rfl | exact nfR)) ?_
      refine tri_mt2 (r.cut 1 k.length 3) ((k.take k.length).drop 1) ?_ (by repeat (first | exact trivial | refine ⟨rfl, ?_⟩)) (fun _ h => h.sub (by repeat (first | exact List.Sublist.refl _ | assumption | apply List.Sublist.cons_cons | apply List.Sublist.cons)))
      rw [List.take_length, dropK, if_pos hkz]
    · have hkz : ¬ (k.length : Int) = z := by assumption
      refine tri_mt2 r k ?_ (by repeat (first | exact trivial | refine ⟨rfl, ?_⟩)) (fun _ h => h.sub (by repeat (first | exact List.Sublist.refl _ | assumption | apply List.Sublist.cons_cons | apply List.Sublist.cons)))
      rw [dropK, if_neg hkz]
  intro r' k' hk'
  rw [← hk'] at hdl
  (repeat (first | refine au_pure ?_ | refine au_pass ?_ | refine au_box (fun _ => ?_) | refine au_alloc (fun _ => ?_) | refine au_store ?_ | refine au_make rfl rfl (fun _ => ?_) | refine au_lit rfl rfl rfl (fun _ => ?_) | refine au_append rfl rfl rfl rfl (fun _ => au_norm ?_) | refine au_storeE rfl rfl rfl rfl ?_ | refine tri_seq ?_ | refine tri_then ?_ | refine tri_region ?_ | refine tri_nil ?_ | refine tri_skip ?_ | refine tri_ret ?_ | refine tri_exit ?_ | refine tri_thenr ?_ | refine tri_thene ?_ | refine tri_blkn ?_ | refine tri_blkr ?_ | refine tri_blke ?_ | refine tri_blko (by rfl) ?_ | refine tri_if_t (by rfl) ?_ | refine tri_if_f (by rfl) ?_ | fail))
  rename_i r2
  refine au_done2 rfl ?_
  intro w hw
  refine ⟨r2, ?_, ?_⟩
  · rw [he]; rfl
  · rw [he, resL, if_pos rfl, mkL, ← hk, ← hk']; exact hw.sub (by repeat (first | exact List.Sublist.refl _ | assumption | apply List.Sublist.cons_cons | apply List.Sublist.cons))
set_option maxHeartbeats 4000000 in
theorem inval_c {z : Int} {v : Value} {l : List TE} (s p : Int) (hR : RdH (Hp w0 cs) v l) (hlen : l.length ≤ 9223372036854775807) (hw : ∀ x ∈ l, Wf x) :
    Cal Try.prog 29 [tlbV z v, .int .i64 s, .int .i64 p] (Hp w0 cs) (fun r : Row => .tuple #[tlbV (resZ (invE z l s p) z) r.v, .int .i64 (invE z l s p)]) (fun r => Hp w0 (teS r (resL (invE z l s p) (invL l s p)) :: cs)) := by
  refine cal_of_tri Try.func29 rfl Try.ntmps29 rfl ?_
  (repeat (first | refine au_pure ?_ | refine au_pass ?_ | refine au_box (fun _ => ?_) | refine au_alloc (fun _ => ?_) | refine au_store ?_ | refine au_make rfl rfl (fun _ => ?_) | refine au_lit rfl rfl rfl (fun _ => ?_) | refine au_append rfl rfl rfl rfl (fun _ => au_norm ?_) | refine au_storeE rfl rfl rfl rfl ?_ | refine tri_seq ?_ | refine tri_then ?_ | refine tri_region ?_ | refine tri_nil ?_ | refine tri_skip ?_ | refine tri_ret ?_ | refine tri_exit ?_ | refine tri_thenr ?_ | refine tri_thene ?_ | refine tri_blkn ?_ | refine tri_blkr ?_ | refine tri_blke ?_ | refine tri_blko (by rfl) ?_ | refine tri_if_t (by rfl) ?_ | refine tri_if_f (by rfl) ?_ | fail))
  rename_i g3 g4 g5 g6
  refine au_callC rfl rfl rfl rfl rfl (check_c w0 _ (l := l) (by repeat (first | assumption | exact rd_chunk (by first | (apply has_at; (repeat (first | exact at0 | apply atS)); done) | (repeat (first | assumption | apply has_cons))) | apply RdH.cons | refine RdH.cut ?_ rfl (by omega) (by omega))) hlen hw) (fun _ => ?_)
  (repeat' (first | refine au_pure ?_ | refine au_pass ?_ | refine au_box (fun _ => ?_) | refine au_alloc (fun _ => ?_) | refine au_store ?_ | refine au_make rfl rfl (fun _ => ?_) | refine au_lit rfl rfl rfl (fun _ => ?_) | refine au_append rfl rfl rfl rfl (fun _ => au_norm ?_) | refine au_storeE rfl rfl rfl rfl ?_ | refine tri_seq ?_ | refine tri_then ?_ | refine tri_region ?_ | refine tri_nil ?_ | refine tri_skip ?_ | refine tri_ret ?_ | refine tri_exit ?_ | refine tri_thenr ?_ | refine tri_thene ?_ | refine tri_blkn ?_ | refine tri_blkr ?_ | refine tri_blke ?_ | refine tri_blko (by rfl) ?_ | refine tri_if_t (by rfl) ?_ | refine tri_if_f (by rfl) ?_ | ((first | refine tri_cond (by rfl) (fun hc => ?_) (fun hc => ?_) | refine tri_gsplit (by rfl) (by rfl) (by (fail_if_success exact (rfl : _ = some (Value.bool true))); (fail_if_success exact (rfl : _ = some (Value.bool false))); rfl) (fun hc => ?_) (fun hc => ?_)) <;> (try simp only [decide_eq_true_eq, decide_eq_false_iff_not, beq_iff_eq, bne_iff_ne, ne_eq, Bool.not_eq_true', Bool.not_eq_false', beq_eq_false_iff_ne, bne_eq_false_iff_eq, Int.not_lt, Int.not_le, gt_iff_lt, ge_iff_le, Bool.and_eq_true, Bool.or_eq_true, Bool.and_eq_false_iff, Bool.or_eq_false_iff, Decidable.not_not, not_true_eq_false, not_false_eq_true, and_true, true_and, or_false, false_or, or_true, true_or, and_false, false_and, eq_self, Bool.true_eq_false, Bool.false_eq_true] at hc) <;> (try (exfalso; omega))) | fail))
  · have hne : ¬ checkM z l = 0 := by assumption
    have he : invE z l s p = checkM z l := by unfold invE; rw [if_neg hne]
    refine tri_nilrow TE 71 ?_
    refine au_done2 rfl ?_
    intro w hw
    refine ⟨Row.nil w0.heap.size, ?_, ?_⟩
    · rw [he, resZ, if_neg hne]; rfl
    · rw [he, resL, if_neg hne]; exact hw.sub (by repeat (first | exact List.Sublist.refl _ | assumption | apply List.Sublist.cons_cons | apply List.Sublist.cons))
  have hok : checkM z l = 0 := by assumption
  have hO := check_ok.1 hok
  have hvd := hO.v
  have hz := hO.z
  have hln := hO.n
  have he : invE z l s p = plcM s p := by unfold invE; rw [if_pos hok]
  refine au_call rfl rfl (cl_of rfl rfl rfl (fun _ h => Ret.hp (place_any _ _ _) h)) ?_
  (repeat' (first | refine au_pure ?_ | refine au_pass ?_ | refine au_box (fun _ => ?_) | refine au_alloc (fun _ => ?_) | refine au_store ?_ | refine au_make rfl rfl (fun _ => ?_) | refine au_lit rfl rfl rfl (fun _ => ?_) | refine au_append rfl rfl rfl rfl (fun _ => au_norm ?_) | refine au_storeE rfl rfl rfl rfl ?_ | refine tri_seq ?_ | refine tri_then ?_ | refine tri_region ?_ | refine tri_nil ?_ | refine tri_skip ?_ | refine tri_ret ?_ | refine tri_exit ?_ | refine tri_thenr ?_ | refine tri_thene ?_ | refine tri_blkn ?_ | refine tri_blkr ?_ | refine tri_blke ?_ | refine tri_blko (by rfl) ?_ | refine tri_if_t (by rfl) ?_ | refine tri_if_f (by rfl) ?_ | ((first | refine tri_cond (by rfl) (fun hc => ?_) (fun hc => ?_) | refine tri_gsplit (by rfl) (by rfl) (by (fail_if_success exact (rfl : _ = some (Value.bool true))); (fail_if_success exact (rfl : _ = some (Value.bool false))); rfl) (fun hc => ?_) (fun hc => ?_)) <;> (try simp only [decide_eq_true_eq, decide_eq_false_iff_not, beq_iff_eq, bne_iff_ne, ne_eq, Bool.not_eq_true', Bool.not_eq_false', beq_eq_false_iff_ne, bne_eq_false_iff_eq, Int.not_lt, Int.not_le, gt_iff_lt, ge_iff_le, Bool.and_eq_true, Bool.or_eq_true, Bool.and_eq_false_iff, Bool.or_eq_false_iff, Decidable.not_not, not_true_eq_false, not_false_eq_true, and_true, true_and, or_false, false_or, or_true, true_or, and_false, false_and, eq_self, Bool.true_eq_false, Bool.false_eq_true] at hc) <;> (try (exfalso; omega))) | fail))
  · have hne : ¬ plcM s p = 0 := by assumption
    refine tri_nilrow TE 71 ?_
    refine au_done2 rfl ?_
    intro w hw
    refine ⟨Row.nil w0.heap.size, ?_, ?_⟩
    · rw [he, resZ, if_neg hne]; rfl
    · rw [he, resL, if_neg hne]; exact hw.sub (by repeat (first | exact List.Sublist.refl _ | assumption | apply List.Sublist.cons_cons | apply List.Sublist.cons))
  have hpl : plcM s p = 0 := by assumption
  have hall : ∀ y ∈ l, Wf y ∧ y.p ≤ 4611686018427387904 := fun y hy => ⟨hw y hy, by have := (hvd y hy).p; omega⟩
  refine au_callC rfl rfl rfl rfl rfl (without_c w0 _ (l := l) (by repeat (first | assumption | exact rd_chunk (by first | (apply has_at; (repeat (first | exact at0 | apply atS)); done) | (repeat (first | assumption | apply has_cons))) | apply RdH.cons | refine RdH.cut ?_ rfl (by omega) (by omega))) (by omega) (invf_c w0 _ (s := s) (p := p) (by first | (apply has_at; (repeat (first | exact at0 | apply atS)); done) | (repeat (first | assumption | apply has_cons))) (by first | (apply has_at; (repeat (first | exact at0 | apply atS)); done) | (repeat (first | assumption | apply has_cons))) hall)) ?_
  intro r
  (repeat (first | refine au_pure ?_ | refine au_pass ?_ | refine au_box (fun _ => ?_) | refine au_alloc (fun _ => ?_) | refine au_store ?_ | refine au_make rfl rfl (fun _ => ?_) | refine au_lit rfl rfl rfl (fun _ => ?_) | refine au_append rfl rfl rfl rfl (fun _ => au_norm ?_) | refine au_storeE rfl rfl rfl rfl ?_ | refine tri_seq ?_ | refine tri_then ?_ | refine tri_region ?_ | refine tri_nil ?_ | refine tri_skip ?_ | refine tri_ret ?_ | refine tri_exit ?_ | refine tri_thenr ?_ | refine tri_thene ?_ | refine tri_blkn ?_ | refine tri_blkr ?_ | refine tri_blke ?_ | refine tri_blko (by rfl) ?_ | refine tri_if_t (by rfl) ?_ | refine tri_if_f (by rfl) ?_ | fail))
  refine au_done2 rfl ?_
  intro w hw
  refine ⟨r, ?_, ?_⟩
  · rw [he, hpl]; rfl
  · rw [he, hpl]; exact hw.sub (by repeat (first | exact List.Sublist.refl _ | assumption | apply List.Sublist.cons_cons | apply List.Sublist.cons))
end
end Go.Proofs.Ytojfaelafakemaa

/- The walks of Few, New, Same, do and the reference's Do. No conditions. -/
set_option linter.unusedSimpArgs false
set_option linter.unusedVariables false
namespace Go.Proofs.Ytojfaelafakemaa
open Go Go.RowKit
attribute [local irreducible] Code.wp wpList bodyPost Exit.then Exit.inBlock Calls wpQuiet Tri TriQ
/-- A call of a script. -/
structure OpT where
  k : Int
  s : Int
  p : Int
  w : Int
  deriving DecidableEq
instance : Enc OpT where
  default := ⟨0, 0, 0, 0⟩
  sz := 4
  enc := fun x => [.int .i64 x.k, .int .i64 x.s, .int .i64 x.p, .int .u64 x.w]
  dec := fun cs => match cs with | [.int _ a, .int _ b, .int _ c, .int _ d] => ⟨a, b, c, d⟩ | _ => ⟨0, 0, 0, 0⟩
  len := fun _ => rfl
  one := fun _ u hu => by simp at hu; rcases hu with rfl | rfl | rfl | rfl <;> rfl
  pos := by decide
abbrev opV (o : OpT) : Value := .agg #[.int .i64 o.k, .int .i64 o.s, .int .i64 o.p, .int .u64 o.w]
def doE (z : Int) (l : List TE) (o : OpT) : Int := if o.k = 0 then mkE z l o.s o.p o.w else if o.k = 1 then invE z l o.s o.p else if o.k = 2 then flE z l o.s else 0
def doL (z : Int) (l : List TE) (o : OpT) : List TE := if doE z l o = 0 then (if o.k = 0 then mkL z l (mkX o.s o.p o.w) else if o.k = 1 then invL l o.s o.p else if o.k = 2 then flL l o.s else l) else l
/-- A slice value that reads as l, with what has come to the memory. -/
structure Got (w0 : World) (cs : List Chunk) (l : List TE) where
  A : Option Addr
  n : Nat
  c : Nat
  ds : List Chunk
  rd : RdH (Hp w0 (cs ++ ds)) (.slice A n c) l
abbrev Got.v {w0 : World} {cs : List Chunk} {l : List TE} (g : Got w0 cs l) : Value := .slice g.A g.n g.c
def newE (z : Int) : Int := if z < 1 ∨ 16 < z then 1 else 0
def newZ (z : Int) : Int := if z < 1 ∨ 16 < z then 0 else z
theorem new_any (z : Int) (w : World) : Calls Try.prog 45 [.int .i64 z].toArray w (Ret (.tuple #[tlbV (newZ z) (.slice none 0 0), .int .i64 (newE z)]) w) := by
  have h1 : (z < 1 ∨ 16 < z) → newZ z = 0 ∧ newE z = 1 := fun h => ⟨if_pos h, if_pos h⟩
  have h2 : ¬ (z < 1 ∨ 16 < z) → newZ z = z ∧ newE z = 0 := fun h => ⟨if_neg h, if_neg h⟩
  by_cases hz : z < 1 ∨ 16 < z
  · obtain ⟨e1, e2⟩ := h1 hz
    rw [e1, e2]
    refine calls_of_tri Try.func45 rfl Try.ntmps45 rfl ?_
    (repeat' (first | refine au_pure ?_ | refine au_pass ?_ | refine au_box (fun _ => ?_) | refine au_alloc (fun _ => ?_) | refine au_store ?_ | refine au_make rfl rfl (fun _ => ?_) | refine au_lit rfl rfl rfl (fun _ => ?_) | refine au_append rfl rfl rfl rfl (fun _ => au_norm ?_) | refine au_storeE rfl rfl rfl rfl ?_ | refine tri_seq ?_ | refine tri_then ?_ | refine tri_region ?_ | refine tri_nil ?_ | refine tri_skip ?_ | refine tri_ret ?_ | refine tri_exit ?_ | refine tri_thenr ?_ | refine tri_thene ?_ | refine tri_blkn ?_ | refine tri_blkr ?_ | refine tri_blke ?_ | refine tri_blko (by rfl) ?_ | refine tri_if_t (by rfl) ?_ | refine tri_if_f (by rfl) ?_ | ((first | refine tri_cond (by rfl) (fun hc => ?_) (fun hc => ?_) | refine tri_gsplit (by rfl) (by rfl) (by (fail_if_success exact (rfl : _ = some (Value.bool true))); (fail_if_success exact (rfl : _ = some (Value.bool false))); rfl) (fun hc => ?_) (fun hc => ?_)) <;> (try simp only [decide_eq_true_eq, decide_eq_false_iff_not, beq_iff_eq, bne_iff_ne, ne_eq, Bool.not_eq_true', Bool.not_eq_false', beq_eq_false_iff_ne, bne_eq_false_iff_eq, Int.not_lt, Int.not_le, gt_iff_lt, ge_iff_le, Bool.and_eq_true, Bool.or_eq_true, Bool.and_eq_false_iff, Bool.or_eq_false_iff, Decidable.not_not, not_true_eq_false, not_false_eq_true, and_true, true_and, or_false, false_or, or_true, true_or, and_false, false_and, eq_self, Bool.true_eq_false, Bool.false_eq_true] at hc) <;> (try (exfalso; omega))) | fail))
    all_goals
      refine au_done2 rfl ?_
      exact fun w h => ⟨rfl, h.below⟩
  · obtain ⟨e1, e2⟩ := h2 hz
    rw [e1, e2]
    refine calls_of_tri Try.func45 rfl Try.ntmps45 rfl ?_
    (repeat' (first | refine au_pure ?_ | refine au_pass ?_ | refine au_box (fun _ => ?_) | refine au_alloc (fun _ => ?_) | refine au_store ?_ | refine au_make rfl rfl (fun _ => ?_) | refine au_lit rfl rfl rfl (fun _ => ?_) | refine au_append rfl rfl rfl rfl (fun _ => au_norm ?_) | refine au_storeE rfl rfl rfl rfl ?_ | refine tri_seq ?_ | refine tri_then ?_ | refine tri_region ?_ | refine tri_nil ?_ | refine tri_skip ?_ | refine tri_ret ?_ | refine tri_exit ?_ | refine tri_thenr ?_ | refine tri_thene ?_ | refine tri_blkn ?_ | refine tri_blkr ?_ | refine tri_blke ?_ | refine tri_blko (by rfl) ?_ | refine tri_if_t (by rfl) ?_ | refine tri_if_f (by rfl) ?_ | ((first | refine tri_cond (by rfl) (fun hc => ?_) (fun hc => ?_) | refine tri_gsplit (by rfl) (by rfl) (by (fail_if_success exact (rfl : _ = some (Value.bool true))); (fail_if_success exact (rfl : _ = some (Value.bool false))); rfl) (fun hc => ?_) (fun hc => ?_)) <;> (try simp only [decide_eq_true_eq, decide_eq_false_iff_not, beq_iff_eq, bne_iff_ne, ne_eq, Bool.not_eq_true', Bool.not_eq_false', beq_eq_false_iff_ne, bne_eq_false_iff_eq, Int.not_lt, Int.not_le, gt_iff_lt, ge_iff_le, Bool.and_eq_true, Bool.or_eq_true, Bool.and_eq_false_iff, Bool.or_eq_false_iff, Decidable.not_not, not_true_eq_false, not_false_eq_true, and_true, true_and, or_false, false_or, or_true, true_or, and_false, false_and, eq_self, Bool.true_eq_false, Bool.false_eq_true] at hc) <;> (try (exfalso; omega))) | fail))
    refine au_done2 rfl ?_
    exact fun w h => ⟨rfl, h.below⟩
section
variable (w0 : World) (cs : List Chunk)
end
end Go.Proofs.Ytojfaelafakemaa

/- The walks of the reference of the shootdown machine: parts. No conditions. -/
set_option linter.unusedSimpArgs false
set_option linter.unusedVariables false
namespace Go.Proofs.Ytojfaelafakemaa
open Go Go.RowKit
theorem none_pg {m : SM} (hf : formM m = true) {k : Nat} (hk : k < m.tb.length) : ((decR (tbW m k)).1.k == 0) = !pgOk m.wd.length (tbW m k) := by
  have h := en_tb hf hk
  have hp := en_page m.wd.length (tbW m k)
  rw [h, Bool.true_and] at hp
  rw [← hp]
  by_cases h0 : (decR (tbW m k)).1.k = 0
  · rw [h0]; rfl
  · rw [show ((decR (tbW m k)).1.k == 0) = false by simpa using h0]
    have h2 := enOk_page (n := m.wd.length) (w := tbW m k) h0
    rw [h] at h2
    rw [← hp] at h2
    rw [← h2]; rfl
theorem tail_in {G : Chunk} (K N cs : List Chunk) : (G :: (K ++ (N ++ cs))).Perm (K ++ (N ++ (G :: cs))) := by
  have e1 : ∀ X : List Chunk, K ++ (N ++ X) = (K ++ N) ++ X := fun X => by simp
  rw [e1, e1]
  exact List.perm_middle.symm
attribute [local irreducible] decR enOk pgOk teOk ivOk tlOk checkM lbOk formM limM schk lookM rlbOk rmapN rlimM
attribute [local irreducible] Code.wp wpList bodyPost Exit.then Exit.inBlock Calls wpQuiet Tri TriQ
section
variable (w0 : World) (cs : List Chunk)
end
end Go.Proofs.Ytojfaelafakemaa

/- The walks of the reference of the shootdown machine: Quiet, Free, Map. No conditions. -/
set_option linter.unusedSimpArgs false
set_option linter.unusedVariables false
namespace Go.Proofs.Ytojfaelafakemaa
open Go Go.RowKit
attribute [local irreducible] decR enOk pgOk teOk ivOk tlOk checkM lbOk formM limM schk lookM rlbOk rlimM
theorem rused {m : SM} (hf : formM m = true) {f : Int} (h0 : 0 ≤ f) : decide ((rmapN m f m.tb.length : Int) = 0) = !usedT m m.tb.length f := by
  have h := mapN_zero hf h0 m.tb.length (Nat.le_refl _)
  rw [Bool.eq_iff_iff, decide_eq_true_eq, Bool.not_eq_true', ← Bool.not_eq_true, ← h]
  omega
theorem rwaits (m : SM) (f : Int) : decide (idxM (fun x : LB => x.f == f) m.lm < 0) = !usedL m m.lm.length f := by
  have h := idxM_ge (fun x : LB => x.f == f) m.lm
  unfold usedL
  rw [List.take_length, ← h, Bool.eq_iff_iff, decide_eq_true_eq, Bool.not_eq_true', decide_eq_false_iff_not]
  omega
theorem sc_up1 {w0 w : World} {q : SR} {m : SM} {G A : Chunk} {cs X : List Chunk} (h : Hp w0 (G :: (SC q m ++ X)) w) (hs : (A :: cs).Sublist X) : Hp w0 (A :: G :: (SC q m ++ cs)) w :=
  HpM.perm (h.sub (List.Sublist.cons_cons G (List.Sublist.append_left hs (SC q m)))) ((List.Perm.cons G List.perm_middle).trans (List.Perm.swap _ _ _))
attribute [local irreducible] Code.wp wpList bodyPost Exit.then Exit.inBlock Calls wpQuiet Tri TriQ
section
variable (w0 : World) (cs : List Chunk)
end
end Go.Proofs.Ytojfaelafakemaa

/- The walks of the reference of the shootdown machine: Unmap, Protect. No conditions. -/
set_option linter.unusedSimpArgs false
set_option linter.unusedVariables false
namespace Go.Proofs.Ytojfaelafakemaa
open Go Go.RowKit
attribute [local irreducible] decR enOk pgOk teOk ivOk tlOk checkM lbOk formM limM schk lookM rlbOk rlimM rmapN
theorem sc_up2 {w0 w : World} {q : SR} {m : SM} {G A B : Chunk} {cs X : List Chunk} (h : Hp w0 (G :: (SC q m ++ X)) w) (hs : (A :: B :: cs).Sublist X) : Hp w0 (A :: B :: G :: (SC q m ++ cs)) w :=
  HpM.perm (h.sub (List.Sublist.cons_cons G (List.Sublist.append_left hs (SC q m)))) ((List.Perm.cons G (List.perm_middle.trans (List.Perm.cons _ List.perm_middle))).trans ((List.Perm.swap _ _ _).trans (List.Perm.cons _ (List.Perm.swap _ _ _))))
theorem sc_mid {w0 w : World} {q : SR} {m : SM} {cs : List Chunk} (K : List Chunk) (h : Hp w0 (SC q m ++ (K ++ cs)) w) : Hp w0 (K ++ (SC q m ++ cs)) w := by
  refine HpM.perm h ?_
  rw [← List.append_assoc, ← List.append_assoc K]
  exact List.perm_append_comm.append_right cs
theorem sc_front {w0 w : World} {q : SR} {m : SM} {cs : List Chunk} (K : List Chunk) (h : Hp w0 (K ++ (SC q m ++ cs)) w) : Hp w0 (SC q m ++ (K ++ cs)) w := by
  refine HpM.perm h ?_
  rw [← List.append_assoc, ← List.append_assoc (SC q m)]
  exact List.perm_append_comm.append_right cs
attribute [local irreducible] Code.wp wpList bodyPost Exit.then Exit.inBlock Calls wpQuiet Tri TriQ
section
variable (w0 : World) (cs : List Chunk)
end
end Go.Proofs.Ytojfaelafakemaa

/- The walks of Mark of package pte and of its reference. No conditions. -/
set_option linter.unusedSimpArgs false
set_option linter.unusedVariables false
namespace Go.Proofs.Ytojfaelafakemaa
open Go Go.RowKit
attribute [local irreducible] Code.wp wpList bodyPost Exit.then Exit.inBlock Calls wpQuiet Tri TriQ
theorem ret_pg {x : Int} {e : Ent} {c : Int} (h : pageR x = (e, c)) : Ending.returned (.tuple #[entE e, .int .i64 c]) = .returned (.tuple #[entE (pageR x).1, .int .i64 (pageR x).2]) := by rw [h]
set_option maxHeartbeats 400000 in
theorem ppage_any (x : Int) (w : World) (h0 : 0 ≤ x) (h1 : x < 18446744073709551616) : Calls Try.prog 71 [.int .u64 x].toArray w (Ret (.tuple #[entE (pageR x).1, .int .i64 (pageR x).2]) w) := by
  obtain ⟨⟨k, n, a, b, c, d⟩, u, hp⟩ : ∃ e c, decR x = (e, c) := ⟨_, _, rfl⟩
  refine calls_of_tri Try.func71 rfl Try.ntmps71 rfl ?_
  (repeat (first | refine au_pure ?_ | refine au_pass ?_ | refine au_box (fun _ => ?_) | refine au_alloc (fun _ => ?_) | refine au_store ?_ | refine au_make rfl rfl (fun _ => ?_) | refine au_lit rfl rfl rfl (fun _ => ?_) | refine au_append rfl rfl rfl rfl (fun _ => au_norm ?_) | refine au_storeE rfl rfl rfl rfl ?_ | refine tri_seq ?_ | refine tri_then ?_ | refine tri_region ?_ | refine tri_nil ?_ | refine tri_skip ?_ | refine tri_ret ?_ | refine tri_exit ?_ | refine tri_thenr ?_ | refine tri_thene ?_ | refine tri_blkn ?_ | refine tri_blkr ?_ | refine tri_blke ?_ | refine tri_blko (by rfl) ?_ | refine tri_if_t (by rfl) ?_ | refine tri_if_f (by rfl) ?_ | fail))
  refine au_call rfl rfl (cl_of rfl rfl rfl (fun _ h => Ret.hp (decode_at _ h0 h1 hp) h)) ?_
  (repeat' (first | refine au_pure ?_ | refine au_pass ?_ | refine au_box (fun _ => ?_) | refine au_alloc (fun _ => ?_) | refine au_store ?_ | refine au_make rfl rfl (fun _ => ?_) | refine au_lit rfl rfl rfl (fun _ => ?_) | refine au_append rfl rfl rfl rfl (fun _ => au_norm ?_) | refine au_storeE rfl rfl rfl rfl ?_ | refine tri_seq ?_ | refine tri_then ?_ | refine tri_region ?_ | refine tri_nil ?_ | refine tri_skip ?_ | refine tri_ret ?_ | refine tri_exit ?_ | refine tri_thenr ?_ | refine tri_thene ?_ | refine tri_blkn ?_ | refine tri_blkr ?_ | refine tri_blke ?_ | refine tri_blko (by rfl) ?_ | refine tri_if_t (by rfl) ?_ | refine tri_if_f (by rfl) ?_ | ((first | refine tri_cond (by rfl) (fun hc => ?_) (fun hc => ?_) | refine tri_gsplit (by rfl) (by rfl) (by (fail_if_success exact (rfl : _ = some (Value.bool true))); (fail_if_success exact (rfl : _ = some (Value.bool false))); rfl) (fun hc => ?_) (fun hc => ?_)) <;> (try simp only [decide_eq_true_eq, decide_eq_false_iff_not, beq_iff_eq, bne_iff_ne, ne_eq, Bool.not_eq_true', Bool.not_eq_false', beq_eq_false_iff_ne, bne_eq_false_iff_eq, Int.not_lt, Int.not_le, gt_iff_lt, ge_iff_le, Bool.and_eq_true, Bool.or_eq_true, Bool.and_eq_false_iff, Bool.or_eq_false_iff, Decidable.not_not, not_true_eq_false, not_false_eq_true, and_true, true_and, or_false, false_or, or_true, true_or, and_false, false_and, eq_self, Bool.true_eq_false, Bool.false_eq_true] at hc) <;> (try (exfalso; omega))) | fail))
  all_goals
    refine au_done2 rfl ?_
    first
      | exact fun w h => ⟨ret_pg (e := noEnt) (by unfold pageR; rw [hp]; simp_all), h.below⟩
      | exact fun w h => ⟨ret_pg (e := ⟨k, n, a, b, c, d⟩) (by unfold pageR; rw [hp]; simp_all), h.below⟩
theorem ppage_at {x k n u : Int} {a b c d : Bool} (w : World) (h0 : 0 ≤ x) (h1 : x < 18446744073709551616) (hp : pageR x = (⟨k, n, a, b, c, d⟩, u)) : Calls Try.prog 71 [.int .u64 x].toArray w (Ret (.tuple #[entV k n a b c d, .int .i64 u]) w) := by
  have := ppage_any x w h0 h1
  rwa [hp] at this
set_option maxHeartbeats 400000 in
theorem mark_any (x : Int) (wr : Bool) (w : World) (h0 : 0 ≤ x) (h1 : x < 18446744073709551616) : Calls Try.prog 41 [.int .u64 x, .bool wr].toArray w (Ret (.tuple #[.int .u64 (markR x wr).1, .int .i64 (markR x wr).2]) w) := by
  obtain ⟨⟨k, n, a, b, c, d⟩, u, hp⟩ : ∃ e c, pageR x = (e, c) := ⟨_, _, rfl⟩
  refine calls_of_tri Try.func41 rfl Try.ntmps41 rfl ?_
  (repeat (first | refine au_pure ?_ | refine au_pass ?_ | refine au_box (fun _ => ?_) | refine au_alloc (fun _ => ?_) | refine au_store ?_ | refine au_make rfl rfl (fun _ => ?_) | refine au_lit rfl rfl rfl (fun _ => ?_) | refine au_append rfl rfl rfl rfl (fun _ => au_norm ?_) | refine au_storeE rfl rfl rfl rfl ?_ | refine tri_seq ?_ | refine tri_then ?_ | refine tri_region ?_ | refine tri_nil ?_ | refine tri_skip ?_ | refine tri_ret ?_ | refine tri_exit ?_ | refine tri_thenr ?_ | refine tri_thene ?_ | refine tri_blkn ?_ | refine tri_blkr ?_ | refine tri_blke ?_ | refine tri_blko (by rfl) ?_ | refine tri_if_t (by rfl) ?_ | refine tri_if_f (by rfl) ?_ | fail))
  refine au_call rfl rfl (cl_of rfl rfl rfl (fun _ h => Ret.hp (ppage_at _ h0 h1 hp) h)) ?_
  (repeat' (first | refine au_pure ?_ | refine au_pass ?_ | refine au_box (fun _ => ?_) | refine au_alloc (fun _ => ?_) | refine au_store ?_ | refine au_make rfl rfl (fun _ => ?_) | refine au_lit rfl rfl rfl (fun _ => ?_) | refine au_append rfl rfl rfl rfl (fun _ => au_norm ?_) | refine au_storeE rfl rfl rfl rfl ?_ | refine tri_seq ?_ | refine tri_then ?_ | refine tri_region ?_ | refine tri_nil ?_ | refine tri_skip ?_ | refine tri_ret ?_ | refine tri_exit ?_ | refine tri_thenr ?_ | refine tri_thene ?_ | refine tri_blkn ?_ | refine tri_blkr ?_ | refine tri_blke ?_ | refine tri_blko (by rfl) ?_ | refine tri_if_t (by rfl) ?_ | refine tri_if_f (by rfl) ?_ | ((first | refine tri_cond (by rfl) (fun hc => ?_) (fun hc => ?_) | refine tri_gsplit (by rfl) (by rfl) (by (fail_if_success exact (rfl : _ = some (Value.bool true))); (fail_if_success exact (rfl : _ = some (Value.bool false))); rfl) (fun hc => ?_) (fun hc => ?_)) <;> (try simp only [decide_eq_true_eq, decide_eq_false_iff_not, beq_iff_eq, bne_iff_ne, ne_eq, Bool.not_eq_true', Bool.not_eq_false', beq_eq_false_iff_ne, bne_eq_false_iff_eq, Int.not_lt, Int.not_le, gt_iff_lt, ge_iff_le, Bool.and_eq_true, Bool.or_eq_true, Bool.and_eq_false_iff, Bool.or_eq_false_iff, Decidable.not_not, not_true_eq_false, not_false_eq_true, and_true, true_and, or_false, false_or, or_true, true_or, and_false, false_and, eq_self, Bool.true_eq_false, Bool.false_eq_true] at hc) <;> (try (exfalso; omega))) | fail))
  all_goals
    refine au_done2 rfl ?_
    exact fun w h => ⟨ret_wi (by unfold markR; rw [hp]; simp_all), h.below⟩
end Go.Proofs.Ytojfaelafakemaa
