/- The law TlbPlays. No conditions. -/
import Derived.Test.YtpcammiidklkhaaTlbAwake
import Derived.Test.YtpcammiidklkhaaTlbDo
import Derived.Test.YtpcammiidklkhaaTlbInv
import Derived.Test.YtpcammiidklkhaaSeq2
set_option linter.unusedSimpArgs false
set_option linter.unusedVariables false
namespace Go.Proofs.Ytpcammiidklkhaa
open Go Go.RowKit
attribute [local irreducible] Code.wp wpList bodyPost Exit.then Exit.inBlock Calls wpQuiet Tri TriQ
def WfP (o : OpT) : Prop := 0 ≤ o.w ∧ o.w < 18446744073709551616
theorem wfp_at {ops : List OpT} (h : ∀ o ∈ ops, WfP o) (j : Nat) : WfP (ops.getD j default) := by
  rcases Nat.lt_or_ge j ops.length with hj | hj
  · rw [getD_get hj]; exact h _ (List.getElem_mem hj)
  · rw [List.getD_eq_getElem?_getD, List.getElem?_eq_none hj]
    unfold WfP
    decide
theorem iv_run {z : Int} (hz : 1 ≤ z ∧ z ≤ 16) {ops : List OpT} (h : ∀ o ∈ ops, WfP o) : ∀ i, i ≤ ops.length → Iv z (runL z (ops.take i))
  | 0, _ => by rw [List.take_zero]; exact iv_nil hz
  | i + 1, hi => by
    rw [run_step z (by omega)]
    exact iv_do (iv_run hz h i (by omega)) (wfp_at h i)
section
variable (w0 : World) (cs : List Chunk)
set_option maxHeartbeats 4000000 in
theorem plays_c {m : Nat} {v : Value} {ops : List OpT} (hm : m < 256) (hR : RdH (Hp w0 cs) v ops) (hlen : ops.length ≤ 9223372036854775807) (hw : ∀ o ∈ ops, WfP o) :
    Cal Try.prog 8 [.int .u8 (m : Int), v] (Hp w0 cs) (fun _ : Unit => .bool true) (fun _ => Hp w0 cs) := by
  refine cal_of_tri Try.func8 rfl Try.ntmps8 rfl ?_
  (repeat' (first | refine au_pure ?_ | refine au_pass ?_ | refine au_box (fun _ => ?_) | refine au_alloc (fun _ => ?_) | refine au_store ?_ | refine au_make rfl rfl (fun _ => ?_) | refine au_lit rfl rfl rfl (fun _ => ?_) | refine au_append rfl rfl rfl rfl (fun _ => au_norm ?_) | refine au_storeE rfl rfl rfl rfl ?_ | refine tri_seq ?_ | refine tri_then ?_ | refine tri_region ?_ | refine tri_nil ?_ | refine tri_skip ?_ | refine tri_ret ?_ | refine tri_exit ?_ | refine tri_thenr ?_ | refine tri_thene ?_ | refine tri_blkn ?_ | refine tri_blkr ?_ | refine tri_blke ?_ | refine tri_blko (by rfl) ?_ | refine tri_if_t (by rfl) ?_ | refine tri_if_f (by rfl) ?_ | ((first | refine tri_cond (by rfl) (fun hc => ?_) (fun hc => ?_) | refine tri_gsplit (by rfl) (by rfl) (by (fail_if_success exact (rfl : _ = some (Value.bool true))); (fail_if_success exact (rfl : _ = some (Value.bool false))); rfl) (fun hc => ?_) (fun hc => ?_)) <;> (try simp only [decide_eq_true_eq, decide_eq_false_iff_not, beq_iff_eq, bne_iff_ne, ne_eq, Bool.not_eq_true', Bool.not_eq_false', beq_eq_false_iff_ne, bne_eq_false_iff_eq, Int.not_lt, Int.not_le, gt_iff_lt, ge_iff_le, Bool.and_eq_true, Bool.or_eq_true, Bool.and_eq_false_iff, Bool.or_eq_false_iff, Decidable.not_not, not_true_eq_false, not_false_eq_true, and_true, true_and, or_false, false_or, or_true, true_or, and_false, false_and, eq_self, Bool.true_eq_false, Bool.false_eq_true] at hc) <;> (try (exfalso; omega))) | fail))
  · refine au_callC rfl rfl rfl rfl rfl (awake_c w0 _) (fun _ => ?_)
    (repeat (first | refine au_pure ?_ | refine au_pass ?_ | refine au_box (fun _ => ?_) | refine au_alloc (fun _ => ?_) | refine au_store ?_ | refine au_make rfl rfl (fun _ => ?_) | refine au_lit rfl rfl rfl (fun _ => ?_) | refine au_append rfl rfl rfl rfl (fun _ => au_norm ?_) | refine au_storeE rfl rfl rfl rfl ?_ | refine tri_seq ?_ | refine tri_then ?_ | refine tri_region ?_ | refine tri_nil ?_ | refine tri_skip ?_ | refine tri_ret ?_ | refine tri_exit ?_ | refine tri_thenr ?_ | refine tri_thene ?_ | refine tri_blkn ?_ | refine tri_blkr ?_ | refine tri_blke ?_ | refine tri_blko (by rfl) ?_ | refine tri_if_t (by rfl) ?_ | refine tri_if_f (by rfl) ?_ | fail))
    refine au_done1 rfl ?_
    intro w hw; exact ⟨(), rfl, hw.sub (by repeat (first | exact List.Sublist.refl _ | assumption | apply List.Sublist.cons_cons | apply List.Sublist.cons))⟩
  obtain ⟨n, hn⟩ : ∃ n : Int, n = 1 + (m : Int) % 16 := ⟨_, rfl⟩
  rw [← hn]
  have hz : 1 ≤ n ∧ n ≤ 16 := by omega
  refine au_call rfl rfl (cl_of rfl rfl rfl (fun _ h => Ret.hp (new_at (z := n) (z2 := n) (e := 0) _ (if_neg (by omega)) (if_neg (by omega))) h)) ?_
  (repeat (first | refine au_pure ?_ | refine au_pass ?_ | refine au_box (fun _ => ?_) | refine au_alloc (fun _ => ?_) | refine au_store ?_ | refine au_make rfl rfl (fun _ => ?_) | refine au_lit rfl rfl rfl (fun _ => ?_) | refine au_append rfl rfl rfl rfl (fun _ => au_norm ?_) | refine au_storeE rfl rfl rfl rfl ?_ | refine tri_seq ?_ | refine tri_then ?_ | refine tri_region ?_ | refine tri_nil ?_ | refine tri_skip ?_ | refine tri_ret ?_ | refine tri_exit ?_ | refine tri_thenr ?_ | refine tri_thene ?_ | refine tri_blkn ?_ | refine tri_blkr ?_ | refine tri_blke ?_ | refine tri_blko (by rfl) ?_ | refine tri_if_t (by rfl) ?_ | refine tri_if_f (by rfl) ?_ | fail))
  rename_i g6
  have hnz : newZ n = n := if_neg (by omega)
  have hne : newE n = 0 := if_neg (by omega)
  refine au_call rfl rfl (cl_of rfl rfl rfl (fun _ h => Ret.hp (rnew_any n _) h)) ?_
  rw [hnz, hne]
  (repeat (first | refine au_pure ?_ | refine au_pass ?_ | refine au_box (fun _ => ?_) | refine au_alloc (fun _ => ?_) | refine au_store ?_ | refine au_make rfl rfl (fun _ => ?_) | refine au_lit rfl rfl rfl (fun _ => ?_) | refine au_append rfl rfl rfl rfl (fun _ => au_norm ?_) | refine au_storeE rfl rfl rfl rfl ?_ | refine tri_seq ?_ | refine tri_then ?_ | refine tri_region ?_ | refine tri_nil ?_ | refine tri_skip ?_ | refine tri_ret ?_ | refine tri_exit ?_ | refine tri_thenr ?_ | refine tri_thene ?_ | refine tri_blkn ?_ | refine tri_blkr ?_ | refine tri_blke ?_ | refine tri_blko (by rfl) ?_ | refine tri_if_t (by rfl) ?_ | refine tri_if_f (by rfl) ?_ | fail))
  rename_i g8
  refine tri_block ?_
  refine tri_loop4 (fun i (va : Value) (vb : Value) (X : List Chunk) => i ≤ ops.length ∧ RdH (Hp w0 X) va (runL n (ops.take i)) ∧ RdH (Hp w0 X) vb (runL n (ops.take i)) ∧ RdH (Hp w0 X) v ops ∧ cs.Sublist X)
    (fun i va vb X => [(1, v), (4, .bool false), (6, .pointer (some ⟨g6, 0, none⟩)), (8, .pointer (some ⟨g8, 0, none⟩)), (10, .int .i64 (i : Int))]) (fun i va vb X => Hp w0 (tlbC g8 n vb :: tlbC g6 n va :: X)) (fun i va vb X => ops.length - i)
    0 (.slice none 0 0) (.slice none 0 0) cs ⟨by omega, rd_nil, rd_nil, hR, List.Sublist.refl _⟩ (by repeat (first | exact trivial | refine ⟨rfl, ?_⟩)) (fun _ h => h) ?_
  rintro i va vb X ⟨hi, hA, hB, hX, hS⟩
  (repeat (first | refine au_pure ?_ | refine au_pass ?_ | refine au_box (fun _ => ?_) | refine au_alloc (fun _ => ?_) | refine au_store ?_ | refine au_make rfl rfl (fun _ => ?_) | refine au_lit rfl rfl rfl (fun _ => ?_) | refine au_append rfl rfl rfl rfl (fun _ => au_norm ?_) | refine au_storeE rfl rfl rfl rfl ?_ | refine tri_seq ?_ | refine tri_then ?_ | refine tri_region ?_ | refine tri_nil ?_ | refine tri_skip ?_ | refine tri_ret ?_ | refine tri_exit ?_ | refine tri_thenr ?_ | refine tri_thene ?_ | refine tri_blkn ?_ | refine tri_blkr ?_ | refine tri_blke ?_ | refine tri_blko (by rfl) ?_ | refine tri_if_t (by rfl) ?_ | refine tri_if_f (by rfl) ?_ | fail))
  ((first | refine tri_cond (by rfl) (fun hc => ?_) (fun hc => ?_) | refine tri_gsplit (by rfl) (by rfl) (by (fail_if_success exact (rfl : _ = some (Value.bool true))); (fail_if_success exact (rfl : _ = some (Value.bool false))); rfl) (fun hc => ?_) (fun hc => ?_)) <;> (try simp only [decide_eq_true_eq, decide_eq_false_iff_not, beq_iff_eq, bne_iff_ne, ne_eq, Bool.not_eq_true', Bool.not_eq_false', beq_eq_false_iff_ne, bne_eq_false_iff_eq, Int.not_lt, Int.not_le, gt_iff_lt, ge_iff_le, Bool.and_eq_true, Bool.or_eq_true, Bool.and_eq_false_iff, Bool.or_eq_false_iff, Decidable.not_not, not_true_eq_false, not_false_eq_true, and_true, true_and, or_false, false_or, or_true, true_or, and_false, false_and, eq_self, Bool.true_eq_false, Bool.false_eq_true] at hc) <;> (try (exfalso; omega)))
  · (repeat (first | refine au_pure ?_ | refine au_pass ?_ | refine au_box (fun _ => ?_) | refine au_alloc (fun _ => ?_) | refine au_store ?_ | refine au_make rfl rfl (fun _ => ?_) | refine au_lit rfl rfl rfl (fun _ => ?_) | refine au_append rfl rfl rfl rfl (fun _ => au_norm ?_) | refine au_storeE rfl rfl rfl rfl ?_ | refine tri_seq ?_ | refine tri_then ?_ | refine tri_region ?_ | refine tri_nil ?_ | refine tri_skip ?_ | refine tri_ret ?_ | refine tri_exit ?_ | refine tri_thenr ?_ | refine tri_thene ?_ | refine tri_blkn ?_ | refine tri_blkr ?_ | refine tri_blke ?_ | refine tri_blko (by rfl) ?_ | refine tri_if_t (by rfl) ?_ | refine tri_if_f (by rfl) ?_ | fail))
    refine tri_block ?_
    obtain ⟨o, ho⟩ : ∃ o, o = ops.getD i default := ⟨_, rfl⟩
    have hwo : WfP o := by rw [ho]; exact wfp_at hw i
    obtain ⟨l, hl⟩ : ∃ l, l = runL n (ops.take i) := ⟨_, rfl⟩
    have hIl : Iv n l := by rw [hl]; exact iv_run hz hw i hi
    have hll := hIl.len
    have hl' : runL n (ops.take (i + 1)) = doL n l o := by rw [run_step n (by omega), hl, ho]
    have hId : Iv n (doL n l o) := iv_do hIl hwo
    have hld := hId.len
    rw [← hl] at hA hB
    (repeat (first | refine au_pure ?_ | refine au_pass ?_ | refine au_box (fun _ => ?_) | refine au_alloc (fun _ => ?_) | refine au_store ?_ | refine au_make rfl rfl (fun _ => ?_) | refine au_lit rfl rfl rfl (fun _ => ?_) | refine au_append rfl rfl rfl rfl (fun _ => au_norm ?_) | refine au_storeE rfl rfl rfl rfl ?_ | refine tri_seq ?_ | refine tri_then ?_ | refine tri_region ?_ | refine tri_nil ?_ | refine tri_skip ?_ | refine tri_ret ?_ | refine tri_exit ?_ | refine tri_thenr ?_ | refine tri_thene ?_ | refine tri_blkn ?_ | refine tri_blkr ?_ | refine tri_blke ?_ | refine tri_blko (by rfl) ?_ | refine tri_if_t (by rfl) ?_ | refine tri_if_f (by rfl) ?_ | fail))
    refine tri_cut2 (fun (ga : Got w0 X (doL n l o)) (g11 : Nat) => True) (fun ga g11 => [(1, v), (4, .bool false), (6, .pointer (some ⟨g6, 0, none⟩)), (8, .pointer (some ⟨g8, 0, none⟩)), (10, .int .i64 (i : Int)), (11, .pointer (some ⟨g11, 0, none⟩)), (12, .int .i64 (doE n l o))])
      (fun ga g11 => Hp w0 (tlbC g11 n ga.v :: tlbC g8 n vb :: tlbC g6 n va :: (X ++ ga.ds))) ?_ ?_
    · refine tri_held (Hp w0 (tlbC g8 n vb :: tlbC g6 n va :: X)) rfl ?_
      refine ap_take 0 rfl rfl rfl ?_; refine ap_take 1 rfl rfl rfl ?_; refine ap_take 2 rfl rfl rfl ?_; refine ap_take 3 rfl rfl rfl ?_; refine ap_take 4 rfl rfl rfl ?_
      rw [← ho]
      refine ap_op2 5 9 rfl rfl ?_ ?_
      · refine au_callC rfl rfl rfl rfl rfl (do_c w0 [tlbC g8 n vb, tlbC g6 n va] X o hA (by omega) hIl.wf hwo.1 hwo.2) ?_
        intro ga
        have hsX : X.Sublist (X ++ ga.ds) := List.sublist_append_left _ _
        refine tri_weak (H' := Hp w0 (tlbC g8 n vb :: tlbC g6 n va :: (X ++ ga.ds))) (fun _ h => h) ?_
        refine tri_nil ?_
        refine ap_in ?_
        refine ap_take 6 rfl rfl rfl ?_; refine ap_take 7 rfl rfl rfl ?_; refine ap_take 8 rfl rfl rfl ?_
        refine ap_op 9 rfl ?_
        refine au_alloc (fun g11 => ?_)
        refine tri_nil ?_
        refine ap_in ?_
        refine ap_op 10 rfl ?_
        refine au_store ?_
        refine tri_nil ?_
        refine ap_in ?_
        refine ap_op 11 rfl ?_
        refine au_pure ?_
        refine tri_nil ?_
        refine ap_in ?_
        refine ap_done ?_
        (repeat (first | refine au_pure ?_ | refine au_pass ?_ | refine au_box (fun _ => ?_) | refine au_alloc (fun _ => ?_) | refine au_store ?_ | refine au_make rfl rfl (fun _ => ?_) | refine au_lit rfl rfl rfl (fun _ => ?_) | refine au_append rfl rfl rfl rfl (fun _ => au_norm ?_) | refine au_storeE rfl rfl rfl rfl ?_ | refine tri_seq ?_ | refine tri_then ?_ | refine tri_region ?_ | refine tri_nil ?_ | refine tri_skip ?_ | refine tri_ret ?_ | refine tri_exit ?_ | refine tri_thenr ?_ | refine tri_thene ?_ | refine tri_blkn ?_ | refine tri_blkr ?_ | refine tri_blke ?_ | refine tri_blko (by rfl) ?_ | refine tri_if_t (by rfl) ?_ | refine tri_if_f (by rfl) ?_ | fail))
        exact tri_mt2 ga g11 trivial (by repeat (first | exact trivial | refine ⟨rfl, ?_⟩)) (fun _ h => h)
      · refine au_alloc (fun g11 => ?_)
        refine tri_nil ?_
        refine ap_in ?_
        refine ap_op 5 rfl ?_
        refine au_callC rfl rfl rfl rfl rfl (do_c w0 [_, tlbC g8 n vb, tlbC g6 n va] X o hA (by omega) hIl.wf hwo.1 hwo.2) ?_
        intro ga
        have hsX : X.Sublist (X ++ ga.ds) := List.sublist_append_left _ _
        refine tri_weak (H' := Hp w0 (tlbC g11 0 (.slice none 0 0) :: tlbC g8 n vb :: tlbC g6 n va :: (X ++ ga.ds))) (fun _ h => h) ?_
        refine tri_nil ?_
        refine ap_in ?_
        refine ap_take 6 rfl rfl rfl ?_; refine ap_take 7 rfl rfl rfl ?_; refine ap_take 8 rfl rfl rfl ?_
        refine ap_op 10 rfl ?_
        refine au_store ?_
        refine tri_nil ?_
        refine ap_in ?_
        refine ap_op 11 rfl ?_
        refine au_pure ?_
        refine tri_nil ?_
        refine ap_in ?_
        refine ap_done ?_
        (repeat (first | refine au_pure ?_ | refine au_pass ?_ | refine au_box (fun _ => ?_) | refine au_alloc (fun _ => ?_) | refine au_store ?_ | refine au_make rfl rfl (fun _ => ?_) | refine au_lit rfl rfl rfl (fun _ => ?_) | refine au_append rfl rfl rfl rfl (fun _ => au_norm ?_) | refine au_storeE rfl rfl rfl rfl ?_ | refine tri_seq ?_ | refine tri_then ?_ | refine tri_region ?_ | refine tri_nil ?_ | refine tri_skip ?_ | refine tri_ret ?_ | refine tri_exit ?_ | refine tri_thenr ?_ | refine tri_thene ?_ | refine tri_blkn ?_ | refine tri_blkr ?_ | refine tri_blke ?_ | refine tri_blko (by rfl) ?_ | refine tri_if_t (by rfl) ?_ | refine tri_if_f (by rfl) ?_ | fail))
        exact tri_mt2 ga g11 trivial (by repeat (first | exact trivial | refine ⟨rfl, ?_⟩)) (fun _ h => h)
    rintro ga g11 -
    have hB1 : RdH (Hp w0 (X ++ ga.ds)) vb l := hB.appR
    have hX1 : RdH (Hp w0 (X ++ ga.ds)) v ops := hX.appR
    obtain ⟨Y, hY⟩ : ∃ Y, Y = X ++ ga.ds := ⟨_, rfl⟩
    have hA1 := ga.rd
    have hSY : cs.Sublist Y := by rw [hY]; exact hS.trans (List.sublist_append_left _ _)
    rw [← hY] at hB1 hX1 hA1 ⊢
    (repeat (first | refine au_pure ?_ | refine au_pass ?_ | refine au_box (fun _ => ?_) | refine au_alloc (fun _ => ?_) | refine au_store ?_ | refine au_make rfl rfl (fun _ => ?_) | refine au_lit rfl rfl rfl (fun _ => ?_) | refine au_append rfl rfl rfl rfl (fun _ => au_norm ?_) | refine au_storeE rfl rfl rfl rfl ?_ | refine tri_seq ?_ | refine tri_then ?_ | refine tri_region ?_ | refine tri_nil ?_ | refine tri_skip ?_ | refine tri_ret ?_ | refine tri_exit ?_ | refine tri_thenr ?_ | refine tri_thene ?_ | refine tri_blkn ?_ | refine tri_blkr ?_ | refine tri_blke ?_ | refine tri_blko (by rfl) ?_ | refine tri_if_t (by rfl) ?_ | refine tri_if_f (by rfl) ?_ | fail))
    refine tri_cut2 (fun (gb : Got w0 Y (doL n l o)) (g13 : Nat) => True) (fun gb g13 => [(1, v), (4, .bool false), (6, .pointer (some ⟨g6, 0, none⟩)), (8, .pointer (some ⟨g8, 0, none⟩)), (10, .int .i64 (i : Int)), (11, .pointer (some ⟨g11, 0, none⟩)), (12, .int .i64 (doE n l o)), (13, .pointer (some ⟨g13, 0, none⟩)), (14, .int .i64 (doE n l o))])
      (fun gb g13 => Hp w0 (tlbC g13 n gb.v :: tlbC g11 n ga.v :: tlbC g8 n vb :: tlbC g6 n va :: (Y ++ gb.ds))) ?_ ?_
    · refine tri_held (Hp w0 (tlbC g11 n ga.v :: tlbC g8 n vb :: tlbC g6 n va :: Y)) rfl ?_
      refine ap_take 0 rfl rfl rfl ?_; refine ap_take 1 rfl rfl rfl ?_; refine ap_take 2 rfl rfl rfl ?_; refine ap_take 3 rfl rfl rfl ?_; refine ap_take 4 rfl rfl rfl ?_
      rw [← ho]
      refine ap_op2 5 9 rfl rfl ?_ ?_
      · refine au_callC rfl rfl rfl rfl rfl (rdo_c w0 [tlbC g11 n ga.v, tlbC g8 n vb, tlbC g6 n va] Y o hB1 (by omega) hIl.wf hwo.1 hwo.2) ?_
        intro gb
        have hsY : Y.Sublist (Y ++ gb.ds) := List.sublist_append_left _ _
        refine tri_weak (H' := Hp w0 (tlbC g11 n ga.v :: tlbC g8 n vb :: tlbC g6 n va :: (Y ++ gb.ds))) (fun _ h => h) ?_
        refine tri_nil ?_
        refine ap_in ?_
        refine ap_take 6 rfl rfl rfl ?_; refine ap_take 7 rfl rfl rfl ?_; refine ap_take 8 rfl rfl rfl ?_
        refine ap_op 9 rfl ?_
        refine au_alloc (fun g13 => ?_)
        refine tri_nil ?_
        refine ap_in ?_
        refine ap_op 10 rfl ?_
        refine au_store ?_
        refine tri_nil ?_
        refine ap_in ?_
        refine ap_op 11 rfl ?_
        refine au_pure ?_
        refine tri_nil ?_
        refine ap_in ?_
        refine ap_done ?_
        (repeat (first | refine au_pure ?_ | refine au_pass ?_ | refine au_box (fun _ => ?_) | refine au_alloc (fun _ => ?_) | refine au_store ?_ | refine au_make rfl rfl (fun _ => ?_) | refine au_lit rfl rfl rfl (fun _ => ?_) | refine au_append rfl rfl rfl rfl (fun _ => au_norm ?_) | refine au_storeE rfl rfl rfl rfl ?_ | refine tri_seq ?_ | refine tri_then ?_ | refine tri_region ?_ | refine tri_nil ?_ | refine tri_skip ?_ | refine tri_ret ?_ | refine tri_exit ?_ | refine tri_thenr ?_ | refine tri_thene ?_ | refine tri_blkn ?_ | refine tri_blkr ?_ | refine tri_blke ?_ | refine tri_blko (by rfl) ?_ | refine tri_if_t (by rfl) ?_ | refine tri_if_f (by rfl) ?_ | fail))
        exact tri_mt2 gb g13 trivial (by repeat (first | exact trivial | refine ⟨rfl, ?_⟩)) (fun _ h => h)
      · refine au_alloc (fun g13 => ?_)
        refine tri_nil ?_
        refine ap_in ?_
        refine ap_op 5 rfl ?_
        refine au_callC rfl rfl rfl rfl rfl (rdo_c w0 [_, tlbC g11 n ga.v, tlbC g8 n vb, tlbC g6 n va] Y o hB1 (by omega) hIl.wf hwo.1 hwo.2) ?_
        intro gb
        have hsY : Y.Sublist (Y ++ gb.ds) := List.sublist_append_left _ _
        refine tri_weak (H' := Hp w0 (tlbC g13 0 (.slice none 0 0) :: tlbC g11 n ga.v :: tlbC g8 n vb :: tlbC g6 n va :: (Y ++ gb.ds))) (fun _ h => h) ?_
        refine tri_nil ?_
        refine ap_in ?_
        refine ap_take 6 rfl rfl rfl ?_; refine ap_take 7 rfl rfl rfl ?_; refine ap_take 8 rfl rfl rfl ?_
        refine ap_op 10 rfl ?_
        refine au_store ?_
        refine tri_nil ?_
        refine ap_in ?_
        refine ap_op 11 rfl ?_
        refine au_pure ?_
        refine tri_nil ?_
        refine ap_in ?_
        refine ap_done ?_
        (repeat (first | refine au_pure ?_ | refine au_pass ?_ | refine au_box (fun _ => ?_) | refine au_alloc (fun _ => ?_) | refine au_store ?_ | refine au_make rfl rfl (fun _ => ?_) | refine au_lit rfl rfl rfl (fun _ => ?_) | refine au_append rfl rfl rfl rfl (fun _ => au_norm ?_) | refine au_storeE rfl rfl rfl rfl ?_ | refine tri_seq ?_ | refine tri_then ?_ | refine tri_region ?_ | refine tri_nil ?_ | refine tri_skip ?_ | refine tri_ret ?_ | refine tri_exit ?_ | refine tri_thenr ?_ | refine tri_thene ?_ | refine tri_blkn ?_ | refine tri_blkr ?_ | refine tri_blke ?_ | refine tri_blko (by rfl) ?_ | refine tri_if_t (by rfl) ?_ | refine tri_if_f (by rfl) ?_ | fail))
        exact tri_mt2 gb g13 trivial (by repeat (first | exact trivial | refine ⟨rfl, ?_⟩)) (fun _ h => h)
    rintro gb g13 -
    have hA2 : RdH (Hp w0 (Y ++ gb.ds)) ga.v (doL n l o) := hA1.appR
    have hX2 : RdH (Hp w0 (Y ++ gb.ds)) v ops := hX1.appR
    obtain ⟨Z, hZ⟩ : ∃ Z, Z = Y ++ gb.ds := ⟨_, rfl⟩
    have hB2 : RdH (Hp w0 (Y ++ gb.ds)) gb.v (doL n l o) := gb.rd
    have hSZ : cs.Sublist Z := by rw [hZ]; exact hSY.trans (List.sublist_append_left _ _)
    rw [← hZ] at hA2 hX2 hB2 ⊢
    (repeat (first | refine au_pure ?_ | refine au_pass ?_ | refine au_box (fun _ => ?_) | refine au_alloc (fun _ => ?_) | refine au_store ?_ | refine au_make rfl rfl (fun _ => ?_) | refine au_lit rfl rfl rfl (fun _ => ?_) | refine au_append rfl rfl rfl rfl (fun _ => au_norm ?_) | refine au_storeE rfl rfl rfl rfl ?_ | refine tri_seq ?_ | refine tri_then ?_ | refine tri_region ?_ | refine tri_nil ?_ | refine tri_skip ?_ | refine tri_ret ?_ | refine tri_exit ?_ | refine tri_thenr ?_ | refine tri_thene ?_ | refine tri_blkn ?_ | refine tri_blkr ?_ | refine tri_blke ?_ | refine tri_blko (by rfl) ?_ | refine tri_if_t (by rfl) ?_ | refine tri_if_f (by rfl) ?_ | fail))
    rw [bne_self_eq_false (doE n l o)]
    (repeat (first | refine au_pure ?_ | refine au_pass ?_ | refine au_box (fun _ => ?_) | refine au_alloc (fun _ => ?_) | refine au_store ?_ | refine au_make rfl rfl (fun _ => ?_) | refine au_lit rfl rfl rfl (fun _ => ?_) | refine au_append rfl rfl rfl rfl (fun _ => au_norm ?_) | refine au_storeE rfl rfl rfl rfl ?_ | refine tri_seq ?_ | refine tri_then ?_ | refine tri_region ?_ | refine tri_nil ?_ | refine tri_skip ?_ | refine tri_ret ?_ | refine tri_exit ?_ | refine tri_thenr ?_ | refine tri_thene ?_ | refine tri_blkn ?_ | refine tri_blkr ?_ | refine tri_blke ?_ | refine tri_blko (by rfl) ?_ | refine tri_if_t (by rfl) ?_ | refine tri_if_f (by rfl) ?_ | fail))
    refine au_callC rfl rfl rfl rfl rfl (same_c w0 _ (l := doL n l o) (l' := doL n l o) (by repeat (first | assumption | exact rd_chunk (by first | (apply has_at; (repeat (first | exact at0 | apply atS)); done) | (repeat (first | assumption | apply has_cons))) | apply RdH.cons | refine RdH.cut ?_ rfl (by omega) (by omega))) (by repeat (first | assumption | exact rd_chunk (by first | (apply has_at; (repeat (first | exact at0 | apply atS)); done) | (repeat (first | assumption | apply has_cons))) | apply RdH.cons | refine RdH.cut ?_ rfl (by omega) (by omega))) (by omega) (by omega)) (fun _ => ?_)
    rw [decide_eq_true ⟨rfl, rfl⟩]
    (repeat (first | refine au_pure ?_ | refine au_pass ?_ | refine au_box (fun _ => ?_) | refine au_alloc (fun _ => ?_) | refine au_store ?_ | refine au_make rfl rfl (fun _ => ?_) | refine au_lit rfl rfl rfl (fun _ => ?_) | refine au_append rfl rfl rfl rfl (fun _ => au_norm ?_) | refine au_storeE rfl rfl rfl rfl ?_ | refine tri_seq ?_ | refine tri_then ?_ | refine tri_region ?_ | refine tri_nil ?_ | refine tri_skip ?_ | refine tri_ret ?_ | refine tri_exit ?_ | refine tri_thenr ?_ | refine tri_thene ?_ | refine tri_blkn ?_ | refine tri_blkr ?_ | refine tri_blke ?_ | refine tri_blko (by rfl) ?_ | refine tri_if_t (by rfl) ?_ | refine tri_if_f (by rfl) ?_ | fail))
    refine tri_held (Hp w0 (tlbC g13 n gb.v :: tlbC g11 n ga.v :: Z)) rfl ?_
    refine ap_take 0 rfl rfl rfl ?_; refine ap_take 1 rfl rfl rfl ?_
    refine ap_op 2 rfl ?_
    refine au_store ?_
    refine tri_nil ?_
    refine ap_in ?_
    refine ap_op 3 rfl ?_
    refine au_store ?_
    refine tri_nil ?_
    refine ap_in ?_
    refine ap_done ?_
    (repeat (first | refine au_pure ?_ | refine au_pass ?_ | refine au_box (fun _ => ?_) | refine au_alloc (fun _ => ?_) | refine au_store ?_ | refine au_make rfl rfl (fun _ => ?_) | refine au_lit rfl rfl rfl (fun _ => ?_) | refine au_append rfl rfl rfl rfl (fun _ => au_norm ?_) | refine au_storeE rfl rfl rfl rfl ?_ | refine tri_seq ?_ | refine tri_then ?_ | refine tri_region ?_ | refine tri_nil ?_ | refine tri_skip ?_ | refine tri_ret ?_ | refine tri_exit ?_ | refine tri_thenr ?_ | refine tri_thene ?_ | refine tri_blkn ?_ | refine tri_blkr ?_ | refine tri_blke ?_ | refine tri_blko (by rfl) ?_ | refine tri_if_t (by rfl) ?_ | refine tri_if_f (by rfl) ?_ | fail))
    exact tri_nx4 (i + 1) ga.v gb.v Z (by omega) ⟨by omega, by rw [hl']; exact hA2, by rw [hl']; exact hB2, hX2, hSZ⟩ (by repeat (first | exact trivial | refine ⟨rfl, ?_⟩)) (fun _ h => h.sub (by repeat (first | exact List.Sublist.refl _ | assumption | apply List.Sublist.cons_cons | apply List.Sublist.cons)))
  · (repeat (first | refine au_pure ?_ | refine au_pass ?_ | refine au_box (fun _ => ?_) | refine au_alloc (fun _ => ?_) | refine au_store ?_ | refine au_make rfl rfl (fun _ => ?_) | refine au_lit rfl rfl rfl (fun _ => ?_) | refine au_append rfl rfl rfl rfl (fun _ => au_norm ?_) | refine au_storeE rfl rfl rfl rfl ?_ | refine tri_seq ?_ | refine tri_then ?_ | refine tri_region ?_ | refine tri_nil ?_ | refine tri_skip ?_ | refine tri_ret ?_ | refine tri_exit ?_ | refine tri_thenr ?_ | refine tri_thene ?_ | refine tri_blkn ?_ | refine tri_blkr ?_ | refine tri_blke ?_ | refine tri_blko (by rfl) ?_ | refine tri_if_t (by rfl) ?_ | refine tri_if_f (by rfl) ?_ | fail))
    refine au_callC rfl rfl rfl rfl rfl (awake_c w0 _) (fun _ => ?_)
    (repeat (first | refine au_pure ?_ | refine au_pass ?_ | refine au_box (fun _ => ?_) | refine au_alloc (fun _ => ?_) | refine au_store ?_ | refine au_make rfl rfl (fun _ => ?_) | refine au_lit rfl rfl rfl (fun _ => ?_) | refine au_append rfl rfl rfl rfl (fun _ => au_norm ?_) | refine au_storeE rfl rfl rfl rfl ?_ | refine tri_seq ?_ | refine tri_then ?_ | refine tri_region ?_ | refine tri_nil ?_ | refine tri_skip ?_ | refine tri_ret ?_ | refine tri_exit ?_ | refine tri_thenr ?_ | refine tri_thene ?_ | refine tri_blkn ?_ | refine tri_blkr ?_ | refine tri_blke ?_ | refine tri_blko (by rfl) ?_ | refine tri_if_t (by rfl) ?_ | refine tri_if_f (by rfl) ?_ | fail))
    refine au_done1 rfl ?_
    intro w hw
    exact ⟨(), rfl, hw.sub ((hS.cons _).cons _)⟩
end
end Go.Proofs.Ytpcammiidklkhaa
