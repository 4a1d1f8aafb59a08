/- The walks of do and the reference's Do. No conditions. -/
import Derived.Test.YtpcammiidklkhaaTlbSame
set_option linter.unusedSimpArgs false
set_option linter.unusedVariables false
namespace Go.Proofs.Ytpcammiidklkhaa
open Go Go.RowKit
attribute [local irreducible] Code.wp wpList bodyPost Exit.then Exit.inBlock Calls wpQuiet Tri TriQ
theorem cal_slice {α σ : Type} [Enc α] {P : Program} {f : Nat} {args : List Value} {H : World → Prop} {V : σ → Value} {H' : σ → World → Prop} {v : Value} {l : List α} (hR : RdH H v l) (k : ∀ A c, v = .slice A l.length c → Cal P f args H V H') : Cal P f args H V H' := fun w hw => by
  obtain ⟨A, c, h, _⟩ := (hR w hw).form
  exact k A c h w hw
theorem fr_end {M : List Nat} {w0 w : World} {c : Chunk} {fr cs : List Chunk} (h : HpM M w0 (c :: (fr ++ cs)) w) : HpM M w0 (fr ++ (cs ++ [c])) w := by
  refine h.perm ?_
  rw [← List.append_assoc]
  exact List.perm_append_comm (l₁ := [c])
theorem RdH.appR {α : Type} {_ : Enc α} {w0 : World} {cs ds : List Chunk} {v : Value} {l : List α} (h : RdH (Hp w0 cs) v l) : RdH (Hp w0 (cs ++ ds)) v l := fun w hw => h w (hw.sub (List.sublist_append_left _ _))
section
variable (w0 : World) (fr cs : List Chunk)
set_option maxHeartbeats 4000000 in
theorem do_c {z : Int} {v : Value} {l : List TE} (o : OpT) (hR : RdH (Hp w0 cs) v l) (hlen : l.length ≤ 9223372036854775807) (hw : ∀ x ∈ l, Wf x) (h0 : 0 ≤ o.w) (h1 : o.w < 18446744073709551616) :
    Cal Try.prog 28 [tlbV z v, opV o] (Hp w0 (fr ++ cs)) (fun g : Got w0 cs (doL z l o) => .tuple #[tlbV z g.v, .int .i64 (doE z l o)]) (fun g => Hp w0 (fr ++ (cs ++ g.ds))) := by
  dsimp only [opV]
  have hlno : ∀ c, ¬ c = 0 → doE z l o = c → doL z l o = l := fun c h h' => by unfold doL; rw [h', if_neg h]
  have hR0 : RdH (Hp w0 (fr ++ cs)) v l := hR.app
  refine cal_slice hR0 fun A c hv => ?_
  subst hv
  refine cal_of_tri Try.func28 rfl Try.ntmps28 rfl ?_
  (repeat (first | refine au_pure ?_ | refine au_pass ?_ | refine au_box (fun _ => ?_) | refine au_alloc (fun _ => ?_) | refine au_store ?_ | refine au_make rfl rfl (fun _ => ?_) | refine au_lit rfl rfl rfl (fun _ => ?_) | refine au_append rfl rfl rfl rfl (fun _ => au_norm ?_) | refine au_storeE rfl rfl rfl rfl ?_ | refine tri_seq ?_ | refine tri_then ?_ | refine tri_region ?_ | refine tri_nil ?_ | refine tri_skip ?_ | refine tri_ret ?_ | refine tri_exit ?_ | refine tri_thenr ?_ | refine tri_thene ?_ | refine tri_blkn ?_ | refine tri_blkr ?_ | refine tri_blke ?_ | refine tri_blko (by rfl) ?_ | refine tri_if_t (by rfl) ?_ | refine tri_if_f (by rfl) ?_ | fail))
  rename_i g2 g3 g4 g6
  refine tri_block ?_
  (repeat' (first | refine au_pure ?_ | refine au_pass ?_ | refine au_box (fun _ => ?_) | refine au_alloc (fun _ => ?_) | refine au_store ?_ | refine au_make rfl rfl (fun _ => ?_) | refine au_lit rfl rfl rfl (fun _ => ?_) | refine au_append rfl rfl rfl rfl (fun _ => au_norm ?_) | refine au_storeE rfl rfl rfl rfl ?_ | refine tri_seq ?_ | refine tri_then ?_ | refine tri_region ?_ | refine tri_nil ?_ | refine tri_skip ?_ | refine tri_ret ?_ | refine tri_exit ?_ | refine tri_thenr ?_ | refine tri_thene ?_ | refine tri_blkn ?_ | refine tri_blkr ?_ | refine tri_blke ?_ | refine tri_blko (by rfl) ?_ | refine tri_if_t (by rfl) ?_ | refine tri_if_f (by rfl) ?_ | ((first | refine tri_cond (by rfl) (fun hc => ?_) (fun hc => ?_) | refine tri_gsplit (by rfl) (by rfl) (by (fail_if_success exact (rfl : _ = some (Value.bool true))); (fail_if_success exact (rfl : _ = some (Value.bool false))); rfl) (fun hc => ?_) (fun hc => ?_)) <;> (try simp only [decide_eq_true_eq, decide_eq_false_iff_not, beq_iff_eq, bne_iff_ne, ne_eq, Bool.not_eq_true', Bool.not_eq_false', beq_eq_false_iff_ne, bne_eq_false_iff_eq, Int.not_lt, Int.not_le, gt_iff_lt, ge_iff_le, Bool.and_eq_true, Bool.or_eq_true, Bool.and_eq_false_iff, Bool.or_eq_false_iff, Decidable.not_not, not_true_eq_false, not_false_eq_true, and_true, true_and, or_false, false_or, or_true, true_or, and_false, false_and, eq_self, Bool.true_eq_false, Bool.false_eq_true] at hc) <;> (try (exfalso; omega))) | fail))
  · have hk : o.k = 0 := by assumption
    have hE : doE z l o = mkE z l o.s o.p o.w := if_pos hk
    refine au_callC rfl rfl rfl rfl rfl (fill_c w0 _ (l := l) o.s o.p o.w (by repeat (first | assumption | exact rd_chunk (by first | (apply has_at; (repeat (first | exact at0 | apply atS)); done) | (repeat (first | assumption | apply has_cons))) | apply RdH.cons | refine RdH.cut ?_ rfl (by omega) (by omega))) hlen hw h0 h1) ?_
    intro r
    (repeat' (first | refine au_pure ?_ | refine au_pass ?_ | refine au_box (fun _ => ?_) | refine au_alloc (fun _ => ?_) | refine au_store ?_ | refine au_make rfl rfl (fun _ => ?_) | refine au_lit rfl rfl rfl (fun _ => ?_) | refine au_append rfl rfl rfl rfl (fun _ => au_norm ?_) | refine au_storeE rfl rfl rfl rfl ?_ | refine tri_seq ?_ | refine tri_then ?_ | refine tri_region ?_ | refine tri_nil ?_ | refine tri_skip ?_ | refine tri_ret ?_ | refine tri_exit ?_ | refine tri_thenr ?_ | refine tri_thene ?_ | refine tri_blkn ?_ | refine tri_blkr ?_ | refine tri_blke ?_ | refine tri_blko (by rfl) ?_ | refine tri_if_t (by rfl) ?_ | refine tri_if_f (by rfl) ?_ | ((first | refine tri_cond (by rfl) (fun hc => ?_) (fun hc => ?_) | refine tri_gsplit (by rfl) (by rfl) (by (fail_if_success exact (rfl : _ = some (Value.bool true))); (fail_if_success exact (rfl : _ = some (Value.bool false))); rfl) (fun hc => ?_) (fun hc => ?_)) <;> (try simp only [decide_eq_true_eq, decide_eq_false_iff_not, beq_iff_eq, bne_iff_ne, ne_eq, Bool.not_eq_true', Bool.not_eq_false', beq_eq_false_iff_ne, bne_eq_false_iff_eq, Int.not_lt, Int.not_le, gt_iff_lt, ge_iff_le, Bool.and_eq_true, Bool.or_eq_true, Bool.and_eq_false_iff, Bool.or_eq_false_iff, Decidable.not_not, not_true_eq_false, not_false_eq_true, and_true, true_and, or_false, false_or, or_true, true_or, and_false, false_and, eq_self, Bool.true_eq_false, Bool.false_eq_true] at hc) <;> (try (exfalso; omega))) | fail))
    · have hne : ¬ mkE z l o.s o.p o.w = 0 := by assumption
      have hl := hlno _ hne hE
      refine au_done2 rfl ?_
      intro w hw
      refine ⟨⟨A, _, c, [], by rw [hl, List.append_nil]; exact hR⟩, by rw [hE], by simp only [List.append_nil]; exact hw.sub (by repeat (first | exact List.Sublist.refl _ | assumption | apply List.Sublist.cons_cons | apply List.Sublist.cons))⟩
    · have he : mkE z l o.s o.p o.w = 0 := by assumption
      have hl : doL z l o = mkL z l (mkX o.s o.p o.w) := by unfold doL; rw [if_pos (hE.trans he), if_pos hk]
      rw [he]
      refine au_done2 rfl ?_
      intro w hw
      refine ⟨⟨r.A, r.len, r.cap, [teS r (mkL z l (mkX o.s o.p o.w))], by rw [hl]; exact rd_chunk (has_app (has_at at0))⟩, by rw [hE, he]; rfl, fr_end (hw.sub (by repeat (first | exact List.Sublist.refl _ | assumption | apply List.Sublist.cons_cons | apply List.Sublist.cons)))⟩
  · have hk : o.k = 1 := by assumption
    have hE : doE z l o = invE z l o.s o.p := by unfold doE; rw [if_neg (by omega), if_pos hk]
    refine au_callC rfl rfl rfl rfl rfl (inval_c w0 _ (l := l) o.s o.p (by repeat (first | assumption | exact rd_chunk (by first | (apply has_at; (repeat (first | exact at0 | apply atS)); done) | (repeat (first | assumption | apply has_cons))) | apply RdH.cons | refine RdH.cut ?_ rfl (by omega) (by omega))) hlen hw) ?_
    intro r
    (repeat' (first | refine au_pure ?_ | refine au_pass ?_ | refine au_box (fun _ => ?_) | refine au_alloc (fun _ => ?_) | refine au_store ?_ | refine au_make rfl rfl (fun _ => ?_) | refine au_lit rfl rfl rfl (fun _ => ?_) | refine au_append rfl rfl rfl rfl (fun _ => au_norm ?_) | refine au_storeE rfl rfl rfl rfl ?_ | refine tri_seq ?_ | refine tri_then ?_ | refine tri_region ?_ | refine tri_nil ?_ | refine tri_skip ?_ | refine tri_ret ?_ | refine tri_exit ?_ | refine tri_thenr ?_ | refine tri_thene ?_ | refine tri_blkn ?_ | refine tri_blkr ?_ | refine tri_blke ?_ | refine tri_blko (by rfl) ?_ | refine tri_if_t (by rfl) ?_ | refine tri_if_f (by rfl) ?_ | ((first | refine tri_cond (by rfl) (fun hc => ?_) (fun hc => ?_) | refine tri_gsplit (by rfl) (by rfl) (by (fail_if_success exact (rfl : _ = some (Value.bool true))); (fail_if_success exact (rfl : _ = some (Value.bool false))); rfl) (fun hc => ?_) (fun hc => ?_)) <;> (try simp only [decide_eq_true_eq, decide_eq_false_iff_not, beq_iff_eq, bne_iff_ne, ne_eq, Bool.not_eq_true', Bool.not_eq_false', beq_eq_false_iff_ne, bne_eq_false_iff_eq, Int.not_lt, Int.not_le, gt_iff_lt, ge_iff_le, Bool.and_eq_true, Bool.or_eq_true, Bool.and_eq_false_iff, Bool.or_eq_false_iff, Decidable.not_not, not_true_eq_false, not_false_eq_true, and_true, true_and, or_false, false_or, or_true, true_or, and_false, false_and, eq_self, Bool.true_eq_false, Bool.false_eq_true] at hc) <;> (try (exfalso; omega))) | fail))
    · have hne : ¬ invE z l o.s o.p = 0 := by assumption
      have hl := hlno _ hne hE
      refine au_done2 rfl ?_
      intro w hw
      refine ⟨⟨A, _, c, [], by rw [hl, List.append_nil]; exact hR⟩, by rw [hE], by simp only [List.append_nil]; exact hw.sub (by repeat (first | exact List.Sublist.refl _ | assumption | apply List.Sublist.cons_cons | apply List.Sublist.cons))⟩
    · have he : invE z l o.s o.p = 0 := by assumption
      have hl : doL z l o = invL l o.s o.p := by unfold doL; rw [if_pos (hE.trans he), if_neg (by omega), if_pos hk]
      rw [he]
      refine au_done2 rfl ?_
      intro w hw
      refine ⟨⟨r.A, r.len, r.cap, [teS r (invL l o.s o.p)], by rw [hl]; exact rd_chunk (has_app (has_at at0))⟩, by rw [hE, he]; rfl, fr_end (hw.sub (by repeat (first | exact List.Sublist.refl _ | assumption | apply List.Sublist.cons_cons | apply List.Sublist.cons)))⟩
  · have hk : o.k = 2 := by assumption
    have hE : doE z l o = flE z l o.s := by unfold doE; rw [if_neg (by omega), if_neg (by omega), if_pos hk]
    refine au_callC rfl rfl rfl rfl rfl (flush_c w0 _ (l := l) o.s (by repeat (first | assumption | exact rd_chunk (by first | (apply has_at; (repeat (first | exact at0 | apply atS)); done) | (repeat (first | assumption | apply has_cons))) | apply RdH.cons | refine RdH.cut ?_ rfl (by omega) (by omega))) hlen hw) ?_
    intro r
    (repeat' (first | refine au_pure ?_ | refine au_pass ?_ | refine au_box (fun _ => ?_) | refine au_alloc (fun _ => ?_) | refine au_store ?_ | refine au_make rfl rfl (fun _ => ?_) | refine au_lit rfl rfl rfl (fun _ => ?_) | refine au_append rfl rfl rfl rfl (fun _ => au_norm ?_) | refine au_storeE rfl rfl rfl rfl ?_ | refine tri_seq ?_ | refine tri_then ?_ | refine tri_region ?_ | refine tri_nil ?_ | refine tri_skip ?_ | refine tri_ret ?_ | refine tri_exit ?_ | refine tri_thenr ?_ | refine tri_thene ?_ | refine tri_blkn ?_ | refine tri_blkr ?_ | refine tri_blke ?_ | refine tri_blko (by rfl) ?_ | refine tri_if_t (by rfl) ?_ | refine tri_if_f (by rfl) ?_ | ((first | refine tri_cond (by rfl) (fun hc => ?_) (fun hc => ?_) | refine tri_gsplit (by rfl) (by rfl) (by (fail_if_success exact (rfl : _ = some (Value.bool true))); (fail_if_success exact (rfl : _ = some (Value.bool false))); rfl) (fun hc => ?_) (fun hc => ?_)) <;> (try simp only [decide_eq_true_eq, decide_eq_false_iff_not, beq_iff_eq, bne_iff_ne, ne_eq, Bool.not_eq_true', Bool.not_eq_false', beq_eq_false_iff_ne, bne_eq_false_iff_eq, Int.not_lt, Int.not_le, gt_iff_lt, ge_iff_le, Bool.and_eq_true, Bool.or_eq_true, Bool.and_eq_false_iff, Bool.or_eq_false_iff, Decidable.not_not, not_true_eq_false, not_false_eq_true, and_true, true_and, or_false, false_or, or_true, true_or, and_false, false_and, eq_self, Bool.true_eq_false, Bool.false_eq_true] at hc) <;> (try (exfalso; omega))) | fail))
    · have hne : ¬ flE z l o.s = 0 := by assumption
      have hl := hlno _ hne hE
      refine au_done2 rfl ?_
      intro w hw
      refine ⟨⟨A, _, c, [], by rw [hl, List.append_nil]; exact hR⟩, by rw [hE], by simp only [List.append_nil]; exact hw.sub (by repeat (first | exact List.Sublist.refl _ | assumption | apply List.Sublist.cons_cons | apply List.Sublist.cons))⟩
    · have he : flE z l o.s = 0 := by assumption
      have hl : doL z l o = flL l o.s := by unfold doL; rw [if_pos (hE.trans he), if_neg (by omega), if_neg (by omega), if_pos hk]
      rw [he]
      refine au_done2 rfl ?_
      intro w hw
      refine ⟨⟨r.A, r.len, r.cap, [teS r (flL l o.s)], by rw [hl]; exact rd_chunk (has_app (has_at at0))⟩, by rw [hE, he]; rfl, fr_end (hw.sub (by repeat (first | exact List.Sublist.refl _ | assumption | apply List.Sublist.cons_cons | apply List.Sublist.cons)))⟩
  · have hE : doE z l o = 0 := by unfold doE; rw [if_neg (by omega), if_neg (by omega), if_neg (by omega)]
    have hl : doL z l o = l := by unfold doL; rw [if_pos hE, if_neg (by omega), if_neg (by omega), if_neg (by omega)]
    refine au_done2 rfl ?_
    intro w hw
    refine ⟨⟨A, _, c, [], by rw [hl, List.append_nil]; exact hR⟩, by rw [hE], by simp only [List.append_nil]; exact hw.sub (by repeat (first | exact List.Sublist.refl _ | assumption | apply List.Sublist.cons_cons | apply List.Sublist.cons))⟩
set_option maxHeartbeats 4000000 in
theorem rdo_c {z : Int} {v : Value} {l : List TE} (o : OpT) (hR : RdH (Hp w0 cs) v l) (hlen : l.length ≤ 9223372036854775807) (hw : ∀ x ∈ l, Wf x) (h0 : 0 ≤ o.w) (h1 : o.w < 18446744073709551616) :
    Cal Try.prog 29 [tlbV z v, opV o] (Hp w0 (fr ++ cs)) (fun g : Got w0 cs (doL z l o) => .tuple #[tlbV z g.v, .int .i64 (doE z l o)]) (fun g => Hp w0 (fr ++ (cs ++ g.ds))) := by
  dsimp only [opV]
  have hlno : ∀ c, ¬ c = 0 → doE z l o = c → doL z l o = l := fun c h h' => by unfold doL; rw [h', if_neg h]
  have hR0 : RdH (Hp w0 (fr ++ cs)) v l := hR.app
  refine cal_slice hR0 fun A c hv => ?_
  subst hv
  refine cal_of_tri Try.func29 rfl Try.ntmps29 rfl ?_
  (repeat (first | refine au_pure ?_ | refine au_pass ?_ | refine au_box (fun _ => ?_) | refine au_alloc (fun _ => ?_) | refine au_store ?_ | refine au_make rfl rfl (fun _ => ?_) | refine au_lit rfl rfl rfl (fun _ => ?_) | refine au_append rfl rfl rfl rfl (fun _ => au_norm ?_) | refine au_storeE rfl rfl rfl rfl ?_ | refine tri_seq ?_ | refine tri_then ?_ | refine tri_region ?_ | refine tri_nil ?_ | refine tri_skip ?_ | refine tri_ret ?_ | refine tri_exit ?_ | refine tri_thenr ?_ | refine tri_thene ?_ | refine tri_blkn ?_ | refine tri_blkr ?_ | refine tri_blke ?_ | refine tri_blko (by rfl) ?_ | refine tri_if_t (by rfl) ?_ | refine tri_if_f (by rfl) ?_ | fail))
  rename_i g2 g3 g4 g6
  refine tri_block ?_
  (repeat' (first | refine au_pure ?_ | refine au_pass ?_ | refine au_box (fun _ => ?_) | refine au_alloc (fun _ => ?_) | refine au_store ?_ | refine au_make rfl rfl (fun _ => ?_) | refine au_lit rfl rfl rfl (fun _ => ?_) | refine au_append rfl rfl rfl rfl (fun _ => au_norm ?_) | refine au_storeE rfl rfl rfl rfl ?_ | refine tri_seq ?_ | refine tri_then ?_ | refine tri_region ?_ | refine tri_nil ?_ | refine tri_skip ?_ | refine tri_ret ?_ | refine tri_exit ?_ | refine tri_thenr ?_ | refine tri_thene ?_ | refine tri_blkn ?_ | refine tri_blkr ?_ | refine tri_blke ?_ | refine tri_blko (by rfl) ?_ | refine tri_if_t (by rfl) ?_ | refine tri_if_f (by rfl) ?_ | ((first | refine tri_cond (by rfl) (fun hc => ?_) (fun hc => ?_) | refine tri_gsplit (by rfl) (by rfl) (by (fail_if_success exact (rfl : _ = some (Value.bool true))); (fail_if_success exact (rfl : _ = some (Value.bool false))); rfl) (fun hc => ?_) (fun hc => ?_)) <;> (try simp only [decide_eq_true_eq, decide_eq_false_iff_not, beq_iff_eq, bne_iff_ne, ne_eq, Bool.not_eq_true', Bool.not_eq_false', beq_eq_false_iff_ne, bne_eq_false_iff_eq, Int.not_lt, Int.not_le, gt_iff_lt, ge_iff_le, Bool.and_eq_true, Bool.or_eq_true, Bool.and_eq_false_iff, Bool.or_eq_false_iff, Decidable.not_not, not_true_eq_false, not_false_eq_true, and_true, true_and, or_false, false_or, or_true, true_or, and_false, false_and, eq_self, Bool.true_eq_false, Bool.false_eq_true] at hc) <;> (try (exfalso; omega))) | fail))
  · have hk : o.k = 0 := by assumption
    have hE : doE z l o = mkE z l o.s o.p o.w := if_pos hk
    refine au_callC rfl rfl rfl rfl rfl (rfill_c w0 _ (l := l) o.s o.p o.w (by repeat (first | assumption | exact rd_chunk (by first | (apply has_at; (repeat (first | exact at0 | apply atS)); done) | (repeat (first | assumption | apply has_cons))) | apply RdH.cons | refine RdH.cut ?_ rfl (by omega) (by omega))) hlen hw h0 h1) ?_
    intro r
    (repeat' (first | refine au_pure ?_ | refine au_pass ?_ | refine au_box (fun _ => ?_) | refine au_alloc (fun _ => ?_) | refine au_store ?_ | refine au_make rfl rfl (fun _ => ?_) | refine au_lit rfl rfl rfl (fun _ => ?_) | refine au_append rfl rfl rfl rfl (fun _ => au_norm ?_) | refine au_storeE rfl rfl rfl rfl ?_ | refine tri_seq ?_ | refine tri_then ?_ | refine tri_region ?_ | refine tri_nil ?_ | refine tri_skip ?_ | refine tri_ret ?_ | refine tri_exit ?_ | refine tri_thenr ?_ | refine tri_thene ?_ | refine tri_blkn ?_ | refine tri_blkr ?_ | refine tri_blke ?_ | refine tri_blko (by rfl) ?_ | refine tri_if_t (by rfl) ?_ | refine tri_if_f (by rfl) ?_ | ((first | refine tri_cond (by rfl) (fun hc => ?_) (fun hc => ?_) | refine tri_gsplit (by rfl) (by rfl) (by (fail_if_success exact (rfl : _ = some (Value.bool true))); (fail_if_success exact (rfl : _ = some (Value.bool false))); rfl) (fun hc => ?_) (fun hc => ?_)) <;> (try simp only [decide_eq_true_eq, decide_eq_false_iff_not, beq_iff_eq, bne_iff_ne, ne_eq, Bool.not_eq_true', Bool.not_eq_false', beq_eq_false_iff_ne, bne_eq_false_iff_eq, Int.not_lt, Int.not_le, gt_iff_lt, ge_iff_le, Bool.and_eq_true, Bool.or_eq_true, Bool.and_eq_false_iff, Bool.or_eq_false_iff, Decidable.not_not, not_true_eq_false, not_false_eq_true, and_true, true_and, or_false, false_or, or_true, true_or, and_false, false_and, eq_self, Bool.true_eq_false, Bool.false_eq_true] at hc) <;> (try (exfalso; omega))) | fail))
    · have hne : ¬ mkE z l o.s o.p o.w = 0 := by assumption
      have hl := hlno _ hne hE
      refine au_done2 rfl ?_
      intro w hw
      refine ⟨⟨A, _, c, [], by rw [hl, List.append_nil]; exact hR⟩, by rw [hE], by simp only [List.append_nil]; exact hw.sub (by repeat (first | exact List.Sublist.refl _ | assumption | apply List.Sublist.cons_cons | apply List.Sublist.cons))⟩
    · have he : mkE z l o.s o.p o.w = 0 := by assumption
      have hl : doL z l o = mkL z l (mkX o.s o.p o.w) := by unfold doL; rw [if_pos (hE.trans he), if_pos hk]
      rw [he]
      refine au_done2 rfl ?_
      intro w hw
      refine ⟨⟨r.A, r.len, r.cap, [teS r (mkL z l (mkX o.s o.p o.w))], by rw [hl]; exact rd_chunk (has_app (has_at at0))⟩, by rw [hE, he]; rfl, fr_end (hw.sub (by repeat (first | exact List.Sublist.refl _ | assumption | apply List.Sublist.cons_cons | apply List.Sublist.cons)))⟩
  · have hk : o.k = 1 := by assumption
    have hE : doE z l o = invE z l o.s o.p := by unfold doE; rw [if_neg (by omega), if_pos hk]
    refine au_callC rfl rfl rfl rfl rfl (rinval_c w0 _ (l := l) o.s o.p (by repeat (first | assumption | exact rd_chunk (by first | (apply has_at; (repeat (first | exact at0 | apply atS)); done) | (repeat (first | assumption | apply has_cons))) | apply RdH.cons | refine RdH.cut ?_ rfl (by omega) (by omega))) hlen hw) ?_
    intro r
    (repeat' (first | refine au_pure ?_ | refine au_pass ?_ | refine au_box (fun _ => ?_) | refine au_alloc (fun _ => ?_) | refine au_store ?_ | refine au_make rfl rfl (fun _ => ?_) | refine au_lit rfl rfl rfl (fun _ => ?_) | refine au_append rfl rfl rfl rfl (fun _ => au_norm ?_) | refine au_storeE rfl rfl rfl rfl ?_ | refine tri_seq ?_ | refine tri_then ?_ | refine tri_region ?_ | refine tri_nil ?_ | refine tri_skip ?_ | refine tri_ret ?_ | refine tri_exit ?_ | refine tri_thenr ?_ | refine tri_thene ?_ | refine tri_blkn ?_ | refine tri_blkr ?_ | refine tri_blke ?_ | refine tri_blko (by rfl) ?_ | refine tri_if_t (by rfl) ?_ | refine tri_if_f (by rfl) ?_ | ((first | refine tri_cond (by rfl) (fun hc => ?_) (fun hc => ?_) | refine tri_gsplit (by rfl) (by rfl) (by (fail_if_success exact (rfl : _ = some (Value.bool true))); (fail_if_success exact (rfl : _ = some (Value.bool false))); rfl) (fun hc => ?_) (fun hc => ?_)) <;> (try simp only [decide_eq_true_eq, decide_eq_false_iff_not, beq_iff_eq, bne_iff_ne, ne_eq, Bool.not_eq_true', Bool.not_eq_false', beq_eq_false_iff_ne, bne_eq_false_iff_eq, Int.not_lt, Int.not_le, gt_iff_lt, ge_iff_le, Bool.and_eq_true, Bool.or_eq_true, Bool.and_eq_false_iff, Bool.or_eq_false_iff, Decidable.not_not, not_true_eq_false, not_false_eq_true, and_true, true_and, or_false, false_or, or_true, true_or, and_false, false_and, eq_self, Bool.true_eq_false, Bool.false_eq_true] at hc) <;> (try (exfalso; omega))) | fail))
    · have hne : ¬ invE z l o.s o.p = 0 := by assumption
      have hl := hlno _ hne hE
      refine au_done2 rfl ?_
      intro w hw
      refine ⟨⟨A, _, c, [], by rw [hl, List.append_nil]; exact hR⟩, by rw [hE], by simp only [List.append_nil]; exact hw.sub (by repeat (first | exact List.Sublist.refl _ | assumption | apply List.Sublist.cons_cons | apply List.Sublist.cons))⟩
    · have he : invE z l o.s o.p = 0 := by assumption
      have hl : doL z l o = invL l o.s o.p := by unfold doL; rw [if_pos (hE.trans he), if_neg (by omega), if_pos hk]
      rw [he]
      refine au_done2 rfl ?_
      intro w hw
      refine ⟨⟨r.A, r.len, r.cap, [teS r (invL l o.s o.p)], by rw [hl]; exact rd_chunk (has_app (has_at at0))⟩, by rw [hE, he]; rfl, fr_end (hw.sub (by repeat (first | exact List.Sublist.refl _ | assumption | apply List.Sublist.cons_cons | apply List.Sublist.cons)))⟩
  · have hk : o.k = 2 := by assumption
    have hE : doE z l o = flE z l o.s := by unfold doE; rw [if_neg (by omega), if_neg (by omega), if_pos hk]
    refine au_callC rfl rfl rfl rfl rfl (rflush_c w0 _ (l := l) o.s (by repeat (first | assumption | exact rd_chunk (by first | (apply has_at; (repeat (first | exact at0 | apply atS)); done) | (repeat (first | assumption | apply has_cons))) | apply RdH.cons | refine RdH.cut ?_ rfl (by omega) (by omega))) hlen hw) ?_
    intro r
    (repeat' (first | refine au_pure ?_ | refine au_pass ?_ | refine au_box (fun _ => ?_) | refine au_alloc (fun _ => ?_) | refine au_store ?_ | refine au_make rfl rfl (fun _ => ?_) | refine au_lit rfl rfl rfl (fun _ => ?_) | refine au_append rfl rfl rfl rfl (fun _ => au_norm ?_) | refine au_storeE rfl rfl rfl rfl ?_ | refine tri_seq ?_ | refine tri_then ?_ | refine tri_region ?_ | refine tri_nil ?_ | refine tri_skip ?_ | refine tri_ret ?_ | refine tri_exit ?_ | refine tri_thenr ?_ | refine tri_thene ?_ | refine tri_blkn ?_ | refine tri_blkr ?_ | refine tri_blke ?_ | refine tri_blko (by rfl) ?_ | refine tri_if_t (by rfl) ?_ | refine tri_if_f (by rfl) ?_ | ((first | refine tri_cond (by rfl) (fun hc => ?_) (fun hc => ?_) | refine tri_gsplit (by rfl) (by rfl) (by (fail_if_success exact (rfl : _ = some (Value.bool true))); (fail_if_success exact (rfl : _ = some (Value.bool false))); rfl) (fun hc => ?_) (fun hc => ?_)) <;> (try simp only [decide_eq_true_eq, decide_eq_false_iff_not, beq_iff_eq, bne_iff_ne, ne_eq, Bool.not_eq_true', Bool.not_eq_false', beq_eq_false_iff_ne, bne_eq_false_iff_eq, Int.not_lt, Int.not_le, gt_iff_lt, ge_iff_le, Bool.and_eq_true, Bool.or_eq_true, Bool.and_eq_false_iff, Bool.or_eq_false_iff, Decidable.not_not, not_true_eq_false, not_false_eq_true, and_true, true_and, or_false, false_or, or_true, true_or, and_false, false_and, eq_self, Bool.true_eq_false, Bool.false_eq_true] at hc) <;> (try (exfalso; omega))) | fail))
    · have hne : ¬ flE z l o.s = 0 := by assumption
      have hl := hlno _ hne hE
      refine au_done2 rfl ?_
      intro w hw
      refine ⟨⟨A, _, c, [], by rw [hl, List.append_nil]; exact hR⟩, by rw [hE], by simp only [List.append_nil]; exact hw.sub (by repeat (first | exact List.Sublist.refl _ | assumption | apply List.Sublist.cons_cons | apply List.Sublist.cons))⟩
    · have he : flE z l o.s = 0 := by assumption
      have hl : doL z l o = flL l o.s := by unfold doL; rw [if_pos (hE.trans he), if_neg (by omega), if_neg (by omega), if_pos hk]
      rw [he]
      refine au_done2 rfl ?_
      intro w hw
      refine ⟨⟨r.A, r.len, r.cap, [teS r (flL l o.s)], by rw [hl]; exact rd_chunk (has_app (has_at at0))⟩, by rw [hE, he]; rfl, fr_end (hw.sub (by repeat (first | exact List.Sublist.refl _ | assumption | apply List.Sublist.cons_cons | apply List.Sublist.cons)))⟩
  · have hE : doE z l o = 0 := by unfold doE; rw [if_neg (by omega), if_neg (by omega), if_neg (by omega)]
    have hl : doL z l o = l := by unfold doL; rw [if_pos hE, if_neg (by omega), if_neg (by omega), if_neg (by omega)]
    refine au_done2 rfl ?_
    intro w hw
    refine ⟨⟨A, _, c, [], by rw [hl, List.append_nil]; exact hR⟩, by rw [hE], by simp only [List.append_nil]; exact hw.sub (by repeat (first | exact List.Sublist.refl _ | assumption | apply List.Sublist.cons_cons | apply List.Sublist.cons))⟩
end
end Go.Proofs.Ytpcammiidklkhaa
