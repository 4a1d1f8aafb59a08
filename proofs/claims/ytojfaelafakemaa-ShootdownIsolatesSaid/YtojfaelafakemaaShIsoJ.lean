/- Texts joined: ShIso. Each part's own remark says what it proves. -/
import Derived.Test.YtojfaelafakemaaShBeginJ
/- The walk of the law ShootdownIsolates. No conditions. -/
set_option linter.unusedSimpArgs false
set_option linter.unusedVariables false
namespace Go.Proofs.Ytojfaelafakemaa
open Go Go.RowKit
attribute [local irreducible] mapM unmapM protM accM ackM sdoM schk snewM freeM quietM goM bgM atM decR
attribute [local irreducible] Code.wp wpList bodyPost Exit.then Exit.inBlock Calls wpQuiet Tri TriQ
section
variable (w0 : World) (cs : List Chunk)
set_option maxHeartbeats 4000000 in
theorem isolates_law {vO : Value} {ops : List SO} (a b c d : Int) (ha : 0 ≤ a ∧ a ≤ 255) (hb : 0 ≤ b ∧ b ≤ 255) (hc : 0 ≤ c ∧ c ≤ 255) (hd' : 0 ≤ d ∧ d ≤ 255) (hO : ∀ cs, RdH (Hp w0 cs) vO ops) (hOl : ops.length ≤ 9223372036854775807) :
    Cal Try.prog 3 [.agg #[.int .u8 a, .int .u8 b, .int .u8 c, .int .u8 d], vO] (Hp w0 cs) (fun _ : Unit => .bool true) (fun _ => Hp w0 cs) := by
  refine cal_of_tri Try.func3 rfl Try.ntmps3 rfl ?_
  (repeat (first | refine tri_seq ?_ | refine tri_then ?_)); refine tri_region ?_; (repeat (first | refine au_pure ?_ | refine au_pass ?_ | refine au_box (fun _ => ?_) | refine au_alloc (fun _ => ?_) | refine au_store ?_ | refine au_make rfl rfl (fun _ => ?_) | refine au_lit rfl rfl rfl (fun _ => ?_) | refine au_append rfl rfl rfl rfl (fun _ => au_norm ?_) | refine au_storeE rfl rfl rfl rfl ?_)); refine tri_nil ?_; (repeat refine tri_then ?_)
  rename_i g2
  refine tri_weak (H' := Hp w0 (u4C g2 a b c d :: cs)) (fun w h => h) ?_
  (repeat (first | refine zz ?_ | refine zv fun _ => ?_))
  refine au_callC rfl rfl rfl rfl rfl (awake_c w0 _) (fun _ => ?_)
  (repeat (first | refine zz ?_ | refine zv fun _ => ?_))
  refine au_pure ?_ (hy := yl_len rfl rfl (hO _))
  (repeat (first | refine zz ?_ | refine zv fun _ => ?_))
  cases h1 : decide ((ops.length : Int) > 40)
  case true =>
    (repeat (first | refine zz ?_ | refine zv fun _ => ?_))
    refine au_callC rfl rfl rfl rfl rfl (awake_c w0 _) (fun _ => ?_)
    (repeat (first | refine zz ?_ | refine zv fun _ => ?_))
    refine au_done1 rfl ?_
    exact fun w hw => ⟨(), rfl, hw.sub (by repeat (first | exact List.Sublist.refl _ | assumption | apply List.Sublist.cons_cons | apply List.Sublist.cons))⟩
  have h1 := of_decide_eq_false h1
  (repeat (first | refine zz ?_ | refine zv fun _ => ?_))
  refine au_callC rfl rfl rfl rfl rfl (begin_c w0 _ a b c d ha hb hc hd') ?_
  rintro ⟨q, hq⟩
  (repeat (first | refine au_pure ?_ | refine au_pass ?_ | refine au_box (fun _ => ?_) | refine au_alloc (fun _ => ?_) | refine au_store ?_ | refine au_make rfl rfl (fun _ => ?_) | refine au_lit rfl rfl rfl (fun _ => ?_) | refine au_append rfl rfl rfl rfl (fun _ => au_norm ?_) | refine au_storeE rfl rfl rfl rfl ?_)); refine tri_nil ?_; (repeat refine tri_then ?_)
  rename_i g5
  refine tri_weak (H' := Hp w0 (hdC g5 (hd q) :: (SC q (bgM a b c d) ++ cs))) (fun w h => h.sub (List.Sublist.cons_cons _ (List.Sublist.append_left (List.Sublist.cons _ (List.Sublist.refl _)) _))) ?_
  have hkp := bg_kp a b c d
  have hvp := bg_vp a b c d
  (repeat (first | refine zz ?_ | refine zv fun _ => ?_))
  refine au_pure ?_ (hy := yl_len rfl rfl (hO _))
  (repeat (first | refine zz ?_ | refine zv fun _ => ?_))
  refine tri_block ?_
  refine tri_loop2 (fun (k : Nat) (y : SR × SM) => k ≤ ops.length ∧ SOk y.1 y.2 ∧ Kp k y.2 ∧ Vp y.2) (fun k _ => [(5, .pointer (some ⟨g5, 0, none⟩)), (32, vO), (33, .int .i64 (ops.length : Int)), (34, .int .i64 (k : Int))])
    (fun _ y => Hp w0 (hdC g5 (hd y.1) :: (SC y.1 y.2 ++ cs))) (fun k _ => ops.length - k)
    0 (q, bgM a b c d) ⟨by omega, hq, hkp, hvp⟩ (by repeat (first | exact trivial | refine ⟨rfl, ?_⟩)) (fun w h' => h') ?_
  clear hq hkp hvp
  rintro k ⟨q, m⟩ ⟨hk, hq, hkp, hvp⟩
  simp only at hq hkp hvp
  (repeat (first | refine zz ?_ | refine zv fun _ => ?_))
  ((first | refine tri_cond (by rfl) (fun hc => ?_) (fun hc => ?_) | refine tri_gsplit (by rfl) (by rfl) (by (fail_if_success exact (rfl : _ = some (Value.bool true))); (fail_if_success exact (rfl : _ = some (Value.bool false))); rfl) (fun hc => ?_) (fun hc => ?_)) <;> (try simp only [decide_eq_true_eq, decide_eq_false_iff_not, beq_iff_eq, bne_iff_ne, ne_eq, Bool.not_eq_true', Bool.not_eq_false', beq_eq_false_iff_ne, bne_eq_false_iff_eq, Int.not_lt, Int.not_le, gt_iff_lt, ge_iff_le, Bool.and_eq_true, Bool.or_eq_true, Bool.and_eq_false_iff, Bool.or_eq_false_iff, Decidable.not_not, not_true_eq_false, not_false_eq_true, and_true, true_and, or_false, false_or, or_true, true_or, and_false, false_and, eq_self, Bool.true_eq_false, Bool.false_eq_true] at hc) <;> (try (exfalso; omega)))
  case refine_1 =>
    have hkn := sdo_kp hkp (by omega) (ops.getD k default)
    (repeat (first | refine zz ?_ | refine zv fun _ => ?_))
    refine tri_block ?_
    refine tri_weak (H' := Hp w0 (hdC g5 (hd q) :: (SC q m ++ cs))) (fun w h => h) ?_
    (repeat (first | refine zz ?_ | refine zv fun _ => ?_))
    refine au_pure ?_ (hy := yl_idx (k := k) rfl rfl (hO _) (ix_nat rfl) (by rfl) (by omega))
    refine au_pure ?_ (hy := yl_loadEN rfl rfl (hO _) (by rfl) (by omega) (by repeat (first | exact nf0 rfl | apply nfS rfl | exact nfR)) (by rfl))
    obtain ⟨o, ho⟩ : ∃ o, o = ops.getD k default := ⟨_, rfl⟩
    rw [← ho] at hkn ⊢
    (repeat (first | refine au_pure ?_ | refine au_pass ?_ | refine au_box (fun _ => ?_) | refine au_alloc (fun _ => ?_) | refine au_store ?_ | refine au_make rfl rfl (fun _ => ?_) | refine au_lit rfl rfl rfl (fun _ => ?_) | refine au_append rfl rfl rfl rfl (fun _ => au_norm ?_) | refine au_storeE rfl rfl rfl rfl ?_)); refine tri_nil ?_; (repeat refine tri_then ?_)
    rename_i g8
    obtain ⟨N0, hN0⟩ : ∃ X, X = SC q m ++ cs := ⟨_, rfl⟩
    have hs0 : cs.Sublist N0 := by rw [hN0]; exact List.sublist_append_right _ _
    have hC0 : RdS (Hp w0 N0) (hd q) (tlx q.bs m.tl) (q.ps.map Row.sv) m := by rw [hN0]; exact rdS_own hq
    refine tri_weak (H' := Hp w0 (soC g8 o :: hdC g5 (hd q) :: N0)) (fun w h => by rw [hN0]; exact h) ?_
    (repeat (first | refine zz ?_ | refine zv fun _ => ?_))
    refine au_callC rfl rfl rfl rfl rfl (do_c w0 _ o ((hC0.cons (c := hdC g5 (hd q))).cons (c := soC g8 o)) hkp.s (fun i => by have := hkp.p i; omega)) ?_
    rintro ⟨q1, hq1⟩
    (repeat (first | refine au_pure ?_ | refine au_pass ?_ | refine au_box (fun _ => ?_) | refine au_alloc (fun _ => ?_) | refine au_store ?_ | refine au_make rfl rfl (fun _ => ?_) | refine au_lit rfl rfl rfl (fun _ => ?_) | refine au_append rfl rfl rfl rfl (fun _ => au_norm ?_) | refine au_storeE rfl rfl rfl rfl ?_)); refine tri_nil ?_; (repeat refine tri_then ?_)
    rename_i g9
    obtain ⟨N1, hN1⟩ : ∃ X, X = SC q1 (sdoM m o).1 ++ N0 := ⟨_, rfl⟩
    have hs1 : N0.Sublist N1 := by rw [hN1]; exact List.sublist_append_right _ _
    have hA : RdS (Hp w0 N1) (hd q1) (tlx q1.bs (sdoM m o).1.tl) (q1.ps.map Row.sv) (sdoM m o).1 := by rw [hN1]; exact rdS_own hq1
    refine tri_weak (H' := Hp w0 (hdC g9 (hd q1) :: soC g8 o :: hdC g5 (hd q) :: N1)) (fun w h' => by rw [hN1]; exact sc_upK [soC g8 o, hdC g5 (hd q)] h' (List.Sublist.refl _)) ?_
    have hA5 := hA.cons (c := hdC g5 (hd q)) |>.cons (c := soC g8 o) |>.cons (c := hdC g9 (hd q1))
    have hC5 := (hC0.sub hs1).cons (c := hdC g5 (hd q)) |>.cons (c := soC g8 o) |>.cons (c := hdC g9 (hd q1))
    have hback : ∀ w, Hp w0 (hdC g9 (hd q1) :: soC g8 o :: hdC g5 (hd q) :: N1) w → Hp w0 (hdC g5 (hd q) :: (SC q m ++ cs)) w := fun w h' => h'.sub (List.Sublist.cons _ (List.Sublist.cons _ (List.Sublist.cons_cons _ (by rw [← hN0]; exact hs1))))
    have hfwd : ∀ w, Hp w0 (hdC g9 (hd q1) :: soC g8 o :: hdC g5 (hd q1) :: N1) w → Hp w0 (hdC g5 (hd q1) :: (SC q1 (sdoM m o).1 ++ cs)) w := fun w h' => h'.sub (List.Sublist.cons _ (List.Sublist.cons _ (List.Sublist.cons_cons _ (by rw [hN1]; exact List.Sublist.append_left hs0 _))))
    (repeat (first | refine zz ?_ | refine zv fun _ => ?_))
    refine au_callC rfl rfl rfl rfl rfl (goes_c w0 _ (sdoM m o).2.2) (fun _ => ?_)
    (repeat (first | refine zz ?_ | refine zv fun _ => ?_))
    cases hg : goM (sdoM m o).2.2
    case false =>
      (repeat (first | refine zz ?_ | refine zv fun _ => ?_))
      exact tri_nx2 (k + 1) (q, m) (by omega) ⟨by omega, hq, hkp.up (Nat.le_succ _), hvp⟩ (by repeat (first | exact trivial | refine ⟨rfl, ?_⟩)) hback
    have hst := sdo_stp hvp (go_gz hg)
    have hvn := hst.vp hvp
    obtain ⟨hi1, hi2, hi3⟩ := iso_ok hvp hst
    have hsc : schk (sdoM m o).1 = 0 := vp_iff.2 hvn
    (repeat (first | refine zz ?_ | refine zv fun _ => ?_))
    refine au_pure ?_ (hy := yl_len rfl rfl hA5.wd)
    (repeat (first | refine zz ?_ | refine zv fun _ => ?_))
    refine au_pure ?_ (hy := yl_len rfl rfl hC5.wd)
    (repeat (first | refine zz ?_ | refine zv fun _ => ?_))
    rw [show (((sdoM m o).1.wd.length : Int) != (m.wd.length : Int)) = false by rw [hi1]; simp]
    (repeat (first | refine zz ?_ | refine zv fun _ => ?_))
    refine au_pure ?_ (hy := yl_len rfl rfl hA5.tb)
    (repeat (first | refine zz ?_ | refine zv fun _ => ?_))
    refine au_pure ?_ (hy := yl_len rfl rfl hC5.tb)
    (repeat (first | refine zz ?_ | refine zv fun _ => ?_))
    rw [show (((sdoM m o).1.tb.length : Int) != (m.tb.length : Int)) = false by rw [hi2]; simp]
    (repeat (first | refine zz ?_ | refine zv fun _ => ?_))
    refine au_callC rfl rfl rfl rfl rfl (scheck_c w0 _ hA5 hkn.s) (fun _ => ?_)
    rw [hsc]
    (repeat (first | refine zz ?_ | refine zv fun _ => ?_))
    refine au_pure ?_ (hy := yl_len rfl rfl hA5.wd)
    (repeat (first | refine zz ?_ | refine zv fun _ => ?_))
    refine tri_block ?_
    refine tri_loop1 (fun (f : Nat) => f ≤ (sdoM m o).1.wd.length) (fun f => [(5, .pointer (some ⟨g5, 0, none⟩)), (8, .pointer (some ⟨g8, 0, none⟩)), (9, .pointer (some ⟨g9, 0, none⟩)), (32, vO), (33, .int .i64 (ops.length : Int)), (34, .int .i64 (k : Int)), (71, .int .i64 ((sdoM m o).1.wd.length : Int)), (72, .int .i64 (f : Int))])
      (fun _ => Hp w0 (hdC g9 (hd q1) :: soC g8 o :: hdC g5 (hd q) :: N1)) (fun f => (sdoM m o).1.wd.length - f)
      0 (by omega) (by repeat (first | exact trivial | refine ⟨rfl, ?_⟩)) (fun w h => h) ?_
    intro f hf
    have hlw := hkn.s.wd
    have hlw2 := hkp.s.wd
    (repeat (first | refine zz ?_ | refine zv fun _ => ?_))
    ((first | refine tri_cond (by rfl) (fun hc => ?_) (fun hc => ?_) | refine tri_gsplit (by rfl) (by rfl) (by (fail_if_success exact (rfl : _ = some (Value.bool true))); (fail_if_success exact (rfl : _ = some (Value.bool false))); rfl) (fun hc => ?_) (fun hc => ?_)) <;> (try simp only [decide_eq_true_eq, decide_eq_false_iff_not, beq_iff_eq, bne_iff_ne, ne_eq, Bool.not_eq_true', Bool.not_eq_false', beq_eq_false_iff_ne, bne_eq_false_iff_eq, Int.not_lt, Int.not_le, gt_iff_lt, ge_iff_le, Bool.and_eq_true, Bool.or_eq_true, Bool.and_eq_false_iff, Bool.or_eq_false_iff, Decidable.not_not, not_true_eq_false, not_false_eq_true, and_true, true_and, or_false, false_or, or_true, true_or, and_false, false_and, eq_self, Bool.true_eq_false, Bool.false_eq_true] at hc) <;> (try (exfalso; omega)))
    case refine_1 =>
      have hf' : f < m.wd.length := by omega
      (repeat (first | refine zz ?_ | refine zv fun _ => ?_))
      refine tri_block ?_
      (repeat (first | refine zz ?_ | refine zv fun _ => ?_))
      (repeat (first | refine tri_seq ?_ | refine tri_then ?_))
      refine au_draw rfl ?_
      (repeat (first | refine z1 ?_ | refine au_qpass rfl rfl ?_ | refine triq_nil ?_))
      refine au_qpure rfl rfl ?_ (hy := yl_idx (k := f) rfl rfl hA5.wd (ix_nat rfl) (by rfl) (by omega))
      refine au_qpure rfl rfl ?_ (hy := yl_loadE rfl rfl hA5.wd (by rfl) (by omega) (by rfl))
      (repeat (first | refine z1 ?_ | refine au_qpass rfl rfl ?_ | refine triq_nil ?_))
      refine au_qpure rfl rfl ?_ (hy := yl_idx (k := f) rfl rfl hC5.wd (ix_nat rfl) (by rfl) (by omega))
      refine au_qpure rfl rfl ?_ (hy := yl_loadE rfl rfl hC5.wd (by rfl) (by omega) (by rfl))
      refine au_qpure rfl rfl ?_ (hy := yl_eql rfl rfl rfl)
      (repeat (first | refine z1 ?_ | refine au_qpass rfl rfl ?_ | refine triq_nil ?_))
      cases he : ((sdoM m o).1.wd.getD f default == m.wd.getD f default)
      case true =>
        (repeat (first | refine zz ?_ | refine zv fun _ => ?_))
        exact tri_nx1 (f + 1) (by omega) (by omega) (by repeat (first | exact trivial | refine ⟨rfl, ?_⟩)) (fun w h => h)
      (repeat (first | refine zz ?_ | refine zv fun _ => ?_))
      refine au_pure ?_ (hy := yl_len rfl rfl hC5.lm)
      (repeat (first | refine zz ?_ | refine zv fun _ => ?_))
      refine tri_block ?_
      have hll := hkp.s.lm
      refine tri_loop2 (fun (j : Nat) (b : Bool) => j ≤ m.lm.length ∧ b = (m.lm.take j).any fun x => x.f == (f : Int)) (fun j b => [(5, .pointer (some ⟨g5, 0, none⟩)), (8, .pointer (some ⟨g8, 0, none⟩)), (9, .pointer (some ⟨g9, 0, none⟩)), (32, vO), (33, .int .i64 (ops.length : Int)), (34, .int .i64 (k : Int)), (71, .int .i64 ((sdoM m o).1.wd.length : Int)), (72, .int .i64 (f : Int)),
          (12, .int .i64 (f : Int)), (13, .bool b), (87, (hd q).l.v), (88, .int .i64 (m.lm.length : Int)), (89, .int .i64 (j : Int))])
        (fun _ _ => Hp w0 (hdC g9 (hd q1) :: soC g8 o :: hdC g5 (hd q) :: N1)) (fun j _ => m.lm.length - j)
        0 false ⟨by omega, by simp⟩ (by repeat (first | exact trivial | refine ⟨rfl, ?_⟩)) (fun w h => h) ?_
      rintro j b ⟨hj, hbj⟩
      (repeat (first | refine zz ?_ | refine zv fun _ => ?_))
      ((first | refine tri_cond (by rfl) (fun hc => ?_) (fun hc => ?_) | refine tri_gsplit (by rfl) (by rfl) (by (fail_if_success exact (rfl : _ = some (Value.bool true))); (fail_if_success exact (rfl : _ = some (Value.bool false))); rfl) (fun hc => ?_) (fun hc => ?_)) <;> (try simp only [decide_eq_true_eq, decide_eq_false_iff_not, beq_iff_eq, bne_iff_ne, ne_eq, Bool.not_eq_true', Bool.not_eq_false', beq_eq_false_iff_ne, bne_eq_false_iff_eq, Int.not_lt, Int.not_le, gt_iff_lt, ge_iff_le, Bool.and_eq_true, Bool.or_eq_true, Bool.and_eq_false_iff, Bool.or_eq_false_iff, Decidable.not_not, not_true_eq_false, not_false_eq_true, and_true, true_and, or_false, false_or, or_true, true_or, and_false, false_and, eq_self, Bool.true_eq_false, Bool.false_eq_true] at hc) <;> (try (exfalso; omega)))
      case refine_1 =>
        have hj' : j < m.lm.length := by omega
        (repeat (first | refine zz ?_ | refine zv fun _ => ?_))
        refine tri_block ?_
        (repeat (first | refine zz ?_ | refine zv fun _ => ?_))
        refine au_pure ?_ (hy := yl_idx (k := j) rfl rfl hC5.lm (ix_nat rfl) (by rfl) (by omega))
        refine au_pure ?_ (hy := yl_loadEN rfl rfl hC5.lm (by rfl) (by omega) (by repeat (first | exact nf0 rfl | apply nfS rfl | exact nfR)) (by rfl))
        (repeat (first | refine zz ?_ | refine zv fun _ => ?_))
        have hnx : (m.lm.take (j + 1)).any (fun x => x.f == (f : Int)) = (b || (m.lm.getD j default).f == (f : Int)) := by rw [take_step hj', List.any_append, ← hbj]; simp
        cases b with
        | true =>
          (repeat (first | refine zz ?_ | refine zv fun _ => ?_))
          exact tri_nx2 (j + 1) true (by omega) ⟨by omega, by rw [hnx]; rfl⟩ (by repeat (first | exact trivial | refine ⟨rfl, ?_⟩)) (fun w h => h.sub (by repeat (first | exact List.Sublist.refl _ | assumption | apply List.Sublist.cons_cons | apply List.Sublist.cons)))
        | false =>
          (repeat (first | refine zz ?_ | refine zv fun _ => ?_))
          exact tri_nx2 (j + 1) ((m.lm.getD j default).f == (f : Int)) (by omega) ⟨by omega, by rw [hnx]; rfl⟩ (by repeat (first | exact trivial | refine ⟨rfl, ?_⟩)) (fun w h => h.sub (by repeat (first | exact List.Sublist.refl _ | assumption | apply List.Sublist.cons_cons | apply List.Sublist.cons)))
      have hje : j = m.lm.length := by omega
      subst hje
      rw [List.take_length] at hbj
      have hii := hi3 f hf'
      have hne : ¬ (sdoM m o).1.wd.getD f default = m.wd.getD f default := by simpa using he
      rcases hii with x | ⟨x1, x2, x3⟩ | ⟨x1, x2, x3⟩
      · exact absurd x hne
      · (repeat (first | refine zz ?_ | refine zv fun _ => ?_))
        rw [show (o.k == 0) = true by rw [x1]; rfl]
        (repeat (first | refine zz ?_ | refine zv fun _ => ?_))
        rw [show (o.f == (f : Int)) = true by simpa using x2]
        (repeat (first | refine zz ?_ | refine zv fun _ => ?_))
        refine au_pure ?_ (hy := yl_idx (k := f) rfl rfl hA5.wd (ix_nat rfl) (by rfl) (by omega))
        refine au_pure ?_ (hy := yl_loadE rfl rfl hA5.wd (by rfl) (by omega) (by rfl))
        rw [x3]
        (repeat (first | refine zz ?_ | refine zv fun _ => ?_))
        (repeat (first | refine tri_seq ?_ | refine tri_then ?_))
        refine au_draw rfl ?_
        (repeat (first | refine z1 ?_ | refine au_qpass rfl rfl ?_ | refine triq_nil ?_))
        (repeat (first | refine zz ?_ | refine zv fun _ => ?_))
        exact tri_nx1 (f + 1) (by omega) (by omega) (by repeat (first | exact trivial | refine ⟨rfl, ?_⟩)) (fun w h => h)
      · (repeat (first | refine zz ?_ | refine zv fun _ => ?_))
        rw [show (o.k == 0) = false by rw [x1]; rfl]
        (repeat (first | refine zz ?_ | refine zv fun _ => ?_))
        (repeat (first | refine tri_seq ?_ | refine tri_then ?_))
        refine au_draw rfl ?_
        (repeat (first | refine z1 ?_ | refine au_qpass rfl rfl ?_ | refine triq_nil ?_))
        rw [show (o.k != 4) = false by rw [x1]; rfl]
        (repeat (first | refine z1 ?_ | refine au_qpass rfl rfl ?_ | refine triq_nil ?_))
        cases b with
        | true =>
          (repeat (first | refine z1 ?_ | refine au_qpass rfl rfl ?_ | refine triq_nil ?_))
          refine au_qpure rfl rfl ?_ (hy := yl_idx (k := f) rfl rfl hA5.wd (ix_nat rfl) (by rfl) (by omega))
          refine au_qpure rfl rfl ?_ (hy := yl_loadE rfl rfl hA5.wd (by rfl) (by omega) (by rfl))
          rw [x3]
          (repeat (first | refine z1 ?_ | refine au_qpass rfl rfl ?_ | refine triq_nil ?_))
          rw [show (o.v != o.v) = false by simp]
          (repeat (first | refine z1 ?_ | refine au_qpass rfl rfl ?_ | refine triq_nil ?_))
          (repeat (first | refine zz ?_ | refine zv fun _ => ?_))
          exact tri_nx1 (f + 1) (by omega) (by omega) (by repeat (first | exact trivial | refine ⟨rfl, ?_⟩)) (fun w h => h)
        | false =>
          have hat : atM m o.p = (f : Int) := by
            rcases x2 with ⟨x, hx, e⟩ | x2
            · have := hbj.symm
              rw [List.any_eq_false] at this
              exact absurd (by simpa using e) (this x hx)
            · exact x2
          (repeat (first | refine z1 ?_ | refine au_qpass rfl rfl ?_ | refine triq_nil ?_))
          refine triq_call rfl rfl (by first | exact wan_plain rfl | exact wan_yes rfl rfl rfl) (cl_of rfl rfl rfl (calr (at_c w0 _ o.p hC5 hkp.s))) ?_
          rw [hat]
          (repeat (first | refine z1 ?_ | refine au_qpass rfl rfl ?_ | refine triq_nil ?_))
          rw [show ((f : Int) != (f : Int)) = false by simp]
          (repeat (first | refine z1 ?_ | refine au_qpass rfl rfl ?_ | refine triq_nil ?_))
          refine au_qpure rfl rfl ?_ (hy := yl_idx (k := f) rfl rfl hA5.wd (ix_nat rfl) (by rfl) (by omega))
          refine au_qpure rfl rfl ?_ (hy := yl_loadE rfl rfl hA5.wd (by rfl) (by omega) (by rfl))
          rw [x3]
          (repeat (first | refine z1 ?_ | refine au_qpass rfl rfl ?_ | refine triq_nil ?_))
          rw [show (o.v != o.v) = false by simp]
          (repeat (first | refine z1 ?_ | refine au_qpass rfl rfl ?_ | refine triq_nil ?_))
          (repeat (first | refine zz ?_ | refine zv fun _ => ?_))
          exact tri_nx1 (f + 1) (by omega) (by omega) (by repeat (first | exact trivial | refine ⟨rfl, ?_⟩)) (fun w h => h)
    (repeat (first | refine zz ?_ | refine zv fun _ => ?_))
    exact tri_nx2 (k + 1) (q1, (sdoM m o).1) (by omega) ⟨by omega, hq1, hkn, hvn⟩ (by repeat (first | exact trivial | refine ⟨rfl, ?_⟩)) hfwd
  (repeat (first | refine zz ?_ | refine zv fun _ => ?_))
  refine au_done1 rfl ?_
  exact fun w hw => ⟨(), rfl, hw.sub (List.Sublist.cons _ (List.sublist_append_right (SC q m) cs))⟩
end
end Go.Proofs.Ytojfaelafakemaa
