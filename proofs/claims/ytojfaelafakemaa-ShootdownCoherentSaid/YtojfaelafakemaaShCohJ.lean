/- Texts joined: ShCoh. Each part's own remark says what it proves. -/
import Derived.Test.YtojfaelafakemaaShBeginJ
import Derived.Test.YtojfaelafakemaaM28
/- The walk of the law ShootdownCoherent. No conditions. -/
set_option linter.unusedSimpArgs false
set_option linter.unusedVariables false
namespace Go.Proofs.Ytojfaelafakemaa
open Go Go.RowKit
attribute [local irreducible] mapM unmapM protM accM ackM sdoM schk snewM freeM quietM goM bgM atM decR
attribute [local irreducible] Code.wp wpList bodyPost Exit.then Exit.inBlock Calls wpQuiet Tri TriQ
section
variable (w0 : World) (cs : List Chunk)
theorem ack_eq {m : SM} (h : Vp m) {c : Nat} (hc : c < m.tl.length) : ackM m (c : Int) = (ackG m c, 0) := by
  unfold ackM
  rw [if_neg (fun x => x (vp_iff.2 h)), if_neg (fun x => x ⟨by omega, by omega⟩), Int.toNat_natCast]
set_option maxHeartbeats 4000000 in
theorem coherent_law {vO : Value} {ops : List SO} (a b c d : Int) (ha : 0 ≤ a ∧ a ≤ 255) (hb : 0 ≤ b ∧ b ≤ 255) (hc : 0 ≤ c ∧ c ≤ 255) (hd' : 0 ≤ d ∧ d ≤ 255) (hO : ∀ cs, RdH (Hp w0 cs) vO ops) (hOl : ops.length ≤ 9223372036854775807) :
    Cal Try.prog 4 [.agg #[.int .u8 a, .int .u8 b, .int .u8 c, .int .u8 d], vO] (Hp w0 cs) (fun _ : Unit => .bool true) (fun _ => Hp w0 cs) := by
  refine cal_of_tri Try.func4 rfl Try.ntmps4 rfl ?_
  (repeat (first | refine tri_seq ?_ | refine tri_then ?_)); refine tri_region ?_; (repeat (first | refine au_pure ?_ | refine au_pass ?_ | refine au_box (fun _ => ?_) | refine au_alloc (fun _ => ?_) | refine au_store ?_ | refine au_make rfl rfl (fun _ => ?_) | refine au_lit rfl rfl rfl (fun _ => ?_) | refine au_append rfl rfl rfl rfl (fun _ => au_norm ?_) | refine au_storeE rfl rfl rfl rfl ?_)); refine tri_nil ?_; (repeat refine tri_then ?_)
  rename_i g2
  refine tri_weak (H' := Hp w0 (u4C g2 a b c d :: cs)) (fun w h => h) ?_
  (repeat (first | refine zz ?_ | refine zv fun _ => ?_))
  refine au_callC rfl rfl rfl rfl rfl (awake_c w0 _) (fun _ => ?_)
  (repeat (first | refine zz ?_ | refine zv fun _ => ?_))
  refine au_pure ?_ (hy := yl_len rfl rfl (hO _))
  (repeat (first | refine zz ?_ | refine zv fun _ => ?_))
  cases h1 : decide ((ops.length : Int) > 40)
  case true =>
    (repeat (first | refine zz ?_ | refine zv fun _ => ?_))
    refine au_callC rfl rfl rfl rfl rfl (awake_c w0 _) (fun _ => ?_)
    (repeat (first | refine zz ?_ | refine zv fun _ => ?_))
    refine au_done1 rfl ?_
    exact fun w hw => ⟨(), rfl, hw.sub (by repeat (first | exact List.Sublist.refl _ | assumption | apply List.Sublist.cons_cons | apply List.Sublist.cons))⟩
  have h1 := of_decide_eq_false h1
  (repeat (first | refine zz ?_ | refine zv fun _ => ?_))
  refine au_callC rfl rfl rfl rfl rfl (begin_c w0 _ a b c d ha hb hc hd') ?_
  rintro ⟨q, hq⟩
  (repeat (first | refine au_pure ?_ | refine au_pass ?_ | refine au_box (fun _ => ?_) | refine au_alloc (fun _ => ?_) | refine au_store ?_ | refine au_make rfl rfl (fun _ => ?_) | refine au_lit rfl rfl rfl (fun _ => ?_) | refine au_append rfl rfl rfl rfl (fun _ => au_norm ?_) | refine au_storeE rfl rfl rfl rfl ?_)); refine tri_nil ?_; (repeat refine tri_then ?_)
  rename_i g5
  refine tri_weak (H' := Hp w0 (hdC g5 (hd q) :: (SC q (bgM a b c d) ++ cs))) (fun w h => h.sub (List.Sublist.cons_cons _ (List.Sublist.append_left (List.Sublist.cons _ (List.Sublist.refl _)) _))) ?_
  have hkp := bg_kp a b c d
  have hvp := bg_vp a b c d
  (repeat (first | refine zz ?_ | refine zv fun _ => ?_))
  refine au_pure ?_ (hy := yl_len rfl rfl (hO _))
  (repeat (first | refine zz ?_ | refine zv fun _ => ?_))
  refine tri_block ?_
  refine tri_loop2 (fun (k : Nat) (y : SR × SM) => k ≤ ops.length ∧ SOk y.1 y.2 ∧ Kp k y.2 ∧ Vp y.2) (fun k _ => [(5, .pointer (some ⟨g5, 0, none⟩)), (41, vO), (42, .int .i64 (ops.length : Int)), (43, .int .i64 (k : Int))])
    (fun _ y => Hp w0 (hdC g5 (hd y.1) :: (SC y.1 y.2 ++ cs))) (fun k _ => ops.length - k)
    0 (q, bgM a b c d) ⟨by omega, hq, hkp, hvp⟩ (by repeat (first | exact trivial | refine ⟨rfl, ?_⟩)) (fun w h' => h') ?_
  clear hq hkp hvp
  rintro k ⟨q, m⟩ ⟨hk, hq, hkp, hvp⟩
  simp only at hq hkp hvp
  (repeat (first | refine zz ?_ | refine zv fun _ => ?_))
  ((first | refine tri_cond (by rfl) (fun hc => ?_) (fun hc => ?_) | refine tri_gsplit (by rfl) (by rfl) (by (fail_if_success exact (rfl : _ = some (Value.bool true))); (fail_if_success exact (rfl : _ = some (Value.bool false))); rfl) (fun hc => ?_) (fun hc => ?_)) <;> (try simp only [decide_eq_true_eq, decide_eq_false_iff_not, beq_iff_eq, bne_iff_ne, ne_eq, Bool.not_eq_true', Bool.not_eq_false', beq_eq_false_iff_ne, bne_eq_false_iff_eq, Int.not_lt, Int.not_le, gt_iff_lt, ge_iff_le, Bool.and_eq_true, Bool.or_eq_true, Bool.and_eq_false_iff, Bool.or_eq_false_iff, Decidable.not_not, not_true_eq_false, not_false_eq_true, and_true, true_and, or_false, false_or, or_true, true_or, and_false, false_and, eq_self, Bool.true_eq_false, Bool.false_eq_true] at hc) <;> (try (exfalso; omega)))
  case refine_1 =>
    have hkn := sdo_kp hkp (by omega) (ops.getD k default)
    (repeat (first | refine zz ?_ | refine zv fun _ => ?_))
    refine tri_block ?_
    refine tri_weak (H' := Hp w0 (hdC g5 (hd q) :: (SC q m ++ cs))) (fun w h => h) ?_
    (repeat (first | refine zz ?_ | refine zv fun _ => ?_))
    refine au_pure ?_ (hy := yl_idx (k := k) rfl rfl (hO _) (ix_nat rfl) (by rfl) (by omega))
    refine au_pure ?_ (hy := yl_loadEN rfl rfl (hO _) (by rfl) (by omega) (by repeat (first | exact nf0 rfl | apply nfS rfl | exact nfR)) (by rfl))
    obtain ⟨o, ho⟩ : ∃ o, o = ops.getD k default := ⟨_, rfl⟩
    rw [← ho] at hkn ⊢
    (repeat (first | refine au_pure ?_ | refine au_pass ?_ | refine au_box (fun _ => ?_) | refine au_alloc (fun _ => ?_) | refine au_store ?_ | refine au_make rfl rfl (fun _ => ?_) | refine au_lit rfl rfl rfl (fun _ => ?_) | refine au_append rfl rfl rfl rfl (fun _ => au_norm ?_) | refine au_storeE rfl rfl rfl rfl ?_)); refine tri_nil ?_; (repeat refine tri_then ?_)
    rename_i g8
    obtain ⟨N0, hN0⟩ : ∃ X, X = SC q m ++ cs := ⟨_, rfl⟩
    have hs0 : cs.Sublist N0 := by rw [hN0]; exact List.sublist_append_right _ _
    have hC0 : RdS (Hp w0 N0) (hd q) (tlx q.bs m.tl) (q.ps.map Row.sv) m := by rw [hN0]; exact rdS_own hq
    refine tri_weak (H' := Hp w0 (soC g8 o :: hdC g5 (hd q) :: N0)) (fun w h => by rw [hN0]; exact h) ?_
    (repeat (first | refine zz ?_ | refine zv fun _ => ?_))
    refine au_callC rfl rfl rfl rfl rfl (do_c w0 _ o ((hC0.cons (c := hdC g5 (hd q))).cons (c := soC g8 o)) hkp.s (fun i => by have := hkp.p i; omega)) ?_
    rintro ⟨q1, hq1⟩
    (repeat (first | refine au_pure ?_ | refine au_pass ?_ | refine au_box (fun _ => ?_) | refine au_alloc (fun _ => ?_) | refine au_store ?_ | refine au_make rfl rfl (fun _ => ?_) | refine au_lit rfl rfl rfl (fun _ => ?_) | refine au_append rfl rfl rfl rfl (fun _ => au_norm ?_) | refine au_storeE rfl rfl rfl rfl ?_)); refine tri_nil ?_; (repeat refine tri_then ?_)
    rename_i g9
    obtain ⟨N1, hN1⟩ : ∃ X, X = SC q1 (sdoM m o).1 ++ N0 := ⟨_, rfl⟩
    have hs1 : N0.Sublist N1 := by rw [hN1]; exact List.sublist_append_right _ _
    have hA : RdS (Hp w0 N1) (hd q1) (tlx q1.bs (sdoM m o).1.tl) (q1.ps.map Row.sv) (sdoM m o).1 := by rw [hN1]; exact rdS_own hq1
    refine tri_weak (H' := Hp w0 (hdC g9 (hd q1) :: soC g8 o :: hdC g5 (hd q) :: N1)) (fun w h' => by rw [hN1]; exact sc_upK [soC g8 o, hdC g5 (hd q)] h' (List.Sublist.refl _)) ?_
    have hA5 := hA.cons (c := hdC g5 (hd q)) |>.cons (c := soC g8 o) |>.cons (c := hdC g9 (hd q1))
    have hC5 := (hC0.sub hs1).cons (c := hdC g5 (hd q)) |>.cons (c := soC g8 o) |>.cons (c := hdC g9 (hd q1))
    have hback : ∀ w, Hp w0 (hdC g9 (hd q1) :: soC g8 o :: hdC g5 (hd q) :: N1) w → Hp w0 (hdC g5 (hd q) :: (SC q m ++ cs)) w := fun w h' => h'.sub (List.Sublist.cons _ (List.Sublist.cons _ (List.Sublist.cons_cons _ (by rw [← hN0]; exact hs1))))
    have hfwd : ∀ w, Hp w0 (hdC g9 (hd q1) :: soC g8 o :: hdC g5 (hd q1) :: N1) w → Hp w0 (hdC g5 (hd q1) :: (SC q1 (sdoM m o).1 ++ cs)) w := fun w h' => h'.sub (List.Sublist.cons _ (List.Sublist.cons _ (List.Sublist.cons_cons _ (by rw [hN1]; exact List.Sublist.append_left hs0 _))))
    (repeat (first | refine zz ?_ | refine zv fun _ => ?_))
    refine au_callC rfl rfl rfl rfl rfl (goes_c w0 _ (sdoM m o).2.2) (fun _ => ?_)
    (repeat (first | refine zz ?_ | refine zv fun _ => ?_))
    cases hg : goM (sdoM m o).2.2
    case false =>
      (repeat (first | refine zz ?_ | refine zv fun _ => ?_))
      exact tri_nx2 (k + 1) (q, m) (by omega) ⟨by omega, hq, hkp.up (Nat.le_succ _), hvp⟩ (by repeat (first | exact trivial | refine ⟨rfl, ?_⟩)) hback
    have hst := sdo_stp hvp (go_gz hg)
    have hvn := hst.vp hvp
    (repeat (first | refine zz ?_ | refine zv fun _ => ?_))
    exact tri_nx2 (k + 1) (q1, (sdoM m o).1) (by omega) ⟨by omega, hq1, hkn, hvn⟩ (by repeat (first | exact trivial | refine ⟨rfl, ?_⟩)) hfwd
  have hke : k = ops.length := by omega
  obtain ⟨n, hn⟩ : ∃ n, n = m.tl.length := ⟨_, rfl⟩
  have hn4 := hvp.r
  have hC := (rdS_own (w0 := w0) (cs := cs) hq).cons (c := hdC g5 (hd q))
  (repeat (first | refine zz ?_ | refine zv fun _ => ?_))
  refine au_pure ?_ (hy := yl_len rfl rfl hC.tl)
  rw [hC.tll, ← hn]
  (repeat (first | refine zz ?_ | refine zv fun _ => ?_))
  refine tri_block ?_
  clear hC
  refine tri_loop2 (fun (c : Nat) (y : SR × SM) => c ≤ n ∧ SOk y.1 y.2 ∧ Kp (40 + c) y.2 ∧ Vp y.2 ∧ y.2.tl.length = n ∧ ∀ j, j < c → y.2.pd.getD j default = []) (fun c _ => [(5, .pointer (some ⟨g5, 0, none⟩)), (12, .int .i64 (n : Int)), (61, .int .i64 (n : Int)), (62, .int .i64 (c : Int))])
    (fun _ y => Hp w0 (hdC g5 (hd y.1) :: (SC y.1 y.2 ++ cs))) (fun c _ => n - c)
    0 (q, m) ⟨by omega, hq, hkp.up (by omega), hvp, hn.symm, fun j hj => by omega⟩ (by repeat (first | exact trivial | refine ⟨rfl, ?_⟩)) (fun w h' => h') ?_
  clear hq hkp hvp hn hn4
  clear q m
  rintro c ⟨q, m⟩ ⟨hcn, hq, hkp, hvp, hn, hpd⟩
  simp only at hq hkp hvp hn hpd
  have hn4 := hvp.r
  (repeat (first | refine zz ?_ | refine zv fun _ => ?_))
  ((first | refine tri_cond (by rfl) (fun hc => ?_) (fun hc => ?_) | refine tri_gsplit (by rfl) (by rfl) (by (fail_if_success exact (rfl : _ = some (Value.bool true))); (fail_if_success exact (rfl : _ = some (Value.bool false))); rfl) (fun hc => ?_) (fun hc => ?_)) <;> (try simp only [decide_eq_true_eq, decide_eq_false_iff_not, beq_iff_eq, bne_iff_ne, ne_eq, Bool.not_eq_true', Bool.not_eq_false', beq_eq_false_iff_ne, bne_eq_false_iff_eq, Int.not_lt, Int.not_le, gt_iff_lt, ge_iff_le, Bool.and_eq_true, Bool.or_eq_true, Bool.and_eq_false_iff, Bool.or_eq_false_iff, Decidable.not_not, not_true_eq_false, not_false_eq_true, and_true, true_and, or_false, false_or, or_true, true_or, and_false, false_and, eq_self, Bool.true_eq_false, Bool.false_eq_true] at hc) <;> (try (exfalso; omega)))
  case refine_1 =>
    have hc' : c < m.tl.length := by omega
    have hae := ack_eq hvp hc'
    have hkn := ack_kp hkp (by omega) (c : Int)
    rw [hae] at hkn
    (repeat (first | refine zz ?_ | refine zv fun _ => ?_))
    refine tri_block ?_
    have hC := (rdS_own (w0 := w0) (cs := cs) hq).cons (c := hdC g5 (hd q))
    refine tri_weak (H' := Hp w0 (hdC g5 (hd q) :: (SC q m ++ cs))) (fun w h => h) ?_
    (repeat (first | refine zz ?_ | refine zv fun _ => ?_))
    refine au_callC rfl rfl rfl rfl rfl (ack_c w0 _ (c : Int) hC hkp.s (fun i => by have := hkp.p i; omega)) ?_
    rintro ⟨q1, hq1⟩
    rw [show (ackM m (c : Int)).2 = 0 by rw [hae]]
    have hq1 : SOk q1 (ackM m (c : Int)).1 := hq1
    rw [hae] at hq1
    refine tri_weak (H' := Hp w0 (SC q1 (ackG m c) ++ (hdC g5 (hd q) :: (SC q m ++ cs)))) (fun w h => by have h : Hp w0 (SC q1 (ackM m (c : Int)).1 ++ (hdC g5 (hd q) :: (SC q m ++ cs))) w := h; rw [hae] at h; exact h) ?_
    (repeat (first | refine au_pure ?_ | refine au_pass ?_ | refine au_box (fun _ => ?_) | refine au_alloc (fun _ => ?_) | refine au_store ?_ | refine au_make rfl rfl (fun _ => ?_) | refine au_lit rfl rfl rfl (fun _ => ?_) | refine au_append rfl rfl rfl rfl (fun _ => au_norm ?_) | refine au_storeE rfl rfl rfl rfl ?_)); refine tri_nil ?_; (repeat refine tri_then ?_)
    rename_i g14
    refine tri_weak (H' := Hp w0 (hdC g14 (hd q1) :: hdC g5 (hd q) :: (SC q1 (ackG m c) ++ cs))) (fun w h => sc_upK [hdC g5 (hd q)] h (List.Sublist.cons_cons _ (List.sublist_append_right _ _))) ?_
    (repeat (first | refine zz ?_ | refine zv fun _ => ?_))
    exact tri_nx2 (c + 1) (q1, ackG m c) (by omega) ⟨by omega, hq1, hkn, ack_vp hvp hc', by show (ackG m c).tl.length = n; rw [ack_tl]; exact hn, fun j hj => by
      show (ackG m c).pd.getD j default = []
      rw [ack_pd hvp hc']
      split
      · rfl
      · exact hpd j (by omega)⟩ (by repeat (first | exact trivial | refine ⟨rfl, ?_⟩)) (fun w h => h.sub (List.Sublist.cons _ (List.Sublist.refl _)))
  have hce : c = m.tl.length := by omega
  have hqt : ∀ c, c < m.tl.length → m.pd.getD c default = [] := fun j hj => hpd j (by omega)
  clear hpd
  have hkp : Kp 44 m := hkp.up (by omega)
  subst hn
  obtain ⟨N0, hN0⟩ : ∃ X, X = SC q m ++ cs := ⟨_, rfl⟩
  have hC : RdS (Hp w0 (hdC g5 (hd q) :: N0)) (hd q) (tlx q.bs m.tl) (q.ps.map Row.sv) m := by rw [hN0]; exact (rdS_own hq).cons
  have hend : ∀ w, Hp w0 (hdC g5 (hd q) :: N0) w → Hp w0 cs w := fun w h => h.sub (by rw [hN0]; exact List.Sublist.cons _ (List.sublist_append_right _ _))
  have hlw := hkp.s.wd
  have hxl := hC.tll
  refine tri_weak (H' := Hp w0 (hdC g5 (hd q) :: N0)) (fun w h => by rw [hN0]; exact h) ?_
  (repeat (first | refine zz ?_ | refine zv fun _ => ?_))
  refine au_callC rfl rfl rfl rfl rfl (quiet_c w0 _ hC hkp.s) (fun _ => ?_)
  rw [quiet_yes hvp hqt]
  (repeat (first | refine zz ?_ | refine zv fun _ => ?_))
  refine au_pure ?_ (hy := yl_len rfl rfl hC.lm)
  (repeat (first | refine zz ?_ | refine zv fun _ => ?_))
  rw [show ((m.lm.length : Int) != 0) = false by rw [quiet_lm hvp hqt]; rfl]
  (repeat (first | refine zz ?_ | refine zv fun _ => ?_))
  refine au_pure ?_ (hy := yl_len rfl rfl hC.tl)
  rw [hC.tll]
  (repeat (first | refine zz ?_ | refine zv fun _ => ?_))
  rw [show ((m.tl.length : Int) != (m.tl.length : Int)) = false by simp]
  (repeat (first | refine zz ?_ | refine zv fun _ => ?_))
  refine au_pure ?_ (hy := yl_len rfl rfl hC.tb)
  (repeat (first | refine zz ?_ | refine zv fun _ => ?_))
  refine tri_block ?_
  refine tri_loop1 (fun (p : Nat) => p ≤ m.tb.length) (fun p => [(5, .pointer (some ⟨g5, 0, none⟩)), (12, .int .i64 (m.tl.length : Int)), (93, .int .i64 (m.tb.length : Int)), (94, .int .i64 (p : Int))])
    (fun _ => Hp w0 (hdC g5 (hd q) :: N0)) (fun p => m.tb.length - p)
    0 (by omega) (by repeat (first | exact trivial | refine ⟨rfl, ?_⟩)) (fun w h => h) ?_
  intro p hp
  (repeat (first | refine zz ?_ | refine zv fun _ => ?_))
  ((first | refine tri_cond (by rfl) (fun hc => ?_) (fun hc => ?_) | refine tri_gsplit (by rfl) (by rfl) (by (fail_if_success exact (rfl : _ = some (Value.bool true))); (fail_if_success exact (rfl : _ = some (Value.bool false))); rfl) (fun hc => ?_) (fun hc => ?_)) <;> (try simp only [decide_eq_true_eq, decide_eq_false_iff_not, beq_iff_eq, bne_iff_ne, ne_eq, Bool.not_eq_true', Bool.not_eq_false', beq_eq_false_iff_ne, bne_eq_false_iff_eq, Int.not_lt, Int.not_le, gt_iff_lt, ge_iff_le, Bool.and_eq_true, Bool.or_eq_true, Bool.and_eq_false_iff, Bool.or_eq_false_iff, Decidable.not_not, not_true_eq_false, not_false_eq_true, and_true, true_and, or_false, false_or, or_true, true_or, and_false, false_and, eq_self, Bool.true_eq_false, Bool.false_eq_true] at hc) <;> (try (exfalso; omega)))
  case refine_1 =>
    have hpr : 0 ≤ (p : Int) ∧ (p : Int) < m.tb.length := by omega
    (repeat (first | refine zz ?_ | refine zv fun _ => ?_))
    refine tri_block ?_
    (repeat (first | refine zz ?_ | refine zv fun _ => ?_))
    refine au_callC rfl rfl rfl rfl rfl (at_c w0 _ (p : Int) hC hkp.s) (fun _ => ?_)
    (repeat (first | refine zz ?_ | refine zv fun _ => ?_))
    refine tri_block ?_
    refine tri_loop1 (fun (c : Nat) => c ≤ m.tl.length) (fun c => [(5, .pointer (some ⟨g5, 0, none⟩)), (12, .int .i64 (m.tl.length : Int)), (16, .int .i64 (p : Int)), (17, .int .i64 (atM m (p : Int))), (93, .int .i64 (m.tb.length : Int)), (94, .int .i64 (p : Int)), (100, .int .i64 (m.tl.length : Int)), (101, .int .i64 (c : Int))])
      (fun _ => Hp w0 (hdC g5 (hd q) :: N0)) (fun c => m.tl.length - c)
      0 (by omega) (by repeat (first | exact trivial | refine ⟨rfl, ?_⟩)) (fun w h => h) ?_
    clear hce hcn
    intro c hcn
    (repeat (first | refine zz ?_ | refine zv fun _ => ?_))
    ((first | refine tri_cond (by rfl) (fun hc => ?_) (fun hc => ?_) | refine tri_gsplit (by rfl) (by rfl) (by (fail_if_success exact (rfl : _ = some (Value.bool true))); (fail_if_success exact (rfl : _ = some (Value.bool false))); rfl) (fun hc => ?_) (fun hc => ?_)) <;> (try simp only [decide_eq_true_eq, decide_eq_false_iff_not, beq_iff_eq, bne_iff_ne, ne_eq, Bool.not_eq_true', Bool.not_eq_false', beq_eq_false_iff_ne, bne_eq_false_iff_eq, Int.not_lt, Int.not_le, gt_iff_lt, ge_iff_le, Bool.and_eq_true, Bool.or_eq_true, Bool.and_eq_false_iff, Bool.or_eq_false_iff, Decidable.not_not, not_true_eq_false, not_false_eq_true, and_true, true_and, or_false, false_or, or_true, true_or, and_false, false_and, eq_self, Bool.true_eq_false, Bool.false_eq_true] at hc) <;> (try (exfalso; omega)))
    case refine_1 =>
      have hc' : c < m.tl.length := by omega
      have hlook := quiet_look hvp hqt hc' hpr
      obtain ⟨ha1, ha2⟩ := quiet_acc hvp hqt hc' hpr
      have hz := hC.tz c
      have hle := hkp.s.te c
      have hew := hkp.s.ew c
      have hE := hC.te c
      (repeat (first | refine zz ?_ | refine zv fun _ => ?_))
      refine tri_block ?_
      (repeat (first | refine zz ?_ | refine zv fun _ => ?_))
      refine au_pure ?_ (hy := yl_idx (k := c) rfl rfl hC.tl (ix_nat rfl) (by rfl) (by omega))
      refine au_pure ?_ (hy := yl_loadEN rfl rfl hC.tl (by rfl) (by omega) (by repeat (first | exact nf0 rfl | apply nfS rfl | exact nfR)) (by rfl))
      rw [hz]
      (repeat (first | refine zz ?_ | refine zv fun _ => ?_))
      refine au_callC rfl rfl rfl rfl rfl (lookup_c w0 _ 0 (p : Int) hE hle hew) (fun _ => ?_)
      have hwb : 0 ≤ (lookM (m.tl.getD c default).z (m.tl.getD c default).l 0 (p : Int)).1 ∧ (lookM (m.tl.getD c default).z (m.tl.getD c default).l 0 (p : Int)).1 < 18446744073709551616 := by
        rw [look_ok (hvp.tl c hc').1]
        cases hl : (lookL (m.tl.getD c default).l 0 (p : Int)).2
        · rw [look_false hl]; decide
        · obtain ⟨t, ht, _, e⟩ := look_mem hl
          rw [e]; exact (hew t ht).2.2
      obtain ⟨⟨u, ok⟩, hlu⟩ : ∃ y, lookM (m.tl.getD c default).z (m.tl.getD c default).l 0 (p : Int) = y := ⟨_, rfl⟩
      rw [hlu] at hlook hwb ⊢
      simp only at hlook hwb
      obtain ⟨⟨ek, en, ea, eb, ec, ed⟩, eu, hdu⟩ : ∃ e v, decR u = (e, v) := ⟨_, _, rfl⟩
      rw [hdu] at hlook
      simp only at hlook
      (repeat (first | refine zz ?_ | refine zv fun _ => ?_))
      refine au_call rfl rfl (cl_of rfl rfl rfl (fun _ h => Ret.hp (decode_at _ hwb.1 hwb.2 hdu) h)) ?_
      (repeat (first | refine au_pure ?_ | refine au_pass ?_ | refine au_box (fun _ => ?_) | refine au_alloc (fun _ => ?_) | refine au_store ?_ | refine au_make rfl rfl (fun _ => ?_) | refine au_lit rfl rfl rfl (fun _ => ?_) | refine au_append rfl rfl rfl rfl (fun _ => au_norm ?_) | refine au_storeE rfl rfl rfl rfl ?_)); refine tri_nil ?_; (repeat refine tri_then ?_)
      rename_i g21
      refine tri_weak (H' := Hp w0 (enC g21 ek en ea eb ec ed :: hdC g5 (hd q) :: N0)) (fun w h => h) ?_
      have hC2 := hC.cons (c := enC g21 ek en ea eb ec ed)
      refine tri_seq ?_
      refine tri_cut1 (fun _ : Unit => True) (fun _ => [(5, .pointer (some ⟨g5, 0, none⟩)), (12, .int .i64 (m.tl.length : Int)), (16, .int .i64 (p : Int)), (17, .int .i64 (atM m (p : Int))), (18, .int .i64 (c : Int)), (93, .int .i64 (m.tb.length : Int)), (94, .int .i64 (p : Int)), (100, .int .i64 (m.tl.length : Int)), (101, .int .i64 (c : Int)), (129, .bool false)])
        (fun _ => Hp w0 (enC g21 ek en ea eb ec ed :: hdC g5 (hd q) :: N0)) ?_ ?_
      · cases ok with
        | false =>
          (repeat (first | refine zz ?_ | refine zv fun _ => ?_))
          exact tri_mt1 () trivial (by repeat (first | exact trivial | refine ⟨rfl, ?_⟩)) (fun _ h => h)
        | true =>
          obtain ⟨hl1, hl2⟩ := hlook rfl
          (repeat (first | refine zz ?_ | refine zv fun _ => ?_))
          rw [show decide (atM m (p : Int) < 0) = false from decide_eq_false (by omega)]
          (repeat (first | refine zz ?_ | refine zv fun _ => ?_))
          rw [show (en != atM m (p : Int)) = false by simpa using hl2]
          (repeat (first | refine zz ?_ | refine zv fun _ => ?_))
          exact tri_mt1 () trivial (by repeat (first | exact trivial | refine ⟨rfl, ?_⟩)) (fun _ h => h)
      rintro _ -
      (repeat (first | refine zz ?_ | refine zv fun _ => ?_))
      refine au_callC rfl rfl rfl rfl rfl (access_c w0 _ (c : Int) (p : Int) false 0 hC2 hkp.s (fun i => by have := hkp.p i; omega)) ?_
      rintro ⟨q3, hq3⟩
      refine tri_weak (H' := Hp w0 (enC g21 ek en ea eb ec ed :: hdC g5 (hd q) :: N0)) (fun w h => h.sub (List.sublist_append_right _ _)) ?_
      (repeat (first | refine au_pure ?_ | refine au_pass ?_ | refine au_box (fun _ => ?_) | refine au_alloc (fun _ => ?_) | refine au_store ?_ | refine au_make rfl rfl (fun _ => ?_) | refine au_lit rfl rfl rfl (fun _ => ?_) | refine au_append rfl rfl rfl rfl (fun _ => au_norm ?_) | refine au_storeE rfl rfl rfl rfl ?_)); refine tri_nil ?_; (repeat refine tri_then ?_)
      rename_i g23
      refine tri_weak (H' := Hp w0 (hdC g23 (hd q3) :: enC g21 ek en ea eb ec ed :: hdC g5 (hd q) :: N0)) (fun w h => h) ?_
      have hC3 := hC2.cons (c := hdC g23 (hd q3))
      by_cases hf : atM m (p : Int) < 0
      · (repeat (first | refine zz ?_ | refine zv fun _ => ?_))
        rw [decide_eq_true hf]
        (repeat (first | refine zz ?_ | refine zv fun _ => ?_))
        rw [ha1 hf]
        (repeat (first | refine zz ?_ | refine zv fun _ => ?_))
        rw [show decide (atM m (p : Int) ≥ 0) = false from decide_eq_false (by omega)]
        (repeat (first | refine zz ?_ | refine zv fun _ => ?_))
        exact tri_nx1 (c + 1) (by omega) (by omega) (by repeat (first | exact trivial | refine ⟨rfl, ?_⟩)) (fun w h => h.sub (by repeat (first | exact List.Sublist.refl _ | assumption | apply List.Sublist.cons_cons | apply List.Sublist.cons)))
      · obtain ⟨hb1, hb2, hb3⟩ := ha2 (by omega)
        (repeat (first | refine zz ?_ | refine zv fun _ => ?_))
        rw [decide_eq_false hf]
        (repeat (first | refine zz ?_ | refine zv fun _ => ?_))
        rw [show decide (atM m (p : Int) ≥ 0) = true from decide_eq_true (by omega)]
        (repeat (first | refine zz ?_ | refine zv fun _ => ?_))
        rw [hb1]
        (repeat (first | refine zz ?_ | refine zv fun _ => ?_))
        refine au_pure ?_ (hy := yl_len rfl rfl hC3.wd)
        (repeat (first | refine zz ?_ | refine zv fun _ => ?_))
        rw [show decide (atM m (p : Int) ≥ (m.wd.length : Int)) = false from decide_eq_false (by omega)]
        (repeat (first | refine zz ?_ | refine zv fun _ => ?_))
        refine au_pure ?_ (hy := yl_idx (k := (atM m (p : Int)).toNat) rfl rfl hC3.wd (ix_int rfl (by omega)) (by rfl) (by omega))
        refine au_pure ?_ (hy := yl_loadE rfl rfl hC3.wd (by rfl) (by omega) (by rfl))
        rw [hb3]
        refine au_pure ?_ (hy := yl_neq rfl rfl rfl)
        rw [show (m.wd.getD (atM m (p : Int)).toNat default != m.wd.getD (atM m (p : Int)).toNat default) = false by simp]
        (repeat (first | refine zz ?_ | refine zv fun _ => ?_))
        exact tri_nx1 (c + 1) (by omega) (by omega) (by repeat (first | exact trivial | refine ⟨rfl, ?_⟩)) (fun w h => h.sub (by repeat (first | exact List.Sublist.refl _ | assumption | apply List.Sublist.cons_cons | apply List.Sublist.cons)))
    (repeat (first | refine zz ?_ | refine zv fun _ => ?_))
    exact tri_nx1 (p + 1) (by omega) (by omega) (by repeat (first | exact trivial | refine ⟨rfl, ?_⟩)) (fun w h => h)
  (repeat (first | refine zz ?_ | refine zv fun _ => ?_))
  refine au_done1 rfl ?_
  exact fun w hw => ⟨(), rfl, hend w hw⟩
end
end Go.Proofs.Ytojfaelafakemaa
