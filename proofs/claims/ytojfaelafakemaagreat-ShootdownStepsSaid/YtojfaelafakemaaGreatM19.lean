/- Texts joined: ShRForms, ShRPlain. Each part's own remark says what it proves. -/
import Derived.Test.YtojfaelafakemaaGreatM17
import Derived.Test.YtojfaelafakemaaGreatM18
/- The walk of the reference's forms of a shootdown machine. No conditions. -/
set_option linter.unusedSimpArgs false
set_option linter.unusedVariables false
namespace Go.Proofs.YtojfaelafakemaaGreat
open Go Go.RowKit
theorem en_page (n : Nat) (w : Int) : (enOk n w && (decR w).1.k == 1) = pgOk n w := by
  by_cases h : (decR w).1.k = 0
  · rw [h]
    have : pgOk n w = false := by unfold pgOk; exact decide_eq_false fun x => by rw [h] at x; cases x.2.1
    rw [this]; simp
  · rw [enOk_page h]
    cases h2 : pgOk n w
    · rfl
    · unfold pgOk at h2
      have := (of_decide_eq_true h2).2.1
      rw [this]; rfl
attribute [local irreducible] decR enOk pgOk teOk ivOk tlOk checkM lbOk limM schk
attribute [local irreducible] Code.wp wpList bodyPost Exit.then Exit.inBlock Calls wpQuiet Tri TriQ
section
variable (w0 : World) (cs : List Chunk)
set_option maxHeartbeats 4000000 in
theorem rformed_c {h : SH} {xb : List TB} {xp : List SV} {m : SM} (hC : RdS (Hp w0 cs) h xb xp m) (hL : SLe m) :
    Cal Tryz.prog 44 [hdV h] (Hp w0 cs) (fun _ : Unit => .bool (formM m)) (fun _ => Hp w0 cs) := by
  have htl := hC.tll
  have hpdl := hC.pdl
  have l1 := hL.tb
  have l2 := hL.tl
  have l3 := hL.pd
  refine cal_of_tri Tryz.func44 rfl Tryz.ntmps44 rfl ?_
  (repeat (first | refine tri_seq ?_ | refine tri_then ?_)); refine tri_region ?_; (repeat (first | refine au_pure ?_ | refine au_pass ?_ | refine au_box (fun _ => ?_) | refine au_alloc (fun _ => ?_) | refine au_store ?_ | refine au_make rfl rfl (fun _ => ?_) | refine au_lit rfl rfl rfl (fun _ => ?_) | refine au_append rfl rfl rfl rfl (fun _ => au_norm ?_) | refine au_storeE rfl rfl rfl rfl ?_)); refine tri_nil ?_; (repeat refine tri_then ?_)
  rename_i g1
  have hC1 := hC.cons (c := hdC g1 h)
  have hT := hC1.tb
  have hB := hC1.tl
  have hP := hC1.pd
  (repeat (first | refine zz ?_ | refine zv fun _ => ?_))
  refine tri_block ?_
  refine tri_loop1 (fun (k : Nat) => k ≤ m.tb.length ∧ ∀ j, j < k → enOk m.wd.length (tbW m j) = true) (fun k => [(1, .pointer (some ⟨g1, 0, none⟩)), (3, .int .i64 (k : Int))]) (fun _ => Hp w0 (hdC g1 h :: cs)) (fun k => m.tb.length - k)
    0 ⟨by omega, fun j hj => by omega⟩ (by repeat (first | exact trivial | refine ⟨rfl, ?_⟩)) (fun w h => h) ?_
  rintro k ⟨hk, hok⟩
  (repeat (first | refine zz ?_ | refine zv fun _ => ?_))
  refine au_pure ?_ (hy := yl_len rfl rfl hT)
  (repeat (first | refine zz ?_ | refine zv fun _ => ?_))
  ((first | refine tri_cond (by rfl) (fun hc => ?_) (fun hc => ?_) | refine tri_gsplit (by rfl) (by rfl) (by (fail_if_success exact (rfl : _ = some (Value.bool true))); (fail_if_success exact (rfl : _ = some (Value.bool false))); rfl) (fun hc => ?_) (fun hc => ?_)) <;> (try simp only [decide_eq_true_eq, decide_eq_false_iff_not, beq_iff_eq, bne_iff_ne, ne_eq, Bool.not_eq_true', Bool.not_eq_false', beq_eq_false_iff_ne, bne_eq_false_iff_eq, Int.not_lt, Int.not_le, gt_iff_lt, ge_iff_le, Bool.and_eq_true, Bool.or_eq_true, Bool.and_eq_false_iff, Bool.or_eq_false_iff, Decidable.not_not, not_true_eq_false, not_false_eq_true, and_true, true_and, or_false, false_or, or_true, true_or, and_false, false_and, eq_self, Bool.true_eq_false, Bool.false_eq_true] at hc) <;> (try (exfalso; omega)))
  · have htw := hL.tw k
    rw [show (m.tb.getD k default).v = tbW m k from rfl] at htw
    have hno := form_tb (m := m) (j := k) (by omega)
    have hnx := fun he => all_next (k := k) (q := fun j => enOk m.wd.length (tbW m j) = true) hok he
    obtain ⟨w, hw⟩ : ∃ w, w = tbW m k := ⟨_, rfl⟩
    have hw2 : (m.tb.getD k default).v = w := by rw [hw]; rfl
    rw [← hw] at htw hno hnx
    obtain ⟨ok, hoke⟩ : ∃ b, b = enOk m.wd.length w := ⟨_, rfl⟩
    have hre := rentry_c w0 (hdC g1 h :: cs) w m.wd.length htw.1 htw.2
    rw [← hoke] at hno hnx
    (repeat (first | refine zz ?_ | refine zv fun _ => ?_))
    refine tri_block ?_
    (repeat (first | refine tri_seq ?_ | refine tri_then ?_))
    refine tri_cut1 (fun _ : Nat => True) (fun _ => [(1, .pointer (some ⟨g1, 0, none⟩)), (3, .int .i64 (k : Int)), (5, .bool ok)]) (fun g => Hp w0 (hdC g1 h :: cs)) ?_ ?_
    · refine ar_held [13] (hdC g1 h :: cs) rfl ?_
      refine ar_free 0 rfl rfl rfl ?_; refine ar_free 2 rfl rfl rfl ?_; refine ar_free 5 rfl rfl rfl ?_
      refine ar_take 1 rfl rfl rfl ?_
      refine ar_take 3 rfl rfl rfl ?_ (hy := yl_idx (k := k) rfl rfl hT (ix_nat rfl) (by rfl) (by omega))
      refine ar_take 4 rfl rfl rfl ?_ (hy := yl_loadE rfl rfl hT (by rfl) (by omega) (by rfl))
      rw [hw2]
      refine ar_take 6 rfl rfl rfl ?_
      refine ar_take 7 rfl rfl rfl ?_ (hy := yl_len rfl rfl hC1.wd)
      refine ar_op2 8 12 rfl rfl ?_ ?_
      · refine au_callC rfl rfl rfl rfl rfl (rentry_c w0 _ w m.wd.length htw.1 htw.2) (fun _ => ?_)
        rw [← hoke]
        refine tri_nil ?_; refine ar_in ?_
        refine ar_free 9 rfl rfl rfl ?_; refine ar_free 10 rfl rfl rfl ?_; refine ar_free 11 rfl rfl rfl ?_
        refine ar_op 12 rfl ?_
        refine au_alloc (fun g => ?_)
        refine tri_nil ?_; refine ar_in ?_
        refine ar_op 13 rfl ?_
        refine au_store ?_
        refine tri_nil ?_; refine ar_ink ?_
        refine ar_free 14 rfl rfl rfl ?_
        refine ar_done ?_
        (repeat (first | refine tri_seq ?_ | refine tri_then ?_))
        exact tri_mt1 g trivial (by repeat (first | exact trivial | refine ⟨rfl, ?_⟩)) (fun _ h => h.sub (by repeat (first | exact List.Sublist.refl _ | assumption | apply List.Sublist.cons_cons | apply List.Sublist.cons)))
      · refine au_alloc (fun g => ?_)
        refine tri_nil ?_; refine ar_in ?_
        refine ar_op 8 rfl ?_
        refine au_callC rfl rfl rfl rfl rfl (rentry_c w0 _ w m.wd.length htw.1 htw.2) (fun _ => ?_)
        rw [← hoke]
        refine tri_nil ?_; refine ar_in ?_
        refine ar_free 9 rfl rfl rfl ?_; refine ar_free 10 rfl rfl rfl ?_; refine ar_free 11 rfl rfl rfl ?_
        refine ar_op 13 rfl ?_
        refine au_store ?_
        refine tri_nil ?_; refine ar_ink ?_
        refine ar_free 14 rfl rfl rfl ?_
        refine ar_done ?_
        (repeat (first | refine tri_seq ?_ | refine tri_then ?_))
        exact tri_mt1 g trivial (by repeat (first | exact trivial | refine ⟨rfl, ?_⟩)) (fun _ h => h.sub (by repeat (first | exact List.Sublist.refl _ | assumption | apply List.Sublist.cons_cons | apply List.Sublist.cons)))
    intro _ _
    cases ok
    · (repeat (first | refine zz ?_ | refine zv fun _ => ?_))
      refine au_done1 rfl ?_
      exact fun w hw => ⟨(), by rw [hno rfl], hw.sub (by repeat (first | exact List.Sublist.refl _ | assumption | apply List.Sublist.cons_cons | apply List.Sublist.cons))⟩
    · (repeat (first | refine zz ?_ | refine zv fun _ => ?_))
      exact tri_nx1 (k + 1) (by omega) ⟨by omega, hnx rfl⟩ (by repeat (first | exact trivial | refine ⟨rfl, ?_⟩)) (fun w h => h.sub (by repeat (first | exact List.Sublist.refl _ | assumption | apply List.Sublist.cons_cons | apply List.Sublist.cons)))
  have hkt : k = m.tb.length := by omega
  subst hkt
  (repeat (first | refine zz ?_ | refine zv fun _ => ?_))
  refine tri_block ?_
  refine tri_loop1 (fun (c : Nat) => c ≤ xb.length ∧ ∀ j, j < c → tlOk m (m.tl.getD j default) = true) (fun c => [(1, .pointer (some ⟨g1, 0, none⟩)), (6, .int .i64 (c : Int))]) (fun _ => Hp w0 (hdC g1 h :: cs)) (fun c => xb.length - c)
    0 ⟨by omega, fun j hj => by omega⟩ (by repeat (first | exact trivial | refine ⟨rfl, ?_⟩)) (fun w h => h) ?_
  rintro c ⟨hcl, hok2⟩
  (repeat (first | refine zz ?_ | refine zv fun _ => ?_))
  refine au_pure ?_ (hy := yl_len rfl rfl hB)
  (repeat (first | refine zz ?_ | refine zv fun _ => ?_))
  ((first | refine tri_cond (by rfl) (fun hc => ?_) (fun hc => ?_) | refine tri_gsplit (by rfl) (by rfl) (by (fail_if_success exact (rfl : _ = some (Value.bool true))); (fail_if_success exact (rfl : _ = some (Value.bool false))); rfl) (fun hc => ?_) (fun hc => ?_)) <;> (try simp only [decide_eq_true_eq, decide_eq_false_iff_not, beq_iff_eq, bne_iff_ne, ne_eq, Bool.not_eq_true', Bool.not_eq_false', beq_eq_false_iff_ne, bne_eq_false_iff_eq, Int.not_lt, Int.not_le, gt_iff_lt, ge_iff_le, Bool.and_eq_true, Bool.or_eq_true, Bool.and_eq_false_iff, Bool.or_eq_false_iff, Decidable.not_not, not_true_eq_false, not_false_eq_true, and_true, true_and, or_false, false_or, or_true, true_or, and_false, false_and, eq_self, Bool.true_eq_false, Bool.false_eq_true] at hc) <;> (try (exfalso; omega)))
  · (repeat (first | refine zz ?_ | refine zv fun _ => ?_))
    refine tri_block ?_
    have hz := hC.tz c
    have hE := hC1.te c
    have hle := hL.te c
    have hew := hL.ew c
    have hf1 := form_tl (m := m) (c := c) (by omega)
    have hnx := fun a => all_next (k := c) (q := fun j => tlOk m (m.tl.getD j default) = true) hok2 a
    obtain ⟨b, hb⟩ : ∃ b, b = m.tl.getD c default := ⟨_, rfl⟩
    rw [← hb] at hE hz hle hew hf1 hnx
    (repeat (first | refine zz ?_ | refine zv fun _ => ?_))
    refine au_pure ?_ (hy := yl_idx (k := c) rfl rfl hB (ix_nat rfl) (by rfl) (by omega))
    refine au_pure ?_ (hy := yl_loadEN rfl rfl hB (by rfl) (by omega) (by repeat (first | exact nf0 rfl | apply nfS rfl | exact nfR)) (by rfl))
    rw [hz]
    refine au_callC rfl rfl rfl rfl rfl (rcheck_c w0 _ (z := b.z) (l := b.l) hE hle hew) (fun _ => ?_)
    (repeat (first | refine zz ?_ | refine zv fun _ => ?_))
    cases hck : (checkM b.z b.l != 0)
    case true =>
      (repeat (first | refine zz ?_ | refine zv fun _ => ?_))
      refine au_done1 rfl ?_
      exact fun w hw => ⟨(), by rw [hf1 (tlOk_chk (by simpa using hck))], hw.sub (by repeat (first | exact List.Sublist.refl _ | assumption | apply List.Sublist.cons_cons | apply List.Sublist.cons))⟩
    have hck : checkM b.z b.l = 0 := by simpa using hck
    (repeat (first | refine zz ?_ | refine zv fun _ => ?_))
    refine tri_block ?_
    refine tri_loop1 (fun (k : Nat) => k ≤ b.l.length ∧ ∀ j, j < k → teOk m.wd.length m.tb.length (b.l.getD j default) = true) (fun k => [(1, .pointer (some ⟨g1, 0, none⟩)), (6, .int .i64 (c : Int)), (7, .int .i64 (k : Int))]) (fun _ => Hp w0 (hdC g1 h :: cs)) (fun k => b.l.length - k)
      0 ⟨by omega, fun j hj => by omega⟩ (by repeat (first | exact trivial | refine ⟨rfl, ?_⟩)) (fun w h => h) ?_
    rintro k ⟨hk, hok3⟩
    (repeat (first | refine zz ?_ | refine zv fun _ => ?_))
    refine au_pure ?_ (hy := yl_idx (k := c) rfl rfl hB (ix_nat rfl) (by rfl) (by omega))
    refine au_pure ?_ (hy := yl_fieldE rfl rfl)
    refine au_pure ?_ (hy := yl_loadE rfl rfl hB (by rfl) (by omega) (by rfl))
    refine au_pure ?_ (hy := yl_len rfl rfl hE)
    (repeat (first | refine zz ?_ | refine zv fun _ => ?_))
    ((first | refine tri_cond (by rfl) (fun hc => ?_) (fun hc => ?_) | refine tri_gsplit (by rfl) (by rfl) (by (fail_if_success exact (rfl : _ = some (Value.bool true))); (fail_if_success exact (rfl : _ = some (Value.bool false))); rfl) (fun hc => ?_) (fun hc => ?_)) <;> (try simp only [decide_eq_true_eq, decide_eq_false_iff_not, beq_iff_eq, bne_iff_ne, ne_eq, Bool.not_eq_true', Bool.not_eq_false', beq_eq_false_iff_ne, bne_eq_false_iff_eq, Int.not_lt, Int.not_le, gt_iff_lt, ge_iff_le, Bool.and_eq_true, Bool.or_eq_true, Bool.and_eq_false_iff, Bool.or_eq_false_iff, Decidable.not_not, not_true_eq_false, not_false_eq_true, and_true, true_and, or_false, false_or, or_true, true_or, and_false, false_and, eq_self, Bool.true_eq_false, Bool.false_eq_true] at hc) <;> (try (exfalso; omega)))
    · (repeat (first | refine zz ?_ | refine zv fun _ => ?_))
      refine tri_block ?_
      have hkl : k < b.l.length := by omega
      have htw := hew _ (mem_getD' hkl)
      have hno := fun e => hf1 (tlOk_te (m := m) hkl e)
      have hnx3 := fun e => all_next (k := k) (q := fun j => teOk m.wd.length m.tb.length (b.l.getD j default) = true) hok3 e
      obtain ⟨t, ht⟩ : ∃ t, t = b.l.getD k default := ⟨_, rfl⟩
      rw [← ht] at htw hno hnx3
      have htw2 := htw.2.2
      have hte : teOk m.wd.length m.tb.length t = ((enOk m.wd.length t.w && (decR t.w).1.k == 1) && (t.s == 0 && decide (t.p < m.tb.length))) := by rw [en_page]; unfold teOk; rfl
      rw [hte] at hno hnx3
      (repeat (first | refine zz ?_ | refine zv fun _ => ?_))
      refine au_pure ?_ (hy := yl_idx (k := c) rfl rfl hB (ix_nat rfl) (by rfl) (by omega))
      refine au_pure ?_ (hy := yl_fieldE rfl rfl)
      refine au_pure ?_ (hy := yl_loadE rfl rfl hB (by rfl) (by omega) (by rfl))
      (repeat (first | refine zz ?_ | refine zv fun _ => ?_))
      refine au_pure ?_ (hy := yl_idx (k := k) rfl rfl hE (ix_nat rfl) (by rfl) (by omega))
      refine au_pure ?_ (hy := yl_loadEN rfl rfl hE (by rfl) (by omega) (by repeat (first | exact nf0 rfl | apply nfS rfl | exact nfR)) (by rfl))
      rw [← ht]
      (repeat (first | refine zz ?_ | refine zv fun _ => ?_))
      rename_i g8
      refine au_pure ?_ (hy := yl_len rfl rfl hC1.wd.cons)
      refine au_callC rfl rfl rfl rfl rfl (rentry_c w0 _ t.w m.wd.length htw2.1 htw2.2) (fun _ => ?_)
      obtain ⟨e, he⟩ : ∃ e, e = (decR t.w).1 := ⟨_, rfl⟩
      rw [← he] at hno hnx3 ⊢
      (repeat (first | refine zz ?_ | refine zv fun _ => ?_))
      cases h1 : enOk m.wd.length t.w
      case false =>
        (repeat (first | refine zz ?_ | refine zv fun _ => ?_))
        refine au_done1 rfl ?_
        exact fun w hw => ⟨(), by rw [hno (by rw [h1]; rfl)], hw.sub (by repeat (first | exact List.Sublist.refl _ | assumption | apply List.Sublist.cons_cons | apply List.Sublist.cons))⟩
      (repeat (first | refine zz ?_ | refine zv fun _ => ?_))
      cases h1' : (e.k != 1)
      case true =>
        (repeat (first | refine zz ?_ | refine zv fun _ => ?_))
        refine au_done1 rfl ?_
        exact fun w hw => ⟨(), by rw [hno (by rw [show (e.k == 1) = false by simpa using h1']; simp)], hw.sub (by repeat (first | exact List.Sublist.refl _ | assumption | apply List.Sublist.cons_cons | apply List.Sublist.cons))⟩
      have h1' : (e.k == 1) = true := by simpa using h1'
      (repeat (first | refine zz ?_ | refine zv fun _ => ?_))
      cases h2 : (t.s != 0)
      case true =>
        (repeat (first | refine zz ?_ | refine zv fun _ => ?_))
        refine au_done1 rfl ?_
        exact fun w hw => ⟨(), by rw [hno (by rw [show (t.s == 0) = false by simpa using h2]; simp)], hw.sub (by repeat (first | exact List.Sublist.refl _ | assumption | apply List.Sublist.cons_cons | apply List.Sublist.cons))⟩
      have h2 : t.s = 0 := by simpa using h2
      (repeat (first | refine zz ?_ | refine zv fun _ => ?_))
      refine au_pure ?_ (hy := yl_len rfl rfl (hT.cons.cons))
      (repeat (first | refine zz ?_ | refine zv fun _ => ?_))
      cases h3 : decide (t.p ≥ (m.tb.length : Int))
      · have h3 := of_decide_eq_false h3
        (repeat (first | refine zz ?_ | refine zv fun _ => ?_))
        exact tri_nx1 (k + 1) (by omega) ⟨by omega, hnx3 (by rw [h1, h1', h2, decide_eq_true (by omega)]; rfl)⟩ (by repeat (first | exact trivial | refine ⟨rfl, ?_⟩)) (fun w h => h.sub (by repeat (first | exact List.Sublist.refl _ | assumption | apply List.Sublist.cons_cons | apply List.Sublist.cons)))
      · have h3 := of_decide_eq_true h3
        (repeat (first | refine zz ?_ | refine zv fun _ => ?_))
        refine au_done1 rfl ?_
        exact fun w hw => ⟨(), by rw [hno (by rw [decide_eq_false (show ¬ t.p < (m.tb.length : Int) by omega)]; simp)], hw.sub (by repeat (first | exact List.Sublist.refl _ | assumption | apply List.Sublist.cons_cons | apply List.Sublist.cons))⟩
    · have hkb : k = b.l.length := by omega
      subst hkb
      have htl3 : tlOk m b = true := by
        unfold tlOk
        rw [all_get.2 hok3, hck]; rfl
      (repeat (first | refine zz ?_ | refine zv fun _ => ?_))
      exact tri_nx1 (c + 1) (by omega) ⟨by omega, hnx htl3⟩ (by repeat (first | exact trivial | refine ⟨rfl, ?_⟩)) (fun w h => h.sub (by repeat (first | exact List.Sublist.refl _ | assumption | apply List.Sublist.cons_cons | apply List.Sublist.cons)))
  have hcx : c = m.tl.length := by omega
  subst hcx
  (repeat (first | refine zz ?_ | refine zv fun _ => ?_))
  refine tri_block ?_
  refine tri_loop1 (fun (c : Nat) => c ≤ xp.length ∧ ∀ j, j < c → (m.pd.getD j default).all (ivOk m.tb.length) = true) (fun c => [(1, .pointer (some ⟨g1, 0, none⟩)), (11, .int .i64 (c : Int))]) (fun _ => Hp w0 (hdC g1 h :: cs)) (fun c => xp.length - c)
    0 ⟨by omega, fun j hj => by omega⟩ (by repeat (first | exact trivial | refine ⟨rfl, ?_⟩)) (fun w h => h) ?_
  rintro c ⟨hcl2, hok4⟩
  (repeat (first | refine zz ?_ | refine zv fun _ => ?_))
  refine au_pure ?_ (hy := yl_len rfl rfl hP)
  (repeat (first | refine zz ?_ | refine zv fun _ => ?_))
  ((first | refine tri_cond (by rfl) (fun hc => ?_) (fun hc => ?_) | refine tri_gsplit (by rfl) (by rfl) (by (fail_if_success exact (rfl : _ = some (Value.bool true))); (fail_if_success exact (rfl : _ = some (Value.bool false))); rfl) (fun hc => ?_) (fun hc => ?_)) <;> (try simp only [decide_eq_true_eq, decide_eq_false_iff_not, beq_iff_eq, bne_iff_ne, ne_eq, Bool.not_eq_true', Bool.not_eq_false', beq_eq_false_iff_ne, bne_eq_false_iff_eq, Int.not_lt, Int.not_le, gt_iff_lt, ge_iff_le, Bool.and_eq_true, Bool.or_eq_true, Bool.and_eq_false_iff, Bool.or_eq_false_iff, Decidable.not_not, not_true_eq_false, not_false_eq_true, and_true, true_and, or_false, false_or, or_true, true_or, and_false, false_and, eq_self, Bool.true_eq_false, Bool.false_eq_true] at hc) <;> (try (exfalso; omega)))
  · (repeat (first | refine zz ?_ | refine zv fun _ => ?_))
    refine tri_block ?_
    have hPe := hC1.pe c
    have hpe := hL.pe c
    have hf2 := form_pd (m := m) (c := c) (by omega)
    have hnx := fun a => all_next (k := c) (q := fun j => (m.pd.getD j default).all (ivOk m.tb.length) = true) hok4 a
    obtain ⟨pl, hpl2⟩ : ∃ pl, pl = m.pd.getD c default := ⟨_, rfl⟩
    rw [← hpl2] at hPe hpe hf2 hnx
    (repeat (first | refine zz ?_ | refine zv fun _ => ?_))
    refine tri_block ?_
    refine tri_loop1 (fun (k : Nat) => k ≤ pl.length ∧ ∀ j, j < k → ivOk m.tb.length (pl.getD j default) = true) (fun k => [(1, .pointer (some ⟨g1, 0, none⟩)), (11, .int .i64 (c : Int)), (12, .int .i64 (k : Int))]) (fun _ => Hp w0 (hdC g1 h :: cs)) (fun k => pl.length - k)
      0 ⟨by omega, fun j hj => by omega⟩ (by repeat (first | exact trivial | refine ⟨rfl, ?_⟩)) (fun w h => h) ?_
    rintro k ⟨hk, hok5⟩
    (repeat (first | refine zz ?_ | refine zv fun _ => ?_))
    refine au_pure ?_ (hy := yl_idx (k := c) rfl rfl hP (ix_nat rfl) (by rfl) (by omega))
    refine au_pure ?_ (hy := yl_loadE rfl rfl hP (by rfl) (by omega) (by rfl))
    refine au_pure ?_ (hy := yl_len rfl rfl hPe)
    (repeat (first | refine zz ?_ | refine zv fun _ => ?_))
    ((first | refine tri_cond (by rfl) (fun hc => ?_) (fun hc => ?_) | refine tri_gsplit (by rfl) (by rfl) (by (fail_if_success exact (rfl : _ = some (Value.bool true))); (fail_if_success exact (rfl : _ = some (Value.bool false))); rfl) (fun hc => ?_) (fun hc => ?_)) <;> (try simp only [decide_eq_true_eq, decide_eq_false_iff_not, beq_iff_eq, bne_iff_ne, ne_eq, Bool.not_eq_true', Bool.not_eq_false', beq_eq_false_iff_ne, bne_eq_false_iff_eq, Int.not_lt, Int.not_le, gt_iff_lt, ge_iff_le, Bool.and_eq_true, Bool.or_eq_true, Bool.and_eq_false_iff, Bool.or_eq_false_iff, Decidable.not_not, not_true_eq_false, not_false_eq_true, and_true, true_and, or_false, false_or, or_true, true_or, and_false, false_and, eq_self, Bool.true_eq_false, Bool.false_eq_true] at hc) <;> (try (exfalso; omega)))
    · (repeat (first | refine zz ?_ | refine zv fun _ => ?_))
      refine tri_block ?_
      have hkl : k < pl.length := by omega
      have hno := fun e => hf2 (all_no (p := ivOk m.tb.length) hkl e)
      have hnx4 := fun e => all_next (k := k) (q := fun j => ivOk m.tb.length (pl.getD j default) = true) hok5 e
      obtain ⟨v, hv⟩ : ∃ v, v = pl.getD k default := ⟨_, rfl⟩
      rw [← hv] at hno hnx4
      have hiv : ivOk m.tb.length v = decide (v.s = 0 ∧ 0 ≤ v.p ∧ v.p < m.tb.length ∧ v.o = false) := by unfold ivOk; rfl
      rw [hiv] at hno hnx4
      (repeat (first | refine zz ?_ | refine zv fun _ => ?_))
      refine au_pure ?_ (hy := yl_idx (k := c) rfl rfl hP (ix_nat rfl) (by rfl) (by omega))
      refine au_pure ?_ (hy := yl_loadE rfl rfl hP (by rfl) (by omega) (by rfl))
      (repeat (first | refine zz ?_ | refine zv fun _ => ?_))
      refine au_pure ?_ (hy := yl_idx (k := k) rfl rfl hPe (ix_nat rfl) (by rfl) (by omega))
      refine au_pure ?_ (hy := yl_loadEN rfl rfl hPe (by rfl) (by omega) (by repeat (first | exact nf0 rfl | apply nfS rfl | exact nfR)) (by rfl))
      rw [← hv]
      (repeat (first | refine zz ?_ | refine zv fun _ => ?_))
      cases h1 : (v.s != 0)
      case true =>
        have h1 := bne_iff_ne.1 h1
        (repeat (first | refine zz ?_ | refine zv fun _ => ?_))
        refine au_done1 rfl ?_
        exact fun w hw => ⟨(), by rw [hno (decide_eq_false fun x => h1 x.1)], hw.sub (by repeat (first | exact List.Sublist.refl _ | assumption | apply List.Sublist.cons_cons | apply List.Sublist.cons))⟩
      have h1 : v.s = 0 := by simpa using h1
      (repeat (first | refine zz ?_ | refine zv fun _ => ?_))
      cases h4 : v.o
      case true =>
        (repeat (first | refine zz ?_ | refine zv fun _ => ?_))
        refine au_done1 rfl ?_
        exact fun w hw => ⟨(), by rw [hno (decide_eq_false fun x => by rw [x.2.2.2] at h4; cases h4)], hw.sub (by repeat (first | exact List.Sublist.refl _ | assumption | apply List.Sublist.cons_cons | apply List.Sublist.cons))⟩
      (repeat (first | refine zz ?_ | refine zv fun _ => ?_))
      cases h2 : decide (v.p < 0)
      case true =>
        have h2 := of_decide_eq_true h2
        (repeat (first | refine zz ?_ | refine zv fun _ => ?_))
        refine au_done1 rfl ?_
        exact fun w hw => ⟨(), by rw [hno (decide_eq_false fun x => by omega)], hw.sub (by repeat (first | exact List.Sublist.refl _ | assumption | apply List.Sublist.cons_cons | apply List.Sublist.cons))⟩
      have h2 := of_decide_eq_false h2
      (repeat (first | refine zz ?_ | refine zv fun _ => ?_))
      refine au_pure ?_ (hy := yl_len rfl rfl hT.cons)
      (repeat (first | refine zz ?_ | refine zv fun _ => ?_))
      cases h3 : decide (v.p ≥ (m.tb.length : Int))
      · have h3 := of_decide_eq_false h3
        (repeat (first | refine zz ?_ | refine zv fun _ => ?_))
        exact tri_nx1 (k + 1) (by omega) ⟨by omega, hnx4 (decide_eq_true ⟨h1, by omega, by omega, h4⟩)⟩ (by repeat (first | exact trivial | refine ⟨rfl, ?_⟩)) (fun w h => h.sub (by repeat (first | exact List.Sublist.refl _ | assumption | apply List.Sublist.cons_cons | apply List.Sublist.cons)))
      · have h3 := of_decide_eq_true h3
        (repeat (first | refine zz ?_ | refine zv fun _ => ?_))
        refine au_done1 rfl ?_
        exact fun w hw => ⟨(), by rw [hno (decide_eq_false fun x => by omega)], hw.sub (by repeat (first | exact List.Sublist.refl _ | assumption | apply List.Sublist.cons_cons | apply List.Sublist.cons))⟩
    · have hkp : k = pl.length := by omega
      subst hkp
      (repeat (first | refine zz ?_ | refine zv fun _ => ?_))
      exact tri_nx1 (c + 1) (by omega) ⟨by omega, hnx (all_get.2 hok5)⟩ (by repeat (first | exact trivial | refine ⟨rfl, ?_⟩)) (fun w h => h.sub (by repeat (first | exact List.Sublist.refl _ | assumption | apply List.Sublist.cons_cons | apply List.Sublist.cons)))
  · have hcy : c = m.pd.length := by omega
    subst hcy
    (repeat (first | refine zz ?_ | refine zv fun _ => ?_))
    refine au_done1 rfl ?_
    exact fun w hw => ⟨(), by rw [form_yes hok hok2 hok4], hw.sub (by repeat (first | exact List.Sublist.refl _ | assumption | apply List.Sublist.cons_cons | apply List.Sublist.cons))⟩
end
end Go.Proofs.YtojfaelafakemaaGreat

/- The reference's reading of the frames of a shootdown machine is the program's. No conditions. -/
set_option linter.unusedSimpArgs false
set_option linter.unusedVariables false
namespace Go.Proofs.YtojfaelafakemaaGreat
open Go Go.RowKit
attribute [local irreducible] decR enOk pgOk teOk ivOk tlOk checkM
section
variable {m : SM} (hf : formM m = true)
include hf
theorem en_tb {k : Nat} (hk : k < m.tb.length) : enOk m.wd.length (tbW m k) = true := by
  cases h : enOk m.wd.length (tbW m k)
  · have := form_tb hk h
    rw [hf] at this; cases this
  · rfl
theorem map_fr {k : Nat} (hk : k < m.tb.length) {f : Int} (h0 : 0 ≤ f) : ((decR (tbW m k)).1.k == 1 && (decR (tbW m k)).1.n == f) = (frM m k == f) := by
  have h := en_tb hf hk
  have hp := en_page m.wd.length (tbW m k)
  rw [h, Bool.true_and] at hp
  rw [hp]
  cases h2 : pgOk m.wd.length (tbW m k)
  · rw [frM_no h2, Bool.false_and]
    symm
    rw [beq_eq_false_iff_ne]; omega
  · rw [frM_yes h2, Bool.true_and]
theorem mapN_zero {f : Int} (h0 : 0 ≤ f) : ∀ k, k ≤ m.tb.length → ((rmapN m f k : Int) > 0 ↔ usedT m k f = true)
  | 0, _ => by unfold rmapN usedT; simp
  | k + 1, hk => by
    have ih := mapN_zero h0 k (by omega)
    rw [mapN_step (by omega), map_fr hf (by omega) h0, usedT_succ, Bool.or_eq_true, ← ih]
    by_cases h : (frM m k == f) = true
    · rw [if_pos h]
      exact ⟨fun _ => .inr h, fun _ => by omega⟩
    · rw [if_neg h]
      exact ⟨fun x => .inl (by omega), fun x => by rcases x with x | x; · omega
                                                   · exact absurd x h⟩
theorem mapN_one (hd : ∀ p, p < m.tb.length → dupT m p = false) {f : Int} (h0 : 0 ≤ f) : ∀ k, k ≤ m.tb.length → rmapN m f k ≤ 1
  | 0, _ => by unfold rmapN; simp
  | k + 1, hk => by
    have ih := mapN_one hd h0 k (by omega)
    have hz := mapN_zero hf h0 k (by omega)
    rw [mapN_step (by omega), map_fr hf (by omega) h0]
    by_cases h : (frM m k == f) = true
    · rw [if_pos h]
      have h2 := hd k (by omega)
      unfold dupT at h2
      rw [beq_iff_eq] at h
      rw [h, decide_eq_true h0, Bool.true_and] at h2
      have : ¬ (rmapN m f k : Int) > 0 := fun x => by rw [hz.1 x] at h2; cases h2
      omega
    · rw [if_neg h]; exact ih
omit hf in
theorem mapN_mono {f : Int} {j : Nat} : ∀ k, j ≤ k → k ≤ m.tb.length → rmapN m f j ≤ rmapN m f k
  | 0, hj, _ => by rw [show j = 0 by omega]; exact Nat.le_refl _
  | k + 1, hj, hk => by
    by_cases e : j = k + 1
    · rw [e]; exact Nat.le_refl _
    · have := mapN_mono (f := f) (j := j) k (by omega) (by omega)
      rw [mapN_step (m := m) (f := f) (k := k) (by omega)]
      omega
theorem mapN_dup {p : Nat} (hp : p < m.tb.length) (hd : dupT m p = true) : 1 < rmapN m (frM m p) m.tb.length ∧ 0 ≤ frM m p ∧ frM m p < m.wd.length := by
  unfold dupT at hd
  rw [Bool.and_eq_true, decide_eq_true_eq] at hd
  have hz := (mapN_zero hf hd.1 p (by omega)).2 hd.2
  have hs := mapN_step (m := m) (f := frM m p) hp
  rw [map_fr hf hp hd.1, if_pos (by simp)] at hs
  have hm := mapN_mono (m := m) (f := frM m p) (j := p + 1) m.tb.length (by omega) (Nat.le_refl _)
  refine ⟨by omega, hd.1, ?_⟩
  cases h2 : pgOk m.wd.length (tbW m p)
  · rw [frM_no h2] at hd; omega
  · rw [frM_yes h2]; exact (pg_bd h2).2
end
theorem wait_lt {m : SM} {i : Nat} (hi : i < m.lm.length) : (decide (idxM (fun y : LB => y.f == (m.lm.getD i default).f) m.lm < (i : Int))) = usedL m i (m.lm.getD i default).f := by
  obtain ⟨p, hp⟩ : ∃ p : LB → Bool, p = fun y : LB => y.f == (m.lm.getD i default).f := ⟨_, rfl⟩
  have hpi : p (m.lm.getD i default) = true := by rw [hp]; simp
  have ha : m.lm.any p = true := List.any_eq_true.2 ⟨_, mem_getD' hi, hpi⟩
  have hlt := idxM_lt ha
  have hat := idxM_at ha
  rw [← hp]
  have hul : usedL m i (m.lm.getD i default).f = (m.lm.take i).any p := by unfold usedL; rw [hp]
  rw [hul, Bool.eq_iff_iff, decide_eq_true_eq, List.any_eq_true]
  constructor
  · intro h
    exact ⟨m.lm.getD (idxM p m.lm).toNat default, by rw [List.mem_take_iff_getElem]; exact ⟨(idxM p m.lm).toNat, by omega, by rw [getD_get (by omega)]⟩, hat⟩
  · rintro ⟨x, hx, hpx⟩
    rw [List.mem_take_iff_getElem] at hx
    obtain ⟨j, hj, rfl⟩ := hx
    have he : idxM p m.lm = (m.lm.findIdx p : Int) := by unfold idxM; rw [ha]; rfl
    rw [he]
    have : m.lm.findIdx p ≤ j := by
      rcases Nat.lt_or_ge j (m.lm.findIdx p) with h | h
      · have := List.not_of_lt_findIdx h
        rw [hpx] at this; cases this
      · exact h
    omega
/-- In limbo, as the reference says it. -/
def rlbOk (m : SM) (i : Nat) (x : LB) : Bool :=
  decide (0 ≤ x.f ∧ x.f < m.wd.length) && (!(decide ((rmapN m x.f m.tb.length : Int) > 0) || decide (idxM (fun y : LB => y.f == x.f) m.lm < (i : Int))) && (decide (1 ≤ x.a ∧ x.a < 2 ^ m.tl.length) && (List.range m.tl.length).all fun c => !(bitA x.a c && (m.pd.getD c default).isEmpty)))
def rlimM (m : SM) : Bool := (List.range m.lm.length).all fun i => rlbOk m i (m.lm.getD i default)
theorem rlb_eq {m : SM} (hf : formM m = true) {i : Nat} (hi : i < m.lm.length) : rlbOk m i (m.lm.getD i default) = lbOk m i (m.lm.getD i default) := by
  unfold rlbOk lbOk
  rw [wait_lt hi]
  by_cases h : 0 ≤ (m.lm.getD i default).f ∧ (m.lm.getD i default).f < m.wd.length
  · have hz := mapN_zero hf h.1 m.tb.length (Nat.le_refl _)
    have : decide ((rmapN m (m.lm.getD i default).f m.tb.length : Int) > 0) = usedT m m.tb.length (m.lm.getD i default).f := by
      rw [Bool.eq_iff_iff, decide_eq_true_eq]; exact hz
    rw [this]
  · rw [decide_eq_false h, Bool.false_and, Bool.false_and]
theorem rlim_eq {m : SM} (hf : formM m = true) : limM m = ((List.range m.tb.length).all (fun p => !dupT m p) && rlimM m) := by
  unfold limM rlimM
  congr 1
  rw [Bool.eq_iff_iff, List.all_eq_true, List.all_eq_true]
  exact ⟨fun h i hi => by rw [rlb_eq hf (List.mem_range.1 hi)]; exact h i hi, fun h i hi => by rw [← rlb_eq hf (List.mem_range.1 hi)]; exact h i hi⟩
theorem wait_any {m : SM} (hV : limM m = true) (c : Nat) (t : TE) : waitM m c t = (decide (idxM (fun x : LB => x.f == (decR t.w).1.n) m.lm ≥ 0) && bitA (m.lm.getD (idxM (fun x : LB => x.f == (decR t.w).1.n) m.lm).toNat default).a c) := by
  rw [idxM_ge]
  unfold waitM
  cases ha : m.lm.any fun x => x.f == (decR t.w).1.n
  · rw [Bool.false_and, List.any_eq_false]
    rw [List.any_eq_false] at ha
    intro x hx
    have := ha x hx
    rw [Bool.not_eq_true] at this
    rw [this]; simp
  · rw [Bool.true_and]
    have hlt := idxM_lt ha
    have hat := idxM_at ha
    obtain ⟨k, hk⟩ : ∃ k, k = (idxM (fun x : LB => x.f == (decR t.w).1.n) m.lm).toNat := ⟨_, rfl⟩
    rw [← hk] at hat hlt ⊢
    have key : ∀ i j, i < j → j < m.lm.length → (m.lm.getD i default).f ≠ (m.lm.getD j default).f := fun i j hij hj e => by
      unfold limM at hV
      rw [Bool.and_eq_true] at hV
      have h1 := List.all_eq_true.1 hV.2 j (List.mem_range.2 hj)
      rw [lbOk_eq] at h1
      simp only [Bool.and_eq_true, Bool.not_eq_true', Bool.or_eq_false_iff] at h1
      have h2 := h1.2.1.2
      unfold usedL at h2
      rw [List.any_eq_false] at h2
      refine h2 (m.lm.getD i default) ?_ (by rw [e]; simp)
      rw [List.mem_take_iff_getElem]
      exact ⟨i, by omega, by rw [getD_get (by omega)]⟩
    rw [Bool.eq_iff_iff, List.any_eq_true]
    constructor
    · rintro ⟨x, hx, h2⟩
      obtain ⟨j, hj, rfl⟩ := List.getElem_of_mem hx
      rw [Bool.and_eq_true] at h2
      have e : j = k := by
        rcases Nat.lt_trichotomy j k with h | h | h
        · exfalso
          refine key j k h hlt.2 ?_
          rw [beq_iff_eq] at h2 hat
          rw [getD_get hj, h2.1, hat]
        · exact h
        · exfalso
          refine key k j h hj ?_
          rw [beq_iff_eq] at h2 hat
          rw [getD_get hj, h2.1, hat]
      rw [← e, getD_get hj]
      exact h2.2
    · intro h2
      exact ⟨m.lm.getD k default, mem_getD' hlt.2, by rw [Bool.and_eq_true]; exact ⟨hat, h2⟩⟩
end Go.Proofs.YtojfaelafakemaaGreat
