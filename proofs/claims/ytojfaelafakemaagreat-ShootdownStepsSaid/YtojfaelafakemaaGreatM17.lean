/- Texts joined: ShRRead. Each part's own remark says what it proves. -/
import Derived.Test.YtojfaelafakemaaGreatM16
/- The walks of the reference of the shootdown machine: entries, what is mapped, waits, is owed. No conditions. -/
set_option linter.unusedSimpArgs false
set_option linter.unusedVariables false
namespace Go.Proofs.YtojfaelafakemaaGreat
open Go Go.RowKit
def rmapN (m : SM) (f : Int) (k : Nat) : Nat := (m.tb.take k).countP fun w => (decR w.v).1.k == 1 && (decR w.v).1.n == f
theorem enOk_no {n : Nat} {w : Int} (h : ¬ (decR w).2 = 0) : enOk n w = false := by
  unfold enOk pgOk
  rw [decide_eq_false fun x => h x.1, decide_eq_false fun x => h x.1]; rfl
theorem enOk_none {n : Nat} {w : Int} (h : (decR w).2 = 0) (h2 : (decR w).1.k = 0) : enOk n w = true := by
  unfold enOk
  rw [decide_eq_true ⟨h, h2⟩]; rfl
theorem enOk_page {n : Nat} {w : Int} (h2 : ¬ (decR w).1.k = 0) : enOk n w = pgOk n w := by
  unfold enOk
  rw [decide_eq_false fun x => h2 x.2]; rfl
theorem dec_bad {w : Int} (h : ¬ (decR w).2 = 0) : (decR w).1 = noEnt := by
  rcases decR_cases w with ⟨e, h2⟩ | h2
  · rw [h2] at h; exact absurd rfl h
  · rw [h2]
theorem mapN_step {m : SM} {f : Int} {k : Nat} (hk : k < m.tb.length) : rmapN m f (k + 1) = rmapN m f k + if ((decR (tbW m k)).1.k == 1 && (decR (tbW m k)).1.n == f) = true then 1 else 0 := by
  unfold rmapN
  rw [take_step hk, List.countP_append, List.countP_singleton]
  rfl
attribute [local irreducible] decR enOk pgOk teOk ivOk tlOk checkM lbOk formM limM schk
attribute [local irreducible] Code.wp wpList bodyPost Exit.then Exit.inBlock Calls wpQuiet Tri TriQ
section
variable (w0 : World) (cs : List Chunk)
set_option maxHeartbeats 1000000 in
theorem rentry_c (w : Int) (n : Nat) (h0 : 0 ≤ w) (h1 : w < 18446744073709551616) :
    Cal Tryz.prog 67 [.int .u64 w, .int .i64 (n : Int)] (Hp w0 cs) (fun _ : Unit => .tuple #[entE (decR w).1, .bool (enOk n w)]) (fun _ => Hp w0 cs) := by
  have en := enOk_no (n := n) (w := w)
  have eb := dec_bad (w := w)
  have ez := enOk_none (n := n) (w := w)
  have ep := enOk_page (n := n) (w := w)
  have epg : pgOk n w = decide ((decR w).2 = 0 ∧ (decR w).1.k = 1 ∧ (decR w).1.d = false ∧ (decR w).1.n < n) := by unfold pgOk; rfl
  obtain ⟨⟨k, nn, a, b, c, d⟩, u, hp⟩ : ∃ e u, decR w = (e, u) := ⟨_, _, rfl⟩
  rw [hp] at en eb ez ep epg ⊢
  simp only at en eb ez ep epg
  refine cal_of_tri Tryz.func67 rfl Tryz.ntmps67 rfl ?_
  (repeat (first | refine tri_seq ?_ | refine tri_then ?_)); refine tri_region ?_; (repeat (first | refine au_pure ?_ | refine au_pass ?_ | refine au_box (fun _ => ?_) | refine au_alloc (fun _ => ?_) | refine au_store ?_ | refine au_make rfl rfl (fun _ => ?_) | refine au_lit rfl rfl rfl (fun _ => ?_) | refine au_append rfl rfl rfl rfl (fun _ => au_norm ?_) | refine au_storeE rfl rfl rfl rfl ?_)); refine tri_nil ?_; (repeat refine tri_then ?_)
  rename_i g4
  (repeat (first | refine zz ?_ | refine zv fun _ => ?_))
  refine au_call rfl rfl (cl_of rfl rfl rfl (fun _ h => Ret.hp (rdecode_at _ h0 h1 hp) h)) ?_
  (repeat (first | refine zz ?_ | refine zv fun _ => ?_))
  rename_i g6
  cases h2 : (u != 0)
  case true =>
    have h2 := bne_iff_ne.1 h2
    have e2 := eb h2
    simp only [noEnt, Ent.mk.injEq] at e2
    obtain ⟨rfl, rfl, rfl, rfl, rfl, rfl⟩ := e2
    (repeat (first | refine zz ?_ | refine zv fun _ => ?_))
    refine au_done2 rfl ?_
    exact fun w hw => ⟨(), by first | (rw [en h2]; done) | (rw [en h2]; rfl), hw.sub (by repeat (first | exact List.Sublist.refl _ | assumption | apply List.Sublist.cons_cons | apply List.Sublist.cons))⟩
  have h2 : u = 0 := by simpa using h2
  (repeat (first | refine zz ?_ | refine zv fun _ => ?_))
  cases h3 : (k == 0)
  case true =>
    have h3 := beq_iff_eq.1 h3
    (repeat (first | refine zz ?_ | refine zv fun _ => ?_))
    refine au_done2 rfl ?_
    exact fun w hw => ⟨(), by rw [ez h2 h3], hw.sub (by repeat (first | exact List.Sublist.refl _ | assumption | apply List.Sublist.cons_cons | apply List.Sublist.cons))⟩
  have h3 := beq_eq_false_iff_ne.1 h3
  rw [ep h3, epg]
  (repeat (first | refine zz ?_ | refine zv fun _ => ?_))
  (repeat (first | refine tri_seq ?_ | refine tri_then ?_))
  refine ar_held [] (enC g6 k nn a b c d :: cs) rfl ?_
  cases h4 : (k == 1)
  · have e1 : decide (u = 0 ∧ k = 1 ∧ d = false ∧ nn < n) = false := decide_eq_false fun x => by rw [x.2.1] at h4; cases h4
    refine ar_take 0 rfl rfl rfl ?_; refine ar_take 1 rfl rfl rfl ?_; refine ar_take 2 rfl rfl rfl ?_; refine ar_take 3 rfl rfl rfl ?_
    rw [h4]
    refine ar_take 4 rfl rfl rfl ?_; refine ar_pass 5 rfl rfl rfl ?_; refine ar_pass 6 rfl rfl rfl ?_; refine ar_pass 7 rfl rfl rfl ?_; refine ar_take 8 rfl rfl rfl ?_; refine ar_take 9 rfl rfl rfl ?_; refine ar_pass 10 rfl rfl rfl ?_; refine ar_pass 11 rfl rfl rfl ?_; refine ar_pass 12 rfl rfl rfl ?_; refine ar_pass 13 rfl rfl rfl ?_; refine ar_take 14 rfl rfl rfl ?_
    refine ar_op 15 rfl ?_
    refine au_store ?_
    refine tri_nil ?_; refine ar_in ?_
    refine ar_op 16 rfl ?_
    refine au_pure ?_
    refine tri_nil ?_; refine ar_in ?_
    refine ar_done ?_
    (repeat (first | refine zz ?_ | refine zv fun _ => ?_))
    refine au_done2 rfl ?_
    exact fun w hw => ⟨(), by rw [e1], hw.sub (by repeat (first | exact List.Sublist.refl _ | assumption | apply List.Sublist.cons_cons | apply List.Sublist.cons))⟩
  · have h4' := beq_iff_eq.1 h4
    refine ar_take 0 rfl rfl rfl ?_; refine ar_take 1 rfl rfl rfl ?_; refine ar_take 2 rfl rfl rfl ?_; refine ar_take 3 rfl rfl rfl ?_
    rw [h4]
    refine ar_take 4 rfl rfl rfl ?_; refine ar_take 5 rfl rfl rfl ?_; refine ar_take 6 rfl rfl rfl ?_; refine ar_take 7 rfl rfl rfl ?_
    cases d with
    | true =>
      have e1 : decide (u = 0 ∧ k = 1 ∧ true = false ∧ nn < n) = false := decide_eq_false fun x => by cases x.2.2.1
      refine ar_take 8 rfl rfl rfl ?_; refine ar_take 9 rfl rfl rfl ?_; refine ar_pass 10 rfl rfl rfl ?_; refine ar_pass 11 rfl rfl rfl ?_; refine ar_pass 12 rfl rfl rfl ?_; refine ar_pass 13 rfl rfl rfl ?_; refine ar_take 14 rfl rfl rfl ?_
      refine ar_op 15 rfl ?_
      refine au_store ?_
      refine tri_nil ?_; refine ar_in ?_
      refine ar_op 16 rfl ?_
      refine au_pure ?_
      refine tri_nil ?_; refine ar_in ?_
      refine ar_done ?_
      (repeat (first | refine zz ?_ | refine zv fun _ => ?_))
      refine au_done2 rfl ?_
      exact fun w hw => ⟨(), by first | (rw [e1]; done) | (rw [e1]; rfl), hw.sub (by repeat (first | exact List.Sublist.refl _ | assumption | apply List.Sublist.cons_cons | apply List.Sublist.cons))⟩
    | false =>
      have e1 : decide (u = 0 ∧ k = 1 ∧ false = false ∧ nn < n) = decide (nn < n) := by rw [decide_eq_decide]; simp [h2, h4']
      refine ar_take 8 rfl rfl rfl ?_; refine ar_take 9 rfl rfl rfl ?_; refine ar_take 10 rfl rfl rfl ?_; refine ar_take 11 rfl rfl rfl ?_; refine ar_take 12 rfl rfl rfl ?_; refine ar_take 13 rfl rfl rfl ?_; refine ar_take 14 rfl rfl rfl ?_
      refine ar_op 15 rfl ?_
      refine au_store ?_
      refine tri_nil ?_; refine ar_in ?_
      refine ar_op 16 rfl ?_
      refine au_pure ?_
      refine tri_nil ?_; refine ar_in ?_
      refine ar_done ?_
      (repeat (first | refine zz ?_ | refine zv fun _ => ?_))
      refine au_done2 rfl ?_
      exact fun w hw => ⟨(), by first | (rw [e1]; done) | (rw [e1]; rfl), hw.sub (by repeat (first | exact List.Sublist.refl _ | assumption | apply List.Sublist.cons_cons | apply List.Sublist.cons))⟩
set_option maxHeartbeats 2000000 in
theorem rmapped_c {h : SH} {xb : List TB} {xp : List SV} {m : SM} (f : Int) (hC : RdS (Hp w0 cs) h xb xp m) (hL : SLe m) :
    Cal Tryz.prog 39 [hdV h, .int .i64 f] (Hp w0 cs) (fun _ : Unit => .int .i64 (rmapN m f m.tb.length : Int)) (fun _ => Hp w0 cs) := by
  have l1 := hL.tb
  refine cal_of_tri Tryz.func39 rfl Tryz.ntmps39 rfl ?_
  (repeat (first | refine tri_seq ?_ | refine tri_then ?_)); refine tri_region ?_; (repeat (first | refine au_pure ?_ | refine au_pass ?_ | refine au_box (fun _ => ?_) | refine au_alloc (fun _ => ?_) | refine au_store ?_ | refine au_make rfl rfl (fun _ => ?_) | refine au_lit rfl rfl rfl (fun _ => ?_) | refine au_append rfl rfl rfl rfl (fun _ => au_norm ?_) | refine au_storeE rfl rfl rfl rfl ?_)); refine tri_nil ?_; (repeat refine tri_then ?_)
  rename_i g2
  have hC1 := hC.cons (c := hdC g2 h)
  (repeat (first | refine zz ?_ | refine zv fun _ => ?_))
  refine tri_block ?_
  refine tri_loop1 (fun (k : Nat) => k ≤ m.tb.length) (fun k => [(1, .int .i64 f), (2, .pointer (some ⟨g2, 0, none⟩)), (5, .int .i64 (rmapN m f k : Int)), (6, .int .i64 (k : Int))]) (fun _ => Hp w0 (hdC g2 h :: cs)) (fun k => m.tb.length - k)
    0 (by omega) (by repeat (first | exact trivial | refine ⟨rfl, ?_⟩)) (fun w h => h) ?_
  intro k hk
  have hct : rmapN m f k ≤ k := by
    unfold rmapN
    have := List.countP_le_length (p := fun w : W64 => (decR w.v).1.k == 1 && (decR w.v).1.n == f) (l := m.tb.take k)
    rw [List.length_take] at this
    omega
  (repeat (first | refine zz ?_ | refine zv fun _ => ?_))
  refine au_pure ?_ (hy := yl_len rfl rfl hC1.tb)
  (repeat (first | refine zz ?_ | refine zv fun _ => ?_))
  ((first | refine tri_cond (by rfl) (fun hc => ?_) (fun hc => ?_) | refine tri_gsplit (by rfl) (by rfl) (by (fail_if_success exact (rfl : _ = some (Value.bool true))); (fail_if_success exact (rfl : _ = some (Value.bool false))); rfl) (fun hc => ?_) (fun hc => ?_)) <;> (try simp only [decide_eq_true_eq, decide_eq_false_iff_not, beq_iff_eq, bne_iff_ne, ne_eq, Bool.not_eq_true', Bool.not_eq_false', beq_eq_false_iff_ne, bne_eq_false_iff_eq, Int.not_lt, Int.not_le, gt_iff_lt, ge_iff_le, Bool.and_eq_true, Bool.or_eq_true, Bool.and_eq_false_iff, Bool.or_eq_false_iff, Decidable.not_not, not_true_eq_false, not_false_eq_true, and_true, true_and, or_false, false_or, or_true, true_or, and_false, false_and, eq_self, Bool.true_eq_false, Bool.false_eq_true] at hc) <;> (try (exfalso; omega)))
  · have hst := mapN_step (m := m) (f := f) (k := k) (by omega)
    have htw := hL.tw k
    rw [show (m.tb.getD k default).v = tbW m k from rfl] at htw
    obtain ⟨w, hw⟩ : ∃ w, w = tbW m k := ⟨_, rfl⟩
    obtain ⟨e, he⟩ : ∃ e, e = (decR w).1 := ⟨_, rfl⟩
    have hw2 : (m.tb.getD k default).v = w := by rw [hw]; rfl
    rw [← hw] at hst htw
    rw [← he] at hst
    obtain ⟨N, hN⟩ : ∃ N, N = rmapN m f k := ⟨_, rfl⟩
    rw [← hN] at hst hct ⊢
    (repeat (first | refine zz ?_ | refine zv fun _ => ?_))
    refine tri_block ?_
    (repeat (first | refine zz ?_ | refine zv fun _ => ?_))
    (repeat (first | refine tri_seq ?_ | refine tri_then ?_))
    refine tri_cut1 (fun _ : Nat => True) (fun g => [(1, .int .i64 f), (2, .pointer (some ⟨g2, 0, none⟩)), (5, .int .i64 (N : Int)), (6, .int .i64 (k : Int)), (7, .pointer (some ⟨g, 0, none⟩))]) (fun g => Hp w0 (enE g e :: hdC g2 h :: cs)) ?_ ?_
    · refine ar_held [13] (hdC g2 h :: cs) rfl ?_
      refine ar_free 0 rfl rfl rfl ?_; refine ar_free 2 rfl rfl rfl ?_; refine ar_free 5 rfl rfl rfl ?_
      refine ar_take 1 rfl rfl rfl ?_
      refine ar_take 3 rfl rfl rfl ?_ (hy := yl_idx (k := k) rfl rfl hC1.tb (ix_nat rfl) (by rfl) (by omega))
      refine ar_take 4 rfl rfl rfl ?_ (hy := yl_loadE rfl rfl hC1.tb (by rfl) (by omega) (by rfl))
      rw [hw2]
      refine ar_take 6 rfl rfl rfl ?_
      refine ar_take 7 rfl rfl rfl ?_ (hy := yl_len rfl rfl hC1.wd)
      refine ar_op2 8 12 rfl rfl ?_ ?_
      · refine au_callC rfl rfl rfl rfl rfl (rentry_c w0 _ w m.wd.length htw.1 htw.2) (fun _ => ?_)
        rw [← he]
        refine tri_nil ?_; refine ar_in ?_
        refine ar_free 9 rfl rfl rfl ?_; refine ar_free 10 rfl rfl rfl ?_; refine ar_free 11 rfl rfl rfl ?_
        refine ar_op 12 rfl ?_
        refine au_alloc (fun g => ?_)
        refine tri_nil ?_; refine ar_in ?_
        refine ar_op 13 rfl ?_
        refine au_store ?_
        refine tri_nil ?_; refine ar_ink ?_
        refine ar_free 14 rfl rfl rfl ?_
        refine ar_done ?_
        (repeat (first | refine tri_seq ?_ | refine tri_then ?_))
        exact tri_mt1 g trivial (by repeat (first | exact trivial | refine ⟨rfl, ?_⟩)) (fun _ h => h)
      · refine au_alloc (fun g => ?_)
        refine tri_nil ?_; refine ar_in ?_
        refine ar_op 8 rfl ?_
        refine au_callC rfl rfl rfl rfl rfl (rentry_c w0 _ w m.wd.length htw.1 htw.2) (fun _ => ?_)
        rw [← he]
        refine tri_nil ?_; refine ar_in ?_
        refine ar_free 9 rfl rfl rfl ?_; refine ar_free 10 rfl rfl rfl ?_; refine ar_free 11 rfl rfl rfl ?_
        refine ar_op 13 rfl ?_
        refine au_store ?_
        refine tri_nil ?_; refine ar_ink ?_
        refine ar_free 14 rfl rfl rfl ?_
        refine ar_done ?_
        (repeat (first | refine tri_seq ?_ | refine tri_then ?_))
        exact tri_mt1 g trivial (by repeat (first | exact trivial | refine ⟨rfl, ?_⟩)) (fun _ h => h)
    intro g7 _
    (repeat (first | refine zz ?_ | refine zv fun _ => ?_))
    cases h2 : (e.k == 1)
    · have e2 : rmapN m f (k + 1) = N := by rw [hst, h2]; simp
      (repeat (first | refine zz ?_ | refine zv fun _ => ?_))
      exact tri_nx1 (k + 1) (by omega) (by omega) (by rw [e2]; repeat (first | exact trivial | refine ⟨rfl, ?_⟩)) (fun w h => h.sub (by repeat (first | exact List.Sublist.refl _ | assumption | apply List.Sublist.cons_cons | apply List.Sublist.cons)))
    · (repeat (first | refine zz ?_ | refine zv fun _ => ?_))
      cases h3 : (e.n == f)
      · have e2 : rmapN m f (k + 1) = N := by rw [hst, h2, h3]; simp
        (repeat (first | refine zz ?_ | refine zv fun _ => ?_))
        exact tri_nx1 (k + 1) (by omega) (by omega) (by rw [e2]; repeat (first | exact trivial | refine ⟨rfl, ?_⟩)) (fun w h => h.sub (by repeat (first | exact List.Sublist.refl _ | assumption | apply List.Sublist.cons_cons | apply List.Sublist.cons)))
      · have e2 : rmapN m f (k + 1) = N + 1 := by rw [hst, h2, h3]; simp
        (repeat (first | refine zz ?_ | refine zv fun _ => ?_))
        exact tri_nx1 (k + 1) (by omega) (by omega) (by rw [e2]; repeat (first | exact trivial | refine ⟨rfl, ?_⟩)) (fun w h => h.sub (by repeat (first | exact List.Sublist.refl _ | assumption | apply List.Sublist.cons_cons | apply List.Sublist.cons)))
  · have hke : k = m.tb.length := by omega
    subst hke
    (repeat (first | refine zz ?_ | refine zv fun _ => ?_))
    refine au_done1 rfl ?_
    exact fun w hw => ⟨(), rfl, hw.sub (by repeat (first | exact List.Sublist.refl _ | assumption | apply List.Sublist.cons_cons | apply List.Sublist.cons))⟩
theorem rwaiting_c {h : SH} {xb : List TB} {xp : List SV} {m : SM} (f : Int) (hC : RdS (Hp w0 cs) h xb xp m) (hL : SLe m) :
    Cal Tryz.prog 40 [hdV h, .int .i64 f] (Hp w0 cs) (fun _ : Unit => .int .i64 (idxM (fun x : LB => x.f == f) m.lm)) (fun _ => Hp w0 cs) := by
  have l1 := hL.lm
  refine cal_of_tri Tryz.func40 rfl Tryz.ntmps40 rfl ?_
  (repeat (first | refine tri_seq ?_ | refine tri_then ?_)); refine tri_region ?_; (repeat (first | refine au_pure ?_ | refine au_pass ?_ | refine au_box (fun _ => ?_) | refine au_alloc (fun _ => ?_) | refine au_store ?_ | refine au_make rfl rfl (fun _ => ?_) | refine au_lit rfl rfl rfl (fun _ => ?_) | refine au_append rfl rfl rfl rfl (fun _ => au_norm ?_) | refine au_storeE rfl rfl rfl rfl ?_)); refine tri_nil ?_; (repeat refine tri_then ?_)
  rename_i g2
  have hC1 := hC.cons (c := hdC g2 h)
  (repeat (first | refine zz ?_ | refine zv fun _ => ?_))
  refine tri_block ?_
  refine tri_loop1 (fun (k : Nat) => k ≤ m.lm.length ∧ ∀ j, j < k → ((m.lm.getD j default).f == f) = false) (fun k => [(1, .int .i64 f), (2, .pointer (some ⟨g2, 0, none⟩)), (5, .int .i64 (k : Int))]) (fun _ => Hp w0 (hdC g2 h :: cs)) (fun k => m.lm.length - k)
    0 ⟨by omega, fun j hj => by omega⟩ (by repeat (first | exact trivial | refine ⟨rfl, ?_⟩)) (fun w h => h) ?_
  rintro k ⟨hk, hok⟩
  (repeat (first | refine zz ?_ | refine zv fun _ => ?_))
  refine au_pure ?_ (hy := yl_len rfl rfl hC1.lm)
  (repeat (first | refine zz ?_ | refine zv fun _ => ?_))
  ((first | refine tri_cond (by rfl) (fun hc => ?_) (fun hc => ?_) | refine tri_gsplit (by rfl) (by rfl) (by (fail_if_success exact (rfl : _ = some (Value.bool true))); (fail_if_success exact (rfl : _ = some (Value.bool false))); rfl) (fun hc => ?_) (fun hc => ?_)) <;> (try simp only [decide_eq_true_eq, decide_eq_false_iff_not, beq_iff_eq, bne_iff_ne, ne_eq, Bool.not_eq_true', Bool.not_eq_false', beq_eq_false_iff_ne, bne_eq_false_iff_eq, Int.not_lt, Int.not_le, gt_iff_lt, ge_iff_le, Bool.and_eq_true, Bool.or_eq_true, Bool.and_eq_false_iff, Bool.or_eq_false_iff, Decidable.not_not, not_true_eq_false, not_false_eq_true, and_true, true_and, or_false, false_or, or_true, true_or, and_false, false_and, eq_self, Bool.true_eq_false, Bool.false_eq_true] at hc) <;> (try (exfalso; omega)))
  · (repeat (first | refine zz ?_ | refine zv fun _ => ?_))
    refine tri_block ?_
    (repeat (first | refine zz ?_ | refine zv fun _ => ?_))
    refine au_pure ?_ (hy := yl_idx (k := k) rfl rfl hC1.lm (ix_nat rfl) (by rfl) (by omega))
    refine au_pure ?_ (hy := yl_fieldE rfl rfl)
    refine au_pure ?_ (hy := yl_loadE rfl rfl hC1.lm (by rfl) (by omega) (by rfl))
    (repeat (first | refine zz ?_ | refine zv fun _ => ?_))
    cases h2 : ((m.lm.getD k default).f == f)
    · (repeat (first | refine zz ?_ | refine zv fun _ => ?_))
      exact tri_nx1 (k + 1) (by omega) ⟨by omega, all_next (q := fun j => ((m.lm.getD j default).f == f) = false) hok h2⟩ (by repeat (first | exact trivial | refine ⟨rfl, ?_⟩)) (fun w h => h.sub (by repeat (first | exact List.Sublist.refl _ | assumption | apply List.Sublist.cons_cons | apply List.Sublist.cons)))
    · (repeat (first | refine zz ?_ | refine zv fun _ => ?_))
      refine au_done1 rfl ?_
      exact fun w hw => ⟨(), by rw [idxM_some (p := fun x : LB => x.f == f) (k := k) (by omega) h2 hok], hw.sub (by repeat (first | exact List.Sublist.refl _ | assumption | apply List.Sublist.cons_cons | apply List.Sublist.cons))⟩
  · have hke : k = m.lm.length := by omega
    subst hke
    (repeat (first | refine zz ?_ | refine zv fun _ => ?_))
    refine au_done1 rfl ?_
    exact fun w hw => ⟨(), by rw [idxM_none (p := fun x : LB => x.f == f) hok], hw.sub (by repeat (first | exact List.Sublist.refl _ | assumption | apply List.Sublist.cons_cons | apply List.Sublist.cons))⟩
theorem rowes_c {h : SH} {xb : List TB} {xp : List SV} {m : SM} (c : Nat) (p : Int) (hC : RdS (Hp w0 cs) h xb xp m) (hL : SLe m) (hc : c < m.pd.length) :
    Cal Tryz.prog 80 [hdV h, .int .i64 (c : Int), .int .i64 p] (Hp w0 cs) (fun _ : Unit => .bool (owesM m c p)) (fun _ => Hp w0 cs) := by
  have hl := hC.pdl
  have hle := hL.pe c
  refine cal_of_tri Tryz.func80 rfl Tryz.ntmps80 rfl ?_
  (repeat (first | refine tri_seq ?_ | refine tri_then ?_)); refine tri_region ?_; (repeat (first | refine au_pure ?_ | refine au_pass ?_ | refine au_box (fun _ => ?_) | refine au_alloc (fun _ => ?_) | refine au_store ?_ | refine au_make rfl rfl (fun _ => ?_) | refine au_lit rfl rfl rfl (fun _ => ?_) | refine au_append rfl rfl rfl rfl (fun _ => au_norm ?_) | refine au_storeE rfl rfl rfl rfl ?_)); refine tri_nil ?_; (repeat refine tri_then ?_)
  rename_i g3
  have hC1 := hC.cons (c := hdC g3 h)
  have hE := hC1.pe c
  (repeat (first | refine zz ?_ | refine zv fun _ => ?_))
  refine tri_block ?_
  refine tri_loop1 (fun (k : Nat) => k ≤ (m.pd.getD c default).length ∧ ∀ j, j < k → (((m.pd.getD c default).getD j default).p == p) = false) (fun k => [(1, .int .i64 (c : Int)), (2, .int .i64 p), (3, .pointer (some ⟨g3, 0, none⟩)), (7, .int .i64 (k : Int))]) (fun _ => Hp w0 (hdC g3 h :: cs)) (fun k => (m.pd.getD c default).length - k)
    0 ⟨by omega, fun j hj => by omega⟩ (by repeat (first | exact trivial | refine ⟨rfl, ?_⟩)) (fun w h => h) ?_
  rintro k ⟨hk, hok⟩
  (repeat (first | refine zz ?_ | refine zv fun _ => ?_))
  refine au_pure ?_ (hy := yl_idx (k := c) rfl rfl hC1.pd (ix_nat rfl) (by rfl) (by omega))
  refine au_pure ?_ (hy := yl_loadE rfl rfl hC1.pd (by rfl) (by omega) (by rfl))
  refine au_pure ?_ (hy := yl_len rfl rfl hE)
  (repeat (first | refine zz ?_ | refine zv fun _ => ?_))
  ((first | refine tri_cond (by rfl) (fun hc => ?_) (fun hc => ?_) | refine tri_gsplit (by rfl) (by rfl) (by (fail_if_success exact (rfl : _ = some (Value.bool true))); (fail_if_success exact (rfl : _ = some (Value.bool false))); rfl) (fun hc => ?_) (fun hc => ?_)) <;> (try simp only [decide_eq_true_eq, decide_eq_false_iff_not, beq_iff_eq, bne_iff_ne, ne_eq, Bool.not_eq_true', Bool.not_eq_false', beq_eq_false_iff_ne, bne_eq_false_iff_eq, Int.not_lt, Int.not_le, gt_iff_lt, ge_iff_le, Bool.and_eq_true, Bool.or_eq_true, Bool.and_eq_false_iff, Bool.or_eq_false_iff, Decidable.not_not, not_true_eq_false, not_false_eq_true, and_true, true_and, or_false, false_or, or_true, true_or, and_false, false_and, eq_self, Bool.true_eq_false, Bool.false_eq_true] at hc) <;> (try (exfalso; omega)))
  · (repeat (first | refine zz ?_ | refine zv fun _ => ?_))
    refine tri_block ?_
    (repeat (first | refine zz ?_ | refine zv fun _ => ?_))
    refine au_pure ?_ (hy := yl_idx (k := c) rfl rfl hC1.pd (ix_nat rfl) (by rfl) (by omega))
    refine au_pure ?_ (hy := yl_loadE rfl rfl hC1.pd (by rfl) (by omega) (by rfl))
    (repeat (first | refine zz ?_ | refine zv fun _ => ?_))
    refine au_pure ?_ (hy := yl_idx (k := k) rfl rfl hE (ix_nat rfl) (by rfl) (by omega))
    refine au_pure ?_ (hy := yl_fieldE rfl rfl)
    refine au_pure ?_ (hy := yl_loadE rfl rfl hE (by rfl) (by omega) (by rfl))
    (repeat (first | refine zz ?_ | refine zv fun _ => ?_))
    cases h2 : (((m.pd.getD c default).getD k default).p == p)
    · (repeat (first | refine zz ?_ | refine zv fun _ => ?_))
      exact tri_nx1 (k + 1) (by omega) ⟨by omega, all_next (q := fun j => (((m.pd.getD c default).getD j default).p == p) = false) hok h2⟩ (by repeat (first | exact trivial | refine ⟨rfl, ?_⟩)) (fun w h => h.sub (by repeat (first | exact List.Sublist.refl _ | assumption | apply List.Sublist.cons_cons | apply List.Sublist.cons)))
    · (repeat (first | refine zz ?_ | refine zv fun _ => ?_))
      refine au_done1 rfl ?_
      refine fun w hw => ⟨(), ?_, hw.sub (by repeat (first | exact List.Sublist.refl _ | assumption | apply List.Sublist.cons_cons | apply List.Sublist.cons))⟩
      have : owesM m c p = true := by
        unfold owesM
        rw [List.any_eq_true]
        exact ⟨_, mem_getD' (by omega), h2⟩
      rw [this]
  · have hke : k = (m.pd.getD c default).length := by omega
    subst hke
    (repeat (first | refine zz ?_ | refine zv fun _ => ?_))
    refine au_done1 rfl ?_
    refine fun w hw => ⟨(), ?_, hw.sub (by repeat (first | exact List.Sublist.refl _ | assumption | apply List.Sublist.cons_cons | apply List.Sublist.cons))⟩
    have : owesM m c p = false := by
      unfold owesM
      rw [List.any_eq_false]
      intro x hx
      obtain ⟨j, hj, rfl⟩ := List.getElem_of_mem hx
      have := hok j hj
      rw [getD_get hj] at this
      rw [Bool.not_eq_true]
      exact this
    rw [this]
end
end Go.Proofs.YtojfaelafakemaaGreat
