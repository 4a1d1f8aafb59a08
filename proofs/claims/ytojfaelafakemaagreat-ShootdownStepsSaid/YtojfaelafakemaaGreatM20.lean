/- Texts joined: ShRCheck, ShRCheck2. Each part's own remark says what it proves. -/
import Derived.Test.YtojfaelafakemaaGreatM19
/- The walk of the reference's check of a shootdown machine. No conditions. -/
set_option linter.unusedSimpArgs false
set_option linter.unusedVariables false
namespace Go.Proofs.YtojfaelafakemaaGreat
open Go Go.RowKit
theorem rlbOk_eq (m : SM) (i : Nat) (x : LB) : rlbOk m i x = (decide (0 ≤ x.f ∧ x.f < m.wd.length) && (!(decide ((rmapN m x.f m.tb.length : Int) > 0) || decide (idxM (fun y : LB => y.f == x.f) m.lm < (i : Int))) && (decide (1 ≤ x.a ∧ x.a < 2 ^ m.tl.length) && (List.range m.tl.length).all fun c => !(bitA x.a c && (m.pd.getD c default).isEmpty)))) := rfl
theorem rlim_no {m : SM} {i : Nat} (hi : i < m.lm.length) (h : rlbOk m i (m.lm.getD i default) = false) : rlimM m = false := by
  unfold rlimM
  rw [List.all_eq_false]
  exact ⟨i, List.mem_range.2 hi, by rw [h]; simp⟩
attribute [local irreducible] decR enOk pgOk teOk ivOk tlOk checkM lbOk formM limM schk rlbOk rmapN
attribute [local irreducible] Code.wp wpList bodyPost Exit.then Exit.inBlock Calls wpQuiet Tri TriQ
section
variable (w0 : World) (cs : List Chunk)
set_option maxHeartbeats 4000000 in
theorem rlimbo_c {h : SH} {xb : List TB} {xp : List SV} {m : SM} (hC : RdS (Hp w0 cs) h xb xp m) (hL : SLe m) (hpl : m.pd.length = m.tl.length) (hc4 : m.tl.length ≤ 4) :
    Cal Tryz.prog 45 [hdV h] (Hp w0 cs) (fun _ : Unit => .bool (rlimM m)) (fun _ => Hp w0 cs) := by
  have htl := hC.tll
  have hpdl := hC.pdl
  have l4 := hL.lm
  refine cal_of_tri Tryz.func45 rfl Tryz.ntmps45 rfl ?_
  (repeat (first | refine tri_seq ?_ | refine tri_then ?_)); refine tri_region ?_; (repeat (first | refine au_pure ?_ | refine au_pass ?_ | refine au_box (fun _ => ?_) | refine au_alloc (fun _ => ?_) | refine au_store ?_ | refine au_make rfl rfl (fun _ => ?_) | refine au_lit rfl rfl rfl (fun _ => ?_) | refine au_append rfl rfl rfl rfl (fun _ => au_norm ?_) | refine au_storeE rfl rfl rfl rfl ?_)); refine tri_nil ?_; (repeat refine tri_then ?_)
  rename_i g1
  have hC1 := hC.cons (c := hdC g1 h)
  (repeat (first | refine zz ?_ | refine zv fun _ => ?_))
  refine tri_block ?_
  refine tri_loop1 (fun (i : Nat) => i ≤ m.lm.length ∧ ∀ j, j < i → rlbOk m j (m.lm.getD j default) = true) (fun i => [(1, .pointer (some ⟨g1, 0, none⟩)), (3, .int .i64 (i : Int))]) (fun _ => Hp w0 (hdC g1 h :: cs)) (fun i => m.lm.length - i)
    0 ⟨by omega, fun j hj => by omega⟩ (by repeat (first | exact trivial | refine ⟨rfl, ?_⟩)) (fun w h => h) ?_
  rintro i ⟨hi, hlo⟩
  (repeat (first | refine zz ?_ | refine zv fun _ => ?_))
  refine au_pure ?_ (hy := yl_len rfl rfl hC1.lm)
  (repeat (first | refine zz ?_ | refine zv fun _ => ?_))
  ((first | refine tri_cond (by rfl) (fun hc => ?_) (fun hc => ?_) | refine tri_gsplit (by rfl) (by rfl) (by (fail_if_success exact (rfl : _ = some (Value.bool true))); (fail_if_success exact (rfl : _ = some (Value.bool false))); rfl) (fun hc => ?_) (fun hc => ?_)) <;> (try simp only [decide_eq_true_eq, decide_eq_false_iff_not, beq_iff_eq, bne_iff_ne, ne_eq, Bool.not_eq_true', Bool.not_eq_false', beq_eq_false_iff_ne, bne_eq_false_iff_eq, Int.not_lt, Int.not_le, gt_iff_lt, ge_iff_le, Bool.and_eq_true, Bool.or_eq_true, Bool.and_eq_false_iff, Bool.or_eq_false_iff, Decidable.not_not, not_true_eq_false, not_false_eq_true, and_true, true_and, or_false, false_or, or_true, true_or, and_false, false_and, eq_self, Bool.true_eq_false, Bool.false_eq_true] at hc) <;> (try (exfalso; omega)))
  · have hil : i < m.lm.length := by omega
    have hno := rlim_no (m := m) hil
    have hnx := fun e => all_next (k := i) (q := fun j => rlbOk m j (m.lm.getD j default) = true) hlo e
    have hlb := rlbOk_eq m i (m.lm.getD i default)
    obtain ⟨x, hx⟩ : ∃ x, x = m.lm.getD i default := ⟨_, rfl⟩
    rw [← hx] at hno hnx hlb
    (repeat (first | refine zz ?_ | refine zv fun _ => ?_))
    refine tri_block ?_
    (repeat (first | refine zz ?_ | refine zv fun _ => ?_))
    refine au_pure ?_ (hy := yl_idx (k := i) rfl rfl hC1.lm (ix_nat rfl) (by rfl) (by omega))
    refine au_pure ?_ (hy := yl_loadEN rfl rfl hC1.lm (by rfl) (by omega) (by repeat (first | exact nf0 rfl | apply nfS rfl | exact nfR)) (by rfl))
    rw [← hx]
    (repeat (first | refine au_pure ?_ | refine au_pass ?_ | refine au_box (fun _ => ?_) | refine au_alloc (fun _ => ?_) | refine au_store ?_ | refine au_make rfl rfl (fun _ => ?_) | refine au_lit rfl rfl rfl (fun _ => ?_) | refine au_append rfl rfl rfl rfl (fun _ => au_norm ?_) | refine au_storeE rfl rfl rfl rfl ?_)); refine tri_nil ?_; (repeat refine tri_then ?_)
    rename_i g4
    (repeat (first | refine tri_seq ?_ | refine tri_then ?_))
    have hCx := hC1.cons (c := lbC g4 x)
    refine au_draw rfl ?_
    (repeat (first | refine z1 ?_ | refine au_qpass rfl rfl ?_ | refine triq_nil ?_))
    cases h1 : decide (x.f < 0)
    case true =>
      have h1 := of_decide_eq_true h1
      (repeat (first | refine z1 ?_ | refine au_qpass rfl rfl ?_ | refine triq_nil ?_))
      (repeat (first | refine zz ?_ | refine zv fun _ => ?_))
      refine au_done1 rfl ?_
      exact fun w hw => ⟨(), by rw [hno (by rw [hlb, decide_eq_false (by omega), Bool.false_and])], hw.sub (by repeat (first | exact List.Sublist.refl _ | assumption | apply List.Sublist.cons_cons | apply List.Sublist.cons))⟩
    have h1 := of_decide_eq_false h1
    (repeat (first | refine z1 ?_ | refine au_qpass rfl rfl ?_ | refine triq_nil ?_))
    refine au_qpure rfl rfl ?_ (hy := yl_len rfl rfl hCx.wd)
    (repeat (first | refine z1 ?_ | refine au_qpass rfl rfl ?_ | refine triq_nil ?_))
    cases h2 : decide (x.f ≥ (m.wd.length : Int))
    case true =>
      have h2 := of_decide_eq_true h2
      (repeat (first | refine z1 ?_ | refine au_qpass rfl rfl ?_ | refine triq_nil ?_))
      (repeat (first | refine zz ?_ | refine zv fun _ => ?_))
      refine au_done1 rfl ?_
      exact fun w hw => ⟨(), by rw [hno (by rw [hlb, decide_eq_false (by omega), Bool.false_and])], hw.sub (by repeat (first | exact List.Sublist.refl _ | assumption | apply List.Sublist.cons_cons | apply List.Sublist.cons))⟩
    have h2 := of_decide_eq_false h2
    rw [decide_eq_true (show 0 ≤ x.f ∧ x.f < m.wd.length by omega), Bool.true_and] at hlb
    (repeat (first | refine z1 ?_ | refine au_qpass rfl rfl ?_ | refine triq_nil ?_))
    refine triq_call rfl rfl (by first | exact wan_plain rfl | exact wan_yes rfl rfl rfl) (cl_of rfl rfl rfl (calr (rmapped_c w0 _ x.f hCx hL))) ?_
    (repeat (first | refine z1 ?_ | refine au_qpass rfl rfl ?_ | refine triq_nil ?_))
    cases h3 : decide ((rmapN m x.f m.tb.length : Int) > 0)
    case true =>
      (repeat (first | refine z1 ?_ | refine au_qpass rfl rfl ?_ | refine triq_nil ?_))
      (repeat (first | refine zz ?_ | refine zv fun _ => ?_))
      refine au_done1 rfl ?_
      exact fun w hw => ⟨(), by rw [hno (by rw [hlb, h3]; rfl)], hw.sub (by repeat (first | exact List.Sublist.refl _ | assumption | apply List.Sublist.cons_cons | apply List.Sublist.cons))⟩
    rw [h3, Bool.false_or] at hlb
    (repeat (first | refine z1 ?_ | refine au_qpass rfl rfl ?_ | refine triq_nil ?_))
    refine triq_call rfl rfl (by first | exact wan_plain rfl | exact wan_yes rfl rfl rfl) (cl_of rfl rfl rfl (calr (rwaiting_c w0 _ x.f hCx hL))) ?_
    (repeat (first | refine z1 ?_ | refine au_qpass rfl rfl ?_ | refine triq_nil ?_))
    cases h4 : decide (idxM (fun y : LB => y.f == x.f) m.lm < (i : Int))
    case true =>
      (repeat (first | refine z1 ?_ | refine au_qpass rfl rfl ?_ | refine triq_nil ?_))
      (repeat (first | refine zz ?_ | refine zv fun _ => ?_))
      refine au_done1 rfl ?_
      exact fun w hw => ⟨(), by rw [hno (by rw [hlb, h4]; rfl)], hw.sub (by repeat (first | exact List.Sublist.refl _ | assumption | apply List.Sublist.cons_cons | apply List.Sublist.cons))⟩
    rw [h4, Bool.not_false, Bool.true_and] at hlb
    (repeat (first | refine z1 ?_ | refine au_qpass rfl rfl ?_ | refine triq_nil ?_))
    cases h5 : decide (x.a < 1)
    case true =>
      have h5 := of_decide_eq_true h5
      (repeat (first | refine z1 ?_ | refine au_qpass rfl rfl ?_ | refine triq_nil ?_))
      (repeat (first | refine zz ?_ | refine zv fun _ => ?_))
      refine au_done1 rfl ?_
      exact fun w hw => ⟨(), by rw [hno (by rw [hlb, decide_eq_false (by omega), Bool.false_and])], hw.sub (by repeat (first | exact List.Sublist.refl _ | assumption | apply List.Sublist.cons_cons | apply List.Sublist.cons))⟩
    have h5 := of_decide_eq_false h5
    (repeat (first | refine z1 ?_ | refine au_qpass rfl rfl ?_ | refine triq_nil ?_))
    refine au_qpure rfl rfl ?_ (hy := yl_len rfl rfl hCx.tl)
    refine au_qpure rfl rfl ?_ (hy := yl_shl rfl rfl rfl (by omega))
    rw [htl, shl_eq hc4]
    have hpw := pow_le hc4
    (repeat (first | refine z1 ?_ | refine au_qpass rfl rfl ?_ | refine triq_nil ?_))
    cases h6 : decide (x.a ≥ (2 : Int) ^ m.tl.length)
    case true =>
      have h6 := of_decide_eq_true h6
      (repeat (first | refine z1 ?_ | refine au_qpass rfl rfl ?_ | refine triq_nil ?_))
      (repeat (first | refine zz ?_ | refine zv fun _ => ?_))
      refine au_done1 rfl ?_
      exact fun w hw => ⟨(), by rw [hno (by rw [hlb, decide_eq_false (by omega), Bool.false_and])], hw.sub (by repeat (first | exact List.Sublist.refl _ | assumption | apply List.Sublist.cons_cons | apply List.Sublist.cons))⟩
    have h6 := of_decide_eq_false h6
    rw [decide_eq_true (show 1 ≤ x.a ∧ x.a < 2 ^ m.tl.length by omega), Bool.true_and] at hlb
    (repeat (first | refine z1 ?_ | refine au_qpass rfl rfl ?_ | refine triq_nil ?_))
    (repeat (first | refine zz ?_ | refine zv fun _ => ?_))
    refine tri_block ?_
    refine tri_loop1 (fun (c : Nat) => c ≤ xb.length ∧ ∀ j, j < c → (!(bitA x.a j && (m.pd.getD j default).isEmpty)) = true) (fun c => [(1, .pointer (some ⟨g1, 0, none⟩)), (3, .int .i64 (i : Int)), (4, .pointer (some ⟨g4, 0, none⟩)), (5, .int .i64 (c : Int))]) (fun _ => Hp w0 (lbC g4 x :: hdC g1 h :: cs)) (fun c => xb.length - c)
      0 ⟨by omega, fun j hj => by omega⟩ (by repeat (first | exact trivial | refine ⟨rfl, ?_⟩)) (fun w h => h) ?_
    rintro c ⟨hcl, hcb⟩
    (repeat (first | refine zz ?_ | refine zv fun _ => ?_))
    refine au_pure ?_ (hy := yl_len rfl rfl hCx.tl)
    (repeat (first | refine zz ?_ | refine zv fun _ => ?_))
    ((first | refine tri_cond (by rfl) (fun hc => ?_) (fun hc => ?_) | refine tri_gsplit (by rfl) (by rfl) (by (fail_if_success exact (rfl : _ = some (Value.bool true))); (fail_if_success exact (rfl : _ = some (Value.bool false))); rfl) (fun hc => ?_) (fun hc => ?_)) <;> (try simp only [decide_eq_true_eq, decide_eq_false_iff_not, beq_iff_eq, bne_iff_ne, ne_eq, Bool.not_eq_true', Bool.not_eq_false', beq_eq_false_iff_ne, bne_eq_false_iff_eq, Int.not_lt, Int.not_le, gt_iff_lt, ge_iff_le, Bool.and_eq_true, Bool.or_eq_true, Bool.and_eq_false_iff, Bool.or_eq_false_iff, Decidable.not_not, not_true_eq_false, not_false_eq_true, and_true, true_and, or_false, false_or, or_true, true_or, and_false, false_and, eq_self, Bool.true_eq_false, Bool.false_eq_true] at hc) <;> (try (exfalso; omega)))
    · have hPe := hCx.pe c
      have hpe := hL.pe c
      have hnc := fun e => all_next (k := c) (q := fun j => (!(bitA x.a j && (m.pd.getD j default).isEmpty)) = true) hcb e
      have hbad : (!(bitA x.a c && (m.pd.getD c default).isEmpty)) = false → rlbOk m i x = false := fun e => by
        rw [hlb, List.all_eq_false]
        exact ⟨c, List.mem_range.2 (by omega), by rw [e]; simp⟩
      have hbit := bit2_eq (a := x.a) (c := c) (by omega) (by omega)
      have hfd := fdiv_bd (a := x.a) (c := c) (by omega) (by omega)
      obtain ⟨pl, hpl2⟩ : ∃ pl, pl = m.pd.getD c default := ⟨_, rfl⟩
      rw [← hpl2] at hPe hpe hnc hbad
      (repeat (first | refine zz ?_ | refine zv fun _ => ?_))
      refine tri_block ?_
      (repeat (first | refine zz ?_ | refine zv fun _ => ?_))
      refine au_pure ?_ (hy := yl_shr rfl rfl rfl (by omega))
      refine au_pure ?_ (hy := yl_remn rfl rfl rfl (by omega))
      (repeat (first | refine zz ?_ | refine zv fun _ => ?_))
      rw [hbit]
      cases h7 : bitA x.a c
      · (repeat (first | refine zz ?_ | refine zv fun _ => ?_))
        exact tri_nx1 (c + 1) (by omega) ⟨by omega, hnc (by rw [h7]; rfl)⟩ (by repeat (first | exact trivial | refine ⟨rfl, ?_⟩)) (fun w h => h.sub (by repeat (first | exact List.Sublist.refl _ | assumption | apply List.Sublist.cons_cons | apply List.Sublist.cons)))
      · (repeat (first | refine zz ?_ | refine zv fun _ => ?_))
        refine au_pure ?_ (hy := yl_idx (k := c) rfl rfl hCx.pd (ix_nat rfl) (by rfl) (by omega))
        refine au_pure ?_ (hy := yl_loadE rfl rfl hCx.pd (by rfl) (by omega) (by rfl))
        refine au_pure ?_ (hy := yl_len rfl rfl hPe)
        (repeat (first | refine zz ?_ | refine zv fun _ => ?_))
        cases h8 : ((pl.length : Int) == 0)
        · have h8 : ¬ (pl.length : Int) = 0 := by simpa using h8
          (repeat (first | refine zz ?_ | refine zv fun _ => ?_))
          refine tri_nx1 (c + 1) (by omega) ⟨by omega, hnc ?_⟩ (by repeat (first | exact trivial | refine ⟨rfl, ?_⟩)) (fun w h => h.sub (by repeat (first | exact List.Sublist.refl _ | assumption | apply List.Sublist.cons_cons | apply List.Sublist.cons)))
          rw [h7]
          cases pl with
          | nil => simp at h8
          | cons a b => rfl
        · have h8 : (pl.length : Int) = 0 := by simpa using h8
          have hnil : pl = [] := List.length_eq_zero_iff.1 (by omega)
          (repeat (first | refine zz ?_ | refine zv fun _ => ?_))
          refine au_done1 rfl ?_
          exact fun w hw => ⟨(), by rw [hno (hbad (by rw [h7, hnil]; rfl))], hw.sub (by repeat (first | exact List.Sublist.refl _ | assumption | apply List.Sublist.cons_cons | apply List.Sublist.cons))⟩
    · have hce : c = m.tl.length := by omega
      (repeat (first | refine zz ?_ | refine zv fun _ => ?_))
      refine tri_nx1 (i + 1) (by omega) ⟨by omega, hnx ?_⟩ (by repeat (first | exact trivial | refine ⟨rfl, ?_⟩)) (fun w h => h.sub (by repeat (first | exact List.Sublist.refl _ | assumption | apply List.Sublist.cons_cons | apply List.Sublist.cons)))
      rw [hlb, List.all_eq_true]
      exact fun j hj => hcb j (by have := List.mem_range.1 hj; omega)
  · have hie : i = m.lm.length := by omega
    subst hie
    (repeat (first | refine zz ?_ | refine zv fun _ => ?_))
    refine au_done1 rfl ?_
    refine fun w hw => ⟨(), ?_, hw.sub (by repeat (first | exact List.Sublist.refl _ | assumption | apply List.Sublist.cons_cons | apply List.Sublist.cons))⟩
    have : rlimM m = true := by
      unfold rlimM
      rw [List.all_eq_true]
      exact fun j hj => hlo j (List.mem_range.1 hj)
    rw [this]
end
end Go.Proofs.YtojfaelafakemaaGreat

/- The walk of the reference's check of a shootdown machine, all of it. No conditions. -/
set_option linter.unusedSimpArgs false
set_option linter.unusedVariables false
namespace Go.Proofs.YtojfaelafakemaaGreat
open Go Go.RowKit
theorem same_en {m : SM} (hf : formM m = true) {t : TE} (hp : 0 ≤ t.p ∧ t.p < m.tb.length) : sameM m t = ((decR (tbW m t.p.toNat)).1.k == 1 && (decR (tbW m t.p.toNat)).1.n == (decR t.w).1.n) := by
  have h := en_tb hf (k := t.p.toNat) (by omega)
  have h2 := en_page m.wd.length (tbW m t.p.toNat)
  rw [h, Bool.true_and] at h2
  unfold sameM
  rw [h2]
attribute [local irreducible] decR enOk pgOk teOk ivOk tlOk checkM lbOk formM limM schk rlbOk rmapN rlimM
attribute [local irreducible] Code.wp wpList bodyPost Exit.then Exit.inBlock Calls wpQuiet Tri TriQ
section
variable (w0 : World) (cs : List Chunk)
set_option maxHeartbeats 4000000 in
theorem ragrees_c {h : SH} {xb : List TB} {xp : List SV} {m : SM} (c : Nat) (t : TE) (hC : RdS (Hp w0 cs) h xb xp m) (hL : SLe m) (hf : formM m = true) (hlm : limM m = true) (hc : c < m.pd.length) (hc4 : c < 4) (ht : Wf t) (hp : 0 ≤ t.p ∧ t.p < m.tb.length) (hl : ∀ x ∈ m.lm, 0 ≤ x.a ∧ x.a < 16) :
    Cal Tryz.prog 46 [hdV h, .int .i64 (c : Int), teV t] (Hp w0 cs) (fun _ : Unit => .bool (coverM m c t)) (fun _ => Hp w0 cs) := by
  have hw := ht.2.2
  have l4 := hL.lm
  have hcov : coverM m c t = (freshM m t || (owesM m c t.p && (sameM m t || waitM m c t))) := rfl
  have htw := hL.tw t.p.toNat
  rw [show (m.tb.getD t.p.toNat default).v = tbW m t.p.toNat from rfl] at htw
  have hsm := same_en hf hp
  have hwt := wait_any hlm c t
  have hat : 0 ≤ idxM (fun x : LB => x.f == (decR t.w).1.n) m.lm → (idxM (fun x : LB => x.f == (decR t.w).1.n) m.lm).toNat < m.lm.length := fun h0 => by
    have ha : (m.lm.any fun x : LB => x.f == (decR t.w).1.n) = true := by rw [← idxM_ge]; exact decide_eq_true h0
    exact (idxM_lt ha).2
  refine cal_of_tri Tryz.func46 rfl Tryz.ntmps46 rfl ?_
  (repeat (first | refine tri_seq ?_ | refine tri_then ?_)); refine tri_region ?_; (repeat (first | refine au_pure ?_ | refine au_pass ?_ | refine au_box (fun _ => ?_) | refine au_alloc (fun _ => ?_) | refine au_store ?_ | refine au_make rfl rfl (fun _ => ?_) | refine au_lit rfl rfl rfl (fun _ => ?_) | refine au_append rfl rfl rfl rfl (fun _ => au_norm ?_) | refine au_storeE rfl rfl rfl rfl ?_)); refine tri_nil ?_; (repeat refine tri_then ?_)
  rename_i g3 g5
  have hC1 := hC.cons (c := hdC g3 h) |>.cons (c := teC g5 t)
  (repeat (first | refine zz ?_ | refine zv fun _ => ?_))
  refine au_pure ?_ (hy := yl_len rfl rfl hC1.wd)
  refine au_callC rfl rfl rfl rfl rfl (rentry_c w0 _ t.w m.wd.length hw.1 hw.2) (fun _ => ?_)
  obtain ⟨e, he⟩ : ∃ e, e = (decR t.w).1 := ⟨_, rfl⟩
  rw [← he] at hsm hwt hat ⊢
  (repeat (first | refine au_pure ?_ | refine au_pass ?_ | refine au_box (fun _ => ?_) | refine au_alloc (fun _ => ?_) | refine au_store ?_ | refine au_make rfl rfl (fun _ => ?_) | refine au_lit rfl rfl rfl (fun _ => ?_) | refine au_append rfl rfl rfl rfl (fun _ => au_norm ?_) | refine au_storeE rfl rfl rfl rfl ?_)); refine tri_nil ?_; (repeat refine tri_then ?_)
  rename_i g7
  have hC2 := hC1.cons (c := enE g7 e)
  obtain ⟨q, hq⟩ : ∃ q, q = (decR (tbW m t.p.toNat)).1 := ⟨_, rfl⟩
  have hfr : freshM m t = (sameM m t && ((q.a || !e.a) && (q.c || !e.c))) := by unfold freshM; rw [← he, ← hq]
  rw [← hq] at hsm
  refine tri_seq ?_
  refine tri_cut1 (fun _ : Nat => True) (fun g => [(1, .int .i64 (c : Int)), (3, .pointer (some ⟨g3, 0, none⟩)), (5, .pointer (some ⟨g5, 0, none⟩)), (7, .pointer (some ⟨g7, 0, none⟩)), (9, .pointer (some ⟨g, 0, none⟩))]) (fun g => Hp w0 (enE g q :: enE g7 e :: teC g5 t :: hdC g3 h :: cs)) ?_ ?_
  · refine ar_held [14] (enE g7 e :: teC g5 t :: hdC g3 h :: cs) rfl ?_
    refine ar_free 0 rfl rfl rfl ?_; refine ar_free 2 rfl rfl rfl ?_; refine ar_free 6 rfl rfl rfl ?_
    refine ar_take 1 rfl rfl rfl ?_; refine ar_take 3 rfl rfl rfl ?_
    refine ar_take 4 rfl rfl rfl ?_ (hy := yl_idx (k := t.p.toNat) rfl rfl hC2.tb (ix_int rfl (by omega)) (by rfl) (by omega))
    refine ar_take 5 rfl rfl rfl ?_ (hy := yl_loadE rfl rfl hC2.tb (by rfl) (by omega) (by rfl))
    rw [show (m.tb.getD t.p.toNat default).v = tbW m t.p.toNat from rfl]
    refine ar_take 7 rfl rfl rfl ?_
    refine ar_take 8 rfl rfl rfl ?_ (hy := yl_len rfl rfl hC2.wd)
    refine ar_op2 9 13 rfl rfl ?_ ?_
    · refine au_callC rfl rfl rfl rfl rfl (rentry_c w0 _ (tbW m t.p.toNat) m.wd.length htw.1 htw.2) (fun _ => ?_)
      rw [← hq]
      refine tri_nil ?_; refine ar_in ?_
      refine ar_free 10 rfl rfl rfl ?_; refine ar_free 11 rfl rfl rfl ?_; refine ar_free 12 rfl rfl rfl ?_
      refine ar_op 13 rfl ?_
      refine au_alloc (fun g => ?_)
      refine tri_nil ?_; refine ar_in ?_
      refine ar_op 14 rfl ?_
      refine au_store ?_
      refine tri_nil ?_; refine ar_ink ?_
      refine ar_free 15 rfl rfl rfl ?_
      refine ar_done ?_
      (repeat (first | refine tri_seq ?_ | refine tri_then ?_))
      exact tri_mt1 g trivial (by repeat (first | exact trivial | refine ⟨rfl, ?_⟩)) (fun _ h => h)
    · refine au_alloc (fun g => ?_)
      refine tri_nil ?_; refine ar_in ?_
      refine ar_op 9 rfl ?_
      refine au_callC rfl rfl rfl rfl rfl (rentry_c w0 _ (tbW m t.p.toNat) m.wd.length htw.1 htw.2) (fun _ => ?_)
      rw [← hq]
      refine tri_nil ?_; refine ar_in ?_
      refine ar_free 10 rfl rfl rfl ?_; refine ar_free 11 rfl rfl rfl ?_; refine ar_free 12 rfl rfl rfl ?_
      refine ar_op 14 rfl ?_
      refine au_store ?_
      refine tri_nil ?_; refine ar_ink ?_
      refine ar_free 15 rfl rfl rfl ?_
      refine ar_done ?_
      (repeat (first | refine tri_seq ?_ | refine tri_then ?_))
      exact tri_mt1 g trivial (by repeat (first | exact trivial | refine ⟨rfl, ?_⟩)) (fun _ h => h)
  intro g9 _
  refine tri_seq ?_
  refine tri_cut1 (fun b => b = sameM m t) (fun b => [(1, .int .i64 (c : Int)), (3, .pointer (some ⟨g3, 0, none⟩)), (5, .pointer (some ⟨g5, 0, none⟩)), (7, .pointer (some ⟨g7, 0, none⟩)), (9, .pointer (some ⟨g9, 0, none⟩)), (11, .bool b)]) (fun _ => Hp w0 (enE g9 q :: enE g7 e :: teC g5 t :: hdC g3 h :: cs)) ?_ ?_
  · (repeat (first | refine zz ?_ | refine zv fun _ => ?_))
    cases h1 : (q.k == 1)
    · (repeat (first | refine zz ?_ | refine zv fun _ => ?_))
      exact tri_mt1 false (by rw [hsm, h1]; rfl) (by repeat (first | exact trivial | refine ⟨rfl, ?_⟩)) (fun _ h => h)
    · (repeat (first | refine zz ?_ | refine zv fun _ => ?_))
      exact tri_mt1 (q.n == e.n) (by rw [hsm, h1]; rfl) (by repeat (first | exact trivial | refine ⟨rfl, ?_⟩)) (fun _ h => h)
  intro b hb
  rw [← hb] at hcov hfr
  refine tri_seq ?_
  refine tri_cut1 (fun _ : Unit => freshM m t = false) (fun _ => [(1, .int .i64 (c : Int)), (3, .pointer (some ⟨g3, 0, none⟩)), (5, .pointer (some ⟨g5, 0, none⟩)), (7, .pointer (some ⟨g7, 0, none⟩)), (11, .bool b)]) (fun _ => Hp w0 (enE g9 q :: enE g7 e :: teC g5 t :: hdC g3 h :: cs)) ?_ ?_
  · obtain ⟨qk, qn, qa, qb, qc, qd⟩ := q
    obtain ⟨ek, en, ea, eb, ec, ed⟩ := e
    simp only at hfr
    cases b
    case false =>
      (repeat (first | refine zz ?_ | refine zv fun _ => ?_))
      exact tri_mt1 () (by rw [hfr]; rfl) (by repeat (first | exact trivial | refine ⟨rfl, ?_⟩)) (fun _ h => h)
    cases qa <;> cases ea
    case false.true =>
      (repeat (first | refine zz ?_ | refine zv fun _ => ?_))
      exact tri_mt1 () (by rw [hfr]; rfl) (by repeat (first | exact trivial | refine ⟨rfl, ?_⟩)) (fun _ h => h)
    all_goals
      cases qc <;> cases ec
      case false.true =>
        (repeat (first | refine zz ?_ | refine zv fun _ => ?_))
        exact tri_mt1 () (by rw [hfr]; rfl) (by repeat (first | exact trivial | refine ⟨rfl, ?_⟩)) (fun _ h => h)
      all_goals
        (repeat (first | refine zz ?_ | refine zv fun _ => ?_))
        refine au_done1 rfl ?_
        exact fun w hw => ⟨(), by rw [hcov, hfr]; rfl, hw.sub (by repeat (first | exact List.Sublist.refl _ | assumption | apply List.Sublist.cons_cons | apply List.Sublist.cons))⟩
  intro _ hnf
  rw [hnf, Bool.false_or] at hcov
  have hC3 := hC2.cons (c := enE g9 q)
  (repeat (first | refine zz ?_ | refine zv fun _ => ?_))
  refine au_callC rfl rfl rfl rfl rfl (rowes_c w0 _ c t.p hC3 hL hc) (fun _ => ?_)
  cases h1 : owesM m c t.p
  · (repeat (first | refine zz ?_ | refine zv fun _ => ?_))
    refine au_done1 rfl ?_
    exact fun w hw => ⟨(), by rw [hcov, h1]; rfl, hw.sub (by repeat (first | exact List.Sublist.refl _ | assumption | apply List.Sublist.cons_cons | apply List.Sublist.cons))⟩
  (repeat (first | refine zz ?_ | refine zv fun _ => ?_))
  refine au_callC rfl rfl rfl rfl rfl (rwaiting_c w0 _ e.n hC3 hL) (fun _ => ?_)
  rw [h1, Bool.true_and] at hcov
  obtain ⟨at', hate⟩ : ∃ a, a = idxM (fun x : LB => x.f == e.n) m.lm := ⟨_, rfl⟩
  rw [← hate] at hat hwt ⊢
  cases b
  · rw [Bool.false_or, hwt] at hcov
    (repeat (first | refine zz ?_ | refine zv fun _ => ?_))
    cases h2 : decide (at' ≥ 0)
    · rw [h2, Bool.false_and] at hcov
      (repeat (first | refine zz ?_ | refine zv fun _ => ?_))
      refine au_done1 rfl ?_
      exact fun w hw => ⟨(), by rw [hcov], hw.sub (by repeat (first | exact List.Sublist.refl _ | assumption | apply List.Sublist.cons_cons | apply List.Sublist.cons))⟩
    · rw [h2, Bool.true_and] at hcov
      have h2 := of_decide_eq_true h2
      have hal := hat h2
      have hxa := hl _ (mem_getD' hal)
      have hbit := bit2_eq (a := (m.lm.getD at'.toNat default).a) (c := c) hxa hc4
      have hfd := fdiv_bd (a := (m.lm.getD at'.toNat default).a) (c := c) hxa hc4
      (repeat (first | refine zz ?_ | refine zv fun _ => ?_))
      refine au_pure ?_ (hy := yl_idx (k := at'.toNat) rfl rfl hC3.lm (ix_int rfl (by omega)) (by rfl) (by omega))
      refine au_pure ?_ (hy := yl_fieldE rfl rfl)
      refine au_pure ?_ (hy := yl_loadE rfl rfl hC3.lm (by rfl) (by omega) (by rfl))
      (repeat (first | refine zz ?_ | refine zv fun _ => ?_))
      refine au_pure ?_ (hy := yl_shr rfl rfl rfl (by omega))
      refine au_pure ?_ (hy := yl_remn rfl rfl rfl (by omega))
      (repeat (first | refine zz ?_ | refine zv fun _ => ?_))
      rw [hbit]
      (repeat (first | refine zz ?_ | refine zv fun _ => ?_))
      refine au_done1 rfl ?_
      exact fun w hw => ⟨(), by rw [hcov], hw.sub (by repeat (first | exact List.Sublist.refl _ | assumption | apply List.Sublist.cons_cons | apply List.Sublist.cons))⟩
  · rw [Bool.true_or] at hcov
    (repeat (first | refine zz ?_ | refine zv fun _ => ?_))
    refine au_done1 rfl ?_
    exact fun w hw => ⟨(), by rw [hcov], hw.sub (by repeat (first | exact List.Sublist.refl _ | assumption | apply List.Sublist.cons_cons | apply List.Sublist.cons))⟩
set_option maxHeartbeats 4000000 in
theorem rscheck_c {h : SH} {xb : List TB} {xp : List SV} {m : SM} (hC : RdS (Hp w0 cs) h xb xp m) (hL : SLe m) :
    Cal Tryz.prog 19 [hdV h] (Hp w0 cs) (fun _ : Unit => .int .i64 (schk m)) (fun _ => Hp w0 cs) := by
  have htl := hC.tll
  have hpdl := hC.pdl
  have l2 := hL.tl
  have l5 := hL.wd
  refine cal_of_tri Tryz.func19 rfl Tryz.ntmps19 rfl ?_
  (repeat (first | refine tri_seq ?_ | refine tri_then ?_)); refine tri_region ?_; (repeat (first | refine au_pure ?_ | refine au_pass ?_ | refine au_box (fun _ => ?_) | refine au_alloc (fun _ => ?_) | refine au_store ?_ | refine au_make rfl rfl (fun _ => ?_) | refine au_lit rfl rfl rfl (fun _ => ?_) | refine au_append rfl rfl rfl rfl (fun _ => au_norm ?_) | refine au_storeE rfl rfl rfl rfl ?_)); refine tri_nil ?_; (repeat refine tri_then ?_)
  rename_i g1
  have hC1 := hC.cons (c := hdC g1 h)
  (repeat (first | refine zz ?_ | refine zv fun _ => ?_))
  refine au_pure ?_ (hy := yl_len rfl rfl hC1.tl)
  (repeat (first | refine au_pure ?_ | refine au_pass ?_ | refine au_box (fun _ => ?_) | refine au_alloc (fun _ => ?_) | refine au_store ?_ | refine au_make rfl rfl (fun _ => ?_) | refine au_lit rfl rfl rfl (fun _ => ?_) | refine au_append rfl rfl rfl rfl (fun _ => au_norm ?_) | refine au_storeE rfl rfl rfl rfl ?_)); refine tri_nil ?_; (repeat refine tri_then ?_)
  refine tri_seq ?_
  refine tri_cut1 (fun _ : Unit => rangeM m = true) (fun _ => [(1, .pointer (some ⟨g1, 0, none⟩)), (3, .int .i64 (xb.length : Int))]) (fun _ => Hp w0 (hdC g1 h :: cs)) ?_ ?_
  · have hno : ¬ (1 ≤ m.tl.length ∧ m.tl.length ≤ 4 ∧ m.pd.length = m.tl.length ∧ 1 ≤ m.wd.length ∧ m.wd.length ≤ 256 ∧ 1 ≤ m.tb.length ∧ m.tb.length ≤ 512) → schk m = 2 := fun x => by
      unfold schk
      rw [if_pos (by unfold rangeM; exact decide_eq_false x)]
    (repeat (first | refine zz ?_ | refine zv fun _ => ?_))
    cases h1 : decide ((xb.length : Int) < 1)
    case true =>
      have h1 := of_decide_eq_true h1
      (repeat (first | refine zz ?_ | refine zv fun _ => ?_))
      refine au_done1 rfl ?_
      exact fun w hw => ⟨(), by rw [hno (by omega)], hw.sub (by repeat (first | exact List.Sublist.refl _ | assumption | apply List.Sublist.cons_cons | apply List.Sublist.cons))⟩
    have h1 := of_decide_eq_false h1
    (repeat (first | refine zz ?_ | refine zv fun _ => ?_))
    cases h1' : decide ((xb.length : Int) > 4)
    case true =>
      have h1' := of_decide_eq_true h1'
      (repeat (first | refine zz ?_ | refine zv fun _ => ?_))
      refine au_done1 rfl ?_
      exact fun w hw => ⟨(), by rw [hno (by omega)], hw.sub (by repeat (first | exact List.Sublist.refl _ | assumption | apply List.Sublist.cons_cons | apply List.Sublist.cons))⟩
    have h1' := of_decide_eq_false h1'
    (repeat (first | refine zz ?_ | refine zv fun _ => ?_))
    refine au_pure ?_ (hy := yl_len rfl rfl hC1.pd)
    (repeat (first | refine zz ?_ | refine zv fun _ => ?_))
    cases h2 : ((xp.length : Int) != (xb.length : Int))
    case true =>
      have h2 := bne_iff_ne.1 h2
      (repeat (first | refine zz ?_ | refine zv fun _ => ?_))
      refine au_done1 rfl ?_
      exact fun w hw => ⟨(), by rw [hno (by omega)], hw.sub (by repeat (first | exact List.Sublist.refl _ | assumption | apply List.Sublist.cons_cons | apply List.Sublist.cons))⟩
    have h2 : (xp.length : Int) = xb.length := by simpa using h2
    (repeat (first | refine zz ?_ | refine zv fun _ => ?_))
    refine au_pure ?_ (hy := yl_len rfl rfl hC1.wd)
    (repeat (first | refine zz ?_ | refine zv fun _ => ?_))
    cases h3 : decide ((m.wd.length : Int) < 1)
    case true =>
      have h3 := of_decide_eq_true h3
      (repeat (first | refine zz ?_ | refine zv fun _ => ?_))
      refine au_done1 rfl ?_
      exact fun w hw => ⟨(), by rw [hno (by omega)], hw.sub (by repeat (first | exact List.Sublist.refl _ | assumption | apply List.Sublist.cons_cons | apply List.Sublist.cons))⟩
    have h3 := of_decide_eq_false h3
    (repeat (first | refine zz ?_ | refine zv fun _ => ?_))
    refine au_pure ?_ (hy := yl_len rfl rfl hC1.wd)
    (repeat (first | refine zz ?_ | refine zv fun _ => ?_))
    cases h3' : decide ((m.wd.length : Int) > 256)
    case true =>
      have h3' := of_decide_eq_true h3'
      (repeat (first | refine zz ?_ | refine zv fun _ => ?_))
      refine au_done1 rfl ?_
      exact fun w hw => ⟨(), by rw [hno (by omega)], hw.sub (by repeat (first | exact List.Sublist.refl _ | assumption | apply List.Sublist.cons_cons | apply List.Sublist.cons))⟩
    have h3' := of_decide_eq_false h3'
    (repeat (first | refine zz ?_ | refine zv fun _ => ?_))
    refine au_pure ?_ (hy := yl_len rfl rfl hC1.tb)
    (repeat (first | refine zz ?_ | refine zv fun _ => ?_))
    cases h4 : decide ((m.tb.length : Int) < 1)
    case true =>
      have h4 := of_decide_eq_true h4
      (repeat (first | refine zz ?_ | refine zv fun _ => ?_))
      refine au_done1 rfl ?_
      exact fun w hw => ⟨(), by rw [hno (by omega)], hw.sub (by repeat (first | exact List.Sublist.refl _ | assumption | apply List.Sublist.cons_cons | apply List.Sublist.cons))⟩
    have h4 := of_decide_eq_false h4
    (repeat (first | refine zz ?_ | refine zv fun _ => ?_))
    refine au_pure ?_ (hy := yl_len rfl rfl hC1.tb)
    (repeat (first | refine zz ?_ | refine zv fun _ => ?_))
    cases h4' : decide ((m.tb.length : Int) > 512)
    case true =>
      have h4' := of_decide_eq_true h4'
      (repeat (first | refine zz ?_ | refine zv fun _ => ?_))
      refine au_done1 rfl ?_
      exact fun w hw => ⟨(), by rw [hno (by omega)], hw.sub (by repeat (first | exact List.Sublist.refl _ | assumption | apply List.Sublist.cons_cons | apply List.Sublist.cons))⟩
    have h4' := of_decide_eq_false h4'
    (repeat (first | refine zz ?_ | refine zv fun _ => ?_))
    exact tri_mt1 () (by unfold rangeM; exact decide_eq_true (by omega)) (by repeat (first | exact trivial | refine ⟨rfl, ?_⟩)) (fun _ h => h)
  intro _ hrg
  have hrg' := hrg
  unfold rangeM at hrg'
  have hrg' := of_decide_eq_true hrg'
  have hs1 : schk m = if formM m = false then 3 else if limM m = false then 11 else if coversM m = false then 11 else 0 := by unfold schk; rw [if_neg (by rw [hrg]; simp)]
  (repeat (first | refine zz ?_ | refine zv fun _ => ?_))
  refine au_callC rfl rfl rfl rfl rfl (rformed_c w0 _ hC1 hL) (fun _ => ?_)
  (repeat (first | refine zz ?_ | refine zv fun _ => ?_))
  cases hfm : formM m
  case false =>
    (repeat (first | refine zz ?_ | refine zv fun _ => ?_))
    refine au_done1 rfl ?_
    exact fun w hw => ⟨(), by rw [hs1, if_pos hfm], hw.sub (by repeat (first | exact List.Sublist.refl _ | assumption | apply List.Sublist.cons_cons | apply List.Sublist.cons))⟩
  rw [if_neg (by rw [hfm]; simp)] at hs1
  (repeat (first | refine zz ?_ | refine zv fun _ => ?_))
  refine tri_block ?_
  refine tri_loop1 (fun (f : Nat) => f ≤ m.wd.length ∧ ∀ j : Nat, j < f → rmapN m (j : Int) m.tb.length ≤ 1) (fun f => [(1, .pointer (some ⟨g1, 0, none⟩)), (3, .int .i64 (xb.length : Int)), (4, .int .i64 (f : Int))]) (fun _ => Hp w0 (hdC g1 h :: cs)) (fun f => m.wd.length - f)
    0 ⟨by omega, fun j hj => by omega⟩ (by repeat (first | exact trivial | refine ⟨rfl, ?_⟩)) (fun w h => h) ?_
  rintro f ⟨hfl, hok⟩
  (repeat (first | refine zz ?_ | refine zv fun _ => ?_))
  refine au_pure ?_ (hy := yl_len rfl rfl hC1.wd)
  (repeat (first | refine zz ?_ | refine zv fun _ => ?_))
  ((first | refine tri_cond (by rfl) (fun hc => ?_) (fun hc => ?_) | refine tri_gsplit (by rfl) (by rfl) (by (fail_if_success exact (rfl : _ = some (Value.bool true))); (fail_if_success exact (rfl : _ = some (Value.bool false))); rfl) (fun hc => ?_) (fun hc => ?_)) <;> (try simp only [decide_eq_true_eq, decide_eq_false_iff_not, beq_iff_eq, bne_iff_ne, ne_eq, Bool.not_eq_true', Bool.not_eq_false', beq_eq_false_iff_ne, bne_eq_false_iff_eq, Int.not_lt, Int.not_le, gt_iff_lt, ge_iff_le, Bool.and_eq_true, Bool.or_eq_true, Bool.and_eq_false_iff, Bool.or_eq_false_iff, Decidable.not_not, not_true_eq_false, not_false_eq_true, and_true, true_and, or_false, false_or, or_true, true_or, and_false, false_and, eq_self, Bool.true_eq_false, Bool.false_eq_true] at hc) <;> (try (exfalso; omega)))
  · (repeat (first | refine zz ?_ | refine zv fun _ => ?_))
    refine tri_block ?_
    (repeat (first | refine zz ?_ | refine zv fun _ => ?_))
    refine au_callC rfl rfl rfl rfl rfl (rmapped_c w0 _ (f : Int) hC1 hL) (fun _ => ?_)
    (repeat (first | refine zz ?_ | refine zv fun _ => ?_))
    cases h5 : decide ((rmapN m (f : Int) m.tb.length : Int) > 1)
    · have h5 := of_decide_eq_false h5
      (repeat (first | refine zz ?_ | refine zv fun _ => ?_))
      exact tri_nx1 (f + 1) (by omega) ⟨by omega, all_next (q := fun j : Nat => rmapN m (j : Int) m.tb.length ≤ 1) hok (by omega)⟩ (by repeat (first | exact trivial | refine ⟨rfl, ?_⟩)) (fun w h => h.sub (by repeat (first | exact List.Sublist.refl _ | assumption | apply List.Sublist.cons_cons | apply List.Sublist.cons)))
    · have h5 := of_decide_eq_true h5
      (repeat (first | refine zz ?_ | refine zv fun _ => ?_))
      refine au_done1 rfl ?_
      refine fun w hw => ⟨(), ?_, hw.sub (by repeat (first | exact List.Sublist.refl _ | assumption | apply List.Sublist.cons_cons | apply List.Sublist.cons))⟩
      have hlf : limM m = false := by
        cases hl : limM m
        · rfl
        · rw [rlim_eq hfm, Bool.and_eq_true, List.all_eq_true] at hl
          have := mapN_one hfm (fun p hp => by simpa using hl.1 p (List.mem_range.2 hp)) (f := (f : Int)) (by omega) m.tb.length (Nat.le_refl _)
          omega
      rw [hs1, if_pos hlf]
  have hfe : f = m.wd.length := by omega
  subst hfe
  have hnd : ∀ p, p < m.tb.length → dupT m p = false := fun p hp => by
    cases hd : dupT m p
    · rfl
    · obtain ⟨a1, a2, a3⟩ := mapN_dup hfm hp hd
      have := hok (frM m p).toNat (by omega)
      rw [show (((frM m p).toNat : Nat) : Int) = frM m p by omega] at this
      omega
  have hlr : limM m = rlimM m := by
    rw [rlim_eq hfm]
    have : ((List.range m.tb.length).all fun p => !dupT m p) = true := by
      rw [List.all_eq_true]
      exact fun p hp => by rw [hnd p (List.mem_range.1 hp)]; rfl
    rw [this, Bool.true_and]
  (repeat (first | refine zz ?_ | refine zv fun _ => ?_))
  refine au_callC rfl rfl rfl rfl rfl (rlimbo_c w0 _ hC1 hL (by omega) (by omega)) (fun _ => ?_)
  rw [← hlr]
  (repeat (first | refine zz ?_ | refine zv fun _ => ?_))
  cases hlm : limM m
  case false =>
    (repeat (first | refine zz ?_ | refine zv fun _ => ?_))
    refine au_done1 rfl ?_
    exact fun w hw => ⟨(), by rw [hs1, if_pos hlm], hw.sub (by repeat (first | exact List.Sublist.refl _ | assumption | apply List.Sublist.cons_cons | apply List.Sublist.cons))⟩
  rw [if_neg (by rw [hlm]; simp)] at hs1
  have hlb := lim_bd hlm
  have hpw := pow_le (c := m.tl.length) (by omega)
  (repeat (first | refine zz ?_ | refine zv fun _ => ?_))
  refine tri_block ?_
  refine tri_loop1 (fun (c : Nat) => c ≤ xb.length ∧ ∀ j, j < c → ((m.tl.getD j default).l.all (coverM m j)) = true) (fun c => [(1, .pointer (some ⟨g1, 0, none⟩)), (3, .int .i64 (xb.length : Int)), (5, .int .i64 (c : Int))]) (fun _ => Hp w0 (hdC g1 h :: cs)) (fun c => xb.length - c)
    0 ⟨by omega, fun j hj => by omega⟩ (by repeat (first | exact trivial | refine ⟨rfl, ?_⟩)) (fun w h => h) ?_
  rintro c ⟨hcl, hok2⟩
  (repeat (first | refine zz ?_ | refine zv fun _ => ?_))
  ((first | refine tri_cond (by rfl) (fun hc => ?_) (fun hc => ?_) | refine tri_gsplit (by rfl) (by rfl) (by (fail_if_success exact (rfl : _ = some (Value.bool true))); (fail_if_success exact (rfl : _ = some (Value.bool false))); rfl) (fun hc => ?_) (fun hc => ?_)) <;> (try simp only [decide_eq_true_eq, decide_eq_false_iff_not, beq_iff_eq, bne_iff_ne, ne_eq, Bool.not_eq_true', Bool.not_eq_false', beq_eq_false_iff_ne, bne_eq_false_iff_eq, Int.not_lt, Int.not_le, gt_iff_lt, ge_iff_le, Bool.and_eq_true, Bool.or_eq_true, Bool.and_eq_false_iff, Bool.or_eq_false_iff, Decidable.not_not, not_true_eq_false, not_false_eq_true, and_true, true_and, or_false, false_or, or_true, true_or, and_false, false_and, eq_self, Bool.true_eq_false, Bool.false_eq_true] at hc) <;> (try (exfalso; omega)))
  · (repeat (first | refine zz ?_ | refine zv fun _ => ?_))
    refine tri_block ?_
    have hE := hC1.te c
    have hle := hL.te c
    have hew := hL.ew c
    have hfl' := (form_tl' hfm (c := c) (by omega)).2
    have hbad : (m.tl.getD c default).l.all (coverM m c) = false → coversM m = false := fun e => by
      unfold coversM
      rw [List.all_eq_false]
      exact ⟨c, List.mem_range.2 (by omega), by rw [e]; simp⟩
    have hnx := fun e => all_next (k := c) (q := fun j => ((m.tl.getD j default).l.all (coverM m j)) = true) hok2 e
    obtain ⟨b, hb⟩ : ∃ b, b = m.tl.getD c default := ⟨_, rfl⟩
    rw [← hb] at hE hle hew hfl' hnx hbad
    (repeat (first | refine zz ?_ | refine zv fun _ => ?_))
    refine tri_block ?_
    refine tri_loop1 (fun (k : Nat) => k ≤ b.l.length ∧ ∀ j, j < k → coverM m c (b.l.getD j default) = true) (fun k => [(1, .pointer (some ⟨g1, 0, none⟩)), (3, .int .i64 (xb.length : Int)), (5, .int .i64 (c : Int)), (6, .int .i64 (k : Int))]) (fun _ => Hp w0 (hdC g1 h :: cs)) (fun k => b.l.length - k)
      0 ⟨by omega, fun j hj => by omega⟩ (by repeat (first | exact trivial | refine ⟨rfl, ?_⟩)) (fun w h => h) ?_
    rintro k ⟨hk, hok3⟩
    (repeat (first | refine zz ?_ | refine zv fun _ => ?_))
    refine au_pure ?_ (hy := yl_idx (k := c) rfl rfl hC1.tl (ix_nat rfl) (by rfl) (by omega))
    refine au_pure ?_ (hy := yl_fieldE rfl rfl)
    refine au_pure ?_ (hy := yl_loadE rfl rfl hC1.tl (by rfl) (by omega) (by rfl))
    refine au_pure ?_ (hy := yl_len rfl rfl hE)
    (repeat (first | refine zz ?_ | refine zv fun _ => ?_))
    ((first | refine tri_cond (by rfl) (fun hc => ?_) (fun hc => ?_) | refine tri_gsplit (by rfl) (by rfl) (by (fail_if_success exact (rfl : _ = some (Value.bool true))); (fail_if_success exact (rfl : _ = some (Value.bool false))); rfl) (fun hc => ?_) (fun hc => ?_)) <;> (try simp only [decide_eq_true_eq, decide_eq_false_iff_not, beq_iff_eq, bne_iff_ne, ne_eq, Bool.not_eq_true', Bool.not_eq_false', beq_eq_false_iff_ne, bne_eq_false_iff_eq, Int.not_lt, Int.not_le, gt_iff_lt, ge_iff_le, Bool.and_eq_true, Bool.or_eq_true, Bool.and_eq_false_iff, Bool.or_eq_false_iff, Decidable.not_not, not_true_eq_false, not_false_eq_true, and_true, true_and, or_false, false_or, or_true, true_or, and_false, false_and, eq_self, Bool.true_eq_false, Bool.false_eq_true] at hc) <;> (try (exfalso; omega)))
    · (repeat (first | refine zz ?_ | refine zv fun _ => ?_))
      refine tri_block ?_
      have hkl : k < b.l.length := by omega
      have htw := hew _ (mem_getD' hkl)
      have htp := hfl' _ (mem_getD' hkl)
      have hno := fun e => hbad (all_no (p := coverM m c) hkl e)
      have hnx3 := fun e => all_next (k := k) (q := fun j => coverM m c (b.l.getD j default) = true) hok3 e
      obtain ⟨t, ht⟩ : ∃ t, t = b.l.getD k default := ⟨_, rfl⟩
      rw [← ht] at htw htp hno hnx3
      (repeat (first | refine tri_seq ?_ | refine tri_then ?_))
      refine au_draw rfl ?_
      (repeat (first | refine z1 ?_ | refine au_qpass rfl rfl ?_ | refine triq_nil ?_))
      refine au_qpure rfl rfl ?_ (hy := yl_idx (k := c) rfl rfl hC1.tl (ix_nat rfl) (by rfl) (by omega))
      refine au_qpure rfl rfl ?_ (hy := yl_fieldE rfl rfl)
      refine au_qpure rfl rfl ?_ (hy := yl_loadE rfl rfl hC1.tl (by rfl) (by omega) (by rfl))
      (repeat (first | refine z1 ?_ | refine au_qpass rfl rfl ?_ | refine triq_nil ?_))
      refine au_qpure rfl rfl ?_ (hy := yl_idx (k := k) rfl rfl hE (ix_nat rfl) (by rfl) (by omega))
      refine au_qpure rfl rfl ?_ (hy := yl_loadEN rfl rfl hE (by rfl) (by omega) (by repeat (first | exact nf0 rfl | apply nfS rfl | exact nfR)) (by rfl))
      rw [← ht]
      refine triq_call rfl rfl (by first | exact wan_plain rfl | exact wan_yes rfl rfl rfl) (cl_of rfl rfl rfl (calr (ragrees_c w0 _ c t hC1 hL hfm hlm (by omega) (by omega) htw htp.2.2 (fun x hx => by have := (hlb x hx).2; omega)))) ?_
      (repeat (first | refine z1 ?_ | refine au_qpass rfl rfl ?_ | refine triq_nil ?_))
      cases hcv : coverM m c t
      · (repeat (first | refine zz ?_ | refine zv fun _ => ?_))
        refine au_done1 rfl ?_
        exact fun w hw => ⟨(), by rw [hs1, if_pos (hno hcv)], hw.sub (by repeat (first | exact List.Sublist.refl _ | assumption | apply List.Sublist.cons_cons | apply List.Sublist.cons))⟩
      · (repeat (first | refine zz ?_ | refine zv fun _ => ?_))
        exact tri_nx1 (k + 1) (by omega) ⟨by omega, hnx3 hcv⟩ (by repeat (first | exact trivial | refine ⟨rfl, ?_⟩)) (fun w h => h.sub (by repeat (first | exact List.Sublist.refl _ | assumption | apply List.Sublist.cons_cons | apply List.Sublist.cons)))
    · have hkb : k = b.l.length := by omega
      subst hkb
      (repeat (first | refine zz ?_ | refine zv fun _ => ?_))
      exact tri_nx1 (c + 1) (by omega) ⟨by omega, hnx (all_get.2 hok3)⟩ (by repeat (first | exact trivial | refine ⟨rfl, ?_⟩)) (fun w h => h.sub (by repeat (first | exact List.Sublist.refl _ | assumption | apply List.Sublist.cons_cons | apply List.Sublist.cons)))
  · have hce : c = m.tl.length := by omega
    have hcv : coversM m = true := by
      unfold coversM
      rw [List.all_eq_true]
      exact fun j hj => hok2 j (by have := List.mem_range.1 hj; omega)
    (repeat (first | refine zz ?_ | refine zv fun _ => ?_))
    refine au_done1 rfl ?_
    exact fun w hw => ⟨(), by rw [hs1, if_neg (by rw [hcv]; simp)], hw.sub (by repeat (first | exact List.Sublist.refl _ | assumption | apply List.Sublist.cons_cons | apply List.Sublist.cons))⟩
end
end Go.Proofs.YtojfaelafakemaaGreat
