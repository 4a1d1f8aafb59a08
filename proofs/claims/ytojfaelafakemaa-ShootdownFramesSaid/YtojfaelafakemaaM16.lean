/- Texts joined: ShCheck, SeqR2, ShRRead, TlbRef, ShRForms, ShRPlain, ShRCheck, ShRCheck2. Each part's own remark says what it proves. -/
import Derived.Test.YtojfaelafakemaaM15
import Derived.Test.YtojfaelafakemaaM13
import Derived.Test.YtojfaelafakemaaM12
/- The walk of the check of a shootdown machine. No conditions. -/
set_option linter.unusedSimpArgs false
set_option linter.unusedVariables false
namespace Go.Proofs.Ytojfaelafakemaa
open Go Go.RowKit
section
variable {m : SM}
theorem form_tl' (h : formM m = true) {c : Nat} (hc : c < m.tl.length) : Ok (m.tl.getD c default).z (m.tl.getD c default).l ∧ ∀ t ∈ (m.tl.getD c default).l, pgOk m.wd.length t.w = true ∧ t.s = 0 ∧ 0 ≤ t.p ∧ t.p < m.tb.length := by
  unfold formM at h
  simp only [Bool.and_eq_true] at h
  have h1 := all_get.1 h.2.1 c hc
  unfold tlOk at h1
  rw [Bool.and_eq_true, beq_iff_eq] at h1
  have hO := check_ok.1 h1.1
  refine ⟨hO, fun t ht => ?_⟩
  have h2 := List.all_eq_true.1 h1.2 t ht
  unfold teOk at h2
  simp only [Bool.and_eq_true, beq_iff_eq, decide_eq_true_eq] at h2
  have := (hO.v t ht).p
  exact ⟨h2.1, h2.2.1, this.1, h2.2.2⟩
theorem lim_bd (h : limM m = true) : ∀ x ∈ m.lm, (0 ≤ x.f ∧ x.f < m.wd.length) ∧ 1 ≤ x.a ∧ x.a < 2 ^ m.tl.length := by
  intro x hx
  obtain ⟨i, hi, rfl⟩ := List.getElem_of_mem hx
  unfold limM at h
  rw [Bool.and_eq_true] at h
  have h1 := List.all_eq_true.1 h.2 i (List.mem_range.2 hi)
  rw [lbOk_eq, getD_get hi] at h1
  simp only [Bool.and_eq_true, decide_eq_true_eq] at h1
  exact ⟨h1.1, h1.2.2.1⟩
end
attribute [local irreducible] decR enOk pgOk teOk ivOk tlOk checkM lbOk formM limM
attribute [local irreducible] Code.wp wpList bodyPost Exit.then Exit.inBlock Calls wpQuiet Tri TriQ
section
variable (w0 : World) (cs : List Chunk)
theorem coveredf_c {g g' : Nat} {e : Ent} {c : Nat} {l : List LB} (hi : Has cs (enE g e)) (hj : Has cs (blkC g' 3 [.int .i64 (c : Int)])) (hc : c < 4) (hl : ∀ x ∈ l, 0 ≤ x.a ∧ x.a < 16) :
    TstLB w0 cs 50 [.pointer (some ⟨g, 0, none⟩), .pointer (some ⟨g', 0, none⟩)] (fun x => x.f == e.n && bitA x.a c) l := fun ds x hx => by
  have hi' : Has (ds ++ cs) (enE g e) := has_app hi
  have hj' : Has (ds ++ cs) (blkC g' 3 [.int .i64 (c : Int)]) := has_app hj
  have hb := hl x hx
  have hbit := bit_eq (a := x.a) (c := c) hb hc
  show Cal _ _ [.agg #[.int .i64 x.f, .int .i64 x.a], .pointer (some ⟨g, 0, none⟩), .pointer (some ⟨g', 0, none⟩)] _ _ _
  refine cal_of_tri Try.func50 rfl Try.ntmps50 rfl ?_
  (repeat (first | refine au_pure ?_ | refine au_pass ?_ | refine au_box (fun _ => ?_) | refine au_alloc (fun _ => ?_) | refine au_store ?_ | refine au_make rfl rfl (fun _ => ?_) | refine au_lit rfl rfl rfl (fun _ => ?_) | refine au_append rfl rfl rfl rfl (fun _ => au_norm ?_) | refine au_storeE rfl rfl rfl rfl ?_ | refine tri_seq ?_ | refine tri_then ?_ | refine tri_region ?_ | refine tri_nil ?_ | refine tri_skip ?_ | refine tri_ret ?_ | refine tri_exit ?_ | refine tri_thenr ?_ | refine tri_thene ?_ | refine tri_blkn ?_ | refine tri_blkr ?_ | refine tri_blke ?_ | refine tri_blko (by rfl) ?_ | refine tri_if_t (by rfl) ?_ | refine tri_if_f (by rfl) ?_ | fail))
  cases h1 : (x.f == e.n)
  · (repeat (first | refine au_pure ?_ | refine au_pass ?_ | refine au_box (fun _ => ?_) | refine au_alloc (fun _ => ?_) | refine au_store ?_ | refine au_make rfl rfl (fun _ => ?_) | refine au_lit rfl rfl rfl (fun _ => ?_) | refine au_append rfl rfl rfl rfl (fun _ => au_norm ?_) | refine au_storeE rfl rfl rfl rfl ?_ | refine tri_seq ?_ | refine tri_then ?_ | refine tri_region ?_ | refine tri_nil ?_ | refine tri_skip ?_ | refine tri_ret ?_ | refine tri_exit ?_ | refine tri_thenr ?_ | refine tri_thene ?_ | refine tri_blkn ?_ | refine tri_blkr ?_ | refine tri_blke ?_ | refine tri_blko (by rfl) ?_ | refine tri_if_t (by rfl) ?_ | refine tri_if_f (by rfl) ?_ | fail))
    refine au_done1 rfl ?_
    intro w hw; refine ⟨(), ?_, hw.sub (by repeat (first | exact List.Sublist.refl _ | assumption | apply List.Sublist.cons_cons | apply List.Sublist.cons))⟩
    show Ending.returned (.bool false) = .returned (.bool (x.f == e.n && bitA x.a c))
    rw [h1]; rfl
  · (repeat (first | refine zz ?_ | refine zv fun _ => ?_))
    refine au_pure ?_ (hy := yl_shr rfl rfl rfl (by omega))
    refine au_pure ?_ (hy := yl_and rfl rfl rfl)
    (repeat (first | refine zz ?_ | refine zv fun _ => ?_))
    rw [hbit]
    (repeat (first | refine au_pure ?_ | refine au_pass ?_ | refine au_box (fun _ => ?_) | refine au_alloc (fun _ => ?_) | refine au_store ?_ | refine au_make rfl rfl (fun _ => ?_) | refine au_lit rfl rfl rfl (fun _ => ?_) | refine au_append rfl rfl rfl rfl (fun _ => au_norm ?_) | refine au_storeE rfl rfl rfl rfl ?_ | refine tri_seq ?_ | refine tri_then ?_ | refine tri_region ?_ | refine tri_nil ?_ | refine tri_skip ?_ | refine tri_ret ?_ | refine tri_exit ?_ | refine tri_thenr ?_ | refine tri_thene ?_ | refine tri_blkn ?_ | refine tri_blkr ?_ | refine tri_blke ?_ | refine tri_blko (by rfl) ?_ | refine tri_if_t (by rfl) ?_ | refine tri_if_f (by rfl) ?_ | fail))
    refine au_done1 rfl ?_
    intro w hw; refine ⟨(), ?_, hw.sub (by repeat (first | exact List.Sublist.refl _ | assumption | apply List.Sublist.cons_cons | apply List.Sublist.cons))⟩
    show Ending.returned (.bool (bitA x.a c)) = .returned (.bool (x.f == e.n && bitA x.a c))
    rw [h1]; rfl
set_option maxHeartbeats 4000000 in
theorem covered_c {h : SH} {xb : List TB} {xp : List SV} {m : SM} (c : Nat) (t : TE) (hC : RdS (Hp w0 cs) h xb xp m) (hL : SLe m) (hc : c < m.pd.length) (hc4 : c < 4) (ht : Wf t) (hp : 0 ≤ t.p ∧ t.p < m.tb.length) (hl : ∀ x ∈ m.lm, 0 ≤ x.a ∧ x.a < 16) :
    Cal Try.prog 27 [hdV h, .int .i64 (c : Int), teV t] (Hp w0 cs) (fun _ : Unit => .bool (coverM m c t)) (fun _ => Hp w0 cs) := by
  have hw := ht.2.2
  have hcov : coverM m c t = (freshM m t || (owesM m c t.p && (sameM m t || waitM m c t))) := rfl
  refine cal_of_tri Try.func27 rfl Try.ntmps27 rfl ?_
  (repeat (first | refine tri_seq ?_ | refine tri_then ?_)); refine tri_region ?_; (repeat (first | refine au_pure ?_ | refine au_pass ?_ | refine au_box (fun _ => ?_) | refine au_alloc (fun _ => ?_) | refine au_store ?_ | refine au_make rfl rfl (fun _ => ?_) | refine au_lit rfl rfl rfl (fun _ => ?_) | refine au_append rfl rfl rfl rfl (fun _ => au_norm ?_) | refine au_storeE rfl rfl rfl rfl ?_)); refine tri_nil ?_; (repeat refine tri_then ?_)
  rename_i g3 g4 g5
  have hC1 := hC.cons (c := hdC g3 h) |>.cons (c := blkC g4 3 [.int .i64 (c : Int)]) |>.cons (c := teC g5 t)
  (repeat (first | refine zz ?_ | refine zv fun _ => ?_))
  refine au_callC rfl rfl rfl rfl rfl (page_c w0 _ t.w hw.1 hw.2 hC1.wd hL.wd) (fun _ => ?_)
  obtain ⟨e, he⟩ : ∃ e, e = (decR t.w).1 := ⟨_, rfl⟩
  rw [← he]
  (repeat (first | refine zz ?_ | refine zv fun _ => ?_))
  rename_i g7
  have hC2 := hC1.cons (c := enE g7 e)
  refine au_callC rfl rfl rfl rfl rfl (mapped_c w0 _ t.p hC2 hL hp) (fun _ => ?_)
  obtain ⟨q, hq⟩ : ∃ q, q = (decR (tbW m t.p.toNat)).1 := ⟨_, rfl⟩
  have hsm : sameM m t = (pgOk m.wd.length (tbW m t.p.toNat) && q.n == e.n) := by unfold sameM; rw [← he, ← hq]
  have hfr : freshM m t = (sameM m t && ((q.a || !e.a) && (q.c || !e.c))) := by unfold freshM; rw [← he, ← hq]
  have hwt : waitM m c t = m.lm.any fun x => x.f == e.n && bitA x.a c := by unfold waitM; rw [← he]
  rw [← hq]
  (repeat (first | refine au_pure ?_ | refine au_pass ?_ | refine au_box (fun _ => ?_) | refine au_alloc (fun _ => ?_) | refine au_store ?_ | refine au_make rfl rfl (fun _ => ?_) | refine au_lit rfl rfl rfl (fun _ => ?_) | refine au_append rfl rfl rfl rfl (fun _ => au_norm ?_) | refine au_storeE rfl rfl rfl rfl ?_)); refine tri_nil ?_; (repeat refine tri_then ?_)
  rename_i g9
  refine tri_seq ?_
  refine tri_cut1 (fun b => b = sameM m t) (fun b => [(3, .pointer (some ⟨g3, 0, none⟩)), (4, .pointer (some ⟨g4, 0, none⟩)), (5, .pointer (some ⟨g5, 0, none⟩)), (7, .pointer (some ⟨g7, 0, none⟩)), (9, .pointer (some ⟨g9, 0, none⟩)), (11, .bool b)]) (fun _ => Hp w0 (enE g9 q :: enE g7 e :: teC g5 t :: blkC g4 3 [.int .i64 (c : Int)] :: hdC g3 h :: cs)) ?_ ?_
  · cases h1 : pgOk m.wd.length (tbW m t.p.toNat)
    · (repeat (first | refine zz ?_ | refine zv fun _ => ?_))
      exact tri_mt1 false (by rw [hsm, h1]; rfl) (by repeat (first | exact trivial | refine ⟨rfl, ?_⟩)) (fun _ h => h)
    · (repeat (first | refine zz ?_ | refine zv fun _ => ?_))
      exact tri_mt1 (q.n == e.n) (by rw [hsm, h1]; rfl) (by repeat (first | exact trivial | refine ⟨rfl, ?_⟩)) (fun _ h => h)
  intro b hb
  rw [← hb] at hcov hfr
  refine tri_seq ?_
  refine tri_cut1 (fun _ : Unit => freshM m t = false) (fun _ => [(3, .pointer (some ⟨g3, 0, none⟩)), (4, .pointer (some ⟨g4, 0, none⟩)), (5, .pointer (some ⟨g5, 0, none⟩)), (7, .pointer (some ⟨g7, 0, none⟩)), (11, .bool b)]) (fun _ => Hp w0 (enE g9 q :: enE g7 e :: teC g5 t :: blkC g4 3 [.int .i64 (c : Int)] :: hdC g3 h :: cs)) ?_ ?_
  · obtain ⟨qk, qn, qa, qb, qc, qd⟩ := q
    obtain ⟨ek, en, ea, eb, ec, ed⟩ := e
    simp only at hfr
    cases b
    case false =>
      (repeat (first | refine zz ?_ | refine zv fun _ => ?_))
      exact tri_mt1 () (by rw [hfr]; rfl) (by repeat (first | exact trivial | refine ⟨rfl, ?_⟩)) (fun _ h => h)
    cases qa <;> cases ea
    case false.true =>
      (repeat (first | refine zz ?_ | refine zv fun _ => ?_))
      exact tri_mt1 () (by rw [hfr]; rfl) (by repeat (first | exact trivial | refine ⟨rfl, ?_⟩)) (fun _ h => h)
    all_goals
      cases qc <;> cases ec
      case false.true =>
        (repeat (first | refine zz ?_ | refine zv fun _ => ?_))
        exact tri_mt1 () (by rw [hfr]; rfl) (by repeat (first | exact trivial | refine ⟨rfl, ?_⟩)) (fun _ h => h)
      all_goals
        (repeat (first | refine zz ?_ | refine zv fun _ => ?_))
        refine au_done1 rfl ?_
        exact fun w hw => ⟨(), by rw [hcov, hfr]; rfl, hw.sub (by repeat (first | exact List.Sublist.refl _ | assumption | apply List.Sublist.cons_cons | apply List.Sublist.cons))⟩
  intro _ hnf
  rw [hnf, Bool.false_or] at hcov
  have hC3 := hC2.cons (c := enE g9 q)
  (repeat (first | refine zz ?_ | refine zv fun _ => ?_))
  refine au_pure ?_ (hy := yl_func rfl rfl)
  refine au_callC rfl rfl rfl rfl rfl (containsFuncLB_c w0 _ hC3.lm hL.lm (coveredf_c w0 _ (e := e) (c := c) (by first | (apply has_at; (repeat (first | exact at0 | apply atS)); done) | (repeat (first | assumption | apply has_cons))) (by first | (apply has_at; (repeat (first | exact at0 | apply atS)); done) | (repeat (first | assumption | apply has_cons))) hc4 hl)) (fun _ => ?_)
  rw [← hwt]
  (repeat (first | refine zz ?_ | refine zv fun _ => ?_))
  refine au_callC rfl rfl rfl rfl rfl (owes_c w0 _ c t.p hC3 hL hc) (fun _ => ?_)
  cases h1 : owesM m c t.p
  · (repeat (first | refine zz ?_ | refine zv fun _ => ?_))
    refine au_done1 rfl ?_
    exact fun w hw => ⟨(), by rw [hcov, h1]; rfl, hw.sub (by repeat (first | exact List.Sublist.refl _ | assumption | apply List.Sublist.cons_cons | apply List.Sublist.cons))⟩
  cases b
  · (repeat (first | refine zz ?_ | refine zv fun _ => ?_))
    refine au_done1 rfl ?_
    exact fun w hw => ⟨(), by rw [hcov, h1]; rfl, hw.sub (by repeat (first | exact List.Sublist.refl _ | assumption | apply List.Sublist.cons_cons | apply List.Sublist.cons))⟩
  · (repeat (first | refine zz ?_ | refine zv fun _ => ?_))
    refine au_done1 rfl ?_
    exact fun w hw => ⟨(), by rw [hcov, h1]; rfl, hw.sub (by repeat (first | exact List.Sublist.refl _ | assumption | apply List.Sublist.cons_cons | apply List.Sublist.cons))⟩
theorem inf_c (n k : Int) : Cal Try.prog 24 [.int .i64 n, .int .i64 k] (Hp w0 cs) (fun _ : Unit => .bool (decide (1 ≤ n ∧ n ≤ k))) (fun _ => Hp w0 cs) := by
  refine cal_of_tri Try.func24 rfl Try.ntmps24 rfl ?_
  (repeat (first | refine zz ?_ | refine zv fun _ => ?_))
  cases h1 : decide (n ≥ 1)
  · have h1 := of_decide_eq_false h1
    (repeat (first | refine zz ?_ | refine zv fun _ => ?_))
    refine au_done1 rfl ?_
    intro w hw; refine ⟨(), ?_, hw.sub (by repeat (first | exact List.Sublist.refl _ | assumption | apply List.Sublist.cons_cons | apply List.Sublist.cons))⟩
    rw [decide_eq_false (by omega)]
  · have h1 := of_decide_eq_true h1
    (repeat (first | refine zz ?_ | refine zv fun _ => ?_))
    refine au_done1 rfl ?_
    intro w hw; refine ⟨(), ?_, hw.sub (by repeat (first | exact List.Sublist.refl _ | assumption | apply List.Sublist.cons_cons | apply List.Sublist.cons))⟩
    rw [show decide (n ≤ k) = decide (1 ≤ n ∧ n ≤ k) by rw [decide_eq_decide]; omega]
set_option maxHeartbeats 4000000 in
theorem scheck_c {h : SH} {xb : List TB} {xp : List SV} {m : SM} (hC : RdS (Hp w0 cs) h xb xp m) (hL : SLe m) :
    Cal Try.prog 11 [hdV h] (Hp w0 cs) (fun _ : Unit => .int .i64 (schk m)) (fun _ => Hp w0 cs) := by
  have htl := hC.tll
  have hpdl := hC.pdl
  have l2 := hL.tl
  refine cal_of_tri Try.func11 rfl Try.ntmps11 rfl ?_
  (repeat (first | refine tri_seq ?_ | refine tri_then ?_)); refine tri_region ?_; (repeat (first | refine au_pure ?_ | refine au_pass ?_ | refine au_box (fun _ => ?_) | refine au_alloc (fun _ => ?_) | refine au_store ?_ | refine au_make rfl rfl (fun _ => ?_) | refine au_lit rfl rfl rfl (fun _ => ?_) | refine au_append rfl rfl rfl rfl (fun _ => au_norm ?_) | refine au_storeE rfl rfl rfl rfl ?_)); refine tri_nil ?_; (repeat refine tri_then ?_)
  rename_i g1
  have hC1 := hC.cons (c := hdC g1 h)
  (repeat (first | refine tri_seq ?_ | refine tri_then ?_))
  (repeat (first | refine tri_seq ?_ | refine tri_then ?_)); refine tri_region ?_; (repeat (first | refine au_pure ?_ | refine au_pass ?_ | refine au_box (fun _ => ?_) | refine au_alloc (fun _ => ?_) | refine au_store ?_ | refine au_make rfl rfl (fun _ => ?_) | refine au_lit rfl rfl rfl (fun _ => ?_) | refine au_append rfl rfl rfl rfl (fun _ => au_norm ?_) | refine au_storeE rfl rfl rfl rfl ?_)); refine tri_nil ?_; (repeat refine tri_then ?_)
  refine tri_seq ?_
  refine tri_cut1 (fun _ : Unit => rangeM m = true) (fun _ => [(1, .pointer (some ⟨g1, 0, none⟩))]) (fun _ => Hp w0 (hdC g1 h :: cs)) ?_ ?_
  · have hno : ¬ (1 ≤ m.tl.length ∧ m.tl.length ≤ 4 ∧ m.pd.length = m.tl.length ∧ 1 ≤ m.wd.length ∧ m.wd.length ≤ 256 ∧ 1 ≤ m.tb.length ∧ m.tb.length ≤ 512) → schk m = 2 := fun x => by
      unfold schk
      rw [if_pos (by unfold rangeM; exact decide_eq_false x)]
    (repeat (first | refine zz ?_ | refine zv fun _ => ?_))
    refine au_pure ?_ (hy := yl_len rfl rfl hC1.tl)
    refine au_callC rfl rfl rfl rfl rfl (inf_c w0 _ (xb.length : Int) 4) (fun _ => ?_)
    cases h1 : decide (1 ≤ (xb.length : Int) ∧ (xb.length : Int) ≤ 4)
    case false =>
      have h1 := of_decide_eq_false h1
      (repeat (first | refine zz ?_ | refine zv fun _ => ?_))
      refine au_done1 rfl ?_
      exact fun w hw => ⟨(), by rw [hno (by omega)], hw.sub (by repeat (first | exact List.Sublist.refl _ | assumption | apply List.Sublist.cons_cons | apply List.Sublist.cons))⟩
    have h1 := of_decide_eq_true h1
    (repeat (first | refine zz ?_ | refine zv fun _ => ?_))
    refine au_pure ?_ (hy := yl_len rfl rfl hC1.pd)
    (repeat (first | refine zz ?_ | refine zv fun _ => ?_))
    refine au_pure ?_ (hy := yl_len rfl rfl hC1.tl)
    (repeat (first | refine zz ?_ | refine zv fun _ => ?_))
    cases h2 : ((xp.length : Int) != (xb.length : Int))
    case true =>
      have h2 := bne_iff_ne.1 h2
      (repeat (first | refine zz ?_ | refine zv fun _ => ?_))
      refine au_done1 rfl ?_
      exact fun w hw => ⟨(), by rw [hno (by omega)], hw.sub (by repeat (first | exact List.Sublist.refl _ | assumption | apply List.Sublist.cons_cons | apply List.Sublist.cons))⟩
    have h2 : (xp.length : Int) = xb.length := by simpa using h2
    (repeat (first | refine zz ?_ | refine zv fun _ => ?_))
    refine au_pure ?_ (hy := yl_len rfl rfl hC1.wd)
    refine au_callC rfl rfl rfl rfl rfl (inf_c w0 _ (m.wd.length : Int) 256) (fun _ => ?_)
    cases h3 : decide (1 ≤ (m.wd.length : Int) ∧ (m.wd.length : Int) ≤ 256)
    case false =>
      have h3 := of_decide_eq_false h3
      (repeat (first | refine zz ?_ | refine zv fun _ => ?_))
      refine au_done1 rfl ?_
      exact fun w hw => ⟨(), by rw [hno (by omega)], hw.sub (by repeat (first | exact List.Sublist.refl _ | assumption | apply List.Sublist.cons_cons | apply List.Sublist.cons))⟩
    have h3 := of_decide_eq_true h3
    (repeat (first | refine zz ?_ | refine zv fun _ => ?_))
    refine au_pure ?_ (hy := yl_len rfl rfl hC1.tb)
    refine au_callC rfl rfl rfl rfl rfl (inf_c w0 _ (m.tb.length : Int) 512) (fun _ => ?_)
    cases h4 : decide (1 ≤ (m.tb.length : Int) ∧ (m.tb.length : Int) ≤ 512)
    case false =>
      have h4 := of_decide_eq_false h4
      (repeat (first | refine zz ?_ | refine zv fun _ => ?_))
      refine au_done1 rfl ?_
      exact fun w hw => ⟨(), by rw [hno (by omega)], hw.sub (by repeat (first | exact List.Sublist.refl _ | assumption | apply List.Sublist.cons_cons | apply List.Sublist.cons))⟩
    have h4 := of_decide_eq_true h4
    (repeat (first | refine zz ?_ | refine zv fun _ => ?_))
    exact tri_mt1 () (by unfold rangeM; exact decide_eq_true (by omega)) (by repeat (first | exact trivial | refine ⟨rfl, ?_⟩)) (fun _ h => h)
  intro _ hrg
  have hrg' := hrg
  unfold rangeM at hrg'
  have hrg' := of_decide_eq_true hrg'
  have hs1 : schk m = if formM m = false then 3 else if limM m = false then 11 else if coversM m = false then 11 else 0 := by unfold schk; rw [if_neg (by rw [hrg]; simp)]
  (repeat (first | refine zz ?_ | refine zv fun _ => ?_))
  refine au_callC rfl rfl rfl rfl rfl (forms_c w0 _ hC1 hL (by omega)) (fun _ => ?_)
  (repeat (first | refine zz ?_ | refine zv fun _ => ?_))
  cases hfm : formM m
  case false =>
    (repeat (first | refine zz ?_ | refine zv fun _ => ?_))
    refine au_done1 rfl ?_
    exact fun w hw => ⟨(), by rw [hs1, if_pos hfm], hw.sub (by repeat (first | exact List.Sublist.refl _ | assumption | apply List.Sublist.cons_cons | apply List.Sublist.cons))⟩
  rw [if_neg (by rw [hfm]; simp)] at hs1
  (repeat (first | refine zz ?_ | refine zv fun _ => ?_))
  (repeat (first | refine tri_seq ?_ | refine tri_then ?_))
  refine ar_held [] (hdC g1 h :: cs) rfl ?_
  refine ar_take 0 rfl rfl rfl ?_; refine ar_take 1 rfl rfl rfl ?_; refine ar_take 2 rfl rfl rfl ?_
  refine ar_take 3 rfl rfl rfl ?_ (hy := yl_len rfl rfl hC1.wd)
  refine ar_op 4 rfl ?_
  refine au_make (α := Bool) (k := m.wd.length) (c := m.wd.length) rfl rfl (fun r => ?_)
  refine tri_nil ?_; refine ar_in ?_
  refine ar_op 5 rfl ?_
  refine au_callC rfl rfl rfl rfl rfl (limbo_c w0 _ r hC1 hL (by omega) (by omega)) ?_
  rintro ⟨U, hU1, hU2⟩
  refine tri_nil ?_; refine ar_in ?_
  refine ar_take 6 rfl rfl rfl ?_
  refine ar_done ?_
  refine tri_weak (H' := Hp w0 (hdC g1 h :: cs)) (fun w h => h.sub (by repeat (first | exact List.Sublist.refl _ | assumption | apply List.Sublist.cons_cons | apply List.Sublist.cons))) ?_
  clear hU1 hU2 U
  cases hlm : limM m
  case false =>
    (repeat (first | refine zz ?_ | refine zv fun _ => ?_))
    refine au_done1 rfl ?_
    exact fun w hw => ⟨(), by rw [hs1, if_pos hlm], hw.sub (by repeat (first | exact List.Sublist.refl _ | assumption | apply List.Sublist.cons_cons | apply List.Sublist.cons))⟩
  rw [if_neg (by rw [hlm]; simp)] at hs1
  have hlb := lim_bd hlm
  have hpw := pow_le (c := m.tl.length) (by omega)
  have hC2 := hC.cons (c := hdC g1 h)
  (repeat (first | refine zz ?_ | refine zv fun _ => ?_))
  refine au_pure ?_ (hy := yl_len rfl rfl hC1.tl)
  (repeat (first | refine zz ?_ | refine zv fun _ => ?_))
  refine tri_block ?_
  refine tri_loop1 (fun (c : Nat) => c ≤ xb.length ∧ ∀ j, j < c → ((m.tl.getD j default).l.all (coverM m j)) = true) (fun c => [(1, .pointer (some ⟨g1, 0, none⟩)), (50, h.b.v), (51, .int .i64 (xb.length : Int)), (52, .int .i64 (c : Int))]) (fun _ => Hp w0 (hdC g1 h :: cs)) (fun c => xb.length - c)
    0 ⟨by omega, fun j hj => by omega⟩ (by repeat (first | exact trivial | refine ⟨rfl, ?_⟩)) (fun w h => h) ?_
  rintro c ⟨hcl, hok⟩
  (repeat (first | refine zz ?_ | refine zv fun _ => ?_))
  ((first | refine tri_cond (by rfl) (fun hc => ?_) (fun hc => ?_) | refine tri_gsplit (by rfl) (by rfl) (by (fail_if_success exact (rfl : _ = some (Value.bool true))); (fail_if_success exact (rfl : _ = some (Value.bool false))); rfl) (fun hc => ?_) (fun hc => ?_)) <;> (try simp only [decide_eq_true_eq, decide_eq_false_iff_not, beq_iff_eq, bne_iff_ne, ne_eq, Bool.not_eq_true', Bool.not_eq_false', beq_eq_false_iff_ne, bne_eq_false_iff_eq, Int.not_lt, Int.not_le, gt_iff_lt, ge_iff_le, Bool.and_eq_true, Bool.or_eq_true, Bool.and_eq_false_iff, Bool.or_eq_false_iff, Decidable.not_not, not_true_eq_false, not_false_eq_true, and_true, true_and, or_false, false_or, or_true, true_or, and_false, false_and, eq_self, Bool.true_eq_false, Bool.false_eq_true] at hc) <;> (try (exfalso; omega)))
  · (repeat (first | refine zz ?_ | refine zv fun _ => ?_))
    refine tri_block ?_
    (repeat (first | refine zz ?_ | refine zv fun _ => ?_))
    refine au_pure ?_ (hy := yl_idx (k := c) rfl rfl hC1.tl (ix_nat rfl) (by rfl) (by omega))
    refine au_pure ?_ (hy := yl_loadEN rfl rfl hC1.tl (by rfl) (by omega) (by repeat (first | exact nf0 rfl | apply nfS rfl | exact nfR)) (by rfl))
    have hz := hC.tz c
    have hE := hC1.te c
    have hle := hL.te c
    have hew := hL.ew c
    have hfl := (form_tl' hfm (c := c) (by omega)).2
    have hbad : (m.tl.getD c default).l.all (coverM m c) = false → coversM m = false := fun e => by
      unfold coversM
      rw [List.all_eq_false]
      exact ⟨c, List.mem_range.2 (by omega), by rw [e]; simp⟩
    have hnx := fun e => all_next (k := c) (q := fun j => ((m.tl.getD j default).l.all (coverM m j)) = true) hok e
    obtain ⟨xv, hxv⟩ : ∃ xv, xv = (xb.getD c default).s := ⟨_, rfl⟩
    obtain ⟨b, hb⟩ : ∃ b, b = m.tl.getD c default := ⟨_, rfl⟩
    rw [← hxv, ← hb] at hE
    rw [← hb] at hle hew hfl hnx hbad
    rw [← hxv]
    (repeat (first | refine zz ?_ | refine zv fun _ => ?_))
    rename_i g5
    have hE2 := hE.cons (c := tlbC g5 (xb.getD c default).z xv.v)
    refine au_pure ?_ (hy := yl_len rfl rfl hE2)
    (repeat (first | refine zz ?_ | refine zv fun _ => ?_))
    refine tri_block ?_
    refine tri_loop1 (fun (k : Nat) => k ≤ b.l.length ∧ ∀ j, j < k → coverM m c (b.l.getD j default) = true) (fun k => [(1, .pointer (some ⟨g1, 0, none⟩)), (4, .int .i64 (c : Int)), (50, h.b.v), (51, .int .i64 (xb.length : Int)), (52, .int .i64 (c : Int)), (58, xv.v), (59, .int .i64 (b.l.length : Int)), (60, .int .i64 (k : Int))]) (fun _ => Hp w0 (tlbC g5 (xb.getD c default).z xv.v :: hdC g1 h :: cs)) (fun k => b.l.length - k)
      0 ⟨by omega, fun j hj => by omega⟩ (by repeat (first | exact trivial | refine ⟨rfl, ?_⟩)) (fun w h => h) ?_
    rintro k ⟨hk, hok3⟩
    (repeat (first | refine zz ?_ | refine zv fun _ => ?_))
    ((first | refine tri_cond (by rfl) (fun hc => ?_) (fun hc => ?_) | refine tri_gsplit (by rfl) (by rfl) (by (fail_if_success exact (rfl : _ = some (Value.bool true))); (fail_if_success exact (rfl : _ = some (Value.bool false))); rfl) (fun hc => ?_) (fun hc => ?_)) <;> (try simp only [decide_eq_true_eq, decide_eq_false_iff_not, beq_iff_eq, bne_iff_ne, ne_eq, Bool.not_eq_true', Bool.not_eq_false', beq_eq_false_iff_ne, bne_eq_false_iff_eq, Int.not_lt, Int.not_le, gt_iff_lt, ge_iff_le, Bool.and_eq_true, Bool.or_eq_true, Bool.and_eq_false_iff, Bool.or_eq_false_iff, Decidable.not_not, not_true_eq_false, not_false_eq_true, and_true, true_and, or_false, false_or, or_true, true_or, and_false, false_and, eq_self, Bool.true_eq_false, Bool.false_eq_true] at hc) <;> (try (exfalso; omega)))
    · (repeat (first | refine zz ?_ | refine zv fun _ => ?_))
      refine tri_block ?_
      (repeat (first | refine zz ?_ | refine zv fun _ => ?_))
      refine au_pure ?_ (hy := yl_idx (k := k) rfl rfl hE2 (ix_nat rfl) (by rfl) (by omega))
      refine au_pure ?_ (hy := yl_loadEN rfl rfl hE2 (by rfl) (by omega) (by repeat (first | exact nf0 rfl | apply nfS rfl | exact nfR)) (by rfl))
      have hkl : k < b.l.length := by omega
      have htw := hew _ (mem_getD' hkl)
      have htp := hfl _ (mem_getD' hkl)
      have hno := fun e => hbad (all_no (p := coverM m c) hkl e)
      have hnx3 := fun e => all_next (k := k) (q := fun j => coverM m c (b.l.getD j default) = true) hok3 e
      obtain ⟨t, ht⟩ : ∃ t, t = b.l.getD k default := ⟨_, rfl⟩
      rw [← ht] at htw htp hno hnx3 ⊢
      (repeat (first | refine zz ?_ | refine zv fun _ => ?_))
      rename_i g7
      refine au_callC rfl rfl rfl rfl rfl (covered_c w0 _ c t (hC1.cons.cons) hL (by omega) (by omega) htw htp.2.2 (fun x hx => by have := (hlb x hx).2; omega)) (fun _ => ?_)
      (repeat (first | refine zz ?_ | refine zv fun _ => ?_))
      cases hcv : coverM m c t
      · (repeat (first | refine zz ?_ | refine zv fun _ => ?_))
        refine au_done1 rfl ?_
        exact fun w hw => ⟨(), by rw [hs1, if_pos (hno hcv)], hw.sub (by repeat (first | exact List.Sublist.refl _ | assumption | apply List.Sublist.cons_cons | apply List.Sublist.cons))⟩
      · (repeat (first | refine zz ?_ | refine zv fun _ => ?_))
        exact tri_nx1 (k + 1) (by omega) ⟨by omega, hnx3 hcv⟩ (by repeat (first | exact trivial | refine ⟨rfl, ?_⟩)) (fun w h => h.sub (by repeat (first | exact List.Sublist.refl _ | assumption | apply List.Sublist.cons_cons | apply List.Sublist.cons)))
    · have hkb : k = b.l.length := by omega
      subst hkb
      (repeat (first | refine zz ?_ | refine zv fun _ => ?_))
      exact tri_nx1 (c + 1) (by omega) ⟨by omega, hnx (all_get.2 hok3)⟩ (by repeat (first | exact trivial | refine ⟨rfl, ?_⟩)) (fun w h => h.sub (by repeat (first | exact List.Sublist.refl _ | assumption | apply List.Sublist.cons_cons | apply List.Sublist.cons)))
  · have hce : c = m.tl.length := by omega
    have hcv : coversM m = true := by
      unfold coversM
      rw [List.all_eq_true]
      exact fun j hj => hok j (by have := List.mem_range.1 hj; omega)
    (repeat (first | refine zz ?_ | refine zv fun _ => ?_))
    refine au_done1 rfl ?_
    exact fun w hw => ⟨(), by rw [hs1, if_neg (by rw [hcv]; simp)], hw.sub (by repeat (first | exact List.Sublist.refl _ | assumption | apply List.Sublist.cons_cons | apply List.Sublist.cons))⟩
end
end Go.Proofs.Ytojfaelafakemaa

/- A region that draws its order (as in SeqR) when two operations may come up. No conditions. -/
set_option linter.unusedSimpArgs false
set_option linter.unusedVariables false
namespace Go.Proofs.Ytojfaelafakemaa
open Go Go.RowKit
section
variable {M : List Nat} {P : Program} {n d : Nat} {F : Act → World → Prop} {l : List Oper} {E : Env} {w0 : World} {cs cs0 : List Chunk} {fuel : Nat} {listed : Array Bool} {Ks : List Nat}
theorem ar_op2 [Dl] (i j : Nat) {o o2 : Oper} (hi : l[i]? = some o) (hj : l[j]? = some o2) (k : Tri n (wpList P l.toArray (Exit.then (fun a w => (Ks.contains i = false → HpM M w0 cs0 w) ∧ wpAnyR P .any l.toArray (Exit.then F NoQ) (HpM M w0 cs0) Ks fuel (listed.setIfInBounds i true) a w) NoQ) [o]) E (HpM M w0 cs))
    (k2 : Tri n (wpList P l.toArray (Exit.then (fun a w => (Ks.contains j = false → HpM M w0 cs0 w) ∧ wpAnyR P .any l.toArray (Exit.then F NoQ) (HpM M w0 cs0) Ks fuel (listed.setIfInBounds j true) a w) NoQ) [o2]) E (HpM M w0 cs)) (hr : Region.ready .any l.toArray listed = [i, j] := by kernel_rfl) :
    TR P n l (HpM M w0 cs0) Ks (fuel + 1) listed F E (HpM M w0 cs) := fun a w h1 h2 => wpAnyR_all hr (by simp) fun x hx => by
  have : x = i ∨ x = j := by simpa using hx
  rcases this with rfl | rfl
  · exact wpop_ofk hi (k a w h1 h2)
  · exact wpop_ofk hj (k2 a w h1 h2)
end
end Go.Proofs.Ytojfaelafakemaa

/- The walks of the reference of the shootdown machine: entries, what is mapped, waits, is owed. No conditions. -/
set_option linter.unusedSimpArgs false
set_option linter.unusedVariables false
namespace Go.Proofs.Ytojfaelafakemaa
open Go Go.RowKit
def rmapN (m : SM) (f : Int) (k : Nat) : Nat := (m.tb.take k).countP fun w => (decR w.v).1.k == 1 && (decR w.v).1.n == f
theorem enOk_no {n : Nat} {w : Int} (h : ¬ (decR w).2 = 0) : enOk n w = false := by
  unfold enOk pgOk
  rw [decide_eq_false fun x => h x.1, decide_eq_false fun x => h x.1]; rfl
theorem enOk_none {n : Nat} {w : Int} (h : (decR w).2 = 0) (h2 : (decR w).1.k = 0) : enOk n w = true := by
  unfold enOk
  rw [decide_eq_true ⟨h, h2⟩]; rfl
theorem enOk_page {n : Nat} {w : Int} (h2 : ¬ (decR w).1.k = 0) : enOk n w = pgOk n w := by
  unfold enOk
  rw [decide_eq_false fun x => h2 x.2]; rfl
theorem dec_bad {w : Int} (h : ¬ (decR w).2 = 0) : (decR w).1 = noEnt := by
  rcases decR_cases w with ⟨e, h2⟩ | h2
  · rw [h2] at h; exact absurd rfl h
  · rw [h2]
theorem mapN_step {m : SM} {f : Int} {k : Nat} (hk : k < m.tb.length) : rmapN m f (k + 1) = rmapN m f k + if ((decR (tbW m k)).1.k == 1 && (decR (tbW m k)).1.n == f) = true then 1 else 0 := by
  unfold rmapN
  rw [take_step hk, List.countP_append, List.countP_singleton]
  rfl
attribute [local irreducible] decR enOk pgOk teOk ivOk tlOk checkM lbOk formM limM schk
attribute [local irreducible] Code.wp wpList bodyPost Exit.then Exit.inBlock Calls wpQuiet Tri TriQ
section
variable (w0 : World) (cs : List Chunk)
end
end Go.Proofs.Ytojfaelafakemaa

/- The walks of package tlb's reference: overlaps, Check. No conditions. -/
set_option linter.unusedSimpArgs false
set_option linter.unusedVariables false
namespace Go.Proofs.Ytojfaelafakemaa
open Go Go.RowKit
attribute [local irreducible] Code.wp wpList bodyPost Exit.then Exit.inBlock Calls wpQuiet Tri TriQ
theorem grp_bd {p : Int} (h : 0 ≤ p) : 0 ≤ grp p ∧ grp p ≤ p := by unfold grp; omega
section
variable (w0 : World) (cs : List Chunk)
end
end Go.Proofs.Ytojfaelafakemaa

/- The walk of the reference's forms of a shootdown machine. No conditions. -/
set_option linter.unusedSimpArgs false
set_option linter.unusedVariables false
namespace Go.Proofs.Ytojfaelafakemaa
open Go Go.RowKit
theorem en_page (n : Nat) (w : Int) : (enOk n w && (decR w).1.k == 1) = pgOk n w := by
  by_cases h : (decR w).1.k = 0
  · rw [h]
    have : pgOk n w = false := by unfold pgOk; exact decide_eq_false fun x => by rw [h] at x; cases x.2.1
    rw [this]; simp
  · rw [enOk_page h]
    cases h2 : pgOk n w
    · rfl
    · unfold pgOk at h2
      have := (of_decide_eq_true h2).2.1
      rw [this]; rfl
attribute [local irreducible] decR enOk pgOk teOk ivOk tlOk checkM lbOk limM schk
attribute [local irreducible] Code.wp wpList bodyPost Exit.then Exit.inBlock Calls wpQuiet Tri TriQ
section
variable (w0 : World) (cs : List Chunk)
end
end Go.Proofs.Ytojfaelafakemaa

/- The reference's reading of the frames of a shootdown machine is the program's. No conditions. -/
set_option linter.unusedSimpArgs false
set_option linter.unusedVariables false
namespace Go.Proofs.Ytojfaelafakemaa
open Go Go.RowKit
attribute [local irreducible] decR enOk pgOk teOk ivOk tlOk checkM
section
variable {m : SM} (hf : formM m = true)
include hf
theorem en_tb {k : Nat} (hk : k < m.tb.length) : enOk m.wd.length (tbW m k) = true := by
  cases h : enOk m.wd.length (tbW m k)
  · have := form_tb hk h
    rw [hf] at this; cases this
  · rfl
theorem map_fr {k : Nat} (hk : k < m.tb.length) {f : Int} (h0 : 0 ≤ f) : ((decR (tbW m k)).1.k == 1 && (decR (tbW m k)).1.n == f) = (frM m k == f) := by
  have h := en_tb hf hk
  have hp := en_page m.wd.length (tbW m k)
  rw [h, Bool.true_and] at hp
  rw [hp]
  cases h2 : pgOk m.wd.length (tbW m k)
  · rw [frM_no h2, Bool.false_and]
    symm
    rw [beq_eq_false_iff_ne]; omega
  · rw [frM_yes h2, Bool.true_and]
theorem mapN_zero {f : Int} (h0 : 0 ≤ f) : ∀ k, k ≤ m.tb.length → ((rmapN m f k : Int) > 0 ↔ usedT m k f = true)
  | 0, _ => by unfold rmapN usedT; simp
  | k + 1, hk => by
    have ih := mapN_zero h0 k (by omega)
    rw [mapN_step (by omega), map_fr hf (by omega) h0, usedT_succ, Bool.or_eq_true, ← ih]
    by_cases h : (frM m k == f) = true
    · rw [if_pos h]
      exact ⟨fun _ => .inr h, fun _ => by omega⟩
    · rw [if_neg h]
      exact ⟨fun x => .inl (by omega), fun x => by rcases x with x | x; · omega
                                                   · exact absurd x h⟩
theorem mapN_one (hd : ∀ p, p < m.tb.length → dupT m p = false) {f : Int} (h0 : 0 ≤ f) : ∀ k, k ≤ m.tb.length → rmapN m f k ≤ 1
  | 0, _ => by unfold rmapN; simp
  | k + 1, hk => by
    have ih := mapN_one hd h0 k (by omega)
    have hz := mapN_zero hf h0 k (by omega)
    rw [mapN_step (by omega), map_fr hf (by omega) h0]
    by_cases h : (frM m k == f) = true
    · rw [if_pos h]
      have h2 := hd k (by omega)
      unfold dupT at h2
      rw [beq_iff_eq] at h
      rw [h, decide_eq_true h0, Bool.true_and] at h2
      have : ¬ (rmapN m f k : Int) > 0 := fun x => by rw [hz.1 x] at h2; cases h2
      omega
    · rw [if_neg h]; exact ih
omit hf in
theorem mapN_mono {f : Int} {j : Nat} : ∀ k, j ≤ k → k ≤ m.tb.length → rmapN m f j ≤ rmapN m f k
  | 0, hj, _ => by rw [show j = 0 by omega]; exact Nat.le_refl _
  | k + 1, hj, hk => by
    by_cases e : j = k + 1
    · rw [e]; exact Nat.le_refl _
    · have := mapN_mono (f := f) (j := j) k (by omega) (by omega)
      rw [mapN_step (m := m) (f := f) (k := k) (by omega)]
      omega
theorem mapN_dup {p : Nat} (hp : p < m.tb.length) (hd : dupT m p = true) : 1 < rmapN m (frM m p) m.tb.length ∧ 0 ≤ frM m p ∧ frM m p < m.wd.length := by
  unfold dupT at hd
  rw [Bool.and_eq_true, decide_eq_true_eq] at hd
  have hz := (mapN_zero hf hd.1 p (by omega)).2 hd.2
  have hs := mapN_step (m := m) (f := frM m p) hp
  rw [map_fr hf hp hd.1, if_pos (by simp)] at hs
  have hm := mapN_mono (m := m) (f := frM m p) (j := p + 1) m.tb.length (by omega) (Nat.le_refl _)
  refine ⟨by omega, hd.1, ?_⟩
  cases h2 : pgOk m.wd.length (tbW m p)
  · rw [frM_no h2] at hd; omega
  · rw [frM_yes h2]; exact (pg_bd h2).2
end
theorem wait_lt {m : SM} {i : Nat} (hi : i < m.lm.length) : (decide (idxM (fun y : LB => y.f == (m.lm.getD i default).f) m.lm < (i : Int))) = usedL m i (m.lm.getD i default).f := by
  obtain ⟨p, hp⟩ : ∃ p : LB → Bool, p = fun y : LB => y.f == (m.lm.getD i default).f := ⟨_, rfl⟩
  have hpi : p (m.lm.getD i default) = true := by rw [hp]; simp
  have ha : m.lm.any p = true := List.any_eq_true.2 ⟨_, mem_getD' hi, hpi⟩
  have hlt := idxM_lt ha
  have hat := idxM_at ha
  rw [← hp]
  have hul : usedL m i (m.lm.getD i default).f = (m.lm.take i).any p := by unfold usedL; rw [hp]
  rw [hul, Bool.eq_iff_iff, decide_eq_true_eq, List.any_eq_true]
  constructor
  · intro h
    exact ⟨m.lm.getD (idxM p m.lm).toNat default, by rw [List.mem_take_iff_getElem]; exact ⟨(idxM p m.lm).toNat, by omega, by rw [getD_get (by omega)]⟩, hat⟩
  · rintro ⟨x, hx, hpx⟩
    rw [List.mem_take_iff_getElem] at hx
    obtain ⟨j, hj, rfl⟩ := hx
    have he : idxM p m.lm = (m.lm.findIdx p : Int) := by unfold idxM; rw [ha]; rfl
    rw [he]
    have : m.lm.findIdx p ≤ j := by
      rcases Nat.lt_or_ge j (m.lm.findIdx p) with h | h
      · have := List.not_of_lt_findIdx h
        rw [hpx] at this; cases this
      · exact h
    omega
/-- In limbo, as the reference says it. -/
def rlbOk (m : SM) (i : Nat) (x : LB) : Bool :=
  decide (0 ≤ x.f ∧ x.f < m.wd.length) && (!(decide ((rmapN m x.f m.tb.length : Int) > 0) || decide (idxM (fun y : LB => y.f == x.f) m.lm < (i : Int))) && (decide (1 ≤ x.a ∧ x.a < 2 ^ m.tl.length) && (List.range m.tl.length).all fun c => !(bitA x.a c && (m.pd.getD c default).isEmpty)))
def rlimM (m : SM) : Bool := (List.range m.lm.length).all fun i => rlbOk m i (m.lm.getD i default)
theorem rlb_eq {m : SM} (hf : formM m = true) {i : Nat} (hi : i < m.lm.length) : rlbOk m i (m.lm.getD i default) = lbOk m i (m.lm.getD i default) := by
  unfold rlbOk lbOk
  rw [wait_lt hi]
  by_cases h : 0 ≤ (m.lm.getD i default).f ∧ (m.lm.getD i default).f < m.wd.length
  · have hz := mapN_zero hf h.1 m.tb.length (Nat.le_refl _)
    have : decide ((rmapN m (m.lm.getD i default).f m.tb.length : Int) > 0) = usedT m m.tb.length (m.lm.getD i default).f := by
      rw [Bool.eq_iff_iff, decide_eq_true_eq]; exact hz
    rw [this]
  · rw [decide_eq_false h, Bool.false_and, Bool.false_and]
theorem rlim_eq {m : SM} (hf : formM m = true) : limM m = ((List.range m.tb.length).all (fun p => !dupT m p) && rlimM m) := by
  unfold limM rlimM
  congr 1
  rw [Bool.eq_iff_iff, List.all_eq_true, List.all_eq_true]
  exact ⟨fun h i hi => by rw [rlb_eq hf (List.mem_range.1 hi)]; exact h i hi, fun h i hi => by rw [← rlb_eq hf (List.mem_range.1 hi)]; exact h i hi⟩
theorem wait_any {m : SM} (hV : limM m = true) (c : Nat) (t : TE) : waitM m c t = (decide (idxM (fun x : LB => x.f == (decR t.w).1.n) m.lm ≥ 0) && bitA (m.lm.getD (idxM (fun x : LB => x.f == (decR t.w).1.n) m.lm).toNat default).a c) := by
  rw [idxM_ge]
  unfold waitM
  cases ha : m.lm.any fun x => x.f == (decR t.w).1.n
  · rw [Bool.false_and, List.any_eq_false]
    rw [List.any_eq_false] at ha
    intro x hx
    have := ha x hx
    rw [Bool.not_eq_true] at this
    rw [this]; simp
  · rw [Bool.true_and]
    have hlt := idxM_lt ha
    have hat := idxM_at ha
    obtain ⟨k, hk⟩ : ∃ k, k = (idxM (fun x : LB => x.f == (decR t.w).1.n) m.lm).toNat := ⟨_, rfl⟩
    rw [← hk] at hat hlt ⊢
    have key : ∀ i j, i < j → j < m.lm.length → (m.lm.getD i default).f ≠ (m.lm.getD j default).f := fun i j hij hj e => by
      unfold limM at hV
      rw [Bool.and_eq_true] at hV
      have h1 := List.all_eq_true.1 hV.2 j (List.mem_range.2 hj)
      rw [lbOk_eq] at h1
      simp only [Bool.and_eq_true, Bool.not_eq_true', Bool.or_eq_false_iff] at h1
      have h2 := h1.2.1.2
      unfold usedL at h2
      rw [List.any_eq_false] at h2
      refine h2 (m.lm.getD i default) ?_ (by rw [e]; simp)
      rw [List.mem_take_iff_getElem]
      exact ⟨i, by omega, by rw [getD_get (by omega)]⟩
    rw [Bool.eq_iff_iff, List.any_eq_true]
    constructor
    · rintro ⟨x, hx, h2⟩
      obtain ⟨j, hj, rfl⟩ := List.getElem_of_mem hx
      rw [Bool.and_eq_true] at h2
      have e : j = k := by
        rcases Nat.lt_trichotomy j k with h | h | h
        · exfalso
          refine key j k h hlt.2 ?_
          rw [beq_iff_eq] at h2 hat
          rw [getD_get hj, h2.1, hat]
        · exact h
        · exfalso
          refine key k j h hj ?_
          rw [beq_iff_eq] at h2 hat
          rw [getD_get hj, h2.1, hat]
      rw [← e, getD_get hj]
      exact h2.2
    · intro h2
      exact ⟨m.lm.getD k default, mem_getD' hlt.2, by rw [Bool.and_eq_true]; exact ⟨hat, h2⟩⟩
end Go.Proofs.Ytojfaelafakemaa

/- The walk of the reference's check of a shootdown machine. No conditions. -/
set_option linter.unusedSimpArgs false
set_option linter.unusedVariables false
namespace Go.Proofs.Ytojfaelafakemaa
open Go Go.RowKit
theorem rlbOk_eq (m : SM) (i : Nat) (x : LB) : rlbOk m i x = (decide (0 ≤ x.f ∧ x.f < m.wd.length) && (!(decide ((rmapN m x.f m.tb.length : Int) > 0) || decide (idxM (fun y : LB => y.f == x.f) m.lm < (i : Int))) && (decide (1 ≤ x.a ∧ x.a < 2 ^ m.tl.length) && (List.range m.tl.length).all fun c => !(bitA x.a c && (m.pd.getD c default).isEmpty)))) := rfl
theorem rlim_no {m : SM} {i : Nat} (hi : i < m.lm.length) (h : rlbOk m i (m.lm.getD i default) = false) : rlimM m = false := by
  unfold rlimM
  rw [List.all_eq_false]
  exact ⟨i, List.mem_range.2 hi, by rw [h]; simp⟩
attribute [local irreducible] decR enOk pgOk teOk ivOk tlOk checkM lbOk formM limM schk rlbOk rmapN
attribute [local irreducible] Code.wp wpList bodyPost Exit.then Exit.inBlock Calls wpQuiet Tri TriQ
section
variable (w0 : World) (cs : List Chunk)
end
end Go.Proofs.Ytojfaelafakemaa

/- The walk of the reference's check of a shootdown machine, all of it. No conditions. -/
set_option linter.unusedSimpArgs false
set_option linter.unusedVariables false
namespace Go.Proofs.Ytojfaelafakemaa
open Go Go.RowKit
theorem same_en {m : SM} (hf : formM m = true) {t : TE} (hp : 0 ≤ t.p ∧ t.p < m.tb.length) : sameM m t = ((decR (tbW m t.p.toNat)).1.k == 1 && (decR (tbW m t.p.toNat)).1.n == (decR t.w).1.n) := by
  have h := en_tb hf (k := t.p.toNat) (by omega)
  have h2 := en_page m.wd.length (tbW m t.p.toNat)
  rw [h, Bool.true_and] at h2
  unfold sameM
  rw [h2]
attribute [local irreducible] decR enOk pgOk teOk ivOk tlOk checkM lbOk formM limM schk rlbOk rmapN rlimM
attribute [local irreducible] Code.wp wpList bodyPost Exit.then Exit.inBlock Calls wpQuiet Tri TriQ
section
variable (w0 : World) (cs : List Chunk)
end
end Go.Proofs.Ytojfaelafakemaa
