/- Texts joined: ShRSame, ShRFew. Each part's own remark says what it proves. -/
import Derived.Test.YtojfaelafakemaaGreatM35
/- The walks of the reference of the shootdown machine: Same, Few. No conditions. -/
set_option linter.unusedSimpArgs false
set_option linter.unusedVariables false
namespace Go.Proofs.YtojfaelafakemaaGreat
open Go Go.RowKit
theorem iv_neq {a b : IV} (h : (!(a.s == b.s && a.p == b.p && a.o == b.o)) = true) : a ≠ b := fun e => by subst e; simp at h
theorem iv_eq {a b : IV} (h : (!(a.s == b.s && a.p == b.p && a.o == b.o)) = false) : a = b := by
  cases a; cases b; simp at h; simp [h]
theorem lb_neq {a b : LB} (h : (!(a.f == b.f && a.a == b.a)) = true) : a ≠ b := fun e => by subst e; simp at h
theorem lb_eq {a b : LB} (h : (!(a.f == b.f && a.a == b.a)) = false) : a = b := by
  cases a; cases b; simp at h; simp [h]
theorem w64_eq {a b : W64} (h : (a.v != b.v) = false) : a = b := by
  cases a; cases b; simp at h; simp [h]
theorem tl_eq {a b : TL} (h : decide (a.z = b.z ∧ a.l = b.l) = true) : a = b := by
  have h := of_decide_eq_true h
  cases a; cases b; simp at h; simp [h]
theorem all_st {p : Nat → Prop} {k : Nat} (hp : ∀ j, j < k → p j) (h : p k) : ∀ j, j < k + 1 → p j := fun j hj => by
  by_cases e : j = k
  · rw [e]; exact h
  · exact hp j (by omega)
theorem sm_eq {m m' : SM} (h1 : m.tb = m'.tb) (h2 : m.tl = m'.tl) (h3 : m.pd = m'.pd) (h4 : m.lm = m'.lm) (h5 : m.wd = m'.wd) : m = m' := by
  cases m; cases m'; simp only at h1 h2 h3 h4 h5; rw [h1, h2, h3, h4, h5]
attribute [local irreducible] decR enOk pgOk teOk ivOk tlOk checkM lbOk formM limM schk
attribute [local irreducible] Code.wp wpList bodyPost Exit.then Exit.inBlock Calls wpQuiet Tri TriQ
section
variable (w0 : World) (cs : List Chunk)
set_option maxHeartbeats 4000000 in
theorem rshsame_c {h h' : SH} {xb xb' : List TB} {xp xp' : List SV} {m m' : SM} (hA : RdS (Hp w0 cs) h xb xp m) (hB : RdS (Hp w0 cs) h' xb' xp' m') (hL : SLe m) (hL' : SLe m') :
    Cal Tryz.prog 8 [hdV h, hdV h'] (Hp w0 cs) (fun _ : Unit => .bool (decide (m = m'))) (fun _ => Hp w0 cs) := by
  have hl0 := hL.tb
  have hl1 := hL.tl
  have hl2 := hL.pd
  have hl3 := hL.lm
  have hl4 := hL.wd
  have ht := hA.tll
  have ht' := hB.tll
  have hp := hA.pdl
  have hp' := hB.pdl
  refine cal_of_tri Tryz.func8 rfl Tryz.ntmps8 rfl ?_
  (repeat (first | refine tri_seq ?_ | refine tri_then ?_)); refine tri_region ?_; (repeat (first | refine au_pure ?_ | refine au_pass ?_ | refine au_box (fun _ => ?_) | refine au_alloc (fun _ => ?_) | refine au_store ?_ | refine au_make rfl rfl (fun _ => ?_) | refine au_lit rfl rfl rfl (fun _ => ?_) | refine au_append rfl rfl rfl rfl (fun _ => au_norm ?_) | refine au_storeE rfl rfl rfl rfl ?_)); refine tri_nil ?_; (repeat refine tri_then ?_)
  rename_i g2 g3
  have hA1 := hA.cons (c := hdC g2 h) |>.cons (c := hdC g3 h')
  have hB1 := hB.cons (c := hdC g2 h) |>.cons (c := hdC g3 h')
  refine tri_weak (H' := Hp w0 (hdC g3 h' :: hdC g2 h :: cs)) (fun w h => h) ?_
  (repeat (first | refine tri_seq ?_ | refine tri_then ?_))
  refine tri_cut1 (fun b => b = ((m.tb.length : Int) != (m'.tb.length : Int) || (m.tl.length : Int) != (m'.tl.length : Int) || (m.pd.length : Int) != (m'.pd.length : Int) || (m.lm.length : Int) != (m'.lm.length : Int) || (m.wd.length : Int) != (m'.wd.length : Int))) (fun b => [(2, .pointer (some ⟨g2, 0, none⟩)), (3, .pointer (some ⟨g3, 0, none⟩)), (53, .bool b)])
    (fun b => Hp w0 (hdC g3 h' :: hdC g2 h :: cs)) ?_ ?_
  · rw [← ht, ← ht', ← hp, ← hp']
    (repeat (first | refine zz ?_ | refine zv fun _ => ?_))
    refine au_pure ?_ (hy := yl_len rfl rfl hA1.tb)
    (repeat (first | refine zz ?_ | refine zv fun _ => ?_))
    refine au_pure ?_ (hy := yl_len rfl rfl hB1.tb)
    (repeat (first | refine zz ?_ | refine zv fun _ => ?_))
    cases hd0 : ((m.tb.length : Int) != (m'.tb.length : Int))
    case true =>
      (repeat (first | refine zz ?_ | refine zv fun _ => ?_))
      exact tri_mt1 true (by simp) (by repeat (first | exact trivial | refine ⟨rfl, ?_⟩)) (fun _ h => h)
    (repeat (first | refine zz ?_ | refine zv fun _ => ?_))
    refine au_pure ?_ (hy := yl_len rfl rfl hA1.tl)
    (repeat (first | refine zz ?_ | refine zv fun _ => ?_))
    refine au_pure ?_ (hy := yl_len rfl rfl hB1.tl)
    (repeat (first | refine zz ?_ | refine zv fun _ => ?_))
    cases hd1 : ((xb.length : Int) != (xb'.length : Int))
    case true =>
      (repeat (first | refine zz ?_ | refine zv fun _ => ?_))
      exact tri_mt1 true (by simp) (by repeat (first | exact trivial | refine ⟨rfl, ?_⟩)) (fun _ h => h)
    (repeat (first | refine zz ?_ | refine zv fun _ => ?_))
    refine au_pure ?_ (hy := yl_len rfl rfl hA1.pd)
    (repeat (first | refine zz ?_ | refine zv fun _ => ?_))
    refine au_pure ?_ (hy := yl_len rfl rfl hB1.pd)
    (repeat (first | refine zz ?_ | refine zv fun _ => ?_))
    cases hd2 : ((xp.length : Int) != (xp'.length : Int))
    case true =>
      (repeat (first | refine zz ?_ | refine zv fun _ => ?_))
      exact tri_mt1 true (by simp) (by repeat (first | exact trivial | refine ⟨rfl, ?_⟩)) (fun _ h => h)
    (repeat (first | refine zz ?_ | refine zv fun _ => ?_))
    refine au_pure ?_ (hy := yl_len rfl rfl hA1.lm)
    (repeat (first | refine zz ?_ | refine zv fun _ => ?_))
    refine au_pure ?_ (hy := yl_len rfl rfl hB1.lm)
    (repeat (first | refine zz ?_ | refine zv fun _ => ?_))
    cases hd3 : ((m.lm.length : Int) != (m'.lm.length : Int))
    case true =>
      (repeat (first | refine zz ?_ | refine zv fun _ => ?_))
      exact tri_mt1 true (by simp) (by repeat (first | exact trivial | refine ⟨rfl, ?_⟩)) (fun _ h => h)
    (repeat (first | refine zz ?_ | refine zv fun _ => ?_))
    refine au_pure ?_ (hy := yl_len rfl rfl hA1.wd)
    (repeat (first | refine zz ?_ | refine zv fun _ => ?_))
    refine au_pure ?_ (hy := yl_len rfl rfl hB1.wd)
    (repeat (first | refine zz ?_ | refine zv fun _ => ?_))
    exact tri_mt1 ((m.wd.length : Int) != (m'.wd.length : Int)) (by simp) (by repeat (first | exact trivial | refine ⟨rfl, ?_⟩)) (fun _ h => h)
  intro b hb
  cases b with
  | true =>
    have hne : m ≠ m' := fun e => by subst e; simp at hb
    (repeat (first | refine zz ?_ | refine zv fun _ => ?_))
    refine au_done1 rfl ?_
    exact fun w hw => ⟨(), by rw [decide_eq_false hne], hw.sub (by repeat (first | exact List.Sublist.refl _ | assumption | apply List.Sublist.cons_cons | apply List.Sublist.cons))⟩
  | false =>
    have hb' := hb.symm
    simp only [Bool.or_eq_false_iff, bne_eq_false_iff_eq] at hb'
    obtain ⟨⟨⟨⟨e0, e1⟩, e2⟩, e3⟩, e4⟩ := hb'
    have e0 : m.tb.length = m'.tb.length := by omega
    have e1 : m.tl.length = m'.tl.length := by omega
    have e2 : m.pd.length = m'.pd.length := by omega
    have e3 : m.lm.length = m'.lm.length := by omega
    have e4 : m.wd.length = m'.wd.length := by omega
    refine tri_weak (H' := Hp w0 (hdC g3 h' :: hdC g2 h :: cs)) (fun w h => h) ?_
    (repeat (first | refine zz ?_ | refine zv fun _ => ?_))
    refine tri_block ?_
    refine tri_loop1 (fun (i : Nat) => i ≤ m.tb.length ∧ ∀ j, j < i → m.tb.getD j default = m'.tb.getD j default) (fun i => [(2, .pointer (some ⟨g2, 0, none⟩)), (3, .pointer (some ⟨g3, 0, none⟩)), (5, .int .i64 (i : Int))]) (fun i => Hp w0 (hdC g3 h' :: hdC g2 h :: cs)) (fun i => m.tb.length - i)
      0 ⟨by omega, fun j hj => absurd hj (Nat.not_lt_zero j)⟩ (by repeat (first | exact trivial | refine ⟨rfl, ?_⟩)) (fun w h => h) ?_
    rintro i ⟨hi, hq⟩
    (repeat (first | refine zz ?_ | refine zv fun _ => ?_))
    refine au_pure ?_ (hy := yl_len rfl rfl hA1.tb)
    (repeat (first | refine zz ?_ | refine zv fun _ => ?_))
    ((first | refine tri_cond (by rfl) (fun hc => ?_) (fun hc => ?_) | refine tri_gsplit (by rfl) (by rfl) (by (fail_if_success exact (rfl : _ = some (Value.bool true))); (fail_if_success exact (rfl : _ = some (Value.bool false))); rfl) (fun hc => ?_) (fun hc => ?_)) <;> (try simp only [decide_eq_true_eq, decide_eq_false_iff_not, beq_iff_eq, bne_iff_ne, ne_eq, Bool.not_eq_true', Bool.not_eq_false', beq_eq_false_iff_ne, bne_eq_false_iff_eq, Int.not_lt, Int.not_le, gt_iff_lt, ge_iff_le, Bool.and_eq_true, Bool.or_eq_true, Bool.and_eq_false_iff, Bool.or_eq_false_iff, Decidable.not_not, not_true_eq_false, not_false_eq_true, and_true, true_and, or_false, false_or, or_true, true_or, and_false, false_and, eq_self, Bool.true_eq_false, Bool.false_eq_true] at hc) <;> (try (exfalso; omega)))
    case refine_1 =>
      have hno : m.tb.getD i default ≠ m'.tb.getD i default → decide (m = m') = false := fun h => decide_eq_false fun e => h (by rw [e])
      (repeat (first | refine zz ?_ | refine zv fun _ => ?_))
      refine tri_block ?_
      (repeat (first | refine tri_seq ?_ | refine tri_then ?_))
      refine au_draw rfl ?_
      (repeat (first | refine z1 ?_ | refine au_qpass rfl rfl ?_ | refine triq_nil ?_))
      refine au_qpure rfl rfl ?_ (hy := yl_idx (k := i) rfl rfl hA1.tb (ix_nat rfl) (by rfl) (by omega))
      refine au_qpure rfl rfl ?_ (hy := yl_loadE rfl rfl hA1.tb (by rfl) (by omega) (by rfl))
      (repeat (first | refine z1 ?_ | refine au_qpass rfl rfl ?_ | refine triq_nil ?_))
      refine au_qpure rfl rfl ?_ (hy := yl_idx (k := i) rfl rfl hB1.tb (ix_nat rfl) (by rfl) (by omega))
      refine au_qpure rfl rfl ?_ (hy := yl_loadE rfl rfl hB1.tb (by rfl) (by omega) (by rfl))
      refine au_qpure rfl rfl ?_ (hy := yl_neq rfl rfl rfl)
      (repeat (first | refine z1 ?_ | refine au_qpass rfl rfl ?_ | refine triq_nil ?_))
      obtain ⟨y, hy⟩ : ∃ y, y = m.tb.getD i default := ⟨_, rfl⟩
      obtain ⟨y', hy'⟩ : ∃ y', y' = m'.tb.getD i default := ⟨_, rfl⟩
      rw [← hy, ← hy'] at hno ⊢
      cases hd : (y.v != y'.v)
      · (repeat (first | refine zz ?_ | refine zv fun _ => ?_))
        exact tri_nx1 (i + 1) (by omega) ⟨by omega, all_st hq (by rw [← hy, ← hy']; exact w64_eq hd)⟩ (by repeat (first | exact trivial | refine ⟨rfl, ?_⟩)) (fun w h => h.sub (by repeat (first | exact List.Sublist.refl _ | assumption | apply List.Sublist.cons_cons | apply List.Sublist.cons)))
      · (repeat (first | refine zz ?_ | refine zv fun _ => ?_))
        refine au_done1 rfl ?_
        exact fun w hw => ⟨(), by rw [hno (fun e => by rw [e] at hd; simp at hd)], hw.sub (by repeat (first | exact List.Sublist.refl _ | assumption | apply List.Sublist.cons_cons | apply List.Sublist.cons))⟩
    have q0 : m.tb = m'.tb := ext_getD e0 fun j hj => hq j (by omega)
    clear hq
    (repeat (first | refine zz ?_ | refine zv fun _ => ?_))
    refine tri_block ?_
    refine tri_loop1 (fun (i : Nat) => i ≤ m.tl.length ∧ ∀ j, j < i → m.tl.getD j default = m'.tl.getD j default) (fun i => [(2, .pointer (some ⟨g2, 0, none⟩)), (3, .pointer (some ⟨g3, 0, none⟩)), (6, .int .i64 (i : Int))]) (fun i => Hp w0 (hdC g3 h' :: hdC g2 h :: cs)) (fun i => m.tl.length - i)
      0 ⟨by omega, fun j hj => absurd hj (Nat.not_lt_zero j)⟩ (by repeat (first | exact trivial | refine ⟨rfl, ?_⟩)) (fun w h => h) ?_
    rintro i ⟨hi, hq⟩
    (repeat (first | refine zz ?_ | refine zv fun _ => ?_))
    refine au_pure ?_ (hy := yl_len rfl rfl hA1.tl)
    (repeat (first | refine zz ?_ | refine zv fun _ => ?_))
    ((first | refine tri_cond (by rfl) (fun hc => ?_) (fun hc => ?_) | refine tri_gsplit (by rfl) (by rfl) (by (fail_if_success exact (rfl : _ = some (Value.bool true))); (fail_if_success exact (rfl : _ = some (Value.bool false))); rfl) (fun hc => ?_) (fun hc => ?_)) <;> (try simp only [decide_eq_true_eq, decide_eq_false_iff_not, beq_iff_eq, bne_iff_ne, ne_eq, Bool.not_eq_true', Bool.not_eq_false', beq_eq_false_iff_ne, bne_eq_false_iff_eq, Int.not_lt, Int.not_le, gt_iff_lt, ge_iff_le, Bool.and_eq_true, Bool.or_eq_true, Bool.and_eq_false_iff, Bool.or_eq_false_iff, Decidable.not_not, not_true_eq_false, not_false_eq_true, and_true, true_and, or_false, false_or, or_true, true_or, and_false, false_and, eq_self, Bool.true_eq_false, Bool.false_eq_true] at hc) <;> (try (exfalso; omega)))
    case refine_1 =>
      have hno : m.tl.getD i default ≠ m'.tl.getD i default → decide (m = m') = false := fun h => decide_eq_false fun e => h (by rw [e])
      (repeat (first | refine zz ?_ | refine zv fun _ => ?_))
      refine tri_block ?_
      have hz := hA.tz i
      have hz' := hB.tz i
      have hE := hA1.te i
      have hE' := hB1.te i
      have hle := hL.te i
      have hle' := hL'.te i
      obtain ⟨y, hy⟩ : ∃ y, y = m.tl.getD i default := ⟨_, rfl⟩
      obtain ⟨y', hy'⟩ : ∃ y', y' = m'.tl.getD i default := ⟨_, rfl⟩
      rw [← hy, ← hy'] at hno
      rw [← hy] at hz hE hle
      rw [← hy'] at hz' hE' hle'
      (repeat (first | refine tri_seq ?_ | refine tri_then ?_))
      refine ar_held [11] (hdC g3 h' :: hdC g2 h :: cs) rfl ?_
      refine ar_free 0 rfl rfl rfl ?_; refine ar_free 2 rfl rfl rfl ?_; refine ar_free 5 rfl rfl rfl ?_; refine ar_free 7 rfl rfl rfl ?_
      refine ar_take 1 rfl rfl rfl ?_; refine ar_take 6 rfl rfl rfl ?_
      refine ar_take 3 rfl rfl rfl ?_ (hy := yl_idx (k := i) rfl rfl hA1.tl (ix_nat rfl) (by rfl) (by omega))
      refine ar_take 4 rfl rfl rfl ?_ (hy := yl_loadEN rfl rfl hA1.tl (by rfl) (by omega) (by repeat (first | exact nf0 rfl | apply nfS rfl | exact nfR)) (by rfl))
      refine ar_take 8 rfl rfl rfl ?_ (hy := yl_idx (k := i) rfl rfl hB1.tl (ix_nat rfl) (by rfl) (by omega))
      refine ar_take 9 rfl rfl rfl ?_ (hy := yl_loadEN rfl rfl hB1.tl (by rfl) (by omega) (by repeat (first | exact nf0 rfl | apply nfS rfl | exact nfR)) (by rfl))
      rw [hz, hz']
      refine ar_op 10 rfl ?_
      refine au_callC rfl rfl rfl rfl rfl (same_c w0 _ hE hE' hle hle') (fun _ => ?_)
      refine tri_nil ?_; refine ar_in ?_
      refine ar_op 11 rfl ?_
      refine au_pure ?_
      refine tri_nil ?_; refine ar_ink ?_
      refine ar_done ?_
      cases hd : decide (y.z = y'.z ∧ y.l = y'.l)
      · (repeat (first | refine zz ?_ | refine zv fun _ => ?_))
        refine au_done1 rfl ?_
        exact fun w hw => ⟨(), by rw [hno (fun e => by rw [e] at hd; simp at hd)], hw.sub (by repeat (first | exact List.Sublist.refl _ | assumption | apply List.Sublist.cons_cons | apply List.Sublist.cons))⟩
      · (repeat (first | refine zz ?_ | refine zv fun _ => ?_))
        exact tri_nx1 (i + 1) (by omega) ⟨by omega, all_st hq (by rw [← hy, ← hy']; exact tl_eq hd)⟩ (by repeat (first | exact trivial | refine ⟨rfl, ?_⟩)) (fun w h => h.sub (by repeat (first | exact List.Sublist.refl _ | assumption | apply List.Sublist.cons_cons | apply List.Sublist.cons)))
    have q1 : m.tl = m'.tl := ext_getD e1 fun j hj => hq j (by omega)
    clear hq
    (repeat (first | refine zz ?_ | refine zv fun _ => ?_))
    refine tri_block ?_
    refine tri_loop1 (fun (i : Nat) => i ≤ m.pd.length ∧ ∀ j, j < i → m.pd.getD j default = m'.pd.getD j default) (fun i => [(2, .pointer (some ⟨g2, 0, none⟩)), (3, .pointer (some ⟨g3, 0, none⟩)), (7, .int .i64 (i : Int))]) (fun i => Hp w0 (hdC g3 h' :: hdC g2 h :: cs)) (fun i => m.pd.length - i)
      0 ⟨by omega, fun j hj => absurd hj (Nat.not_lt_zero j)⟩ (by repeat (first | exact trivial | refine ⟨rfl, ?_⟩)) (fun w h => h) ?_
    rintro i ⟨hi, hq⟩
    (repeat (first | refine zz ?_ | refine zv fun _ => ?_))
    refine au_pure ?_ (hy := yl_len rfl rfl hA1.pd)
    (repeat (first | refine zz ?_ | refine zv fun _ => ?_))
    ((first | refine tri_cond (by rfl) (fun hc => ?_) (fun hc => ?_) | refine tri_gsplit (by rfl) (by rfl) (by (fail_if_success exact (rfl : _ = some (Value.bool true))); (fail_if_success exact (rfl : _ = some (Value.bool false))); rfl) (fun hc => ?_) (fun hc => ?_)) <;> (try simp only [decide_eq_true_eq, decide_eq_false_iff_not, beq_iff_eq, bne_iff_ne, ne_eq, Bool.not_eq_true', Bool.not_eq_false', beq_eq_false_iff_ne, bne_eq_false_iff_eq, Int.not_lt, Int.not_le, gt_iff_lt, ge_iff_le, Bool.and_eq_true, Bool.or_eq_true, Bool.and_eq_false_iff, Bool.or_eq_false_iff, Decidable.not_not, not_true_eq_false, not_false_eq_true, and_true, true_and, or_false, false_or, or_true, true_or, and_false, false_and, eq_self, Bool.true_eq_false, Bool.false_eq_true] at hc) <;> (try (exfalso; omega)))
    case refine_1 =>
      have hno : m.pd.getD i default ≠ m'.pd.getD i default → decide (m = m') = false := fun h => decide_eq_false fun e => h (by rw [e])
      (repeat (first | refine zz ?_ | refine zv fun _ => ?_))
      refine tri_block ?_
      have hP := hA1.pe i
      have hP' := hB1.pe i
      have hpl := hL.pe i
      obtain ⟨y, hy⟩ : ∃ y, y = m.pd.getD i default := ⟨_, rfl⟩
      obtain ⟨y', hy'⟩ : ∃ y', y' = m'.pd.getD i default := ⟨_, rfl⟩
      rw [← hy, ← hy'] at hno
      rw [← hy] at hP hpl
      rw [← hy'] at hP'
      (repeat (first | refine tri_seq ?_ | refine tri_then ?_))
      refine au_draw rfl ?_
      (repeat (first | refine z1 ?_ | refine au_qpass rfl rfl ?_ | refine triq_nil ?_))
      refine au_qpure rfl rfl ?_ (hy := yl_idx (k := i) rfl rfl hA1.pd (ix_nat rfl) (by rfl) (by omega))
      refine au_qpure rfl rfl ?_ (hy := yl_loadE rfl rfl hA1.pd (by rfl) (by omega) (by rfl))
      refine au_qpure rfl rfl ?_ (hy := yl_len rfl rfl hP)
      (repeat (first | refine z1 ?_ | refine au_qpass rfl rfl ?_ | refine triq_nil ?_))
      refine au_qpure rfl rfl ?_ (hy := yl_idx (k := i) rfl rfl hB1.pd (ix_nat rfl) (by rfl) (by omega))
      refine au_qpure rfl rfl ?_ (hy := yl_loadE rfl rfl hB1.pd (by rfl) (by omega) (by rfl))
      refine au_qpure rfl rfl ?_ (hy := yl_len rfl rfl hP')
      refine au_qpure rfl rfl ?_ (hy := yl_neq rfl rfl rfl)
      (repeat (first | refine z1 ?_ | refine au_qpass rfl rfl ?_ | refine triq_nil ?_))
      cases hd0 : ((y.length : Int) != (y'.length : Int))
      case true =>
        (repeat (first | refine zz ?_ | refine zv fun _ => ?_))
        refine au_done1 rfl ?_
        exact fun w hw => ⟨(), by rw [hno (fun e => by rw [e] at hd0; simp at hd0)], hw.sub (by repeat (first | exact List.Sublist.refl _ | assumption | apply List.Sublist.cons_cons | apply List.Sublist.cons))⟩
      have hyl : y.length = y'.length := by have : (y.length : Int) = y'.length := by simpa using hd0
                                            omega
      (repeat (first | refine zz ?_ | refine zv fun _ => ?_))
      refine tri_block ?_
      refine tri_loop1 (fun (k : Nat) => k ≤ y.length ∧ ∀ j, j < k → y.getD j default = y'.getD j default) (fun k => [(2, .pointer (some ⟨g2, 0, none⟩)), (3, .pointer (some ⟨g3, 0, none⟩)), (7, .int .i64 (i : Int)), (8, .int .i64 (k : Int))]) (fun i => Hp w0 (hdC g3 h' :: hdC g2 h :: cs)) (fun k => y.length - k)
        0 ⟨by omega, fun j hj => absurd hj (Nat.not_lt_zero j)⟩ (by repeat (first | exact trivial | refine ⟨rfl, ?_⟩)) (fun w h => h.sub (by repeat (first | exact List.Sublist.refl _ | assumption | apply List.Sublist.cons_cons | apply List.Sublist.cons))) ?_
      rintro k ⟨hk, hr⟩
      (repeat (first | refine zz ?_ | refine zv fun _ => ?_))
      refine au_pure ?_ (hy := yl_idx (k := i) rfl rfl hA1.pd (ix_nat rfl) (by rfl) (by omega))
      refine au_pure ?_ (hy := yl_loadE rfl rfl hA1.pd (by rfl) (by omega) (by rfl))
      refine au_pure ?_ (hy := yl_len rfl rfl hP)
      (repeat (first | refine zz ?_ | refine zv fun _ => ?_))
      ((first | refine tri_cond (by rfl) (fun hc => ?_) (fun hc => ?_) | refine tri_gsplit (by rfl) (by rfl) (by (fail_if_success exact (rfl : _ = some (Value.bool true))); (fail_if_success exact (rfl : _ = some (Value.bool false))); rfl) (fun hc => ?_) (fun hc => ?_)) <;> (try simp only [decide_eq_true_eq, decide_eq_false_iff_not, beq_iff_eq, bne_iff_ne, ne_eq, Bool.not_eq_true', Bool.not_eq_false', beq_eq_false_iff_ne, bne_eq_false_iff_eq, Int.not_lt, Int.not_le, gt_iff_lt, ge_iff_le, Bool.and_eq_true, Bool.or_eq_true, Bool.and_eq_false_iff, Bool.or_eq_false_iff, Decidable.not_not, not_true_eq_false, not_false_eq_true, and_true, true_and, or_false, false_or, or_true, true_or, and_false, false_and, eq_self, Bool.true_eq_false, Bool.false_eq_true] at hc) <;> (try (exfalso; omega)))
      case refine_1 =>
        have hnoy : y.getD k default ≠ y'.getD k default → decide (m = m') = false := fun h => hno fun e => h (by rw [e])
        (repeat (first | refine zz ?_ | refine zv fun _ => ?_))
        refine tri_block ?_
        (repeat (first | refine tri_seq ?_ | refine tri_then ?_))
        refine au_draw rfl ?_
        (repeat (first | refine z1 ?_ | refine au_qpass rfl rfl ?_ | refine triq_nil ?_))
        refine au_qpure rfl rfl ?_ (hy := yl_idx (k := i) rfl rfl hA1.pd (ix_nat rfl) (by rfl) (by omega))
        refine au_qpure rfl rfl ?_ (hy := yl_loadE rfl rfl hA1.pd (by rfl) (by omega) (by rfl))
        (repeat (first | refine z1 ?_ | refine au_qpass rfl rfl ?_ | refine triq_nil ?_))
        refine au_qpure rfl rfl ?_ (hy := yl_idx (k := k) rfl rfl hP (ix_nat rfl) (by rfl) (by omega))
        refine au_qpure rfl rfl ?_ (hy := yl_loadEN rfl rfl hP (by rfl) (by omega) (by repeat (first | exact nf0 rfl | apply nfS rfl | exact nfR)) (by rfl))
        (repeat (first | refine z1 ?_ | refine au_qpass rfl rfl ?_ | refine triq_nil ?_))
        refine au_qpure rfl rfl ?_ (hy := yl_idx (k := i) rfl rfl hB1.pd (ix_nat rfl) (by rfl) (by omega))
        refine au_qpure rfl rfl ?_ (hy := yl_loadE rfl rfl hB1.pd (by rfl) (by omega) (by rfl))
        (repeat (first | refine z1 ?_ | refine au_qpass rfl rfl ?_ | refine triq_nil ?_))
        refine au_qpure rfl rfl ?_ (hy := yl_idx (k := k) rfl rfl hP' (ix_nat rfl) (by rfl) (by omega))
        refine au_qpure rfl rfl ?_ (hy := yl_loadEN rfl rfl hP' (by rfl) (by omega) (by repeat (first | exact nf0 rfl | apply nfS rfl | exact nfR)) (by rfl))
        refine au_qpure rfl rfl ?_ (hy := yl_neqs rfl rfl rfl)
        (repeat (first | refine z1 ?_ | refine au_qpass rfl rfl ?_ | refine triq_nil ?_))
        obtain ⟨v, hv⟩ : ∃ v, v = y.getD k default := ⟨_, rfl⟩
        obtain ⟨v', hv'⟩ : ∃ v', v' = y'.getD k default := ⟨_, rfl⟩
        rw [← hv, ← hv'] at hnoy ⊢
        cases hd : (!(v.s == v'.s && v.p == v'.p && v.o == v'.o))
        · (repeat (first | refine zz ?_ | refine zv fun _ => ?_))
          exact tri_nx1 (k + 1) (by omega) ⟨by omega, all_st hr (by rw [← hv, ← hv']; exact iv_eq hd)⟩ (by repeat (first | exact trivial | refine ⟨rfl, ?_⟩)) (fun w h => h.sub (by repeat (first | exact List.Sublist.refl _ | assumption | apply List.Sublist.cons_cons | apply List.Sublist.cons)))
        · (repeat (first | refine zz ?_ | refine zv fun _ => ?_))
          refine au_done1 rfl ?_
          exact fun w hw => ⟨(), by rw [hnoy (iv_neq hd)], hw.sub (by repeat (first | exact List.Sublist.refl _ | assumption | apply List.Sublist.cons_cons | apply List.Sublist.cons))⟩
      have hyy : y = y' := ext_getD hyl fun j hj => hr j (by omega)
      (repeat (first | refine zz ?_ | refine zv fun _ => ?_))
      exact tri_nx1 (i + 1) (by omega) ⟨by omega, all_st hq (by rw [← hy, ← hy']; exact hyy)⟩ (by repeat (first | exact trivial | refine ⟨rfl, ?_⟩)) (fun w h => h.sub (by repeat (first | exact List.Sublist.refl _ | assumption | apply List.Sublist.cons_cons | apply List.Sublist.cons)))
    have q2 : m.pd = m'.pd := ext_getD e2 fun j hj => hq j (by omega)
    clear hq
    (repeat (first | refine zz ?_ | refine zv fun _ => ?_))
    refine tri_block ?_
    refine tri_loop1 (fun (i : Nat) => i ≤ m.lm.length ∧ ∀ j, j < i → m.lm.getD j default = m'.lm.getD j default) (fun i => [(2, .pointer (some ⟨g2, 0, none⟩)), (3, .pointer (some ⟨g3, 0, none⟩)), (9, .int .i64 (i : Int))]) (fun i => Hp w0 (hdC g3 h' :: hdC g2 h :: cs)) (fun i => m.lm.length - i)
      0 ⟨by omega, fun j hj => absurd hj (Nat.not_lt_zero j)⟩ (by repeat (first | exact trivial | refine ⟨rfl, ?_⟩)) (fun w h => h) ?_
    rintro i ⟨hi, hq⟩
    (repeat (first | refine zz ?_ | refine zv fun _ => ?_))
    refine au_pure ?_ (hy := yl_len rfl rfl hA1.lm)
    (repeat (first | refine zz ?_ | refine zv fun _ => ?_))
    ((first | refine tri_cond (by rfl) (fun hc => ?_) (fun hc => ?_) | refine tri_gsplit (by rfl) (by rfl) (by (fail_if_success exact (rfl : _ = some (Value.bool true))); (fail_if_success exact (rfl : _ = some (Value.bool false))); rfl) (fun hc => ?_) (fun hc => ?_)) <;> (try simp only [decide_eq_true_eq, decide_eq_false_iff_not, beq_iff_eq, bne_iff_ne, ne_eq, Bool.not_eq_true', Bool.not_eq_false', beq_eq_false_iff_ne, bne_eq_false_iff_eq, Int.not_lt, Int.not_le, gt_iff_lt, ge_iff_le, Bool.and_eq_true, Bool.or_eq_true, Bool.and_eq_false_iff, Bool.or_eq_false_iff, Decidable.not_not, not_true_eq_false, not_false_eq_true, and_true, true_and, or_false, false_or, or_true, true_or, and_false, false_and, eq_self, Bool.true_eq_false, Bool.false_eq_true] at hc) <;> (try (exfalso; omega)))
    case refine_1 =>
      have hno : m.lm.getD i default ≠ m'.lm.getD i default → decide (m = m') = false := fun h => decide_eq_false fun e => h (by rw [e])
      (repeat (first | refine zz ?_ | refine zv fun _ => ?_))
      refine tri_block ?_
      (repeat (first | refine tri_seq ?_ | refine tri_then ?_))
      refine au_draw rfl ?_
      (repeat (first | refine z1 ?_ | refine au_qpass rfl rfl ?_ | refine triq_nil ?_))
      refine au_qpure rfl rfl ?_ (hy := yl_idx (k := i) rfl rfl hA1.lm (ix_nat rfl) (by rfl) (by omega))
      refine au_qpure rfl rfl ?_ (hy := yl_loadEN rfl rfl hA1.lm (by rfl) (by omega) (by repeat (first | exact nf0 rfl | apply nfS rfl | exact nfR)) (by rfl))
      (repeat (first | refine z1 ?_ | refine au_qpass rfl rfl ?_ | refine triq_nil ?_))
      refine au_qpure rfl rfl ?_ (hy := yl_idx (k := i) rfl rfl hB1.lm (ix_nat rfl) (by rfl) (by omega))
      refine au_qpure rfl rfl ?_ (hy := yl_loadEN rfl rfl hB1.lm (by rfl) (by omega) (by repeat (first | exact nf0 rfl | apply nfS rfl | exact nfR)) (by rfl))
      refine au_qpure rfl rfl ?_ (hy := yl_neqs rfl rfl rfl)
      (repeat (first | refine z1 ?_ | refine au_qpass rfl rfl ?_ | refine triq_nil ?_))
      obtain ⟨y, hy⟩ : ∃ y, y = m.lm.getD i default := ⟨_, rfl⟩
      obtain ⟨y', hy'⟩ : ∃ y', y' = m'.lm.getD i default := ⟨_, rfl⟩
      rw [← hy, ← hy'] at hno ⊢
      cases hd : (!(y.f == y'.f && y.a == y'.a))
      · (repeat (first | refine zz ?_ | refine zv fun _ => ?_))
        exact tri_nx1 (i + 1) (by omega) ⟨by omega, all_st hq (by rw [← hy, ← hy']; exact lb_eq hd)⟩ (by repeat (first | exact trivial | refine ⟨rfl, ?_⟩)) (fun w h => h.sub (by repeat (first | exact List.Sublist.refl _ | assumption | apply List.Sublist.cons_cons | apply List.Sublist.cons)))
      · (repeat (first | refine zz ?_ | refine zv fun _ => ?_))
        refine au_done1 rfl ?_
        exact fun w hw => ⟨(), by rw [hno (lb_neq hd)], hw.sub (by repeat (first | exact List.Sublist.refl _ | assumption | apply List.Sublist.cons_cons | apply List.Sublist.cons))⟩
    have q3 : m.lm = m'.lm := ext_getD e3 fun j hj => hq j (by omega)
    clear hq
    (repeat (first | refine zz ?_ | refine zv fun _ => ?_))
    refine tri_block ?_
    refine tri_loop1 (fun (i : Nat) => i ≤ m.wd.length ∧ ∀ j, j < i → m.wd.getD j default = m'.wd.getD j default) (fun i => [(2, .pointer (some ⟨g2, 0, none⟩)), (3, .pointer (some ⟨g3, 0, none⟩)), (10, .int .i64 (i : Int))]) (fun i => Hp w0 (hdC g3 h' :: hdC g2 h :: cs)) (fun i => m.wd.length - i)
      0 ⟨by omega, fun j hj => absurd hj (Nat.not_lt_zero j)⟩ (by repeat (first | exact trivial | refine ⟨rfl, ?_⟩)) (fun w h => h) ?_
    rintro i ⟨hi, hq⟩
    (repeat (first | refine zz ?_ | refine zv fun _ => ?_))
    refine au_pure ?_ (hy := yl_len rfl rfl hA1.wd)
    (repeat (first | refine zz ?_ | refine zv fun _ => ?_))
    ((first | refine tri_cond (by rfl) (fun hc => ?_) (fun hc => ?_) | refine tri_gsplit (by rfl) (by rfl) (by (fail_if_success exact (rfl : _ = some (Value.bool true))); (fail_if_success exact (rfl : _ = some (Value.bool false))); rfl) (fun hc => ?_) (fun hc => ?_)) <;> (try simp only [decide_eq_true_eq, decide_eq_false_iff_not, beq_iff_eq, bne_iff_ne, ne_eq, Bool.not_eq_true', Bool.not_eq_false', beq_eq_false_iff_ne, bne_eq_false_iff_eq, Int.not_lt, Int.not_le, gt_iff_lt, ge_iff_le, Bool.and_eq_true, Bool.or_eq_true, Bool.and_eq_false_iff, Bool.or_eq_false_iff, Decidable.not_not, not_true_eq_false, not_false_eq_true, and_true, true_and, or_false, false_or, or_true, true_or, and_false, false_and, eq_self, Bool.true_eq_false, Bool.false_eq_true] at hc) <;> (try (exfalso; omega)))
    case refine_1 =>
      have hno : m.wd.getD i default ≠ m'.wd.getD i default → decide (m = m') = false := fun h => decide_eq_false fun e => h (by rw [e])
      (repeat (first | refine zz ?_ | refine zv fun _ => ?_))
      refine tri_block ?_
      (repeat (first | refine tri_seq ?_ | refine tri_then ?_))
      refine au_draw rfl ?_
      (repeat (first | refine z1 ?_ | refine au_qpass rfl rfl ?_ | refine triq_nil ?_))
      refine au_qpure rfl rfl ?_ (hy := yl_idx (k := i) rfl rfl hA1.wd (ix_nat rfl) (by rfl) (by omega))
      refine au_qpure rfl rfl ?_ (hy := yl_loadE rfl rfl hA1.wd (by rfl) (by omega) (by rfl))
      (repeat (first | refine z1 ?_ | refine au_qpass rfl rfl ?_ | refine triq_nil ?_))
      refine au_qpure rfl rfl ?_ (hy := yl_idx (k := i) rfl rfl hB1.wd (ix_nat rfl) (by rfl) (by omega))
      refine au_qpure rfl rfl ?_ (hy := yl_loadE rfl rfl hB1.wd (by rfl) (by omega) (by rfl))
      refine au_qpure rfl rfl ?_ (hy := yl_neq rfl rfl rfl)
      (repeat (first | refine z1 ?_ | refine au_qpass rfl rfl ?_ | refine triq_nil ?_))
      obtain ⟨y, hy⟩ : ∃ y, y = m.wd.getD i default := ⟨_, rfl⟩
      obtain ⟨y', hy'⟩ : ∃ y', y' = m'.wd.getD i default := ⟨_, rfl⟩
      rw [← hy, ← hy'] at hno ⊢
      cases hd : (y != y')
      · (repeat (first | refine zz ?_ | refine zv fun _ => ?_))
        exact tri_nx1 (i + 1) (by omega) ⟨by omega, all_st hq (by rw [← hy, ← hy']; exact (by simpa using hd))⟩ (by repeat (first | exact trivial | refine ⟨rfl, ?_⟩)) (fun w h => h.sub (by repeat (first | exact List.Sublist.refl _ | assumption | apply List.Sublist.cons_cons | apply List.Sublist.cons)))
      · (repeat (first | refine zz ?_ | refine zv fun _ => ?_))
        refine au_done1 rfl ?_
        exact fun w hw => ⟨(), by rw [hno (fun e => by rw [e] at hd; simp at hd)], hw.sub (by repeat (first | exact List.Sublist.refl _ | assumption | apply List.Sublist.cons_cons | apply List.Sublist.cons))⟩
    have q4 : m.wd = m'.wd := ext_getD e4 fun j hj => hq j (by omega)
    clear hq
    (repeat (first | refine zz ?_ | refine zv fun _ => ?_))
    refine au_done1 rfl ?_
    exact fun w hw => ⟨(), by rw [decide_eq_true (sm_eq q0 q1 q2 q3 q4)], hw.sub (by repeat (first | exact List.Sublist.refl _ | assumption | apply List.Sublist.cons_cons | apply List.Sublist.cons))⟩
end
end Go.Proofs.YtojfaelafakemaaGreat

/- The walk of the reference of the shootdown machine's Few. No conditions. -/
set_option linter.unusedSimpArgs false
set_option linter.unusedVariables false
namespace Go.Proofs.YtojfaelafakemaaGreat
open Go Go.RowKit
/-- A small machine. -/
def fewM (m : SM) : Bool := decide (m.tb.length ≤ 40 ∧ m.tl.length ≤ 8 ∧ m.pd.length ≤ 8 ∧ m.lm.length ≤ 40 ∧ m.wd.length ≤ 40) && (m.tl.all (fun b => decide (b.l.length ≤ 20)) && m.pd.all fun l => decide (l.length ≤ 60))
attribute [local irreducible] decR enOk pgOk teOk ivOk tlOk checkM lbOk formM limM schk
attribute [local irreducible] Code.wp wpList bodyPost Exit.then Exit.inBlock Calls wpQuiet Tri TriQ
section
variable (w0 : World) (cs : List Chunk)
set_option maxHeartbeats 2000000 in
theorem rfew_c {h : SH} {xb : List TB} {xp : List SV} {m : SM} (hA : RdS (Hp w0 cs) h xb xp m) (hL : SLe m) :
    Cal Tryz.prog 17 [hdV h] (Hp w0 cs) (fun _ : Unit => .bool (fewM m)) (fun _ => Hp w0 cs) := by
  have ht := hA.tll
  have hp := hA.pdl
  refine cal_of_tri Tryz.func17 rfl Tryz.ntmps17 rfl ?_
  (repeat (first | refine tri_seq ?_ | refine tri_then ?_)); refine tri_region ?_; (repeat (first | refine au_pure ?_ | refine au_pass ?_ | refine au_box (fun _ => ?_) | refine au_alloc (fun _ => ?_) | refine au_store ?_ | refine au_make rfl rfl (fun _ => ?_) | refine au_lit rfl rfl rfl (fun _ => ?_) | refine au_append rfl rfl rfl rfl (fun _ => au_norm ?_) | refine au_storeE rfl rfl rfl rfl ?_)); refine tri_nil ?_; (repeat refine tri_then ?_)
  rename_i g1
  have hA1 := hA.cons (c := hdC g1 h)
  refine tri_weak (H' := Hp w0 (hdC g1 h :: cs)) (fun w h => h) ?_
  (repeat (first | refine zz ?_ | refine zv fun _ => ?_))
  refine au_pure ?_ (hy := yl_len rfl rfl hA1.tb)
  (repeat (first | refine zz ?_ | refine zv fun _ => ?_))
  cases d1 : decide ((m.tb.length : Int) > 40)
  case true =>
    have d1 := of_decide_eq_true d1
    (repeat (first | refine zz ?_ | refine zv fun _ => ?_))
    refine au_done1 rfl ?_
    exact fun w hw => ⟨(), by unfold fewM; rw [decide_eq_false (by omega)]; rfl, hw.sub (by repeat (first | exact List.Sublist.refl _ | assumption | apply List.Sublist.cons_cons | apply List.Sublist.cons))⟩
  have d1 := of_decide_eq_false d1
  (repeat (first | refine zz ?_ | refine zv fun _ => ?_))
  refine au_pure ?_ (hy := yl_len rfl rfl hA1.tl)
  (repeat (first | refine zz ?_ | refine zv fun _ => ?_))
  cases d2 : decide ((xb.length : Int) > 8)
  case true =>
    have d2 := of_decide_eq_true d2
    (repeat (first | refine zz ?_ | refine zv fun _ => ?_))
    refine au_done1 rfl ?_
    exact fun w hw => ⟨(), by unfold fewM; rw [decide_eq_false (by omega)]; rfl, hw.sub (by repeat (first | exact List.Sublist.refl _ | assumption | apply List.Sublist.cons_cons | apply List.Sublist.cons))⟩
  have d2 := of_decide_eq_false d2
  (repeat (first | refine zz ?_ | refine zv fun _ => ?_))
  refine au_pure ?_ (hy := yl_len rfl rfl hA1.pd)
  (repeat (first | refine zz ?_ | refine zv fun _ => ?_))
  cases d3 : decide ((xp.length : Int) > 8)
  case true =>
    have d3 := of_decide_eq_true d3
    (repeat (first | refine zz ?_ | refine zv fun _ => ?_))
    refine au_done1 rfl ?_
    exact fun w hw => ⟨(), by unfold fewM; rw [decide_eq_false (by omega)]; rfl, hw.sub (by repeat (first | exact List.Sublist.refl _ | assumption | apply List.Sublist.cons_cons | apply List.Sublist.cons))⟩
  have d3 := of_decide_eq_false d3
  (repeat (first | refine zz ?_ | refine zv fun _ => ?_))
  refine au_pure ?_ (hy := yl_len rfl rfl hA1.lm)
  (repeat (first | refine zz ?_ | refine zv fun _ => ?_))
  cases d4 : decide ((m.lm.length : Int) > 40)
  case true =>
    have d4 := of_decide_eq_true d4
    (repeat (first | refine zz ?_ | refine zv fun _ => ?_))
    refine au_done1 rfl ?_
    exact fun w hw => ⟨(), by unfold fewM; rw [decide_eq_false (by omega)]; rfl, hw.sub (by repeat (first | exact List.Sublist.refl _ | assumption | apply List.Sublist.cons_cons | apply List.Sublist.cons))⟩
  have d4 := of_decide_eq_false d4
  (repeat (first | refine zz ?_ | refine zv fun _ => ?_))
  refine au_pure ?_ (hy := yl_len rfl rfl hA1.wd)
  (repeat (first | refine zz ?_ | refine zv fun _ => ?_))
  cases d5 : decide ((m.wd.length : Int) > 40)
  case true =>
    have d5 := of_decide_eq_true d5
    (repeat (first | refine zz ?_ | refine zv fun _ => ?_))
    refine au_done1 rfl ?_
    exact fun w hw => ⟨(), by unfold fewM; rw [decide_eq_false (by omega)]; rfl, hw.sub (by repeat (first | exact List.Sublist.refl _ | assumption | apply List.Sublist.cons_cons | apply List.Sublist.cons))⟩
  have d5 := of_decide_eq_false d5
  have e1 : fewM m = (m.tl.all (fun b => decide (b.l.length ≤ 20)) && m.pd.all fun l => decide (l.length ≤ 60)) := by unfold fewM; rw [decide_eq_true (by omega), Bool.true_and]
  (repeat (first | refine zz ?_ | refine zv fun _ => ?_))
  refine tri_block ?_
  refine tri_loop1 (fun (k : Nat) => k ≤ m.tl.length ∧ ∀ j, j < k → decide ((m.tl.getD j default).l.length ≤ 20) = true) (fun k => [(1, .pointer (some ⟨g1, 0, none⟩)), (3, .int .i64 (k : Int))]) (fun _ => Hp w0 (hdC g1 h :: cs)) (fun k => m.tl.length - k)
    0 ⟨by omega, fun j hj => absurd hj (Nat.not_lt_zero j)⟩ (by repeat (first | exact trivial | refine ⟨rfl, ?_⟩)) (fun w h => h) ?_
  rintro k ⟨hk, hq⟩
  (repeat (first | refine zz ?_ | refine zv fun _ => ?_))
  refine au_pure ?_ (hy := yl_len rfl rfl hA1.tl)
  (repeat (first | refine zz ?_ | refine zv fun _ => ?_))
  ((first | refine tri_cond (by rfl) (fun hc => ?_) (fun hc => ?_) | refine tri_gsplit (by rfl) (by rfl) (by (fail_if_success exact (rfl : _ = some (Value.bool true))); (fail_if_success exact (rfl : _ = some (Value.bool false))); rfl) (fun hc => ?_) (fun hc => ?_)) <;> (try simp only [decide_eq_true_eq, decide_eq_false_iff_not, beq_iff_eq, bne_iff_ne, ne_eq, Bool.not_eq_true', Bool.not_eq_false', beq_eq_false_iff_ne, bne_eq_false_iff_eq, Int.not_lt, Int.not_le, gt_iff_lt, ge_iff_le, Bool.and_eq_true, Bool.or_eq_true, Bool.and_eq_false_iff, Bool.or_eq_false_iff, Decidable.not_not, not_true_eq_false, not_false_eq_true, and_true, true_and, or_false, false_or, or_true, true_or, and_false, false_and, eq_self, Bool.true_eq_false, Bool.false_eq_true] at hc) <;> (try (exfalso; omega)))
  case refine_1 =>
    (repeat (first | refine zz ?_ | refine zv fun _ => ?_))
    refine tri_block ?_
    (repeat (first | refine zz ?_ | refine zv fun _ => ?_))
    refine au_pure ?_ (hy := yl_idx (k := k) rfl rfl hA1.tl (ix_nat rfl) (by rfl) (by omega))
    refine au_pure ?_ (hy := yl_fieldE rfl rfl)
    refine au_pure ?_ (hy := yl_loadE rfl rfl hA1.tl (by rfl) (by omega) (by rfl))
    refine au_pure ?_ (hy := yl_len rfl rfl (hA1.te k))
    (repeat (first | refine zz ?_ | refine zv fun _ => ?_))
    cases d6 : decide (((m.tl.getD k default).l.length : Int) > 20)
    case true =>
      have d6 := of_decide_eq_true d6
      have hno : (m.tl.all fun b => decide (b.l.length ≤ 20)) = false := by
        rw [← Bool.not_eq_true, all_get]
        intro x
        have := of_decide_eq_true (x k (by omega))
        omega
      (repeat (first | refine zz ?_ | refine zv fun _ => ?_))
      refine au_done1 rfl ?_
      exact fun w hw => ⟨(), by rw [e1, hno]; rfl, hw.sub (by repeat (first | exact List.Sublist.refl _ | assumption | apply List.Sublist.cons_cons | apply List.Sublist.cons))⟩
    have d6 := of_decide_eq_false d6
    (repeat (first | refine zz ?_ | refine zv fun _ => ?_))
    exact tri_nx1 (k + 1) (by omega) ⟨by omega, all_st hq (decide_eq_true (by omega))⟩ (by repeat (first | exact trivial | refine ⟨rfl, ?_⟩)) (fun w h => h.sub (by repeat (first | exact List.Sublist.refl _ | assumption | apply List.Sublist.cons_cons | apply List.Sublist.cons)))
  have hke : k = m.tl.length := by omega
  subst hke
  rw [all_get.2 hq, Bool.true_and] at e1
  clear hq
  (repeat (first | refine zz ?_ | refine zv fun _ => ?_))
  refine tri_block ?_
  refine tri_loop1 (fun (k : Nat) => k ≤ m.pd.length ∧ ∀ j, j < k → decide ((m.pd.getD j default).length ≤ 60) = true) (fun k => [(1, .pointer (some ⟨g1, 0, none⟩)), (4, .int .i64 (k : Int))]) (fun _ => Hp w0 (hdC g1 h :: cs)) (fun k => m.pd.length - k)
    0 ⟨by omega, fun j hj => absurd hj (Nat.not_lt_zero j)⟩ (by repeat (first | exact trivial | refine ⟨rfl, ?_⟩)) (fun w h => h) ?_
  rintro k ⟨hk, hq⟩
  (repeat (first | refine zz ?_ | refine zv fun _ => ?_))
  refine au_pure ?_ (hy := yl_len rfl rfl hA1.pd)
  (repeat (first | refine zz ?_ | refine zv fun _ => ?_))
  ((first | refine tri_cond (by rfl) (fun hc => ?_) (fun hc => ?_) | refine tri_gsplit (by rfl) (by rfl) (by (fail_if_success exact (rfl : _ = some (Value.bool true))); (fail_if_success exact (rfl : _ = some (Value.bool false))); rfl) (fun hc => ?_) (fun hc => ?_)) <;> (try simp only [decide_eq_true_eq, decide_eq_false_iff_not, beq_iff_eq, bne_iff_ne, ne_eq, Bool.not_eq_true', Bool.not_eq_false', beq_eq_false_iff_ne, bne_eq_false_iff_eq, Int.not_lt, Int.not_le, gt_iff_lt, ge_iff_le, Bool.and_eq_true, Bool.or_eq_true, Bool.and_eq_false_iff, Bool.or_eq_false_iff, Decidable.not_not, not_true_eq_false, not_false_eq_true, and_true, true_and, or_false, false_or, or_true, true_or, and_false, false_and, eq_self, Bool.true_eq_false, Bool.false_eq_true] at hc) <;> (try (exfalso; omega)))
  case refine_1 =>
    (repeat (first | refine zz ?_ | refine zv fun _ => ?_))
    refine tri_block ?_
    (repeat (first | refine zz ?_ | refine zv fun _ => ?_))
    refine au_pure ?_ (hy := yl_idx (k := k) rfl rfl hA1.pd (ix_nat rfl) (by rfl) (by omega))
    refine au_pure ?_ (hy := yl_loadE rfl rfl hA1.pd (by rfl) (by omega) (by rfl))
    refine au_pure ?_ (hy := yl_len rfl rfl (hA1.pe k))
    (repeat (first | refine zz ?_ | refine zv fun _ => ?_))
    cases d6 : decide (((m.pd.getD k default).length : Int) > 60)
    case true =>
      have d6 := of_decide_eq_true d6
      have hno : (m.pd.all fun l => decide (l.length ≤ 60)) = false := by
        rw [← Bool.not_eq_true, all_get]
        intro x
        have := of_decide_eq_true (x k (by omega))
        omega
      (repeat (first | refine zz ?_ | refine zv fun _ => ?_))
      refine au_done1 rfl ?_
      exact fun w hw => ⟨(), by rw [e1, hno], hw.sub (by repeat (first | exact List.Sublist.refl _ | assumption | apply List.Sublist.cons_cons | apply List.Sublist.cons))⟩
    have d6 := of_decide_eq_false d6
    (repeat (first | refine zz ?_ | refine zv fun _ => ?_))
    exact tri_nx1 (k + 1) (by omega) ⟨by omega, all_st hq (decide_eq_true (by omega))⟩ (by repeat (first | exact trivial | refine ⟨rfl, ?_⟩)) (fun w h => h.sub (by repeat (first | exact List.Sublist.refl _ | assumption | apply List.Sublist.cons_cons | apply List.Sublist.cons)))
  have hke : k = m.pd.length := by omega
  subst hke
  (repeat (first | refine zz ?_ | refine zv fun _ => ?_))
  refine au_done1 rfl ?_
  exact fun w hw => ⟨(), by rw [e1, all_get.2 hq], hw.sub (by repeat (first | exact List.Sublist.refl _ | assumption | apply List.Sublist.cons_cons | apply List.Sublist.cons))⟩
end
end Go.Proofs.YtojfaelafakemaaGreat
