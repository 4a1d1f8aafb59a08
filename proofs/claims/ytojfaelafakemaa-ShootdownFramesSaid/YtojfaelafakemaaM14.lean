/- Texts joined: ShForms, ShBits. Each part's own remark says what it proves. -/
import Derived.Test.YtojfaelafakemaaM13
import Derived.Test.YtojfaelafakemaaM08
import Derived.KernelRfl
/- The walk of the shootdown machine's forms. No conditions. -/
set_option linter.unusedSimpArgs false
set_option linter.unusedVariables false
namespace Go.Proofs.Ytojfaelafakemaa
open Go Go.RowKit
attribute [local irreducible] decR enOk pgOk teOk ivOk tlOk checkM
theorem all_get {α : Type} [Inhabited α] {p : α → Bool} {l : List α} : l.all p = true ↔ ∀ j, j < l.length → p (l.getD j default) = true := by
  rw [List.all_eq_true]
  constructor
  · intro h j hj; exact h _ (mem_getD' hj)
  · intro h x hx
    obtain ⟨j, hj, rfl⟩ := List.getElem_of_mem hx
    have := h j hj
    rwa [getD_get hj] at this
theorem all_no {α : Type} [Inhabited α] {p : α → Bool} {l : List α} {j : Nat} (hj : j < l.length) (h : p (l.getD j default) = false) : l.all p = false := by
  cases e : l.all p
  · rfl
  · rw [all_get] at e; rw [e j hj] at h; cases h
section
variable {m : SM}
theorem form_tb {j : Nat} (hj : j < m.tb.length) (h : enOk m.wd.length (tbW m j) = false) : formM m = false := by
  have h' : (fun w : W64 => enOk m.wd.length w.v) (m.tb.getD j default) = false := h
  unfold formM
  rw [all_no hj h', Bool.false_and]
theorem form_tl {c : Nat} (hc : c < m.tl.length) (h : tlOk m (m.tl.getD c default) = false) : formM m = false := by
  unfold formM
  rw [all_no (p := tlOk m) hc h, Bool.false_and, Bool.and_false]
theorem form_pd {c : Nat} (hc : c < m.pd.length) (h : (m.pd.getD c default).all (ivOk m.tb.length) = false) : formM m = false := by
  have h' : (fun l : List IV => l.all (ivOk m.tb.length)) (m.pd.getD c default) = false := h
  unfold formM
  rw [all_no hc h', Bool.and_false, Bool.and_false]
theorem tlOk_chk {b : TL} (h : ¬ checkM b.z b.l = 0) : tlOk m b = false := by
  unfold tlOk
  rw [show (checkM b.z b.l == 0) = false by simpa using h]; rfl
theorem tlOk_te {b : TL} {k : Nat} (hk : k < b.l.length) (h : teOk m.wd.length m.tb.length (b.l.getD k default) = false) : tlOk m b = false := by
  unfold tlOk
  rw [all_no hk h]; simp
theorem form_yes (h1 : ∀ j, j < m.tb.length → enOk m.wd.length (m.tb.getD j default).v = true) (h2 : ∀ c, c < m.tl.length → tlOk m (m.tl.getD c default) = true) (h3 : ∀ c, c < m.pd.length → (m.pd.getD c default).all (ivOk m.tb.length) = true) : formM m = true := by
  unfold formM
  have h1' : m.tb.all (fun w => enOk m.wd.length w.v) = true := all_get.2 h1
  have h3' : (m.pd.all fun l => l.all (ivOk m.tb.length)) = true := all_get.2 h3
  rw [h1', all_get.2 h2, h3']; rfl
end
attribute [local irreducible] Code.wp wpList bodyPost Exit.then Exit.inBlock Calls wpQuiet Tri TriQ
section
variable (w0 : World) (cs : List Chunk)
set_option maxHeartbeats 4000000 in
theorem forms_c {h : SH} {xb : List TB} {xp : List SV} {m : SM} (hC : RdS (Hp w0 cs) h xb xp m) (hL : SLe m) (hpl : m.pd.length = m.tl.length) :
    Cal Try.prog 25 [hdV h] (Hp w0 cs) (fun _ : Unit => .bool (formM m)) (fun _ => Hp w0 cs) := by
  have htl := hC.tll
  have hpdl := hC.pdl
  have l1 := hL.tb
  have l2 := hL.tl
  have l3 := hL.pd
  refine cal_of_tri Try.func25 rfl Try.ntmps25 rfl ?_
  (repeat (first | refine tri_seq ?_ | refine tri_then ?_)); refine tri_region ?_; (repeat (first | refine au_pure ?_ | refine au_pass ?_ | refine au_box (fun _ => ?_) | refine au_alloc (fun _ => ?_) | refine au_store ?_ | refine au_make rfl rfl (fun _ => ?_) | refine au_lit rfl rfl rfl (fun _ => ?_) | refine au_append rfl rfl rfl rfl (fun _ => au_norm ?_) | refine au_storeE rfl rfl rfl rfl ?_)); refine tri_nil ?_; (repeat refine tri_then ?_)
  rename_i g1
  have hC1 := hC.cons (c := hdC g1 h)
  have hT := hC1.tb
  have hB := hC1.tl
  have hP := hC1.pd
  (repeat (first | refine zz ?_ | refine zv fun _ => ?_))
  refine au_pure ?_ (hy := yl_len rfl rfl hT)
  (repeat (first | refine zz ?_ | refine zv fun _ => ?_))
  refine tri_block ?_
  refine tri_loop1 (fun (k : Nat) => k ≤ m.tb.length ∧ ∀ j, j < k → enOk m.wd.length (tbW m j) = true) (fun k => [(1, .pointer (some ⟨g1, 0, none⟩)), (18, h.t.v), (19, .int .i64 (m.tb.length : Int)), (20, .int .i64 (k : Int))]) (fun _ => Hp w0 (hdC g1 h :: cs)) (fun k => m.tb.length - k)
    0 ⟨by omega, fun j hj => by omega⟩ (by repeat (first | exact trivial | refine ⟨rfl, ?_⟩)) (fun w h => h) ?_
  rintro k ⟨hk, hok⟩
  (repeat (first | refine zz ?_ | refine zv fun _ => ?_))
  ((first | refine tri_cond (by rfl) (fun hc => ?_) (fun hc => ?_) | refine tri_gsplit (by rfl) (by rfl) (by (fail_if_success exact (rfl : _ = some (Value.bool true))); (fail_if_success exact (rfl : _ = some (Value.bool false))); rfl) (fun hc => ?_) (fun hc => ?_)) <;> (try simp only [decide_eq_true_eq, decide_eq_false_iff_not, beq_iff_eq, bne_iff_ne, ne_eq, Bool.not_eq_true', Bool.not_eq_false', beq_eq_false_iff_ne, bne_eq_false_iff_eq, Int.not_lt, Int.not_le, gt_iff_lt, ge_iff_le, Bool.and_eq_true, Bool.or_eq_true, Bool.and_eq_false_iff, Bool.or_eq_false_iff, Decidable.not_not, not_true_eq_false, not_false_eq_true, and_true, true_and, or_false, false_or, or_true, true_or, and_false, false_and, eq_self, Bool.true_eq_false, Bool.false_eq_true] at hc) <;> (try (exfalso; omega)))
  · (repeat (first | refine zz ?_ | refine zv fun _ => ?_))
    refine tri_block ?_
    (repeat (first | refine zz ?_ | refine zv fun _ => ?_))
    refine au_pure ?_ (hy := yl_idx (k := k) rfl rfl hT (ix_nat rfl) (by rfl) (by omega))
    refine au_pure ?_ (hy := yl_loadE rfl rfl hT (by rfl) (by omega) (by rfl))
    have hw := hL.tw k
    have hno := form_tb (m := m) (j := k) (by omega)
    have hnx := fun he => all_next (k := k) hok he
    rw [show (m.tb.getD k default).v = tbW m k from rfl] at hw ⊢
    obtain ⟨w, hwe⟩ : ∃ w, w = tbW m k := ⟨_, rfl⟩
    rw [← hwe] at hw hno hnx ⊢
    obtain ⟨⟨kd, n, a, b, c, d⟩, u, hp⟩ : ∃ e u, decR w = (e, u) := ⟨_, _, rfl⟩
    have e1 : ¬ (u = 0 ∧ kd = 0) → enOk m.wd.length w = pgOk m.wd.length w := fun x => by unfold enOk; rw [hp, decide_eq_false x, Bool.false_or]
    have e2 : (u = 0 ∧ kd = 0) → enOk m.wd.length w = true := fun x => by unfold enOk; rw [hp, decide_eq_true x, Bool.true_or]
    (repeat (first | refine zz ?_ | refine zv fun _ => ?_))
    refine au_call rfl rfl (cl_of rfl rfl rfl (fun _ h => Ret.hp (decode_at _ hw.1 hw.2 hp) h)) ?_
    (repeat (first | refine au_pure ?_ | refine au_pass ?_ | refine au_box (fun _ => ?_) | refine au_alloc (fun _ => ?_) | refine au_store ?_ | refine au_make rfl rfl (fun _ => ?_) | refine au_lit rfl rfl rfl (fun _ => ?_) | refine au_append rfl rfl rfl rfl (fun _ => au_norm ?_) | refine au_storeE rfl rfl rfl rfl ?_)); refine tri_nil ?_; (repeat refine tri_then ?_)
    rename_i g5
    (repeat (first | refine tri_seq ?_ | refine tri_then ?_))
    refine tri_cut1 (fun b' : Bool => b' = !(decide (u = 0 ∧ kd = 0))) (fun b' => [(1, .pointer (some ⟨g1, 0, none⟩)), (4, .int .u64 w), (18, h.t.v), (19, .int .i64 (m.tb.length : Int)), (20, .int .i64 (k : Int)), (35, .bool b')]) (fun _ => Hp w0 (enC g5 kd n a b c d :: hdC g1 h :: cs)) ?_ ?_
    · (repeat (first | refine zz ?_ | refine zv fun _ => ?_))
      cases h2 : (u != 0)
      case true =>
        have h2 : ¬ u = 0 := bne_iff_ne.1 h2
        (repeat (first | refine zz ?_ | refine zv fun _ => ?_))
        exact tri_mt1 true (by rw [decide_eq_false fun x => h2 x.1]; rfl) (by repeat (first | exact trivial | refine ⟨rfl, ?_⟩)) (fun _ h => h)
      have h2 : u = 0 := by simpa using h2
      (repeat (first | refine zz ?_ | refine zv fun _ => ?_))
      exact tri_mt1 (kd != 0) (by subst h2; cases hk0 : (kd == 0) <;> simp_all) (by repeat (first | exact trivial | refine ⟨rfl, ?_⟩)) (fun _ h => h)
    intro b' hb'
    cases b' with
    | false =>
      have hh : (u = 0 ∧ kd = 0) := by simpa using hb'.symm
      (repeat (first | refine zz ?_ | refine zv fun _ => ?_))
      exact tri_nx1 (k + 1) (by omega) ⟨by omega, hnx (e2 hh)⟩ (by repeat (first | exact trivial | refine ⟨rfl, ?_⟩)) (fun w h => h.sub (by repeat (first | exact List.Sublist.refl _ | assumption | apply List.Sublist.cons_cons | apply List.Sublist.cons)))
    | true =>
      have hh : ¬ (u = 0 ∧ kd = 0) := by
        intro x
        rw [decide_eq_true x] at hb'
        cases hb'
      rw [e1 hh] at hno hnx
      (repeat (first | refine zz ?_ | refine zv fun _ => ?_))
      refine au_callC rfl rfl rfl rfl rfl (page_at w0 _ hp hw.1 hw.2 (hC1.wd.cons) hL.wd) (fun _ => ?_)
      cases h4 : pgOk m.wd.length w
      · (repeat (first | refine zz ?_ | refine zv fun _ => ?_))
        refine au_done1 rfl ?_
        exact fun w hw => ⟨(), by rw [hno h4], hw.sub (by repeat (first | exact List.Sublist.refl _ | assumption | apply List.Sublist.cons_cons | apply List.Sublist.cons))⟩
      · (repeat (first | refine zz ?_ | refine zv fun _ => ?_))
        exact tri_nx1 (k + 1) (by omega) ⟨by omega, hnx h4⟩ (by repeat (first | exact trivial | refine ⟨rfl, ?_⟩)) (fun w h => h.sub (by repeat (first | exact List.Sublist.refl _ | assumption | apply List.Sublist.cons_cons | apply List.Sublist.cons)))
  · have hkt : k = m.tb.length := by omega
    subst hkt
    (repeat (first | refine zz ?_ | refine zv fun _ => ?_))
    refine au_pure ?_ (hy := yl_len rfl rfl hB)
    (repeat (first | refine zz ?_ | refine zv fun _ => ?_))
    refine tri_block ?_
    refine tri_loop1 (fun (c : Nat) => c ≤ xb.length ∧ ∀ j, j < c → tlOk m (m.tl.getD j default) = true ∧ (m.pd.getD j default).all (ivOk m.tb.length) = true) (fun c => [(1, .pointer (some ⟨g1, 0, none⟩)), (46, h.b.v), (47, .int .i64 (xb.length : Int)), (48, .int .i64 (c : Int))]) (fun _ => Hp w0 (hdC g1 h :: cs)) (fun c => xb.length - c)
      0 ⟨by omega, fun j hj => by omega⟩ (by repeat (first | exact trivial | refine ⟨rfl, ?_⟩)) (fun w h => h) ?_
    rintro c ⟨hcl, hok2⟩
    (repeat (first | refine zz ?_ | refine zv fun _ => ?_))
    ((first | refine tri_cond (by rfl) (fun hc => ?_) (fun hc => ?_) | refine tri_gsplit (by rfl) (by rfl) (by (fail_if_success exact (rfl : _ = some (Value.bool true))); (fail_if_success exact (rfl : _ = some (Value.bool false))); rfl) (fun hc => ?_) (fun hc => ?_)) <;> (try simp only [decide_eq_true_eq, decide_eq_false_iff_not, beq_iff_eq, bne_iff_ne, ne_eq, Bool.not_eq_true', Bool.not_eq_false', beq_eq_false_iff_ne, bne_eq_false_iff_eq, Int.not_lt, Int.not_le, gt_iff_lt, ge_iff_le, Bool.and_eq_true, Bool.or_eq_true, Bool.and_eq_false_iff, Bool.or_eq_false_iff, Decidable.not_not, not_true_eq_false, not_false_eq_true, and_true, true_and, or_false, false_or, or_true, true_or, and_false, false_and, eq_self, Bool.true_eq_false, Bool.false_eq_true] at hc) <;> (try (exfalso; omega)))
    · (repeat (first | refine zz ?_ | refine zv fun _ => ?_))
      refine tri_block ?_
      (repeat (first | refine zz ?_ | refine zv fun _ => ?_))
      refine au_pure ?_ (hy := yl_idx (k := c) rfl rfl hB (ix_nat rfl) (by rfl) (by omega))
      refine au_pure ?_ (hy := yl_loadEN rfl rfl hB (by rfl) (by omega) (by repeat (first | exact nf0 rfl | apply nfS rfl | exact nfR)) (by rfl))
      have hz := hC.tz c
      have hE := hC1.te c
      have hle := hL.te c
      have hew := hL.ew c
      have hPe := hC1.pe c
      have hpe := hL.pe c
      have hf1 := form_tl (m := m) (c := c) (by omega)
      have hf2 := form_pd (m := m) (c := c) (by omega)
      have hnx := fun a b => all_next (k := c) (q := fun j => tlOk m (m.tl.getD j default) = true ∧ (m.pd.getD j default).all (ivOk m.tb.length) = true) hok2 ⟨a, b⟩
      rw [hz]
      obtain ⟨xv, hxv⟩ : ∃ xv, xv = (xb.getD c default).s := ⟨_, rfl⟩
      obtain ⟨b, hb⟩ : ∃ b, b = m.tl.getD c default := ⟨_, rfl⟩
      obtain ⟨pl, hpl2⟩ : ∃ pl, pl = m.pd.getD c default := ⟨_, rfl⟩
      rw [← hxv, ← hb] at hE
      rw [← hb] at hle hew hf1 hnx
      rw [← hpl2] at hPe hpe hf2 hnx
      rw [← hxv, ← hb]
      (repeat (first | refine zz ?_ | refine zv fun _ => ?_))
      rename_i g10
      have hE2 := hE.cons (c := tlbC g10 b.z xv.v)
      refine au_callC rfl rfl rfl rfl rfl (check_c w0 _ (z := b.z) (l := b.l) hE2 hle hew) (fun _ => ?_)
      (repeat (first | refine zz ?_ | refine zv fun _ => ?_))
      cases hck : (checkM b.z b.l != 0)
      case true =>
        (repeat (first | refine zz ?_ | refine zv fun _ => ?_))
        refine au_done1 rfl ?_
        exact fun w hw => ⟨(), by rw [hf1 (tlOk_chk (by simpa using hck))], hw.sub (by repeat (first | exact List.Sublist.refl _ | assumption | apply List.Sublist.cons_cons | apply List.Sublist.cons))⟩
      have hck : checkM b.z b.l = 0 := by simpa using hck
      (repeat (first | refine zz ?_ | refine zv fun _ => ?_))
      refine au_pure ?_ (hy := yl_len rfl rfl hE2)
      (repeat (first | refine zz ?_ | refine zv fun _ => ?_))
      refine tri_block ?_
      refine tri_loop1 (fun (k : Nat) => k ≤ b.l.length ∧ ∀ j, j < k → teOk m.wd.length m.tb.length (b.l.getD j default) = true) (fun k => [(1, .pointer (some ⟨g1, 0, none⟩)), (9, .int .i64 (c : Int)), (46, h.b.v), (47, .int .i64 (xb.length : Int)), (48, .int .i64 (c : Int)), (57, xv.v), (58, .int .i64 (b.l.length : Int)), (59, .int .i64 (k : Int))]) (fun _ => Hp w0 (tlbC g10 b.z xv.v :: hdC g1 h :: cs)) (fun k => b.l.length - k)
        0 ⟨by omega, fun j hj => by omega⟩ (by repeat (first | exact trivial | refine ⟨rfl, ?_⟩)) (fun w h => h) ?_
      rintro k ⟨hk, hok3⟩
      (repeat (first | refine zz ?_ | refine zv fun _ => ?_))
      ((first | refine tri_cond (by rfl) (fun hc => ?_) (fun hc => ?_) | refine tri_gsplit (by rfl) (by rfl) (by (fail_if_success exact (rfl : _ = some (Value.bool true))); (fail_if_success exact (rfl : _ = some (Value.bool false))); rfl) (fun hc => ?_) (fun hc => ?_)) <;> (try simp only [decide_eq_true_eq, decide_eq_false_iff_not, beq_iff_eq, bne_iff_ne, ne_eq, Bool.not_eq_true', Bool.not_eq_false', beq_eq_false_iff_ne, bne_eq_false_iff_eq, Int.not_lt, Int.not_le, gt_iff_lt, ge_iff_le, Bool.and_eq_true, Bool.or_eq_true, Bool.and_eq_false_iff, Bool.or_eq_false_iff, Decidable.not_not, not_true_eq_false, not_false_eq_true, and_true, true_and, or_false, false_or, or_true, true_or, and_false, false_and, eq_self, Bool.true_eq_false, Bool.false_eq_true] at hc) <;> (try (exfalso; omega)))
      · (repeat (first | refine zz ?_ | refine zv fun _ => ?_))
        refine tri_block ?_
        (repeat (first | refine zz ?_ | refine zv fun _ => ?_))
        refine au_pure ?_ (hy := yl_idx (k := k) rfl rfl hE2 (ix_nat rfl) (by rfl) (by omega))
        refine au_pure ?_ (hy := yl_loadEN rfl rfl hE2 (by rfl) (by omega) (by repeat (first | exact nf0 rfl | apply nfS rfl | exact nfR)) (by rfl))
        have hkl : k < b.l.length := by omega
        have htw := hew _ (mem_getD' hkl)
        have hno := fun e => hf1 (tlOk_te (m := m) hkl e)
        have hnx3 := fun e => all_next (k := k) (q := fun j => teOk m.wd.length m.tb.length (b.l.getD j default) = true) hok3 e
        obtain ⟨t, ht⟩ : ∃ t, t = b.l.getD k default := ⟨_, rfl⟩
        rw [← ht] at htw hno hnx3 ⊢
        have htw2 := htw.2.2
        (repeat (first | refine zz ?_ | refine zv fun _ => ?_))
        rename_i g12
        refine au_callC rfl rfl rfl rfl rfl (page_c w0 _ t.w htw2.1 htw2.2 (hC1.wd.cons.cons) hL.wd) (fun _ => ?_)
        have hte : teOk m.wd.length m.tb.length t = (pgOk m.wd.length t.w && (t.s == 0 && decide (t.p < m.tb.length))) := by unfold teOk; rfl
        cases h1 : pgOk m.wd.length t.w
        case false =>
          (repeat (first | refine zz ?_ | refine zv fun _ => ?_))
          refine au_done1 rfl ?_
          exact fun w hw => ⟨(), by rw [hno (by rw [hte, h1]; rfl)], hw.sub (by repeat (first | exact List.Sublist.refl _ | assumption | apply List.Sublist.cons_cons | apply List.Sublist.cons))⟩
        (repeat (first | refine zz ?_ | refine zv fun _ => ?_))
        cases h2 : (t.s != 0)
        case true =>
          (repeat (first | refine zz ?_ | refine zv fun _ => ?_))
          refine au_done1 rfl ?_
          exact fun w hw => ⟨(), by rw [hno (by rw [hte, h1, show (t.s == 0) = false by simpa using h2]; rfl)], hw.sub (by repeat (first | exact List.Sublist.refl _ | assumption | apply List.Sublist.cons_cons | apply List.Sublist.cons))⟩
        have h2 : t.s = 0 := by simpa using h2
        (repeat (first | refine zz ?_ | refine zv fun _ => ?_))
        refine au_pure ?_ (hy := yl_len rfl rfl (hT.cons.cons.cons))
        (repeat (first | refine zz ?_ | refine zv fun _ => ?_))
        cases h3 : decide (t.p ≥ (m.tb.length : Int))
        · have h3 := of_decide_eq_false h3
          (repeat (first | refine zz ?_ | refine zv fun _ => ?_))
          exact tri_nx1 (k + 1) (by omega) ⟨by omega, hnx3 (by rw [hte, h1, h2, decide_eq_true (by omega)]; rfl)⟩ (by repeat (first | exact trivial | refine ⟨rfl, ?_⟩)) (fun w h => h.sub (by repeat (first | exact List.Sublist.refl _ | assumption | apply List.Sublist.cons_cons | apply List.Sublist.cons)))
        · have h3 := of_decide_eq_true h3
          (repeat (first | refine zz ?_ | refine zv fun _ => ?_))
          refine au_done1 rfl ?_
          exact fun w hw => ⟨(), by rw [hno (by rw [hte, decide_eq_false (show ¬ t.p < (m.tb.length : Int) by omega)]; simp)], hw.sub (by repeat (first | exact List.Sublist.refl _ | assumption | apply List.Sublist.cons_cons | apply List.Sublist.cons))⟩
      · have hkb : k = b.l.length := by omega
        subst hkb
        have htl3 : tlOk m b = true := by
          unfold tlOk
          rw [all_get.2 hok3, hck]; rfl
        (repeat (first | refine zz ?_ | refine zv fun _ => ?_))
        refine au_pure ?_ (hy := yl_idx (k := c) rfl rfl hP.cons (ix_nat rfl) (by rfl) (by omega))
        refine au_pure ?_ (hy := yl_loadE rfl rfl hP.cons (by rfl) (by omega) (by rfl))
        have hPe2 := hPe.cons (c := tlbC g10 b.z xv.v)
        refine au_pure ?_ (hy := yl_len rfl rfl hPe2)
        (repeat (first | refine zz ?_ | refine zv fun _ => ?_))
        refine tri_block ?_
        refine tri_loop1 (fun (k : Nat) => k ≤ pl.length ∧ ∀ j, j < k → ivOk m.tb.length (pl.getD j default) = true) (fun k => [(1, .pointer (some ⟨g1, 0, none⟩)), (46, h.b.v), (47, .int .i64 (xb.length : Int)), (48, .int .i64 (c : Int)), (90, (xp.getD c default).v), (91, .int .i64 (pl.length : Int)), (92, .int .i64 (k : Int))]) (fun _ => Hp w0 (tlbC g10 b.z xv.v :: hdC g1 h :: cs)) (fun k => pl.length - k)
          0 ⟨by omega, fun j hj => by omega⟩ (by repeat (first | exact trivial | refine ⟨rfl, ?_⟩)) (fun w h => h) ?_
        rintro k ⟨hk, hok4⟩
        (repeat (first | refine zz ?_ | refine zv fun _ => ?_))
        ((first | refine tri_cond (by rfl) (fun hc => ?_) (fun hc => ?_) | refine tri_gsplit (by rfl) (by rfl) (by (fail_if_success exact (rfl : _ = some (Value.bool true))); (fail_if_success exact (rfl : _ = some (Value.bool false))); rfl) (fun hc => ?_) (fun hc => ?_)) <;> (try simp only [decide_eq_true_eq, decide_eq_false_iff_not, beq_iff_eq, bne_iff_ne, ne_eq, Bool.not_eq_true', Bool.not_eq_false', beq_eq_false_iff_ne, bne_eq_false_iff_eq, Int.not_lt, Int.not_le, gt_iff_lt, ge_iff_le, Bool.and_eq_true, Bool.or_eq_true, Bool.and_eq_false_iff, Bool.or_eq_false_iff, Decidable.not_not, not_true_eq_false, not_false_eq_true, and_true, true_and, or_false, false_or, or_true, true_or, and_false, false_and, eq_self, Bool.true_eq_false, Bool.false_eq_true] at hc) <;> (try (exfalso; omega)))
        · (repeat (first | refine zz ?_ | refine zv fun _ => ?_))
          refine tri_block ?_
          (repeat (first | refine zz ?_ | refine zv fun _ => ?_))
          refine au_pure ?_ (hy := yl_idx (k := k) rfl rfl hPe2 (ix_nat rfl) (by rfl) (by omega))
          refine au_pure ?_ (hy := yl_loadEN rfl rfl hPe2 (by rfl) (by omega) (by repeat (first | exact nf0 rfl | apply nfS rfl | exact nfR)) (by rfl))
          have hkl : k < pl.length := by omega
          have hno := fun e => hf2 (all_no (p := ivOk m.tb.length) hkl e)
          have hnx4 := fun e => all_next (k := k) (q := fun j => ivOk m.tb.length (pl.getD j default) = true) hok4 e
          obtain ⟨v, hv⟩ : ∃ v, v = pl.getD k default := ⟨_, rfl⟩
          rw [← hv] at hno hnx4 ⊢
          have hiv : ivOk m.tb.length v = decide (v.s = 0 ∧ 0 ≤ v.p ∧ v.p < m.tb.length ∧ v.o = false) := by unfold ivOk; rfl
          rw [hiv] at hno hnx4
          (repeat (first | refine zz ?_ | refine zv fun _ => ?_))
          cases h1 : (v.s != 0)
          case true =>
            have h1 := bne_iff_ne.1 h1
            (repeat (first | refine zz ?_ | refine zv fun _ => ?_))
            refine au_done1 rfl ?_
            exact fun w hw => ⟨(), by rw [hno (decide_eq_false fun x => h1 x.1)], hw.sub (by repeat (first | exact List.Sublist.refl _ | assumption | apply List.Sublist.cons_cons | apply List.Sublist.cons))⟩
          have h1 : v.s = 0 := by simpa using h1
          (repeat (first | refine zz ?_ | refine zv fun _ => ?_))
          cases h2 : decide (v.p < 0)
          case true =>
            have h2 := of_decide_eq_true h2
            (repeat (first | refine zz ?_ | refine zv fun _ => ?_))
            refine au_done1 rfl ?_
            exact fun w hw => ⟨(), by rw [hno (decide_eq_false fun x => by omega)], hw.sub (by repeat (first | exact List.Sublist.refl _ | assumption | apply List.Sublist.cons_cons | apply List.Sublist.cons))⟩
          have h2 := of_decide_eq_false h2
          (repeat (first | refine zz ?_ | refine zv fun _ => ?_))
          refine au_pure ?_ (hy := yl_len rfl rfl (hT.cons.cons))
          (repeat (first | refine zz ?_ | refine zv fun _ => ?_))
          cases h3 : decide (v.p ≥ (m.tb.length : Int))
          case true =>
            have h3 := of_decide_eq_true h3
            (repeat (first | refine zz ?_ | refine zv fun _ => ?_))
            refine au_done1 rfl ?_
            exact fun w hw => ⟨(), by rw [hno (decide_eq_false fun x => by omega)], hw.sub (by repeat (first | exact List.Sublist.refl _ | assumption | apply List.Sublist.cons_cons | apply List.Sublist.cons))⟩
          have h3 := of_decide_eq_false h3
          (repeat (first | refine zz ?_ | refine zv fun _ => ?_))
          cases h4 : v.o
          · (repeat (first | refine zz ?_ | refine zv fun _ => ?_))
            exact tri_nx1 (k + 1) (by omega) ⟨by omega, hnx4 (decide_eq_true ⟨h1, by omega, by omega, h4⟩)⟩ (by repeat (first | exact trivial | refine ⟨rfl, ?_⟩)) (fun w h => h.sub (by repeat (first | exact List.Sublist.refl _ | assumption | apply List.Sublist.cons_cons | apply List.Sublist.cons)))
          · (repeat (first | refine zz ?_ | refine zv fun _ => ?_))
            refine au_done1 rfl ?_
            exact fun w hw => ⟨(), by rw [hno (decide_eq_false fun x => by rw [x.2.2.2] at h4; cases h4)], hw.sub (by repeat (first | exact List.Sublist.refl _ | assumption | apply List.Sublist.cons_cons | apply List.Sublist.cons))⟩
        · have hkp : k = pl.length := by omega
          subst hkp
          (repeat (first | refine zz ?_ | refine zv fun _ => ?_))
          exact tri_nx1 (c + 1) (by omega) ⟨by omega, hnx htl3 (all_get.2 hok4)⟩ (by repeat (first | exact trivial | refine ⟨rfl, ?_⟩)) (fun w h => h.sub (by repeat (first | exact List.Sublist.refl _ | assumption | apply List.Sublist.cons_cons | apply List.Sublist.cons)))
    · have hcx : c = xb.length := by omega
      subst hcx
      (repeat (first | refine zz ?_ | refine zv fun _ => ?_))
      refine au_done1 rfl ?_
      exact fun w hw => ⟨(), by rw [form_yes hok (fun c hc => (hok2 c (by omega)).1) (fun c hc => (hok2 c (by omega)).2)], hw.sub (by repeat (first | exact List.Sublist.refl _ | assumption | apply List.Sublist.cons_cons | apply List.Sublist.cons))⟩
end
end Go.Proofs.Ytojfaelafakemaa

/- Masks of up to four processors. No conditions. -/
set_option linter.unusedSimpArgs false
set_option linter.unusedVariables false
namespace Go.Proofs.Ytojfaelafakemaa
open Go Go.RowKit
theorem fin2 (P : Nat → Nat → Bool) (h : ((List.range 16).all fun n => (List.range 4).all (P n)) = true) {a : Int} {c : Nat} (ha : 0 ≤ a ∧ a < 16) (hc : c < 4) : ∃ n : Nat, a = (n : Int) ∧ P n c = true := by
  refine ⟨a.toNat, by omega, ?_⟩
  have h1 := List.all_eq_true.1 h a.toNat (List.mem_range.2 (by omega))
  exact List.all_eq_true.1 h1 c (List.mem_range.2 hc)
theorem shl_eq {c : Nat} (hc : c ≤ 4) : IntKind.i64.wrap (1 * 2 ^ (min (Int.toNat (c : Int)) (IntKind.bits .i64))) = 2 ^ c := by
  have : c = 0 ∨ c = 1 ∨ c = 2 ∨ c = 3 ∨ c = 4 := by omega
  rcases this with rfl | rfl | rfl | rfl | rfl <;> decide
theorem bit_eq {a : Int} {c : Nat} (ha : 0 ≤ a ∧ a < 16) (hc : c < 4) : (bits .and .i64 (a.fdiv (2 ^ (min (Int.toNat (c : Int)) (IntKind.bits .i64)))) 1 == 1) = bitA a c := by
  obtain ⟨n, rfl, h⟩ := fin2 (fun n c => (bits .and .i64 ((n : Int).fdiv (2 ^ (min (Int.toNat (c : Int)) (IntKind.bits .i64)))) 1 == 1) == bitA (n : Int) c) (by kernel_rfl) ha hc
  exact beq_iff_eq.1 h
theorem bit2_eq {a : Int} {c : Nat} (ha : 0 ≤ a ∧ a < 16) (hc : c < 4) : (a.fdiv (2 ^ (min (Int.toNat (c : Int)) (IntKind.bits .i64))) % 2 == 1) = bitA a c := by
  obtain ⟨n, rfl, h⟩ := fin2 (fun n c => ((n : Int).fdiv (2 ^ (min (Int.toNat (c : Int)) (IntKind.bits .i64))) % 2 == 1) == bitA (n : Int) c) (by kernel_rfl) ha hc
  exact beq_iff_eq.1 h
theorem fdiv_bd {a : Int} {c : Nat} (ha : 0 ≤ a ∧ a < 16) (hc : c < 4) : 0 ≤ a.fdiv (2 ^ (min (Int.toNat (c : Int)) (IntKind.bits .i64))) ∧ a.fdiv (2 ^ (min (Int.toNat (c : Int)) (IntKind.bits .i64))) < 16 := by
  obtain ⟨n, rfl, h⟩ := fin2 (fun n c => decide (0 ≤ (n : Int).fdiv (2 ^ (min (Int.toNat (c : Int)) (IntKind.bits .i64))) ∧ (n : Int).fdiv (2 ^ (min (Int.toNat (c : Int)) (IntKind.bits .i64))) < 16)) (by kernel_rfl) ha hc
  exact of_decide_eq_true h
theorem clr_eq {a : Int} {c : Nat} (ha : 0 ≤ a ∧ a < 16) (hc : c < 4) : bits .andNot .i64 a (2 ^ c) = if bitA a c = true then a - 2 ^ c else a := by
  obtain ⟨n, rfl, h⟩ := fin2 (fun n c => bits .andNot .i64 (n : Int) (2 ^ c) == if bitA (n : Int) c = true then (n : Int) - 2 ^ c else (n : Int)) (by kernel_rfl) ha hc
  exact beq_iff_eq.1 h
theorem or_eq {a : Int} {c : Nat} (ha : 0 ≤ a ∧ a < 2 ^ c) (hc : c < 4) : bits .or .i64 a (2 ^ c) = a + 2 ^ c := by
  have h4 : (2 : Int) ^ c ≤ 8 := by
    have : c = 0 ∨ c = 1 ∨ c = 2 ∨ c = 3 := by omega
    rcases this with rfl | rfl | rfl | rfl <;> decide
  obtain ⟨n, rfl, h⟩ := fin2 (fun n c => !(decide ((n : Int) < 2 ^ c)) || bits .or .i64 (n : Int) (2 ^ c) == (n : Int) + 2 ^ c) (by kernel_rfl) (a := a) ⟨ha.1, by omega⟩ hc
  rw [decide_eq_true ha.2] at h
  simpa using h
theorem clr_bd {a : Int} {c : Nat} (ha : 0 ≤ a ∧ a < 16) (hc : c < 4) : 0 ≤ (if bitA a c = true then a - 2 ^ c else a) ∧ (if bitA a c = true then a - 2 ^ c else a) ≤ a := by
  obtain ⟨n, rfl, h⟩ := fin2 (fun n c => decide (0 ≤ (if bitA (n : Int) c = true then (n : Int) - 2 ^ c else (n : Int)) ∧ (if bitA (n : Int) c = true then (n : Int) - 2 ^ c else (n : Int)) ≤ (n : Int))) (by kernel_rfl) ha hc
  exact of_decide_eq_true h
theorem pow_le {c : Nat} (hc : c ≤ 4) : 1 ≤ (2 : Int) ^ c ∧ (2 : Int) ^ c ≤ 16 := by
  have : c = 0 ∨ c = 1 ∨ c = 2 ∨ c = 3 ∨ c = 4 := by omega
  rcases this with rfl | rfl | rfl | rfl | rfl <;> decide
end Go.Proofs.Ytojfaelafakemaa
