/- Texts joined: ShROps2, ShROps3. Each part's own remark says what it proves. -/
import Derived.Test.YtojfaelafakemaaGreatM28
/- The walks of the reference of the shootdown machine: Quiet, Free, Map. No conditions. -/
set_option linter.unusedSimpArgs false
set_option linter.unusedVariables false
namespace Go.Proofs.YtojfaelafakemaaGreat
open Go Go.RowKit
attribute [local irreducible] decR enOk pgOk teOk ivOk tlOk checkM lbOk formM limM schk lookM rlbOk rlimM
theorem rused {m : SM} (hf : formM m = true) {f : Int} (h0 : 0 ≤ f) : decide ((rmapN m f m.tb.length : Int) = 0) = !usedT m m.tb.length f := by
  have h := mapN_zero hf h0 m.tb.length (Nat.le_refl _)
  rw [Bool.eq_iff_iff, decide_eq_true_eq, Bool.not_eq_true', ← Bool.not_eq_true, ← h]
  omega
theorem rwaits (m : SM) (f : Int) : decide (idxM (fun x : LB => x.f == f) m.lm < 0) = !usedL m m.lm.length f := by
  have h := idxM_ge (fun x : LB => x.f == f) m.lm
  unfold usedL
  rw [List.take_length, ← h, Bool.eq_iff_iff, decide_eq_true_eq, Bool.not_eq_true', decide_eq_false_iff_not]
  omega
theorem sc_up1 {w0 w : World} {q : SR} {m : SM} {G A : Chunk} {cs X : List Chunk} (h : Hp w0 (G :: (SC q m ++ X)) w) (hs : (A :: cs).Sublist X) : Hp w0 (A :: G :: (SC q m ++ cs)) w :=
  HpM.perm (h.sub (List.Sublist.cons_cons G (List.Sublist.append_left hs (SC q m)))) ((List.Perm.cons G List.perm_middle).trans (List.Perm.swap _ _ _))
attribute [local irreducible] Code.wp wpList bodyPost Exit.then Exit.inBlock Calls wpQuiet Tri TriQ
section
variable (w0 : World) (cs : List Chunk)
set_option maxHeartbeats 1000000 in
theorem rquiet_c {h : SH} {xb : List TB} {xp : List SV} {m : SM} (hC : RdS (Hp w0 cs) h xb xp m) (hL : SLe m) :
    Cal Tryz.prog 13 [hdV h] (Hp w0 cs) (fun _ : Unit => .bool (quietM m)) (fun _ => Hp w0 cs) := by
  have hpl := hC.pdl
  have l3 := hL.pd
  refine cal_of_tri Tryz.func13 rfl Tryz.ntmps13 rfl ?_
  (repeat (first | refine tri_seq ?_ | refine tri_then ?_)); refine tri_region ?_; (repeat (first | refine au_pure ?_ | refine au_pass ?_ | refine au_box (fun _ => ?_) | refine au_alloc (fun _ => ?_) | refine au_store ?_ | refine au_make rfl rfl (fun _ => ?_) | refine au_lit rfl rfl rfl (fun _ => ?_) | refine au_append rfl rfl rfl rfl (fun _ => au_norm ?_) | refine au_storeE rfl rfl rfl rfl ?_)); refine tri_nil ?_; (repeat refine tri_then ?_)
  rename_i g1
  have hC1 := hC.cons (c := hdC g1 h)
  (repeat (first | refine zz ?_ | refine zv fun _ => ?_))
  refine au_callC rfl rfl rfl rfl rfl (rscheck_c w0 _ hC1 hL) (fun _ => ?_)
  (repeat (first | refine zz ?_ | refine zv fun _ => ?_))
  cases h1 : (schk m != 0)
  case true =>
    have h1 := bne_iff_ne.1 h1
    (repeat (first | refine zz ?_ | refine zv fun _ => ?_))
    refine au_done1 rfl ?_
    exact fun w hw => ⟨(), by unfold quietM; rw [decide_eq_false h1]; rfl, hw.sub (by repeat (first | exact List.Sublist.refl _ | assumption | apply List.Sublist.cons_cons | apply List.Sublist.cons))⟩
  have h1 : schk m = 0 := by simpa using h1
  have e1 : quietM m = m.pd.all fun l => l.isEmpty := by unfold quietM; rw [decide_eq_true h1, Bool.true_and]
  (repeat (first | refine zz ?_ | refine zv fun _ => ?_))
  refine tri_block ?_
  refine tri_loop1 (fun (k : Nat) => k ≤ m.pd.length ∧ ∀ j, j < k → (m.pd.getD j default).isEmpty = true) (fun k => [(1, .pointer (some ⟨g1, 0, none⟩)), (3, .int .i64 (k : Int))]) (fun _ => Hp w0 (hdC g1 h :: cs)) (fun k => m.pd.length - k)
    0 ⟨by omega, fun j hj => absurd hj (Nat.not_lt_zero j)⟩ (by repeat (first | exact trivial | refine ⟨rfl, ?_⟩)) (fun w h => h) ?_
  rintro k ⟨hk, hok⟩
  (repeat (first | refine zz ?_ | refine zv fun _ => ?_))
  refine au_pure ?_ (hy := yl_len rfl rfl hC1.pd)
  (repeat (first | refine zz ?_ | refine zv fun _ => ?_))
  ((first | refine tri_cond (by rfl) (fun hc => ?_) (fun hc => ?_) | refine tri_gsplit (by rfl) (by rfl) (by (fail_if_success exact (rfl : _ = some (Value.bool true))); (fail_if_success exact (rfl : _ = some (Value.bool false))); rfl) (fun hc => ?_) (fun hc => ?_)) <;> (try simp only [decide_eq_true_eq, decide_eq_false_iff_not, beq_iff_eq, bne_iff_ne, ne_eq, Bool.not_eq_true', Bool.not_eq_false', beq_eq_false_iff_ne, bne_eq_false_iff_eq, Int.not_lt, Int.not_le, gt_iff_lt, ge_iff_le, Bool.and_eq_true, Bool.or_eq_true, Bool.and_eq_false_iff, Bool.or_eq_false_iff, Decidable.not_not, not_true_eq_false, not_false_eq_true, and_true, true_and, or_false, false_or, or_true, true_or, and_false, false_and, eq_self, Bool.true_eq_false, Bool.false_eq_true] at hc) <;> (try (exfalso; omega)))
  · have hlk := hL.pe k
    (repeat (first | refine zz ?_ | refine zv fun _ => ?_))
    refine tri_block ?_
    (repeat (first | refine zz ?_ | refine zv fun _ => ?_))
    refine au_pure ?_ (hy := yl_idx (k := k) rfl rfl hC1.pd (ix_nat rfl) (by rfl) (by omega))
    refine au_pure ?_ (hy := yl_loadE rfl rfl hC1.pd (by rfl) (by omega) (by rfl))
    refine au_pure ?_ (hy := yl_len rfl rfl (hC1.pe k))
    (repeat (first | refine zz ?_ | refine zv fun _ => ?_))
    cases h2 : decide (((m.pd.getD k default).length : Int) > 0)
    case true =>
      have h2 := of_decide_eq_true h2
      (repeat (first | refine zz ?_ | refine zv fun _ => ?_))
      refine au_done1 rfl ?_
      refine fun w hw => ⟨(), ?_, hw.sub (by repeat (first | exact List.Sublist.refl _ | assumption | apply List.Sublist.cons_cons | apply List.Sublist.cons))⟩
      have : (m.pd.all fun l => l.isEmpty) = false := by
        rw [← Bool.not_eq_true, all_get]
        intro x
        have := x k (by omega)
        rw [List.isEmpty_iff] at this
        rw [this] at h2
        simp at h2
      rw [e1, this]
    have h2 := of_decide_eq_false h2
    (repeat (first | refine zz ?_ | refine zv fun _ => ?_))
    refine tri_nx1 (k + 1) (by omega) ⟨by omega, fun j hj => ?_⟩ (by repeat (first | exact trivial | refine ⟨rfl, ?_⟩)) (fun w h => h.sub (by repeat (first | exact List.Sublist.refl _ | assumption | apply List.Sublist.cons_cons | apply List.Sublist.cons)))
    by_cases e : j = k
    · rw [e, List.isEmpty_iff, ← List.length_eq_zero_iff]; omega
    · exact hok j (by omega)
  · have hke : k = m.pd.length := by omega
    subst hke
    (repeat (first | refine zz ?_ | refine zv fun _ => ?_))
    refine au_done1 rfl ?_
    exact fun w hw => ⟨(), by rw [e1, all_get.2 hok], hw.sub (by repeat (first | exact List.Sublist.refl _ | assumption | apply List.Sublist.cons_cons | apply List.Sublist.cons))⟩
set_option maxHeartbeats 2000000 in
theorem rfree_c {h : SH} {xb : List TB} {xp : List SV} {m : SM} (hC : RdS (Hp w0 cs) h xb xp m) (hL : SLe m) :
    Cal Tryz.prog 16 [hdV h] (Hp w0 cs) (fun r : Row => r.v) (fun r => Hp w0 (inS r (freeM m) :: cs)) := by
  refine cal_of_tri Tryz.func16 rfl Tryz.ntmps16 rfl ?_
  (repeat (first | refine tri_seq ?_ | refine tri_then ?_)); refine tri_region ?_; (repeat (first | refine au_pure ?_ | refine au_pass ?_ | refine au_box (fun _ => ?_) | refine au_alloc (fun _ => ?_) | refine au_store ?_ | refine au_make rfl rfl (fun _ => ?_) | refine au_lit rfl rfl rfl (fun _ => ?_) | refine au_append rfl rfl rfl rfl (fun _ => au_norm ?_) | refine au_storeE rfl rfl rfl rfl ?_)); refine tri_nil ?_; (repeat refine tri_then ?_)
  rename_i g1
  have hC1 := hC.cons (c := hdC g1 h)
  refine tri_weak (H' := Hp w0 (hdC g1 h :: cs)) (fun w h => h) ?_
  (repeat (first | refine zz ?_ | refine zv fun _ => ?_))
  refine au_callC rfl rfl rfl rfl rfl (rscheck_c w0 _ hC1 hL) (fun _ => ?_)
  (repeat (first | refine zz ?_ | refine zv fun _ => ?_))
  cases h1 : (schk m != 0)
  case true =>
    have h1 := bne_iff_ne.1 h1
    have e1 : freeM m = [] := by unfold freeM; rw [if_pos h1]
    (repeat (first | refine zz ?_ | refine zv fun _ => ?_))
    refine au_done1 rfl ?_
    intro w hw
    refine ⟨Row.nil w0.heap.size, rfl, ?_⟩
    rw [e1]
    exact (hw.sub (show cs.Sublist _ from (by repeat (first | exact List.Sublist.refl _ | assumption | apply List.Sublist.cons_cons | apply List.Sublist.cons)))).push0 rfl rfl (Own.nil w _ _)
  have h1 : schk m = 0 := by simpa using h1
  have hV := schk_zero.1 h1
  have hr := hV.r
  refine tri_nilrow Int 3 ?_
  (repeat (first | refine zz ?_ | refine zv fun _ => ?_))
  refine tri_block ?_
  refine tri_loop2 (fun (k : Nat) (_ : Row) => k ≤ m.wd.length) (fun k ro => [(1, .pointer (some ⟨g1, 0, none⟩)), (3, ro.v), (4, .int .i64 (k : Int))]) (fun k ro => Hp w0 (inS ro (((List.range k).map fun (i : Nat) => (i : Int)).filter (freeB m)) :: hdC g1 h :: cs)) (fun k _ => m.wd.length - k)
    0 (Row.nil w0.heap.size) (by omega) (by repeat (first | exact trivial | refine ⟨rfl, ?_⟩)) (fun w h => h) ?_
  rintro k ro hk
  have hst := free_step (m := m) (k := k)
  have hflen : (((List.range k).map fun (i : Nat) => (i : Int)).filter (freeB m)).length ≤ k := by
    have := List.length_filter_le (freeB m) ((List.range k).map fun (i : Nat) => (i : Int))
    simpa using this
  obtain ⟨L, hL0⟩ : ∃ L, L = ((List.range k).map fun (i : Nat) => (i : Int)).filter (freeB m) := ⟨_, rfl⟩
  have hend : k = m.wd.length → L = freeM m := fun e => by rw [hL0, e]; unfold freeM; rw [if_neg fun x => x h1]
  rw [← hL0] at hst hflen ⊢
  have hC2 := hC1.cons (c := inS ro L)
  (repeat (first | refine zz ?_ | refine zv fun _ => ?_))
  refine au_pure ?_ (hy := yl_len rfl rfl hC2.wd)
  (repeat (first | refine zz ?_ | refine zv fun _ => ?_))
  ((first | refine tri_cond (by rfl) (fun hc => ?_) (fun hc => ?_) | refine tri_gsplit (by rfl) (by rfl) (by (fail_if_success exact (rfl : _ = some (Value.bool true))); (fail_if_success exact (rfl : _ = some (Value.bool false))); rfl) (fun hc => ?_) (fun hc => ?_)) <;> (try simp only [decide_eq_true_eq, decide_eq_false_iff_not, beq_iff_eq, bne_iff_ne, ne_eq, Bool.not_eq_true', Bool.not_eq_false', beq_eq_false_iff_ne, bne_eq_false_iff_eq, Int.not_lt, Int.not_le, gt_iff_lt, ge_iff_le, Bool.and_eq_true, Bool.or_eq_true, Bool.and_eq_false_iff, Bool.or_eq_false_iff, Decidable.not_not, not_true_eq_false, not_false_eq_true, and_true, true_and, or_false, false_or, or_true, true_or, and_false, false_and, eq_self, Bool.true_eq_false, Bool.false_eq_true] at hc) <;> (try (exfalso; omega)))
  · (repeat (first | refine zz ?_ | refine zv fun _ => ?_))
    refine tri_block ?_
    (repeat (first | refine zz ?_ | refine zv fun _ => ?_))
    refine au_callC rfl rfl rfl rfl rfl (rmapped_c w0 _ (k : Int) hC2 hL) (fun _ => ?_)
    (repeat (first | refine zz ?_ | refine zv fun _ => ?_))
    have hu1 := rused hV.frm (f := (k : Int)) (by omega)
    have hu2 := rwaits m (k : Int)
    have hfk : freeB m (k : Int) = (decide ((rmapN m (k : Int) m.tb.length : Int) = 0) && decide (idxM (fun x : LB => x.f == (k : Int)) m.lm < 0)) := by unfold freeB; rw [hu1, hu2, Bool.not_or]
    obtain ⟨N, hN⟩ : ∃ N, N = rmapN m (k : Int) m.tb.length := ⟨_, rfl⟩
    rw [← hN] at hfk ⊢
    cases h2 : ((N : Int) == 0)
    case false =>
      have h2 : ¬ (N : Int) = 0 := by simpa using h2
      rw [decide_eq_false h2, Bool.false_and] at hfk
      rw [if_neg (by rw [hfk]; simp), List.append_nil] at hst
      (repeat (first | refine zz ?_ | refine zv fun _ => ?_))
      exact tri_nx2 (k + 1) ro (by omega) (by omega) (by repeat (first | exact trivial | refine ⟨rfl, ?_⟩)) (fun w h => by rw [hst]; exact h.sub (by repeat (first | exact List.Sublist.refl _ | assumption | apply List.Sublist.cons_cons | apply List.Sublist.cons)))
    have h2 : (N : Int) = 0 := by simpa using h2
    rw [decide_eq_true h2, Bool.true_and] at hfk
    (repeat (first | refine zz ?_ | refine zv fun _ => ?_))
    refine au_callC rfl rfl rfl rfl rfl (rwaiting_c w0 _ (k : Int) hC2 hL) (fun _ => ?_)
    (repeat (first | refine zz ?_ | refine zv fun _ => ?_))
    rw [← hfk]
    cases hf : freeB m (k : Int)
    · rw [if_neg (by rw [hf]; simp), List.append_nil] at hst
      (repeat (first | refine zz ?_ | refine zv fun _ => ?_))
      exact tri_nx2 (k + 1) ro (by omega) (by omega) (by repeat (first | exact trivial | refine ⟨rfl, ?_⟩)) (fun w h => by rw [hst]; exact h.sub (by repeat (first | exact List.Sublist.refl _ | assumption | apply List.Sublist.cons_cons | apply List.Sublist.cons)))
    · rw [if_pos hf] at hst
      (repeat (first | refine zz ?_ | refine zv fun _ => ?_))
      refine au_lit (l := ([(k : Int)] : List Int)) rfl rfl rfl (fun r1 => ?_)
      refine au_append (r := ro) (l2 := ([(k : Int)] : List Int)) rfl rfl rfl rfl (fun r2 => au_norm ?_) (h2 := rd_chunk ⟨0, rfl⟩) (hb := by rw [List.length_singleton]; omega)
      (repeat (first | refine zz ?_ | refine zv fun _ => ?_))
      exact tri_nx2 (k + 1) r2 (by omega) (by omega) (by repeat (first | exact trivial | refine ⟨rfl, ?_⟩)) (fun w h => by rw [hst]; exact h.sub (by repeat (first | exact List.Sublist.refl _ | assumption | apply List.Sublist.cons_cons | apply List.Sublist.cons)))
  · have hke : k = m.wd.length := by omega
    rw [hend hke]
    (repeat (first | refine zz ?_ | refine zv fun _ => ?_))
    refine au_done1 rfl ?_
    exact fun w hw => ⟨ro, rfl, hw.sub (by repeat (first | exact List.Sublist.refl _ | assumption | apply List.Sublist.cons_cons | apply List.Sublist.cons))⟩
set_option maxHeartbeats 2000000 in
theorem rmap_c {h : SH} {xb : List TB} {xp : List SV} {m : SM} (p f : Int) (wr : Bool) (hC : RdS (Hp w0 cs) h xb xp m) (hL : SLe m) (hpe : ∀ i, (m.pd.getD i default).length ≤ 1000000) :
    Cal Tryz.prog 33 [hdV h, .int .i64 p, .int .i64 f, .bool wr] (Hp w0 cs) (fun q : {q : SR // SOk q (mapM m p f wr).1} => .tuple #[hdV (hd q.1), .int .i64 (mapM m p f wr).2]) (fun q => Hp w0 (SC q.1 (mapM m p f wr).1 ++ cs)) := by
  refine cal_of_tri Tryz.func33 rfl Tryz.ntmps33 rfl ?_
  (repeat (first | refine tri_seq ?_ | refine tri_then ?_)); refine tri_region ?_; (repeat (first | refine au_pure ?_ | refine au_pass ?_ | refine au_box (fun _ => ?_) | refine au_alloc (fun _ => ?_) | refine au_store ?_ | refine au_make rfl rfl (fun _ => ?_) | refine au_lit rfl rfl rfl (fun _ => ?_) | refine au_append rfl rfl rfl rfl (fun _ => au_norm ?_) | refine au_storeE rfl rfl rfl rfl ?_)); refine tri_nil ?_; (repeat refine tri_then ?_)
  rename_i g4 g8
  have hC1 := hC.cons (c := hdC g4 h) |>.cons (c := hdC g8 hdN)
  refine tri_weak (H' := Hp w0 (hdC g8 hdN :: hdC g4 h :: cs)) (fun w h => h) ?_
  (repeat (first | refine zz ?_ | refine zv fun _ => ?_))
  refine au_callC rfl rfl rfl rfl rfl (rscheck_c w0 _ hC1 hL) (fun _ => ?_)
  (repeat (first | refine zz ?_ | refine zv fun _ => ?_))
  cases h1 : (schk m != 0)
  case true =>
    have h1 := bne_iff_ne.1 h1
    (repeat (first | refine zz ?_ | refine zv fun _ => ?_))
    refine au_done2 rfl ?_
    exact fun w hw => zero_res hw (by unfold mapM; rw [if_pos h1]) (by repeat (first | exact List.Sublist.refl _ | assumption | apply List.Sublist.cons_cons | apply List.Sublist.cons))
  have h1 : schk m = 0 := by simpa using h1
  have hV := schk_zero.1 h1
  have hr := hV.r
  have e1 : mapM m p f wr = if ¬ (isP m p = true ∧ 0 ≤ f ∧ f < m.wd.length) then (.zero, 2) else if pgOk m.wd.length (tbW m p.toNat) = true then (.zero, 7) else if freeB m f = false then (.zero, 21)
    else ({ m with tb := m.tb.set p.toNat ⟨wordM ⟨1, f, wr, false, false, false⟩⟩, wd := m.wd.set f.toNat 0 }, 0) := by unfold mapM; rw [if_neg fun x => x h1]
  (repeat (first | refine zz ?_ | refine zv fun _ => ?_))
  refine au_callC rfl rfl rfl rfl rfl (ris_c w0 _ p hC1.tb hL.tb) (fun _ => ?_)
  cases h2 : isP m p
  case false =>
    (repeat (first | refine zz ?_ | refine zv fun _ => ?_))
    refine au_done2 rfl ?_
    exact fun w hw => zero_res hw (by rw [e1, if_pos (by rw [h2]; simp)]) (by repeat (first | exact List.Sublist.refl _ | assumption | apply List.Sublist.cons_cons | apply List.Sublist.cons))
  (repeat (first | refine zz ?_ | refine zv fun _ => ?_))
  cases h3 : decide (f < 0)
  case true =>
    have h3 := of_decide_eq_true h3
    (repeat (first | refine zz ?_ | refine zv fun _ => ?_))
    refine au_done2 rfl ?_
    exact fun w hw => zero_res hw (by rw [e1, if_pos (by omega)]) (by repeat (first | exact List.Sublist.refl _ | assumption | apply List.Sublist.cons_cons | apply List.Sublist.cons))
  have h3 := of_decide_eq_false h3
  (repeat (first | refine zz ?_ | refine zv fun _ => ?_))
  refine au_pure ?_ (hy := yl_len rfl rfl hC1.wd)
  (repeat (first | refine zz ?_ | refine zv fun _ => ?_))
  cases h4 : decide (f ≥ (m.wd.length : Int))
  case true =>
    have h4 := of_decide_eq_true h4
    (repeat (first | refine zz ?_ | refine zv fun _ => ?_))
    refine au_done2 rfl ?_
    exact fun w hw => zero_res hw (by rw [e1, if_pos (by omega)]) (by repeat (first | exact List.Sublist.refl _ | assumption | apply List.Sublist.cons_cons | apply List.Sublist.cons))
  have h4 := of_decide_eq_false h4
  rw [if_neg (fun x => x ⟨h2, by omega, by omega⟩)] at e1
  have hp := isP_iff.1 h2
  have htw := hL.tw p.toNat
  rw [show (m.tb.getD p.toNat default).v = tbW m p.toNat from rfl] at htw
  have hnp := none_pg hV.frm (k := p.toNat) (by omega)
  obtain ⟨x, e2⟩ : ∃ x, x = (decR (tbW m p.toNat)).1 := ⟨_, rfl⟩
  rw [← e2] at hnp
  have hnp : (x.k != 0) = pgOk m.wd.length (tbW m p.toNat) := by rw [bne, hnp, Bool.not_not]
  refine tri_weak (H' := Hp w0 (hdC g8 hdN :: hdC g4 h :: cs)) (fun w h => h) ?_
  (repeat (first | refine zz ?_ | refine zv fun _ => ?_))
  (repeat (first | refine tri_seq ?_ | refine tri_then ?_))
  refine tri_cut1 (fun _ : Nat => True) (fun g => [(1, .int .i64 p), (2, .int .i64 f), (3, .bool wr), (4, .pointer (some ⟨g4, 0, none⟩)), (8, .pointer (some ⟨g8, 0, none⟩)), (11, .pointer (some ⟨g, 0, none⟩))]) (fun g => Hp w0 (enE g x :: hdC g8 hdN :: hdC g4 h :: cs)) ?_ ?_
  · refine ar_held [13] (hdC g4 h :: cs) rfl ?_
    have hT := hC.tb.cons (c := hdC g4 h)
    have hW := hC.wd.cons (c := hdC g4 h)
    refine ar_free 0 rfl rfl rfl ?_; refine ar_free 2 rfl rfl rfl ?_; refine ar_free 5 rfl rfl rfl ?_
    refine ar_take 1 rfl rfl rfl ?_
    refine ar_take 3 rfl rfl rfl ?_ (hy := yl_idx (k := p.toNat) rfl rfl hT (ix_int rfl (by omega)) (by rfl) (by omega))
    refine ar_take 4 rfl rfl rfl ?_ (hy := yl_loadE rfl rfl hT (by rfl) (by omega) (by rfl))
    rw [show (m.tb.getD p.toNat default).v = tbW m p.toNat from rfl]
    refine ar_take 6 rfl rfl rfl ?_
    refine ar_take 7 rfl rfl rfl ?_ (hy := yl_len rfl rfl hW)
    refine ar_op2 8 12 rfl rfl ?_ ?_
    · refine au_callC rfl rfl rfl rfl rfl (rentry_c w0 _ (tbW m p.toNat) m.wd.length htw.1 htw.2) (fun _ => ?_)
      rw [← e2]
      refine tri_nil ?_; refine ar_in ?_
      refine ar_free 9 rfl rfl rfl ?_; refine ar_free 10 rfl rfl rfl ?_; refine ar_free 11 rfl rfl rfl ?_
      refine ar_op 12 rfl ?_
      refine au_alloc (fun g => ?_)
      refine tri_nil ?_; refine ar_in ?_
      refine ar_op 13 rfl ?_
      refine au_store ?_
      refine tri_nil ?_; refine ar_ink ?_
      refine ar_free 14 rfl rfl rfl ?_
      refine ar_done ?_
      (repeat (first | refine tri_seq ?_ | refine tri_then ?_))
      exact tri_mt1 g trivial (by repeat (first | exact trivial | refine ⟨rfl, ?_⟩)) (fun _ h => h)
    · refine au_alloc (fun g => ?_)
      refine tri_nil ?_; refine ar_in ?_
      refine ar_op 8 rfl ?_
      refine au_callC rfl rfl rfl rfl rfl (rentry_c w0 _ (tbW m p.toNat) m.wd.length htw.1 htw.2) (fun _ => ?_)
      rw [← e2]
      refine tri_nil ?_; refine ar_in ?_
      refine ar_free 9 rfl rfl rfl ?_; refine ar_free 10 rfl rfl rfl ?_; refine ar_free 11 rfl rfl rfl ?_
      refine ar_op 13 rfl ?_
      refine au_store ?_
      refine tri_nil ?_; refine ar_ink ?_
      refine ar_free 14 rfl rfl rfl ?_
      refine ar_done ?_
      (repeat (first | refine tri_seq ?_ | refine tri_then ?_))
      exact tri_mt1 g trivial (by repeat (first | exact trivial | refine ⟨rfl, ?_⟩)) (fun _ h => h)
  intro g11 _
  have hC2 := hC1.cons (c := enE g11 x)
  (repeat (first | refine zz ?_ | refine zv fun _ => ?_))
  rw [hnp]
  cases h5 : pgOk m.wd.length (tbW m p.toNat)
  case true =>
    (repeat (first | refine zz ?_ | refine zv fun _ => ?_))
    refine au_done2 rfl ?_
    exact fun w hw => zero_res hw (by rw [e1, if_pos h5]) (by repeat (first | exact List.Sublist.refl _ | assumption | apply List.Sublist.cons_cons | apply List.Sublist.cons))
  rw [if_neg (by rw [h5]; simp)] at e1
  (repeat (first | refine zz ?_ | refine zv fun _ => ?_))
  refine au_callC rfl rfl rfl rfl rfl (rmapped_c w0 _ f hC2 hL) (fun _ => ?_)
  (repeat (first | refine zz ?_ | refine zv fun _ => ?_))
  have hu1 := mapN_zero hV.frm (f := f) (by omega) m.tb.length (Nat.le_refl _)
  have hu2 := rwaits m f
  cases h6 : decide ((rmapN m f m.tb.length : Int) > 0)
  case true =>
    have h6 := hu1.1 (of_decide_eq_true h6)
    (repeat (first | refine zz ?_ | refine zv fun _ => ?_))
    refine au_done2 rfl ?_
    exact fun w hw => zero_res hw (by rw [e1, if_pos (by unfold freeB; rw [h6]; rfl)]) (by repeat (first | exact List.Sublist.refl _ | assumption | apply List.Sublist.cons_cons | apply List.Sublist.cons))
  have h6 : usedT m m.tb.length f = false := by
    have := of_decide_eq_false h6
    rw [hu1, Bool.not_eq_true] at this
    exact this
  (repeat (first | refine zz ?_ | refine zv fun _ => ?_))
  refine au_callC rfl rfl rfl rfl rfl (rwaiting_c w0 _ f hC2 hL) (fun _ => ?_)
  (repeat (first | refine zz ?_ | refine zv fun _ => ?_))
  have hu3 := idxM_ge (fun x : LB => x.f == f) m.lm
  cases h7 : decide (idxM (fun x : LB => x.f == f) m.lm ≥ 0)
  case true =>
    have h8 : usedL m m.lm.length f = true := by unfold usedL; rw [List.take_length, ← hu3, h7]
    (repeat (first | refine zz ?_ | refine zv fun _ => ?_))
    refine au_done2 rfl ?_
    exact fun w hw => zero_res hw (by rw [e1, if_pos (by unfold freeB; rw [h8, Bool.or_true]; rfl)]) (by repeat (first | exact List.Sublist.refl _ | assumption | apply List.Sublist.cons_cons | apply List.Sublist.cons))
  have h8 : usedL m m.lm.length f = false := by unfold usedL; rw [List.take_length, ← hu3, h7]
  rw [if_neg (by unfold freeB; rw [h6, h8]; simp)] at e1
  (repeat (first | refine zz ?_ | refine zv fun _ => ?_))
  refine au_callC rfl rfl rfl rfl rfl (rcopy_c w0 _ hC2 hr.2.2.1 (by omega) (by have := hV.lml; omega) (fun i => by have := hV.tel i; omega) hpe) ?_
  rintro ⟨q, hq⟩
  (repeat (first | refine zz ?_ | refine zv fun _ => ?_))
  rename_i g13
  obtain ⟨NX, hNX⟩ : ∃ X, X = (SNb q m ++ SNp q m) ++ cs := ⟨_, rfl⟩
  have hRt : RdH (Hp w0 (hdC g13 (hd q) :: u64S q.t m.tb :: NX)) q.t.v m.tb := rd_chunk ⟨1, rfl⟩
  refine tri_weak (H' := Hp w0 (hdC g8 hdN :: hdC g13 (hd q) :: tlS q.b (tlx q.bs m.tl) :: pdS q.p (q.ps.map Row.sv) :: u64S q.t m.tb :: lbS q.l m.lm :: inS q.w m.wd :: NX)) (fun w h => by rw [hNX]; exact sc_up1 (X := _ :: _ :: _ :: cs) h (by repeat (first | exact List.Sublist.refl _ | assumption | apply List.Sublist.cons_cons | apply List.Sublist.cons))) ?_
  (repeat (first | refine tri_seq ?_ | refine tri_then ?_))
  refine ar_held [8] (hdC g13 (hd q) :: u64S q.t m.tb :: NX) rfl ?_
  refine ar_free 0 rfl rfl rfl ?_; refine ar_free 2 rfl rfl rfl ?_; refine ar_free 3 rfl rfl rfl ?_; refine ar_free 4 rfl rfl rfl ?_
  refine ar_take 1 rfl rfl rfl ?_; refine ar_take 5 rfl rfl rfl ?_
  refine ar_op 6 rfl ?_
  refine au_callC rfl rfl rfl rfl rfl (rword_c w0 _ 1 f wr false false false) (fun _ => ?_)
  refine tri_nil ?_; refine ar_in ?_
  refine ar_take 7 rfl rfl rfl ?_ (hy := yl_idx (k := p.toNat) rfl rfl hRt (ix_int rfl (by omega)) (by rfl) (by omega))
  refine ar_op 8 rfl ?_
  refine au_storeE (r := q.t) (a := (⟨(encS 1 f wr false false false).1⟩ : W64)) rfl rfl rfl rfl ?_
  refine tri_nil ?_; refine ar_ink ?_
  refine ar_done ?_
  obtain ⟨T, hT⟩ : ∃ T, T = m.tb.set p.toNat (⟨(encS 1 f wr false false false).1⟩ : W64) := ⟨_, rfl⟩
  rw [← hT]
  have hRw : RdH (Hp w0 (hdC g8 hdN :: hdC g13 (hd q) :: tlS q.b (tlx q.bs m.tl) :: pdS q.p (q.ps.map Row.sv) :: u64S q.t T :: lbS q.l m.lm :: inS q.w m.wd :: NX)) q.w.v m.wd := rd_chunk ⟨6, rfl⟩
  (repeat (first | refine zz ?_ | refine zv fun _ => ?_))
  refine au_pure ?_ (hy := yl_idx (k := f.toNat) rfl rfl hRw (ix_int rfl (by omega)) (by rfl) (by omega))
  refine au_storeE (r := q.w) (a := (0 : Int)) rfl rfl rfl rfl ?_
  (repeat (first | refine zz ?_ | refine zv fun _ => ?_))
  refine au_done2 rfl ?_
  intro w hw
  refine good_res (m' := { m with tb := m.tb.set p.toNat ⟨wordM ⟨1, f, wr, false, false, false⟩⟩, wd := m.wd.set f.toNat 0 }) e1 ⟨hq.hb, hq.hp⟩ hw ?_
  rw [hT, hNX]
  exact (by repeat (first | exact List.Sublist.refl _ | assumption | apply List.Sublist.cons_cons | apply List.Sublist.cons))
end
end Go.Proofs.YtojfaelafakemaaGreat

/- The walks of the reference of the shootdown machine: Unmap, Protect. No conditions. -/
set_option linter.unusedSimpArgs false
set_option linter.unusedVariables false
namespace Go.Proofs.YtojfaelafakemaaGreat
open Go Go.RowKit
attribute [local irreducible] decR enOk pgOk teOk ivOk tlOk checkM lbOk formM limM schk lookM rlbOk rlimM rmapN
theorem sc_up2 {w0 w : World} {q : SR} {m : SM} {G A B : Chunk} {cs X : List Chunk} (h : Hp w0 (G :: (SC q m ++ X)) w) (hs : (A :: B :: cs).Sublist X) : Hp w0 (A :: B :: G :: (SC q m ++ cs)) w :=
  HpM.perm (h.sub (List.Sublist.cons_cons G (List.Sublist.append_left hs (SC q m)))) ((List.Perm.cons G (List.perm_middle.trans (List.Perm.cons _ List.perm_middle))).trans ((List.Perm.swap _ _ _).trans (List.Perm.cons _ (List.Perm.swap _ _ _))))
theorem sc_mid {w0 w : World} {q : SR} {m : SM} {cs : List Chunk} (K : List Chunk) (h : Hp w0 (SC q m ++ (K ++ cs)) w) : Hp w0 (K ++ (SC q m ++ cs)) w := by
  refine HpM.perm h ?_
  rw [← List.append_assoc, ← List.append_assoc K]
  exact List.perm_append_comm.append_right cs
theorem sc_front {w0 w : World} {q : SR} {m : SM} {cs : List Chunk} (K : List Chunk) (h : Hp w0 (K ++ (SC q m ++ cs)) w) : Hp w0 (SC q m ++ (K ++ cs)) w := by
  refine HpM.perm h ?_
  rw [← List.append_assoc, ← List.append_assoc (SC q m)]
  exact List.perm_append_comm.append_right cs
attribute [local irreducible] Code.wp wpList bodyPost Exit.then Exit.inBlock Calls wpQuiet Tri TriQ
section
variable (w0 : World) (cs : List Chunk)
set_option maxHeartbeats 2000000 in
theorem runmap_c {h : SH} {xb : List TB} {xp : List SV} {m : SM} (p : Int) (hC : RdS (Hp w0 cs) h xb xp m) (hL : SLe m) (hpe : ∀ i, (m.pd.getD i default).length ≤ 1000000) :
    Cal Tryz.prog 34 [hdV h, .int .i64 p] (Hp w0 cs) (fun q : {q : SR // SOk q (unmapM m p).1} => .tuple #[hdV (hd q.1), .int .i64 (unmapM m p).2]) (fun q => Hp w0 (SC q.1 (unmapM m p).1 ++ cs)) := by
  refine cal_of_tri Tryz.func34 rfl Tryz.ntmps34 rfl ?_
  (repeat (first | refine tri_seq ?_ | refine tri_then ?_)); refine tri_region ?_; (repeat (first | refine au_pure ?_ | refine au_pass ?_ | refine au_box (fun _ => ?_) | refine au_alloc (fun _ => ?_) | refine au_store ?_ | refine au_make rfl rfl (fun _ => ?_) | refine au_lit rfl rfl rfl (fun _ => ?_) | refine au_append rfl rfl rfl rfl (fun _ => au_norm ?_) | refine au_storeE rfl rfl rfl rfl ?_)); refine tri_nil ?_; (repeat refine tri_then ?_)
  rename_i g2 g4
  have hC1 := hC.cons (c := hdC g2 h) |>.cons (c := hdC g4 hdN)
  refine tri_weak (H' := Hp w0 (hdC g4 hdN :: hdC g2 h :: cs)) (fun w h => h) ?_
  (repeat (first | refine zz ?_ | refine zv fun _ => ?_))
  refine au_callC rfl rfl rfl rfl rfl (rtgt_c w0 _ p hC1 hL) ?_
  rintro ⟨x, hx⟩
  obtain ⟨xk, xn, xa, xb', xc, xd⟩ := x
  by_cases h1 : tgtE m p = 0
  case neg =>
    (repeat (first | refine zz ?_ | refine zv fun _ => ?_))
    rw [show (tgtE m p != 0) = true by simpa using h1]
    (repeat (first | refine zz ?_ | refine zv fun _ => ?_))
    refine au_done2 rfl ?_
    exact fun w hw => zero_res hw (by unfold unmapM; rw [if_pos h1]) (by repeat (first | exact List.Sublist.refl _ | assumption | apply List.Sublist.cons_cons | apply List.Sublist.cons))
  have hx := hx h1
  obtain ⟨hV, hp, hpg⟩ := tgt_zero h1
  have hr := hV.r
  have htb := hL.tb
  have e1 : unmapM m p = ({ m with tb := m.tb.set p.toNat ⟨0⟩, pd := (ntfM m p m.tl.length).1, lm := if (ntfM m p m.tl.length).2 = 0 then m.lm else m.lm ++ [⟨(tgtX m p).n, (ntfM m p m.tl.length).2⟩] }, 0) := by unfold unmapM; rw [if_neg fun x => x h1]
  rw [← hx] at e1
  (repeat (first | refine zz ?_ | refine zv fun _ => ?_))
  rw [show (tgtE m p != 0) = false by simpa using h1]
  rename_i g6
  have hC2 := hC1.cons (c := enC g6 xk xn xa xb' xc xd)
  (repeat (first | refine zz ?_ | refine zv fun _ => ?_))
  refine au_callC rfl rfl rfl rfl rfl (rcopy_c w0 _ hC2 hr.2.2.1 (by omega) (by have := hV.lml; omega) (fun i => by have := hV.tel i; omega) hpe) ?_
  rintro ⟨q, hq⟩
  (repeat (first | refine zz ?_ | refine zv fun _ => ?_))
  refine au_callC rfl rfl rfl rfl rfl (rinv_c w0 _ p hq hL hr.2.2.1 hr.2.1 hpe (by omega)) ?_
  rintro ⟨ps, hps⟩
  have hnl := ntf_len (m := m) (p := p) m.tl.length
  obtain ⟨PD, hPD⟩ : ∃ P, P = (ntfM m p m.tl.length).1 := ⟨_, rfl⟩
  obtain ⟨mk, hmk⟩ : ∃ k, k = (ntfM m p m.tl.length).2 := ⟨_, rfl⟩
  rw [← hPD] at e1 hnl ⊢
  rw [← hmk] at e1 ⊢
  (repeat (first | refine zz ?_ | refine zv fun _ => ?_))
  rename_i g8
  obtain ⟨NX, hNX⟩ : ∃ X, X = (SNb { q with ps := ps } { m with pd := PD } ++ SNp { q with ps := ps } { m with pd := PD }) ++ cs := ⟨_, rfl⟩
  refine tri_weak (H' := Hp w0 (enC g6 xk xn xa xb' xc xd :: hdC g4 hdN :: hdC g8 (hd q) :: tlS q.b (tlx q.bs m.tl) :: pdS q.p (ps.map Row.sv) :: u64S q.t m.tb :: lbS q.l m.lm :: inS q.w m.wd :: NX)) (fun w h => by rw [hNX]; exact sc_up2 (X := _ :: _ :: _ :: cs) h (by repeat (first | exact List.Sublist.refl _ | assumption | apply List.Sublist.cons_cons | apply List.Sublist.cons))) ?_
  have hRt : RdH (Hp w0 (hdC g8 (hd q) :: u64S q.t m.tb :: NX)) q.t.v m.tb := rd_chunk ⟨1, rfl⟩
  (repeat (first | refine tri_seq ?_ | refine tri_then ?_))
  refine ar_held [6] (hdC g8 (hd q) :: u64S q.t m.tb :: NX) rfl ?_
  refine ar_free 0 rfl rfl rfl ?_; refine ar_free 2 rfl rfl rfl ?_
  refine ar_take 1 rfl rfl rfl ?_; refine ar_take 3 rfl rfl rfl ?_
  refine ar_op 4 rfl ?_
  refine au_callC rfl rfl rfl rfl rfl (rword_c w0 _ 0 0 false false false false) (fun _ => ?_)
  refine tri_nil ?_; refine ar_in ?_
  refine ar_take 5 rfl rfl rfl ?_ (hy := yl_idx (k := p.toNat) rfl rfl hRt (ix_int rfl (by omega)) (by rfl) (by omega))
  refine ar_op 6 rfl ?_
  refine au_storeE (r := q.t) (a := (⟨(encS 0 0 false false false false).1⟩ : W64)) rfl rfl rfl rfl ?_
  refine tri_nil ?_; refine ar_ink ?_
  refine ar_done ?_
  rw [show (encS 0 0 false false false false).1 = 0 from by decide]
  have hq2 : ∀ (T : List W64) (L : List LB) (r2 : Row), SOk { q with ps := ps, l := r2 } { m with tb := T, pd := PD, lm := L } := fun _ _ _ => ⟨hq.hb, by show ps.length = PD.length; rw [hps, hnl]⟩
  refine tri_weak (H' := Hp w0 (enC g6 xk xn xa xb' xc xd :: hdC g4 hdN :: hdC g8 (hd q) :: (SC { q with ps := ps } { m with tb := m.tb.set p.toNat ⟨0⟩, pd := PD } ++ cs))) (fun w h => by rw [hNX] at h; exact h) ?_
  (repeat (first | refine zz ?_ | refine zv fun _ => ?_))
  have hml := hV.lml
  have hmk0 : 0 ≤ mk := by rw [hmk]; exact (ntf_bd _).1
  cases h3 : decide (mk > 0)
  · have h3 : mk = 0 := by have := of_decide_eq_false h3; omega
    rw [if_pos h3] at e1
    (repeat (first | refine zz ?_ | refine zv fun _ => ?_))
    refine au_done2 rfl ?_
    exact fun w hw => good_res (q := { q with ps := ps }) e1 (hq2 _ _ q.l) hw (by repeat (first | exact List.Sublist.refl _ | assumption | apply List.Sublist.cons_cons | apply List.Sublist.cons))
  · have h3 := of_decide_eq_true h3
    rw [if_neg (show ¬ mk = 0 by omega)] at e1
    (repeat (first | refine zz ?_ | refine zv fun _ => ?_))
    refine au_lit (l := ([⟨xn, mk⟩] : List LB)) rfl rfl rfl (fun r1 => ?_)
    refine au_append (r := q.l) (l2 := ([⟨xn, mk⟩] : List LB)) rfl rfl rfl rfl (fun r2 => au_norm ?_) (h2 := rd_chunk ⟨0, rfl⟩) (hb := by show m.lm.length + 1 ≤ _; omega)
    (repeat (first | refine zz ?_ | refine zv fun _ => ?_))
    refine au_done2 rfl ?_
    exact fun w hw => good_res (q := { q with ps := ps, l := r2 }) e1 (hq2 _ _ r2) hw (by repeat (first | exact List.Sublist.refl _ | assumption | apply List.Sublist.cons_cons | apply List.Sublist.cons))
set_option maxHeartbeats 2000000 in
theorem rprotect_c {h : SH} {xb : List TB} {xp : List SV} {m : SM} (p : Int) (hC : RdS (Hp w0 cs) h xb xp m) (hL : SLe m) (hpe : ∀ i, (m.pd.getD i default).length ≤ 1000000) :
    Cal Tryz.prog 35 [hdV h, .int .i64 p] (Hp w0 cs) (fun q : {q : SR // SOk q (protM m p).1} => .tuple #[hdV (hd q.1), .int .i64 (protM m p).2]) (fun q => Hp w0 (SC q.1 (protM m p).1 ++ cs)) := by
  refine cal_of_tri Tryz.func35 rfl Tryz.ntmps35 rfl ?_
  (repeat (first | refine tri_seq ?_ | refine tri_then ?_)); refine tri_region ?_; (repeat (first | refine au_pure ?_ | refine au_pass ?_ | refine au_box (fun _ => ?_) | refine au_alloc (fun _ => ?_) | refine au_store ?_ | refine au_make rfl rfl (fun _ => ?_) | refine au_lit rfl rfl rfl (fun _ => ?_) | refine au_append rfl rfl rfl rfl (fun _ => au_norm ?_) | refine au_storeE rfl rfl rfl rfl ?_)); refine tri_nil ?_; (repeat refine tri_then ?_)
  rename_i g2 g4
  have hC1 := hC.cons (c := hdC g2 h) |>.cons (c := hdC g4 hdN)
  refine tri_weak (H' := Hp w0 (hdC g4 hdN :: hdC g2 h :: cs)) (fun w h => h) ?_
  (repeat (first | refine zz ?_ | refine zv fun _ => ?_))
  refine au_callC rfl rfl rfl rfl rfl (rtgt_c w0 _ p hC1 hL) ?_
  rintro ⟨x, hx⟩
  obtain ⟨xk, xn, xa, xb', xc, xd⟩ := x
  by_cases h1 : tgtE m p = 0
  case neg =>
    (repeat (first | refine zz ?_ | refine zv fun _ => ?_))
    rw [show (tgtE m p != 0) = true by simpa using h1]
    (repeat (first | refine zz ?_ | refine zv fun _ => ?_))
    refine au_done2 rfl ?_
    exact fun w hw => zero_res hw (by unfold protM; rw [if_pos h1]) (by repeat (first | exact List.Sublist.refl _ | assumption | apply List.Sublist.cons_cons | apply List.Sublist.cons))
  have hx := hx h1
  obtain ⟨hV, hp, hpg⟩ := tgt_zero h1
  have hr := hV.r
  have htb := hL.tb
  have e1 : protM m p = if (tgtX m p).a = true then
    ({ m with tb := m.tb.set p.toNat ⟨wordM ⟨(tgtX m p).k, (tgtX m p).n, false, (tgtX m p).b, (tgtX m p).c, (tgtX m p).d⟩⟩, pd := (ntfM m p m.tl.length).1 }, 0) else (m, 0) := by unfold protM; rw [if_neg fun x => x h1]
  rw [← hx] at e1
  simp only at e1
  (repeat (first | refine zz ?_ | refine zv fun _ => ?_))
  rw [show (tgtE m p != 0) = false by simpa using h1]
  rename_i g6
  have hC2 := hC1.cons (c := enC g6 xk xn xa xb' xc xd)
  (repeat (first | refine zz ?_ | refine zv fun _ => ?_))
  refine au_callC rfl rfl rfl rfl rfl (rcopy_c w0 _ hC2 hr.2.2.1 (by omega) (by have := hV.lml; omega) (fun i => by have := hV.tel i; omega) hpe) ?_
  rintro ⟨q, hq⟩
  (repeat (first | refine au_pure ?_ | refine au_pass ?_ | refine au_box (fun _ => ?_) | refine au_alloc (fun _ => ?_) | refine au_store ?_ | refine au_make rfl rfl (fun _ => ?_) | refine au_lit rfl rfl rfl (fun _ => ?_) | refine au_append rfl rfl rfl rfl (fun _ => au_norm ?_) | refine au_storeE rfl rfl rfl rfl ?_)); refine tri_nil ?_; (repeat refine tri_then ?_)
  rename_i g8
  refine tri_weak (H' := Hp w0 (enC g6 xk xn xa xb' xc xd :: hdC g4 hdN :: hdC g8 (hd q) :: (SC q m ++ cs))) (fun w h => sc_up2 (X := _ :: _ :: _ :: cs) h (by repeat (first | exact List.Sublist.refl _ | assumption | apply List.Sublist.cons_cons | apply List.Sublist.cons))) ?_
  cases xa with
  | false =>
    rw [if_neg (by simp)] at e1
    (repeat (first | refine zz ?_ | refine zv fun _ => ?_))
    refine au_done2 rfl ?_
    exact fun w hw => good_res e1 hq hw (by repeat (first | exact List.Sublist.refl _ | assumption | apply List.Sublist.cons_cons | apply List.Sublist.cons))
  | true =>
    rw [if_pos rfl] at e1
    (repeat (first | refine zz ?_ | refine zv fun _ => ?_))
    refine tri_weak (H' := Hp w0 (SC q m ++ (enC g6 xk xn true xb' xc xd :: hdC g4 hdN :: hdC g8 (hd q) :: cs))) (fun w h => sc_front3 h) ?_
    refine au_callC rfl rfl rfl rfl rfl (rinv_c w0 _ p hq hL hr.2.2.1 hr.2.1 hpe (by omega)) ?_
    rintro ⟨ps, hps⟩
    have hnl := ntf_len (m := m) (p := p) m.tl.length
    obtain ⟨PD, hPD⟩ : ∃ P, P = (ntfM m p m.tl.length).1 := ⟨_, rfl⟩
    rw [← hPD] at e1 hnl ⊢
    refine tri_weak (H' := Hp w0 (enC g6 xk xn true xb' xc xd :: hdC g4 hdN :: hdC g8 (hd q) :: (SC { q with ps := ps } { m with pd := PD } ++ cs))) (fun w h => sc_mid3 (X := _ :: _ :: _ :: cs) h (List.Sublist.refl _)) ?_
    obtain ⟨NX, hNX⟩ : ∃ X, X = (SNb { q with ps := ps } { m with pd := PD } ++ SNp { q with ps := ps } { m with pd := PD }) ++ cs := ⟨_, rfl⟩
    have hRt : RdH (Hp w0 (enC g6 xk xn false xb' xc xd :: hdC g8 (hd q) :: u64S q.t m.tb :: NX)) q.t.v m.tb := rd_chunk ⟨2, rfl⟩
    refine tri_weak (H' := Hp w0 (enC g6 xk xn true xb' xc xd :: hdC g4 hdN :: hdC g8 (hd q) :: tlS q.b (tlx q.bs m.tl) :: pdS q.p (ps.map Row.sv) :: u64S q.t m.tb :: lbS q.l m.lm :: inS q.w m.wd :: NX)) (fun w h => by rw [hNX]; exact h) ?_
    (repeat (first | refine zz ?_ | refine zv fun _ => ?_))
    (repeat (first | refine tri_seq ?_ | refine tri_then ?_))
    refine ar_held [6] (enC g6 xk xn false xb' xc xd :: hdC g8 (hd q) :: u64S q.t m.tb :: NX) rfl ?_
    refine ar_free 0 rfl rfl rfl ?_; refine ar_free 2 rfl rfl rfl ?_
    refine ar_take 1 rfl rfl rfl ?_; refine ar_take 3 rfl rfl rfl ?_
    refine ar_op 4 rfl ?_
    refine au_callC rfl rfl rfl rfl rfl (rword_c w0 _ xk xn false xb' xc xd) (fun _ => ?_)
    refine tri_nil ?_; refine ar_in ?_
    refine ar_take 5 rfl rfl rfl ?_ (hy := yl_idx (k := p.toNat) rfl rfl hRt (ix_int rfl (by omega)) (by rfl) (by omega))
    refine ar_op 6 rfl ?_
    refine au_storeE (r := q.t) (a := (⟨(encS xk xn false xb' xc xd).1⟩ : W64)) rfl rfl rfl rfl ?_
    refine tri_nil ?_; refine ar_ink ?_
    refine ar_done ?_
    have hbd := enc_bd xk xn false xb' xc xd
    obtain ⟨v, hv⟩ : ∃ v, v = (encS xk xn false xb' xc xd).1 := ⟨_, rfl⟩
    rw [← hv] at hbd ⊢
    rw [show wordM ⟨xk, xn, false, xb', xc, xd⟩ = v from hv.symm] at e1
    refine tri_weak (H' := Hp w0 (enC g6 xk xn false xb' xc xd :: hdC g4 hdN :: hdC g8 (hd q) :: (SC { q with ps := ps } { m with tb := m.tb.set p.toNat ⟨v⟩, pd := PD } ++ cs))) (fun w h => by rw [hNX] at h; exact h) ?_
    (repeat (first | refine zz ?_ | refine zv fun _ => ?_))
    refine au_done2 rfl ?_
    exact fun w hw => good_res (q := { q with ps := ps }) e1 ⟨hq.hb, by show ps.length = PD.length; rw [hps, hnl]⟩ hw (by repeat (first | exact List.Sublist.refl _ | assumption | apply List.Sublist.cons_cons | apply List.Sublist.cons))
end
end Go.Proofs.YtojfaelafakemaaGreat
