/- Texts joined: ShAwake. Each part's own remark says what it proves. -/
import Derived.Test.YtojfaelafakemaaM24
/- The walk of the laws' awake. No conditions. -/
set_option linter.unusedSimpArgs false
set_option linter.unusedVariables false
namespace Go.Proofs.Ytojfaelafakemaa
open Go Go.RowKit
theorem sc_midK {w0 w : World} {q : SR} {m : SM} {X cs : List Chunk} (K : List Chunk) (h : Hp w0 (SC q m ++ X) w) (hs : (K ++ cs).Sublist X) : Hp w0 (K ++ (SC q m ++ cs)) w :=
  sc_mid K (h.sub (List.Sublist.append_left hs (SC q m)))
theorem sc_upK {w0 w : World} {q : SR} {m : SM} {G : Chunk} {X cs : List Chunk} (K : List Chunk) (h : Hp w0 (G :: (SC q m ++ X)) w) (hs : (K ++ cs).Sublist X) : Hp w0 (G :: (K ++ (SC q m ++ cs))) w := by
  refine HpM.perm (h.sub (List.Sublist.cons_cons G (List.Sublist.append_left hs (SC q m)))) (List.Perm.cons G ?_)
  rw [← List.append_assoc, ← List.append_assoc K]
  exact List.perm_append_comm.append_right cs
theorem sub_old {K Y cs : List Chunk} : (K ++ cs).Sublist (K ++ (Y ++ cs)) := List.Sublist.append_left (List.sublist_append_right Y cs) K
abbrev opS (r : Row) (l : List SO) : Chunk := slC r 35 l
attribute [local irreducible] mapM unmapM protM accM ackM sdoM schk snewM freeM quietM
attribute [local irreducible] Code.wp wpList bodyPost Exit.then Exit.inBlock Calls wpQuiet Tri TriQ
section
variable (w0 : World) (cs : List Chunk)
set_option maxHeartbeats 4000000 in
theorem awake_c : Cal Try.prog 7 [] (Hp w0 cs) (fun _ : Unit => .bool true) (fun _ => Hp w0 cs) := by
  refine cal_of_tri Try.func7 rfl Try.ntmps7 rfl ?_
  (repeat (first | refine tri_seq ?_ | refine tri_then ?_)); refine tri_region ?_; (repeat (first | refine au_pure ?_ | refine au_pass ?_ | refine au_box (fun _ => ?_) | refine au_alloc (fun _ => ?_) | refine au_store ?_ | refine au_make rfl rfl (fun _ => ?_) | refine au_lit rfl rfl rfl (fun _ => ?_) | refine au_append rfl rfl rfl rfl (fun _ => au_norm ?_) | refine au_storeE rfl rfl rfl rfl ?_)); refine tri_nil ?_; (repeat refine tri_then ?_)
  (repeat (first | refine zz ?_ | refine zv fun _ => ?_))
  refine au_callC rfl rfl rfl rfl rfl (snew_c w0 _ 2 2 3 4) ?_
  rintro ⟨q, hq⟩
  rw [wake_new]
  have e0 : (snewM 2 2 3 4).1 = wS 0 := by unfold wS; rfl
  rw [e0] at hq
  refine tri_weak (H' := Hp w0 (SC q (wS 0) ++ cs)) (fun w h => by have h : Hp w0 (SC q (snewM 2 2 3 4).1 ++ cs) w := h; rw [e0] at h; exact h) ?_
  (repeat (first | refine zz ?_ | refine zv fun _ => ?_))
  rename_i g1
  refine au_lit (l := wO) rfl rfl rfl (fun rO => ?_)
  (repeat (first | refine zz ?_ | refine zv fun _ => ?_))
  refine au_lit (l := wE) rfl rfl rfl (fun rE => ?_)
  refine tri_weak (H' := Hp w0 (inS rE wE :: opS rO wO :: hdC g1 (hd q) :: (SC q (wS 0) ++ cs))) (fun w h => h) ?_
  have hRO : ∀ X : List Chunk, RdH (Hp w0 (inS rE wE :: opS rO wO :: X)) rO.v wO := fun X => rd_chunk ⟨1, rfl⟩
  (repeat (first | refine zz ?_ | refine zv fun _ => ?_))
  refine au_pure ?_ (hy := yl_len rfl rfl (hRO _))
  (repeat (first | refine zz ?_ | refine zv fun _ => ?_))
  refine tri_block ?_
  refine tri_loop2 (fun (k : Nat) (q : SR) => k ≤ 5 ∧ SOk q (wS k)) (fun k q => [(1, .pointer (some ⟨g1, 0, none⟩)), (4, rE.v), (30, rO.v), (31, .int .i64 ((wO.length : Nat) : Int)), (32, .int .i64 (k : Int))])
    (fun k q => Hp w0 (inS rE wE :: opS rO wO :: hdC g1 (hd q) :: (SC q (wS k) ++ cs))) (fun k _ => 5 - k)
    0 q ⟨by omega, hq⟩ (by repeat (first | exact trivial | refine ⟨rfl, ?_⟩)) (fun w h => h) ?_
  rintro k q ⟨hk, hq⟩
  have hol : wO.length = 5 := rfl
  (repeat (first | refine zz ?_ | refine zv fun _ => ?_))
  rw [hol]
  ((first | refine tri_cond (by rfl) (fun hc => ?_) (fun hc => ?_) | refine tri_gsplit (by rfl) (by rfl) (by (fail_if_success exact (rfl : _ = some (Value.bool true))); (fail_if_success exact (rfl : _ = some (Value.bool false))); rfl) (fun hc => ?_) (fun hc => ?_)) <;> (try simp only [decide_eq_true_eq, decide_eq_false_iff_not, beq_iff_eq, bne_iff_ne, ne_eq, Bool.not_eq_true', Bool.not_eq_false', beq_eq_false_iff_ne, bne_eq_false_iff_eq, Int.not_lt, Int.not_le, gt_iff_lt, ge_iff_le, Bool.and_eq_true, Bool.or_eq_true, Bool.and_eq_false_iff, Bool.or_eq_false_iff, Decidable.not_not, not_true_eq_false, not_false_eq_true, and_true, true_and, or_false, false_or, or_true, true_or, and_false, false_and, eq_self, Bool.true_eq_false, Bool.false_eq_true] at hc) <;> (try (exfalso; omega)))
  case refine_1 =>
    have hk5 : k < 5 := by omega
    have hst := wake_step hk5
    have hkp := wS_kp k (by omega)
    have hnx : (sdoM (wS k) (wO.getD k default)).1 = wS (k + 1) := by rw [wS]
    (repeat (first | refine zz ?_ | refine zv fun _ => ?_))
    refine tri_block ?_
    (repeat (first | refine zz ?_ | refine zv fun _ => ?_))
    refine au_pure ?_ (hy := yl_idx (k := k) rfl rfl (hRO _) (ix_nat rfl) (by rfl) (by omega))
    refine au_pure ?_ (hy := yl_loadEN rfl rfl (hRO _) (by rfl) (by omega) (by repeat (first | exact nf0 rfl | apply nfS rfl | exact nfR)) (by rfl))
    obtain ⟨o, ho⟩ : ∃ o, o = wO.getD k default := ⟨_, rfl⟩
    rw [← ho] at hst hnx ⊢
    (repeat (first | refine au_pure ?_ | refine au_pass ?_ | refine au_box (fun _ => ?_) | refine au_alloc (fun _ => ?_) | refine au_store ?_ | refine au_make rfl rfl (fun _ => ?_) | refine au_lit rfl rfl rfl (fun _ => ?_) | refine au_append rfl rfl rfl rfl (fun _ => au_norm ?_) | refine au_storeE rfl rfl rfl rfl ?_)); refine tri_nil ?_; (repeat refine tri_then ?_)
    rename_i g6
    have hC := (rdS_own (w0 := w0) (cs := cs) hq).cons (c := hdC g1 (hd q)) |>.cons (c := opS rO wO) |>.cons (c := inS rE wE) |>.cons (c := soC g6 o)
    refine tri_weak (H' := Hp w0 (soC g6 o :: inS rE wE :: opS rO wO :: hdC g1 (hd q) :: (SC q (wS k) ++ cs))) (fun w h => h) ?_
    (repeat (first | refine zz ?_ | refine zv fun _ => ?_))
    refine au_callC rfl rfl rfl rfl rfl (do_c w0 _ o hC hkp.s (fun i => by have := hkp.p i; omega)) ?_
    rintro ⟨q2, hq2⟩
    rw [hst.1, hst.2]
    rw [hnx] at hq2
    refine tri_weak (H' := Hp w0 (SC q2 (wS (k + 1)) ++ (soC g6 o :: inS rE wE :: opS rO wO :: hdC g1 (hd q) :: (SC q (wS k) ++ cs)))) (fun w h => by have h : Hp w0 (SC q2 (sdoM (wS k) o).1 ++ (soC g6 o :: inS rE wE :: opS rO wO :: hdC g1 (hd q) :: (SC q (wS k) ++ cs))) w := h; rw [hnx] at h; exact h) ?_
    (repeat (first | refine au_pure ?_ | refine au_pass ?_ | refine au_box (fun _ => ?_) | refine au_alloc (fun _ => ?_) | refine au_store ?_ | refine au_make rfl rfl (fun _ => ?_) | refine au_lit rfl rfl rfl (fun _ => ?_) | refine au_append rfl rfl rfl rfl (fun _ => au_norm ?_) | refine au_storeE rfl rfl rfl rfl ?_)); refine tri_nil ?_; (repeat refine tri_then ?_)
    rename_i g7
    refine tri_weak (H' := Hp w0 (hdC g7 (hd q2) :: soC g6 o :: inS rE wE :: opS rO wO :: hdC g1 (hd q) :: (SC q2 (wS (k + 1)) ++ cs))) (fun w h => sc_upK [soC g6 o, inS rE wE, opS rO wO, hdC g1 (hd q)] h (List.Sublist.append_left (List.sublist_append_right (SC q (wS k)) cs) [soC g6 o, inS rE wE, opS rO wO, hdC g1 (hd q)])) ?_
    have hRE : RdH (Hp w0 (hdC g7 (hd q2) :: soC g6 o :: inS rE wE :: opS rO wO :: hdC g1 (hd q) :: (SC q2 (wS (k + 1)) ++ cs))) rE.v wE := rd_chunk ⟨2, rfl⟩
    (repeat (first | refine zz ?_ | refine zv fun _ => ?_))
    refine au_pure ?_ (hy := yl_idx (k := k) rfl rfl hRE (ix_nat rfl) (by rfl) (by show k < 5; omega))
    refine au_pure ?_ (hy := yl_loadE rfl rfl hRE (by rfl) (by show k < 5; omega) (by rfl))
    refine au_pure ?_ (hy := yl_neq rfl rfl rfl)
    rw [show (wE.getD k default != wE.getD k default) = false by simp]
    (repeat (first | refine zz ?_ | refine zv fun _ => ?_))
    exact tri_nx2 (k + 1) q2 (by omega) ⟨by omega, hq2⟩ (by repeat (first | exact trivial | refine ⟨rfl, ?_⟩)) (fun w h => h.sub (by repeat (first | exact List.Sublist.refl _ | assumption | apply List.Sublist.cons_cons | apply List.Sublist.cons)))
  have hke : k = 5 := by omega
  subst hke
  have hkp := wS_kp 5 (by omega)
  have hC := (rdS_own (w0 := w0) (cs := cs) hq).cons (c := hdC g1 (hd q)) |>.cons (c := opS rO wO) |>.cons (c := inS rE wE)
  (repeat (first | refine zz ?_ | refine zv fun _ => ?_))
  refine au_callC rfl rfl rfl rfl rfl (free_c w0 _ hC hkp.s) ?_
  intro rf
  rw [wake_free]
  (repeat (first | refine zz ?_ | refine zv fun _ => ?_))
  refine au_lit (l := ([1, 2] : List Int)) rfl rfl rfl (fun r2 => ?_)
  (repeat (first | refine zz ?_ | refine zv fun _ => ?_))
  refine au_callC rfl rfl rfl rfl rfl (one_c w0 _ (rd_chunk (r := rf) (l := ([1, 2] : List Int)) ⟨1, rfl⟩) (rd_chunk (r := r2) (l := ([1, 2] : List Int)) ⟨0, rfl⟩) (by decide)) (fun _ => ?_)
  rw [show decide (([1, 2] : List Int) = [1, 2]) = true from by decide]
  have hC1 := (hC.cons (c := inS rf [1, 2])).cons (c := inS r2 [1, 2])
  have hlm := hC1.lm
  rw [wake_lm] at hlm
  (repeat (first | refine zz ?_ | refine zv fun _ => ?_))
  refine au_pure ?_ (hy := yl_len rfl rfl hlm)
  (repeat (first | refine zz ?_ | refine zv fun _ => ?_))
  refine au_pure ?_ (hy := yl_idx (k := (0 : Int).toNat) rfl rfl hlm (ix_int rfl (by decide)) (by rfl) (by decide))
  refine au_pure ?_ (hy := yl_loadEN rfl rfl hlm (by rfl) (by decide) (by repeat (first | exact nf0 rfl | apply nfS rfl | exact nfR)) (by rfl))
  (repeat (first | refine zz ?_ | refine zv fun _ => ?_))
  refine au_pure ?_ (hy := yl_neqs rfl rfl rfl)
  (repeat (first | refine zz ?_ | refine zv fun _ => ?_))
  refine au_callC rfl rfl rfl rfl rfl (quiet_c w0 _ hC1 hkp.s) (fun _ => ?_)
  rw [wake_quiet]
  (repeat (first | refine zz ?_ | refine zv fun _ => ?_))
  refine au_callC rfl rfl rfl rfl rfl (scheck_c w0 _ hC1 hkp.s) (fun _ => ?_)
  rw [wake_chk]
  (repeat (first | refine zz ?_ | refine zv fun _ => ?_))
  refine au_callC rfl rfl rfl rfl rfl (ack_c w0 _ 0 hC1 hkp.s (fun i => by have := hkp.p i; omega)) ?_
  rintro ⟨qa, hqa⟩
  rw [wake_a]
  refine tri_weak (H' := Hp w0 (SC qa wA ++ (inS r2 [1, 2] :: inS rf [1, 2] :: inS rE wE :: opS rO wO :: hdC g1 (hd q) :: (SC q (wS 5) ++ cs)))) (fun w h => h) ?_
  rw [show (ackM (wS 5) 0).1 = wA from rfl] at hqa
  (repeat (first | refine au_pure ?_ | refine au_pass ?_ | refine au_box (fun _ => ?_) | refine au_alloc (fun _ => ?_) | refine au_store ?_ | refine au_make rfl rfl (fun _ => ?_) | refine au_lit rfl rfl rfl (fun _ => ?_) | refine au_append rfl rfl rfl rfl (fun _ => au_norm ?_) | refine au_storeE rfl rfl rfl rfl ?_)); refine tri_nil ?_; (repeat refine tri_then ?_)
  rename_i g10
  refine tri_weak (H' := Hp w0 (hdC g10 (hd qa) :: (SC qa wA ++ cs))) (fun w h => h.sub (List.Sublist.cons_cons _ (List.Sublist.append_left (List.Sublist.cons _ (List.Sublist.cons _ (List.Sublist.cons _ (List.Sublist.cons _ (List.Sublist.cons _ (List.sublist_append_right _ _)))))) _))) ?_
  have hCa := (rdS_own (w0 := w0) (cs := cs) hqa).cons (c := hdC g10 (hd qa))
  (repeat (first | refine zz ?_ | refine zv fun _ => ?_))
  refine au_callC rfl rfl rfl rfl rfl (ack_c w0 _ 1 hCa wA_kp.s (fun i => by have := wA_kp.p i; omega)) ?_
  rintro ⟨qb, hqb⟩
  rw [wake_b]
  refine tri_weak (H' := Hp w0 (SC qb wB ++ (hdC g10 (hd qa) :: (SC qa wA ++ cs)))) (fun w h => h) ?_
  rw [show (ackM wA 1).1 = wB from rfl] at hqb
  (repeat (first | refine au_pure ?_ | refine au_pass ?_ | refine au_box (fun _ => ?_) | refine au_alloc (fun _ => ?_) | refine au_store ?_ | refine au_make rfl rfl (fun _ => ?_) | refine au_lit rfl rfl rfl (fun _ => ?_) | refine au_append rfl rfl rfl rfl (fun _ => au_norm ?_) | refine au_storeE rfl rfl rfl rfl ?_)); refine tri_nil ?_; (repeat refine tri_then ?_)
  rename_i g12
  obtain ⟨NA, hNA⟩ : ∃ X, X = SC qa wA ++ cs := ⟨_, rfl⟩
  have hCa : RdS (Hp w0 NA) (hd qa) (tlx qa.bs wA.tl) (qa.ps.map Row.sv) wA := by rw [hNA]; exact rdS_own hqa
  rw [← hNA]
  refine tri_weak (H' := Hp w0 (hdC g12 (hd qb) :: hdC g10 (hd qa) :: (SC qb wB ++ NA))) (fun w h => sc_upK [hdC g10 (hd qa)] h (List.Sublist.refl _)) ?_
  have hCb := ((rdS_own (w0 := w0) (cs := NA) hqb).cons (c := hdC g10 (hd qa))).cons (c := hdC g12 (hd qb))
  have hsub : NA.Sublist (SC qb wB ++ NA) := List.sublist_append_right _ _
  (repeat (first | refine zz ?_ | refine zv fun _ => ?_))
  refine au_callC rfl rfl rfl rfl rfl (access_c w0 _ 1 1 false 0 hCb wB_kp.s (fun i => by have := wB_kp.p i; omega)) ?_
  rintro ⟨qc, hqc⟩
  rw [wake_acc]
  (repeat (first | refine au_pure ?_ | refine au_pass ?_ | refine au_box (fun _ => ?_) | refine au_alloc (fun _ => ?_) | refine au_store ?_ | refine au_make rfl rfl (fun _ => ?_) | refine au_lit rfl rfl rfl (fun _ => ?_) | refine au_append rfl rfl rfl rfl (fun _ => au_norm ?_) | refine au_storeE rfl rfl rfl rfl ?_)); refine tri_nil ?_; (repeat refine tri_then ?_)
  rename_i g14
  refine tri_weak (H' := Hp w0 (hdC g12 (hd qb) :: hdC g10 (hd qa) :: (SC qb wB ++ NA))) (fun w h => h.sub (List.Sublist.cons _ (List.sublist_append_right (SC qc (accM wB 1 1 false 0).1) _))) ?_
  have hlma := ((hCa.sub hsub).cons (c := hdC g10 (hd qa))).cons (c := hdC g12 (hd qb)) |>.lm
  rw [wake_alm] at hlma
  (repeat (first | refine zz ?_ | refine zv fun _ => ?_))
  refine au_pure ?_ (hy := yl_len rfl rfl hlma)
  (repeat (first | refine zz ?_ | refine zv fun _ => ?_))
  refine au_pure ?_ (hy := yl_idx (k := (0 : Int).toNat) rfl rfl hlma (ix_int rfl (by decide)) (by rfl) (by decide))
  refine au_pure ?_ (hy := yl_fieldE rfl rfl)
  refine au_pure ?_ (hy := yl_loadE rfl rfl hlma (by rfl) (by decide) (by rfl))
  (repeat (first | refine zz ?_ | refine zv fun _ => ?_))
  refine au_callC rfl rfl rfl rfl rfl (free_c w0 _ hCb wB_kp.s) ?_
  intro rg
  rw [wake_bfree]
  (repeat (first | refine zz ?_ | refine zv fun _ => ?_))
  refine au_lit (l := ([0, 1, 2] : List Int)) rfl rfl rfl (fun r3 => ?_)
  (repeat (first | refine zz ?_ | refine zv fun _ => ?_))
  refine au_callC rfl rfl rfl rfl rfl (one_c w0 _ (rd_chunk (r := rg) (l := ([0, 1, 2] : List Int)) ⟨1, rfl⟩) (rd_chunk (r := r3) (l := ([0, 1, 2] : List Int)) ⟨0, rfl⟩) (by decide)) (fun _ => ?_)
  rw [show decide (([0, 1, 2] : List Int) = [0, 1, 2]) = true from by decide]
  (repeat (first | refine zz ?_ | refine zv fun _ => ?_))
  refine au_callC rfl rfl rfl rfl rfl (quiet_c w0 _ ((hCb.cons (c := inS rg [0, 1, 2])).cons (c := inS r3 [0, 1, 2])) wB_kp.s) (fun _ => ?_)
  rw [wake_bquiet]
  (repeat (first | refine zz ?_ | refine zv fun _ => ?_))
  refine au_done1 rfl ?_
  refine fun w hw => ⟨(), rfl, hw.sub ?_⟩
  rw [hNA]
  exact List.Sublist.cons _ (List.Sublist.cons _ (List.Sublist.cons _ (List.Sublist.cons _ ((List.sublist_append_right _ _).trans (List.sublist_append_right _ _)))))
end
end Go.Proofs.Ytojfaelafakemaa
