/- Texts joined: RfWalk1, RfCheck, SpFix. Each part's own remark says what it proves. -/
import Derived.Test.YtbgjelhefhcnpaaGreatM30
/- The walks of the reference's walks at a middle table. No conditions. -/
set_option linter.unusedSimpArgs false
set_option linter.unusedVariables false
namespace Go.Proofs.YtbgjelhefhcnpaaGreat
open Go Go.RowKit
attribute [local irreducible] decR ixL suitM ledV
attribute [local irreducible] Code.wp wpList bodyPost Exit.then Exit.inBlock Calls wpQuiet Tri TriQ
section
variable (w0 : World) (cs : List Chunk)
set_option maxHeartbeats 8000000 in
theorem rwalk1_c {gh : Nat} {root : Int} {T : Tr} {vn vd : Value} {ns : List ND} {ds : List DP} (h : PtOk root T ns ds) (hN : RdH (Hp w0 cs) vn ns) (hD : RdH (Hp w0 cs) vd ds) {a : Fin 8} {m : Mid} (hT : T a = some m) {k : Nat} (hk : k < ns.length) (hx : ns.getD k default = ⟨m.f, midE m⟩) {V : List Int} (hV : m.f ∉ V) (hj : ∀ j, j < 8 → ∀ f e, legAt m j = .leaf f e → f ∉ mV m V j)
    {rl : Row} {hl : List Int} (hhl : hl.length ≤ 1000) {first : Int} (hf : first = 64 * (a.val : Int)) :
    Cal Tryz.prog 37 [ptV root vn vd, .int .i64 (k : Int), .int .i64 1, .int .i64 first, rl.v, pR gh] (Hp w0 (rkC gh rl (ledV ns V) (hl.length : Int) cs)) (fun _ : Unit => .bool true) (fun _ => Hp w0 (rkC gh rl (ledV ns (mV m V 8)) ((mH m (8 * (a.val : Int)) hl 8).length : Int) cs)) := by
  have hdep := fun j w f hs => dep_yes h hT (j := j) (w := w) (f := f) hs
  have hnl := h.nlen
  have hdl := h.dlen
  have ha8 := a.isLt
  have hlen := led_len ns V
  have hlk := led_at hk V
  rw [hx] at hlk
  have hst := led_set h.o hk V
  rw [hx] at hst
  have hst : (ledV ns V).set k true = ledV ns (mV m V 0) := hst
  refine cal_of_tri Tryz.func37 rfl Tryz.ntmps37 rfl ?_
  (repeat (first | refine tri_seq ?_ | refine tri_then ?_)); refine tri_region ?_; (repeat (first | refine au_pure ?_ | refine au_pass ?_ | refine au_box (fun _ => ?_) | refine au_alloc (fun _ => ?_) | refine au_store ?_ | refine au_make rfl rfl (fun _ => ?_) | refine au_lit rfl rfl rfl (fun _ => ?_) | refine au_append rfl rfl rfl rfl (fun _ => au_norm ?_) | refine au_storeE rfl rfl rfl rfl ?_)); refine tri_nil ?_; (repeat refine tri_then ?_)
  rename_i g6
  refine tri_weak (H' := Hp w0 (rkC gh rl (ledV ns V) (hl.length : Int) (ptC g6 root vn vd :: cs))) (fun w h => HpM.perm h ((List.Perm.swap _ _ _).trans (List.Perm.cons _ (List.Perm.swap _ _ _)))) ?_
  have hNc : ∀ (A B C : Chunk), RdH (Hp w0 (A :: B :: C :: cs)) vn ns := fun A B C => hN.cons.cons.cons
  have hL : ∀ l : List Bool, RdH (Hp w0 (rkC gh rl l (hl.length : Int) (ptC g6 root vn vd :: cs))) rl.v l := fun l => rd_chunk ⟨0, rfl⟩
  (repeat (first | refine zz ?_ | refine zv fun _ => ?_))
  refine au_pure ?_ (hy := yl_idx (k := k) rfl rfl (hL _) (ix_nat rfl) (by rfl) (by omega))
  refine au_pure ?_ (hy := yl_loadE rfl rfl (hL _) (by rfl) (by omega) (by rfl))
  rw [hlk, decide_eq_false hV]
  (repeat (first | refine zz ?_ | refine zv fun _ => ?_))
  refine au_pure ?_ (hy := yl_idx (k := k) rfl rfl (hL _) (ix_nat rfl) (by rfl) (by omega))
  refine au_storeE (a := true) rfl rfl rfl rfl ?_
  refine tri_weak (H' := Hp w0 (rkC gh rl (ledV ns (mV m V 0)) ((mH m (8 * (a.val : Int)) hl 0).length : Int) (ptC g6 root vn vd :: cs))) (fun w h => by rw [← hst]; exact h) ?_
  (repeat (first | refine zz ?_ | refine zv fun _ => ?_))
  refine au_pure ?_ (hy := yl_idx (k := k) rfl rfl (hNc _ _ _) (ix_nat rfl) (by rfl) hk)
  refine au_pure ?_ (hy := yl_fieldE rfl rfl)
  refine au_pure ?_ (hy := yl_loadEN (k := k) (m := 8) rfl rfl (hNc _ _ _) (by rfl) hk (by repeat (first | exact nf0 rfl | apply nfS rfl | exact nfR)) (by rfl))
  (repeat (first | refine zz ?_ | refine zv fun _ => ?_))
  refine tri_block ?_
  refine tri_loop1 (fun (i : Nat) => i ≤ 8) (fun i => [(1, .int .i64 (k : Int)), (2, .int .i64 1), (3, .int .i64 first), (4, rl.v), (5, pR gh), (6, pR g6), (31, ndA (ns.getD k default).e), (32, .int .i64 (i : Int))]) (fun i => Hp w0 (rkC gh rl (ledV ns (mV m V i)) ((mH m (8 * (a.val : Int)) hl i).length : Int) (ptC g6 root vn vd :: cs))) (fun i => 8 - i) 0 (by omega) (by repeat (first | exact trivial | refine ⟨rfl, ?_⟩)) (fun w h => h) ?_
  clear hL
  intro i hi
  (repeat (first | refine zz ?_ | refine zv fun _ => ?_))
  ((first | refine tri_cond (by rfl) (fun hc => ?_) (fun hc => ?_) | refine tri_gsplit (by rfl) (by rfl) (by (fail_if_success exact (rfl : _ = some (Value.bool true))); (fail_if_success exact (rfl : _ = some (Value.bool false))); rfl) (fun hc => ?_) (fun hc => ?_)) <;> (try simp only [decide_eq_true_eq, decide_eq_false_iff_not, beq_iff_eq, bne_iff_ne, ne_eq, Bool.not_eq_true', Bool.not_eq_false', beq_eq_false_iff_ne, bne_eq_false_iff_eq, Int.not_lt, Int.not_le, gt_iff_lt, ge_iff_le, Bool.and_eq_true, Bool.or_eq_true, Bool.and_eq_false_iff, Bool.or_eq_false_iff, Decidable.not_not, not_true_eq_false, not_false_eq_true, and_true, true_and, or_false, false_or, or_true, true_or, and_false, false_and, eq_self, Bool.true_eq_false, Bool.false_eq_true] at hc) <;> (try (exfalso; omega)))
  case refine_1 =>
    have hi8 : i < 8 := by omega
    have hml := mH_len m (8 * (a.val : Int)) hl i
    have hla : legAt m i = m.s ⟨i, hi8⟩ := by unfold legAt; rw [dif_pos hi8]
    have hwd : (ns.getD k default).e ⟨i, hi8⟩ = subE (m.s ⟨i, hi8⟩) := by rw [hx]; rfl
    have hok := h.t.s a m hT ⟨i, hi8⟩
    have hji := hj i hi8
    rw [hla] at hji
    have eV : mV m V (i + 1) = legV (m.s ⟨i, hi8⟩) (mV m V i) := by rw [mV, hla]
    have eH : mH m (8 * (a.val : Int)) hl (i + 1) = legH (8 * (a.val : Int) + i) (m.s ⟨i, hi8⟩) (mH m (8 * (a.val : Int)) hl i) := by rw [mH, hla]
    (repeat (first | refine zz ?_ | refine zv fun _ => ?_))
    refine tri_block ?_
    (repeat (first | refine zz ?_ | refine zv fun _ => ?_))
    refine au_pure ?_ (hy := yl_index8 rfl rfl (ix_nat rfl) hi8)
    rw [hwd]
    (repeat (first | refine zz ?_ | refine zv fun _ => ?_))
    cases hs : m.s ⟨i, hi8⟩ with
    | no =>
      rw [hs] at eV eH
      rw [show subE .no = 0 from rfl]
      refine au_call rfl rfl (cl_of rfl rfl rfl (fun _ h => Ret.hp (rdecode_at _ (by decide) (by decide) dec_zero) h)) ?_
      (repeat (first | refine zz ?_ | refine zv fun _ => ?_))
      refine au_callC rfl rfl rfl rfl rfl (rsuits_c w0 _ noEnt 1 (by unfold suitM; rfl) (.inl rfl)) (fun _ => ?_)
      (repeat (first | refine zz ?_ | refine zv fun _ => ?_))
      exact tri_nx1 (i + 1) (by omega) (by omega) (by repeat (first | exact trivial | refine ⟨rfl, ?_⟩)) (fun w h => by rw [eV, eH]; exact h.sub (List.Sublist.cons _ (List.Sublist.refl _)))
    | huge u f =>
      rw [hs] at eV eH
      have hdi := hdep _ u f hs
      obtain ⟨u1, u2, u3, u4, u5⟩ := hok.h u f hs
      obtain ⟨⟨ek, en, ea, eb, ec, ed⟩, eu, hdu⟩ : ∃ e v, decR u = (e, v) := ⟨_, _, rfl⟩
      rw [hdu] at u1 u2 u3
      simp only at u1 u2 u3
      subst u1 u2 u3
      rw [show subE (.huge u f) = u from rfl]
      refine au_call rfl rfl (cl_of rfl rfl rfl (fun _ h => Ret.hp (rdecode_at _ u4 u5 hdu) h)) ?_
      (repeat (first | refine zz ?_ | refine zv fun _ => ?_))
      refine au_callC rfl rfl rfl rfl rfl (rsuits_c w0 _ (⟨1, en, ea, eb, ec, true⟩ : Ent) 1 (by unfold suitM; rfl) (.inr (.inr rfl))) (fun _ => ?_)
      (repeat (first | refine zz ?_ | refine zv fun _ => ?_))
      refine au_pure ?_ (hy := yl_quon rfl rfl rfl (by omega))
      rw [show first / 8 = 8 * (a.val : Int) by omega]
      (repeat (first | refine zz ?_ | refine zv fun _ => ?_))
      refine au_callC rfl rfl rfl rfl rfl (rdep_c w0 _ (root := root) (vn := vn) hD.cons.cons.cons.cons (by omega) (8 * (a.val : Int) + (i : Int))) (fun _ => ?_)
      (repeat (first | refine zz ?_ | refine zv fun _ => ?_))
      rw [show decide (idxM (fun y : DP => y.g == 8 * (a.val : Int) + (i : Int)) ds < 0) = false from decide_eq_false (by have : 0 ≤ idxM (fun y : DP => y.g == 8 * (a.val : Int) + (i : Int)) ds := hdi; omega)]
      (repeat (first | refine zz ?_ | refine zv fun _ => ?_))
      refine tri_nx1 (i + 1) (by omega) (by omega) (by repeat (first | exact trivial | refine ⟨rfl, ?_⟩)) (fun w h => ?_)
      rw [eV, eH]
      have e1 : (((legH (8 * (a.val : Int) + i) (.huge u f) (mH m (8 * (a.val : Int)) hl i)).length : Nat) : Int) = ((mH m (8 * (a.val : Int)) hl i).length : Int) + 1 := by
        unfold legH
        rw [List.length_append, List.length_singleton]
        omega
      rw [e1]
      exact h.sub (List.Sublist.cons _ (List.Sublist.refl _))
    | leaf f e =>
      rw [hs] at eV eH
      have hlm := leaf_mem (root := root) hT hs
      obtain ⟨k2, h21, h22, h23, h24⟩ := h.pl hlm
      have h21 : idxM (fun y : ND => y.f == f) ns = (k2 : Int) := h21
      obtain ⟨v1, v2, v3⟩ := tbl_ok (h.rng hlm)
      have v1 : decR (tblW f) = (⟨4, f, false, false, false, false⟩, 0) := v1
      have v2 : 0 ≤ tblW f := v2
      have v3 : tblW f < 18446744073709551616 := v3
      have hlf := led_at h22 (mV m V i)
      rw [h23, decide_eq_false (hji f e hs)] at hlf
      have hls := led_set h.o h22 (mV m V i)
      rw [h23] at hls
      have hls : (ledV ns (mV m V i)).set k2 true = ledV ns (mV m V (i + 1)) := by rw [hls, eV]; rfl
      have hwl : ∀ j, pgW ((ns.getD k2 default).e j) := fun j => by rw [h23]; exact hok.l f e hs j
      rw [show subE (.leaf f e) = tblW f from rfl]
      refine au_call rfl rfl (cl_of rfl rfl rfl (fun _ h => Ret.hp (rdecode_at _ v2 v3 v1) h)) ?_
      (repeat (first | refine zz ?_ | refine zv fun _ => ?_))
      rename_i g15
      refine au_callC rfl rfl rfl rfl rfl (rsuits_c w0 _ (⟨4, f, false, false, false, false⟩ : Ent) 1 (by unfold suitM; rfl) (.inr (.inl rfl))) (fun _ => ?_)
      (repeat (first | refine zz ?_ | refine zv fun _ => ?_))
      refine au_callC rfl rfl rfl rfl rfl (rfind_c w0 _ (root := root) (vd := vd) hN.cons.cons.cons.cons (by omega) f) (fun _ => ?_)
      rw [h21]
      (repeat (first | refine zz ?_ | refine zv fun _ => ?_))
      rw [show decide ((k2 : Int) < 0) = false from decide_eq_false (by omega)]
      (repeat (first | refine zz ?_ | refine zv fun _ => ?_))
      refine tri_weak (H' := Hp w0 (rkC gh rl (ledV ns (mV m V i)) ((mH m (8 * (a.val : Int)) hl i).length : Int) (enC g15 4 f false false false false :: ptC g6 root vn vd :: cs))) (fun w h => HpM.perm h (List.perm_middle (l₁ := [_, _])).symm) ?_
      refine au_callC rfl rfl rfl rfl rfl (rwalk0_c w0 (enC g15 4 f false false false false :: ptC g6 root vn vd :: cs) (gh := gh) (root := root) (vd := vd) (rl := rl) (led := ledV ns (mV m V i)) (hc := ((mH m (8 * (a.val : Int)) hl i).length : Int)) hN.cons.cons h22 hwl (led_len _ _) hlf _) (fun _ => ?_)
      rw [hls]
      (repeat (first | refine zz ?_ | refine zv fun _ => ?_))
      exact tri_nx1 (i + 1) (by omega) (by omega) (by repeat (first | exact trivial | refine ⟨rfl, ?_⟩)) (fun w h => by
        rw [eH]
        exact h.sub (List.Sublist.append_left (List.Sublist.cons _ (List.Sublist.refl _)) [_, _]))
  have hie : i = 8 := by omega
  subst hie
  (repeat (first | refine zz ?_ | refine zv fun _ => ?_))
  refine au_done1 rfl ?_
  exact fun w hw => ⟨(), rfl, hw.sub (List.Sublist.cons_cons _ (List.Sublist.cons_cons _ (List.Sublist.cons _ (List.Sublist.refl _))))⟩
end
end Go.Proofs.YtbgjelhefhcnpaaGreat

/- The walks of the reference's walks at the root, and of its Check. No conditions. -/
set_option linter.unusedSimpArgs false
set_option linter.unusedVariables false
namespace Go.Proofs.YtbgjelhefhcnpaaGreat
open Go Go.RowKit
attribute [local irreducible] decR ixL suitM ledV tH tV
attribute [local irreducible] Code.wp wpList bodyPost Exit.then Exit.inBlock Calls wpQuiet Tri TriQ
section
variable (w0 : World) (cs : List Chunk) {root : Int} {T : Tr} {vn vd : Value} {ns : List ND} {ds : List DP} (h : PtOk root T ns ds) (hN : RdH (Hp w0 cs) vn ns) (hD : RdH (Hp w0 cs) vd ds)
include h hN hD
set_option maxHeartbeats 8000000 in
theorem rwalk2_c {gh : Nat} {k : Nat} (hk : k < ns.length) (hx : ns.getD k default = ⟨root, rootE T⟩) {rl : Row} :
    Cal Tryz.prog 37 [ptV root vn vd, .int .i64 (k : Int), .int .i64 2, .int .i64 0, rl.v, pR gh] (Hp w0 (rkC gh rl (ledV ns []) 0 cs)) (fun _ : Unit => .bool true) (fun _ => Hp w0 (rkC gh rl (ledV ns (tV root T 8)) ((tH T 8).length : Int) cs)) := by
  have hnl := h.nlen
  have hlen := led_len ns []
  have hlk := led_at hk []
  rw [hx, decide_eq_false (by simp)] at hlk
  have hst := led_set h.o hk []
  rw [hx] at hst
  have hst : (ledV ns []).set k true = ledV ns (tV root T 0) := by unfold tV; exact hst
  have h00 : ((tH T 0).length : Int) = 0 := by unfold tH; rfl
  refine cal_of_tri Tryz.func37 rfl Tryz.ntmps37 rfl ?_
  (repeat (first | refine tri_seq ?_ | refine tri_then ?_)); refine tri_region ?_; (repeat (first | refine au_pure ?_ | refine au_pass ?_ | refine au_box (fun _ => ?_) | refine au_alloc (fun _ => ?_) | refine au_store ?_ | refine au_make rfl rfl (fun _ => ?_) | refine au_lit rfl rfl rfl (fun _ => ?_) | refine au_append rfl rfl rfl rfl (fun _ => au_norm ?_) | refine au_storeE rfl rfl rfl rfl ?_)); refine tri_nil ?_; (repeat refine tri_then ?_)
  rename_i g6
  refine tri_weak (H' := Hp w0 (rkC gh rl (ledV ns []) 0 (ptC g6 root vn vd :: cs))) (fun w h => HpM.perm h ((List.Perm.swap _ _ _).trans (List.Perm.cons _ (List.Perm.swap _ _ _)))) ?_
  have hNc : ∀ (A B C : Chunk), RdH (Hp w0 (A :: B :: C :: cs)) vn ns := fun A B C => hN.cons.cons.cons
  have hL : ∀ l : List Bool, RdH (Hp w0 (rkC gh rl l 0 (ptC g6 root vn vd :: cs))) rl.v l := fun l => rd_chunk ⟨0, rfl⟩
  (repeat (first | refine zz ?_ | refine zv fun _ => ?_))
  refine au_pure ?_ (hy := yl_idx (k := k) rfl rfl (hL _) (ix_nat rfl) (by rfl) (by omega))
  refine au_pure ?_ (hy := yl_loadE rfl rfl (hL _) (by rfl) (by omega) (by rfl))
  rw [hlk]
  (repeat (first | refine zz ?_ | refine zv fun _ => ?_))
  refine au_pure ?_ (hy := yl_idx (k := k) rfl rfl (hL _) (ix_nat rfl) (by rfl) (by omega))
  refine au_storeE (a := true) rfl rfl rfl rfl ?_
  refine tri_weak (H' := Hp w0 (rkC gh rl (ledV ns (tV root T 0)) ((tH T 0).length : Int) (ptC g6 root vn vd :: cs))) (fun w h => by rw [← hst, h00]; exact h) ?_
  (repeat (first | refine zz ?_ | refine zv fun _ => ?_))
  refine au_pure ?_ (hy := yl_idx (k := k) rfl rfl (hNc _ _ _) (ix_nat rfl) (by rfl) hk)
  refine au_pure ?_ (hy := yl_fieldE rfl rfl)
  refine au_pure ?_ (hy := yl_loadEN (k := k) (m := 8) rfl rfl (hNc _ _ _) (by rfl) hk (by repeat (first | exact nf0 rfl | apply nfS rfl | exact nfR)) (by rfl))
  (repeat (first | refine zz ?_ | refine zv fun _ => ?_))
  refine tri_block ?_
  refine tri_loop1 (fun (i : Nat) => i ≤ 8) (fun i => [(1, .int .i64 (k : Int)), (2, .int .i64 2), (3, .int .i64 0), (4, rl.v), (5, pR gh), (6, pR g6), (31, ndA (ns.getD k default).e), (32, .int .i64 (i : Int))]) (fun i => Hp w0 (rkC gh rl (ledV ns (tV root T i)) ((tH T i).length : Int) (ptC g6 root vn vd :: cs))) (fun i => 8 - i) 0 (by omega) (by repeat (first | exact trivial | refine ⟨rfl, ?_⟩)) (fun w h => h) ?_
  clear hL
  intro i hi
  (repeat (first | refine zz ?_ | refine zv fun _ => ?_))
  ((first | refine tri_cond (by rfl) (fun hc => ?_) (fun hc => ?_) | refine tri_gsplit (by rfl) (by rfl) (by (fail_if_success exact (rfl : _ = some (Value.bool true))); (fail_if_success exact (rfl : _ = some (Value.bool false))); rfl) (fun hc => ?_) (fun hc => ?_)) <;> (try simp only [decide_eq_true_eq, decide_eq_false_iff_not, beq_iff_eq, bne_iff_ne, ne_eq, Bool.not_eq_true', Bool.not_eq_false', beq_eq_false_iff_ne, bne_eq_false_iff_eq, Int.not_lt, Int.not_le, gt_iff_lt, ge_iff_le, Bool.and_eq_true, Bool.or_eq_true, Bool.and_eq_false_iff, Bool.or_eq_false_iff, Decidable.not_not, not_true_eq_false, not_false_eq_true, and_true, true_and, or_false, false_or, or_true, true_or, and_false, false_and, eq_self, Bool.true_eq_false, Bool.false_eq_true] at hc) <;> (try (exfalso; omega)))
  case refine_1 =>
    have hi8 : i < 8 := by omega
    have hml := tH_len T i
    have hla : trAt T i = T ⟨i, hi8⟩ := by unfold trAt; rw [dif_pos hi8]
    have hwd : (ns.getD k default).e ⟨i, hi8⟩ = rootE T ⟨i, hi8⟩ := by rw [hx]
    have eV : tV root T (i + 1) = optV (T ⟨i, hi8⟩) (tV root T i) := by rw [tV, hla]
    have eH : tH T (i + 1) = optH (8 * (i : Int)) (T ⟨i, hi8⟩) (tH T i) := by rw [tH, hla]
    (repeat (first | refine zz ?_ | refine zv fun _ => ?_))
    refine tri_block ?_
    (repeat (first | refine zz ?_ | refine zv fun _ => ?_))
    refine au_pure ?_ (hy := yl_index8 rfl rfl (ix_nat rfl) hi8)
    rw [hwd]
    (repeat (first | refine zz ?_ | refine zv fun _ => ?_))
    cases hs : T ⟨i, hi8⟩ with
    | none =>
      rw [hs] at eV eH
      rw [show rootE T ⟨i, hi8⟩ = 0 by unfold rootE; rw [hs]]
      refine au_call rfl rfl (cl_of rfl rfl rfl (fun _ h => Ret.hp (rdecode_at _ (by decide) (by decide) dec_zero) h)) ?_
      (repeat (first | refine zz ?_ | refine zv fun _ => ?_))
      refine au_callC rfl rfl rfl rfl rfl (rsuits_c w0 _ noEnt 2 (by unfold suitM; rfl) (.inl rfl)) (fun _ => ?_)
      (repeat (first | refine zz ?_ | refine zv fun _ => ?_))
      exact tri_nx1 (i + 1) (by omega) (by omega) (by repeat (first | exact trivial | refine ⟨rfl, ?_⟩)) (fun w h => by rw [eV, eH]; exact h.sub (List.Sublist.cons _ (List.Sublist.refl _)))
    | some m =>
      rw [hs] at eV eH
      have hmm := mid_mem (root := root) hs
      obtain ⟨k2, h21, h22, h23, h24⟩ := h.pl hmm
      have h21 : idxM (fun y : ND => y.f == m.f) ns = (k2 : Int) := h21
      obtain ⟨v1, v2, v3⟩ := tbl_ok (h.rng hmm)
      have v1 : decR (tblW m.f) = (⟨4, m.f, false, false, false, false⟩, 0) := v1
      have v2 : 0 ≤ tblW m.f := v2
      have v3 : tblW m.f < 18446744073709551616 := v3
      obtain ⟨n1, n2⟩ := mid_news h.t.d hs
      rw [show rootE T ⟨i, hi8⟩ = tblW m.f by unfold rootE; rw [hs]]
      refine au_call rfl rfl (cl_of rfl rfl rfl (fun _ h => Ret.hp (rdecode_at _ v2 v3 v1) h)) ?_
      (repeat (first | refine zz ?_ | refine zv fun _ => ?_))
      rename_i g15
      refine au_callC rfl rfl rfl rfl rfl (rsuits_c w0 _ (⟨4, m.f, false, false, false, false⟩ : Ent) 2 (by unfold suitM; rfl) (.inr (.inl rfl))) (fun _ => ?_)
      (repeat (first | refine zz ?_ | refine zv fun _ => ?_))
      refine au_callC rfl rfl rfl rfl rfl (rfind_c w0 _ (root := root) (vd := vd) hN.cons.cons.cons.cons (by omega) m.f) (fun _ => ?_)
      rw [h21]
      (repeat (first | refine zz ?_ | refine zv fun _ => ?_))
      rw [show decide ((k2 : Int) < 0) = false from decide_eq_false (by omega)]
      (repeat (first | refine zz ?_ | refine zv fun _ => ?_))
      refine tri_weak (H' := Hp w0 (rkC gh rl (ledV ns (tV root T i)) ((tH T i).length : Int) (enC g15 4 m.f false false false false :: ptC g6 root vn vd :: cs))) (fun w h => HpM.perm h (List.perm_middle (l₁ := [_, _])).symm) ?_
      rw [show IntKind.i64.wrap (0 + IntKind.i64.wrap ((i : Int) * 64)) = (i : Int) * 64 by rw [wrap_i64 (by rw [wrap_i64 (by omega)]; omega), wrap_i64 (by omega)]; omega]
      refine au_callC rfl rfl rfl rfl rfl (rwalk1_c w0 (enC g15 4 m.f false false false false :: ptC g6 root vn vd :: cs) (gh := gh) (root := root) (vn := vn) (vd := vd) (rl := rl) (hl := tH T i) h hN.cons.cons hD.cons.cons hs h22 h23 n1 n2 (by omega) (first := (i : Int) * 64) (by show (i : Int) * 64 = 64 * (i : Int); omega)) (fun _ => ?_)
      (repeat (first | refine zz ?_ | refine zv fun _ => ?_))
      exact tri_nx1 (i + 1) (by omega) (by omega) (by repeat (first | exact trivial | refine ⟨rfl, ?_⟩)) (fun w h => by
        rw [eV, eH]
        exact h.sub (List.Sublist.append_left (List.Sublist.cons _ (List.Sublist.refl _)) [_, _]))
  have hie : i = 8 := by omega
  subst hie
  (repeat (first | refine zz ?_ | refine zv fun _ => ?_))
  refine au_done1 rfl ?_
  exact fun w hw => ⟨(), rfl, hw.sub (List.Sublist.cons_cons _ (List.Sublist.cons_cons _ (List.Sublist.cons _ (List.Sublist.refl _))))⟩
set_option maxHeartbeats 4000000 in
theorem rCheck_c : Cal Tryz.prog 10 [ptV root vn vd] (Hp w0 cs) (fun _ : Unit => .int .i64 0) (fun _ => Hp w0 cs) := by
  have hnl := h.nlen
  have hdl := h.dlen
  obtain ⟨k0, h01, h02, h03, h04⟩ := h.pl (root_mem root T)
  have h01 : idxM (fun y : ND => y.f == root) ns = (k0 : Int) := h01
  have htl : (tH T 8).length = ds.length := by rw [tH_eq, List.length_map, h.d]
  have hall := fun j hj => led_all h (j := j) hj
  refine cal_of_tri Tryz.func10 rfl Tryz.ntmps10 rfl ?_
  (repeat (first | refine tri_seq ?_ | refine tri_then ?_)); refine tri_region ?_; (repeat (first | refine au_pure ?_ | refine au_pass ?_ | refine au_box (fun _ => ?_) | refine au_alloc (fun _ => ?_) | refine au_store ?_ | refine au_make rfl rfl (fun _ => ?_) | refine au_lit rfl rfl rfl (fun _ => ?_) | refine au_append rfl rfl rfl rfl (fun _ => au_norm ?_) | refine au_storeE rfl rfl rfl rfl ?_)); refine tri_nil ?_; (repeat refine tri_then ?_)
  rename_i g1
  refine tri_weak (H' := Hp w0 (ptC g1 root vn vd :: cs)) (fun w h => h) ?_
  have hN1 := hN.cons (c := ptC g1 root vn vd)
  have hD1 := hD.cons (c := ptC g1 root vn vd)
  (repeat (first | refine zz ?_ | refine zv fun _ => ?_))
  refine au_callC rfl rfl rfl rfl rfl (ranges_c w0 _ (vn := vn) (vd := vd) h hN1 hD1) (fun _ => ?_)
  (repeat (first | refine zz ?_ | refine zv fun _ => ?_))
  refine au_callC rfl rfl rfl rfl rfl (ordered_c w0 _ (vn := vn) (vd := vd) h hN1 hD1) (fun _ => ?_)
  (repeat (first | refine zz ?_ | refine zv fun _ => ?_))
  refine au_callC rfl rfl rfl rfl rfl (twice_c w0 _ (vn := vn) (vd := vd) h hN1 hD1) (fun _ => ?_)
  (repeat (first | refine zz ?_ | refine zv fun _ => ?_))
  refine au_callC rfl rfl rfl rfl rfl (rfind_c w0 _ (root := root) (vd := vd) hN1 (by omega) root) (fun _ => ?_)
  rw [h01]
  (repeat (first | refine zz ?_ | refine zv fun _ => ?_))
  rw [show decide ((k0 : Int) < 0) = false from decide_eq_false (by omega)]
  (repeat (first | refine zz ?_ | refine zv fun _ => ?_))
  refine au_pure ?_ (hy := yl_len rfl rfl hN1)
  refine au_make (α := Bool) (k := ns.length) (c := ns.length) rfl rfl (fun rl => ?_)
  (repeat (first | refine zz ?_ | refine zv fun _ => ?_))
  rename_i g5
  refine tri_weak (H' := Hp w0 (rkC g5 rl (ledV ns []) 0 (ptC g1 root vn vd :: cs))) (fun w h => by rw [led_none]; exact HpM.perm h (List.Perm.swap _ _ _)) ?_
  (repeat (first | refine zz ?_ | refine zv fun _ => ?_))
  refine au_callC rfl rfl rfl rfl rfl (rwalk2_c w0 _ (vn := vn) (vd := vd) h hN1 hD1 (gh := g5) h02 h03) (fun _ => ?_)
  (repeat (first | refine zz ?_ | refine zv fun _ => ?_))
  refine au_pure ?_ (hy := yl_len rfl rfl hD1.cons.cons)
  rw [htl]
  (repeat (first | refine zz ?_ | refine zv fun _ => ?_))
  rw [show ((ds.length : Int) != (ds.length : Int)) = false by simp]
  (repeat (first | refine zz ?_ | refine zv fun _ => ?_))
  have hRl : RdH (Hp w0 (rkC g5 rl (ledV ns (tV root T 8)) (ds.length : Int) (ptC g1 root vn vd :: cs))) rl.v (ledV ns (tV root T 8)) := rd_chunk ⟨0, rfl⟩
  refine au_pure ?_ (hy := yl_len rfl rfl hRl)
  rw [led_len]
  (repeat (first | refine zz ?_ | refine zv fun _ => ?_))
  refine tri_block ?_
  refine tri_loop1 (fun (i : Nat) => i ≤ ns.length) (fun i => [(38, rl.v), (39, .int .i64 (ns.length : Int)), (40, .int .i64 (i : Int))]) (fun _ => Hp w0 (rkC g5 rl (ledV ns (tV root T 8)) (ds.length : Int) (ptC g1 root vn vd :: cs))) (fun i => ns.length - i) 0 (by omega) (by repeat (first | exact trivial | refine ⟨rfl, ?_⟩)) (fun w h => h) ?_
  intro i hi
  (repeat (first | refine zz ?_ | refine zv fun _ => ?_))
  ((first | refine tri_cond (by rfl) (fun hc => ?_) (fun hc => ?_) | refine tri_gsplit (by rfl) (by rfl) (by (fail_if_success exact (rfl : _ = some (Value.bool true))); (fail_if_success exact (rfl : _ = some (Value.bool false))); rfl) (fun hc => ?_) (fun hc => ?_)) <;> (try simp only [decide_eq_true_eq, decide_eq_false_iff_not, beq_iff_eq, bne_iff_ne, ne_eq, Bool.not_eq_true', Bool.not_eq_false', beq_eq_false_iff_ne, bne_eq_false_iff_eq, Int.not_lt, Int.not_le, gt_iff_lt, ge_iff_le, Bool.and_eq_true, Bool.or_eq_true, Bool.and_eq_false_iff, Bool.or_eq_false_iff, Decidable.not_not, not_true_eq_false, not_false_eq_true, and_true, true_and, or_false, false_or, or_true, true_or, and_false, false_and, eq_self, Bool.true_eq_false, Bool.false_eq_true] at hc) <;> (try (exfalso; omega)))
  case refine_1 =>
    have ht := hall i (by omega)
    (repeat (first | refine zz ?_ | refine zv fun _ => ?_))
    refine tri_block ?_
    (repeat (first | refine zz ?_ | refine zv fun _ => ?_))
    refine au_pure ?_ (hy := yl_idx (k := i) rfl rfl hRl (ix_nat rfl) (by rfl) (by rw [led_len]; omega))
    refine au_pure ?_ (hy := yl_loadE rfl rfl hRl (by rfl) (by rw [led_len]; omega) (by rfl))
    rw [ht]
    (repeat (first | refine zz ?_ | refine zv fun _ => ?_))
    exact tri_nx1 (i + 1) (by omega) (by omega) (by repeat (first | exact trivial | refine ⟨rfl, ?_⟩)) (fun w h => h)
  (repeat (first | refine zz ?_ | refine zv fun _ => ?_))
  refine au_done1 rfl ?_
  exact fun w hw => ⟨(), rfl, hw.tail.tail.tail⟩
end
end Go.Proofs.YtbgjelhefhcnpaaGreat

/- The walk of the law's fixed run. No conditions. -/
set_option linter.unusedSimpArgs false
set_option linter.unusedVariables false
namespace Go.Proofs.YtbgjelhefhcnpaaGreat
open Go Go.RowKit
/-- The words while pages from 16 on are mapped. -/
def Wd (T : Tr) (i : Nat) : Prop := ∀ q, q < 512 → (pgT T q).2 = if 16 ≤ q ∧ q < 16 + i then newW q else 0
theorem pgO_of {k p c : Int} {n : Nat} (hn : n < 512) (h : p = (n : Int)) : pgO ⟨k, p, c⟩ = n := by
  unfold pgO
  simp only
  omega
theorem wd_step {T T' : Tr} {i : Nat} (hi : i < 8) (h : Wd T i) (hw : StepW ⟨0, 16 + (i : Int), 0⟩ T T') : Wd T' (i + 1) := by
  have hpg : pgO ⟨0, 16 + (i : Int), 0⟩ = 16 + i := pgO_of (by omega) (by omega)
  have h0 := hw.k0 rfl
  rw [hpg] at h0
  have h1 := h0 (by rw [h _ (by omega), if_neg (by omega)])
  intro q hq
  rw [h1 q hq]
  by_cases e : q = 16 + i
  · rw [if_pos e, if_pos (by omega), e]
  · rw [if_neg e, h q hq]
    by_cases e2 : 16 ≤ q ∧ q < 16 + i
    · rw [if_pos e2, if_pos (by omega)]
    · rw [if_neg e2, if_neg (by omega)]
theorem wd_join {T T' : Tr} (h : Wd T 8) (hw : StepW ⟨5, 16, 0⟩ T T') : (decR (pgT T' 16).2).1.d = true := by
  have hpg : pgO ⟨5, 16, 0⟩ = 16 := pgO_of (by omega) rfl
  have h5 := hw.k5 rfl
  rw [hpg] at h5
  exact h5 fun i hi => by rw [h _ (by omega), if_pos (by omega)]
theorem wd_ne {root : Int} {T : Tr} (ht : TrOk root T) {fr : Nat → Int} {wr : Nat → Bool} (hI : PgInv T fr wr) (h : (decR (pgT T 16).2).1.d = true) : (pgT T 20).2 ≠ 0 := by
  obtain ⟨a, b, c, h1, h2⟩ := huge_known ht hI (g := 2) (by decide) h
  have hs := huge_same (T := T) (p := 16) (q := 20) (by decide) (by decide) (by decide) h1
  rw [hs]
  intro e
  rw [show 8 * 2 = 16 from rfl, e, dec_zero] at h2
  have := congrArg (fun x : Ent × Int => x.1.k) h2
  simp [noEnt] at this
theorem nx_le {y y' : SpSt} {w0 : World} {o : PO} (h : StepR w0 y y' o) {n : Int} (hn : y.S.nx ≤ n) : y'.S.nx ≤ n + 2 := by have := h.nx; omega
attribute [local irreducible] spL decR pgT endP newW
attribute [local irreducible] Code.wp wpList bodyPost Exit.then Exit.inBlock Calls wpQuiet Tri TriQ
section
variable (w0 : World) (cs : List Chunk)
set_option maxRecDepth 20000 in
set_option maxHeartbeats 8000000 in
theorem aSpaced_c : Cal Tryz.prog 4 [] (Hp w0 cs) (fun _ : Unit => .bool true) (fun _ => Hp w0 cs) := by
  refine cal_of_tri Tryz.func4 rfl Tryz.ntmps4 rfl ?_
  (repeat (first | refine zz ?_ | refine zv fun _ => ?_))
  refine au_callC rfl rfl rfl rfl rfl (aNew_c w0 cs (z := 2) (by decide)) ?_
  rintro ⟨⟨g, y0⟩, h0⟩
  have hw00 : Wd y0.T 0 := fun q hq => by rw [h0.w q, if_neg (by omega)]
  have hm0 := h0.m
  have ha0 := h0.a
  have hr0 := h0.r
  have hx0 : y0.S.nx ≤ 1 := by have e : y0.S.nx = 1 := h0.nx; omega
  (repeat (first | refine zz ?_ | refine zv fun _ => ?_))
  refine tri_block ?_
  refine tri_loop2 (fun (i : Nat) (y : SpSt) => i ≤ 8 ∧ StM w0 y ∧ StA y ∧ cs.Sublist y.R ∧ Wd y.T i ∧ y.S.nx ≤ 1 + 2 * (i : Int)) (fun i _ => [(1, pR g), (2, .bool true), (10, .int .i64 (i : Int))]) (fun _ y => stH w0 g y) (fun i _ => 8 - i) 0 y0 ⟨by omega, hm0, ha0, hr0, hw00, by omega⟩ (by repeat (first | exact trivial | refine ⟨rfl, ?_⟩)) (fun w h => h) ?_
  rintro i y ⟨hi, hm, ha, hr, hw, hx⟩
  (repeat (first | refine zz ?_ | refine zv fun _ => ?_))
  ((first | refine tri_cond (by rfl) (fun hc => ?_) (fun hc => ?_) | refine tri_gsplit (by rfl) (by rfl) (by (fail_if_success exact (rfl : _ = some (Value.bool true))); (fail_if_success exact (rfl : _ = some (Value.bool false))); rfl) (fun hc => ?_) (fun hc => ?_)) <;> (try simp only [decide_eq_true_eq, decide_eq_false_iff_not, beq_iff_eq, bne_iff_ne, ne_eq, Bool.not_eq_true', Bool.not_eq_false', beq_eq_false_iff_ne, bne_eq_false_iff_eq, Int.not_lt, Int.not_le, gt_iff_lt, ge_iff_le, Bool.and_eq_true, Bool.or_eq_true, Bool.and_eq_false_iff, Bool.or_eq_false_iff, Decidable.not_not, not_true_eq_false, not_false_eq_true, and_true, true_and, or_false, false_or, or_true, true_or, and_false, false_and, eq_self, Bool.true_eq_false, Bool.false_eq_true] at hc) <;> (try (exfalso; omega)))
  case refine_1 =>
    have hi8 : i < 8 := by omega
    (repeat (first | refine zz ?_ | refine zv fun _ => ?_))
    refine tri_block ?_
    (repeat (first | refine zz ?_ | refine zv fun _ => ?_))
    refine au_pure ?_ (hy := yl_conv rfl rfl)
    rw [show IntKind.u16.wrap (16 + (i : Int)) = 16 + (i : Int) by rw [IntKind.wrap_u16]; omega]
    (repeat (first | refine zz ?_ | refine zv fun _ => ?_))
    refine au_callC rfl rfl rfl rfl rfl (spstep_c w0 (g := g) hm ha (by omega) (o := ⟨0, 16 + (i : Int), 0⟩) ⟨(by show (0 : Int) ≤ 0 ∧ (0 : Int) ≤ 255; decide), (by show 0 ≤ 16 + (i : Int) ∧ 16 + (i : Int) ≤ 65535; omega), (by show (0 : Int) ≤ 0 ∧ (0 : Int) ≤ 255; decide)⟩) ?_
    rintro ⟨y', hs⟩
    (repeat (first | refine zz ?_ | refine zv fun _ => ?_))
    exact tri_nx2 (i + 1) y' (by omega) ⟨by omega, hs.m, hs.a, hr.trans hs.r, wd_step hi8 hw hs.w, by have := hs.nx; omega⟩ (by repeat (first | exact trivial | refine ⟨rfl, ?_⟩)) (fun w h => h)
  have hie : i = 8 := by omega
  subst hie
  (repeat (first | refine zz ?_ | refine zv fun _ => ?_))
  refine au_callC rfl rfl rfl rfl rfl (spstep_c w0 (g := g) hm ha (by omega) (o := ⟨5, 16, 0⟩) ⟨by decide, by decide, by decide⟩) ?_
  rintro ⟨y1, s1⟩
  have d1 := wd_join hw s1.w
  have e1 := end_pg 0 y1.T (8 * 2)
  (repeat (first | refine zz ?_ | refine zv fun _ => ?_))
  refine au_pure ?_ (hy := yl_spTab (g := g) (S := y1.S) rfl rfl (has_at at0))
  (repeat (first | refine zz ?_ | refine zv fun _ => ?_))
  refine au_callC rfl rfl rfl rfl rfl (Huge_c w0 _ (vn := y1.S.vn) (vd := y1.S.vd) s1.m.pt s1.m.n.cons s1.m.d.cons (g := 2) (by decide)) (fun _ => ?_)
  rw [e1, show pgT y1.T (8 * 2) = pgT y1.T 16 from rfl, d1]
  have x1 := nx_le s1 hx
  (repeat (first | refine zz ?_ | refine zv fun _ => ?_))
  refine au_callC rfl rfl rfl rfl rfl (spstep_c w0 (g := g) s1.m s1.a (by omega) (o := ⟨4, 20, 1⟩) ⟨by decide, by decide, by decide⟩) ?_
  rintro ⟨y2, s2⟩
  have d2 : (decR (pgT y2.T 16).2).1.d = true := by rw [s2.w.k3 (.inr rfl) 16 (by decide)]; exact d1
  have n2 := wd_ne s2.m.pt.t s2.a.pg d2
  have x2 := nx_le s2 x1
  (repeat (first | refine zz ?_ | refine zv fun _ => ?_))
  refine au_callC rfl rfl rfl rfl rfl (spstep_c w0 (g := g) s2.m s2.a (by omega) (o := ⟨2, 20, 0⟩) ⟨by decide, by decide, by decide⟩) ?_
  rintro ⟨y3, s3⟩
  have d3 : (decR (pgT y3.T 16).2).1.d = false := by
    have hpg : pgO ⟨2, 20, 0⟩ = 20 := pgO_of (by omega) rfl
    have hk := s3.w.k2 rfl
    rw [hpg] at hk
    exact hk n2 16 (by decide) (by decide)
  have x3 := nx_le s3 x2
  (repeat (first | refine zz ?_ | refine zv fun _ => ?_))
  refine au_callC rfl rfl rfl rfl rfl (spstep_c w0 (g := g) s3.m s3.a (by omega) (o := ⟨4, 20, 1⟩) ⟨by decide, by decide, by decide⟩) ?_
  rintro ⟨y4, s4⟩
  have d4 : (decR (pgT y4.T 16).2).1.d = false := by rw [s4.w.k3 (.inr rfl) 16 (by decide)]; exact d3
  have x4 := nx_le s4 x3
  (repeat (first | refine zz ?_ | refine zv fun _ => ?_))
  refine au_callC rfl rfl rfl rfl rfl (spstep_c w0 (g := g) s4.m s4.a (by omega) (o := ⟨3, 21, 1⟩) ⟨by decide, by decide, by decide⟩) ?_
  rintro ⟨y5, s5⟩
  have d5 : (decR (pgT y5.T 16).2).1.d = false := by rw [s5.w.k3 (.inl rfl) 16 (by decide)]; exact d4
  have e5 := end_pg 0 y5.T (8 * 2)
  (repeat (first | refine zz ?_ | refine zv fun _ => ?_))
  refine au_pure ?_ (hy := yl_spTab (g := g) (S := y5.S) rfl rfl (has_at at0))
  (repeat (first | refine zz ?_ | refine zv fun _ => ?_))
  refine au_callC rfl rfl rfl rfl rfl (Huge_c w0 _ (vn := y5.S.vn) (vd := y5.S.vd) s5.m.pt s5.m.n.cons s5.m.d.cons (g := 2) (by decide)) (fun _ => ?_)
  rw [e5, show pgT y5.T (8 * 2) = pgT y5.T 16 from rfl, d5]
  (repeat (first | refine zz ?_ | refine zv fun _ => ?_))
  refine au_pure ?_ (hy := yl_spTab (g := g) (S := y5.S) rfl rfl (has_at at0))
  (repeat (first | refine zz ?_ | refine zv fun _ => ?_))
  refine au_callC rfl rfl rfl rfl rfl (rCheck_c w0 _ (vn := y5.S.vn) (vd := y5.S.vd) s5.m.pt s5.m.n.cons s5.m.d.cons) (fun _ => ?_)
  (repeat (first | refine zz ?_ | refine zv fun _ => ?_))
  refine au_done1 rfl ?_
  exact fun w hw => ⟨(), rfl, hw.tail.sub (hr.trans (s1.r.trans (s2.r.trans (s3.r.trans (s4.r.trans s5.r)))))⟩
end
end Go.Proofs.YtbgjelhefhcnpaaGreat
