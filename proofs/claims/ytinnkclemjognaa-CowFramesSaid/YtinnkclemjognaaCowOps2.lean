/- The walks of package cow: Write, clear, Unmap. No conditions. -/
import Derived.Test.YtinnkclemjognaaCowOps
import Derived.Test.YtinnkclemjognaaMax
set_option linter.unusedSimpArgs false
set_option linter.unusedVariables false
namespace Go.Proofs.Ytinnkclemjognaa
open Go Go.RowKit
attribute [local irreducible] Code.wp wpList bodyPost Exit.then Exit.inBlock Calls wpQuiet Tri TriQ
theorem perm_up2 {A B Z C : Chunk} {N cs : List Chunk} : (A :: B :: (N ++ (Z :: C :: cs))).Perm (Z :: C :: A :: B :: (N ++ cs)) := by
  have h1 : (A :: B :: (N ++ (Z :: C :: cs))).Perm (A :: B :: Z :: C :: (N ++ cs)) := by
    refine List.Perm.cons A (List.Perm.cons B ?_)
    refine List.perm_middle.trans (List.Perm.cons Z ?_)
    exact List.perm_middle
  refine h1.trans ?_
  have h2 : (A :: B :: Z :: C :: (N ++ cs)) = [A, B] ++ ([Z, C] ++ (N ++ cs)) := rfl
  have h3 : (Z :: C :: A :: B :: (N ++ cs)) = [Z, C] ++ ([A, B] ++ (N ++ cs)) := rfl
  rw [h2, h3, ← List.append_assoc, ← List.append_assoc [Z, C]]
  exact List.Perm.append_right _ List.perm_append_comm
theorem fin_rows {w0 w : World} {cs : List Chunk} {r f rp : Row} {rs : List Row} {sp : List CS} {s : Nat} {F : List FR} {X : List SP} {s' : CS} {z C : Int} (hl : rs.length = sp.length) (hs : s < sp.length) (hX : X = spx rs sp) (hrp : rp = rs.getD s (Row.nil 0)) (hlv : s'.lv = (sp.getD s default).lv)
    (hw : Hp w0 (pgS rp s'.pg :: frS f F :: spS r X :: (px rs sp s ++ cs)) w) : Hp w0 (CC r rs f ⟨z, sp.set s s', F, C⟩ ++ cs) w := by
  have h1 := HpM.perm hw (perm_unfocus (cs := cs) [frS f F, spS r X] (r' := rp) (s' := s') hl hs)
  rw [hrp, rs_self (by omega), hX, ← spx_same hl hs hlv] at h1
  exact h1
theorem sub5 {a b c d e : Chunk} {N cs : List Chunk} : cs.Sublist (a :: b :: c :: d :: e :: (N ++ cs)) := (((((List.sublist_append_right _ _).cons _).cons _).cons _).cons _).cons _
theorem free_at {fm : List FR} (h : ¬ freeI fm < 0) : ∃ k : Nat, freeI fm = (k : Int) ∧ k < fm.length ∧ (fm.getD k default).ct = 0 := by
  have ha : fm.any (fun f => f.ct == 0) = true := by rw [← idxM_ge]; exact decide_eq_true (by unfold freeI at h; omega)
  obtain ⟨h1, h2⟩ := idxM_lt ha
  refine ⟨(freeI fm).toNat, by unfold freeI; omega, h2, ?_⟩
  exact beq_iff_eq.1 (idxM_at ha)
section
variable (w0 : World) (cs : List Chunk)
theorem wf_c (l : List FR) : TstFR w0 cs 34 [] (fun f => f.ct == 0) := fun ds y => by
  show Cal _ _ [frV y] _ _ _
  refine cal_of_tri Try.func34 rfl Try.ntmps34 rfl ?_
  (repeat (first | refine au_pure ?_ | refine au_pass ?_ | refine au_box (fun _ => ?_) | refine au_alloc (fun _ => ?_) | refine au_store ?_ | refine au_make rfl rfl (fun _ => ?_) | refine au_lit rfl rfl rfl (fun _ => ?_) | refine au_append rfl rfl rfl rfl (fun _ => au_norm ?_) | refine au_storeE rfl rfl rfl rfl ?_ | refine tri_seq ?_ | refine tri_then ?_ | refine tri_region ?_ | refine tri_nil ?_ | refine tri_skip ?_ | refine tri_ret ?_ | refine tri_exit ?_ | refine tri_thenr ?_ | refine tri_thene ?_ | refine tri_blkn ?_ | refine tri_blkr ?_ | refine tri_blke ?_ | refine tri_blko (by rfl) ?_ | refine tri_if_t (by rfl) ?_ | refine tri_if_f (by rfl) ?_ | fail))
  refine au_done1 rfl ?_
  intro w hw; exact ⟨(), rfl, hw.sub (by repeat (first | exact List.Sublist.refl _ | assumption | apply List.Sublist.cons_cons | apply List.Sublist.cons))⟩
theorem write_err {m : CW} {s p wd : Int} (h : atE m s p ≠ 0) : writeM m s p wd = (CW.zero, atE m s p) := if_pos h
theorem write_yes {m : CW} {s p w : Int} (h : atE m s p = 0) : writeM m s p w = writeG m s.toNat p.toNat w := if_neg (by simp [h])
set_option maxHeartbeats 2000000 in
theorem write_c {vS vF : Value} {xs : List SP} {m : CW} (s p wd : Int) (hC : RdC (Hp w0 cs) vS vF xs m) (hL : CLe m) :
    Cal Try.prog 12 [cowV m.z vS vF m.cp, .int .i64 s, .int .i64 p, .int .i64 wd] (Hp w0 cs) (fun q : CR (writeM m s p wd).1.sp.length => .tuple #[crV q (writeM m s p wd).1, .int .i64 (writeM m s p wd).2]) (fun q => crH w0 cs q (writeM m s p wd).1) := by
  have hvl := hC.len
  refine cal_of_tri Try.func12 rfl Try.ntmps12 rfl ?_
  (repeat (first | refine au_pure ?_ | refine au_pass ?_ | refine au_box (fun _ => ?_) | refine au_alloc (fun _ => ?_) | refine au_store ?_ | refine au_make rfl rfl (fun _ => ?_) | refine au_lit rfl rfl rfl (fun _ => ?_) | refine au_append rfl rfl rfl rfl (fun _ => au_norm ?_) | refine au_storeE rfl rfl rfl rfl ?_ | refine tri_seq ?_ | refine tri_then ?_ | refine tri_region ?_ | refine tri_nil ?_ | refine tri_skip ?_ | refine tri_ret ?_ | refine tri_exit ?_ | refine tri_thenr ?_ | refine tri_thene ?_ | refine tri_blkn ?_ | refine tri_blkr ?_ | refine tri_blke ?_ | refine tri_blko (by rfl) ?_ | refine tri_if_t (by rfl) ?_ | refine tri_if_f (by rfl) ?_ | fail))
  rename_i g4 g8
  refine au_callC rfl rfl rfl rfl rfl (at_c w0 _ s p hC.cons.cons hL) (fun _ => ?_)
  (repeat (first | refine au_pure ?_ | refine au_pass ?_ | refine au_box (fun _ => ?_) | refine au_alloc (fun _ => ?_) | refine au_store ?_ | refine au_make rfl rfl (fun _ => ?_) | refine au_lit rfl rfl rfl (fun _ => ?_) | refine au_append rfl rfl rfl rfl (fun _ => au_norm ?_) | refine au_storeE rfl rfl rfl rfl ?_ | refine tri_seq ?_ | refine tri_then ?_ | refine tri_region ?_ | refine tri_nil ?_ | refine tri_skip ?_ | refine tri_ret ?_ | refine tri_exit ?_ | refine tri_thenr ?_ | refine tri_thene ?_ | refine tri_blkn ?_ | refine tri_blkr ?_ | refine tri_blke ?_ | refine tri_blko (by rfl) ?_ | refine tri_if_t (by rfl) ?_ | refine tri_if_f (by rfl) ?_ | fail))
  ((first | refine tri_cond (by rfl) (fun hc => ?_) (fun hc => ?_) | refine tri_gsplit (by rfl) (by rfl) (by (fail_if_success exact (rfl : _ = some (Value.bool true))); (fail_if_success exact (rfl : _ = some (Value.bool false))); rfl) (fun hc => ?_) (fun hc => ?_)) <;> (try simp only [decide_eq_true_eq, decide_eq_false_iff_not, beq_iff_eq, bne_iff_ne, ne_eq, Bool.not_eq_true', Bool.not_eq_false', beq_eq_false_iff_ne, bne_eq_false_iff_eq, Int.not_lt, Int.not_le, gt_iff_lt, ge_iff_le, Bool.and_eq_true, Bool.or_eq_true, Bool.and_eq_false_iff, Bool.or_eq_false_iff, Decidable.not_not, not_true_eq_false, not_false_eq_true, and_true, true_and, or_false, false_or, or_true, true_or, and_false, false_and, eq_self, Bool.true_eq_false, Bool.false_eq_true] at hc) <;> (try (exfalso; omega)))
  · have he := write_err (wd := wd) (show atE m s p ≠ 0 by assumption)
    rw [he]
    (repeat (first | refine au_pure ?_ | refine au_pass ?_ | refine au_box (fun _ => ?_) | refine au_alloc (fun _ => ?_) | refine au_store ?_ | refine au_make rfl rfl (fun _ => ?_) | refine au_lit rfl rfl rfl (fun _ => ?_) | refine au_append rfl rfl rfl rfl (fun _ => au_norm ?_) | refine au_storeE rfl rfl rfl rfl ?_ | refine tri_seq ?_ | refine tri_then ?_ | refine tri_region ?_ | refine tri_nil ?_ | refine tri_skip ?_ | refine tri_ret ?_ | refine tri_exit ?_ | refine tri_thenr ?_ | refine tri_thene ?_ | refine tri_blkn ?_ | refine tri_blkr ?_ | refine tri_blke ?_ | refine tri_blko (by rfl) ?_ | refine tri_if_t (by rfl) ?_ | refine tri_if_f (by rfl) ?_ | fail))
    refine au_done2 rfl ?_
    exact fun w hw => zero_res (m' := CW.zero) hw rfl rfl (by repeat (first | exact List.Sublist.refl _ | assumption | apply List.Sublist.cons_cons | apply List.Sublist.cons))
  have hk : atE m s p = 0 := by assumption
  rw [write_yes hk]
  obtain ⟨h1, hO, h3, h4, h5, h6, h7, h8, h9⟩ := at_ok hk
  obtain ⟨s, rfl⟩ : ∃ k : Nat, s = (k : Int) := ⟨s.toNat, by omega⟩
  obtain ⟨p, rfl⟩ : ∃ k : Nat, p = (k : Int) := ⟨p.toNat, by omega⟩
  simp only [Int.toNat_natCast] at h4 h5 h6 h9 ⊢
  have hx := hO.at_ h9
  (repeat (first | refine au_pure ?_ | refine au_pass ?_ | refine au_box (fun _ => ?_) | refine au_alloc (fun _ => ?_) | refine au_store ?_ | refine au_make rfl rfl (fun _ => ?_) | refine au_lit rfl rfl rfl (fun _ => ?_) | refine au_append rfl rfl rfl rfl (fun _ => au_norm ?_) | refine au_storeE rfl rfl rfl rfl ?_ | refine tri_seq ?_ | refine tri_then ?_ | refine tri_region ?_ | refine tri_nil ?_ | refine tri_skip ?_ | refine tri_ret ?_ | refine tri_exit ?_ | refine tri_thenr ?_ | refine tri_thene ?_ | refine tri_blkn ?_ | refine tri_blkr ?_ | refine tri_blke ?_ | refine tri_blko (by rfl) ?_ | refine tri_if_t (by rfl) ?_ | refine tri_if_f (by rfl) ?_ | fail))
  refine au_callC rfl rfl rfl rfl rfl (own_c w0 _ hC.cons.cons hO) ?_
  rintro ⟨r, rs, f, hl⟩
  refine tri_weak (H' := Hp w0 (pgS (rs.getD s (Row.nil 0)) (m.sp.getD s default).pg :: zeC g8 :: cowC g4 m.z vS vF m.cp :: frS f m.fm :: spS r (spx rs m.sp) :: (px rs m.sp s ++ cs))) (fun w h => HpM.perm (HpM.perm h perm_up2) (perm_focus [_, _, _, _] hl h4)) ?_
  obtain ⟨rp, hrp⟩ : ∃ rp, rp = rs.getD s (Row.nil 0) := ⟨_, rfl⟩
  have hXv : ((spx rs m.sp).getD s default).s.v = (rs.getD s (Row.nil 0)).v := by rw [spx_get hl h4]; rfl
  have hXl := spx_len hl
  rw [← hrp] at hXv ⊢
  obtain ⟨X, hX⟩ : ∃ X, X = spx rs m.sp := ⟨_, rfl⟩
  rw [← hX] at hXv hXl ⊢
  obtain ⟨Pg, hPg⟩ : ∃ Pg, Pg = (m.sp.getD s default).pg := ⟨_, rfl⟩
  have hxe : pgAt m s p = Pg.getD p default := by unfold pgAt; rw [hPg]
  rw [← hPg] at h6 h9 ⊢
  rw [hxe] at hx
  (repeat (first | refine au_pure ?_ | refine au_pass ?_ | refine au_box (fun _ => ?_) | refine au_alloc (fun _ => ?_) | refine au_store ?_ | refine au_make rfl rfl (fun _ => ?_) | refine au_lit rfl rfl rfl (fun _ => ?_) | refine au_append rfl rfl rfl rfl (fun _ => au_norm ?_) | refine au_storeE rfl rfl rfl rfl ?_ | refine tri_seq ?_ | refine tri_then ?_ | refine tri_region ?_ | refine tri_nil ?_ | refine tri_skip ?_ | refine tri_ret ?_ | refine tri_exit ?_ | refine tri_thenr ?_ | refine tri_thene ?_ | refine tri_blkn ?_ | refine tri_blkr ?_ | refine tri_blke ?_ | refine tri_blko (by rfl) ?_ | refine tri_if_t (by rfl) ?_ | refine tri_if_f (by rfl) ?_ | fail))
  rw [hXv]
  (repeat (first | refine au_pure ?_ | refine au_pass ?_ | refine au_box (fun _ => ?_) | refine au_alloc (fun _ => ?_) | refine au_store ?_ | refine au_make rfl rfl (fun _ => ?_) | refine au_lit rfl rfl rfl (fun _ => ?_) | refine au_append rfl rfl rfl rfl (fun _ => au_norm ?_) | refine au_storeE rfl rfl rfl rfl ?_ | refine tri_seq ?_ | refine tri_then ?_ | refine tri_region ?_ | refine tri_nil ?_ | refine tri_skip ?_ | refine tri_ret ?_ | refine tri_exit ?_ | refine tri_thenr ?_ | refine tri_thene ?_ | refine tri_blkn ?_ | refine tri_blkr ?_ | refine tri_blke ?_ | refine tri_blko (by rfl) ?_ | refine tri_if_t (by rfl) ?_ | refine tri_if_f (by rfl) ?_ | fail))
  obtain ⟨x, hx0⟩ : ∃ x, x = Pg.getD p default := ⟨_, rfl⟩
  rw [← hx0] at hxe hx
  have hct := hO.ctb' x.fr.toNat
  have hf2 := hO.f2
  have hc1 := hO.c1
  have hc2 := hO.c2
  refine tri_cut1 (fun b => b = decide (x.fr < 0 ∨ 1 < (frAt m.fm x.fr).ct)) (fun b => [(3, .int .i64 wd), (4, .pointer (some ⟨g4, 0, none⟩)), (8, .pointer (some ⟨g8, 0, none⟩)), (11, eP rp.v p 2 0), (47, .bool b)])
    (fun b => Hp w0 (pgS rp Pg :: zeC g8 :: cowC g4 m.z r.v f.v m.cp :: frS f m.fm :: spS r X :: (px rs m.sp s ++ cs))) ?_ ?_
  · refine au_draw rfl ?_
    (repeat (first | refine au_qpure rfl rfl ?_ | refine au_qpass rfl rfl ?_ | refine triq_nil ?_))
    rw [← hx0]
    cases hd : decide (x.fr < 0)
    · have h0 := of_decide_eq_false hd
      (repeat (first | refine au_qpure rfl rfl ?_ | refine au_qpass rfl rfl ?_ | refine triq_nil ?_))
      rw [← hx0]
      (repeat (first | refine au_qpure rfl rfl ?_ | refine au_qpass rfl rfl ?_ | refine triq_nil ?_))
      (repeat (first | refine au_pure ?_ | refine au_pass ?_ | refine au_box (fun _ => ?_) | refine au_alloc (fun _ => ?_) | refine au_store ?_ | refine au_make rfl rfl (fun _ => ?_) | refine au_lit rfl rfl rfl (fun _ => ?_) | refine au_append rfl rfl rfl rfl (fun _ => au_norm ?_) | refine au_storeE rfl rfl rfl rfl ?_ | refine tri_seq ?_ | refine tri_then ?_ | refine tri_region ?_ | refine tri_nil ?_ | refine tri_skip ?_ | refine tri_ret ?_ | refine tri_exit ?_ | refine tri_thenr ?_ | refine tri_thene ?_ | refine tri_blkn ?_ | refine tri_blkr ?_ | refine tri_blke ?_ | refine tri_blko (by rfl) ?_ | refine tri_if_t (by rfl) ?_ | refine tri_if_f (by rfl) ?_ | fail))
      refine tri_mt1 _ ?_ (by repeat (first | exact trivial | refine ⟨rfl, ?_⟩)) (fun _ h => h)
      rw [Bool.eq_iff_iff, decide_eq_true_eq, decide_eq_true_eq]
      unfold frAt
      constructor
      · intro h; exact .inr h
      · intro h; omega
    · have h0 := of_decide_eq_true hd
      (repeat (first | refine au_qpure rfl rfl ?_ | refine au_qpass rfl rfl ?_ | refine triq_nil ?_))
      (repeat (first | refine au_pure ?_ | refine au_pass ?_ | refine au_box (fun _ => ?_) | refine au_alloc (fun _ => ?_) | refine au_store ?_ | refine au_make rfl rfl (fun _ => ?_) | refine au_lit rfl rfl rfl (fun _ => ?_) | refine au_append rfl rfl rfl rfl (fun _ => au_norm ?_) | refine au_storeE rfl rfl rfl rfl ?_ | refine tri_seq ?_ | refine tri_then ?_ | refine tri_region ?_ | refine tri_nil ?_ | refine tri_skip ?_ | refine tri_ret ?_ | refine tri_exit ?_ | refine tri_thenr ?_ | refine tri_thene ?_ | refine tri_blkn ?_ | refine tri_blkr ?_ | refine tri_blke ?_ | refine tri_blko (by rfl) ?_ | refine tri_if_t (by rfl) ?_ | refine tri_if_f (by rfl) ?_ | fail))
      exact tri_mt1 _ (by rw [decide_eq_true (.inl h0)]) (by repeat (first | exact trivial | refine ⟨rfl, ?_⟩)) (fun _ h => h)
  intro b hb
  refine tri_cut3 (fun y F1 C1 => 0 ≤ y ∧ y < (F1.length : Int) ∧ F1.length = m.fm.length ∧ writeG m s p wd = (⟨m.z, setPg m.sp s p ⟨y, true⟩, F1.set y.toNat ⟨(F1.getD y.toNat default).ct, wd⟩, C1⟩, 0)) (fun (y : Int) (F1 : List FR) (C1 : Int) => [(3, .int .i64 wd), (4, .pointer (some ⟨g4, 0, none⟩)), (8, .pointer (some ⟨g8, 0, none⟩)), (11, eP rp.v p 2 0)])
    (fun y F1 C1 => Hp w0 (pgS rp (Pg.set p ⟨y, x.wr⟩) :: zeC g8 :: cowC g4 m.z r.v f.v C1 :: frS f F1 :: spS r X :: (px rs m.sp s ++ cs))) ?_ ?_
  · cases b with
    | true =>
      have hcond := of_decide_eq_true hb.symm
      (repeat (first | refine au_pure ?_ | refine au_pass ?_ | refine au_box (fun _ => ?_) | refine au_alloc (fun _ => ?_) | refine au_store ?_ | refine au_make rfl rfl (fun _ => ?_) | refine au_lit rfl rfl rfl (fun _ => ?_) | refine au_append rfl rfl rfl rfl (fun _ => au_norm ?_) | refine au_storeE rfl rfl rfl rfl ?_ | refine tri_seq ?_ | refine tri_then ?_ | refine tri_region ?_ | refine tri_nil ?_ | refine tri_skip ?_ | refine tri_ret ?_ | refine tri_exit ?_ | refine tri_thenr ?_ | refine tri_thene ?_ | refine tri_blkn ?_ | refine tri_blkr ?_ | refine tri_blke ?_ | refine tri_blko (by rfl) ?_ | refine tri_if_t (by rfl) ?_ | refine tri_if_f (by rfl) ?_ | fail))
      refine au_callC rfl rfl rfl rfl rfl (indexFuncFR_c w0 _ (by repeat (first | assumption | exact rd_chunk (by first | (apply has_at; (repeat (first | exact at0 | apply atS)); done) | (repeat (first | assumption | apply has_cons))) | apply RdH.cons | refine RdH.cut ?_ rfl (by omega) (by omega))) (by omega) (wf_c w0 _ m.fm)) (fun _ => ?_)
      (repeat (first | refine au_pure ?_ | refine au_pass ?_ | refine au_box (fun _ => ?_) | refine au_alloc (fun _ => ?_) | refine au_store ?_ | refine au_make rfl rfl (fun _ => ?_) | refine au_lit rfl rfl rfl (fun _ => ?_) | refine au_append rfl rfl rfl rfl (fun _ => au_norm ?_) | refine au_storeE rfl rfl rfl rfl ?_ | refine tri_seq ?_ | refine tri_then ?_ | refine tri_region ?_ | refine tri_nil ?_ | refine tri_skip ?_ | refine tri_ret ?_ | refine tri_exit ?_ | refine tri_thenr ?_ | refine tri_thene ?_ | refine tri_blkn ?_ | refine tri_blkr ?_ | refine tri_blke ?_ | refine tri_blko (by rfl) ?_ | refine tri_if_t (by rfl) ?_ | refine tri_if_f (by rfl) ?_ | fail))
      rw [show idxM (fun f : FR => f.ct == 0) m.fm = freeI m.fm from rfl]
      by_cases hfr : freeI m.fm < 0
      · have hwg : writeG m s p wd = (CW.zero, 16) := by unfold writeG; rw [hxe, if_pos hcond, if_pos hfr]
        rw [decide_eq_true hfr]
        (repeat (first | refine au_pure ?_ | refine au_pass ?_ | refine au_box (fun _ => ?_) | refine au_alloc (fun _ => ?_) | refine au_store ?_ | refine au_make rfl rfl (fun _ => ?_) | refine au_lit rfl rfl rfl (fun _ => ?_) | refine au_append rfl rfl rfl rfl (fun _ => au_norm ?_) | refine au_storeE rfl rfl rfl rfl ?_ | refine tri_seq ?_ | refine tri_then ?_ | refine tri_region ?_ | refine tri_nil ?_ | refine tri_skip ?_ | refine tri_ret ?_ | refine tri_exit ?_ | refine tri_thenr ?_ | refine tri_thene ?_ | refine tri_blkn ?_ | refine tri_blkr ?_ | refine tri_blke ?_ | refine tri_blko (by rfl) ?_ | refine tri_if_t (by rfl) ?_ | refine tri_if_f (by rfl) ?_ | fail))
        refine au_done2 rfl ?_
        exact fun w hw => by rw [hwg]; exact zero_res (m' := CW.zero) hw rfl rfl sub5
      obtain ⟨k, hk1, hk2, hk3⟩ := free_at hfr
      have hwg : writeG m s p wd = (⟨m.z, setPg m.sp s p ⟨(k : Int), true⟩, (decF m.fm x).set k ⟨1, wd⟩, if 0 ≤ x.fr then cpUp m.cp else m.cp⟩, 0) := by
        unfold writeG; rw [hxe, if_pos hcond, if_neg hfr, hk1]; rfl
      rw [decide_eq_false hfr, hk1]
      (repeat (first | refine au_pure ?_ | refine au_pass ?_ | refine au_box (fun _ => ?_) | refine au_alloc (fun _ => ?_) | refine au_store ?_ | refine au_make rfl rfl (fun _ => ?_) | refine au_lit rfl rfl rfl (fun _ => ?_) | refine au_append rfl rfl rfl rfl (fun _ => au_norm ?_) | refine au_storeE rfl rfl rfl rfl ?_ | refine tri_seq ?_ | refine tri_then ?_ | refine tri_region ?_ | refine tri_nil ?_ | refine tri_skip ?_ | refine tri_ret ?_ | refine tri_exit ?_ | refine tri_thenr ?_ | refine tri_thene ?_ | refine tri_blkn ?_ | refine tri_blkr ?_ | refine tri_blke ?_ | refine tri_blko (by rfl) ?_ | refine tri_if_t (by rfl) ?_ | refine tri_if_f (by rfl) ?_ | fail))
      rw [← hx0]
      refine tri_cut2 (fun F1 C1 => F1 = decF m.fm x ∧ C1 = if 0 ≤ x.fr then cpUp m.cp else m.cp) (fun (F1 : List FR) (C1 : Int) => [(3, .int .i64 wd), (4, .pointer (some ⟨g4, 0, none⟩)), (8, .pointer (some ⟨g8, 0, none⟩)), (11, eP rp.v p 2 0), (12, .int .i64 (k : Int))])
        (fun F1 C1 => Hp w0 (pgS rp Pg :: zeC g8 :: cowC g4 m.z r.v f.v C1 :: frS f F1 :: spS r X :: (px rs m.sp s ++ cs))) ?_ ?_
      · by_cases h0 : 0 ≤ x.fr
        · rw [decide_eq_true (show x.fr ≥ 0 from h0)]
          have hdc : decF m.fm x = m.fm.set x.fr.toNat ⟨(m.fm.getD x.fr.toNat default).ct - 1, (m.fm.getD x.fr.toNat default).wd⟩ := if_pos h0
          have hcp : (if 0 ≤ x.fr then cpUp m.cp else m.cp) = if 1048576 < m.cp + 1 then 1048576 else m.cp + 1 := if_pos h0
          (repeat (first | refine tri_seq ?_ | refine tri_then ?_))
          refine tri_if_t (by rfl) ?_
          (repeat (first | refine tri_seq ?_ | refine tri_then ?_))
          refine tri_drawt 6 rfl (by kernel_rfl) ?_; repeat (first | refine tris_pure rfl rfl ?_ | refine tris_pass rfl rfl ?_ | refine tris_nil ?_)
          rw [← hx0]
          (repeat (first | refine au_pure ?_ | refine au_pass ?_ | refine au_box (fun _ => ?_) | refine au_alloc (fun _ => ?_) | refine au_store ?_ | refine au_make rfl rfl (fun _ => ?_) | refine au_lit rfl rfl rfl (fun _ => ?_) | refine au_append rfl rfl rfl rfl (fun _ => au_norm ?_) | refine au_storeE rfl rfl rfl rfl ?_ | refine tri_seq ?_ | refine tri_then ?_ | refine tri_region ?_ | refine tri_nil ?_ | refine tri_skip ?_ | refine tri_ret ?_ | refine tri_exit ?_ | refine tri_thenr ?_ | refine tri_thene ?_ | refine tri_blkn ?_ | refine tri_blkr ?_ | refine tri_blke ?_ | refine tri_blko (by rfl) ?_ | refine tri_if_t (by rfl) ?_ | refine tri_if_f (by rfl) ?_ | fail))
          refine au_pure (hy := yl_min2 rfl rfl rfl) ?_
          (repeat (first | refine au_pure ?_ | refine au_pass ?_ | refine au_box (fun _ => ?_) | refine au_alloc (fun _ => ?_) | refine au_store ?_ | refine au_make rfl rfl (fun _ => ?_) | refine au_lit rfl rfl rfl (fun _ => ?_) | refine au_append rfl rfl rfl rfl (fun _ => au_norm ?_) | refine au_storeE rfl rfl rfl rfl ?_ | refine tri_seq ?_ | refine tri_then ?_ | refine tri_region ?_ | refine tri_nil ?_ | refine tri_skip ?_ | refine tri_ret ?_ | refine tri_exit ?_ | refine tri_thenr ?_ | refine tri_thene ?_ | refine tri_blkn ?_ | refine tri_blkr ?_ | refine tri_blke ?_ | refine tri_blko (by rfl) ?_ | refine tri_if_t (by rfl) ?_ | refine tri_if_f (by rfl) ?_ | fail))
          exact tri_mt2 _ _ ⟨hdc.symm, hcp.symm⟩ (by repeat (first | exact trivial | refine ⟨rfl, ?_⟩)) (fun _ h => h)
        · rw [decide_eq_false (show ¬ x.fr ≥ 0 from h0)]
          (repeat (first | refine au_pure ?_ | refine au_pass ?_ | refine au_box (fun _ => ?_) | refine au_alloc (fun _ => ?_) | refine au_store ?_ | refine au_make rfl rfl (fun _ => ?_) | refine au_lit rfl rfl rfl (fun _ => ?_) | refine au_append rfl rfl rfl rfl (fun _ => au_norm ?_) | refine au_storeE rfl rfl rfl rfl ?_ | refine tri_seq ?_ | refine tri_then ?_ | refine tri_region ?_ | refine tri_nil ?_ | refine tri_skip ?_ | refine tri_ret ?_ | refine tri_exit ?_ | refine tri_thenr ?_ | refine tri_thene ?_ | refine tri_blkn ?_ | refine tri_blkr ?_ | refine tri_blke ?_ | refine tri_blko (by rfl) ?_ | refine tri_if_t (by rfl) ?_ | refine tri_if_f (by rfl) ?_ | fail))
          exact tri_mt2 m.fm m.cp ⟨(if_neg h0).symm, (if_neg h0).symm⟩ (by repeat (first | exact trivial | refine ⟨rfl, ?_⟩)) (fun _ h => h)
      · rintro F1 C1 ⟨hF1, hC1⟩
        have hFl : F1.length = m.fm.length := by rw [hF1]; unfold decF; split <;> simp
        (repeat (first | refine au_pure ?_ | refine au_pass ?_ | refine au_box (fun _ => ?_) | refine au_alloc (fun _ => ?_) | refine au_store ?_ | refine au_make rfl rfl (fun _ => ?_) | refine au_lit rfl rfl rfl (fun _ => ?_) | refine au_append rfl rfl rfl rfl (fun _ => au_norm ?_) | refine au_storeE rfl rfl rfl rfl ?_ | refine tri_seq ?_ | refine tri_then ?_ | refine tri_region ?_ | refine tri_nil ?_ | refine tri_skip ?_ | refine tri_ret ?_ | refine tri_exit ?_ | refine tri_thenr ?_ | refine tri_thene ?_ | refine tri_blkn ?_ | refine tri_blkr ?_ | refine tri_blke ?_ | refine tri_blko (by rfl) ?_ | refine tri_if_t (by rfl) ?_ | refine tri_if_f (by rfl) ?_ | fail))
        refine tri_mt3 (k : Int) (F1.set k ⟨1, (F1.getD k default).wd⟩) C1 ⟨by omega, by rw [List.length_set]; omega, by rw [List.length_set]; exact hFl, ?_⟩ (by repeat (first | exact trivial | refine ⟨rfl, ?_⟩)) (fun _ h => by rw [hx0]; exact h)
        rw [hwg, ← hF1, ← hC1]
        have e1 : ((F1.set k ⟨1, (F1.getD k default).wd⟩).getD k default).ct = 1 := by
          rw [List.getD_eq_getElem?_getD, List.getElem?_set_self (by omega)]; rfl
        simp only [Int.toNat_natCast]
        rw [e1, List.set_set]
    | false =>
      have hcond := of_decide_eq_false hb.symm
      (repeat (first | refine au_pure ?_ | refine au_pass ?_ | refine au_box (fun _ => ?_) | refine au_alloc (fun _ => ?_) | refine au_store ?_ | refine au_make rfl rfl (fun _ => ?_) | refine au_lit rfl rfl rfl (fun _ => ?_) | refine au_append rfl rfl rfl rfl (fun _ => au_norm ?_) | refine au_storeE rfl rfl rfl rfl ?_ | refine tri_seq ?_ | refine tri_then ?_ | refine tri_region ?_ | refine tri_nil ?_ | refine tri_skip ?_ | refine tri_ret ?_ | refine tri_exit ?_ | refine tri_thenr ?_ | refine tri_thene ?_ | refine tri_blkn ?_ | refine tri_blkr ?_ | refine tri_blke ?_ | refine tri_blko (by rfl) ?_ | refine tri_if_t (by rfl) ?_ | refine tri_if_f (by rfl) ?_ | fail))
      have hPs : Pg.set p ⟨x.fr, x.wr⟩ = Pg := by rw [show (⟨x.fr, x.wr⟩ : PG) = x from rfl, hx0, set_getD_self h9]
      refine tri_mt3 x.fr m.fm m.cp ⟨by omega, by omega, rfl, ?_⟩ (by repeat (first | exact trivial | refine ⟨rfl, ?_⟩)) (fun _ h => by rw [hPs]; exact h)
      unfold writeG
      rw [hxe, if_neg hcond]
      rfl
  · rintro y F1 C1 ⟨hy0, hy1, hF1, hwg⟩
    rw [hwg]
    have hPl : (Pg.set p ⟨y, x.wr⟩).length = Pg.length := List.length_set ..
    have hPy : (Pg.set p ⟨y, x.wr⟩).getD p default = ⟨y, x.wr⟩ := by rw [List.getD_eq_getElem?_getD, List.getElem?_set_self h9]; rfl
    have hPs : (Pg.set p ⟨y, x.wr⟩).set p ⟨y, true⟩ = Pg.set p ⟨y, true⟩ := List.set_set ..
    have hPy2 : (Pg.set p ⟨y, true⟩).getD p default = ⟨y, true⟩ := by rw [List.getD_eq_getElem?_getD, List.getElem?_set_self h9]; rfl
    have hPl2 : (Pg.set p ⟨y, true⟩).length = Pg.length := List.length_set ..
    have hsp : setPg m.sp s p ⟨y, true⟩ = m.sp.set s ⟨(m.sp.getD s default).lv, Pg.set p ⟨y, true⟩⟩ := by unfold setPg; rw [hPg]
    rw [hsp]
    obtain ⟨P2, hP2⟩ : ∃ P2, P2 = Pg.set p ⟨y, true⟩ := ⟨_, rfl⟩
    rw [← hP2] at hPs hPy2 hPl2 ⊢
    obtain ⟨P1, hP1⟩ : ∃ P1, P1 = Pg.set p ⟨y, x.wr⟩ := ⟨_, rfl⟩
    rw [← hP1] at hPl hPy hPs ⊢
    (repeat (first | refine au_pure ?_ | refine au_pass ?_ | refine au_box (fun _ => ?_) | refine au_alloc (fun _ => ?_) | refine au_store ?_ | refine au_make rfl rfl (fun _ => ?_) | refine au_lit rfl rfl rfl (fun _ => ?_) | refine au_append rfl rfl rfl rfl (fun _ => au_norm ?_) | refine au_storeE rfl rfl rfl rfl ?_ | refine tri_seq ?_ | refine tri_then ?_ | refine tri_region ?_ | refine tri_nil ?_ | refine tri_skip ?_ | refine tri_ret ?_ | refine tri_exit ?_ | refine tri_thenr ?_ | refine tri_thene ?_ | refine tri_blkn ?_ | refine tri_blkr ?_ | refine tri_blke ?_ | refine tri_blko (by rfl) ?_ | refine tri_if_t (by rfl) ?_ | refine tri_if_f (by rfl) ?_ | fail))
    refine tri_weak (H' := Hp w0 (pgS rp P2 :: zeC g8 :: cowC g4 m.z r.v f.v C1 :: frS f F1 :: spS r X :: (px rs m.sp s ++ cs))) (fun w h => by rw [← hPs, show (⟨y, true⟩ : PG) = ⟨(P1.getD p default).fr, true⟩ by rw [hPy]]; exact h) ?_
    refine tri_drawt 7 rfl (by kernel_rfl) ?_; repeat (first | refine tris_pure rfl rfl ?_ | refine tris_pass rfl rfl ?_ | refine tris_nil ?_)
    rw [hPy2]
    (repeat (first | refine au_pure ?_ | refine au_pass ?_ | refine au_box (fun _ => ?_) | refine au_alloc (fun _ => ?_) | refine au_store ?_ | refine au_make rfl rfl (fun _ => ?_) | refine au_lit rfl rfl rfl (fun _ => ?_) | refine au_append rfl rfl rfl rfl (fun _ => au_norm ?_) | refine au_storeE rfl rfl rfl rfl ?_ | refine tri_seq ?_ | refine tri_then ?_ | refine tri_region ?_ | refine tri_nil ?_ | refine tri_skip ?_ | refine tri_ret ?_ | refine tri_exit ?_ | refine tri_thenr ?_ | refine tri_thene ?_ | refine tri_blkn ?_ | refine tri_blkr ?_ | refine tri_blke ?_ | refine tri_blko (by rfl) ?_ | refine tri_if_t (by rfl) ?_ | refine tri_if_f (by rfl) ?_ | fail))
    refine au_done2 rfl ?_
    intro w hw
    refine ⟨⟨r, rs, f, by simp [hl]⟩, rfl, ?_⟩
    refine fin_rows (rp := rp) (X := X) hl h4 hX hrp rfl ?_
    exact hw.sub (List.Sublist.cons_cons _ ((List.Sublist.refl _).cons _ |>.cons _))
end
end Go.Proofs.Ytinnkclemjognaa
