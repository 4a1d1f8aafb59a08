/- The walk of the reference of cow: Fork. No conditions. -/
import Derived.Test.YtinnkclemjognaaCowRef4
set_option linter.unusedSimpArgs false
set_option linter.unusedVariables false
namespace Go.Proofs.Ytinnkclemjognaa
open Go Go.RowKit
attribute [local irreducible] Code.wp wpList bodyPost Exit.then Exit.inBlock Calls wpQuiet Tri TriQ
section
variable (w0 : World) (cs : List Chunk)
set_option maxHeartbeats 2000000 in
theorem rfork_c {vS vF : Value} {xs : List SP} {m : CW} (s : Int) (hC : RdC (Hp w0 cs) vS vF xs m) (hL : CLe m) :
    Cal Try.prog 40 [cowV m.z vS vF m.cp, .int .i64 s] (Hp w0 cs) (fun q : CR (forkM m s).1.sp.length => .tuple #[crV q (forkM m s).1, .int .i64 (forkM m s).2.1, .int .i64 (forkM m s).2.2]) (fun q => crH w0 cs q (forkM m s).1) := by
  have hvl := hC.len
  have hRo := hC.out
  have hl1 := hL.sp
  refine cal_of_tri Try.func40 rfl Try.ntmps40 rfl ?_
  (repeat (first | refine au_pure ?_ | refine au_pass ?_ | refine au_box (fun _ => ?_) | refine au_alloc (fun _ => ?_) | refine au_store ?_ | refine au_make rfl rfl (fun _ => ?_) | refine au_lit rfl rfl rfl (fun _ => ?_) | refine au_append rfl rfl rfl rfl (fun _ => au_norm ?_) | refine au_storeE rfl rfl rfl rfl ?_ | refine tri_seq ?_ | refine tri_then ?_ | refine tri_region ?_ | refine tri_nil ?_ | refine tri_skip ?_ | refine tri_ret ?_ | refine tri_exit ?_ | refine tri_thenr ?_ | refine tri_thene ?_ | refine tri_blkn ?_ | refine tri_blkr ?_ | refine tri_blke ?_ | refine tri_blko (by rfl) ?_ | refine tri_if_t (by rfl) ?_ | refine tri_if_f (by rfl) ?_ | fail))
  rename_i g2 g4
  refine au_callC rfl rfl rfl rfl rfl (rspace_c w0 _ s hC.cons.cons hL) (fun _ => ?_)
  (repeat (first | refine au_pure ?_ | refine au_pass ?_ | refine au_box (fun _ => ?_) | refine au_alloc (fun _ => ?_) | refine au_store ?_ | refine au_make rfl rfl (fun _ => ?_) | refine au_lit rfl rfl rfl (fun _ => ?_) | refine au_append rfl rfl rfl rfl (fun _ => au_norm ?_) | refine au_storeE rfl rfl rfl rfl ?_ | refine tri_seq ?_ | refine tri_then ?_ | refine tri_region ?_ | refine tri_nil ?_ | refine tri_skip ?_ | refine tri_ret ?_ | refine tri_exit ?_ | refine tri_thenr ?_ | refine tri_thene ?_ | refine tri_blkn ?_ | refine tri_blkr ?_ | refine tri_blke ?_ | refine tri_blko (by rfl) ?_ | refine tri_if_t (by rfl) ?_ | refine tri_if_f (by rfl) ?_ | fail))
  ((first | refine tri_cond (by rfl) (fun hc => ?_) (fun hc => ?_) | refine tri_gsplit (by rfl) (by rfl) (by (fail_if_success exact (rfl : _ = some (Value.bool true))); (fail_if_success exact (rfl : _ = some (Value.bool false))); rfl) (fun hc => ?_) (fun hc => ?_)) <;> (try simp only [decide_eq_true_eq, decide_eq_false_iff_not, beq_iff_eq, bne_iff_ne, ne_eq, Bool.not_eq_true', Bool.not_eq_false', beq_eq_false_iff_ne, bne_eq_false_iff_eq, Int.not_lt, Int.not_le, gt_iff_lt, ge_iff_le, Bool.and_eq_true, Bool.or_eq_true, Bool.and_eq_false_iff, Bool.or_eq_false_iff, Decidable.not_not, not_true_eq_false, not_false_eq_true, and_true, true_and, or_false, false_or, or_true, true_or, and_false, false_and, eq_self, Bool.true_eq_false, Bool.false_eq_true] at hc) <;> (try (exfalso; omega)))
  · have he := fork_err (show liveE m s ≠ 0 by assumption)
    rw [he]
    (repeat (first | refine au_pure ?_ | refine au_pass ?_ | refine au_box (fun _ => ?_) | refine au_alloc (fun _ => ?_) | refine au_store ?_ | refine au_make rfl rfl (fun _ => ?_) | refine au_lit rfl rfl rfl (fun _ => ?_) | refine au_append rfl rfl rfl rfl (fun _ => au_norm ?_) | refine au_storeE rfl rfl rfl rfl ?_ | refine tri_seq ?_ | refine tri_then ?_ | refine tri_region ?_ | refine tri_nil ?_ | refine tri_skip ?_ | refine tri_ret ?_ | refine tri_exit ?_ | refine tri_thenr ?_ | refine tri_thene ?_ | refine tri_blkn ?_ | refine tri_blkr ?_ | refine tri_blke ?_ | refine tri_blko (by rfl) ?_ | refine tri_if_t (by rfl) ?_ | refine tri_if_f (by rfl) ?_ | fail))
    refine au_done3 rfl ?_
    exact fun w hw => zero_res3 (m' := CW.zero) hw rfl rfl rfl (by repeat (first | exact List.Sublist.refl _ | assumption | apply List.Sublist.cons_cons | apply List.Sublist.cons))
  have hk : liveE m s = 0 := by assumption
  obtain ⟨hO, h3, h4, h5, h6⟩ := live_ok hk
  (repeat (first | refine au_pure ?_ | refine au_pass ?_ | refine au_box (fun _ => ?_) | refine au_alloc (fun _ => ?_) | refine au_store ?_ | refine au_make rfl rfl (fun _ => ?_) | refine au_lit rfl rfl rfl (fun _ => ?_) | refine au_append rfl rfl rfl rfl (fun _ => au_norm ?_) | refine au_storeE rfl rfl rfl rfl ?_ | refine tri_seq ?_ | refine tri_then ?_ | refine tri_region ?_ | refine tri_nil ?_ | refine tri_skip ?_ | refine tri_ret ?_ | refine tri_exit ?_ | refine tri_thenr ?_ | refine tri_thene ?_ | refine tri_blkn ?_ | refine tri_blkr ?_ | refine tri_blke ?_ | refine tri_blko (by rfl) ?_ | refine tri_if_t (by rfl) ?_ | refine tri_if_f (by rfl) ?_ | fail))
  ((first | refine tri_cond (by rfl) (fun hc => ?_) (fun hc => ?_) | refine tri_gsplit (by rfl) (by rfl) (by (fail_if_success exact (rfl : _ = some (Value.bool true))); (fail_if_success exact (rfl : _ = some (Value.bool false))); rfl) (fun hc => ?_) (fun hc => ?_)) <;> (try simp only [decide_eq_true_eq, decide_eq_false_iff_not, beq_iff_eq, bne_iff_ne, ne_eq, Bool.not_eq_true', Bool.not_eq_false', beq_eq_false_iff_ne, bne_eq_false_iff_eq, Int.not_lt, Int.not_le, gt_iff_lt, ge_iff_le, Bool.and_eq_true, Bool.or_eq_true, Bool.and_eq_false_iff, Bool.or_eq_false_iff, Decidable.not_not, not_true_eq_false, not_false_eq_true, and_true, true_and, or_false, false_or, or_true, true_or, and_false, false_and, eq_self, Bool.true_eq_false, Bool.false_eq_true] at hc) <;> (try (exfalso; omega)))
  · have he := fork_lim hk (show 8 ≤ m.sp.length by omega)
    rw [he]
    (repeat (first | refine au_pure ?_ | refine au_pass ?_ | refine au_box (fun _ => ?_) | refine au_alloc (fun _ => ?_) | refine au_store ?_ | refine au_make rfl rfl (fun _ => ?_) | refine au_lit rfl rfl rfl (fun _ => ?_) | refine au_append rfl rfl rfl rfl (fun _ => au_norm ?_) | refine au_storeE rfl rfl rfl rfl ?_ | refine tri_seq ?_ | refine tri_then ?_ | refine tri_region ?_ | refine tri_nil ?_ | refine tri_skip ?_ | refine tri_ret ?_ | refine tri_exit ?_ | refine tri_thenr ?_ | refine tri_thene ?_ | refine tri_blkn ?_ | refine tri_blkr ?_ | refine tri_blke ?_ | refine tri_blko (by rfl) ?_ | refine tri_if_t (by rfl) ?_ | refine tri_if_f (by rfl) ?_ | fail))
    refine au_done3 rfl ?_
    exact fun w hw => zero_res3 (m' := CW.zero) hw rfl rfl rfl (by repeat (first | exact List.Sublist.refl _ | assumption | apply List.Sublist.cons_cons | apply List.Sublist.cons))
  rw [fork_yes hk (by omega)]
  obtain ⟨s, rfl⟩ : ∃ k : Nat, s = (k : Int) := ⟨s.toNat, by omega⟩
  simp only [Int.toNat_natCast] at h4 h5 h6 ⊢
  have hx := fun p => hO.at_ (i := s) (j := p)
  have hf2 := hO.f2
  have hs2 := hO.s2
  have hpl := hO.plen s
  have hbd : Bd m.fm 0 4096 := fun j => hO.ctb' j
  (repeat (first | refine au_pure ?_ | refine au_pass ?_ | refine au_box (fun _ => ?_) | refine au_alloc (fun _ => ?_) | refine au_store ?_ | refine au_make rfl rfl (fun _ => ?_) | refine au_lit rfl rfl rfl (fun _ => ?_) | refine au_append rfl rfl rfl rfl (fun _ => au_norm ?_) | refine au_storeE rfl rfl rfl rfl ?_ | refine tri_seq ?_ | refine tri_then ?_ | refine tri_region ?_ | refine tri_nil ?_ | refine tri_skip ?_ | refine tri_ret ?_ | refine tri_exit ?_ | refine tri_thenr ?_ | refine tri_thene ?_ | refine tri_blkn ?_ | refine tri_blkr ?_ | refine tri_blke ?_ | refine tri_blko (by rfl) ?_ | refine tri_if_t (by rfl) ?_ | refine tri_if_f (by rfl) ?_ | fail))
  refine au_callC rfl rfl rfl rfl rfl (rcopy_c w0 _ hC.cons.cons hO) ?_
  rintro ⟨r, rs, f, hl⟩
  refine tri_weak (H' := Hp w0 (pgS (rs.getD s (Row.nil 0)) (m.sp.getD s default).pg :: frS f m.fm :: spS r (spx rs m.sp) :: zeC g4 :: cowC g2 m.z vS vF m.cp :: (px rs m.sp s ++ cs))) (fun w h => HpM.perm h (own_focus hl h4)) ?_
  have hRo' := hRo.app (ds := px rs m.sp s)
  obtain ⟨rp, hrp⟩ : ∃ rp, rp = rs.getD s (Row.nil 0) := ⟨_, rfl⟩
  have hXv : ((spx rs m.sp).getD s default).s.v = (rs.getD s (Row.nil 0)).v := by rw [spx_get hl h4]; rfl
  have hXl := spx_len hl
  rw [← hrp] at hXv ⊢
  obtain ⟨X, hX⟩ : ∃ X, X = spx rs m.sp := ⟨_, rfl⟩
  rw [← hX] at hXv hXl ⊢
  have hug : forkG m s = ⟨m.z, setPs m.sp s ((m.sp.getD s default).pg.map unW) ++ [⟨true, (m.sp.getD s default).pg.map unW⟩], (m.sp.getD s default).pg.foldl incF m.fm, m.cp⟩ := rfl
  rw [hug]
  obtain ⟨Pg, hPg⟩ : ∃ Pg, Pg = (m.sp.getD s default).pg := ⟨_, rfl⟩
  have hxe : ∀ p, pgAt m s p = Pg.getD p default := fun p => by unfold pgAt; rw [hPg]
  rw [← hPg] at h6 hpl ⊢
  simp only [hxe] at hx
  rw [← hPg] at hx
  (repeat (first | refine au_pure ?_ | refine au_pass ?_ | refine au_box (fun _ => ?_) | refine au_alloc (fun _ => ?_) | refine au_store ?_ | refine au_make rfl rfl (fun _ => ?_) | refine au_lit rfl rfl rfl (fun _ => ?_) | refine au_append rfl rfl rfl rfl (fun _ => au_norm ?_) | refine au_storeE rfl rfl rfl rfl ?_ | refine tri_seq ?_ | refine tri_then ?_ | refine tri_region ?_ | refine tri_nil ?_ | refine tri_skip ?_ | refine tri_ret ?_ | refine tri_exit ?_ | refine tri_thenr ?_ | refine tri_thene ?_ | refine tri_blkn ?_ | refine tri_blkr ?_ | refine tri_blke ?_ | refine tri_blko (by rfl) ?_ | refine tri_if_t (by rfl) ?_ | refine tri_if_f (by rfl) ?_ | fail))
  rename_i g8 g9
  refine tri_nilrow PG 64 ?_
  refine tri_block ?_
  refine tri_loop2 (fun (i : Nat) (rn : Row) => i ≤ Pg.length) (fun i _ => [(1, .int .i64 (s : Int)), (2, .pointer (some ⟨g2, 0, none⟩)), (4, .pointer (some ⟨g4, 0, none⟩)), (8, .pointer (some ⟨g8, 0, none⟩)), (9, .pointer (some ⟨g9, 0, none⟩)), (10, .int .i64 (i : Int))])
    (fun i rn => Hp w0 (pgS rn ((Pg.take i).map unW) :: blkC g9 62 [.bool true, rn.v] :: cowC g8 m.z r.v f.v m.cp :: pgS rp (upTo unW Pg i) :: frS f ((Pg.take i).foldl incF m.fm) :: spS r X :: zeC g4 :: cowC g2 m.z vS vF m.cp :: (px rs m.sp s ++ cs))) (fun i _ => Pg.length - i)
    0 (Row.nil w0.heap.size) (by omega) (by repeat (first | exact trivial | refine ⟨rfl, ?_⟩)) (fun w h => by rw [upTo_zero]; exact h) ?_
  intro i rn hi
  have hUl := upTo_len unW Pg i hi
  have hFl := fold_len inc_len (Pg.take i) m.fm
  have hFb := fold_bd (g := incF) (c := 0) (d := 1) (fun F x a b h => bd_mono (bd_inc h) (by omega) (by omega)) (Pg.take i) m.fm _ _ hbd
  have hFb' : Bd ((Pg.take i).foldl incF m.fm) (-1000000) 1000000 := bd_mono hFb (by omega) (by rw [List.length_take]; omega)
  (repeat (first | refine au_pure ?_ | refine au_pass ?_ | refine au_box (fun _ => ?_) | refine au_alloc (fun _ => ?_) | refine au_store ?_ | refine au_make rfl rfl (fun _ => ?_) | refine au_lit rfl rfl rfl (fun _ => ?_) | refine au_append rfl rfl rfl rfl (fun _ => au_norm ?_) | refine au_storeE rfl rfl rfl rfl ?_ | refine tri_seq ?_ | refine tri_then ?_ | refine tri_region ?_ | refine tri_nil ?_ | refine tri_skip ?_ | refine tri_ret ?_ | refine tri_exit ?_ | refine tri_thenr ?_ | refine tri_thene ?_ | refine tri_blkn ?_ | refine tri_blkr ?_ | refine tri_blke ?_ | refine tri_blko (by rfl) ?_ | refine tri_if_t (by rfl) ?_ | refine tri_if_f (by rfl) ?_ | fail))
  ((first | refine tri_cond (by rfl) (fun hc => ?_) (fun hc => ?_) | refine tri_gsplit (by rfl) (by rfl) (by (fail_if_success exact (rfl : _ = some (Value.bool true))); (fail_if_success exact (rfl : _ = some (Value.bool false))); rfl) (fun hc => ?_) (fun hc => ?_)) <;> (try simp only [decide_eq_true_eq, decide_eq_false_iff_not, beq_iff_eq, bne_iff_ne, ne_eq, Bool.not_eq_true', Bool.not_eq_false', beq_eq_false_iff_ne, bne_eq_false_iff_eq, Int.not_lt, Int.not_le, gt_iff_lt, ge_iff_le, Bool.and_eq_true, Bool.or_eq_true, Bool.and_eq_false_iff, Bool.or_eq_false_iff, Decidable.not_not, not_true_eq_false, not_false_eq_true, and_true, true_and, or_false, false_or, or_true, true_or, and_false, false_and, eq_self, Bool.true_eq_false, Bool.false_eq_true] at hc) <;> (try (exfalso; omega)))
  · (repeat (first | refine au_pure ?_ | refine au_pass ?_ | refine au_box (fun _ => ?_) | refine au_alloc (fun _ => ?_) | refine au_store ?_ | refine au_make rfl rfl (fun _ => ?_) | refine au_lit rfl rfl rfl (fun _ => ?_) | refine au_append rfl rfl rfl rfl (fun _ => au_norm ?_) | refine au_storeE rfl rfl rfl rfl ?_ | refine tri_seq ?_ | refine tri_then ?_ | refine tri_region ?_ | refine tri_nil ?_ | refine tri_skip ?_ | refine tri_ret ?_ | refine tri_exit ?_ | refine tri_thenr ?_ | refine tri_thene ?_ | refine tri_blkn ?_ | refine tri_blkr ?_ | refine tri_blke ?_ | refine tri_blko (by rfl) ?_ | refine tri_if_t (by rfl) ?_ | refine tri_if_f (by rfl) ?_ | fail))
    refine tri_block ?_
    have hUg := upTo_get unW (l := Pg) (i := i) (by omega)
    have hUs := upTo_step unW (l := Pg) (i := i) (y := ⟨(Pg.getD i default).fr, false⟩) (by omega) rfl
    have hFs := foldl_step (g := incF) (b := m.fm) (l := Pg) (i := i) (by omega)
    have hxi := hx i (by omega)
    have hUl2 := upTo_len unW Pg (i + 1) (by omega)
    have hUg2 : (upTo unW Pg (i + 1)).getD i default = ⟨(Pg.getD i default).fr, false⟩ := by rw [← hUs, getD_set_eq (by omega)]
    have hNs : (Pg.take (i + 1)).map unW = (Pg.take i).map unW ++ [⟨(Pg.getD i default).fr, false⟩] := by rw [take_step (by omega), List.map_append]; rfl
    have hNl : ((Pg.take i).map unW).length = i := by rw [List.length_map, List.length_take]; omega
    obtain ⟨N, hN⟩ : ∃ N, N = (Pg.take i).map unW := ⟨_, rfl⟩
    rw [← hN] at hNs hNl ⊢
    obtain ⟨x, hx0⟩ : ∃ x, x = Pg.getD i default := ⟨_, rfl⟩
    rw [← hx0] at hUg hUs hFs hxi hUg2 hNs
    obtain ⟨U2, hU2⟩ : ∃ U2, U2 = upTo unW Pg (i + 1) := ⟨_, rfl⟩
    rw [← hU2] at hUs hUl2 hUg2
    obtain ⟨U, hU⟩ : ∃ U, U = upTo unW Pg i := ⟨_, rfl⟩
    rw [← hU] at hUl hUs hUg ⊢
    obtain ⟨F, hF⟩ : ∃ F, F = (Pg.take i).foldl incF m.fm := ⟨_, rfl⟩
    rw [← hF] at hFs hFl hFb' ⊢
    have hbx := hFb' x.fr.toNat
    (repeat (first | refine au_pure ?_ | refine au_pass ?_ | refine au_box (fun _ => ?_) | refine au_alloc (fun _ => ?_) | refine au_store ?_ | refine au_make rfl rfl (fun _ => ?_) | refine au_lit rfl rfl rfl (fun _ => ?_) | refine au_append rfl rfl rfl rfl (fun _ => au_norm ?_) | refine au_storeE rfl rfl rfl rfl ?_ | refine tri_seq ?_ | refine tri_then ?_ | refine tri_region ?_ | refine tri_nil ?_ | refine tri_skip ?_ | refine tri_ret ?_ | refine tri_exit ?_ | refine tri_thenr ?_ | refine tri_thene ?_ | refine tri_blkn ?_ | refine tri_blkr ?_ | refine tri_blke ?_ | refine tri_blko (by rfl) ?_ | refine tri_if_t (by rfl) ?_ | refine tri_if_f (by rfl) ?_ | fail))
    rw [hXv]
    (repeat (first | refine au_pure ?_ | refine au_pass ?_ | refine au_box (fun _ => ?_) | refine au_alloc (fun _ => ?_) | refine au_store ?_ | refine au_make rfl rfl (fun _ => ?_) | refine au_lit rfl rfl rfl (fun _ => ?_) | refine au_append rfl rfl rfl rfl (fun _ => au_norm ?_) | refine au_storeE rfl rfl rfl rfl ?_)); refine tri_nil ?_; (repeat refine tri_then ?_)
    refine tri_weak (H' := Hp w0 (pgS rn N :: blkC g9 62 [.bool true, rn.v] :: cowC g8 m.z r.v f.v m.cp :: pgS rp U2 :: frS f F :: spS r X :: zeC g4 :: cowC g2 m.z vS vF m.cp :: (px rs m.sp s ++ cs))) (fun w h => by rw [← hUs, ← hUg]; exact h) ?_
    (repeat (first | refine au_pure ?_ | refine au_pass ?_ | refine au_box (fun _ => ?_) | refine au_alloc (fun _ => ?_) | refine au_store ?_ | refine au_make rfl rfl (fun _ => ?_) | refine au_lit rfl rfl rfl (fun _ => ?_) | refine au_append rfl rfl rfl rfl (fun _ => au_norm ?_) | refine au_storeE rfl rfl rfl rfl ?_ | refine tri_seq ?_ | refine tri_then ?_ | refine tri_region ?_ | refine tri_nil ?_ | refine tri_skip ?_ | refine tri_ret ?_ | refine tri_exit ?_ | refine tri_thenr ?_ | refine tri_thene ?_ | refine tri_blkn ?_ | refine tri_blkr ?_ | refine tri_blke ?_ | refine tri_blko (by rfl) ?_ | refine tri_if_t (by rfl) ?_ | refine tri_if_f (by rfl) ?_ | fail))
    rw [hXv]
    (repeat (first | refine au_pure ?_ | refine au_pass ?_ | refine au_box (fun _ => ?_) | refine au_alloc (fun _ => ?_) | refine au_store ?_ | refine au_make rfl rfl (fun _ => ?_) | refine au_lit rfl rfl rfl (fun _ => ?_) | refine au_append rfl rfl rfl rfl (fun _ => au_norm ?_) | refine au_storeE rfl rfl rfl rfl ?_ | refine tri_seq ?_ | refine tri_then ?_ | refine tri_region ?_ | refine tri_nil ?_ | refine tri_skip ?_ | refine tri_ret ?_ | refine tri_exit ?_ | refine tri_thenr ?_ | refine tri_thene ?_ | refine tri_blkn ?_ | refine tri_blkr ?_ | refine tri_blke ?_ | refine tri_blko (by rfl) ?_ | refine tri_if_t (by rfl) ?_ | refine tri_if_f (by rfl) ?_ | fail))
    rw [show (U2.getD i default).fr = x.fr by rw [hUg2], show (U2.getD i default).wr = false by rw [hUg2]]
    (repeat (first | refine au_pure ?_ | refine au_pass ?_ | refine au_box (fun _ => ?_) | refine au_alloc (fun _ => ?_) | refine au_store ?_ | refine au_make rfl rfl (fun _ => ?_) | refine au_lit rfl rfl rfl (fun _ => ?_) | refine au_append rfl rfl rfl rfl (fun _ => au_norm ?_) | refine au_storeE rfl rfl rfl rfl ?_ | refine tri_seq ?_ | refine tri_then ?_ | refine tri_region ?_ | refine tri_nil ?_ | refine tri_skip ?_ | refine tri_ret ?_ | refine tri_exit ?_ | refine tri_thenr ?_ | refine tri_thene ?_ | refine tri_blkn ?_ | refine tri_blkr ?_ | refine tri_blke ?_ | refine tri_blko (by rfl) ?_ | refine tri_if_t (by rfl) ?_ | refine tri_if_f (by rfl) ?_ | fail))
    rename_i g11 rl rn2
    by_cases h0 : 0 ≤ x.fr
    · rw [decide_eq_true (show x.fr ≥ 0 from h0)]
      have hin : incF F x = F.set x.fr.toNat ⟨(F.getD x.fr.toNat default).ct + 1, (F.getD x.fr.toNat default).wd⟩ := if_pos h0
      (repeat (first | refine tri_seq ?_ | refine tri_then ?_))
      refine tri_if_t (by rfl) ?_
      (repeat (first | refine tri_seq ?_ | refine tri_then ?_))
      refine tri_drawt 12 rfl (by kernel_rfl) ?_; repeat (first | refine tris_pure rfl rfl ?_ | refine tris_pass rfl rfl ?_ | refine tris_nil ?_)
      (repeat (first | refine au_pure ?_ | refine au_pass ?_ | refine au_box (fun _ => ?_) | refine au_alloc (fun _ => ?_) | refine au_store ?_ | refine au_make rfl rfl (fun _ => ?_) | refine au_lit rfl rfl rfl (fun _ => ?_) | refine au_append rfl rfl rfl rfl (fun _ => au_norm ?_) | refine au_storeE rfl rfl rfl rfl ?_ | refine tri_seq ?_ | refine tri_then ?_ | refine tri_region ?_ | refine tri_nil ?_ | refine tri_skip ?_ | refine tri_ret ?_ | refine tri_exit ?_ | refine tri_thenr ?_ | refine tri_thene ?_ | refine tri_blkn ?_ | refine tri_blkr ?_ | refine tri_blke ?_ | refine tri_blko (by rfl) ?_ | refine tri_if_t (by rfl) ?_ | refine tri_if_f (by rfl) ?_ | fail))
      refine tri_nx2 (i + 1) rn2 (by omega) (by omega) (by repeat (first | exact trivial | refine ⟨rfl, ?_⟩)) (fun w h => ?_)
      rw [← hU2, hFs, hin, hNs]
      exact h.sub (by repeat (first | exact List.Sublist.refl _ | assumption | apply List.Sublist.cons_cons | apply List.Sublist.cons))
    · rw [decide_eq_false (show ¬ x.fr ≥ 0 from h0)]
      have hin : incF F x = F := if_neg h0
      (repeat (first | refine au_pure ?_ | refine au_pass ?_ | refine au_box (fun _ => ?_) | refine au_alloc (fun _ => ?_) | refine au_store ?_ | refine au_make rfl rfl (fun _ => ?_) | refine au_lit rfl rfl rfl (fun _ => ?_) | refine au_append rfl rfl rfl rfl (fun _ => au_norm ?_) | refine au_storeE rfl rfl rfl rfl ?_ | refine tri_seq ?_ | refine tri_then ?_ | refine tri_region ?_ | refine tri_nil ?_ | refine tri_skip ?_ | refine tri_ret ?_ | refine tri_exit ?_ | refine tri_thenr ?_ | refine tri_thene ?_ | refine tri_blkn ?_ | refine tri_blkr ?_ | refine tri_blke ?_ | refine tri_blko (by rfl) ?_ | refine tri_if_t (by rfl) ?_ | refine tri_if_f (by rfl) ?_ | fail))
      refine tri_nx2 (i + 1) rn2 (by omega) (by omega) (by repeat (first | exact trivial | refine ⟨rfl, ?_⟩)) (fun w h => ?_)
      rw [← hU2, hFs, hin, hNs]
      exact h.sub (by repeat (first | exact List.Sublist.refl _ | assumption | apply List.Sublist.cons_cons | apply List.Sublist.cons))
  · have hil : i = Pg.length := by omega
    subst hil
    rw [List.take_length, upTo_end]
    rw [upTo_end] at hUl
    obtain ⟨P1, hP1⟩ : ∃ P1, P1 = Pg.map unW := ⟨_, rfl⟩
    rw [← hP1] at hUl ⊢
    obtain ⟨F, hF⟩ : ∃ F, F = Pg.foldl incF m.fm := ⟨_, rfl⟩
    rw [← hF]
    (repeat (first | refine au_pure ?_ | refine au_pass ?_ | refine au_box (fun _ => ?_) | refine au_alloc (fun _ => ?_) | refine au_store ?_ | refine au_make rfl rfl (fun _ => ?_) | refine au_lit rfl rfl rfl (fun _ => ?_) | refine au_append rfl rfl rfl rfl (fun _ => au_norm ?_) | refine au_storeE rfl rfl rfl rfl ?_ | refine tri_seq ?_ | refine tri_then ?_ | refine tri_region ?_ | refine tri_nil ?_ | refine tri_skip ?_ | refine tri_ret ?_ | refine tri_exit ?_ | refine tri_thenr ?_ | refine tri_thene ?_ | refine tri_blkn ?_ | refine tri_blkr ?_ | refine tri_blke ?_ | refine tri_blko (by rfl) ?_ | refine tri_if_t (by rfl) ?_ | refine tri_if_f (by rfl) ?_ | fail))
    rename_i rl r2
    have hYl : (X ++ [(⟨true, rn.sv⟩ : SP)]).length = m.sp.length + 1 := by simp [hXl]
    obtain ⟨Y, hY⟩ : ∃ Y, Y = X ++ [(⟨true, rn.sv⟩ : SP)] := ⟨_, rfl⟩
    refine tri_weak (H' := Hp w0 (pgS rn P1 :: pgS rp P1 :: frS f F :: spS r2 Y :: cowC g8 m.z r2.v f.v m.cp :: zeC g4 :: cowC g2 m.z vS vF m.cp :: (px rs m.sp s ++ cs))) (fun w h => by
      rw [hY]
      have h2 := h.sub (cs' := pgS rn P1 :: cowC g8 m.z r2.v f.v m.cp :: pgS rp P1 :: frS f F :: spS r2 (X ++ [⟨true, rn.sv⟩]) :: zeC g4 :: cowC g2 m.z vS vF m.cp :: (px rs m.sp s ++ cs)) (by repeat (first | exact List.Sublist.refl _ | assumption | apply List.Sublist.cons_cons | apply List.Sublist.cons))
      exact HpM.perm h2 (List.Perm.cons _ (List.perm_middle (l₁ := [_, _, _])).symm)) ?_
    rw [← hY] at hYl
    refine ak_held [] (pgS rn P1 :: pgS rp P1 :: frS f F :: spS r2 Y :: cowC g8 m.z r2.v f.v m.cp :: cowC g2 m.z vS vF m.cp :: (px rs m.sp s ++ cs)) rfl ?_
    refine ak_take 0 rfl rfl rfl ?_; refine ak_take 1 rfl rfl rfl ?_; refine ak_take 2 rfl rfl rfl ?_; refine ak_take 3 rfl rfl rfl ?_
    refine ak_op 4 rfl ?_
    refine au_store ?_
    refine tri_nil ?_; refine ak_in ?_
    refine ak_take 5 rfl rfl rfl ?_; refine ak_take 6 rfl rfl rfl ?_
    refine ak_done ?_
    (repeat (first | refine au_pure ?_ | refine au_pass ?_ | refine au_box (fun _ => ?_) | refine au_alloc (fun _ => ?_) | refine au_store ?_ | refine au_make rfl rfl (fun _ => ?_) | refine au_lit rfl rfl rfl (fun _ => ?_) | refine au_append rfl rfl rfl rfl (fun _ => au_norm ?_) | refine au_storeE rfl rfl rfl rfl ?_ | refine tri_seq ?_ | refine tri_then ?_ | refine tri_region ?_ | refine tri_nil ?_ | refine tri_skip ?_ | refine tri_ret ?_ | refine tri_exit ?_ | refine tri_thenr ?_ | refine tri_thene ?_ | refine tri_blkn ?_ | refine tri_blkr ?_ | refine tri_blke ?_ | refine tri_blko (by rfl) ?_ | refine tri_if_t (by rfl) ?_ | refine tri_if_f (by rfl) ?_ | fail))
    rw [hvl]
    refine au_done3 rfl ?_
    intro w hw
    refine ⟨⟨r2, rs ++ [rn], f, by unfold setPs; simp [hl]⟩, rfl, ?_⟩
    refine fin_fork w0 cs (rp := rp) (X := X) hl h4 hX hrp ?_
    rw [← hY]
    exact hw.sub (by repeat (first | exact List.Sublist.refl _ | assumption | apply List.Sublist.cons_cons | apply List.Sublist.cons))
end
end Go.Proofs.Ytinnkclemjognaa
