/- The walks of package cow: Exit, Fork. No conditions. -/
import Derived.Test.YtinnkclemjognaaCowOps3
set_option linter.unusedSimpArgs false
set_option linter.unusedVariables false
namespace Go.Proofs.Ytinnkclemjognaa
open Go Go.RowKit
attribute [local irreducible] Code.wp wpList bodyPost Exit.then Exit.inBlock Calls wpQuiet Tri TriQ
theorem exit_err {m : CW} {s : Int} (h : liveE m s ≠ 0) : exitM m s = (CW.zero, liveE m s) := if_pos h
theorem exit_yes {m : CW} {s : Int} (h : liveE m s = 0) : exitM m s = (exitG m s.toNat, 0) := if_neg (by simp [h])
theorem fork_err {m : CW} {s : Int} (h : liveE m s ≠ 0) : forkM m s = (CW.zero, 0, liveE m s) := if_pos h
theorem fork_lim {m : CW} {s : Int} (h : liveE m s = 0) (h8 : 8 ≤ m.sp.length) : forkM m s = (CW.zero, 0, 9) := by unfold forkM; rw [if_neg (by simp [h]), if_pos h8]
theorem fork_yes {m : CW} {s : Int} (h : liveE m s = 0) (h8 : ¬ 8 ≤ m.sp.length) : forkM m s = (forkG m s.toNat, (m.sp.length : Int), 0) := by unfold forkM; rw [if_neg (by simp [h]), if_neg h8]
theorem fold_len {g : List FR → PG → List FR} (hg : ∀ F x, (g F x).length = F.length) : ∀ (l : List PG) (F : List FR), (l.foldl g F).length = F.length
  | [], _ => rfl
  | x :: l, F => by rw [List.foldl_cons, fold_len hg l, hg]
theorem fold_bd {g : List FR → PG → List FR} {c d : Int} (hg : ∀ F x a b, Bd F a b → Bd (g F x) (a - c) (b + d)) : ∀ (l : List PG) (F : List FR) (a b : Int), Bd F a b → Bd (l.foldl g F) (a - c * l.length) (b + d * l.length)
  | [], F, a, b, h => by simpa using h
  | x :: l, F, a, b, h => by
    rw [List.foldl_cons]
    have := fold_bd hg l (g F x) _ _ (hg F x a b h)
    rw [List.length_cons]
    have e1 : c * ((l.length + 1 : Nat) : Int) = c * l.length + c := by rw [Int.natCast_add, Int.mul_add]; simp
    have e2 : d * ((l.length + 1 : Nat) : Int) = d * l.length + d := by rw [Int.natCast_add, Int.mul_add]; simp
    rw [e1, e2]
    exact bd_mono this (by omega) (by omega)
theorem zero_res3 {w0 w : World} {cs cs' : List Chunk} {m' : CW} {e e' k k' : Int} (hw : Hp w0 cs' w) (he : e = e') (hk : k = k') (hm : m' = CW.zero) (hs : cs.Sublist cs') : ∃ q : CR m'.sp.length, Ending.returned (.tuple #[cowV 0 (.slice none 0 0) (.slice none 0 0) 0, .int .i64 k, .int .i64 e]) = .returned (.tuple #[crV q m', .int .i64 k', .int .i64 e']) ∧ crH w0 cs q m' w := by
  subst he hm hk
  obtain ⟨q, h1, h2, h3⟩ := zero_rows hw hs
  exact ⟨q, by rw [crV, h1, h2]; rfl, h3⟩
section
variable (w0 : World) (cs : List Chunk)
set_option maxHeartbeats 2000000 in
theorem exit_c {vS vF : Value} {xs : List SP} {m : CW} (s : Int) (hC : RdC (Hp w0 cs) vS vF xs m) (hL : CLe m) :
    Cal Try.prog 14 [cowV m.z vS vF m.cp, .int .i64 s] (Hp w0 cs) (fun q : CR (exitM m s).1.sp.length => .tuple #[crV q (exitM m s).1, .int .i64 (exitM m s).2]) (fun q => crH w0 cs q (exitM m s).1) := by
  have hvl := hC.len
  refine cal_of_tri Try.func14 rfl Try.ntmps14 rfl ?_
  (repeat (first | refine au_pure ?_ | refine au_pass ?_ | refine au_box (fun _ => ?_) | refine au_alloc (fun _ => ?_) | refine au_store ?_ | refine au_make rfl rfl (fun _ => ?_) | refine au_lit rfl rfl rfl (fun _ => ?_) | refine au_append rfl rfl rfl rfl (fun _ => au_norm ?_) | refine au_storeE rfl rfl rfl rfl ?_ | refine tri_seq ?_ | refine tri_then ?_ | refine tri_region ?_ | refine tri_nil ?_ | refine tri_skip ?_ | refine tri_ret ?_ | refine tri_exit ?_ | refine tri_thenr ?_ | refine tri_thene ?_ | refine tri_blkn ?_ | refine tri_blkr ?_ | refine tri_blke ?_ | refine tri_blko (by rfl) ?_ | refine tri_if_t (by rfl) ?_ | refine tri_if_f (by rfl) ?_ | fail))
  rename_i g2 g4
  refine au_callC rfl rfl rfl rfl rfl (live_c w0 _ s hC.cons.cons hL) (fun _ => ?_)
  (repeat (first | refine au_pure ?_ | refine au_pass ?_ | refine au_box (fun _ => ?_) | refine au_alloc (fun _ => ?_) | refine au_store ?_ | refine au_make rfl rfl (fun _ => ?_) | refine au_lit rfl rfl rfl (fun _ => ?_) | refine au_append rfl rfl rfl rfl (fun _ => au_norm ?_) | refine au_storeE rfl rfl rfl rfl ?_ | refine tri_seq ?_ | refine tri_then ?_ | refine tri_region ?_ | refine tri_nil ?_ | refine tri_skip ?_ | refine tri_ret ?_ | refine tri_exit ?_ | refine tri_thenr ?_ | refine tri_thene ?_ | refine tri_blkn ?_ | refine tri_blkr ?_ | refine tri_blke ?_ | refine tri_blko (by rfl) ?_ | refine tri_if_t (by rfl) ?_ | refine tri_if_f (by rfl) ?_ | fail))
  ((first | refine tri_cond (by rfl) (fun hc => ?_) (fun hc => ?_) | refine tri_gsplit (by rfl) (by rfl) (by (fail_if_success exact (rfl : _ = some (Value.bool true))); (fail_if_success exact (rfl : _ = some (Value.bool false))); rfl) (fun hc => ?_) (fun hc => ?_)) <;> (try simp only [decide_eq_true_eq, decide_eq_false_iff_not, beq_iff_eq, bne_iff_ne, ne_eq, Bool.not_eq_true', Bool.not_eq_false', beq_eq_false_iff_ne, bne_eq_false_iff_eq, Int.not_lt, Int.not_le, gt_iff_lt, ge_iff_le, Bool.and_eq_true, Bool.or_eq_true, Bool.and_eq_false_iff, Bool.or_eq_false_iff, Decidable.not_not, not_true_eq_false, not_false_eq_true, and_true, true_and, or_false, false_or, or_true, true_or, and_false, false_and, eq_self, Bool.true_eq_false, Bool.false_eq_true] at hc) <;> (try (exfalso; omega)))
  · have he := exit_err (show liveE m s ≠ 0 by assumption)
    rw [he]
    (repeat (first | refine au_pure ?_ | refine au_pass ?_ | refine au_box (fun _ => ?_) | refine au_alloc (fun _ => ?_) | refine au_store ?_ | refine au_make rfl rfl (fun _ => ?_) | refine au_lit rfl rfl rfl (fun _ => ?_) | refine au_append rfl rfl rfl rfl (fun _ => au_norm ?_) | refine au_storeE rfl rfl rfl rfl ?_ | refine tri_seq ?_ | refine tri_then ?_ | refine tri_region ?_ | refine tri_nil ?_ | refine tri_skip ?_ | refine tri_ret ?_ | refine tri_exit ?_ | refine tri_thenr ?_ | refine tri_thene ?_ | refine tri_blkn ?_ | refine tri_blkr ?_ | refine tri_blke ?_ | refine tri_blko (by rfl) ?_ | refine tri_if_t (by rfl) ?_ | refine tri_if_f (by rfl) ?_ | fail))
    refine au_done2 rfl ?_
    exact fun w hw => zero_res (m' := CW.zero) hw rfl rfl (by repeat (first | exact List.Sublist.refl _ | assumption | apply List.Sublist.cons_cons | apply List.Sublist.cons))
  have hk : liveE m s = 0 := by assumption
  rw [exit_yes hk]
  obtain ⟨hO, h3, h4, h5, h6⟩ := live_ok hk
  obtain ⟨s, rfl⟩ : ∃ k : Nat, s = (k : Int) := ⟨s.toNat, by omega⟩
  simp only [Int.toNat_natCast] at h4 h5 h6 ⊢
  have hx := fun p => hO.at_ (i := s) (j := p)
  have hf2 := hO.f2
  have hpl := hO.plen s
  have hbd : Bd m.fm 0 4096 := fun j => hO.ctb' j
  (repeat (first | refine au_pure ?_ | refine au_pass ?_ | refine au_box (fun _ => ?_) | refine au_alloc (fun _ => ?_) | refine au_store ?_ | refine au_make rfl rfl (fun _ => ?_) | refine au_lit rfl rfl rfl (fun _ => ?_) | refine au_append rfl rfl rfl rfl (fun _ => au_norm ?_) | refine au_storeE rfl rfl rfl rfl ?_ | refine tri_seq ?_ | refine tri_then ?_ | refine tri_region ?_ | refine tri_nil ?_ | refine tri_skip ?_ | refine tri_ret ?_ | refine tri_exit ?_ | refine tri_thenr ?_ | refine tri_thene ?_ | refine tri_blkn ?_ | refine tri_blkr ?_ | refine tri_blke ?_ | refine tri_blko (by rfl) ?_ | refine tri_if_t (by rfl) ?_ | refine tri_if_f (by rfl) ?_ | fail))
  refine au_callC rfl rfl rfl rfl rfl (own_c w0 _ hC.cons.cons hO) ?_
  rintro ⟨r, rs, f, hl⟩
  refine tri_weak (H' := Hp w0 (pgS (rs.getD s (Row.nil 0)) (m.sp.getD s default).pg :: frS f m.fm :: spS r (spx rs m.sp) :: zeC g4 :: cowC g2 m.z vS vF m.cp :: (px rs m.sp s ++ cs))) (fun w h => HpM.perm h (own_focus hl h4)) ?_
  obtain ⟨rp, hrp⟩ : ∃ rp, rp = rs.getD s (Row.nil 0) := ⟨_, rfl⟩
  have hXv : ((spx rs m.sp).getD s default).s.v = (rs.getD s (Row.nil 0)).v := by rw [spx_get hl h4]; rfl
  have hXl := spx_len hl
  rw [← hrp] at hXv ⊢
  obtain ⟨X, hX⟩ : ∃ X, X = spx rs m.sp := ⟨_, rfl⟩
  rw [← hX] at hXv hXl ⊢
  have hug : exitG m s = ⟨m.z, m.sp.set s ⟨false, []⟩, (m.sp.getD s default).pg.foldl clrF m.fm, m.cp⟩ := rfl
  rw [hug]
  obtain ⟨Pg, hPg⟩ : ∃ Pg, Pg = (m.sp.getD s default).pg := ⟨_, rfl⟩
  have hxe : ∀ p, pgAt m s p = Pg.getD p default := fun p => by unfold pgAt; rw [hPg]
  rw [← hPg] at h6 hpl ⊢
  simp only [hxe] at hx
  rw [← hPg] at hx
  (repeat (first | refine au_pure ?_ | refine au_pass ?_ | refine au_box (fun _ => ?_) | refine au_alloc (fun _ => ?_) | refine au_store ?_ | refine au_make rfl rfl (fun _ => ?_) | refine au_lit rfl rfl rfl (fun _ => ?_) | refine au_append rfl rfl rfl rfl (fun _ => au_norm ?_) | refine au_storeE rfl rfl rfl rfl ?_ | refine tri_seq ?_ | refine tri_then ?_ | refine tri_region ?_ | refine tri_nil ?_ | refine tri_skip ?_ | refine tri_ret ?_ | refine tri_exit ?_ | refine tri_thenr ?_ | refine tri_thene ?_ | refine tri_blkn ?_ | refine tri_blkr ?_ | refine tri_blke ?_ | refine tri_blko (by rfl) ?_ | refine tri_if_t (by rfl) ?_ | refine tri_if_f (by rfl) ?_ | fail))
  rw [hXv]
  (repeat (first | refine au_pure ?_ | refine au_pass ?_ | refine au_box (fun _ => ?_) | refine au_alloc (fun _ => ?_) | refine au_store ?_ | refine au_make rfl rfl (fun _ => ?_) | refine au_lit rfl rfl rfl (fun _ => ?_) | refine au_append rfl rfl rfl rfl (fun _ => au_norm ?_) | refine au_storeE rfl rfl rfl rfl ?_ | refine tri_seq ?_ | refine tri_then ?_ | refine tri_region ?_ | refine tri_nil ?_ | refine tri_skip ?_ | refine tri_ret ?_ | refine tri_exit ?_ | refine tri_thenr ?_ | refine tri_thene ?_ | refine tri_blkn ?_ | refine tri_blkr ?_ | refine tri_blke ?_ | refine tri_blko (by rfl) ?_ | refine tri_if_t (by rfl) ?_ | refine tri_if_f (by rfl) ?_ | fail))
  refine tri_block ?_
  refine tri_loop1 (fun (i : Nat) => i ≤ Pg.length) (fun i => [(1, .int .i64 (s : Int)), (2, .pointer (some ⟨g2, 0, none⟩)), (4, .pointer (some ⟨g4, 0, none⟩)), (23, .int .i64 (Pg.length : Int)), (24, .int .i64 (i : Int))])
    (fun i => Hp w0 (pgS rp (upTo clW Pg i) :: frS f ((Pg.take i).foldl clrF m.fm) :: spS r X :: zeC g4 :: cowC g2 m.z r.v f.v m.cp :: (px rs m.sp s ++ cs))) (fun i => Pg.length - i)
    0 (by omega) (by repeat (first | exact trivial | refine ⟨rfl, ?_⟩)) (fun w h => by rw [upTo_zero]; exact h) ?_
  intro i hi
  have hUl := upTo_len clW Pg i hi
  have hFl := fold_len clr_len (Pg.take i) m.fm
  have hFb := fold_bd (g := clrF) (c := 1) (d := 0) (fun F x a b h => bd_mono (bd_clr h) (by omega) (by omega)) (Pg.take i) m.fm _ _ hbd
  have hFb' : Bd ((Pg.take i).foldl clrF m.fm) (-1000000) 1000000 := bd_mono hFb (by rw [List.length_take]; omega) (by omega)
  (repeat (first | refine au_pure ?_ | refine au_pass ?_ | refine au_box (fun _ => ?_) | refine au_alloc (fun _ => ?_) | refine au_store ?_ | refine au_make rfl rfl (fun _ => ?_) | refine au_lit rfl rfl rfl (fun _ => ?_) | refine au_append rfl rfl rfl rfl (fun _ => au_norm ?_) | refine au_storeE rfl rfl rfl rfl ?_ | refine tri_seq ?_ | refine tri_then ?_ | refine tri_region ?_ | refine tri_nil ?_ | refine tri_skip ?_ | refine tri_ret ?_ | refine tri_exit ?_ | refine tri_thenr ?_ | refine tri_thene ?_ | refine tri_blkn ?_ | refine tri_blkr ?_ | refine tri_blke ?_ | refine tri_blko (by rfl) ?_ | refine tri_if_t (by rfl) ?_ | refine tri_if_f (by rfl) ?_ | fail))
  ((first | refine tri_cond (by rfl) (fun hc => ?_) (fun hc => ?_) | refine tri_gsplit (by rfl) (by rfl) (by (fail_if_success exact (rfl : _ = some (Value.bool true))); (fail_if_success exact (rfl : _ = some (Value.bool false))); rfl) (fun hc => ?_) (fun hc => ?_)) <;> (try simp only [decide_eq_true_eq, decide_eq_false_iff_not, beq_iff_eq, bne_iff_ne, ne_eq, Bool.not_eq_true', Bool.not_eq_false', beq_eq_false_iff_ne, bne_eq_false_iff_eq, Int.not_lt, Int.not_le, gt_iff_lt, ge_iff_le, Bool.and_eq_true, Bool.or_eq_true, Bool.and_eq_false_iff, Bool.or_eq_false_iff, Decidable.not_not, not_true_eq_false, not_false_eq_true, and_true, true_and, or_false, false_or, or_true, true_or, and_false, false_and, eq_self, Bool.true_eq_false, Bool.false_eq_true] at hc) <;> (try (exfalso; omega)))
  · (repeat (first | refine au_pure ?_ | refine au_pass ?_ | refine au_box (fun _ => ?_) | refine au_alloc (fun _ => ?_) | refine au_store ?_ | refine au_make rfl rfl (fun _ => ?_) | refine au_lit rfl rfl rfl (fun _ => ?_) | refine au_append rfl rfl rfl rfl (fun _ => au_norm ?_) | refine au_storeE rfl rfl rfl rfl ?_ | refine tri_seq ?_ | refine tri_then ?_ | refine tri_region ?_ | refine tri_nil ?_ | refine tri_skip ?_ | refine tri_ret ?_ | refine tri_exit ?_ | refine tri_thenr ?_ | refine tri_thene ?_ | refine tri_blkn ?_ | refine tri_blkr ?_ | refine tri_blke ?_ | refine tri_blko (by rfl) ?_ | refine tri_if_t (by rfl) ?_ | refine tri_if_f (by rfl) ?_ | fail))
    refine tri_block ?_
    have hUg := upTo_get clW (l := Pg) (i := i) (by omega)
    have hUs := upTo_step clW (l := Pg) (i := i) (y := ⟨-1, false⟩) (by omega) rfl
    have hFs := foldl_step (g := clrF) (b := m.fm) (l := Pg) (i := i) (by omega)
    have hxi := hx i (by omega)
    rw [← hUg] at hFs hxi
    obtain ⟨U, hU⟩ : ∃ U, U = upTo clW Pg i := ⟨_, rfl⟩
    rw [← hU] at hUl hUs hFs hxi ⊢
    obtain ⟨F, hF⟩ : ∃ F, F = (Pg.take i).foldl clrF m.fm := ⟨_, rfl⟩
    rw [← hF] at hFs hFl hFb' ⊢
    (repeat (first | refine au_pure ?_ | refine au_pass ?_ | refine au_box (fun _ => ?_) | refine au_alloc (fun _ => ?_) | refine au_store ?_ | refine au_make rfl rfl (fun _ => ?_) | refine au_lit rfl rfl rfl (fun _ => ?_) | refine au_append rfl rfl rfl rfl (fun _ => au_norm ?_) | refine au_storeE rfl rfl rfl rfl ?_ | refine tri_seq ?_ | refine tri_then ?_ | refine tri_region ?_ | refine tri_nil ?_ | refine tri_skip ?_ | refine tri_ret ?_ | refine tri_exit ?_ | refine tri_thenr ?_ | refine tri_thene ?_ | refine tri_blkn ?_ | refine tri_blkr ?_ | refine tri_blke ?_ | refine tri_blko (by rfl) ?_ | refine tri_if_t (by rfl) ?_ | refine tri_if_f (by rfl) ?_ | fail))
    refine tri_drawt 9 rfl (by kernel_rfl) ?_; repeat (first | refine tris_pure rfl rfl ?_ | refine tris_pass rfl rfl ?_ | refine tris_nil ?_)
    rw [hXv]
    (repeat (first | refine tris_pure rfl rfl ?_ | refine tris_pass rfl rfl ?_ | refine tris_nil ?_))
    refine au_callC rfl rfl rfl rfl rfl (clear_c w0 _ (vS := r.v) (z := m.z) (cp := m.cp) (rp := rp) (f := f) (Pg := U) (F := F) (p := i) (by omega) (by omega) hFb' (by omega) (by omega)) (fun _ => ?_)
    (repeat (first | refine au_pure ?_ | refine au_pass ?_ | refine au_box (fun _ => ?_) | refine au_alloc (fun _ => ?_) | refine au_store ?_ | refine au_make rfl rfl (fun _ => ?_) | refine au_lit rfl rfl rfl (fun _ => ?_) | refine au_append rfl rfl rfl rfl (fun _ => au_norm ?_) | refine au_storeE rfl rfl rfl rfl ?_ | refine tri_seq ?_ | refine tri_then ?_ | refine tri_region ?_ | refine tri_nil ?_ | refine tri_skip ?_ | refine tri_ret ?_ | refine tri_exit ?_ | refine tri_thenr ?_ | refine tri_thene ?_ | refine tri_blkn ?_ | refine tri_blkr ?_ | refine tri_blke ?_ | refine tri_blko (by rfl) ?_ | refine tri_if_t (by rfl) ?_ | refine tri_if_f (by rfl) ?_ | fail))
    exact tri_nx1 (i + 1) (by omega) (by omega) (by repeat (first | exact trivial | refine ⟨rfl, ?_⟩)) (fun w h => by rw [← hUs, hFs]; exact h)
  · have hil : i = Pg.length := by omega
    subst hil
    rw [List.take_length]
    (repeat (first | refine au_pure ?_ | refine au_pass ?_ | refine au_box (fun _ => ?_) | refine au_alloc (fun _ => ?_) | refine au_store ?_ | refine au_make rfl rfl (fun _ => ?_) | refine au_lit rfl rfl rfl (fun _ => ?_) | refine au_append rfl rfl rfl rfl (fun _ => au_norm ?_) | refine au_storeE rfl rfl rfl rfl ?_ | refine tri_seq ?_ | refine tri_then ?_ | refine tri_region ?_ | refine tri_nil ?_ | refine tri_skip ?_ | refine tri_ret ?_ | refine tri_exit ?_ | refine tri_thenr ?_ | refine tri_thene ?_ | refine tri_blkn ?_ | refine tri_blkr ?_ | refine tri_blke ?_ | refine tri_blko (by rfl) ?_ | refine tri_if_t (by rfl) ?_ | refine tri_if_f (by rfl) ?_ | fail))
    refine au_done2 rfl ?_
    intro w hw
    refine ⟨⟨r, rs.set s (Row.nil w0.heap.size), f, by simp [hl]⟩, rfl, ?_⟩
    have h1 : Hp w0 (frS f (Pg.foldl clrF m.fm) :: spS r (X.set s ⟨false, (Row.nil w0.heap.size).sv⟩) :: (px rs m.sp s ++ cs)) w := hw.sub ((((List.Sublist.refl _).cons _ |>.cons _).cons_cons _ |>.cons_cons _).cons _)
    have h2 := h1.push0 (c := pgS (Row.nil w0.heap.size) ([] : List PG)) rfl rfl (Own.nil w _ _)
    have h3 := HpM.perm h2 (perm_unfocus (cs := cs) [_, _] (r' := Row.nil w0.heap.size) (s' := ⟨false, []⟩) hl h4)
    rw [hX, show (⟨false, (Row.nil w0.heap.size).sv⟩ : SP) = ⟨(⟨false, []⟩ : CS).lv, (Row.nil w0.heap.size).sv⟩ from rfl, spx_set] at h3
    exact h3
theorem fin_fork {w : World} {r2 f rp rn : Row} {rs : List Row} {m : CW} {s : Nat} {F : List FR} {X : List SP} {P1 : List PG} (hl : rs.length = m.sp.length) (hs : s < m.sp.length) (hX : X = spx rs m.sp) (hrp : rp = rs.getD s (Row.nil 0))
    (hw : Hp w0 (pgS rn P1 :: pgS rp P1 :: frS f F :: spS r2 (X ++ [⟨true, rn.sv⟩]) :: (px rs m.sp s ++ cs)) w) : Hp w0 (CC r2 (rs ++ [rn]) f ⟨m.z, setPs m.sp s P1 ++ [⟨true, P1⟩], F, m.cp⟩ ++ cs) w := by
  have hll : rs.length = (setPs m.sp s P1).length := by unfold setPs; simp [hl]
  have hX2 : X = spx rs (setPs m.sp s P1) := by rw [hX]; unfold setPs; exact (spx_same (s' := ⟨(m.sp.getD s default).lv, P1⟩) hl hs rfl).symm
  show Hp w0 (frS f F :: spS r2 (spx (rs ++ [rn]) (setPs m.sp s P1 ++ [⟨true, P1⟩])) :: (nestP (rs ++ [rn]) (setPs m.sp s P1 ++ [⟨true, P1⟩]) ++ cs)) w
  rw [spx_snoc hll, nestP_snoc hll, ← hX2]
  have h1 := HpM.perm hw (List.Perm.cons _ (perm_unfocus (cs := cs) [frS f F, spS r2 (X ++ [(⟨true, rn.sv⟩ : SP)])] (r' := rp) (s' := ⟨(m.sp.getD s default).lv, P1⟩) hl hs))
  rw [hrp, rs_self (by omega)] at h1
  exact HpM.perm h1 (perm_snoc [_, _] _ _)
set_option maxHeartbeats 2000000 in
theorem fork_c {vS vF : Value} {xs : List SP} {m : CW} (s : Int) (hC : RdC (Hp w0 cs) vS vF xs m) (hL : CLe m) :
    Cal Try.prog 13 [cowV m.z vS vF m.cp, .int .i64 s] (Hp w0 cs) (fun q : CR (forkM m s).1.sp.length => .tuple #[crV q (forkM m s).1, .int .i64 (forkM m s).2.1, .int .i64 (forkM m s).2.2]) (fun q => crH w0 cs q (forkM m s).1) := by
  have hvl := hC.len
  have hRo := hC.out
  have hl1 := hL.sp
  refine cal_of_tri Try.func13 rfl Try.ntmps13 rfl ?_
  (repeat (first | refine au_pure ?_ | refine au_pass ?_ | refine au_box (fun _ => ?_) | refine au_alloc (fun _ => ?_) | refine au_store ?_ | refine au_make rfl rfl (fun _ => ?_) | refine au_lit rfl rfl rfl (fun _ => ?_) | refine au_append rfl rfl rfl rfl (fun _ => au_norm ?_) | refine au_storeE rfl rfl rfl rfl ?_ | refine tri_seq ?_ | refine tri_then ?_ | refine tri_region ?_ | refine tri_nil ?_ | refine tri_skip ?_ | refine tri_ret ?_ | refine tri_exit ?_ | refine tri_thenr ?_ | refine tri_thene ?_ | refine tri_blkn ?_ | refine tri_blkr ?_ | refine tri_blke ?_ | refine tri_blko (by rfl) ?_ | refine tri_if_t (by rfl) ?_ | refine tri_if_f (by rfl) ?_ | fail))
  rename_i g2 g4
  refine au_callC rfl rfl rfl rfl rfl (live_c w0 _ s hC.cons.cons hL) (fun _ => ?_)
  (repeat (first | refine au_pure ?_ | refine au_pass ?_ | refine au_box (fun _ => ?_) | refine au_alloc (fun _ => ?_) | refine au_store ?_ | refine au_make rfl rfl (fun _ => ?_) | refine au_lit rfl rfl rfl (fun _ => ?_) | refine au_append rfl rfl rfl rfl (fun _ => au_norm ?_) | refine au_storeE rfl rfl rfl rfl ?_ | refine tri_seq ?_ | refine tri_then ?_ | refine tri_region ?_ | refine tri_nil ?_ | refine tri_skip ?_ | refine tri_ret ?_ | refine tri_exit ?_ | refine tri_thenr ?_ | refine tri_thene ?_ | refine tri_blkn ?_ | refine tri_blkr ?_ | refine tri_blke ?_ | refine tri_blko (by rfl) ?_ | refine tri_if_t (by rfl) ?_ | refine tri_if_f (by rfl) ?_ | fail))
  ((first | refine tri_cond (by rfl) (fun hc => ?_) (fun hc => ?_) | refine tri_gsplit (by rfl) (by rfl) (by (fail_if_success exact (rfl : _ = some (Value.bool true))); (fail_if_success exact (rfl : _ = some (Value.bool false))); rfl) (fun hc => ?_) (fun hc => ?_)) <;> (try simp only [decide_eq_true_eq, decide_eq_false_iff_not, beq_iff_eq, bne_iff_ne, ne_eq, Bool.not_eq_true', Bool.not_eq_false', beq_eq_false_iff_ne, bne_eq_false_iff_eq, Int.not_lt, Int.not_le, gt_iff_lt, ge_iff_le, Bool.and_eq_true, Bool.or_eq_true, Bool.and_eq_false_iff, Bool.or_eq_false_iff, Decidable.not_not, not_true_eq_false, not_false_eq_true, and_true, true_and, or_false, false_or, or_true, true_or, and_false, false_and, eq_self, Bool.true_eq_false, Bool.false_eq_true] at hc) <;> (try (exfalso; omega)))
  · have he := fork_err (show liveE m s ≠ 0 by assumption)
    rw [he]
    (repeat (first | refine au_pure ?_ | refine au_pass ?_ | refine au_box (fun _ => ?_) | refine au_alloc (fun _ => ?_) | refine au_store ?_ | refine au_make rfl rfl (fun _ => ?_) | refine au_lit rfl rfl rfl (fun _ => ?_) | refine au_append rfl rfl rfl rfl (fun _ => au_norm ?_) | refine au_storeE rfl rfl rfl rfl ?_ | refine tri_seq ?_ | refine tri_then ?_ | refine tri_region ?_ | refine tri_nil ?_ | refine tri_skip ?_ | refine tri_ret ?_ | refine tri_exit ?_ | refine tri_thenr ?_ | refine tri_thene ?_ | refine tri_blkn ?_ | refine tri_blkr ?_ | refine tri_blke ?_ | refine tri_blko (by rfl) ?_ | refine tri_if_t (by rfl) ?_ | refine tri_if_f (by rfl) ?_ | fail))
    refine au_done3 rfl ?_
    exact fun w hw => zero_res3 (m' := CW.zero) hw rfl rfl rfl (by repeat (first | exact List.Sublist.refl _ | assumption | apply List.Sublist.cons_cons | apply List.Sublist.cons))
  have hk : liveE m s = 0 := by assumption
  obtain ⟨hO, h3, h4, h5, h6⟩ := live_ok hk
  (repeat (first | refine au_pure ?_ | refine au_pass ?_ | refine au_box (fun _ => ?_) | refine au_alloc (fun _ => ?_) | refine au_store ?_ | refine au_make rfl rfl (fun _ => ?_) | refine au_lit rfl rfl rfl (fun _ => ?_) | refine au_append rfl rfl rfl rfl (fun _ => au_norm ?_) | refine au_storeE rfl rfl rfl rfl ?_ | refine tri_seq ?_ | refine tri_then ?_ | refine tri_region ?_ | refine tri_nil ?_ | refine tri_skip ?_ | refine tri_ret ?_ | refine tri_exit ?_ | refine tri_thenr ?_ | refine tri_thene ?_ | refine tri_blkn ?_ | refine tri_blkr ?_ | refine tri_blke ?_ | refine tri_blko (by rfl) ?_ | refine tri_if_t (by rfl) ?_ | refine tri_if_f (by rfl) ?_ | fail))
  ((first | refine tri_cond (by rfl) (fun hc => ?_) (fun hc => ?_) | refine tri_gsplit (by rfl) (by rfl) (by (fail_if_success exact (rfl : _ = some (Value.bool true))); (fail_if_success exact (rfl : _ = some (Value.bool false))); rfl) (fun hc => ?_) (fun hc => ?_)) <;> (try simp only [decide_eq_true_eq, decide_eq_false_iff_not, beq_iff_eq, bne_iff_ne, ne_eq, Bool.not_eq_true', Bool.not_eq_false', beq_eq_false_iff_ne, bne_eq_false_iff_eq, Int.not_lt, Int.not_le, gt_iff_lt, ge_iff_le, Bool.and_eq_true, Bool.or_eq_true, Bool.and_eq_false_iff, Bool.or_eq_false_iff, Decidable.not_not, not_true_eq_false, not_false_eq_true, and_true, true_and, or_false, false_or, or_true, true_or, and_false, false_and, eq_self, Bool.true_eq_false, Bool.false_eq_true] at hc) <;> (try (exfalso; omega)))
  · have he := fork_lim hk (show 8 ≤ m.sp.length by omega)
    rw [he]
    (repeat (first | refine au_pure ?_ | refine au_pass ?_ | refine au_box (fun _ => ?_) | refine au_alloc (fun _ => ?_) | refine au_store ?_ | refine au_make rfl rfl (fun _ => ?_) | refine au_lit rfl rfl rfl (fun _ => ?_) | refine au_append rfl rfl rfl rfl (fun _ => au_norm ?_) | refine au_storeE rfl rfl rfl rfl ?_ | refine tri_seq ?_ | refine tri_then ?_ | refine tri_region ?_ | refine tri_nil ?_ | refine tri_skip ?_ | refine tri_ret ?_ | refine tri_exit ?_ | refine tri_thenr ?_ | refine tri_thene ?_ | refine tri_blkn ?_ | refine tri_blkr ?_ | refine tri_blke ?_ | refine tri_blko (by rfl) ?_ | refine tri_if_t (by rfl) ?_ | refine tri_if_f (by rfl) ?_ | fail))
    refine au_done3 rfl ?_
    exact fun w hw => zero_res3 (m' := CW.zero) hw rfl rfl rfl (by repeat (first | exact List.Sublist.refl _ | assumption | apply List.Sublist.cons_cons | apply List.Sublist.cons))
  rw [fork_yes hk (by omega)]
  obtain ⟨s, rfl⟩ : ∃ k : Nat, s = (k : Int) := ⟨s.toNat, by omega⟩
  simp only [Int.toNat_natCast] at h4 h5 h6 ⊢
  have hx := fun p => hO.at_ (i := s) (j := p)
  have hf2 := hO.f2
  have hs2 := hO.s2
  have hpl := hO.plen s
  have hbd : Bd m.fm 0 4096 := fun j => hO.ctb' j
  (repeat (first | refine au_pure ?_ | refine au_pass ?_ | refine au_box (fun _ => ?_) | refine au_alloc (fun _ => ?_) | refine au_store ?_ | refine au_make rfl rfl (fun _ => ?_) | refine au_lit rfl rfl rfl (fun _ => ?_) | refine au_append rfl rfl rfl rfl (fun _ => au_norm ?_) | refine au_storeE rfl rfl rfl rfl ?_ | refine tri_seq ?_ | refine tri_then ?_ | refine tri_region ?_ | refine tri_nil ?_ | refine tri_skip ?_ | refine tri_ret ?_ | refine tri_exit ?_ | refine tri_thenr ?_ | refine tri_thene ?_ | refine tri_blkn ?_ | refine tri_blkr ?_ | refine tri_blke ?_ | refine tri_blko (by rfl) ?_ | refine tri_if_t (by rfl) ?_ | refine tri_if_f (by rfl) ?_ | fail))
  refine au_callC rfl rfl rfl rfl rfl (own_c w0 _ hC.cons.cons hO) ?_
  rintro ⟨r, rs, f, hl⟩
  refine tri_weak (H' := Hp w0 (pgS (rs.getD s (Row.nil 0)) (m.sp.getD s default).pg :: frS f m.fm :: spS r (spx rs m.sp) :: zeC g4 :: cowC g2 m.z vS vF m.cp :: (px rs m.sp s ++ cs))) (fun w h => HpM.perm h (own_focus hl h4)) ?_
  obtain ⟨rp, hrp⟩ : ∃ rp, rp = rs.getD s (Row.nil 0) := ⟨_, rfl⟩
  have hXv : ((spx rs m.sp).getD s default).s.v = (rs.getD s (Row.nil 0)).v := by rw [spx_get hl h4]; rfl
  have hXl := spx_len hl
  rw [← hrp] at hXv ⊢
  obtain ⟨X, hX⟩ : ∃ X, X = spx rs m.sp := ⟨_, rfl⟩
  rw [← hX] at hXv hXl ⊢
  have hug : forkG m s = ⟨m.z, setPs m.sp s ((m.sp.getD s default).pg.map unW) ++ [⟨true, (m.sp.getD s default).pg.map unW⟩], (m.sp.getD s default).pg.foldl incF m.fm, m.cp⟩ := rfl
  rw [hug]
  obtain ⟨Pg, hPg⟩ : ∃ Pg, Pg = (m.sp.getD s default).pg := ⟨_, rfl⟩
  have hxe : ∀ p, pgAt m s p = Pg.getD p default := fun p => by unfold pgAt; rw [hPg]
  rw [← hPg] at h6 hpl ⊢
  simp only [hxe] at hx
  rw [← hPg] at hx
  (repeat (first | refine au_pure ?_ | refine au_pass ?_ | refine au_box (fun _ => ?_) | refine au_alloc (fun _ => ?_) | refine au_store ?_ | refine au_make rfl rfl (fun _ => ?_) | refine au_lit rfl rfl rfl (fun _ => ?_) | refine au_append rfl rfl rfl rfl (fun _ => au_norm ?_) | refine au_storeE rfl rfl rfl rfl ?_ | refine tri_seq ?_ | refine tri_then ?_ | refine tri_region ?_ | refine tri_nil ?_ | refine tri_skip ?_ | refine tri_ret ?_ | refine tri_exit ?_ | refine tri_thenr ?_ | refine tri_thene ?_ | refine tri_blkn ?_ | refine tri_blkr ?_ | refine tri_blke ?_ | refine tri_blko (by rfl) ?_ | refine tri_if_t (by rfl) ?_ | refine tri_if_f (by rfl) ?_ | fail))
  rw [hXv]
  (repeat (first | refine au_pure ?_ | refine au_pass ?_ | refine au_box (fun _ => ?_) | refine au_alloc (fun _ => ?_) | refine au_store ?_ | refine au_make rfl rfl (fun _ => ?_) | refine au_lit rfl rfl rfl (fun _ => ?_) | refine au_append rfl rfl rfl rfl (fun _ => au_norm ?_) | refine au_storeE rfl rfl rfl rfl ?_ | refine tri_seq ?_ | refine tri_then ?_ | refine tri_region ?_ | refine tri_nil ?_ | refine tri_skip ?_ | refine tri_ret ?_ | refine tri_exit ?_ | refine tri_thenr ?_ | refine tri_thene ?_ | refine tri_blkn ?_ | refine tri_blkr ?_ | refine tri_blke ?_ | refine tri_blko (by rfl) ?_ | refine tri_if_t (by rfl) ?_ | refine tri_if_f (by rfl) ?_ | fail))
  refine tri_block ?_
  refine tri_loop1 (fun (i : Nat) => i ≤ Pg.length) (fun i => [(2, .pointer (some ⟨g2, 0, none⟩)), (4, .pointer (some ⟨g4, 0, none⟩)), (8, rp.v), (32, .int .i64 (Pg.length : Int)), (33, .int .i64 (i : Int))])
    (fun i => Hp w0 (pgS rp (upTo unW Pg i) :: frS f ((Pg.take i).foldl incF m.fm) :: spS r X :: zeC g4 :: cowC g2 m.z r.v f.v m.cp :: (px rs m.sp s ++ cs))) (fun i => Pg.length - i)
    0 (by omega) (by repeat (first | exact trivial | refine ⟨rfl, ?_⟩)) (fun w h => by rw [upTo_zero]; exact h) ?_
  intro i hi
  have hUl := upTo_len unW Pg i hi
  have hFl := fold_len inc_len (Pg.take i) m.fm
  have hFb := fold_bd (g := incF) (c := 0) (d := 1) (fun F x a b h => bd_mono (bd_inc h) (by omega) (by omega)) (Pg.take i) m.fm _ _ hbd
  have hFb' : Bd ((Pg.take i).foldl incF m.fm) (-1000000) 1000000 := bd_mono hFb (by omega) (by rw [List.length_take]; omega)
  (repeat (first | refine au_pure ?_ | refine au_pass ?_ | refine au_box (fun _ => ?_) | refine au_alloc (fun _ => ?_) | refine au_store ?_ | refine au_make rfl rfl (fun _ => ?_) | refine au_lit rfl rfl rfl (fun _ => ?_) | refine au_append rfl rfl rfl rfl (fun _ => au_norm ?_) | refine au_storeE rfl rfl rfl rfl ?_ | refine tri_seq ?_ | refine tri_then ?_ | refine tri_region ?_ | refine tri_nil ?_ | refine tri_skip ?_ | refine tri_ret ?_ | refine tri_exit ?_ | refine tri_thenr ?_ | refine tri_thene ?_ | refine tri_blkn ?_ | refine tri_blkr ?_ | refine tri_blke ?_ | refine tri_blko (by rfl) ?_ | refine tri_if_t (by rfl) ?_ | refine tri_if_f (by rfl) ?_ | fail))
  ((first | refine tri_cond (by rfl) (fun hc => ?_) (fun hc => ?_) | refine tri_gsplit (by rfl) (by rfl) (by (fail_if_success exact (rfl : _ = some (Value.bool true))); (fail_if_success exact (rfl : _ = some (Value.bool false))); rfl) (fun hc => ?_) (fun hc => ?_)) <;> (try simp only [decide_eq_true_eq, decide_eq_false_iff_not, beq_iff_eq, bne_iff_ne, ne_eq, Bool.not_eq_true', Bool.not_eq_false', beq_eq_false_iff_ne, bne_eq_false_iff_eq, Int.not_lt, Int.not_le, gt_iff_lt, ge_iff_le, Bool.and_eq_true, Bool.or_eq_true, Bool.and_eq_false_iff, Bool.or_eq_false_iff, Decidable.not_not, not_true_eq_false, not_false_eq_true, and_true, true_and, or_false, false_or, or_true, true_or, and_false, false_and, eq_self, Bool.true_eq_false, Bool.false_eq_true] at hc) <;> (try (exfalso; omega)))
  · (repeat (first | refine au_pure ?_ | refine au_pass ?_ | refine au_box (fun _ => ?_) | refine au_alloc (fun _ => ?_) | refine au_store ?_ | refine au_make rfl rfl (fun _ => ?_) | refine au_lit rfl rfl rfl (fun _ => ?_) | refine au_append rfl rfl rfl rfl (fun _ => au_norm ?_) | refine au_storeE rfl rfl rfl rfl ?_ | refine tri_seq ?_ | refine tri_then ?_ | refine tri_region ?_ | refine tri_nil ?_ | refine tri_skip ?_ | refine tri_ret ?_ | refine tri_exit ?_ | refine tri_thenr ?_ | refine tri_thene ?_ | refine tri_blkn ?_ | refine tri_blkr ?_ | refine tri_blke ?_ | refine tri_blko (by rfl) ?_ | refine tri_if_t (by rfl) ?_ | refine tri_if_f (by rfl) ?_ | fail))
    refine tri_block ?_
    have hUg := upTo_get unW (l := Pg) (i := i) (by omega)
    have hUs := upTo_step unW (l := Pg) (i := i) (y := ⟨(Pg.getD i default).fr, false⟩) (by omega) rfl
    have hFs := foldl_step (g := incF) (b := m.fm) (l := Pg) (i := i) (by omega)
    have hxi := hx i (by omega)
    have hUl2 := upTo_len unW Pg (i + 1) (by omega)
    have hUg2 : ((upTo unW Pg (i + 1)).getD i default).fr = (Pg.getD i default).fr := by rw [← hUs, getD_set_eq (by omega)]
    obtain ⟨x, hx0⟩ : ∃ x, x = Pg.getD i default := ⟨_, rfl⟩
    rw [← hx0] at hUg hUs hFs hxi hUg2
    obtain ⟨U2, hU2⟩ : ∃ U2, U2 = upTo unW Pg (i + 1) := ⟨_, rfl⟩
    rw [← hU2] at hUs hUl2 hUg2
    obtain ⟨U, hU⟩ : ∃ U, U = upTo unW Pg i := ⟨_, rfl⟩
    rw [← hU] at hUl hUs hUg ⊢
    obtain ⟨F, hF⟩ : ∃ F, F = (Pg.take i).foldl incF m.fm := ⟨_, rfl⟩
    rw [← hF] at hFs hFl hFb' ⊢
    have hbx := hFb' x.fr.toNat
    (repeat (first | refine tri_seq ?_ | refine tri_then ?_)); refine tri_region ?_; (repeat (first | refine au_pure ?_ | refine au_pass ?_ | refine au_box (fun _ => ?_) | refine au_alloc (fun _ => ?_) | refine au_store ?_ | refine au_make rfl rfl (fun _ => ?_) | refine au_lit rfl rfl rfl (fun _ => ?_) | refine au_append rfl rfl rfl rfl (fun _ => au_norm ?_) | refine au_storeE rfl rfl rfl rfl ?_)); refine tri_nil ?_; (repeat refine tri_then ?_)
    (repeat (first | refine tri_seq ?_ | refine tri_then ?_)); refine tri_region ?_; (repeat (first | refine au_pure ?_ | refine au_pass ?_ | refine au_box (fun _ => ?_) | refine au_alloc (fun _ => ?_) | refine au_store ?_ | refine au_make rfl rfl (fun _ => ?_) | refine au_lit rfl rfl rfl (fun _ => ?_) | refine au_append rfl rfl rfl rfl (fun _ => au_norm ?_) | refine au_storeE rfl rfl rfl rfl ?_)); refine tri_nil ?_; (repeat refine tri_then ?_)
    refine tri_weak (H' := Hp w0 (pgS rp U2 :: frS f F :: spS r X :: zeC g4 :: cowC g2 m.z r.v f.v m.cp :: (px rs m.sp s ++ cs))) (fun w h => by rw [← hUs, ← hUg]; exact h) ?_
    (repeat (first | refine au_pure ?_ | refine au_pass ?_ | refine au_box (fun _ => ?_) | refine au_alloc (fun _ => ?_) | refine au_store ?_ | refine au_make rfl rfl (fun _ => ?_) | refine au_lit rfl rfl rfl (fun _ => ?_) | refine au_append rfl rfl rfl rfl (fun _ => au_norm ?_) | refine au_storeE rfl rfl rfl rfl ?_ | refine tri_seq ?_ | refine tri_then ?_ | refine tri_region ?_ | refine tri_nil ?_ | refine tri_skip ?_ | refine tri_ret ?_ | refine tri_exit ?_ | refine tri_thenr ?_ | refine tri_thene ?_ | refine tri_blkn ?_ | refine tri_blkr ?_ | refine tri_blke ?_ | refine tri_blko (by rfl) ?_ | refine tri_if_t (by rfl) ?_ | refine tri_if_f (by rfl) ?_ | fail))
    rw [hUg2]
    by_cases h0 : 0 ≤ x.fr
    · rw [decide_eq_true (show x.fr ≥ 0 from h0)]
      have hin : incF F x = F.set x.fr.toNat ⟨(F.getD x.fr.toNat default).ct + 1, (F.getD x.fr.toNat default).wd⟩ := if_pos h0
      (repeat (first | refine au_pure ?_ | refine au_pass ?_ | refine au_box (fun _ => ?_) | refine au_alloc (fun _ => ?_) | refine au_store ?_ | refine au_make rfl rfl (fun _ => ?_) | refine au_lit rfl rfl rfl (fun _ => ?_) | refine au_append rfl rfl rfl rfl (fun _ => au_norm ?_) | refine au_storeE rfl rfl rfl rfl ?_ | refine tri_seq ?_ | refine tri_then ?_ | refine tri_region ?_ | refine tri_nil ?_ | refine tri_skip ?_ | refine tri_ret ?_ | refine tri_exit ?_ | refine tri_thenr ?_ | refine tri_thene ?_ | refine tri_blkn ?_ | refine tri_blkr ?_ | refine tri_blke ?_ | refine tri_blko (by rfl) ?_ | refine tri_if_t (by rfl) ?_ | refine tri_if_f (by rfl) ?_ | fail))
      exact tri_nx1 (i + 1) (by omega) (by omega) (by repeat (first | exact trivial | refine ⟨rfl, ?_⟩)) (fun w h => by rw [← hU2, hFs, hin]; exact h)
    · rw [decide_eq_false (show ¬ x.fr ≥ 0 from h0)]
      have hin : incF F x = F := if_neg h0
      (repeat (first | refine au_pure ?_ | refine au_pass ?_ | refine au_box (fun _ => ?_) | refine au_alloc (fun _ => ?_) | refine au_store ?_ | refine au_make rfl rfl (fun _ => ?_) | refine au_lit rfl rfl rfl (fun _ => ?_) | refine au_append rfl rfl rfl rfl (fun _ => au_norm ?_) | refine au_storeE rfl rfl rfl rfl ?_ | refine tri_seq ?_ | refine tri_then ?_ | refine tri_region ?_ | refine tri_nil ?_ | refine tri_skip ?_ | refine tri_ret ?_ | refine tri_exit ?_ | refine tri_thenr ?_ | refine tri_thene ?_ | refine tri_blkn ?_ | refine tri_blkr ?_ | refine tri_blke ?_ | refine tri_blko (by rfl) ?_ | refine tri_if_t (by rfl) ?_ | refine tri_if_f (by rfl) ?_ | fail))
      exact tri_nx1 (i + 1) (by omega) (by omega) (by repeat (first | exact trivial | refine ⟨rfl, ?_⟩)) (fun w h => by rw [← hU2, hFs, hin]; exact h)
  · have hil : i = Pg.length := by omega
    subst hil
    rw [List.take_length, upTo_end]
    rw [upTo_end] at hUl
    obtain ⟨P1, hP1⟩ : ∃ P1, P1 = Pg.map unW := ⟨_, rfl⟩
    rw [← hP1] at hUl ⊢
    obtain ⟨F, hF⟩ : ∃ F, F = Pg.foldl incF m.fm := ⟨_, rfl⟩
    rw [← hF]
    (repeat (first | refine au_pure ?_ | refine au_pass ?_ | refine au_box (fun _ => ?_) | refine au_alloc (fun _ => ?_) | refine au_store ?_ | refine au_make rfl rfl (fun _ => ?_) | refine au_lit rfl rfl rfl (fun _ => ?_) | refine au_append rfl rfl rfl rfl (fun _ => au_norm ?_) | refine au_storeE rfl rfl rfl rfl ?_ | refine tri_seq ?_ | refine tri_then ?_ | refine tri_region ?_ | refine tri_nil ?_ | refine tri_skip ?_ | refine tri_ret ?_ | refine tri_exit ?_ | refine tri_thenr ?_ | refine tri_thene ?_ | refine tri_blkn ?_ | refine tri_blkr ?_ | refine tri_blke ?_ | refine tri_blko (by rfl) ?_ | refine tri_if_t (by rfl) ?_ | refine tri_if_f (by rfl) ?_ | fail))
    refine ak_held [8] (pgS rp P1 :: frS f F :: zeC g4 :: cowC g2 m.z r.v f.v m.cp :: (px rs m.sp s ++ cs)) rfl ?_
    refine ak_take 0 rfl rfl rfl ?_; refine ak_take 1 rfl rfl rfl ?_; refine ak_take 2 rfl rfl rfl ?_
    refine ak_op 3 rfl ?_
    refine au_callC rfl rfl rfl rfl rfl (clonePG_c w0 _ (l := P1) (by repeat (first | assumption | exact rd_chunk (by first | (apply has_at; (repeat (first | exact at0 | apply atS)); done) | (repeat (first | assumption | apply has_cons))) | apply RdH.cons | refine RdH.cut ?_ rfl (by omega) (by omega))) (by omega)) ?_
    intro rn
    refine tri_nil ?_; refine ak_in ?_
    refine ak_take 4 rfl rfl rfl ?_
    refine ak_op 5 rfl ?_
    refine au_lit rfl rfl rfl (fun rl => ?_)
    refine tri_nil ?_; refine ak_in ?_
    refine ak_op 6 rfl ?_
    refine au_append rfl rfl rfl rfl (fun r2 => au_norm ?_)
    refine tri_nil ?_; refine ak_in ?_
    refine ak_take 7 rfl rfl rfl ?_
    refine ak_op 8 rfl ?_
    refine au_store ?_
    refine tri_nil ?_; refine ak_ink ?_
    refine ak_done ?_
    refine tri_weak (H' := Hp w0 (pgS rn P1 :: pgS rp P1 :: frS f F :: spS r2 (X ++ [⟨true, rn.sv⟩]) :: zeC g4 :: cowC g2 m.z r2.v f.v m.cp :: (px rs m.sp s ++ cs))) (fun w h => HpM.tail h) ?_
    have hYl : (X ++ [(⟨true, rn.sv⟩ : SP)]).length = m.sp.length + 1 := by simp [hXl]
    obtain ⟨Y, hY⟩ : ∃ Y, Y = X ++ [(⟨true, rn.sv⟩ : SP)] := ⟨_, rfl⟩
    rw [← hY] at hYl ⊢
    (repeat (first | refine au_pure ?_ | refine au_pass ?_ | refine au_box (fun _ => ?_) | refine au_alloc (fun _ => ?_) | refine au_store ?_ | refine au_make rfl rfl (fun _ => ?_) | refine au_lit rfl rfl rfl (fun _ => ?_) | refine au_append rfl rfl rfl rfl (fun _ => au_norm ?_) | refine au_storeE rfl rfl rfl rfl ?_ | refine tri_seq ?_ | refine tri_then ?_ | refine tri_region ?_ | refine tri_nil ?_ | refine tri_skip ?_ | refine tri_ret ?_ | refine tri_exit ?_ | refine tri_thenr ?_ | refine tri_thene ?_ | refine tri_blkn ?_ | refine tri_blkr ?_ | refine tri_blke ?_ | refine tri_blko (by rfl) ?_ | refine tri_if_t (by rfl) ?_ | refine tri_if_f (by rfl) ?_ | fail))
    refine ak_held [] (pgS rn P1 :: pgS rp P1 :: frS f F :: spS r2 Y :: cowC g2 m.z r2.v f.v m.cp :: (px rs m.sp s ++ cs)) rfl ?_
    refine ak_take 0 rfl rfl rfl ?_; refine ak_take 1 rfl rfl rfl ?_; refine ak_take 2 rfl rfl rfl ?_; refine ak_take 3 rfl rfl rfl ?_; refine ak_take 4 rfl rfl rfl ?_
    refine ak_op 5 rfl ?_
    refine au_store ?_
    refine tri_nil ?_; refine ak_in ?_
    refine ak_take 6 rfl rfl rfl ?_; refine ak_take 7 rfl rfl rfl ?_
    refine ak_done ?_
    (repeat (first | refine au_pure ?_ | refine au_pass ?_ | refine au_box (fun _ => ?_) | refine au_alloc (fun _ => ?_) | refine au_store ?_ | refine au_make rfl rfl (fun _ => ?_) | refine au_lit rfl rfl rfl (fun _ => ?_) | refine au_append rfl rfl rfl rfl (fun _ => au_norm ?_) | refine au_storeE rfl rfl rfl rfl ?_ | refine tri_seq ?_ | refine tri_then ?_ | refine tri_region ?_ | refine tri_nil ?_ | refine tri_skip ?_ | refine tri_ret ?_ | refine tri_exit ?_ | refine tri_thenr ?_ | refine tri_thene ?_ | refine tri_blkn ?_ | refine tri_blkr ?_ | refine tri_blke ?_ | refine tri_blko (by rfl) ?_ | refine tri_if_t (by rfl) ?_ | refine tri_if_f (by rfl) ?_ | fail))
    rw [show (Y.length : Int) - 1 = (m.sp.length : Int) by omega]
    refine au_done3 rfl ?_
    intro w hw
    refine ⟨⟨r2, rs ++ [rn], f, by unfold setPs; simp [hl]⟩, rfl, ?_⟩
    refine fin_fork w0 cs (rp := rp) (X := X) hl h4 hX hrp ?_
    rw [← hY]
    exact hw.sub (((List.Sublist.refl _).cons _ |>.cons _).cons_cons _ |>.cons_cons _ |>.cons_cons _ |>.cons_cons _)
end
end Go.Proofs.Ytinnkclemjognaa
