/- The walks of the reference of cow: Same, New. No conditions. -/
import Derived.Test.YtinnkclemjognaaCowOps
set_option linter.unusedSimpArgs false
set_option linter.unusedVariables false
namespace Go.Proofs.Ytinnkclemjognaa
open Go Go.RowKit
attribute [local irreducible] Code.wp wpList bodyPost Exit.then Exit.inBlock Calls wpQuiet Tri TriQ
theorem cs_ne {a b : CS} {k : Nat} (h : a.pg.getD k default ≠ b.pg.getD k default) : a ≠ b := fun e => h (by rw [e])
theorem cs_eq {a b : CS} (h0 : a.lv = b.lv) (h1 : a.pg.length = b.pg.length) (h2 : ∀ k, k < a.pg.length → a.pg.getD k default = b.pg.getD k default) : a = b := by
  cases a; cases b
  simp only at h0
  subst h0
  congr 1
  exact ext_getD h1 h2
theorem pg_neq {a b : PG} (h : (!(a.fr == b.fr && a.wr == b.wr)) = true) : a ≠ b := fun e => by subst e; simp at h
theorem pg_eq {a b : PG} (h : (!(a.fr == b.fr && a.wr == b.wr)) = false) : a = b := by
  cases a; cases b; simp at h; simp [h]
theorem fr_neq {a b : FR} (h : (!(a.ct == b.ct && a.wd == b.wd)) = true) : a ≠ b := fun e => by subst e; simp at h
theorem fr_eq {a b : FR} (h : (!(a.ct == b.ct && a.wd == b.wd)) = false) : a = b := by
  cases a; cases b; simp at h; simp [h]
section
variable (w0 : World) (cs : List Chunk)
set_option maxHeartbeats 2000000 in
theorem rsame_c {vS vF vS' vF' : Value} {xs xs' : List SP} {m m' : CW} (hC : RdC (Hp w0 cs) vS vF xs m) (hD : RdC (Hp w0 cs) vS' vF' xs' m') (hL : CLe m) (hL' : CLe m') :
    Cal Try.prog 17 [cowV m.z vS vF m.cp, cowV m'.z vS' vF' m'.cp] (Hp w0 cs) (fun _ : Unit => .bool (decide (m = m'))) (fun _ => Hp w0 cs) := by
  have hvl := hC.len
  have hRo := hC.out
  have hRf := hC.fr
  have hvl' := hD.len
  have hRo' := hD.out
  have hRf' := hD.fr
  have hl1 := hL.sp
  have hl2 := hL.fm
  refine cal_of_tri Try.func17 rfl Try.ntmps17 rfl ?_
  (repeat (first | refine tri_seq ?_ | refine tri_then ?_)); refine tri_region ?_; (repeat (first | refine au_pure ?_ | refine au_pass ?_ | refine au_box (fun _ => ?_) | refine au_alloc (fun _ => ?_) | refine au_store ?_ | refine au_make rfl rfl (fun _ => ?_) | refine au_lit rfl rfl rfl (fun _ => ?_) | refine au_append rfl rfl rfl rfl (fun _ => au_norm ?_) | refine au_storeE rfl rfl rfl rfl ?_)); refine tri_nil ?_; (repeat refine tri_then ?_)
  rename_i g2 g3
  (repeat (first | refine tri_seq ?_ | refine tri_then ?_))
  refine tri_cut1 (fun b => b = (m.z != m'.z || m.cp != m'.cp || (m.sp.length : Int) != (m'.sp.length : Int) || (m.fm.length : Int) != (m'.fm.length : Int))) (fun b => [(2, .pointer (some ⟨g2, 0, none⟩)), (3, .pointer (some ⟨g3, 0, none⟩)), (39, .bool b)])
    (fun b => Hp w0 (cowC g3 m'.z vS' vF' m'.cp :: cowC g2 m.z vS vF m.cp :: cs)) ?_ ?_
  · (repeat (first | refine au_pure ?_ | refine au_pass ?_ | refine au_box (fun _ => ?_) | refine au_alloc (fun _ => ?_) | refine au_store ?_ | refine au_make rfl rfl (fun _ => ?_) | refine au_lit rfl rfl rfl (fun _ => ?_) | refine au_append rfl rfl rfl rfl (fun _ => au_norm ?_) | refine au_storeE rfl rfl rfl rfl ?_ | refine tri_seq ?_ | refine tri_then ?_ | refine tri_region ?_ | refine tri_nil ?_ | refine tri_skip ?_ | refine tri_ret ?_ | refine tri_exit ?_ | refine tri_thenr ?_ | refine tri_thene ?_ | refine tri_blkn ?_ | refine tri_blkr ?_ | refine tri_blke ?_ | refine tri_blko (by rfl) ?_ | refine tri_if_t (by rfl) ?_ | refine tri_if_f (by rfl) ?_ | fail))
    rw [← hvl, ← hvl']
    cases hd1 : (m.z != m'.z)
    · (repeat (first | refine au_pure ?_ | refine au_pass ?_ | refine au_box (fun _ => ?_) | refine au_alloc (fun _ => ?_) | refine au_store ?_ | refine au_make rfl rfl (fun _ => ?_) | refine au_lit rfl rfl rfl (fun _ => ?_) | refine au_append rfl rfl rfl rfl (fun _ => au_norm ?_) | refine au_storeE rfl rfl rfl rfl ?_ | refine tri_seq ?_ | refine tri_then ?_ | refine tri_region ?_ | refine tri_nil ?_ | refine tri_skip ?_ | refine tri_ret ?_ | refine tri_exit ?_ | refine tri_thenr ?_ | refine tri_thene ?_ | refine tri_blkn ?_ | refine tri_blkr ?_ | refine tri_blke ?_ | refine tri_blko (by rfl) ?_ | refine tri_if_t (by rfl) ?_ | refine tri_if_f (by rfl) ?_ | fail))
      cases hd2 : (m.cp != m'.cp)
      · (repeat (first | refine au_pure ?_ | refine au_pass ?_ | refine au_box (fun _ => ?_) | refine au_alloc (fun _ => ?_) | refine au_store ?_ | refine au_make rfl rfl (fun _ => ?_) | refine au_lit rfl rfl rfl (fun _ => ?_) | refine au_append rfl rfl rfl rfl (fun _ => au_norm ?_) | refine au_storeE rfl rfl rfl rfl ?_ | refine tri_seq ?_ | refine tri_then ?_ | refine tri_region ?_ | refine tri_nil ?_ | refine tri_skip ?_ | refine tri_ret ?_ | refine tri_exit ?_ | refine tri_thenr ?_ | refine tri_thene ?_ | refine tri_blkn ?_ | refine tri_blkr ?_ | refine tri_blke ?_ | refine tri_blko (by rfl) ?_ | refine tri_if_t (by rfl) ?_ | refine tri_if_f (by rfl) ?_ | fail))
        cases hd3 : ((xs.length : Int) != (xs'.length : Int))
        · (repeat (first | refine au_pure ?_ | refine au_pass ?_ | refine au_box (fun _ => ?_) | refine au_alloc (fun _ => ?_) | refine au_store ?_ | refine au_make rfl rfl (fun _ => ?_) | refine au_lit rfl rfl rfl (fun _ => ?_) | refine au_append rfl rfl rfl rfl (fun _ => au_norm ?_) | refine au_storeE rfl rfl rfl rfl ?_ | refine tri_seq ?_ | refine tri_then ?_ | refine tri_region ?_ | refine tri_nil ?_ | refine tri_skip ?_ | refine tri_ret ?_ | refine tri_exit ?_ | refine tri_thenr ?_ | refine tri_thene ?_ | refine tri_blkn ?_ | refine tri_blkr ?_ | refine tri_blke ?_ | refine tri_blko (by rfl) ?_ | refine tri_if_t (by rfl) ?_ | refine tri_if_f (by rfl) ?_ | fail))
          exact tri_mt1 ((m.fm.length : Int) != (m'.fm.length : Int)) (by simp) (by repeat (first | exact trivial | refine ⟨rfl, ?_⟩)) (fun _ h => h)
        · (repeat (first | refine au_pure ?_ | refine au_pass ?_ | refine au_box (fun _ => ?_) | refine au_alloc (fun _ => ?_) | refine au_store ?_ | refine au_make rfl rfl (fun _ => ?_) | refine au_lit rfl rfl rfl (fun _ => ?_) | refine au_append rfl rfl rfl rfl (fun _ => au_norm ?_) | refine au_storeE rfl rfl rfl rfl ?_ | refine tri_seq ?_ | refine tri_then ?_ | refine tri_region ?_ | refine tri_nil ?_ | refine tri_skip ?_ | refine tri_ret ?_ | refine tri_exit ?_ | refine tri_thenr ?_ | refine tri_thene ?_ | refine tri_blkn ?_ | refine tri_blkr ?_ | refine tri_blke ?_ | refine tri_blko (by rfl) ?_ | refine tri_if_t (by rfl) ?_ | refine tri_if_f (by rfl) ?_ | fail))
          exact tri_mt1 true (by simp) (by repeat (first | exact trivial | refine ⟨rfl, ?_⟩)) (fun _ h => h)
      · (repeat (first | refine au_pure ?_ | refine au_pass ?_ | refine au_box (fun _ => ?_) | refine au_alloc (fun _ => ?_) | refine au_store ?_ | refine au_make rfl rfl (fun _ => ?_) | refine au_lit rfl rfl rfl (fun _ => ?_) | refine au_append rfl rfl rfl rfl (fun _ => au_norm ?_) | refine au_storeE rfl rfl rfl rfl ?_ | refine tri_seq ?_ | refine tri_then ?_ | refine tri_region ?_ | refine tri_nil ?_ | refine tri_skip ?_ | refine tri_ret ?_ | refine tri_exit ?_ | refine tri_thenr ?_ | refine tri_thene ?_ | refine tri_blkn ?_ | refine tri_blkr ?_ | refine tri_blke ?_ | refine tri_blko (by rfl) ?_ | refine tri_if_t (by rfl) ?_ | refine tri_if_f (by rfl) ?_ | fail))
        exact tri_mt1 true (by simp) (by repeat (first | exact trivial | refine ⟨rfl, ?_⟩)) (fun _ h => h)
    · (repeat (first | refine au_pure ?_ | refine au_pass ?_ | refine au_box (fun _ => ?_) | refine au_alloc (fun _ => ?_) | refine au_store ?_ | refine au_make rfl rfl (fun _ => ?_) | refine au_lit rfl rfl rfl (fun _ => ?_) | refine au_append rfl rfl rfl rfl (fun _ => au_norm ?_) | refine au_storeE rfl rfl rfl rfl ?_ | refine tri_seq ?_ | refine tri_then ?_ | refine tri_region ?_ | refine tri_nil ?_ | refine tri_skip ?_ | refine tri_ret ?_ | refine tri_exit ?_ | refine tri_thenr ?_ | refine tri_thene ?_ | refine tri_blkn ?_ | refine tri_blkr ?_ | refine tri_blke ?_ | refine tri_blko (by rfl) ?_ | refine tri_if_t (by rfl) ?_ | refine tri_if_f (by rfl) ?_ | fail))
      exact tri_mt1 true (by simp) (by repeat (first | exact trivial | refine ⟨rfl, ?_⟩)) (fun _ h => h)
  intro b hb
  cases b with
  | true =>
    have hne : m ≠ m' := fun e => by subst e; simp at hb
    (repeat (first | refine au_pure ?_ | refine au_pass ?_ | refine au_box (fun _ => ?_) | refine au_alloc (fun _ => ?_) | refine au_store ?_ | refine au_make rfl rfl (fun _ => ?_) | refine au_lit rfl rfl rfl (fun _ => ?_) | refine au_append rfl rfl rfl rfl (fun _ => au_norm ?_) | refine au_storeE rfl rfl rfl rfl ?_ | refine tri_seq ?_ | refine tri_then ?_ | refine tri_region ?_ | refine tri_nil ?_ | refine tri_skip ?_ | refine tri_ret ?_ | refine tri_exit ?_ | refine tri_thenr ?_ | refine tri_thene ?_ | refine tri_blkn ?_ | refine tri_blkr ?_ | refine tri_blke ?_ | refine tri_blko (by rfl) ?_ | refine tri_if_t (by rfl) ?_ | refine tri_if_f (by rfl) ?_ | fail))
    refine au_done1 rfl ?_
    intro w hw; refine ⟨(), ?_, hw.sub (by repeat (first | exact List.Sublist.refl _ | assumption | apply List.Sublist.cons_cons | apply List.Sublist.cons))⟩
    rw [decide_eq_false hne]
  | false =>
    have hb' := hb.symm
    simp only [Bool.or_eq_false_iff, bne_eq_false_iff_eq] at hb'
    obtain ⟨⟨⟨hz, hcp⟩, hsl⟩, hfl⟩ := hb'
    have hsl : m.sp.length = m'.sp.length := by omega
    have hfl : m.fm.length = m'.fm.length := by omega
    (repeat (first | refine au_pure ?_ | refine au_pass ?_ | refine au_box (fun _ => ?_) | refine au_alloc (fun _ => ?_) | refine au_store ?_ | refine au_make rfl rfl (fun _ => ?_) | refine au_lit rfl rfl rfl (fun _ => ?_) | refine au_append rfl rfl rfl rfl (fun _ => au_norm ?_) | refine au_storeE rfl rfl rfl rfl ?_ | refine tri_seq ?_ | refine tri_then ?_ | refine tri_region ?_ | refine tri_nil ?_ | refine tri_skip ?_ | refine tri_ret ?_ | refine tri_exit ?_ | refine tri_thenr ?_ | refine tri_thene ?_ | refine tri_blkn ?_ | refine tri_blkr ?_ | refine tri_blke ?_ | refine tri_blko (by rfl) ?_ | refine tri_if_t (by rfl) ?_ | refine tri_if_f (by rfl) ?_ | fail))
    refine tri_block ?_
    refine tri_loop1 (fun (i : Nat) => i ≤ m.sp.length ∧ ∀ j, j < i → m.sp.getD j default = m'.sp.getD j default) (fun i => [(2, .pointer (some ⟨g2, 0, none⟩)), (3, .pointer (some ⟨g3, 0, none⟩)), (5, .int .i64 (i : Int))]) (fun i => Hp w0 (cowC g3 m'.z vS' vF' m'.cp :: cowC g2 m.z vS vF m.cp :: cs)) (fun i => m.sp.length - i)
      0 ⟨by omega, fun j hj => by omega⟩ (by repeat (first | exact trivial | refine ⟨rfl, ?_⟩)) (fun w h => h.sub (by repeat (first | exact List.Sublist.refl _ | assumption | apply List.Sublist.cons_cons | apply List.Sublist.cons))) ?_
    rintro i ⟨hi, hp⟩
    (repeat (first | refine au_pure ?_ | refine au_pass ?_ | refine au_box (fun _ => ?_) | refine au_alloc (fun _ => ?_) | refine au_store ?_ | refine au_make rfl rfl (fun _ => ?_) | refine au_lit rfl rfl rfl (fun _ => ?_) | refine au_append rfl rfl rfl rfl (fun _ => au_norm ?_) | refine au_storeE rfl rfl rfl rfl ?_ | refine tri_seq ?_ | refine tri_then ?_ | refine tri_region ?_ | refine tri_nil ?_ | refine tri_skip ?_ | refine tri_ret ?_ | refine tri_exit ?_ | refine tri_thenr ?_ | refine tri_thene ?_ | refine tri_blkn ?_ | refine tri_blkr ?_ | refine tri_blke ?_ | refine tri_blko (by rfl) ?_ | refine tri_if_t (by rfl) ?_ | refine tri_if_f (by rfl) ?_ | fail))
    ((first | refine tri_cond (by rfl) (fun hc => ?_) (fun hc => ?_) | refine tri_gsplit (by rfl) (by rfl) (by (fail_if_success exact (rfl : _ = some (Value.bool true))); (fail_if_success exact (rfl : _ = some (Value.bool false))); rfl) (fun hc => ?_) (fun hc => ?_)) <;> (try simp only [decide_eq_true_eq, decide_eq_false_iff_not, beq_iff_eq, bne_iff_ne, ne_eq, Bool.not_eq_true', Bool.not_eq_false', beq_eq_false_iff_ne, bne_eq_false_iff_eq, Int.not_lt, Int.not_le, gt_iff_lt, ge_iff_le, Bool.and_eq_true, Bool.or_eq_true, Bool.and_eq_false_iff, Bool.or_eq_false_iff, Decidable.not_not, not_true_eq_false, not_false_eq_true, and_true, true_and, or_false, false_or, or_true, true_or, and_false, false_and, eq_self, Bool.true_eq_false, Bool.false_eq_true] at hc) <;> (try (exfalso; omega)))
    · (repeat (first | refine au_pure ?_ | refine au_pass ?_ | refine au_box (fun _ => ?_) | refine au_alloc (fun _ => ?_) | refine au_store ?_ | refine au_make rfl rfl (fun _ => ?_) | refine au_lit rfl rfl rfl (fun _ => ?_) | refine au_append rfl rfl rfl rfl (fun _ => au_norm ?_) | refine au_storeE rfl rfl rfl rfl ?_ | refine tri_seq ?_ | refine tri_then ?_ | refine tri_region ?_ | refine tri_nil ?_ | refine tri_skip ?_ | refine tri_ret ?_ | refine tri_exit ?_ | refine tri_thenr ?_ | refine tri_thene ?_ | refine tri_blkn ?_ | refine tri_blkr ?_ | refine tri_blke ?_ | refine tri_blko (by rfl) ?_ | refine tri_if_t (by rfl) ?_ | refine tri_if_f (by rfl) ?_ | fail))
      refine tri_block ?_
      have hpg := hC.pg i
      have hlv := hC.lv i
      have hpg' := hD.pg i
      have hlv' := hD.lv i
      have hpl := hL.pg i
      have hno : m.sp.getD i default ≠ m'.sp.getD i default → decide (m = m') = false := fun h => decide_eq_false fun e => h (by rw [e])
      obtain ⟨x, hx⟩ : ∃ x, x = xs.getD i default := ⟨_, rfl⟩
      obtain ⟨x', hx'⟩ : ∃ x', x' = xs'.getD i default := ⟨_, rfl⟩
      rw [← hx] at hpg hlv
      rw [← hx'] at hpg' hlv'
      obtain ⟨s, hs⟩ : ∃ s, s = m.sp.getD i default := ⟨_, rfl⟩
      obtain ⟨s', hs'⟩ : ∃ s', s' = m'.sp.getD i default := ⟨_, rfl⟩
      rw [← hs] at hpg hlv hno hpl
      rw [← hs'] at hpg' hlv' hno
      (repeat (first | refine tri_seq ?_ | refine tri_then ?_))
      refine tri_cut2 (fun (g6 g7 : Nat) => True) (fun g6 g7 => [(2, .pointer (some ⟨g2, 0, none⟩)), (3, .pointer (some ⟨g3, 0, none⟩)), (5, .int .i64 (i : Int)), (6, .pointer (some ⟨g6, 0, none⟩)), (7, .pointer (some ⟨g7, 0, none⟩))])
        (fun g6 g7 => Hp w0 (spC g6 x :: spC g7 x' :: cowC g3 m'.z vS' vF' m'.cp :: cowC g2 m.z vS vF m.cp :: cs)) ?_ ?_
      · refine ak_held [] (cowC g3 m'.z vS' vF' m'.cp :: cowC g2 m.z vS vF m.cp :: cs) rfl ?_
        refine ak_take 0 rfl rfl rfl ?_; refine ak_take 1 rfl rfl rfl ?_; refine ak_take 2 rfl rfl rfl ?_; refine ak_take 3 rfl rfl rfl ?_; refine ak_take 4 rfl rfl rfl ?_; refine ak_take 5 rfl rfl rfl ?_; refine ak_take 6 rfl rfl rfl ?_; refine ak_take 7 rfl rfl rfl ?_; refine ak_take 8 rfl rfl rfl ?_; refine ak_take 9 rfl rfl rfl ?_
        rw [← hx, ← hx']
        refine ak_op2 10 11 rfl rfl ?_ ?_
        · refine au_alloc (fun g6 => ?_)
          refine tri_nil ?_; refine ak_in ?_
          refine ak_op 11 rfl ?_
          refine au_alloc (fun g7 => ?_)
          refine tri_nil ?_; refine ak_in ?_
          refine ak_op 12 rfl ?_
          refine au_store ?_
          refine tri_nil ?_; refine ak_in ?_
          refine ak_op 13 rfl ?_
          refine au_store ?_
          refine tri_nil ?_; refine ak_in ?_
          refine ak_done ?_
          refine tri_then ?_
          exact tri_mt2 g6 g7 trivial (by repeat (first | exact trivial | refine ⟨rfl, ?_⟩)) (fun _ h => HpM.perm h (List.Perm.swap _ _ _))
        · refine au_alloc (fun g7 => ?_)
          refine tri_nil ?_; refine ak_in ?_
          refine ak_op 10 rfl ?_
          refine au_alloc (fun g6 => ?_)
          refine tri_nil ?_; refine ak_in ?_
          refine ak_op 12 rfl ?_
          refine au_store ?_
          refine tri_nil ?_; refine ak_in ?_
          refine ak_op 13 rfl ?_
          refine au_store ?_
          refine tri_nil ?_; refine ak_in ?_
          refine ak_done ?_
          refine tri_then ?_
          exact tri_mt2 g6 g7 trivial (by repeat (first | exact trivial | refine ⟨rfl, ?_⟩)) (fun _ h => h)
      intro g6 g7 _
      (repeat (first | refine tri_seq ?_ | refine tri_then ?_))
      refine tri_cut1 (fun b => b = (s.lv != s'.lv || (s.pg.length : Int) != (s'.pg.length : Int))) (fun b => [(2, .pointer (some ⟨g2, 0, none⟩)), (3, .pointer (some ⟨g3, 0, none⟩)), (5, .int .i64 (i : Int)), (6, .pointer (some ⟨g6, 0, none⟩)), (7, .pointer (some ⟨g7, 0, none⟩)), (70, .bool b)])
        (fun b => Hp w0 (spC g6 x :: spC g7 x' :: cowC g3 m'.z vS' vF' m'.cp :: cowC g2 m.z vS vF m.cp :: cs)) ?_ ?_
      · (repeat (first | refine au_pure ?_ | refine au_pass ?_ | refine au_box (fun _ => ?_) | refine au_alloc (fun _ => ?_) | refine au_store ?_ | refine au_make rfl rfl (fun _ => ?_) | refine au_lit rfl rfl rfl (fun _ => ?_) | refine au_append rfl rfl rfl rfl (fun _ => au_norm ?_) | refine au_storeE rfl rfl rfl rfl ?_ | refine tri_seq ?_ | refine tri_then ?_ | refine tri_region ?_ | refine tri_nil ?_ | refine tri_skip ?_ | refine tri_ret ?_ | refine tri_exit ?_ | refine tri_thenr ?_ | refine tri_thene ?_ | refine tri_blkn ?_ | refine tri_blkr ?_ | refine tri_blke ?_ | refine tri_blko (by rfl) ?_ | refine tri_if_t (by rfl) ?_ | refine tri_if_f (by rfl) ?_ | fail))
        rw [← hlv, ← hlv']
        cases hd1 : (x.lv != x'.lv)
        · (repeat (first | refine au_pure ?_ | refine au_pass ?_ | refine au_box (fun _ => ?_) | refine au_alloc (fun _ => ?_) | refine au_store ?_ | refine au_make rfl rfl (fun _ => ?_) | refine au_lit rfl rfl rfl (fun _ => ?_) | refine au_append rfl rfl rfl rfl (fun _ => au_norm ?_) | refine au_storeE rfl rfl rfl rfl ?_ | refine tri_seq ?_ | refine tri_then ?_ | refine tri_region ?_ | refine tri_nil ?_ | refine tri_skip ?_ | refine tri_ret ?_ | refine tri_exit ?_ | refine tri_thenr ?_ | refine tri_thene ?_ | refine tri_blkn ?_ | refine tri_blkr ?_ | refine tri_blke ?_ | refine tri_blko (by rfl) ?_ | refine tri_if_t (by rfl) ?_ | refine tri_if_f (by rfl) ?_ | fail))
          exact tri_mt1 ((s.pg.length : Int) != (s'.pg.length : Int)) (by simp) (by repeat (first | exact trivial | refine ⟨rfl, ?_⟩)) (fun _ h => h.sub (by repeat (first | exact List.Sublist.refl _ | assumption | apply List.Sublist.cons_cons | apply List.Sublist.cons)))
        · (repeat (first | refine au_pure ?_ | refine au_pass ?_ | refine au_box (fun _ => ?_) | refine au_alloc (fun _ => ?_) | refine au_store ?_ | refine au_make rfl rfl (fun _ => ?_) | refine au_lit rfl rfl rfl (fun _ => ?_) | refine au_append rfl rfl rfl rfl (fun _ => au_norm ?_) | refine au_storeE rfl rfl rfl rfl ?_ | refine tri_seq ?_ | refine tri_then ?_ | refine tri_region ?_ | refine tri_nil ?_ | refine tri_skip ?_ | refine tri_ret ?_ | refine tri_exit ?_ | refine tri_thenr ?_ | refine tri_thene ?_ | refine tri_blkn ?_ | refine tri_blkr ?_ | refine tri_blke ?_ | refine tri_blko (by rfl) ?_ | refine tri_if_t (by rfl) ?_ | refine tri_if_f (by rfl) ?_ | fail))
          exact tri_mt1 true (by simp) (by repeat (first | exact trivial | refine ⟨rfl, ?_⟩)) (fun _ h => h.sub (by repeat (first | exact List.Sublist.refl _ | assumption | apply List.Sublist.cons_cons | apply List.Sublist.cons)))
      intro b hb
      cases b with
      | true =>
        (repeat (first | refine au_pure ?_ | refine au_pass ?_ | refine au_box (fun _ => ?_) | refine au_alloc (fun _ => ?_) | refine au_store ?_ | refine au_make rfl rfl (fun _ => ?_) | refine au_lit rfl rfl rfl (fun _ => ?_) | refine au_append rfl rfl rfl rfl (fun _ => au_norm ?_) | refine au_storeE rfl rfl rfl rfl ?_ | refine tri_seq ?_ | refine tri_then ?_ | refine tri_region ?_ | refine tri_nil ?_ | refine tri_skip ?_ | refine tri_ret ?_ | refine tri_exit ?_ | refine tri_thenr ?_ | refine tri_thene ?_ | refine tri_blkn ?_ | refine tri_blkr ?_ | refine tri_blke ?_ | refine tri_blko (by rfl) ?_ | refine tri_if_t (by rfl) ?_ | refine tri_if_f (by rfl) ?_ | fail))
        refine au_done1 rfl ?_
        intro w hw; refine ⟨(), ?_, hw.sub (by repeat (first | exact List.Sublist.refl _ | assumption | apply List.Sublist.cons_cons | apply List.Sublist.cons))⟩
        rw [hno fun e => by rw [e] at hb; simp at hb]
      | false =>
        have hb' := hb.symm
        simp only [Bool.or_eq_false_iff, bne_eq_false_iff_eq] at hb'
        have hsp : s.pg.length = s'.pg.length := by omega
        (repeat (first | refine au_pure ?_ | refine au_pass ?_ | refine au_box (fun _ => ?_) | refine au_alloc (fun _ => ?_) | refine au_store ?_ | refine au_make rfl rfl (fun _ => ?_) | refine au_lit rfl rfl rfl (fun _ => ?_) | refine au_append rfl rfl rfl rfl (fun _ => au_norm ?_) | refine au_storeE rfl rfl rfl rfl ?_ | refine tri_seq ?_ | refine tri_then ?_ | refine tri_region ?_ | refine tri_nil ?_ | refine tri_skip ?_ | refine tri_ret ?_ | refine tri_exit ?_ | refine tri_thenr ?_ | refine tri_thene ?_ | refine tri_blkn ?_ | refine tri_blkr ?_ | refine tri_blke ?_ | refine tri_blko (by rfl) ?_ | refine tri_if_t (by rfl) ?_ | refine tri_if_f (by rfl) ?_ | fail))
        refine tri_block ?_
        refine tri_loop1 (fun (k : Nat) => k ≤ s.pg.length ∧ ∀ j, j < k → s.pg.getD j default = s'.pg.getD j default) (fun k => [(2, .pointer (some ⟨g2, 0, none⟩)), (3, .pointer (some ⟨g3, 0, none⟩)), (5, .int .i64 (i : Int)), (6, .pointer (some ⟨g6, 0, none⟩)), (7, .pointer (some ⟨g7, 0, none⟩)), (8, .int .i64 (k : Int))]) (fun k => Hp w0 (spC g6 x :: spC g7 x' :: cowC g3 m'.z vS' vF' m'.cp :: cowC g2 m.z vS vF m.cp :: cs)) (fun k => s.pg.length - k)
          0 ⟨by omega, fun j hj => by omega⟩ (by repeat (first | exact trivial | refine ⟨rfl, ?_⟩)) (fun w h => h.sub (by repeat (first | exact List.Sublist.refl _ | assumption | apply List.Sublist.cons_cons | apply List.Sublist.cons))) ?_
        rintro k ⟨hk, hq⟩
        (repeat (first | refine au_pure ?_ | refine au_pass ?_ | refine au_box (fun _ => ?_) | refine au_alloc (fun _ => ?_) | refine au_store ?_ | refine au_make rfl rfl (fun _ => ?_) | refine au_lit rfl rfl rfl (fun _ => ?_) | refine au_append rfl rfl rfl rfl (fun _ => au_norm ?_) | refine au_storeE rfl rfl rfl rfl ?_ | refine tri_seq ?_ | refine tri_then ?_ | refine tri_region ?_ | refine tri_nil ?_ | refine tri_skip ?_ | refine tri_ret ?_ | refine tri_exit ?_ | refine tri_thenr ?_ | refine tri_thene ?_ | refine tri_blkn ?_ | refine tri_blkr ?_ | refine tri_blke ?_ | refine tri_blko (by rfl) ?_ | refine tri_if_t (by rfl) ?_ | refine tri_if_f (by rfl) ?_ | fail))
        ((first | refine tri_cond (by rfl) (fun hc => ?_) (fun hc => ?_) | refine tri_gsplit (by rfl) (by rfl) (by (fail_if_success exact (rfl : _ = some (Value.bool true))); (fail_if_success exact (rfl : _ = some (Value.bool false))); rfl) (fun hc => ?_) (fun hc => ?_)) <;> (try simp only [decide_eq_true_eq, decide_eq_false_iff_not, beq_iff_eq, bne_iff_ne, ne_eq, Bool.not_eq_true', Bool.not_eq_false', beq_eq_false_iff_ne, bne_eq_false_iff_eq, Int.not_lt, Int.not_le, gt_iff_lt, ge_iff_le, Bool.and_eq_true, Bool.or_eq_true, Bool.and_eq_false_iff, Bool.or_eq_false_iff, Decidable.not_not, not_true_eq_false, not_false_eq_true, and_true, true_and, or_false, false_or, or_true, true_or, and_false, false_and, eq_self, Bool.true_eq_false, Bool.false_eq_true] at hc) <;> (try (exfalso; omega)))
        · (repeat (first | refine au_pure ?_ | refine au_pass ?_ | refine au_box (fun _ => ?_) | refine au_alloc (fun _ => ?_) | refine au_store ?_ | refine au_make rfl rfl (fun _ => ?_) | refine au_lit rfl rfl rfl (fun _ => ?_) | refine au_append rfl rfl rfl rfl (fun _ => au_norm ?_) | refine au_storeE rfl rfl rfl rfl ?_ | refine tri_seq ?_ | refine tri_then ?_ | refine tri_region ?_ | refine tri_nil ?_ | refine tri_skip ?_ | refine tri_ret ?_ | refine tri_exit ?_ | refine tri_thenr ?_ | refine tri_thene ?_ | refine tri_blkn ?_ | refine tri_blkr ?_ | refine tri_blke ?_ | refine tri_blko (by rfl) ?_ | refine tri_if_t (by rfl) ?_ | refine tri_if_f (by rfl) ?_ | fail))
          refine tri_block ?_
          (repeat (first | refine tri_seq ?_ | refine tri_then ?_))
          refine au_draw rfl ?_
          (repeat (first | refine au_qpure rfl rfl ?_ | refine au_qpass rfl rfl ?_ | refine triq_nil ?_))
          obtain ⟨y, hy⟩ : ∃ y, y = s.pg.getD k default := ⟨_, rfl⟩
          obtain ⟨y', hy'⟩ : ∃ y', y' = s'.pg.getD k default := ⟨_, rfl⟩
          rw [← hy, ← hy']
          cases hd : (!(y.fr == y'.fr && y.wr == y'.wr))
          · (repeat (first | refine au_pure ?_ | refine au_pass ?_ | refine au_box (fun _ => ?_) | refine au_alloc (fun _ => ?_) | refine au_store ?_ | refine au_make rfl rfl (fun _ => ?_) | refine au_lit rfl rfl rfl (fun _ => ?_) | refine au_append rfl rfl rfl rfl (fun _ => au_norm ?_) | refine au_storeE rfl rfl rfl rfl ?_ | refine tri_seq ?_ | refine tri_then ?_ | refine tri_region ?_ | refine tri_nil ?_ | refine tri_skip ?_ | refine tri_ret ?_ | refine tri_exit ?_ | refine tri_thenr ?_ | refine tri_thene ?_ | refine tri_blkn ?_ | refine tri_blkr ?_ | refine tri_blke ?_ | refine tri_blko (by rfl) ?_ | refine tri_if_t (by rfl) ?_ | refine tri_if_f (by rfl) ?_ | fail))
            exact tri_nx1 (k + 1) (by omega) ⟨by omega, all_step' hq (by rw [← hy, ← hy']; exact pg_eq hd)⟩ (by repeat (first | exact trivial | refine ⟨rfl, ?_⟩)) (fun w h => h.sub (by repeat (first | exact List.Sublist.refl _ | assumption | apply List.Sublist.cons_cons | apply List.Sublist.cons)))
          · (repeat (first | refine au_pure ?_ | refine au_pass ?_ | refine au_box (fun _ => ?_) | refine au_alloc (fun _ => ?_) | refine au_store ?_ | refine au_make rfl rfl (fun _ => ?_) | refine au_lit rfl rfl rfl (fun _ => ?_) | refine au_append rfl rfl rfl rfl (fun _ => au_norm ?_) | refine au_storeE rfl rfl rfl rfl ?_ | refine tri_seq ?_ | refine tri_then ?_ | refine tri_region ?_ | refine tri_nil ?_ | refine tri_skip ?_ | refine tri_ret ?_ | refine tri_exit ?_ | refine tri_thenr ?_ | refine tri_thene ?_ | refine tri_blkn ?_ | refine tri_blkr ?_ | refine tri_blke ?_ | refine tri_blko (by rfl) ?_ | refine tri_if_t (by rfl) ?_ | refine tri_if_f (by rfl) ?_ | fail))
            refine au_done1 rfl ?_
            intro w hw; refine ⟨(), ?_, hw.sub (by repeat (first | exact List.Sublist.refl _ | assumption | apply List.Sublist.cons_cons | apply List.Sublist.cons))⟩
            rw [hno (cs_ne (k := k) (by rw [← hy, ← hy']; exact pg_neq hd))]
        · (repeat (first | refine au_pure ?_ | refine au_pass ?_ | refine au_box (fun _ => ?_) | refine au_alloc (fun _ => ?_) | refine au_store ?_ | refine au_make rfl rfl (fun _ => ?_) | refine au_lit rfl rfl rfl (fun _ => ?_) | refine au_append rfl rfl rfl rfl (fun _ => au_norm ?_) | refine au_storeE rfl rfl rfl rfl ?_ | refine tri_seq ?_ | refine tri_then ?_ | refine tri_region ?_ | refine tri_nil ?_ | refine tri_skip ?_ | refine tri_ret ?_ | refine tri_exit ?_ | refine tri_thenr ?_ | refine tri_thene ?_ | refine tri_blkn ?_ | refine tri_blkr ?_ | refine tri_blke ?_ | refine tri_blko (by rfl) ?_ | refine tri_if_t (by rfl) ?_ | refine tri_if_f (by rfl) ?_ | fail))
          exact tri_nx1 (i + 1) (by omega) ⟨by omega, all_step' hp (by rw [← hs, ← hs']; exact cs_eq hb'.1 hsp fun j hj => hq j (by omega))⟩ (by repeat (first | exact trivial | refine ⟨rfl, ?_⟩)) (fun w h => h.sub (by repeat (first | exact List.Sublist.refl _ | assumption | apply List.Sublist.cons_cons | apply List.Sublist.cons)))
    · have hsp : m.sp = m'.sp := ext_getD hsl fun j hj => hp j (by omega)
      (repeat (first | refine au_pure ?_ | refine au_pass ?_ | refine au_box (fun _ => ?_) | refine au_alloc (fun _ => ?_) | refine au_store ?_ | refine au_make rfl rfl (fun _ => ?_) | refine au_lit rfl rfl rfl (fun _ => ?_) | refine au_append rfl rfl rfl rfl (fun _ => au_norm ?_) | refine au_storeE rfl rfl rfl rfl ?_ | refine tri_seq ?_ | refine tri_then ?_ | refine tri_region ?_ | refine tri_nil ?_ | refine tri_skip ?_ | refine tri_ret ?_ | refine tri_exit ?_ | refine tri_thenr ?_ | refine tri_thene ?_ | refine tri_blkn ?_ | refine tri_blkr ?_ | refine tri_blke ?_ | refine tri_blko (by rfl) ?_ | refine tri_if_t (by rfl) ?_ | refine tri_if_f (by rfl) ?_ | fail))
      refine tri_block ?_
      refine tri_loop1 (fun (i : Nat) => i ≤ m.fm.length ∧ ∀ j, j < i → m.fm.getD j default = m'.fm.getD j default) (fun i => [(2, .pointer (some ⟨g2, 0, none⟩)), (3, .pointer (some ⟨g3, 0, none⟩)), (9, .int .i64 (i : Int))]) (fun i => Hp w0 (cowC g3 m'.z vS' vF' m'.cp :: cowC g2 m.z vS vF m.cp :: cs)) (fun i => m.fm.length - i)
        0 ⟨by omega, fun j hj => by omega⟩ (by repeat (first | exact trivial | refine ⟨rfl, ?_⟩)) (fun w h => h.sub (by repeat (first | exact List.Sublist.refl _ | assumption | apply List.Sublist.cons_cons | apply List.Sublist.cons))) ?_
      rintro i ⟨hi, hq⟩
      (repeat (first | refine au_pure ?_ | refine au_pass ?_ | refine au_box (fun _ => ?_) | refine au_alloc (fun _ => ?_) | refine au_store ?_ | refine au_make rfl rfl (fun _ => ?_) | refine au_lit rfl rfl rfl (fun _ => ?_) | refine au_append rfl rfl rfl rfl (fun _ => au_norm ?_) | refine au_storeE rfl rfl rfl rfl ?_ | refine tri_seq ?_ | refine tri_then ?_ | refine tri_region ?_ | refine tri_nil ?_ | refine tri_skip ?_ | refine tri_ret ?_ | refine tri_exit ?_ | refine tri_thenr ?_ | refine tri_thene ?_ | refine tri_blkn ?_ | refine tri_blkr ?_ | refine tri_blke ?_ | refine tri_blko (by rfl) ?_ | refine tri_if_t (by rfl) ?_ | refine tri_if_f (by rfl) ?_ | fail))
      ((first | refine tri_cond (by rfl) (fun hc => ?_) (fun hc => ?_) | refine tri_gsplit (by rfl) (by rfl) (by (fail_if_success exact (rfl : _ = some (Value.bool true))); (fail_if_success exact (rfl : _ = some (Value.bool false))); rfl) (fun hc => ?_) (fun hc => ?_)) <;> (try simp only [decide_eq_true_eq, decide_eq_false_iff_not, beq_iff_eq, bne_iff_ne, ne_eq, Bool.not_eq_true', Bool.not_eq_false', beq_eq_false_iff_ne, bne_eq_false_iff_eq, Int.not_lt, Int.not_le, gt_iff_lt, ge_iff_le, Bool.and_eq_true, Bool.or_eq_true, Bool.and_eq_false_iff, Bool.or_eq_false_iff, Decidable.not_not, not_true_eq_false, not_false_eq_true, and_true, true_and, or_false, false_or, or_true, true_or, and_false, false_and, eq_self, Bool.true_eq_false, Bool.false_eq_true] at hc) <;> (try (exfalso; omega)))
      · (repeat (first | refine au_pure ?_ | refine au_pass ?_ | refine au_box (fun _ => ?_) | refine au_alloc (fun _ => ?_) | refine au_store ?_ | refine au_make rfl rfl (fun _ => ?_) | refine au_lit rfl rfl rfl (fun _ => ?_) | refine au_append rfl rfl rfl rfl (fun _ => au_norm ?_) | refine au_storeE rfl rfl rfl rfl ?_ | refine tri_seq ?_ | refine tri_then ?_ | refine tri_region ?_ | refine tri_nil ?_ | refine tri_skip ?_ | refine tri_ret ?_ | refine tri_exit ?_ | refine tri_thenr ?_ | refine tri_thene ?_ | refine tri_blkn ?_ | refine tri_blkr ?_ | refine tri_blke ?_ | refine tri_blko (by rfl) ?_ | refine tri_if_t (by rfl) ?_ | refine tri_if_f (by rfl) ?_ | fail))
        refine tri_block ?_
        (repeat (first | refine tri_seq ?_ | refine tri_then ?_))
        refine au_draw rfl ?_
        (repeat (first | refine au_qpure rfl rfl ?_ | refine au_qpass rfl rfl ?_ | refine triq_nil ?_))
        obtain ⟨y, hy⟩ : ∃ y, y = m.fm.getD i default := ⟨_, rfl⟩
        obtain ⟨y', hy'⟩ : ∃ y', y' = m'.fm.getD i default := ⟨_, rfl⟩
        rw [← hy, ← hy']
        cases hd : (!(y.ct == y'.ct && y.wd == y'.wd))
        · (repeat (first | refine au_pure ?_ | refine au_pass ?_ | refine au_box (fun _ => ?_) | refine au_alloc (fun _ => ?_) | refine au_store ?_ | refine au_make rfl rfl (fun _ => ?_) | refine au_lit rfl rfl rfl (fun _ => ?_) | refine au_append rfl rfl rfl rfl (fun _ => au_norm ?_) | refine au_storeE rfl rfl rfl rfl ?_ | refine tri_seq ?_ | refine tri_then ?_ | refine tri_region ?_ | refine tri_nil ?_ | refine tri_skip ?_ | refine tri_ret ?_ | refine tri_exit ?_ | refine tri_thenr ?_ | refine tri_thene ?_ | refine tri_blkn ?_ | refine tri_blkr ?_ | refine tri_blke ?_ | refine tri_blko (by rfl) ?_ | refine tri_if_t (by rfl) ?_ | refine tri_if_f (by rfl) ?_ | fail))
          exact tri_nx1 (i + 1) (by omega) ⟨by omega, all_step' hq (by rw [← hy, ← hy']; exact fr_eq hd)⟩ (by repeat (first | exact trivial | refine ⟨rfl, ?_⟩)) (fun w h => h.sub (by repeat (first | exact List.Sublist.refl _ | assumption | apply List.Sublist.cons_cons | apply List.Sublist.cons)))
        · (repeat (first | refine au_pure ?_ | refine au_pass ?_ | refine au_box (fun _ => ?_) | refine au_alloc (fun _ => ?_) | refine au_store ?_ | refine au_make rfl rfl (fun _ => ?_) | refine au_lit rfl rfl rfl (fun _ => ?_) | refine au_append rfl rfl rfl rfl (fun _ => au_norm ?_) | refine au_storeE rfl rfl rfl rfl ?_ | refine tri_seq ?_ | refine tri_then ?_ | refine tri_region ?_ | refine tri_nil ?_ | refine tri_skip ?_ | refine tri_ret ?_ | refine tri_exit ?_ | refine tri_thenr ?_ | refine tri_thene ?_ | refine tri_blkn ?_ | refine tri_blkr ?_ | refine tri_blke ?_ | refine tri_blko (by rfl) ?_ | refine tri_if_t (by rfl) ?_ | refine tri_if_f (by rfl) ?_ | fail))
          refine au_done1 rfl ?_
          intro w hw; refine ⟨(), ?_, hw.sub (by repeat (first | exact List.Sublist.refl _ | assumption | apply List.Sublist.cons_cons | apply List.Sublist.cons))⟩
          rw [decide_eq_false fun e => fr_neq hd (by rw [hy, hy', e])]
      · (repeat (first | refine au_pure ?_ | refine au_pass ?_ | refine au_box (fun _ => ?_) | refine au_alloc (fun _ => ?_) | refine au_store ?_ | refine au_make rfl rfl (fun _ => ?_) | refine au_lit rfl rfl rfl (fun _ => ?_) | refine au_append rfl rfl rfl rfl (fun _ => au_norm ?_) | refine au_storeE rfl rfl rfl rfl ?_ | refine tri_seq ?_ | refine tri_then ?_ | refine tri_region ?_ | refine tri_nil ?_ | refine tri_skip ?_ | refine tri_ret ?_ | refine tri_exit ?_ | refine tri_thenr ?_ | refine tri_thene ?_ | refine tri_blkn ?_ | refine tri_blkr ?_ | refine tri_blke ?_ | refine tri_blko (by rfl) ?_ | refine tri_if_t (by rfl) ?_ | refine tri_if_f (by rfl) ?_ | fail))
        refine au_done1 rfl ?_
        intro w hw; refine ⟨(), ?_, hw.sub (by repeat (first | exact List.Sublist.refl _ | assumption | apply List.Sublist.cons_cons | apply List.Sublist.cons))⟩
        have hfm : m.fm = m'.fm := ext_getD hfl fun j hj => hq j (by omega)
        rw [decide_eq_true (show m = m' by cases m; cases m'; simp only at hz hcp hsp hfm; rw [hz, hcp, hsp, hfm])]
theorem rep_snoc {α : Type} (n : Nat) (a : α) : List.replicate (n + 1) a = List.replicate n a ++ [a] := List.replicate_succ'
theorem rnew_c (n z : Int) :
    Cal Try.prog 16 [.int .i64 n, .int .i64 z] (Hp w0 cs) (fun q : CR (newM n z).1.sp.length => .tuple #[crV q (newM n z).1, .int .i64 (newM n z).2]) (fun q => crH w0 cs q (newM n z).1) := by
  refine cal_of_tri Try.func16 rfl Try.ntmps16 rfl ?_
  by_cases hz : n < 1 ∨ 256 < n ∨ z < 1 ∨ 512 < z
  · rw [new_zero hz]
    have hdd : decide (n < 1) = true ∨ (decide (n < 1) = false ∧ (decide (n > 256) = true ∨ (decide (n > 256) = false ∧ (decide (z < 1) = true ∨ (decide (z < 1) = false ∧ decide (z > 512) = true))))) := by
      by_cases h1 : n < 1
      · exact .inl (decide_eq_true h1)
      · refine .inr ⟨decide_eq_false h1, ?_⟩
        by_cases h2 : n > 256
        · exact .inl (decide_eq_true h2)
        · refine .inr ⟨decide_eq_false h2, ?_⟩
          by_cases h3 : z < 1
          · exact .inl (decide_eq_true h3)
          · exact .inr ⟨decide_eq_false h3, decide_eq_true (by omega)⟩
    (repeat (first | refine au_pure ?_ | refine au_pass ?_ | refine au_box (fun _ => ?_) | refine au_alloc (fun _ => ?_) | refine au_store ?_ | refine au_make rfl rfl (fun _ => ?_) | refine au_lit rfl rfl rfl (fun _ => ?_) | refine au_append rfl rfl rfl rfl (fun _ => au_norm ?_) | refine au_storeE rfl rfl rfl rfl ?_ | refine tri_seq ?_ | refine tri_then ?_ | refine tri_region ?_ | refine tri_nil ?_ | refine tri_skip ?_ | refine tri_ret ?_ | refine tri_exit ?_ | refine tri_thenr ?_ | refine tri_thene ?_ | refine tri_blkn ?_ | refine tri_blkr ?_ | refine tri_blke ?_ | refine tri_blko (by rfl) ?_ | refine tri_if_t (by rfl) ?_ | refine tri_if_f (by rfl) ?_ | fail))
    rcases hdd with h1 | ⟨h1, h2 | ⟨h2, h3 | ⟨h3, h4⟩⟩⟩
    · rw [h1]
      (repeat (first | refine au_pure ?_ | refine au_pass ?_ | refine au_box (fun _ => ?_) | refine au_alloc (fun _ => ?_) | refine au_store ?_ | refine au_make rfl rfl (fun _ => ?_) | refine au_lit rfl rfl rfl (fun _ => ?_) | refine au_append rfl rfl rfl rfl (fun _ => au_norm ?_) | refine au_storeE rfl rfl rfl rfl ?_ | refine tri_seq ?_ | refine tri_then ?_ | refine tri_region ?_ | refine tri_nil ?_ | refine tri_skip ?_ | refine tri_ret ?_ | refine tri_exit ?_ | refine tri_thenr ?_ | refine tri_thene ?_ | refine tri_blkn ?_ | refine tri_blkr ?_ | refine tri_blke ?_ | refine tri_blko (by rfl) ?_ | refine tri_if_t (by rfl) ?_ | refine tri_if_f (by rfl) ?_ | fail))
      refine au_done2 rfl ?_
      exact fun w hw => zero_res (m' := CW.zero) hw rfl rfl (by repeat (first | exact List.Sublist.refl _ | assumption | apply List.Sublist.cons_cons | apply List.Sublist.cons))
    · rw [h1]
      (repeat (first | refine au_pure ?_ | refine au_pass ?_ | refine au_box (fun _ => ?_) | refine au_alloc (fun _ => ?_) | refine au_store ?_ | refine au_make rfl rfl (fun _ => ?_) | refine au_lit rfl rfl rfl (fun _ => ?_) | refine au_append rfl rfl rfl rfl (fun _ => au_norm ?_) | refine au_storeE rfl rfl rfl rfl ?_ | refine tri_seq ?_ | refine tri_then ?_ | refine tri_region ?_ | refine tri_nil ?_ | refine tri_skip ?_ | refine tri_ret ?_ | refine tri_exit ?_ | refine tri_thenr ?_ | refine tri_thene ?_ | refine tri_blkn ?_ | refine tri_blkr ?_ | refine tri_blke ?_ | refine tri_blko (by rfl) ?_ | refine tri_if_t (by rfl) ?_ | refine tri_if_f (by rfl) ?_ | fail))
      rw [h2]
      (repeat (first | refine au_pure ?_ | refine au_pass ?_ | refine au_box (fun _ => ?_) | refine au_alloc (fun _ => ?_) | refine au_store ?_ | refine au_make rfl rfl (fun _ => ?_) | refine au_lit rfl rfl rfl (fun _ => ?_) | refine au_append rfl rfl rfl rfl (fun _ => au_norm ?_) | refine au_storeE rfl rfl rfl rfl ?_ | refine tri_seq ?_ | refine tri_then ?_ | refine tri_region ?_ | refine tri_nil ?_ | refine tri_skip ?_ | refine tri_ret ?_ | refine tri_exit ?_ | refine tri_thenr ?_ | refine tri_thene ?_ | refine tri_blkn ?_ | refine tri_blkr ?_ | refine tri_blke ?_ | refine tri_blko (by rfl) ?_ | refine tri_if_t (by rfl) ?_ | refine tri_if_f (by rfl) ?_ | fail))
      refine au_done2 rfl ?_
      exact fun w hw => zero_res (m' := CW.zero) hw rfl rfl (by repeat (first | exact List.Sublist.refl _ | assumption | apply List.Sublist.cons_cons | apply List.Sublist.cons))
    · rw [h1]
      (repeat (first | refine au_pure ?_ | refine au_pass ?_ | refine au_box (fun _ => ?_) | refine au_alloc (fun _ => ?_) | refine au_store ?_ | refine au_make rfl rfl (fun _ => ?_) | refine au_lit rfl rfl rfl (fun _ => ?_) | refine au_append rfl rfl rfl rfl (fun _ => au_norm ?_) | refine au_storeE rfl rfl rfl rfl ?_ | refine tri_seq ?_ | refine tri_then ?_ | refine tri_region ?_ | refine tri_nil ?_ | refine tri_skip ?_ | refine tri_ret ?_ | refine tri_exit ?_ | refine tri_thenr ?_ | refine tri_thene ?_ | refine tri_blkn ?_ | refine tri_blkr ?_ | refine tri_blke ?_ | refine tri_blko (by rfl) ?_ | refine tri_if_t (by rfl) ?_ | refine tri_if_f (by rfl) ?_ | fail))
      rw [h2]
      (repeat (first | refine au_pure ?_ | refine au_pass ?_ | refine au_box (fun _ => ?_) | refine au_alloc (fun _ => ?_) | refine au_store ?_ | refine au_make rfl rfl (fun _ => ?_) | refine au_lit rfl rfl rfl (fun _ => ?_) | refine au_append rfl rfl rfl rfl (fun _ => au_norm ?_) | refine au_storeE rfl rfl rfl rfl ?_ | refine tri_seq ?_ | refine tri_then ?_ | refine tri_region ?_ | refine tri_nil ?_ | refine tri_skip ?_ | refine tri_ret ?_ | refine tri_exit ?_ | refine tri_thenr ?_ | refine tri_thene ?_ | refine tri_blkn ?_ | refine tri_blkr ?_ | refine tri_blke ?_ | refine tri_blko (by rfl) ?_ | refine tri_if_t (by rfl) ?_ | refine tri_if_f (by rfl) ?_ | fail))
      rw [h3]
      (repeat (first | refine au_pure ?_ | refine au_pass ?_ | refine au_box (fun _ => ?_) | refine au_alloc (fun _ => ?_) | refine au_store ?_ | refine au_make rfl rfl (fun _ => ?_) | refine au_lit rfl rfl rfl (fun _ => ?_) | refine au_append rfl rfl rfl rfl (fun _ => au_norm ?_) | refine au_storeE rfl rfl rfl rfl ?_ | refine tri_seq ?_ | refine tri_then ?_ | refine tri_region ?_ | refine tri_nil ?_ | refine tri_skip ?_ | refine tri_ret ?_ | refine tri_exit ?_ | refine tri_thenr ?_ | refine tri_thene ?_ | refine tri_blkn ?_ | refine tri_blkr ?_ | refine tri_blke ?_ | refine tri_blko (by rfl) ?_ | refine tri_if_t (by rfl) ?_ | refine tri_if_f (by rfl) ?_ | fail))
      refine au_done2 rfl ?_
      exact fun w hw => zero_res (m' := CW.zero) hw rfl rfl (by repeat (first | exact List.Sublist.refl _ | assumption | apply List.Sublist.cons_cons | apply List.Sublist.cons))
    · rw [h1]
      (repeat (first | refine au_pure ?_ | refine au_pass ?_ | refine au_box (fun _ => ?_) | refine au_alloc (fun _ => ?_) | refine au_store ?_ | refine au_make rfl rfl (fun _ => ?_) | refine au_lit rfl rfl rfl (fun _ => ?_) | refine au_append rfl rfl rfl rfl (fun _ => au_norm ?_) | refine au_storeE rfl rfl rfl rfl ?_ | refine tri_seq ?_ | refine tri_then ?_ | refine tri_region ?_ | refine tri_nil ?_ | refine tri_skip ?_ | refine tri_ret ?_ | refine tri_exit ?_ | refine tri_thenr ?_ | refine tri_thene ?_ | refine tri_blkn ?_ | refine tri_blkr ?_ | refine tri_blke ?_ | refine tri_blko (by rfl) ?_ | refine tri_if_t (by rfl) ?_ | refine tri_if_f (by rfl) ?_ | fail))
      rw [h2]
      (repeat (first | refine au_pure ?_ | refine au_pass ?_ | refine au_box (fun _ => ?_) | refine au_alloc (fun _ => ?_) | refine au_store ?_ | refine au_make rfl rfl (fun _ => ?_) | refine au_lit rfl rfl rfl (fun _ => ?_) | refine au_append rfl rfl rfl rfl (fun _ => au_norm ?_) | refine au_storeE rfl rfl rfl rfl ?_ | refine tri_seq ?_ | refine tri_then ?_ | refine tri_region ?_ | refine tri_nil ?_ | refine tri_skip ?_ | refine tri_ret ?_ | refine tri_exit ?_ | refine tri_thenr ?_ | refine tri_thene ?_ | refine tri_blkn ?_ | refine tri_blkr ?_ | refine tri_blke ?_ | refine tri_blko (by rfl) ?_ | refine tri_if_t (by rfl) ?_ | refine tri_if_f (by rfl) ?_ | fail))
      rw [h3]
      (repeat (first | refine au_pure ?_ | refine au_pass ?_ | refine au_box (fun _ => ?_) | refine au_alloc (fun _ => ?_) | refine au_store ?_ | refine au_make rfl rfl (fun _ => ?_) | refine au_lit rfl rfl rfl (fun _ => ?_) | refine au_append rfl rfl rfl rfl (fun _ => au_norm ?_) | refine au_storeE rfl rfl rfl rfl ?_ | refine tri_seq ?_ | refine tri_then ?_ | refine tri_region ?_ | refine tri_nil ?_ | refine tri_skip ?_ | refine tri_ret ?_ | refine tri_exit ?_ | refine tri_thenr ?_ | refine tri_thene ?_ | refine tri_blkn ?_ | refine tri_blkr ?_ | refine tri_blke ?_ | refine tri_blko (by rfl) ?_ | refine tri_if_t (by rfl) ?_ | refine tri_if_f (by rfl) ?_ | fail))
      rw [h4]
      (repeat (first | refine au_pure ?_ | refine au_pass ?_ | refine au_box (fun _ => ?_) | refine au_alloc (fun _ => ?_) | refine au_store ?_ | refine au_make rfl rfl (fun _ => ?_) | refine au_lit rfl rfl rfl (fun _ => ?_) | refine au_append rfl rfl rfl rfl (fun _ => au_norm ?_) | refine au_storeE rfl rfl rfl rfl ?_ | refine tri_seq ?_ | refine tri_then ?_ | refine tri_region ?_ | refine tri_nil ?_ | refine tri_skip ?_ | refine tri_ret ?_ | refine tri_exit ?_ | refine tri_thenr ?_ | refine tri_thene ?_ | refine tri_blkn ?_ | refine tri_blkr ?_ | refine tri_blke ?_ | refine tri_blko (by rfl) ?_ | refine tri_if_t (by rfl) ?_ | refine tri_if_f (by rfl) ?_ | fail))
      refine au_done2 rfl ?_
      exact fun w hw => zero_res (m' := CW.zero) hw rfl rfl (by repeat (first | exact List.Sublist.refl _ | assumption | apply List.Sublist.cons_cons | apply List.Sublist.cons))
  · rw [new_yes hz]
    obtain ⟨k, rfl⟩ : ∃ k : Nat, z = (k : Int) := ⟨z.toNat, by omega⟩
    obtain ⟨j, rfl⟩ : ∃ j : Nat, n = (j : Int) := ⟨n.toNat, by omega⟩
    simp only [Int.toNat_natCast]
    (repeat (first | refine au_pure ?_ | refine au_pass ?_ | refine au_box (fun _ => ?_) | refine au_alloc (fun _ => ?_) | refine au_store ?_ | refine au_make rfl rfl (fun _ => ?_) | refine au_lit rfl rfl rfl (fun _ => ?_) | refine au_append rfl rfl rfl rfl (fun _ => au_norm ?_) | refine au_storeE rfl rfl rfl rfl ?_ | refine tri_seq ?_ | refine tri_then ?_ | refine tri_region ?_ | refine tri_nil ?_ | refine tri_skip ?_ | refine tri_ret ?_ | refine tri_exit ?_ | refine tri_thenr ?_ | refine tri_thene ?_ | refine tri_blkn ?_ | refine tri_blkr ?_ | refine tri_blke ?_ | refine tri_blko (by rfl) ?_ | refine tri_if_t (by rfl) ?_ | refine tri_if_f (by rfl) ?_ | fail))
    rw [decide_eq_false (show ¬ (j : Int) < 1 by omega)]
    (repeat (first | refine au_pure ?_ | refine au_pass ?_ | refine au_box (fun _ => ?_) | refine au_alloc (fun _ => ?_) | refine au_store ?_ | refine au_make rfl rfl (fun _ => ?_) | refine au_lit rfl rfl rfl (fun _ => ?_) | refine au_append rfl rfl rfl rfl (fun _ => au_norm ?_) | refine au_storeE rfl rfl rfl rfl ?_ | refine tri_seq ?_ | refine tri_then ?_ | refine tri_region ?_ | refine tri_nil ?_ | refine tri_skip ?_ | refine tri_ret ?_ | refine tri_exit ?_ | refine tri_thenr ?_ | refine tri_thene ?_ | refine tri_blkn ?_ | refine tri_blkr ?_ | refine tri_blke ?_ | refine tri_blko (by rfl) ?_ | refine tri_if_t (by rfl) ?_ | refine tri_if_f (by rfl) ?_ | fail))
    rw [decide_eq_false (show ¬ (j : Int) > 256 by omega)]
    (repeat (first | refine au_pure ?_ | refine au_pass ?_ | refine au_box (fun _ => ?_) | refine au_alloc (fun _ => ?_) | refine au_store ?_ | refine au_make rfl rfl (fun _ => ?_) | refine au_lit rfl rfl rfl (fun _ => ?_) | refine au_append rfl rfl rfl rfl (fun _ => au_norm ?_) | refine au_storeE rfl rfl rfl rfl ?_ | refine tri_seq ?_ | refine tri_then ?_ | refine tri_region ?_ | refine tri_nil ?_ | refine tri_skip ?_ | refine tri_ret ?_ | refine tri_exit ?_ | refine tri_thenr ?_ | refine tri_thene ?_ | refine tri_blkn ?_ | refine tri_blkr ?_ | refine tri_blke ?_ | refine tri_blko (by rfl) ?_ | refine tri_if_t (by rfl) ?_ | refine tri_if_f (by rfl) ?_ | fail))
    rw [decide_eq_false (show ¬ (k : Int) < 1 by omega)]
    (repeat (first | refine au_pure ?_ | refine au_pass ?_ | refine au_box (fun _ => ?_) | refine au_alloc (fun _ => ?_) | refine au_store ?_ | refine au_make rfl rfl (fun _ => ?_) | refine au_lit rfl rfl rfl (fun _ => ?_) | refine au_append rfl rfl rfl rfl (fun _ => au_norm ?_) | refine au_storeE rfl rfl rfl rfl ?_ | refine tri_seq ?_ | refine tri_then ?_ | refine tri_region ?_ | refine tri_nil ?_ | refine tri_skip ?_ | refine tri_ret ?_ | refine tri_exit ?_ | refine tri_thenr ?_ | refine tri_thene ?_ | refine tri_blkn ?_ | refine tri_blkr ?_ | refine tri_blke ?_ | refine tri_blko (by rfl) ?_ | refine tri_if_t (by rfl) ?_ | refine tri_if_f (by rfl) ?_ | fail))
    rw [decide_eq_false (show ¬ (k : Int) > 512 by omega)]
    (repeat (first | refine au_pure ?_ | refine au_pass ?_ | refine au_box (fun _ => ?_) | refine au_alloc (fun _ => ?_) | refine au_store ?_ | refine au_make rfl rfl (fun _ => ?_) | refine au_lit rfl rfl rfl (fun _ => ?_) | refine au_append rfl rfl rfl rfl (fun _ => au_norm ?_) | refine au_storeE rfl rfl rfl rfl ?_ | refine tri_seq ?_ | refine tri_then ?_ | refine tri_region ?_ | refine tri_nil ?_ | refine tri_skip ?_ | refine tri_ret ?_ | refine tri_exit ?_ | refine tri_thenr ?_ | refine tri_thene ?_ | refine tri_blkn ?_ | refine tri_blkr ?_ | refine tri_blke ?_ | refine tri_blko (by rfl) ?_ | refine tri_if_t (by rfl) ?_ | refine tri_if_f (by rfl) ?_ | fail))
    rename_i g4 g6 g7
    refine tri_nilrow PG 64 ?_
    refine tri_block ?_
    refine tri_loop2 (fun (i : Nat) (rp : Row) => i ≤ k) (fun i rp => [(0, .int .i64 (j : Int)), (1, .int .i64 (k : Int)), (4, .pointer (some ⟨g4, 0, none⟩)), (6, .pointer (some ⟨g6, 0, none⟩)), (7, .pointer (some ⟨g7, 0, none⟩)), (8, .int .i64 (i : Int))])
      (fun i rp => Hp w0 (pgS rp (List.replicate i ⟨-1, false⟩) :: blkC g7 62 [.bool true, rp.v] :: cowC g6 (k : Int) (.slice none 0 0) (.slice none 0 0) 0 :: zeC g4 :: cs)) (fun i _ => k - i)
      0 (Row.nil w0.heap.size) (by omega) (by repeat (first | exact trivial | refine ⟨rfl, ?_⟩)) (fun w h => h) ?_
    intro i rp hi
    (repeat (first | refine au_pure ?_ | refine au_pass ?_ | refine au_box (fun _ => ?_) | refine au_alloc (fun _ => ?_) | refine au_store ?_ | refine au_make rfl rfl (fun _ => ?_) | refine au_lit rfl rfl rfl (fun _ => ?_) | refine au_append rfl rfl rfl rfl (fun _ => au_norm ?_) | refine au_storeE rfl rfl rfl rfl ?_ | refine tri_seq ?_ | refine tri_then ?_ | refine tri_region ?_ | refine tri_nil ?_ | refine tri_skip ?_ | refine tri_ret ?_ | refine tri_exit ?_ | refine tri_thenr ?_ | refine tri_thene ?_ | refine tri_blkn ?_ | refine tri_blkr ?_ | refine tri_blke ?_ | refine tri_blko (by rfl) ?_ | refine tri_if_t (by rfl) ?_ | refine tri_if_f (by rfl) ?_ | fail))
    ((first | refine tri_cond (by rfl) (fun hc => ?_) (fun hc => ?_) | refine tri_gsplit (by rfl) (by rfl) (by (fail_if_success exact (rfl : _ = some (Value.bool true))); (fail_if_success exact (rfl : _ = some (Value.bool false))); rfl) (fun hc => ?_) (fun hc => ?_)) <;> (try simp only [decide_eq_true_eq, decide_eq_false_iff_not, beq_iff_eq, bne_iff_ne, ne_eq, Bool.not_eq_true', Bool.not_eq_false', beq_eq_false_iff_ne, bne_eq_false_iff_eq, Int.not_lt, Int.not_le, gt_iff_lt, ge_iff_le, Bool.and_eq_true, Bool.or_eq_true, Bool.and_eq_false_iff, Bool.or_eq_false_iff, Decidable.not_not, not_true_eq_false, not_false_eq_true, and_true, true_and, or_false, false_or, or_true, true_or, and_false, false_and, eq_self, Bool.true_eq_false, Bool.false_eq_true] at hc) <;> (try (exfalso; omega)))
    · (repeat (first | refine au_pure ?_ | refine au_pass ?_ | refine au_box (fun _ => ?_) | refine au_alloc (fun _ => ?_) | refine au_store ?_ | refine au_make rfl rfl (fun _ => ?_) | refine au_lit rfl rfl rfl (fun _ => ?_) | refine au_append rfl rfl rfl rfl (fun _ => au_norm ?_) | refine au_storeE rfl rfl rfl rfl ?_ | refine tri_seq ?_ | refine tri_then ?_ | refine tri_region ?_ | refine tri_nil ?_ | refine tri_skip ?_ | refine tri_ret ?_ | refine tri_exit ?_ | refine tri_thenr ?_ | refine tri_thene ?_ | refine tri_blkn ?_ | refine tri_blkr ?_ | refine tri_blke ?_ | refine tri_blko (by rfl) ?_ | refine tri_if_t (by rfl) ?_ | refine tri_if_f (by rfl) ?_ | fail))
      refine tri_block ?_
      have hrs := rep_snoc i (⟨-1, false⟩ : PG)
      have hrl : (List.replicate i (⟨-1, false⟩ : PG)).length = i := List.length_replicate
      obtain ⟨L, hL⟩ : ∃ L, L = List.replicate i (⟨-1, false⟩ : PG) := ⟨_, rfl⟩
      rw [← hL] at hrs hrl ⊢
      (repeat (first | refine au_pure ?_ | refine au_pass ?_ | refine au_box (fun _ => ?_) | refine au_alloc (fun _ => ?_) | refine au_store ?_ | refine au_make rfl rfl (fun _ => ?_) | refine au_lit rfl rfl rfl (fun _ => ?_) | refine au_append rfl rfl rfl rfl (fun _ => au_norm ?_) | refine au_storeE rfl rfl rfl rfl ?_ | refine tri_seq ?_ | refine tri_then ?_ | refine tri_region ?_ | refine tri_nil ?_ | refine tri_skip ?_ | refine tri_ret ?_ | refine tri_exit ?_ | refine tri_thenr ?_ | refine tri_thene ?_ | refine tri_blkn ?_ | refine tri_blkr ?_ | refine tri_blke ?_ | refine tri_blko (by rfl) ?_ | refine tri_if_t (by rfl) ?_ | refine tri_if_f (by rfl) ?_ | fail))
      rename_i rl rp2
      refine tri_nx2 (i + 1) rp2 (by omega) (by omega) (by repeat (first | exact trivial | refine ⟨rfl, ?_⟩)) (fun w h => ?_)
      rw [hrs]
      exact h.sub (by repeat (first | exact List.Sublist.refl _ | assumption | apply List.Sublist.cons_cons | apply List.Sublist.cons))
    · have hik : i = k := by omega
      subst hik
      refine tri_nilrow SP 62 ?_
      (repeat (first | refine au_pure ?_ | refine au_pass ?_ | refine au_box (fun _ => ?_) | refine au_alloc (fun _ => ?_) | refine au_store ?_ | refine au_make rfl rfl (fun _ => ?_) | refine au_lit rfl rfl rfl (fun _ => ?_) | refine au_append rfl rfl rfl rfl (fun _ => au_norm ?_) | refine au_storeE rfl rfl rfl rfl ?_ | refine tri_seq ?_ | refine tri_then ?_ | refine tri_region ?_ | refine tri_nil ?_ | refine tri_skip ?_ | refine tri_ret ?_ | refine tri_exit ?_ | refine tri_thenr ?_ | refine tri_thene ?_ | refine tri_blkn ?_ | refine tri_blkr ?_ | refine tri_blke ?_ | refine tri_blko (by rfl) ?_ | refine tri_if_t (by rfl) ?_ | refine tri_if_f (by rfl) ?_ | fail))
      rename_i rl
      refine au_append (r := Row.nil w0.heap.size) rfl rfl rfl rfl (fun rs => au_norm ?_)
      (repeat (first | refine au_pure ?_ | refine au_pass ?_ | refine au_box (fun _ => ?_) | refine au_alloc (fun _ => ?_) | refine au_store ?_ | refine au_make rfl rfl (fun _ => ?_) | refine au_lit rfl rfl rfl (fun _ => ?_) | refine au_append rfl rfl rfl rfl (fun _ => au_norm ?_) | refine au_storeE rfl rfl rfl rfl ?_ | refine tri_seq ?_ | refine tri_then ?_ | refine tri_region ?_ | refine tri_nil ?_ | refine tri_skip ?_ | refine tri_ret ?_ | refine tri_exit ?_ | refine tri_thenr ?_ | refine tri_thene ?_ | refine tri_blkn ?_ | refine tri_blkr ?_ | refine tri_blke ?_ | refine tri_blko (by rfl) ?_ | refine tri_if_t (by rfl) ?_ | refine tri_if_f (by rfl) ?_ | fail))
      refine tri_nilrow FR 57 ?_
      refine tri_block ?_
      obtain ⟨L, hL⟩ : ∃ L, L = List.replicate i (⟨-1, false⟩ : PG) := ⟨_, rfl⟩
      rw [← hL]
      refine tri_weak (H' := Hp w0 (frS (Row.nil w0.heap.size) ([] : List FR) :: spS rs [⟨true, rp.sv⟩] :: pgS rp L :: cowC g6 (i : Int) rs.v (.slice none 0 0) 0 :: zeC g4 :: cs)) (fun w h => h.sub (by repeat (first | exact List.Sublist.refl _ | assumption | apply List.Sublist.cons_cons | apply List.Sublist.cons))) ?_
      refine tri_loop2 (fun (a : Nat) (rf : Row) => a ≤ j) (fun a rf => [(0, .int .i64 (j : Int)), (4, .pointer (some ⟨g4, 0, none⟩)), (6, .pointer (some ⟨g6, 0, none⟩)), (9, .int .i64 (a : Int))])
        (fun a rf => Hp w0 (frS rf (List.replicate a ⟨0, 0⟩) :: spS rs [⟨true, rp.sv⟩] :: pgS rp L :: cowC g6 (i : Int) rs.v rf.v 0 :: zeC g4 :: cs)) (fun a _ => j - a)
        0 (Row.nil w0.heap.size) (by omega) (by repeat (first | exact trivial | refine ⟨rfl, ?_⟩)) (fun w h => h) ?_
      intro a rf ha
      (repeat (first | refine au_pure ?_ | refine au_pass ?_ | refine au_box (fun _ => ?_) | refine au_alloc (fun _ => ?_) | refine au_store ?_ | refine au_make rfl rfl (fun _ => ?_) | refine au_lit rfl rfl rfl (fun _ => ?_) | refine au_append rfl rfl rfl rfl (fun _ => au_norm ?_) | refine au_storeE rfl rfl rfl rfl ?_ | refine tri_seq ?_ | refine tri_then ?_ | refine tri_region ?_ | refine tri_nil ?_ | refine tri_skip ?_ | refine tri_ret ?_ | refine tri_exit ?_ | refine tri_thenr ?_ | refine tri_thene ?_ | refine tri_blkn ?_ | refine tri_blkr ?_ | refine tri_blke ?_ | refine tri_blko (by rfl) ?_ | refine tri_if_t (by rfl) ?_ | refine tri_if_f (by rfl) ?_ | fail))
      ((first | refine tri_cond (by rfl) (fun hc => ?_) (fun hc => ?_) | refine tri_gsplit (by rfl) (by rfl) (by (fail_if_success exact (rfl : _ = some (Value.bool true))); (fail_if_success exact (rfl : _ = some (Value.bool false))); rfl) (fun hc => ?_) (fun hc => ?_)) <;> (try simp only [decide_eq_true_eq, decide_eq_false_iff_not, beq_iff_eq, bne_iff_ne, ne_eq, Bool.not_eq_true', Bool.not_eq_false', beq_eq_false_iff_ne, bne_eq_false_iff_eq, Int.not_lt, Int.not_le, gt_iff_lt, ge_iff_le, Bool.and_eq_true, Bool.or_eq_true, Bool.and_eq_false_iff, Bool.or_eq_false_iff, Decidable.not_not, not_true_eq_false, not_false_eq_true, and_true, true_and, or_false, false_or, or_true, true_or, and_false, false_and, eq_self, Bool.true_eq_false, Bool.false_eq_true] at hc) <;> (try (exfalso; omega)))
      · (repeat (first | refine au_pure ?_ | refine au_pass ?_ | refine au_box (fun _ => ?_) | refine au_alloc (fun _ => ?_) | refine au_store ?_ | refine au_make rfl rfl (fun _ => ?_) | refine au_lit rfl rfl rfl (fun _ => ?_) | refine au_append rfl rfl rfl rfl (fun _ => au_norm ?_) | refine au_storeE rfl rfl rfl rfl ?_ | refine tri_seq ?_ | refine tri_then ?_ | refine tri_region ?_ | refine tri_nil ?_ | refine tri_skip ?_ | refine tri_ret ?_ | refine tri_exit ?_ | refine tri_thenr ?_ | refine tri_thene ?_ | refine tri_blkn ?_ | refine tri_blkr ?_ | refine tri_blke ?_ | refine tri_blko (by rfl) ?_ | refine tri_if_t (by rfl) ?_ | refine tri_if_f (by rfl) ?_ | fail))
        refine tri_block ?_
        have hrs := rep_snoc a (⟨0, 0⟩ : FR)
        have hrl : (List.replicate a (⟨0, 0⟩ : FR)).length = a := List.length_replicate
        obtain ⟨K, hK⟩ : ∃ K, K = List.replicate a (⟨0, 0⟩ : FR) := ⟨_, rfl⟩
        rw [← hK] at hrs hrl ⊢
        (repeat (first | refine au_pure ?_ | refine au_pass ?_ | refine au_box (fun _ => ?_) | refine au_alloc (fun _ => ?_) | refine au_store ?_ | refine au_make rfl rfl (fun _ => ?_) | refine au_lit rfl rfl rfl (fun _ => ?_) | refine au_append rfl rfl rfl rfl (fun _ => au_norm ?_) | refine au_storeE rfl rfl rfl rfl ?_ | refine tri_seq ?_ | refine tri_then ?_ | refine tri_region ?_ | refine tri_nil ?_ | refine tri_skip ?_ | refine tri_ret ?_ | refine tri_exit ?_ | refine tri_thenr ?_ | refine tri_thene ?_ | refine tri_blkn ?_ | refine tri_blkr ?_ | refine tri_blke ?_ | refine tri_blko (by rfl) ?_ | refine tri_if_t (by rfl) ?_ | refine tri_if_f (by rfl) ?_ | fail))
        rename_i rl2 rf2
        refine tri_nx2 (a + 1) rf2 (by omega) (by omega) (by repeat (first | exact trivial | refine ⟨rfl, ?_⟩)) (fun w h => ?_)
        rw [hrs]
        exact h.sub (by repeat (first | exact List.Sublist.refl _ | assumption | apply List.Sublist.cons_cons | apply List.Sublist.cons))
      · have haj : a = j := by omega
        subst haj
        (repeat (first | refine au_pure ?_ | refine au_pass ?_ | refine au_box (fun _ => ?_) | refine au_alloc (fun _ => ?_) | refine au_store ?_ | refine au_make rfl rfl (fun _ => ?_) | refine au_lit rfl rfl rfl (fun _ => ?_) | refine au_append rfl rfl rfl rfl (fun _ => au_norm ?_) | refine au_storeE rfl rfl rfl rfl ?_ | refine tri_seq ?_ | refine tri_then ?_ | refine tri_region ?_ | refine tri_nil ?_ | refine tri_skip ?_ | refine tri_ret ?_ | refine tri_exit ?_ | refine tri_thenr ?_ | refine tri_thene ?_ | refine tri_blkn ?_ | refine tri_blkr ?_ | refine tri_blke ?_ | refine tri_blko (by rfl) ?_ | refine tri_if_t (by rfl) ?_ | refine tri_if_f (by rfl) ?_ | fail))
        refine au_done2 rfl ?_
        intro w hw
        refine ⟨⟨rs, [rp], rf, rfl⟩, rfl, ?_⟩
        have h2 := hw.sub (cs' := frS rf (List.replicate a ⟨0, 0⟩) :: spS rs [⟨true, rp.sv⟩] :: pgS rp L :: cs) (by repeat (first | exact List.Sublist.refl _ | assumption | apply List.Sublist.cons_cons | apply List.Sublist.cons))
        exact h2
end
end Go.Proofs.Ytinnkclemjognaa
