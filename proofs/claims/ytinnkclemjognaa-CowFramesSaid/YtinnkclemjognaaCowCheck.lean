/- The walks of package cow: Check. No conditions. -/
import Derived.Test.YtinnkclemjognaaCowWalks
set_option linter.unusedSimpArgs false
set_option linter.unusedVariables false
namespace Go.Proofs.Ytinnkclemjognaa
open Go Go.RowKit
attribute [local irreducible] Code.wp wpList bodyPost Exit.then Exit.inBlock Calls wpQuiet Tri TriQ
def SH (n : Nat) (q : List PG) : List Int := (List.range n).map fun k => (shC q k : Int)
def WR (n : Nat) (q : List PG) : List Bool := (List.range n).map fun k => wrC q k
theorem map_range_get {α : Type} [Inhabited α] {n k : Nat} {f : Nat → α} (hk : k < n) : ((List.range n).map f).getD k default = f k := by
  rw [List.getD_eq_getElem?_getD, List.getElem?_map, List.getElem?_range hk]; rfl
theorem map_range_set {α : Type} {n k : Nat} {f g : Nat → α} {a : α} (hk : k < n) (ha : g k = a) (hf : ∀ j, j < n → j ≠ k → f j = g j) : ((List.range n).map f).set k a = (List.range n).map g := by
  apply List.ext_getElem?
  intro j
  rw [List.getElem?_set, List.getElem?_map, List.getElem?_map]
  by_cases hj : j < n
  · rw [List.getElem?_range hj]
    by_cases h : k = j
    · subst h; simp [hj, ha]
    · simp [h, hf j hj (fun e => h e.symm)]
  · rw [List.getElem?_eq_none (by simp; omega)]
    have : k ≠ j := by omega
    simp [this]
theorem sh_len (n : Nat) (q : List PG) : (SH n q).length = n := by unfold SH; simp
theorem wr_len (n : Nat) (q : List PG) : (WR n q).length = n := by unfold WR; simp
theorem sh_get {n k : Nat} {q : List PG} (hk : k < n) : (SH n q).getD k default = (shC q k : Int) := map_range_get hk
theorem wr_get {n k : Nat} {q : List PG} (hk : k < n) : (WR n q).getD k default = wrC q k := map_range_get hk
theorem shC_snoc (q : List PG) (y : PG) (k : Nat) : shC (q ++ [y]) k = shC q k + if y.fr = k then 1 else 0 := by
  unfold shC
  rw [List.countP_append, List.countP_singleton]
  simp
theorem wrC_snoc (q : List PG) (y : PG) (k : Nat) : wrC (q ++ [y]) k = (wrC q k || (y.fr == (k : Int) && y.wr)) := by
  unfold wrC
  rw [List.any_append]
  simp
theorem sh_step {n : Nat} {q : List PG} {y : PG} (h0 : 0 ≤ y.fr) (h1 : y.fr < n) : (SH n q).set y.fr.toNat ((SH n q).getD y.fr.toNat default + 1) = SH n (q ++ [y]) := by
  rw [sh_get (by omega)]
  refine map_range_set (by omega) ?_ fun j hj hne => ?_
  · rw [shC_snoc, if_pos (by omega)]; rfl
  · rw [shC_snoc, if_neg (by omega)]; rfl
theorem wr_step {n : Nat} {q : List PG} {y : PG} (h0 : 0 ≤ y.fr) (h1 : y.fr < n) : (WR n q).set y.fr.toNat ((WR n q).getD y.fr.toNat default || y.wr) = WR n (q ++ [y]) := by
  rw [wr_get (by omega)]
  refine map_range_set (by omega) ?_ fun j hj hne => ?_
  · rw [wrC_snoc, beq_iff_eq.2 (show y.fr = ((y.fr.toNat : Nat) : Int) by omega), Bool.true_and]
  · rw [wrC_snoc, beq_eq_false_iff_ne.2 (show y.fr ≠ (j : Int) by omega), Bool.false_and, Bool.or_false]
theorem sh_skip {n : Nat} {q : List PG} {y : PG} (h0 : y.fr < 0) : SH n (q ++ [y]) = SH n q := by
  unfold SH
  refine List.map_congr_left fun j _ => ?_
  rw [shC_snoc, if_neg (by omega)]; rfl
theorem wr_skip {n : Nat} {q : List PG} {y : PG} (h0 : y.fr < 0) : WR n (q ++ [y]) = WR n q := by
  unfold WR
  refine List.map_congr_left fun j _ => ?_
  rw [wrC_snoc, beq_eq_false_iff_ne.2 (show y.fr ≠ (j : Int) by omega), Bool.false_and, Bool.or_false]
def preP (sp : List CS) (i : Nat) : List PG := (sp.take i).flatMap (·.pg)
def preQ (sp : List CS) (i k : Nat) : List PG := preP sp i ++ ((sp.getD i default).pg).take k
theorem preQ_zero (sp : List CS) (i : Nat) : preQ sp i 0 = preP sp i := by unfold preQ; simp
theorem preP_succ {sp : List CS} {i : Nat} (hi : i < sp.length) : preP sp (i + 1) = preP sp i ++ (sp.getD i default).pg := by
  unfold preP
  rw [take_step hi, List.flatMap_append]; simp
theorem preQ_end {sp : List CS} {i : Nat} (hi : i < sp.length) : preQ sp i (sp.getD i default).pg.length = preP sp (i + 1) := by
  unfold preQ; rw [List.take_length, preP_succ hi]
theorem preQ_step {sp : List CS} {i k : Nat} (hk : k < (sp.getD i default).pg.length) : preQ sp i (k + 1) = preQ sp i k ++ [(sp.getD i default).pg.getD k default] := by
  unfold preQ; rw [take_step hk, List.append_assoc]
theorem preP_all (m : CW) : preP m.sp m.sp.length = allPg m := by unfold preP allPg; rw [List.take_length]
theorem preQ_len {sp : List CS} {i k : Nat} (hi : i < sp.length) : (preQ sp i k).length ≤ (sp.flatMap (·.pg)).length := by
  have h1 : (preQ sp i k).length ≤ (preP sp (i + 1)).length := by
    rw [preP_succ hi]
    unfold preQ
    rw [List.length_append, List.length_append, List.length_take]
    omega
  have h2 : sp.flatMap (·.pg) = preP sp (i + 1) ++ (sp.drop (i + 1)).flatMap (·.pg) := by
    unfold preP
    rw [← List.flatMap_append, List.take_append_drop]
  rw [h2, List.length_append]
  omega
theorem shC_le (q : List PG) (k : Nat) : shC q k ≤ q.length := List.countP_le_length
theorem sp_small {m : CW} (hr : rgOk m = true) (hs : m.sp.all (spOk m) = true) : (allPg m).length ≤ 4096 ∧ ∀ i j, j < (m.sp.getD i default).pg.length → ((m.sp.getD i default).pg.getD j default).fr < m.fm.length := by
  have h := of_decide_eq_true hr
  have hsi : ∀ i, i < m.sp.length → _ := fun i hi => spOk_iff.1 (List.all_eq_true.1 hs _ (mem_getD' hi))
  constructor
  · have := flat_len (sp := m.sp) (n := 512) fun s hm => by
      obtain ⟨i, hi, rfl⟩ := mem_ex hm
      have h3 := hsi i hi
      cases hl : (m.sp.getD i default).lv
      · rw [h3.1 hl]; simp
      · have := h3.2.1 hl; omega
    have h4 : m.sp.length * 512 ≤ 8 * 512 := Nat.mul_le_mul_right _ (by omega)
    unfold allPg
    omega
  · intro i j hj
    have hi : i < m.sp.length := by
      rcases Nat.lt_or_ge i m.sp.length with hi | hi
      · exact hi
      · rw [getD_none hi] at hj; cases hj
    exact (pgOk_iff.1 ((hsi i hi).2.2 _ (mem_getD' hj))).2.1
theorem chk_rg {m : CW} (h : rgOk m = false) : chkC m = 2 := by unfold chkC; rw [if_pos h]
theorem chk_sp {m : CW} (h : rgOk m = true) (h2 : m.sp.all (spOk m) = false) : chkC m = 3 := by unfold chkC; rw [if_neg (by simp [h]), if_pos h2]
theorem chk_fm {m : CW} {i : Nat} (h : rgOk m = true) (h2 : m.sp.all (spOk m) = true) (hi : i < m.fm.length) (hb : fmBad (allPg m) m.fm i = true) : chkC m = 11 := by
  unfold chkC; rw [if_neg (by simp [h]), if_neg (by simp [h2]), if_pos (range_any.2 ⟨i, hi, hb⟩)]
theorem chk_wr {m : CW} {i : Nat} (h : rgOk m = true) (h2 : m.sp.all (spOk m) = true) (h3 : ∀ i, i < m.fm.length → fmBad (allPg m) m.fm i = false) (hi : i < m.fm.length) (hb : wrBad (allPg m) i = true) : chkC m = 12 := by
  unfold chkC; rw [if_neg (by simp [h]), if_neg (by simp [h2]), if_neg (by rw [range_any_false.2 h3]; decide), if_pos (range_any.2 ⟨i, hi, hb⟩)]
theorem chk_no {m : CW} (h : rgOk m = true) (h2 : m.sp.all (spOk m) = true) (h3 : ∀ i, i < m.fm.length → fmBad (allPg m) m.fm i = false) (h4 : ∀ i, i < m.fm.length → wrBad (allPg m) i = false) : chkC m = 0 := by
  unfold chkC; rw [if_neg (by simp [h]), if_neg (by simp [h2]), if_neg (by rw [range_any_false.2 h3]; decide), if_neg (by rw [range_any_false.2 h4]; decide)]
theorem rg_no {m : CW} (h : ¬ (1 ≤ m.z ∧ m.z ≤ 512 ∧ 1 ≤ m.sp.length ∧ m.sp.length ≤ 8 ∧ 1 ≤ m.fm.length ∧ m.fm.length ≤ 256 ∧ 0 ≤ m.cp ∧ m.cp ≤ 1048576)) : rgOk m = false := decide_eq_false h
theorem rg_yes {m : CW} (h : 1 ≤ m.z ∧ m.z ≤ 512 ∧ 1 ≤ m.sp.length ∧ m.sp.length ≤ 8 ∧ 1 ≤ m.fm.length ∧ m.fm.length ≤ 256 ∧ 0 ≤ m.cp ∧ m.cp ≤ 1048576) : rgOk m = true := decide_eq_true h
section
variable (w0 : World) (cs : List Chunk)
set_option maxHeartbeats 2000000 in
theorem check_c {vS vF : Value} {xs : List SP} {m : CW} (hC : RdC (Hp w0 cs) vS vF xs m) (hL : CLe m) :
    Cal Try.prog 23 [cowV m.z vS vF m.cp] (Hp w0 cs) (fun _ : Unit => .int .i64 (chkC m)) (fun _ => Hp w0 cs) := by
  have hvl := hC.len
  have hRo := hC.out
  have hRf := hC.fr
  have hl1 := hL.sp
  have hl2 := hL.fm
  refine cal_of_tri Try.func23 rfl Try.ntmps23 rfl ?_
  (repeat (first | refine tri_seq ?_ | refine tri_then ?_)); refine tri_region ?_; (repeat (first | refine au_pure ?_ | refine au_pass ?_ | refine au_box (fun _ => ?_) | refine au_alloc (fun _ => ?_) | refine au_store ?_ | refine au_make rfl rfl (fun _ => ?_) | refine au_lit rfl rfl rfl (fun _ => ?_) | refine au_append rfl rfl rfl rfl (fun _ => au_norm ?_) | refine au_storeE rfl rfl rfl rfl ?_)); refine tri_nil ?_; (repeat refine tri_then ?_)
  rename_i g1
  (repeat (first | refine tri_seq ?_ | refine tri_then ?_)); refine tri_region ?_; (repeat (first | refine au_pure ?_ | refine au_pass ?_ | refine au_box (fun _ => ?_) | refine au_alloc (fun _ => ?_) | refine au_store ?_ | refine au_make rfl rfl (fun _ => ?_) | refine au_lit rfl rfl rfl (fun _ => ?_) | refine au_append rfl rfl rfl rfl (fun _ => au_norm ?_) | refine au_storeE rfl rfl rfl rfl ?_)); refine tri_nil ?_; (repeat refine tri_then ?_)
  (repeat (first | refine tri_seq ?_ | refine tri_then ?_))
  refine tri_cut1 (fun b => b = !rgOk m) (fun b => [(1, .pointer (some ⟨g1, 0, none⟩)), (44, .bool b)]) (fun b => Hp w0 (cowC g1 m.z vS vF m.cp :: cs)) ?_ ?_
  · (repeat (first | refine au_pure ?_ | refine au_pass ?_ | refine au_box (fun _ => ?_) | refine au_alloc (fun _ => ?_) | refine au_store ?_ | refine au_make rfl rfl (fun _ => ?_) | refine au_lit rfl rfl rfl (fun _ => ?_) | refine au_append rfl rfl rfl rfl (fun _ => au_norm ?_) | refine au_storeE rfl rfl rfl rfl ?_ | refine tri_seq ?_ | refine tri_then ?_ | refine tri_region ?_ | refine tri_nil ?_ | refine tri_skip ?_ | refine tri_ret ?_ | refine tri_exit ?_ | refine tri_thenr ?_ | refine tri_thene ?_ | refine tri_blkn ?_ | refine tri_blkr ?_ | refine tri_blke ?_ | refine tri_blko (by rfl) ?_ | refine tri_if_t (by rfl) ?_ | refine tri_if_f (by rfl) ?_ | fail))
    refine au_call rfl rfl (cl_of rfl rfl rfl (fun _ h => Ret.hp (in_any m.z 512 _) h)) ?_
    cases hd1 : decide (1 ≤ m.z ∧ m.z ≤ 512)
    · (repeat (first | refine au_pure ?_ | refine au_pass ?_ | refine au_box (fun _ => ?_) | refine au_alloc (fun _ => ?_) | refine au_store ?_ | refine au_make rfl rfl (fun _ => ?_) | refine au_lit rfl rfl rfl (fun _ => ?_) | refine au_append rfl rfl rfl rfl (fun _ => au_norm ?_) | refine au_storeE rfl rfl rfl rfl ?_ | refine tri_seq ?_ | refine tri_then ?_ | refine tri_region ?_ | refine tri_nil ?_ | refine tri_skip ?_ | refine tri_ret ?_ | refine tri_exit ?_ | refine tri_thenr ?_ | refine tri_thene ?_ | refine tri_blkn ?_ | refine tri_blkr ?_ | refine tri_blke ?_ | refine tri_blko (by rfl) ?_ | refine tri_if_t (by rfl) ?_ | refine tri_if_f (by rfl) ?_ | fail))
      exact tri_mt1 _ (by rw [rg_no (by have := of_decide_eq_false hd1; omega)] <;> rfl) (by repeat (first | exact trivial | refine ⟨rfl, ?_⟩)) (fun _ h => h)
    (repeat (first | refine au_pure ?_ | refine au_pass ?_ | refine au_box (fun _ => ?_) | refine au_alloc (fun _ => ?_) | refine au_store ?_ | refine au_make rfl rfl (fun _ => ?_) | refine au_lit rfl rfl rfl (fun _ => ?_) | refine au_append rfl rfl rfl rfl (fun _ => au_norm ?_) | refine au_storeE rfl rfl rfl rfl ?_ | refine tri_seq ?_ | refine tri_then ?_ | refine tri_region ?_ | refine tri_nil ?_ | refine tri_skip ?_ | refine tri_ret ?_ | refine tri_exit ?_ | refine tri_thenr ?_ | refine tri_thene ?_ | refine tri_blkn ?_ | refine tri_blkr ?_ | refine tri_blke ?_ | refine tri_blko (by rfl) ?_ | refine tri_if_t (by rfl) ?_ | refine tri_if_f (by rfl) ?_ | fail))
    refine au_call rfl rfl (cl_of rfl rfl rfl (fun _ h => Ret.hp (in_any _ 8 _) h)) ?_
    cases hd2 : decide (1 ≤ (xs.length : Int) ∧ (xs.length : Int) ≤ 8)
    · (repeat (first | refine au_pure ?_ | refine au_pass ?_ | refine au_box (fun _ => ?_) | refine au_alloc (fun _ => ?_) | refine au_store ?_ | refine au_make rfl rfl (fun _ => ?_) | refine au_lit rfl rfl rfl (fun _ => ?_) | refine au_append rfl rfl rfl rfl (fun _ => au_norm ?_) | refine au_storeE rfl rfl rfl rfl ?_ | refine tri_seq ?_ | refine tri_then ?_ | refine tri_region ?_ | refine tri_nil ?_ | refine tri_skip ?_ | refine tri_ret ?_ | refine tri_exit ?_ | refine tri_thenr ?_ | refine tri_thene ?_ | refine tri_blkn ?_ | refine tri_blkr ?_ | refine tri_blke ?_ | refine tri_blko (by rfl) ?_ | refine tri_if_t (by rfl) ?_ | refine tri_if_f (by rfl) ?_ | fail))
      exact tri_mt1 _ (by rw [rg_no (by have := of_decide_eq_false hd2; omega)] <;> rfl) (by repeat (first | exact trivial | refine ⟨rfl, ?_⟩)) (fun _ h => h)
    (repeat (first | refine au_pure ?_ | refine au_pass ?_ | refine au_box (fun _ => ?_) | refine au_alloc (fun _ => ?_) | refine au_store ?_ | refine au_make rfl rfl (fun _ => ?_) | refine au_lit rfl rfl rfl (fun _ => ?_) | refine au_append rfl rfl rfl rfl (fun _ => au_norm ?_) | refine au_storeE rfl rfl rfl rfl ?_ | refine tri_seq ?_ | refine tri_then ?_ | refine tri_region ?_ | refine tri_nil ?_ | refine tri_skip ?_ | refine tri_ret ?_ | refine tri_exit ?_ | refine tri_thenr ?_ | refine tri_thene ?_ | refine tri_blkn ?_ | refine tri_blkr ?_ | refine tri_blke ?_ | refine tri_blko (by rfl) ?_ | refine tri_if_t (by rfl) ?_ | refine tri_if_f (by rfl) ?_ | fail))
    refine au_call rfl rfl (cl_of rfl rfl rfl (fun _ h => Ret.hp (in_any _ 256 _) h)) ?_
    cases hd3 : decide (1 ≤ (m.fm.length : Int) ∧ (m.fm.length : Int) ≤ 256)
    · (repeat (first | refine au_pure ?_ | refine au_pass ?_ | refine au_box (fun _ => ?_) | refine au_alloc (fun _ => ?_) | refine au_store ?_ | refine au_make rfl rfl (fun _ => ?_) | refine au_lit rfl rfl rfl (fun _ => ?_) | refine au_append rfl rfl rfl rfl (fun _ => au_norm ?_) | refine au_storeE rfl rfl rfl rfl ?_ | refine tri_seq ?_ | refine tri_then ?_ | refine tri_region ?_ | refine tri_nil ?_ | refine tri_skip ?_ | refine tri_ret ?_ | refine tri_exit ?_ | refine tri_thenr ?_ | refine tri_thene ?_ | refine tri_blkn ?_ | refine tri_blkr ?_ | refine tri_blke ?_ | refine tri_blko (by rfl) ?_ | refine tri_if_t (by rfl) ?_ | refine tri_if_f (by rfl) ?_ | fail))
      exact tri_mt1 _ (by rw [rg_no (by have := of_decide_eq_false hd3; omega)] <;> rfl) (by repeat (first | exact trivial | refine ⟨rfl, ?_⟩)) (fun _ h => h)
    (repeat (first | refine au_pure ?_ | refine au_pass ?_ | refine au_box (fun _ => ?_) | refine au_alloc (fun _ => ?_) | refine au_store ?_ | refine au_make rfl rfl (fun _ => ?_) | refine au_lit rfl rfl rfl (fun _ => ?_) | refine au_append rfl rfl rfl rfl (fun _ => au_norm ?_) | refine au_storeE rfl rfl rfl rfl ?_ | refine tri_seq ?_ | refine tri_then ?_ | refine tri_region ?_ | refine tri_nil ?_ | refine tri_skip ?_ | refine tri_ret ?_ | refine tri_exit ?_ | refine tri_thenr ?_ | refine tri_thene ?_ | refine tri_blkn ?_ | refine tri_blkr ?_ | refine tri_blke ?_ | refine tri_blko (by rfl) ?_ | refine tri_if_t (by rfl) ?_ | refine tri_if_f (by rfl) ?_ | fail))
    cases hd4 : decide (m.cp < 0)
    · (repeat (first | refine au_pure ?_ | refine au_pass ?_ | refine au_box (fun _ => ?_) | refine au_alloc (fun _ => ?_) | refine au_store ?_ | refine au_make rfl rfl (fun _ => ?_) | refine au_lit rfl rfl rfl (fun _ => ?_) | refine au_append rfl rfl rfl rfl (fun _ => au_norm ?_) | refine au_storeE rfl rfl rfl rfl ?_ | refine tri_seq ?_ | refine tri_then ?_ | refine tri_region ?_ | refine tri_nil ?_ | refine tri_skip ?_ | refine tri_ret ?_ | refine tri_exit ?_ | refine tri_thenr ?_ | refine tri_thene ?_ | refine tri_blkn ?_ | refine tri_blkr ?_ | refine tri_blke ?_ | refine tri_blko (by rfl) ?_ | refine tri_if_t (by rfl) ?_ | refine tri_if_f (by rfl) ?_ | fail))
      have h1 := of_decide_eq_true hd1
      have h2 := of_decide_eq_true hd2
      have h3 := of_decide_eq_true hd3
      have h4 := of_decide_eq_false hd4
      cases hd5 : decide (m.cp > 1048576)
      · have h5 := of_decide_eq_false hd5
        exact tri_mt1 _ (by rw [rg_yes (by omega)] <;> rfl) (by repeat (first | exact trivial | refine ⟨rfl, ?_⟩)) (fun _ h => h)
      · have h5 := of_decide_eq_true hd5
        exact tri_mt1 _ (by rw [rg_no (by omega)] <;> rfl) (by repeat (first | exact trivial | refine ⟨rfl, ?_⟩)) (fun _ h => h)
    · (repeat (first | refine au_pure ?_ | refine au_pass ?_ | refine au_box (fun _ => ?_) | refine au_alloc (fun _ => ?_) | refine au_store ?_ | refine au_make rfl rfl (fun _ => ?_) | refine au_lit rfl rfl rfl (fun _ => ?_) | refine au_append rfl rfl rfl rfl (fun _ => au_norm ?_) | refine au_storeE rfl rfl rfl rfl ?_ | refine tri_seq ?_ | refine tri_then ?_ | refine tri_region ?_ | refine tri_nil ?_ | refine tri_skip ?_ | refine tri_ret ?_ | refine tri_exit ?_ | refine tri_thenr ?_ | refine tri_thene ?_ | refine tri_blkn ?_ | refine tri_blkr ?_ | refine tri_blke ?_ | refine tri_blko (by rfl) ?_ | refine tri_if_t (by rfl) ?_ | refine tri_if_f (by rfl) ?_ | fail))
      exact tri_mt1 _ (by rw [rg_no (by have := of_decide_eq_true hd4; omega)] <;> rfl) (by repeat (first | exact trivial | refine ⟨rfl, ?_⟩)) (fun _ h => h)
  intro b hb
  cases b with
  | true =>
    (repeat (first | refine au_pure ?_ | refine au_pass ?_ | refine au_box (fun _ => ?_) | refine au_alloc (fun _ => ?_) | refine au_store ?_ | refine au_make rfl rfl (fun _ => ?_) | refine au_lit rfl rfl rfl (fun _ => ?_) | refine au_append rfl rfl rfl rfl (fun _ => au_norm ?_) | refine au_storeE rfl rfl rfl rfl ?_ | refine tri_seq ?_ | refine tri_then ?_ | refine tri_region ?_ | refine tri_nil ?_ | refine tri_skip ?_ | refine tri_ret ?_ | refine tri_exit ?_ | refine tri_thenr ?_ | refine tri_thene ?_ | refine tri_blkn ?_ | refine tri_blkr ?_ | refine tri_blke ?_ | refine tri_blko (by rfl) ?_ | refine tri_if_t (by rfl) ?_ | refine tri_if_f (by rfl) ?_ | fail))
    refine au_done1 rfl ?_
    intro w hw; refine ⟨(), ?_, hw.sub (by repeat (first | exact List.Sublist.refl _ | assumption | apply List.Sublist.cons_cons | apply List.Sublist.cons))⟩
    rw [chk_rg (by cases hr : rgOk m; rfl; rw [hr] at hb; cases hb)]
  | false =>
    have hrg : rgOk m = true := by cases hr : rgOk m; rw [hr] at hb; cases hb; rfl
    have hrg' := of_decide_eq_true hrg
    (repeat (first | refine au_pure ?_ | refine au_pass ?_ | refine au_box (fun _ => ?_) | refine au_alloc (fun _ => ?_) | refine au_store ?_ | refine au_make rfl rfl (fun _ => ?_) | refine au_lit rfl rfl rfl (fun _ => ?_) | refine au_append rfl rfl rfl rfl (fun _ => au_norm ?_) | refine au_storeE rfl rfl rfl rfl ?_ | refine tri_seq ?_ | refine tri_then ?_ | refine tri_region ?_ | refine tri_nil ?_ | refine tri_skip ?_ | refine tri_ret ?_ | refine tri_exit ?_ | refine tri_thenr ?_ | refine tri_thene ?_ | refine tri_blkn ?_ | refine tri_blkr ?_ | refine tri_blke ?_ | refine tri_blko (by rfl) ?_ | refine tri_if_t (by rfl) ?_ | refine tri_if_f (by rfl) ?_ | fail))
    refine au_callC rfl rfl rfl rfl rfl (forms_c w0 _ hC.cons hL) (fun _ => ?_)
    cases hsp : m.sp.all (spOk m)
    · (repeat (first | refine au_pure ?_ | refine au_pass ?_ | refine au_box (fun _ => ?_) | refine au_alloc (fun _ => ?_) | refine au_store ?_ | refine au_make rfl rfl (fun _ => ?_) | refine au_lit rfl rfl rfl (fun _ => ?_) | refine au_append rfl rfl rfl rfl (fun _ => au_norm ?_) | refine au_storeE rfl rfl rfl rfl ?_ | refine tri_seq ?_ | refine tri_then ?_ | refine tri_region ?_ | refine tri_nil ?_ | refine tri_skip ?_ | refine tri_ret ?_ | refine tri_exit ?_ | refine tri_thenr ?_ | refine tri_thene ?_ | refine tri_blkn ?_ | refine tri_blkr ?_ | refine tri_blke ?_ | refine tri_blko (by rfl) ?_ | refine tri_if_t (by rfl) ?_ | refine tri_if_f (by rfl) ?_ | fail))
      refine au_done1 rfl ?_
      intro w hw; refine ⟨(), ?_, hw.sub (by repeat (first | exact List.Sublist.refl _ | assumption | apply List.Sublist.cons_cons | apply List.Sublist.cons))⟩
      rw [chk_sp hrg hsp]
    obtain ⟨hal, hfr⟩ := sp_small hrg hsp
    (repeat (first | refine au_pure ?_ | refine au_pass ?_ | refine au_box (fun _ => ?_) | refine au_alloc (fun _ => ?_) | refine au_store ?_ | refine au_make rfl rfl (fun _ => ?_) | refine au_lit rfl rfl rfl (fun _ => ?_) | refine au_append rfl rfl rfl rfl (fun _ => au_norm ?_) | refine au_storeE rfl rfl rfl rfl ?_ | refine tri_seq ?_ | refine tri_then ?_ | refine tri_region ?_ | refine tri_nil ?_ | refine tri_skip ?_ | refine tri_ret ?_ | refine tri_exit ?_ | refine tri_thenr ?_ | refine tri_thene ?_ | refine tri_blkn ?_ | refine tri_blkr ?_ | refine tri_blke ?_ | refine tri_blko (by rfl) ?_ | refine tri_if_t (by rfl) ?_ | refine tri_if_f (by rfl) ?_ | fail))
    rename_i r4 r5
    have hn0 : ∀ q : List PG, q = [] → List.replicate m.fm.length (default : Int) = SH m.fm.length q ∧ List.replicate m.fm.length (default : Bool) = WR m.fm.length q := fun q hq => by
      subst hq
      refine ⟨?_, ?_⟩
      · apply List.ext_getElem?
        intro j
        unfold SH
        rw [List.getElem?_replicate, List.getElem?_map]
        by_cases hj : j < m.fm.length
        · rw [if_pos hj, List.getElem?_range hj]; rfl
        · rw [if_neg hj, List.getElem?_eq_none (by simp; omega)]; rfl
      · apply List.ext_getElem?
        intro j
        unfold WR
        rw [List.getElem?_replicate, List.getElem?_map]
        by_cases hj : j < m.fm.length
        · rw [if_pos hj, List.getElem?_range hj]; rfl
        · rw [if_neg hj, List.getElem?_eq_none (by simp; omega)]; rfl
    obtain ⟨e1, e2⟩ := hn0 (preP m.sp 0) rfl
    rw [e1, e2]
    refine tri_block ?_
    refine tri_loop1 (fun (i : Nat) => i ≤ m.sp.length) (fun i => [(1, .pointer (some ⟨g1, 0, none⟩)), (4, r4.v), (5, r5.v), (57, vS), (58, .int .i64 (xs.length : Int)), (59, .int .i64 (i : Int))]) (fun i => Hp w0 (boS r5 (WR m.fm.length (preP m.sp i)) :: intS r4 (SH m.fm.length (preP m.sp i)) :: cowC g1 m.z vS vF m.cp :: cs)) (fun i => m.sp.length - i)
      0 (by omega) (by repeat (first | exact trivial | refine ⟨rfl, ?_⟩)) (fun w h => h.sub (by repeat (first | exact List.Sublist.refl _ | assumption | apply List.Sublist.cons_cons | apply List.Sublist.cons))) ?_
    intro i hi
    (repeat (first | refine au_pure ?_ | refine au_pass ?_ | refine au_box (fun _ => ?_) | refine au_alloc (fun _ => ?_) | refine au_store ?_ | refine au_make rfl rfl (fun _ => ?_) | refine au_lit rfl rfl rfl (fun _ => ?_) | refine au_append rfl rfl rfl rfl (fun _ => au_norm ?_) | refine au_storeE rfl rfl rfl rfl ?_ | refine tri_seq ?_ | refine tri_then ?_ | refine tri_region ?_ | refine tri_nil ?_ | refine tri_skip ?_ | refine tri_ret ?_ | refine tri_exit ?_ | refine tri_thenr ?_ | refine tri_thene ?_ | refine tri_blkn ?_ | refine tri_blkr ?_ | refine tri_blke ?_ | refine tri_blko (by rfl) ?_ | refine tri_if_t (by rfl) ?_ | refine tri_if_f (by rfl) ?_ | fail))
    ((first | refine tri_cond (by rfl) (fun hc => ?_) (fun hc => ?_) | refine tri_gsplit (by rfl) (by rfl) (by (fail_if_success exact (rfl : _ = some (Value.bool true))); (fail_if_success exact (rfl : _ = some (Value.bool false))); rfl) (fun hc => ?_) (fun hc => ?_)) <;> (try simp only [decide_eq_true_eq, decide_eq_false_iff_not, beq_iff_eq, bne_iff_ne, ne_eq, Bool.not_eq_true', Bool.not_eq_false', beq_eq_false_iff_ne, bne_eq_false_iff_eq, Int.not_lt, Int.not_le, gt_iff_lt, ge_iff_le, Bool.and_eq_true, Bool.or_eq_true, Bool.and_eq_false_iff, Bool.or_eq_false_iff, Decidable.not_not, not_true_eq_false, not_false_eq_true, and_true, true_and, or_false, false_or, or_true, true_or, and_false, false_and, eq_self, Bool.true_eq_false, Bool.false_eq_true] at hc) <;> (try (exfalso; omega)))
    · (repeat (first | refine au_pure ?_ | refine au_pass ?_ | refine au_box (fun _ => ?_) | refine au_alloc (fun _ => ?_) | refine au_store ?_ | refine au_make rfl rfl (fun _ => ?_) | refine au_lit rfl rfl rfl (fun _ => ?_) | refine au_append rfl rfl rfl rfl (fun _ => au_norm ?_) | refine au_storeE rfl rfl rfl rfl ?_ | refine tri_seq ?_ | refine tri_then ?_ | refine tri_region ?_ | refine tri_nil ?_ | refine tri_skip ?_ | refine tri_ret ?_ | refine tri_exit ?_ | refine tri_thenr ?_ | refine tri_thene ?_ | refine tri_blkn ?_ | refine tri_blkr ?_ | refine tri_blke ?_ | refine tri_blko (by rfl) ?_ | refine tri_if_t (by rfl) ?_ | refine tri_if_f (by rfl) ?_ | fail))
      refine tri_block ?_
      have hlv := hC.lv i
      have hpg := hC.pg i
      have hpl := hL.pg i
      have hfi := hfr i
      have hil : i < m.sp.length := by omega
      have hend := preQ_end hil
      have hst := fun k => preQ_step (sp := m.sp) (i := i) (k := k)
      have hql := fun k => preQ_len (k := k) hil
      obtain ⟨x, hx⟩ : ∃ x, x = xs.getD i default := ⟨_, rfl⟩
      obtain ⟨s, hs⟩ : ∃ s, s = m.sp.getD i default := ⟨_, rfl⟩
      rw [← hx, ← hs] at hlv hpg
      rw [← hs] at hpl hfi hend hst
      (repeat (first | refine au_pure ?_ | refine au_pass ?_ | refine au_box (fun _ => ?_) | refine au_alloc (fun _ => ?_) | refine au_store ?_ | refine au_make rfl rfl (fun _ => ?_) | refine au_lit rfl rfl rfl (fun _ => ?_) | refine au_append rfl rfl rfl rfl (fun _ => au_norm ?_) | refine au_storeE rfl rfl rfl rfl ?_ | refine tri_seq ?_ | refine tri_then ?_ | refine tri_region ?_ | refine tri_nil ?_ | refine tri_skip ?_ | refine tri_ret ?_ | refine tri_exit ?_ | refine tri_thenr ?_ | refine tri_thene ?_ | refine tri_blkn ?_ | refine tri_blkr ?_ | refine tri_blke ?_ | refine tri_blko (by rfl) ?_ | refine tri_if_t (by rfl) ?_ | refine tri_if_f (by rfl) ?_ | fail))
      rename_i g7
      rw [← hx]
      rw [← preQ_zero]
      (repeat (first | refine au_pure ?_ | refine au_pass ?_ | refine au_box (fun _ => ?_) | refine au_alloc (fun _ => ?_) | refine au_store ?_ | refine au_make rfl rfl (fun _ => ?_) | refine au_lit rfl rfl rfl (fun _ => ?_) | refine au_append rfl rfl rfl rfl (fun _ => au_norm ?_) | refine au_storeE rfl rfl rfl rfl ?_ | refine tri_seq ?_ | refine tri_then ?_ | refine tri_region ?_ | refine tri_nil ?_ | refine tri_skip ?_ | refine tri_ret ?_ | refine tri_exit ?_ | refine tri_thenr ?_ | refine tri_thene ?_ | refine tri_blkn ?_ | refine tri_blkr ?_ | refine tri_blke ?_ | refine tri_blko (by rfl) ?_ | refine tri_if_t (by rfl) ?_ | refine tri_if_f (by rfl) ?_ | fail))
      refine tri_block ?_
      refine tri_loop1 (fun (k : Nat) => k ≤ s.pg.length) (fun k => [(1, .pointer (some ⟨g1, 0, none⟩)), (4, r4.v), (5, r5.v), (57, vS), (58, .int .i64 (xs.length : Int)), (59, .int .i64 (i : Int)), (64, x.s.v), (65, .int .i64 (s.pg.length : Int)), (66, .int .i64 (k : Int))]) (fun k => Hp w0 (boS r5 (WR m.fm.length (preQ m.sp i k)) :: intS r4 (SH m.fm.length (preQ m.sp i k)) :: cowC g1 m.z vS vF m.cp :: cs)) (fun k => s.pg.length - k)
        0 (by omega) (by repeat (first | exact trivial | refine ⟨rfl, ?_⟩)) (fun w h => h.sub (by repeat (first | exact List.Sublist.refl _ | assumption | apply List.Sublist.cons_cons | apply List.Sublist.cons))) ?_
      intro k hk
      (repeat (first | refine au_pure ?_ | refine au_pass ?_ | refine au_box (fun _ => ?_) | refine au_alloc (fun _ => ?_) | refine au_store ?_ | refine au_make rfl rfl (fun _ => ?_) | refine au_lit rfl rfl rfl (fun _ => ?_) | refine au_append rfl rfl rfl rfl (fun _ => au_norm ?_) | refine au_storeE rfl rfl rfl rfl ?_ | refine tri_seq ?_ | refine tri_then ?_ | refine tri_region ?_ | refine tri_nil ?_ | refine tri_skip ?_ | refine tri_ret ?_ | refine tri_exit ?_ | refine tri_thenr ?_ | refine tri_thene ?_ | refine tri_blkn ?_ | refine tri_blkr ?_ | refine tri_blke ?_ | refine tri_blko (by rfl) ?_ | refine tri_if_t (by rfl) ?_ | refine tri_if_f (by rfl) ?_ | fail))
      ((first | refine tri_cond (by rfl) (fun hc => ?_) (fun hc => ?_) | refine tri_gsplit (by rfl) (by rfl) (by (fail_if_success exact (rfl : _ = some (Value.bool true))); (fail_if_success exact (rfl : _ = some (Value.bool false))); rfl) (fun hc => ?_) (fun hc => ?_)) <;> (try simp only [decide_eq_true_eq, decide_eq_false_iff_not, beq_iff_eq, bne_iff_ne, ne_eq, Bool.not_eq_true', Bool.not_eq_false', beq_eq_false_iff_ne, bne_eq_false_iff_eq, Int.not_lt, Int.not_le, gt_iff_lt, ge_iff_le, Bool.and_eq_true, Bool.or_eq_true, Bool.and_eq_false_iff, Bool.or_eq_false_iff, Decidable.not_not, not_true_eq_false, not_false_eq_true, and_true, true_and, or_false, false_or, or_true, true_or, and_false, false_and, eq_self, Bool.true_eq_false, Bool.false_eq_true] at hc) <;> (try (exfalso; omega)))
      · have hkl : k < s.pg.length := by omega
        have hyf := hfi k hkl
        have hstk := hst k hkl
        have hqk := hql k
        (repeat (first | refine au_pure ?_ | refine au_pass ?_ | refine au_box (fun _ => ?_) | refine au_alloc (fun _ => ?_) | refine au_store ?_ | refine au_make rfl rfl (fun _ => ?_) | refine au_lit rfl rfl rfl (fun _ => ?_) | refine au_append rfl rfl rfl rfl (fun _ => au_norm ?_) | refine au_storeE rfl rfl rfl rfl ?_ | refine tri_seq ?_ | refine tri_then ?_ | refine tri_region ?_ | refine tri_nil ?_ | refine tri_skip ?_ | refine tri_ret ?_ | refine tri_exit ?_ | refine tri_thenr ?_ | refine tri_thene ?_ | refine tri_blkn ?_ | refine tri_blkr ?_ | refine tri_blke ?_ | refine tri_blko (by rfl) ?_ | refine tri_if_t (by rfl) ?_ | refine tri_if_f (by rfl) ?_ | fail))
        refine tri_block ?_
        obtain ⟨y, hy⟩ : ∃ y, y = s.pg.getD k default := ⟨_, rfl⟩
        rw [← hy] at hyf hstk
        (repeat (first | refine au_pure ?_ | refine au_pass ?_ | refine au_box (fun _ => ?_) | refine au_alloc (fun _ => ?_) | refine au_store ?_ | refine au_make rfl rfl (fun _ => ?_) | refine au_lit rfl rfl rfl (fun _ => ?_) | refine au_append rfl rfl rfl rfl (fun _ => au_norm ?_) | refine au_storeE rfl rfl rfl rfl ?_ | refine tri_seq ?_ | refine tri_then ?_ | refine tri_region ?_ | refine tri_nil ?_ | refine tri_skip ?_ | refine tri_ret ?_ | refine tri_exit ?_ | refine tri_thenr ?_ | refine tri_thene ?_ | refine tri_blkn ?_ | refine tri_blkr ?_ | refine tri_blke ?_ | refine tri_blko (by rfl) ?_ | refine tri_if_t (by rfl) ?_ | refine tri_if_f (by rfl) ?_ | fail))
        rename_i g9
        rw [← hy]
        (repeat (first | refine au_pure ?_ | refine au_pass ?_ | refine au_box (fun _ => ?_) | refine au_alloc (fun _ => ?_) | refine au_store ?_ | refine au_make rfl rfl (fun _ => ?_) | refine au_lit rfl rfl rfl (fun _ => ?_) | refine au_append rfl rfl rfl rfl (fun _ => au_norm ?_) | refine au_storeE rfl rfl rfl rfl ?_ | refine tri_seq ?_ | refine tri_then ?_ | refine tri_region ?_ | refine tri_nil ?_ | refine tri_skip ?_ | refine tri_ret ?_ | refine tri_exit ?_ | refine tri_thenr ?_ | refine tri_thene ?_ | refine tri_blkn ?_ | refine tri_blkr ?_ | refine tri_blke ?_ | refine tri_blko (by rfl) ?_ | refine tri_if_t (by rfl) ?_ | refine tri_if_f (by rfl) ?_ | fail))
        obtain ⟨q, hq⟩ : ∃ q, q = preQ m.sp i k := ⟨_, rfl⟩
        rw [← hq] at hstk hqk ⊢
        by_cases hy0 : 0 ≤ y.fr
        · have hsl := sh_len m.fm.length q
          have hwl := wr_len m.fm.length q
          have hs1 := sh_step (q := q) hy0 hyf
          have hw1 := wr_step (q := q) hy0 hyf
          have hsv : 0 ≤ (SH m.fm.length q).getD y.fr.toNat default ∧ (SH m.fm.length q).getD y.fr.toNat default ≤ 4096 := by
            rw [sh_get (by omega)]
            have := shC_le q y.fr.toNat
            unfold allPg at hal
            omega
          rw [← hstk] at hs1 hw1
          obtain ⟨S, hS⟩ : ∃ S, S = SH m.fm.length q := ⟨_, rfl⟩
          obtain ⟨T, hT⟩ : ∃ T, T = WR m.fm.length q := ⟨_, rfl⟩
          rw [← hS] at hs1 hsl hsv ⊢
          rw [← hT] at hw1 hwl ⊢
          rw [decide_eq_true (show y.fr ≥ 0 from hy0)]
          (repeat (first | refine au_pure ?_ | refine au_pass ?_ | refine au_box (fun _ => ?_) | refine au_alloc (fun _ => ?_) | refine au_store ?_ | refine au_make rfl rfl (fun _ => ?_) | refine au_lit rfl rfl rfl (fun _ => ?_) | refine au_append rfl rfl rfl rfl (fun _ => au_norm ?_) | refine au_storeE rfl rfl rfl rfl ?_ | refine tri_seq ?_ | refine tri_then ?_ | refine tri_region ?_ | refine tri_nil ?_ | refine tri_skip ?_ | refine tri_ret ?_ | refine tri_exit ?_ | refine tri_thenr ?_ | refine tri_thene ?_ | refine tri_blkn ?_ | refine tri_blkr ?_ | refine tri_blke ?_ | refine tri_blko (by rfl) ?_ | refine tri_if_t (by rfl) ?_ | refine tri_if_f (by rfl) ?_ | fail))
          refine tri_weak (H' := Hp w0 (pgC g9 y :: boS r5 T :: intS r4 (SH m.fm.length (preQ m.sp i (k + 1))) :: cowC g1 m.z vS vF m.cp :: cs)) (fun w h => by rw [← hs1]; exact h) ?_
          refine tri_drawt 13 rfl (by kernel_rfl) ?_; repeat (first | refine tris_pure rfl rfl ?_ | refine tris_pass rfl rfl ?_ | refine tris_nil ?_)
          cases hd : T.getD y.fr.toNat default
          · (repeat (first | refine tris_pure rfl rfl ?_ | refine tris_pass rfl rfl ?_ | refine tris_nil ?_))
            rw [hd] at hw1
            (repeat (first | refine au_pure ?_ | refine au_pass ?_ | refine au_box (fun _ => ?_) | refine au_alloc (fun _ => ?_) | refine au_store ?_ | refine au_make rfl rfl (fun _ => ?_) | refine au_lit rfl rfl rfl (fun _ => ?_) | refine au_append rfl rfl rfl rfl (fun _ => au_norm ?_) | refine au_storeE rfl rfl rfl rfl ?_ | refine tri_seq ?_ | refine tri_then ?_ | refine tri_region ?_ | refine tri_nil ?_ | refine tri_skip ?_ | refine tri_ret ?_ | refine tri_exit ?_ | refine tri_thenr ?_ | refine tri_thene ?_ | refine tri_blkn ?_ | refine tri_blkr ?_ | refine tri_blke ?_ | refine tri_blko (by rfl) ?_ | refine tri_if_t (by rfl) ?_ | refine tri_if_f (by rfl) ?_ | fail))
            exact tri_nx1 (k + 1) (by omega) (by omega) (by repeat (first | exact trivial | refine ⟨rfl, ?_⟩)) (fun w h => by rw [← hw1]; exact h.sub (by repeat (first | exact List.Sublist.refl _ | assumption | apply List.Sublist.cons_cons | apply List.Sublist.cons)))
          · (repeat (first | refine tris_pure rfl rfl ?_ | refine tris_pass rfl rfl ?_ | refine tris_nil ?_))
            rw [hd] at hw1
            (repeat (first | refine au_pure ?_ | refine au_pass ?_ | refine au_box (fun _ => ?_) | refine au_alloc (fun _ => ?_) | refine au_store ?_ | refine au_make rfl rfl (fun _ => ?_) | refine au_lit rfl rfl rfl (fun _ => ?_) | refine au_append rfl rfl rfl rfl (fun _ => au_norm ?_) | refine au_storeE rfl rfl rfl rfl ?_ | refine tri_seq ?_ | refine tri_then ?_ | refine tri_region ?_ | refine tri_nil ?_ | refine tri_skip ?_ | refine tri_ret ?_ | refine tri_exit ?_ | refine tri_thenr ?_ | refine tri_thene ?_ | refine tri_blkn ?_ | refine tri_blkr ?_ | refine tri_blke ?_ | refine tri_blko (by rfl) ?_ | refine tri_if_t (by rfl) ?_ | refine tri_if_f (by rfl) ?_ | fail))
            exact tri_nx1 (k + 1) (by omega) (by omega) (by repeat (first | exact trivial | refine ⟨rfl, ?_⟩)) (fun w h => by rw [← hw1]; exact h.sub (by repeat (first | exact List.Sublist.refl _ | assumption | apply List.Sublist.cons_cons | apply List.Sublist.cons)))
        · rw [decide_eq_false (show ¬ y.fr ≥ 0 from hy0)]
          have e1 := sh_skip (n := m.fm.length) (q := q) (y := y) (by omega)
          have e2 := wr_skip (n := m.fm.length) (q := q) (y := y) (by omega)
          rw [← hstk] at e1 e2
          (repeat (first | refine au_pure ?_ | refine au_pass ?_ | refine au_box (fun _ => ?_) | refine au_alloc (fun _ => ?_) | refine au_store ?_ | refine au_make rfl rfl (fun _ => ?_) | refine au_lit rfl rfl rfl (fun _ => ?_) | refine au_append rfl rfl rfl rfl (fun _ => au_norm ?_) | refine au_storeE rfl rfl rfl rfl ?_ | refine tri_seq ?_ | refine tri_then ?_ | refine tri_region ?_ | refine tri_nil ?_ | refine tri_skip ?_ | refine tri_ret ?_ | refine tri_exit ?_ | refine tri_thenr ?_ | refine tri_thene ?_ | refine tri_blkn ?_ | refine tri_blkr ?_ | refine tri_blke ?_ | refine tri_blko (by rfl) ?_ | refine tri_if_t (by rfl) ?_ | refine tri_if_f (by rfl) ?_ | fail))
          exact tri_nx1 (k + 1) (by omega) (by omega) (by repeat (first | exact trivial | refine ⟨rfl, ?_⟩)) (fun w h => by rw [e1, e2]; exact h.sub (by repeat (first | exact List.Sublist.refl _ | assumption | apply List.Sublist.cons_cons | apply List.Sublist.cons)))
      · have hke : k = s.pg.length := by omega
        subst hke
        rw [hend]
        (repeat (first | refine au_pure ?_ | refine au_pass ?_ | refine au_box (fun _ => ?_) | refine au_alloc (fun _ => ?_) | refine au_store ?_ | refine au_make rfl rfl (fun _ => ?_) | refine au_lit rfl rfl rfl (fun _ => ?_) | refine au_append rfl rfl rfl rfl (fun _ => au_norm ?_) | refine au_storeE rfl rfl rfl rfl ?_ | refine tri_seq ?_ | refine tri_then ?_ | refine tri_region ?_ | refine tri_nil ?_ | refine tri_skip ?_ | refine tri_ret ?_ | refine tri_exit ?_ | refine tri_thenr ?_ | refine tri_thene ?_ | refine tri_blkn ?_ | refine tri_blkr ?_ | refine tri_blke ?_ | refine tri_blko (by rfl) ?_ | refine tri_if_t (by rfl) ?_ | refine tri_if_f (by rfl) ?_ | fail))
        exact tri_nx1 (i + 1) (by omega) (by omega) (by repeat (first | exact trivial | refine ⟨rfl, ?_⟩)) (fun w h => h.sub (by repeat (first | exact List.Sublist.refl _ | assumption | apply List.Sublist.cons_cons | apply List.Sublist.cons)))
    · have hil : i = m.sp.length := by omega
      subst hil
      rw [preP_all]
      have hsl := sh_len m.fm.length (allPg m)
      have hwl := wr_len m.fm.length (allPg m)
      have hsg := fun j (hj : j < m.fm.length) => sh_get (q := allPg m) hj
      have hwg := fun j (hj : j < m.fm.length) => wr_get (q := allPg m) hj
      obtain ⟨S, hS⟩ : ∃ S, S = SH m.fm.length (allPg m) := ⟨_, rfl⟩
      obtain ⟨T, hT⟩ : ∃ T, T = WR m.fm.length (allPg m) := ⟨_, rfl⟩
      rw [← hS] at hsl hsg ⊢
      rw [← hT] at hwl hwg ⊢
      (repeat (first | refine au_pure ?_ | refine au_pass ?_ | refine au_box (fun _ => ?_) | refine au_alloc (fun _ => ?_) | refine au_store ?_ | refine au_make rfl rfl (fun _ => ?_) | refine au_lit rfl rfl rfl (fun _ => ?_) | refine au_append rfl rfl rfl rfl (fun _ => au_norm ?_) | refine au_storeE rfl rfl rfl rfl ?_ | refine tri_seq ?_ | refine tri_then ?_ | refine tri_region ?_ | refine tri_nil ?_ | refine tri_skip ?_ | refine tri_ret ?_ | refine tri_exit ?_ | refine tri_thenr ?_ | refine tri_thene ?_ | refine tri_blkn ?_ | refine tri_blkr ?_ | refine tri_blke ?_ | refine tri_blko (by rfl) ?_ | refine tri_if_t (by rfl) ?_ | refine tri_if_f (by rfl) ?_ | fail))
      refine tri_block ?_
      refine tri_loop1 (fun (i : Nat) => i ≤ m.fm.length ∧ ∀ j, j < i → fmBad (allPg m) m.fm j = false) (fun i => [(1, .pointer (some ⟨g1, 0, none⟩)), (4, r4.v), (5, r5.v), (96, vF), (97, .int .i64 (m.fm.length : Int)), (98, .int .i64 (i : Int))]) (fun i => Hp w0 (boS r5 T :: intS r4 S :: cowC g1 m.z vS vF m.cp :: cs)) (fun i => m.fm.length - i)
        0 ⟨by omega, fun j hj => by omega⟩ (by repeat (first | exact trivial | refine ⟨rfl, ?_⟩)) (fun w h => h.sub (by repeat (first | exact List.Sublist.refl _ | assumption | apply List.Sublist.cons_cons | apply List.Sublist.cons))) ?_
      rintro i ⟨hi, hp⟩
      (repeat (first | refine au_pure ?_ | refine au_pass ?_ | refine au_box (fun _ => ?_) | refine au_alloc (fun _ => ?_) | refine au_store ?_ | refine au_make rfl rfl (fun _ => ?_) | refine au_lit rfl rfl rfl (fun _ => ?_) | refine au_append rfl rfl rfl rfl (fun _ => au_norm ?_) | refine au_storeE rfl rfl rfl rfl ?_ | refine tri_seq ?_ | refine tri_then ?_ | refine tri_region ?_ | refine tri_nil ?_ | refine tri_skip ?_ | refine tri_ret ?_ | refine tri_exit ?_ | refine tri_thenr ?_ | refine tri_thene ?_ | refine tri_blkn ?_ | refine tri_blkr ?_ | refine tri_blke ?_ | refine tri_blko (by rfl) ?_ | refine tri_if_t (by rfl) ?_ | refine tri_if_f (by rfl) ?_ | fail))
      ((first | refine tri_cond (by rfl) (fun hc => ?_) (fun hc => ?_) | refine tri_gsplit (by rfl) (by rfl) (by (fail_if_success exact (rfl : _ = some (Value.bool true))); (fail_if_success exact (rfl : _ = some (Value.bool false))); rfl) (fun hc => ?_) (fun hc => ?_)) <;> (try simp only [decide_eq_true_eq, decide_eq_false_iff_not, beq_iff_eq, bne_iff_ne, ne_eq, Bool.not_eq_true', Bool.not_eq_false', beq_eq_false_iff_ne, bne_eq_false_iff_eq, Int.not_lt, Int.not_le, gt_iff_lt, ge_iff_le, Bool.and_eq_true, Bool.or_eq_true, Bool.and_eq_false_iff, Bool.or_eq_false_iff, Decidable.not_not, not_true_eq_false, not_false_eq_true, and_true, true_and, or_false, false_or, or_true, true_or, and_false, false_and, eq_self, Bool.true_eq_false, Bool.false_eq_true] at hc) <;> (try (exfalso; omega)))
      · (repeat (first | refine au_pure ?_ | refine au_pass ?_ | refine au_box (fun _ => ?_) | refine au_alloc (fun _ => ?_) | refine au_store ?_ | refine au_make rfl rfl (fun _ => ?_) | refine au_lit rfl rfl rfl (fun _ => ?_) | refine au_append rfl rfl rfl rfl (fun _ => au_norm ?_) | refine au_storeE rfl rfl rfl rfl ?_ | refine tri_seq ?_ | refine tri_then ?_ | refine tri_region ?_ | refine tri_nil ?_ | refine tri_skip ?_ | refine tri_ret ?_ | refine tri_exit ?_ | refine tri_thenr ?_ | refine tri_thene ?_ | refine tri_blkn ?_ | refine tri_blkr ?_ | refine tri_blke ?_ | refine tri_blko (by rfl) ?_ | refine tri_if_t (by rfl) ?_ | refine tri_if_f (by rfl) ?_ | fail))
        refine tri_block ?_
        obtain ⟨f, hf⟩ : ∃ f, f = m.fm.getD i default := ⟨_, rfl⟩
        have hbd : fmBad (allPg m) m.fm i = (f.ct != (shC (allPg m) i : Int) || (f.ct == 0 && f.wd != 0)) := by unfold fmBad; rw [← hf]
        have hsi := hsg i (by omega)
        (repeat (first | refine au_pure ?_ | refine au_pass ?_ | refine au_box (fun _ => ?_) | refine au_alloc (fun _ => ?_) | refine au_store ?_ | refine au_make rfl rfl (fun _ => ?_) | refine au_lit rfl rfl rfl (fun _ => ?_) | refine au_append rfl rfl rfl rfl (fun _ => au_norm ?_) | refine au_storeE rfl rfl rfl rfl ?_ | refine tri_seq ?_ | refine tri_then ?_ | refine tri_region ?_ | refine tri_nil ?_ | refine tri_skip ?_ | refine tri_ret ?_ | refine tri_exit ?_ | refine tri_thenr ?_ | refine tri_thene ?_ | refine tri_blkn ?_ | refine tri_blkr ?_ | refine tri_blke ?_ | refine tri_blko (by rfl) ?_ | refine tri_if_t (by rfl) ?_ | refine tri_if_f (by rfl) ?_ | fail))
        rename_i g11
        rw [← hf]
        (repeat (first | refine tri_seq ?_ | refine tri_then ?_))
        refine tri_cut1 (fun b => b = fmBad (allPg m) m.fm i) (fun b => [(1, .pointer (some ⟨g1, 0, none⟩)), (4, r4.v), (5, r5.v), (96, vF), (97, .int .i64 (m.fm.length : Int)), (98, .int .i64 (i : Int)), (119, .bool b)])
          (fun b => Hp w0 (boS r5 T :: intS r4 S :: cowC g1 m.z vS vF m.cp :: cs)) ?_ ?_
        · refine au_draw rfl ?_
          (repeat (first | refine au_qpure rfl rfl ?_ | refine au_qpass rfl rfl ?_ | refine triq_nil ?_))
          rw [hsi]
          cases hd : (f.ct != (shC (allPg m) i : Int))
          · (repeat (first | refine au_qpure rfl rfl ?_ | refine au_qpass rfl rfl ?_ | refine triq_nil ?_))
            cases hd2 : (f.ct == 0)
            · (repeat (first | refine au_qpure rfl rfl ?_ | refine au_qpass rfl rfl ?_ | refine triq_nil ?_))
              (repeat (first | refine au_pure ?_ | refine au_pass ?_ | refine au_box (fun _ => ?_) | refine au_alloc (fun _ => ?_) | refine au_store ?_ | refine au_make rfl rfl (fun _ => ?_) | refine au_lit rfl rfl rfl (fun _ => ?_) | refine au_append rfl rfl rfl rfl (fun _ => au_norm ?_) | refine au_storeE rfl rfl rfl rfl ?_ | refine tri_seq ?_ | refine tri_then ?_ | refine tri_region ?_ | refine tri_nil ?_ | refine tri_skip ?_ | refine tri_ret ?_ | refine tri_exit ?_ | refine tri_thenr ?_ | refine tri_thene ?_ | refine tri_blkn ?_ | refine tri_blkr ?_ | refine tri_blke ?_ | refine tri_blko (by rfl) ?_ | refine tri_if_t (by rfl) ?_ | refine tri_if_f (by rfl) ?_ | fail))
              exact tri_mt1 _ (by rw [hbd, hd, hd2] <;> rfl) (by repeat (first | exact trivial | refine ⟨rfl, ?_⟩)) (fun _ h => h.sub (by repeat (first | exact List.Sublist.refl _ | assumption | apply List.Sublist.cons_cons | apply List.Sublist.cons)))
            · (repeat (first | refine au_qpure rfl rfl ?_ | refine au_qpass rfl rfl ?_ | refine triq_nil ?_))
              (repeat (first | refine au_pure ?_ | refine au_pass ?_ | refine au_box (fun _ => ?_) | refine au_alloc (fun _ => ?_) | refine au_store ?_ | refine au_make rfl rfl (fun _ => ?_) | refine au_lit rfl rfl rfl (fun _ => ?_) | refine au_append rfl rfl rfl rfl (fun _ => au_norm ?_) | refine au_storeE rfl rfl rfl rfl ?_ | refine tri_seq ?_ | refine tri_then ?_ | refine tri_region ?_ | refine tri_nil ?_ | refine tri_skip ?_ | refine tri_ret ?_ | refine tri_exit ?_ | refine tri_thenr ?_ | refine tri_thene ?_ | refine tri_blkn ?_ | refine tri_blkr ?_ | refine tri_blke ?_ | refine tri_blko (by rfl) ?_ | refine tri_if_t (by rfl) ?_ | refine tri_if_f (by rfl) ?_ | fail))
              exact tri_mt1 (f.wd != 0) (by rw [hbd, hd, hd2] <;> rfl) (by repeat (first | exact trivial | refine ⟨rfl, ?_⟩)) (fun _ h => h.sub (by repeat (first | exact List.Sublist.refl _ | assumption | apply List.Sublist.cons_cons | apply List.Sublist.cons)))
          · (repeat (first | refine au_qpure rfl rfl ?_ | refine au_qpass rfl rfl ?_ | refine triq_nil ?_))
            (repeat (first | refine au_pure ?_ | refine au_pass ?_ | refine au_box (fun _ => ?_) | refine au_alloc (fun _ => ?_) | refine au_store ?_ | refine au_make rfl rfl (fun _ => ?_) | refine au_lit rfl rfl rfl (fun _ => ?_) | refine au_append rfl rfl rfl rfl (fun _ => au_norm ?_) | refine au_storeE rfl rfl rfl rfl ?_ | refine tri_seq ?_ | refine tri_then ?_ | refine tri_region ?_ | refine tri_nil ?_ | refine tri_skip ?_ | refine tri_ret ?_ | refine tri_exit ?_ | refine tri_thenr ?_ | refine tri_thene ?_ | refine tri_blkn ?_ | refine tri_blkr ?_ | refine tri_blke ?_ | refine tri_blko (by rfl) ?_ | refine tri_if_t (by rfl) ?_ | refine tri_if_f (by rfl) ?_ | fail))
            exact tri_mt1 _ (by rw [hbd, hd] <;> rfl) (by repeat (first | exact trivial | refine ⟨rfl, ?_⟩)) (fun _ h => h.sub (by repeat (first | exact List.Sublist.refl _ | assumption | apply List.Sublist.cons_cons | apply List.Sublist.cons)))
        intro b hb
        cases b with
        | true =>
          (repeat (first | refine au_pure ?_ | refine au_pass ?_ | refine au_box (fun _ => ?_) | refine au_alloc (fun _ => ?_) | refine au_store ?_ | refine au_make rfl rfl (fun _ => ?_) | refine au_lit rfl rfl rfl (fun _ => ?_) | refine au_append rfl rfl rfl rfl (fun _ => au_norm ?_) | refine au_storeE rfl rfl rfl rfl ?_ | refine tri_seq ?_ | refine tri_then ?_ | refine tri_region ?_ | refine tri_nil ?_ | refine tri_skip ?_ | refine tri_ret ?_ | refine tri_exit ?_ | refine tri_thenr ?_ | refine tri_thene ?_ | refine tri_blkn ?_ | refine tri_blkr ?_ | refine tri_blke ?_ | refine tri_blko (by rfl) ?_ | refine tri_if_t (by rfl) ?_ | refine tri_if_f (by rfl) ?_ | fail))
          refine au_done1 rfl ?_
          intro w hw; refine ⟨(), ?_, hw.sub (by repeat (first | exact List.Sublist.refl _ | assumption | apply List.Sublist.cons_cons | apply List.Sublist.cons))⟩
          rw [chk_fm (i := i) hrg hsp (by omega) hb.symm]
        | false =>
          (repeat (first | refine au_pure ?_ | refine au_pass ?_ | refine au_box (fun _ => ?_) | refine au_alloc (fun _ => ?_) | refine au_store ?_ | refine au_make rfl rfl (fun _ => ?_) | refine au_lit rfl rfl rfl (fun _ => ?_) | refine au_append rfl rfl rfl rfl (fun _ => au_norm ?_) | refine au_storeE rfl rfl rfl rfl ?_ | refine tri_seq ?_ | refine tri_then ?_ | refine tri_region ?_ | refine tri_nil ?_ | refine tri_skip ?_ | refine tri_ret ?_ | refine tri_exit ?_ | refine tri_thenr ?_ | refine tri_thene ?_ | refine tri_blkn ?_ | refine tri_blkr ?_ | refine tri_blke ?_ | refine tri_blko (by rfl) ?_ | refine tri_if_t (by rfl) ?_ | refine tri_if_f (by rfl) ?_ | fail))
          exact tri_nx1 (i + 1) (by omega) ⟨by omega, all_step' hp hb.symm⟩ (by repeat (first | exact trivial | refine ⟨rfl, ?_⟩)) (fun w h => h.sub (by repeat (first | exact List.Sublist.refl _ | assumption | apply List.Sublist.cons_cons | apply List.Sublist.cons)))
      have hin : i = m.fm.length := by omega
      subst hin
      (repeat (first | refine au_pure ?_ | refine au_pass ?_ | refine au_box (fun _ => ?_) | refine au_alloc (fun _ => ?_) | refine au_store ?_ | refine au_make rfl rfl (fun _ => ?_) | refine au_lit rfl rfl rfl (fun _ => ?_) | refine au_append rfl rfl rfl rfl (fun _ => au_norm ?_) | refine au_storeE rfl rfl rfl rfl ?_ | refine tri_seq ?_ | refine tri_then ?_ | refine tri_region ?_ | refine tri_nil ?_ | refine tri_skip ?_ | refine tri_ret ?_ | refine tri_exit ?_ | refine tri_thenr ?_ | refine tri_thene ?_ | refine tri_blkn ?_ | refine tri_blkr ?_ | refine tri_blke ?_ | refine tri_blko (by rfl) ?_ | refine tri_if_t (by rfl) ?_ | refine tri_if_f (by rfl) ?_ | fail))
      refine tri_block ?_
      refine tri_loop1 (fun (i : Nat) => i ≤ m.fm.length ∧ ∀ j, j < i → wrBad (allPg m) j = false) (fun i => [(1, .pointer (some ⟨g1, 0, none⟩)), (4, r4.v), (5, r5.v), (121, r5.v), (122, .int .i64 (T.length : Int)), (123, .int .i64 (i : Int))]) (fun i => Hp w0 (boS r5 T :: intS r4 S :: cowC g1 m.z vS vF m.cp :: cs)) (fun i => m.fm.length - i)
        0 ⟨by omega, fun j hj => by omega⟩ (by repeat (first | exact trivial | refine ⟨rfl, ?_⟩)) (fun w h => h.sub (by repeat (first | exact List.Sublist.refl _ | assumption | apply List.Sublist.cons_cons | apply List.Sublist.cons))) ?_
      rintro i ⟨hi, hq⟩
      (repeat (first | refine au_pure ?_ | refine au_pass ?_ | refine au_box (fun _ => ?_) | refine au_alloc (fun _ => ?_) | refine au_store ?_ | refine au_make rfl rfl (fun _ => ?_) | refine au_lit rfl rfl rfl (fun _ => ?_) | refine au_append rfl rfl rfl rfl (fun _ => au_norm ?_) | refine au_storeE rfl rfl rfl rfl ?_ | refine tri_seq ?_ | refine tri_then ?_ | refine tri_region ?_ | refine tri_nil ?_ | refine tri_skip ?_ | refine tri_ret ?_ | refine tri_exit ?_ | refine tri_thenr ?_ | refine tri_thene ?_ | refine tri_blkn ?_ | refine tri_blkr ?_ | refine tri_blke ?_ | refine tri_blko (by rfl) ?_ | refine tri_if_t (by rfl) ?_ | refine tri_if_f (by rfl) ?_ | fail))
      ((first | refine tri_cond (by rfl) (fun hc => ?_) (fun hc => ?_) | refine tri_gsplit (by rfl) (by rfl) (by (fail_if_success exact (rfl : _ = some (Value.bool true))); (fail_if_success exact (rfl : _ = some (Value.bool false))); rfl) (fun hc => ?_) (fun hc => ?_)) <;> (try simp only [decide_eq_true_eq, decide_eq_false_iff_not, beq_iff_eq, bne_iff_ne, ne_eq, Bool.not_eq_true', Bool.not_eq_false', beq_eq_false_iff_ne, bne_eq_false_iff_eq, Int.not_lt, Int.not_le, gt_iff_lt, ge_iff_le, Bool.and_eq_true, Bool.or_eq_true, Bool.and_eq_false_iff, Bool.or_eq_false_iff, Decidable.not_not, not_true_eq_false, not_false_eq_true, and_true, true_and, or_false, false_or, or_true, true_or, and_false, false_and, eq_self, Bool.true_eq_false, Bool.false_eq_true] at hc) <;> (try (exfalso; omega)))
      · (repeat (first | refine au_pure ?_ | refine au_pass ?_ | refine au_box (fun _ => ?_) | refine au_alloc (fun _ => ?_) | refine au_store ?_ | refine au_make rfl rfl (fun _ => ?_) | refine au_lit rfl rfl rfl (fun _ => ?_) | refine au_append rfl rfl rfl rfl (fun _ => au_norm ?_) | refine au_storeE rfl rfl rfl rfl ?_ | refine tri_seq ?_ | refine tri_then ?_ | refine tri_region ?_ | refine tri_nil ?_ | refine tri_skip ?_ | refine tri_ret ?_ | refine tri_exit ?_ | refine tri_thenr ?_ | refine tri_thene ?_ | refine tri_blkn ?_ | refine tri_blkr ?_ | refine tri_blke ?_ | refine tri_blko (by rfl) ?_ | refine tri_if_t (by rfl) ?_ | refine tri_if_f (by rfl) ?_ | fail))
        refine tri_block ?_
        have hsi := hsg i (by omega)
        have hwi := hwg i (by omega)
        have hbd : wrBad (allPg m) i = (wrC (allPg m) i && (shC (allPg m) i : Int) != 1) := rfl
        (repeat (first | refine tri_seq ?_ | refine tri_then ?_)); refine tri_region ?_; (repeat (first | refine au_pure ?_ | refine au_pass ?_ | refine au_box (fun _ => ?_) | refine au_alloc (fun _ => ?_) | refine au_store ?_ | refine au_make rfl rfl (fun _ => ?_) | refine au_lit rfl rfl rfl (fun _ => ?_) | refine au_append rfl rfl rfl rfl (fun _ => au_norm ?_) | refine au_storeE rfl rfl rfl rfl ?_)); refine tri_nil ?_; (repeat refine tri_then ?_)
        rw [hwi]
        (repeat (first | refine tri_seq ?_ | refine tri_then ?_))
        refine tri_cut1 (fun b => b = wrBad (allPg m) i) (fun b => [(1, .pointer (some ⟨g1, 0, none⟩)), (4, r4.v), (5, r5.v), (121, r5.v), (122, .int .i64 (T.length : Int)), (123, .int .i64 (i : Int)), (135, .bool b)])
          (fun b => Hp w0 (boS r5 T :: intS r4 S :: cowC g1 m.z vS vF m.cp :: cs)) ?_ ?_
        · cases hd : wrC (allPg m) i
          · (repeat (first | refine au_pure ?_ | refine au_pass ?_ | refine au_box (fun _ => ?_) | refine au_alloc (fun _ => ?_) | refine au_store ?_ | refine au_make rfl rfl (fun _ => ?_) | refine au_lit rfl rfl rfl (fun _ => ?_) | refine au_append rfl rfl rfl rfl (fun _ => au_norm ?_) | refine au_storeE rfl rfl rfl rfl ?_ | refine tri_seq ?_ | refine tri_then ?_ | refine tri_region ?_ | refine tri_nil ?_ | refine tri_skip ?_ | refine tri_ret ?_ | refine tri_exit ?_ | refine tri_thenr ?_ | refine tri_thene ?_ | refine tri_blkn ?_ | refine tri_blkr ?_ | refine tri_blke ?_ | refine tri_blko (by rfl) ?_ | refine tri_if_t (by rfl) ?_ | refine tri_if_f (by rfl) ?_ | fail))
            exact tri_mt1 _ (by rw [hbd, hd] <;> rfl) (by repeat (first | exact trivial | refine ⟨rfl, ?_⟩)) (fun _ h => h.sub (by repeat (first | exact List.Sublist.refl _ | assumption | apply List.Sublist.cons_cons | apply List.Sublist.cons)))
          · (repeat (first | refine au_pure ?_ | refine au_pass ?_ | refine au_box (fun _ => ?_) | refine au_alloc (fun _ => ?_) | refine au_store ?_ | refine au_make rfl rfl (fun _ => ?_) | refine au_lit rfl rfl rfl (fun _ => ?_) | refine au_append rfl rfl rfl rfl (fun _ => au_norm ?_) | refine au_storeE rfl rfl rfl rfl ?_ | refine tri_seq ?_ | refine tri_then ?_ | refine tri_region ?_ | refine tri_nil ?_ | refine tri_skip ?_ | refine tri_ret ?_ | refine tri_exit ?_ | refine tri_thenr ?_ | refine tri_thene ?_ | refine tri_blkn ?_ | refine tri_blkr ?_ | refine tri_blke ?_ | refine tri_blko (by rfl) ?_ | refine tri_if_t (by rfl) ?_ | refine tri_if_f (by rfl) ?_ | fail))
            rw [hsi]
            exact tri_mt1 ((shC (allPg m) i : Int) != 1) (by rw [hbd, hd] <;> rfl) (by repeat (first | exact trivial | refine ⟨rfl, ?_⟩)) (fun _ h => h.sub (by repeat (first | exact List.Sublist.refl _ | assumption | apply List.Sublist.cons_cons | apply List.Sublist.cons)))
        intro b hb
        cases b with
        | true =>
          (repeat (first | refine au_pure ?_ | refine au_pass ?_ | refine au_box (fun _ => ?_) | refine au_alloc (fun _ => ?_) | refine au_store ?_ | refine au_make rfl rfl (fun _ => ?_) | refine au_lit rfl rfl rfl (fun _ => ?_) | refine au_append rfl rfl rfl rfl (fun _ => au_norm ?_) | refine au_storeE rfl rfl rfl rfl ?_ | refine tri_seq ?_ | refine tri_then ?_ | refine tri_region ?_ | refine tri_nil ?_ | refine tri_skip ?_ | refine tri_ret ?_ | refine tri_exit ?_ | refine tri_thenr ?_ | refine tri_thene ?_ | refine tri_blkn ?_ | refine tri_blkr ?_ | refine tri_blke ?_ | refine tri_blko (by rfl) ?_ | refine tri_if_t (by rfl) ?_ | refine tri_if_f (by rfl) ?_ | fail))
          refine au_done1 rfl ?_
          intro w hw; refine ⟨(), ?_, hw.sub (by repeat (first | exact List.Sublist.refl _ | assumption | apply List.Sublist.cons_cons | apply List.Sublist.cons))⟩
          rw [chk_wr (i := i) hrg hsp hp (by omega) hb.symm]
        | false =>
          (repeat (first | refine au_pure ?_ | refine au_pass ?_ | refine au_box (fun _ => ?_) | refine au_alloc (fun _ => ?_) | refine au_store ?_ | refine au_make rfl rfl (fun _ => ?_) | refine au_lit rfl rfl rfl (fun _ => ?_) | refine au_append rfl rfl rfl rfl (fun _ => au_norm ?_) | refine au_storeE rfl rfl rfl rfl ?_ | refine tri_seq ?_ | refine tri_then ?_ | refine tri_region ?_ | refine tri_nil ?_ | refine tri_skip ?_ | refine tri_ret ?_ | refine tri_exit ?_ | refine tri_thenr ?_ | refine tri_thene ?_ | refine tri_blkn ?_ | refine tri_blkr ?_ | refine tri_blke ?_ | refine tri_blko (by rfl) ?_ | refine tri_if_t (by rfl) ?_ | refine tri_if_f (by rfl) ?_ | fail))
          exact tri_nx1 (i + 1) (by omega) ⟨by omega, all_step' hq hb.symm⟩ (by repeat (first | exact trivial | refine ⟨rfl, ?_⟩)) (fun w h => h.sub (by repeat (first | exact List.Sublist.refl _ | assumption | apply List.Sublist.cons_cons | apply List.Sublist.cons)))
      (repeat (first | refine au_pure ?_ | refine au_pass ?_ | refine au_box (fun _ => ?_) | refine au_alloc (fun _ => ?_) | refine au_store ?_ | refine au_make rfl rfl (fun _ => ?_) | refine au_lit rfl rfl rfl (fun _ => ?_) | refine au_append rfl rfl rfl rfl (fun _ => au_norm ?_) | refine au_storeE rfl rfl rfl rfl ?_ | refine tri_seq ?_ | refine tri_then ?_ | refine tri_region ?_ | refine tri_nil ?_ | refine tri_skip ?_ | refine tri_ret ?_ | refine tri_exit ?_ | refine tri_thenr ?_ | refine tri_thene ?_ | refine tri_blkn ?_ | refine tri_blkr ?_ | refine tri_blke ?_ | refine tri_blko (by rfl) ?_ | refine tri_if_t (by rfl) ?_ | refine tri_if_f (by rfl) ?_ | fail))
      refine au_done1 rfl ?_
      intro w hw; refine ⟨(), ?_, hw.sub (by repeat (first | exact List.Sublist.refl _ | assumption | apply List.Sublist.cons_cons | apply List.Sublist.cons))⟩
      rw [chk_no hrg hsp hp fun j hj => hq j (by omega)]
end
end Go.Proofs.Ytinnkclemjognaa
