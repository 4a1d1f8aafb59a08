/- The walks of package cow: clear, Unmap, Exit, Fork. No conditions. -/
import Derived.Test.YtinnkclemjognaaCowOps2
set_option linter.unusedSimpArgs false
set_option linter.unusedVariables false
namespace Go.Proofs.Ytinnkclemjognaa
open Go Go.RowKit
attribute [local irreducible] Code.wp wpList bodyPost Exit.then Exit.inBlock Calls wpQuiet Tri TriQ
theorem own_focus {cs : List Chunk} {r f : Row} {rs : List Row} {m : CW} {Z C : Chunk} {s : Nat} (hl : rs.length = m.sp.length) (hs : s < m.sp.length) :
    (CC r rs f m ++ (Z :: C :: cs)).Perm (pgS (rs.getD s (Row.nil 0)) (m.sp.getD s default).pg :: frS f m.fm :: spS r (spx rs m.sp) :: Z :: C :: (px rs m.sp s ++ cs)) := by
  refine (show (CC r rs f m ++ (Z :: C :: cs)).Perm _ from perm_up2).trans ?_
  refine List.Perm.trans ?_ (perm_focus (cs := cs) [frS f m.fm, spS r (spx rs m.sp), Z, C] hl hs)
  have h2 : ∀ N : List Chunk, (Z :: C :: frS f m.fm :: spS r (spx rs m.sp) :: N) = [Z, C] ++ ([frS f m.fm, spS r (spx rs m.sp)] ++ N) := fun _ => rfl
  have h3 : ∀ N : List Chunk, ([frS f m.fm, spS r (spx rs m.sp), Z, C] ++ N) = [frS f m.fm, spS r (spx rs m.sp)] ++ ([Z, C] ++ N) := fun _ => rfl
  rw [h2, h3, ← List.append_assoc, ← List.append_assoc [frS f m.fm, spS r (spx rs m.sp)]]
  exact List.Perm.append_right _ List.perm_append_comm
def Bd (F : List FR) (a b : Int) : Prop := ∀ j, a ≤ (F.getD j default).ct ∧ (F.getD j default).ct ≤ b
theorem getD_set_ne {α : Type} [Inhabited α] {l : List α} {i j : Nat} {a : α} (h : i ≠ j) : (l.set i a).getD j default = l.getD j default := by
  rw [List.getD_eq_getElem?_getD, List.getD_eq_getElem?_getD, List.getElem?_set_ne h]
theorem getD_set_eq {α : Type} [Inhabited α] {l : List α} {i : Nat} {a : α} (h : i < l.length) : (l.set i a).getD i default = a := by
  rw [List.getD_eq_getElem?_getD, List.getElem?_set_self h]; rfl
theorem bd_set {F : List FR} {a b : Int} {i : Nat} {y : FR} (h : Bd F a b) (hy : a ≤ y.ct ∧ y.ct ≤ b) : Bd (F.set i y) a b := fun j => by
  by_cases hij : i = j
  · subst hij
    rcases Nat.lt_or_ge i F.length with hi | hi
    · rw [getD_set_eq hi]; exact hy
    · rw [List.set_eq_of_length_le hi]; exact h i
  · rw [getD_set_ne hij]; exact h j
theorem bd_mono {F : List FR} {a b a' b' : Int} (h : Bd F a b) (h1 : a' ≤ a) (h2 : b ≤ b') : Bd F a' b' := fun j => by have := h j; omega
theorem bd_clr {F : List FR} {a b : Int} {x : PG} (h : Bd F a b) : Bd (clrF F x) (a - 1) b := by
  unfold clrF
  split
  · refine bd_set (bd_mono h (by omega) (Int.le_refl _)) ?_
    have := h x.fr.toNat
    unfold frAt
    simp only
    omega
  · exact bd_mono h (by omega) (Int.le_refl _)
theorem bd_inc {F : List FR} {a b : Int} {x : PG} (h : Bd F a b) : Bd (incF F x) a (b + 1) := by
  unfold incF
  split
  · refine bd_set (bd_mono h (Int.le_refl _) (by omega)) ?_
    have := h x.fr.toNat
    unfold frAt
    simp only
    omega
  · exact bd_mono h (Int.le_refl _) (by omega)
theorem clr_len (F : List FR) (x : PG) : (clrF F x).length = F.length := by unfold clrF; split <;> simp
theorem inc_len (F : List FR) (x : PG) : (incF F x).length = F.length := by unfold incF; split <;> simp
theorem foldl_step {β : Type} {g : β → PG → β} {b : β} {l : List PG} {i : Nat} (hi : i < l.length) : (l.take (i + 1)).foldl g b = g ((l.take i).foldl g b) (l.getD i default) := by
  rw [take_step hi, List.foldl_append]; rfl
/-- A list turned from the left. -/
def upTo (g : PG → PG) (l : List PG) (i : Nat) : List PG := (l.take i).map g ++ l.drop i
theorem upTo_zero (g : PG → PG) (l : List PG) : upTo g l 0 = l := by unfold upTo; simp
theorem upTo_end (g : PG → PG) (l : List PG) : upTo g l l.length = l.map g := by unfold upTo; simp
theorem upTo_len (g : PG → PG) (l : List PG) (i : Nat) (h : i ≤ l.length) : (upTo g l i).length = l.length := by unfold upTo; simp; omega
theorem upTo_get (g : PG → PG) {l : List PG} {i : Nat} (h : i < l.length) : (upTo g l i).getD i default = l.getD i default := by
  unfold upTo
  have h1 : ((l.take i).map g).length = i := by simp; omega
  rw [List.getD_eq_getElem?_getD, List.getElem?_append_right (by omega), h1, Nat.sub_self, List.getElem?_drop, List.getD_eq_getElem?_getD]
  rfl
theorem upTo_step (g : PG → PG) {l : List PG} {i : Nat} {y : PG} (h : i < l.length) (hy : y = g (l.getD i default)) : (upTo g l i).set i y = upTo g l (i + 1) := by
  unfold upTo
  have h1 : ((l.take i).map g).length = i := by simp; omega
  rw [List.set_append_right _ _ (by omega), h1, Nat.sub_self, take_step h, List.map_append, List.append_assoc, hy]
  congr 1
  rw [List.drop_eq_getElem_cons h]
  rfl
def clW (_ : PG) : PG := ⟨-1, false⟩
section
variable (w0 : World) (cs : List Chunk)
theorem clear_c {vS : Value} {z cp : Int} {rp f : Row} {Pg : List PG} {F : List FR} {p : Nat} (hp : p < Pg.length) (hx : (Pg.getD p default).fr < (F.length : Int)) (hb : Bd F (-1000000) 1000000) (hF : F.length ≤ 1000) (hPl : Pg.length ≤ 1000) :
    Cal Try.prog 37 [cowV z vS f.v cp, eP rp.v p 2 0] (Hp w0 (pgS rp Pg :: frS f F :: cs)) (fun _ : Unit => .tuple #[]) (fun _ => Hp w0 (pgS rp (Pg.set p ⟨-1, false⟩) :: frS f (clrF F (Pg.getD p default)) :: cs)) := by
  obtain ⟨x, hx0⟩ : ∃ x, x = Pg.getD p default := ⟨_, rfl⟩
  rw [← hx0] at hx
  have hbx := hb x.fr.toNat
  refine cal_of_tri Try.func37 rfl Try.ntmps37 rfl ?_
  (repeat (first | refine au_pure ?_ | refine au_pass ?_ | refine au_box (fun _ => ?_) | refine au_alloc (fun _ => ?_) | refine au_store ?_ | refine au_make rfl rfl (fun _ => ?_) | refine au_lit rfl rfl rfl (fun _ => ?_) | refine au_append rfl rfl rfl rfl (fun _ => au_norm ?_) | refine au_storeE rfl rfl rfl rfl ?_ | refine tri_seq ?_ | refine tri_then ?_ | refine tri_region ?_ | refine tri_nil ?_ | refine tri_skip ?_ | refine tri_ret ?_ | refine tri_exit ?_ | refine tri_thenr ?_ | refine tri_thene ?_ | refine tri_blkn ?_ | refine tri_blkr ?_ | refine tri_blke ?_ | refine tri_blko (by rfl) ?_ | refine tri_if_t (by rfl) ?_ | refine tri_if_f (by rfl) ?_ | fail))
  rename_i g2
  rw [← hx0]
  by_cases h0 : 0 ≤ x.fr
  · rw [decide_eq_true (show x.fr ≥ 0 from h0)]
    have hlt : x.fr.toNat < F.length := by omega
    (repeat (first | refine tri_seq ?_ | refine tri_then ?_))
    refine tri_if_t (by rfl) ?_
    (repeat (first | refine tri_seq ?_ | refine tri_then ?_))
    refine au_draw rfl ?_
    (repeat (first | refine au_qpure rfl rfl ?_ | refine au_qpass rfl rfl ?_ | refine triq_nil ?_))
    rw [← hx0]
    (repeat (first | refine au_qpure rfl rfl ?_ | refine au_qpass rfl rfl ?_ | refine triq_nil ?_))
    (repeat (first | refine tri_seq ?_ | refine tri_then ?_)); refine tri_region ?_; (repeat (first | refine au_pure ?_ | refine au_pass ?_ | refine au_box (fun _ => ?_) | refine au_alloc (fun _ => ?_) | refine au_store ?_ | refine au_make rfl rfl (fun _ => ?_) | refine au_lit rfl rfl rfl (fun _ => ?_) | refine au_append rfl rfl rfl rfl (fun _ => au_norm ?_) | refine au_storeE rfl rfl rfl rfl ?_)); refine tri_nil ?_; (repeat refine tri_then ?_)
    obtain ⟨y, hy⟩ : ∃ y : FR, y = ⟨(F.getD x.fr.toNat default).ct - 1, (F.getD x.fr.toNat default).wd⟩ := ⟨_, rfl⟩
    have hF1l : (F.set x.fr.toNat y).length = F.length := List.length_set ..
    have hF1g : (F.set x.fr.toNat y).getD x.fr.toNat default = y := getD_set_eq hlt
    have hF1s : ∀ u, (F.set x.fr.toNat y).set x.fr.toNat u = F.set x.fr.toNat u := fun u => List.set_set ..
    refine tri_weak (H' := Hp w0 (cowC g2 z vS f.v cp :: pgS rp Pg :: frS f (F.set x.fr.toNat y) :: cs)) (fun w h => by rw [hy]; exact h) ?_
    have hcl : clrF F x = F.set x.fr.toNat ⟨y.ct, if y.ct = 0 then 0 else y.wd⟩ := by unfold clrF; rw [if_pos h0, hy]; rfl
    obtain ⟨F1, hF1⟩ : ∃ F1, F1 = F.set x.fr.toNat y := ⟨_, rfl⟩
    rw [← hF1] at hF1l hF1g hF1s ⊢
    (repeat (first | refine au_pure ?_ | refine au_pass ?_ | refine au_box (fun _ => ?_) | refine au_alloc (fun _ => ?_) | refine au_store ?_ | refine au_make rfl rfl (fun _ => ?_) | refine au_lit rfl rfl rfl (fun _ => ?_) | refine au_append rfl rfl rfl rfl (fun _ => au_norm ?_) | refine au_storeE rfl rfl rfl rfl ?_ | refine tri_seq ?_ | refine tri_then ?_ | refine tri_region ?_ | refine tri_nil ?_ | refine tri_skip ?_ | refine tri_ret ?_ | refine tri_exit ?_ | refine tri_thenr ?_ | refine tri_thene ?_ | refine tri_blkn ?_ | refine tri_blkr ?_ | refine tri_blke ?_ | refine tri_blko (by rfl) ?_ | refine tri_if_t (by rfl) ?_ | refine tri_if_f (by rfl) ?_ | fail))
    rw [hF1g]
    ((first | refine tri_cond (by rfl) (fun hc => ?_) (fun hc => ?_) | refine tri_gsplit (by rfl) (by rfl) (by (fail_if_success exact (rfl : _ = some (Value.bool true))); (fail_if_success exact (rfl : _ = some (Value.bool false))); rfl) (fun hc => ?_) (fun hc => ?_)) <;> (try simp only [decide_eq_true_eq, decide_eq_false_iff_not, beq_iff_eq, bne_iff_ne, ne_eq, Bool.not_eq_true', Bool.not_eq_false', beq_eq_false_iff_ne, bne_eq_false_iff_eq, Int.not_lt, Int.not_le, gt_iff_lt, ge_iff_le, Bool.and_eq_true, Bool.or_eq_true, Bool.and_eq_false_iff, Bool.or_eq_false_iff, Decidable.not_not, not_true_eq_false, not_false_eq_true, and_true, true_and, or_false, false_or, or_true, true_or, and_false, false_and, eq_self, Bool.true_eq_false, Bool.false_eq_true] at hc) <;> (try (exfalso; omega)))
    · rw [if_pos (by assumption)] at hcl
      (repeat (first | refine au_pure ?_ | refine au_pass ?_ | refine au_box (fun _ => ?_) | refine au_alloc (fun _ => ?_) | refine au_store ?_ | refine au_make rfl rfl (fun _ => ?_) | refine au_lit rfl rfl rfl (fun _ => ?_) | refine au_append rfl rfl rfl rfl (fun _ => au_norm ?_) | refine au_storeE rfl rfl rfl rfl ?_ | refine tri_seq ?_ | refine tri_then ?_ | refine tri_region ?_ | refine tri_nil ?_ | refine tri_skip ?_ | refine tri_ret ?_ | refine tri_exit ?_ | refine tri_thenr ?_ | refine tri_thene ?_ | refine tri_blkn ?_ | refine tri_blkr ?_ | refine tri_blke ?_ | refine tri_blko (by rfl) ?_ | refine tri_if_t (by rfl) ?_ | refine tri_if_f (by rfl) ?_ | fail))
      refine tri_done0 (by first | exact .inl rfl | exact .inr rfl) rfl ?_
      intro w hw
      refine ⟨(), rfl, ?_⟩
      rw [hcl, ← hF1s, show (⟨y.ct, 0⟩ : FR) = ⟨(F1.getD x.fr.toNat default).ct, 0⟩ by rw [hF1g]]
      exact HpM.tail hw
    · rw [if_neg (by assumption)] at hcl
      (repeat (first | refine au_pure ?_ | refine au_pass ?_ | refine au_box (fun _ => ?_) | refine au_alloc (fun _ => ?_) | refine au_store ?_ | refine au_make rfl rfl (fun _ => ?_) | refine au_lit rfl rfl rfl (fun _ => ?_) | refine au_append rfl rfl rfl rfl (fun _ => au_norm ?_) | refine au_storeE rfl rfl rfl rfl ?_ | refine tri_seq ?_ | refine tri_then ?_ | refine tri_region ?_ | refine tri_nil ?_ | refine tri_skip ?_ | refine tri_ret ?_ | refine tri_exit ?_ | refine tri_thenr ?_ | refine tri_thene ?_ | refine tri_blkn ?_ | refine tri_blkr ?_ | refine tri_blke ?_ | refine tri_blko (by rfl) ?_ | refine tri_if_t (by rfl) ?_ | refine tri_if_f (by rfl) ?_ | fail))
      refine tri_done0 (by first | exact .inl rfl | exact .inr rfl) rfl ?_
      intro w hw
      refine ⟨(), rfl, ?_⟩
      rw [hcl, show (⟨y.ct, y.wd⟩ : FR) = y from rfl, ← hF1]
      exact HpM.tail hw
  · rw [decide_eq_false (show ¬ x.fr ≥ 0 from h0)]
    (repeat (first | refine au_pure ?_ | refine au_pass ?_ | refine au_box (fun _ => ?_) | refine au_alloc (fun _ => ?_) | refine au_store ?_ | refine au_make rfl rfl (fun _ => ?_) | refine au_lit rfl rfl rfl (fun _ => ?_) | refine au_append rfl rfl rfl rfl (fun _ => au_norm ?_) | refine au_storeE rfl rfl rfl rfl ?_ | refine tri_seq ?_ | refine tri_then ?_ | refine tri_region ?_ | refine tri_nil ?_ | refine tri_skip ?_ | refine tri_ret ?_ | refine tri_exit ?_ | refine tri_thenr ?_ | refine tri_thene ?_ | refine tri_blkn ?_ | refine tri_blkr ?_ | refine tri_blke ?_ | refine tri_blko (by rfl) ?_ | refine tri_if_t (by rfl) ?_ | refine tri_if_f (by rfl) ?_ | fail))
    refine tri_done0 (by first | exact .inl rfl | exact .inr rfl) rfl ?_
    intro w hw
    have hcl : clrF F x = F := if_neg h0
    rw [hcl]
    exact ⟨(), rfl, hw.tail⟩
theorem unm_err {m : CW} {s p : Int} (h : atE m s p ≠ 0) : unmM m s p = (CW.zero, atE m s p) := if_pos h
theorem unm_yes {m : CW} {s p : Int} (h : atE m s p = 0) : unmM m s p = (unmG m s.toNat p.toNat, 0) := if_neg (by simp [h])
theorem unmap_c {vS vF : Value} {xs : List SP} {m : CW} (s p : Int) (hC : RdC (Hp w0 cs) vS vF xs m) (hL : CLe m) :
    Cal Try.prog 38 [cowV m.z vS vF m.cp, .int .i64 s, .int .i64 p] (Hp w0 cs) (fun q : CR (unmM m s p).1.sp.length => .tuple #[crV q (unmM m s p).1, .int .i64 (unmM m s p).2]) (fun q => crH w0 cs q (unmM m s p).1) := by
  have hvl := hC.len
  refine cal_of_tri Try.func38 rfl Try.ntmps38 rfl ?_
  (repeat (first | refine au_pure ?_ | refine au_pass ?_ | refine au_box (fun _ => ?_) | refine au_alloc (fun _ => ?_) | refine au_store ?_ | refine au_make rfl rfl (fun _ => ?_) | refine au_lit rfl rfl rfl (fun _ => ?_) | refine au_append rfl rfl rfl rfl (fun _ => au_norm ?_) | refine au_storeE rfl rfl rfl rfl ?_ | refine tri_seq ?_ | refine tri_then ?_ | refine tri_region ?_ | refine tri_nil ?_ | refine tri_skip ?_ | refine tri_ret ?_ | refine tri_exit ?_ | refine tri_thenr ?_ | refine tri_thene ?_ | refine tri_blkn ?_ | refine tri_blkr ?_ | refine tri_blke ?_ | refine tri_blko (by rfl) ?_ | refine tri_if_t (by rfl) ?_ | refine tri_if_f (by rfl) ?_ | fail))
  rename_i g3 g6
  refine au_callC rfl rfl rfl rfl rfl (at_c w0 _ s p hC.cons.cons hL) (fun _ => ?_)
  (repeat (first | refine au_pure ?_ | refine au_pass ?_ | refine au_box (fun _ => ?_) | refine au_alloc (fun _ => ?_) | refine au_store ?_ | refine au_make rfl rfl (fun _ => ?_) | refine au_lit rfl rfl rfl (fun _ => ?_) | refine au_append rfl rfl rfl rfl (fun _ => au_norm ?_) | refine au_storeE rfl rfl rfl rfl ?_ | refine tri_seq ?_ | refine tri_then ?_ | refine tri_region ?_ | refine tri_nil ?_ | refine tri_skip ?_ | refine tri_ret ?_ | refine tri_exit ?_ | refine tri_thenr ?_ | refine tri_thene ?_ | refine tri_blkn ?_ | refine tri_blkr ?_ | refine tri_blke ?_ | refine tri_blko (by rfl) ?_ | refine tri_if_t (by rfl) ?_ | refine tri_if_f (by rfl) ?_ | fail))
  ((first | refine tri_cond (by rfl) (fun hc => ?_) (fun hc => ?_) | refine tri_gsplit (by rfl) (by rfl) (by (fail_if_success exact (rfl : _ = some (Value.bool true))); (fail_if_success exact (rfl : _ = some (Value.bool false))); rfl) (fun hc => ?_) (fun hc => ?_)) <;> (try simp only [decide_eq_true_eq, decide_eq_false_iff_not, beq_iff_eq, bne_iff_ne, ne_eq, Bool.not_eq_true', Bool.not_eq_false', beq_eq_false_iff_ne, bne_eq_false_iff_eq, Int.not_lt, Int.not_le, gt_iff_lt, ge_iff_le, Bool.and_eq_true, Bool.or_eq_true, Bool.and_eq_false_iff, Bool.or_eq_false_iff, Decidable.not_not, not_true_eq_false, not_false_eq_true, and_true, true_and, or_false, false_or, or_true, true_or, and_false, false_and, eq_self, Bool.true_eq_false, Bool.false_eq_true] at hc) <;> (try (exfalso; omega)))
  · have he := unm_err (show atE m s p ≠ 0 by assumption)
    rw [he]
    (repeat (first | refine au_pure ?_ | refine au_pass ?_ | refine au_box (fun _ => ?_) | refine au_alloc (fun _ => ?_) | refine au_store ?_ | refine au_make rfl rfl (fun _ => ?_) | refine au_lit rfl rfl rfl (fun _ => ?_) | refine au_append rfl rfl rfl rfl (fun _ => au_norm ?_) | refine au_storeE rfl rfl rfl rfl ?_ | refine tri_seq ?_ | refine tri_then ?_ | refine tri_region ?_ | refine tri_nil ?_ | refine tri_skip ?_ | refine tri_ret ?_ | refine tri_exit ?_ | refine tri_thenr ?_ | refine tri_thene ?_ | refine tri_blkn ?_ | refine tri_blkr ?_ | refine tri_blke ?_ | refine tri_blko (by rfl) ?_ | refine tri_if_t (by rfl) ?_ | refine tri_if_f (by rfl) ?_ | fail))
    refine au_done2 rfl ?_
    exact fun w hw => zero_res (m' := CW.zero) hw rfl rfl (by repeat (first | exact List.Sublist.refl _ | assumption | apply List.Sublist.cons_cons | apply List.Sublist.cons))
  have hk : atE m s p = 0 := by assumption
  rw [unm_yes hk]
  obtain ⟨h1, hO, h3, h4, h5, h6, h7, h8, h9⟩ := at_ok hk
  obtain ⟨s, rfl⟩ : ∃ k : Nat, s = (k : Int) := ⟨s.toNat, by omega⟩
  obtain ⟨p, rfl⟩ : ∃ k : Nat, p = (k : Int) := ⟨p.toNat, by omega⟩
  simp only [Int.toNat_natCast] at h4 h5 h6 h9 ⊢
  have hx := hO.at_ h9
  have hf2 := hO.f2
  have hpl := hO.plen s
  have hbd : Bd m.fm (-1000000) 1000000 := fun j => by have := hO.ctb' j; omega
  (repeat (first | refine au_pure ?_ | refine au_pass ?_ | refine au_box (fun _ => ?_) | refine au_alloc (fun _ => ?_) | refine au_store ?_ | refine au_make rfl rfl (fun _ => ?_) | refine au_lit rfl rfl rfl (fun _ => ?_) | refine au_append rfl rfl rfl rfl (fun _ => au_norm ?_) | refine au_storeE rfl rfl rfl rfl ?_ | refine tri_seq ?_ | refine tri_then ?_ | refine tri_region ?_ | refine tri_nil ?_ | refine tri_skip ?_ | refine tri_ret ?_ | refine tri_exit ?_ | refine tri_thenr ?_ | refine tri_thene ?_ | refine tri_blkn ?_ | refine tri_blkr ?_ | refine tri_blke ?_ | refine tri_blko (by rfl) ?_ | refine tri_if_t (by rfl) ?_ | refine tri_if_f (by rfl) ?_ | fail))
  refine au_callC rfl rfl rfl rfl rfl (own_c w0 _ hC.cons.cons hO) ?_
  rintro ⟨r, rs, f, hl⟩
  refine tri_weak (H' := Hp w0 (pgS (rs.getD s (Row.nil 0)) (m.sp.getD s default).pg :: frS f m.fm :: spS r (spx rs m.sp) :: zeC g6 :: cowC g3 m.z vS vF m.cp :: (px rs m.sp s ++ cs))) (fun w h => HpM.perm h (own_focus hl h4)) ?_
  obtain ⟨rp, hrp⟩ : ∃ rp, rp = rs.getD s (Row.nil 0) := ⟨_, rfl⟩
  have hXv : ((spx rs m.sp).getD s default).s.v = (rs.getD s (Row.nil 0)).v := by rw [spx_get hl h4]; rfl
  have hXl := spx_len hl
  rw [← hrp] at hXv ⊢
  obtain ⟨X, hX⟩ : ∃ X, X = spx rs m.sp := ⟨_, rfl⟩
  rw [← hX] at hXv hXl ⊢
  have hug : unmG m s p = ⟨m.z, m.sp.set s ⟨(m.sp.getD s default).lv, (m.sp.getD s default).pg.set p ⟨-1, false⟩⟩, clrF m.fm ((m.sp.getD s default).pg.getD p default), m.cp⟩ := rfl
  rw [hug]
  obtain ⟨Pg, hPg⟩ : ∃ Pg, Pg = (m.sp.getD s default).pg := ⟨_, rfl⟩
  have hxe : pgAt m s p = Pg.getD p default := by unfold pgAt; rw [hPg]
  rw [← hPg] at h6 h9 hpl ⊢
  rw [hxe] at hx
  (repeat (first | refine au_pure ?_ | refine au_pass ?_ | refine au_box (fun _ => ?_) | refine au_alloc (fun _ => ?_) | refine au_store ?_ | refine au_make rfl rfl (fun _ => ?_) | refine au_lit rfl rfl rfl (fun _ => ?_) | refine au_append rfl rfl rfl rfl (fun _ => au_norm ?_) | refine au_storeE rfl rfl rfl rfl ?_ | refine tri_seq ?_ | refine tri_then ?_ | refine tri_region ?_ | refine tri_nil ?_ | refine tri_skip ?_ | refine tri_ret ?_ | refine tri_exit ?_ | refine tri_thenr ?_ | refine tri_thene ?_ | refine tri_blkn ?_ | refine tri_blkr ?_ | refine tri_blke ?_ | refine tri_blko (by rfl) ?_ | refine tri_if_t (by rfl) ?_ | refine tri_if_f (by rfl) ?_ | fail))
  refine tri_drawt 9 rfl (by kernel_rfl) ?_; repeat (first | refine tris_pure rfl rfl ?_ | refine tris_pass rfl rfl ?_ | refine tris_nil ?_)
  rw [hXv]
  (repeat (first | refine tris_pure rfl rfl ?_ | refine tris_pass rfl rfl ?_ | refine tris_nil ?_))
  refine au_callC rfl rfl rfl rfl rfl (clear_c w0 _ (vS := r.v) (z := m.z) (cp := m.cp) (rp := rp) (f := f) (Pg := Pg) (F := m.fm) (p := p) h9 hx.2.1 hbd (by omega) (by omega)) (fun _ => ?_)
  (repeat (first | refine au_pure ?_ | refine au_pass ?_ | refine au_box (fun _ => ?_) | refine au_alloc (fun _ => ?_) | refine au_store ?_ | refine au_make rfl rfl (fun _ => ?_) | refine au_lit rfl rfl rfl (fun _ => ?_) | refine au_append rfl rfl rfl rfl (fun _ => au_norm ?_) | refine au_storeE rfl rfl rfl rfl ?_ | refine tri_seq ?_ | refine tri_then ?_ | refine tri_region ?_ | refine tri_nil ?_ | refine tri_skip ?_ | refine tri_ret ?_ | refine tri_exit ?_ | refine tri_thenr ?_ | refine tri_thene ?_ | refine tri_blkn ?_ | refine tri_blkr ?_ | refine tri_blke ?_ | refine tri_blko (by rfl) ?_ | refine tri_if_t (by rfl) ?_ | refine tri_if_f (by rfl) ?_ | fail))
  refine au_done2 rfl ?_
  intro w hw
  refine ⟨⟨r, rs, f, by simp [hl]⟩, rfl, ?_⟩
  refine fin_rows (rp := rp) (X := X) hl h4 hX hrp rfl ?_
  exact hw.sub (((List.Sublist.refl _).cons _ |>.cons _).cons_cons _ |>.cons_cons _ |>.cons_cons _)
end
end Go.Proofs.Ytinnkclemjognaa
