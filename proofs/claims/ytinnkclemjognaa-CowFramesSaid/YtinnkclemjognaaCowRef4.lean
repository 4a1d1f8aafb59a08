/- The walks of the reference of cow: unmap, Unmap, Exit. No conditions. -/
import Derived.Test.YtinnkclemjognaaCowRef2
import Derived.Test.YtinnkclemjognaaCowRef3
set_option linter.unusedSimpArgs false
set_option linter.unusedVariables false
namespace Go.Proofs.Ytinnkclemjognaa
open Go Go.RowKit
attribute [local irreducible] Code.wp wpList bodyPost Exit.then Exit.inBlock Calls wpQuiet Tri TriQ
section
variable (w0 : World) (cs : List Chunk)
theorem runm_c {z cp : Int} {rp r f : Row} {X : List SP} {Pg : List PG} {F : List FR} {s p : Nat} (hs : s < X.length) (hXv : (X.getD s default).s.v = rp.v) (hp : p < Pg.length) (hx : (Pg.getD p default).fr < (F.length : Int)) (hb : Bd F (-1000000) 1000000) :
    Cal Try.prog 59 [cowV z r.v f.v cp, .int .i64 (s : Int), .int .i64 (p : Int)] (Hp w0 (pgS rp Pg :: frS f F :: spS r X :: cs)) (fun _ : Unit => .tuple #[]) (fun _ => Hp w0 (pgS rp (Pg.set p ⟨-1, false⟩) :: frS f (clrF F (Pg.getD p default)) :: spS r X :: cs)) := by
  obtain ⟨x, hx0⟩ : ∃ x, x = Pg.getD p default := ⟨_, rfl⟩
  rw [← hx0] at hx
  have hbx := hb x.fr.toNat
  refine cal_of_tri Try.func59 rfl Try.ntmps59 rfl ?_
  (repeat (first | refine au_pure ?_ | refine au_pass ?_ | refine au_box (fun _ => ?_) | refine au_alloc (fun _ => ?_) | refine au_store ?_ | refine au_make rfl rfl (fun _ => ?_) | refine au_lit rfl rfl rfl (fun _ => ?_) | refine au_append rfl rfl rfl rfl (fun _ => au_norm ?_) | refine au_storeE rfl rfl rfl rfl ?_ | refine tri_seq ?_ | refine tri_then ?_ | refine tri_region ?_ | refine tri_nil ?_ | refine tri_skip ?_ | refine tri_ret ?_ | refine tri_exit ?_ | refine tri_thenr ?_ | refine tri_thene ?_ | refine tri_blkn ?_ | refine tri_blkr ?_ | refine tri_blke ?_ | refine tri_blko (by rfl) ?_ | refine tri_if_t (by rfl) ?_ | refine tri_if_f (by rfl) ?_ | fail))
  rename_i g2
  rw [hXv]
  (repeat (first | refine au_pure ?_ | refine au_pass ?_ | refine au_box (fun _ => ?_) | refine au_alloc (fun _ => ?_) | refine au_store ?_ | refine au_make rfl rfl (fun _ => ?_) | refine au_lit rfl rfl rfl (fun _ => ?_) | refine au_append rfl rfl rfl rfl (fun _ => au_norm ?_) | refine au_storeE rfl rfl rfl rfl ?_ | refine tri_seq ?_ | refine tri_then ?_ | refine tri_region ?_ | refine tri_nil ?_ | refine tri_skip ?_ | refine tri_ret ?_ | refine tri_exit ?_ | refine tri_thenr ?_ | refine tri_thene ?_ | refine tri_blkn ?_ | refine tri_blkr ?_ | refine tri_blke ?_ | refine tri_blko (by rfl) ?_ | refine tri_if_t (by rfl) ?_ | refine tri_if_f (by rfl) ?_ | fail))
  rw [hXv, ← hx0]
  (repeat (first | refine au_pure ?_ | refine au_pass ?_ | refine au_box (fun _ => ?_) | refine au_alloc (fun _ => ?_) | refine au_store ?_ | refine au_make rfl rfl (fun _ => ?_) | refine au_lit rfl rfl rfl (fun _ => ?_) | refine au_append rfl rfl rfl rfl (fun _ => au_norm ?_) | refine au_storeE rfl rfl rfl rfl ?_ | refine tri_seq ?_ | refine tri_then ?_ | refine tri_region ?_ | refine tri_nil ?_ | refine tri_skip ?_ | refine tri_ret ?_ | refine tri_exit ?_ | refine tri_thenr ?_ | refine tri_thene ?_ | refine tri_blkn ?_ | refine tri_blkr ?_ | refine tri_blke ?_ | refine tri_blko (by rfl) ?_ | refine tri_if_t (by rfl) ?_ | refine tri_if_f (by rfl) ?_ | fail))
  by_cases h0 : 0 ≤ x.fr
  · rw [decide_eq_true (show x.fr ≥ 0 from h0)]
    have hlt : x.fr.toNat < F.length := by omega
    (repeat (first | refine tri_seq ?_ | refine tri_then ?_))
    refine tri_if_t (by rfl) ?_
    (repeat (first | refine tri_seq ?_ | refine tri_then ?_))
    refine tri_drawt 10 rfl (by kernel_rfl) ?_; repeat (first | refine tris_pure rfl rfl ?_ | refine tris_pass rfl rfl ?_ | refine tris_nil ?_)
    (repeat (first | refine au_pure ?_ | refine au_pass ?_ | refine au_box (fun _ => ?_) | refine au_alloc (fun _ => ?_) | refine au_store ?_ | refine au_make rfl rfl (fun _ => ?_) | refine au_lit rfl rfl rfl (fun _ => ?_) | refine au_append rfl rfl rfl rfl (fun _ => au_norm ?_) | refine au_storeE rfl rfl rfl rfl ?_)); refine tri_nil ?_; (repeat refine tri_then ?_)
    obtain ⟨y, hy⟩ : ∃ y : FR, y = ⟨(F.getD x.fr.toNat default).ct - 1, (F.getD x.fr.toNat default).wd⟩ := ⟨_, rfl⟩
    have hF1l : (F.set x.fr.toNat y).length = F.length := List.length_set ..
    have hF1g : (F.set x.fr.toNat y).getD x.fr.toNat default = y := getD_set_eq hlt
    have hF1s : ∀ u, (F.set x.fr.toNat y).set x.fr.toNat u = F.set x.fr.toNat u := fun u => List.set_set ..
    refine tri_weak (H' := Hp w0 (cowC g2 z r.v f.v cp :: pgS rp (Pg.set p ⟨-1, false⟩) :: frS f (F.set x.fr.toNat y) :: spS r X :: cs)) (fun w h => by rw [hy]; exact h) ?_
    have hcl : clrF F x = F.set x.fr.toNat ⟨y.ct, if y.ct = 0 then 0 else y.wd⟩ := by unfold clrF; rw [if_pos h0, hy]; rfl
    obtain ⟨F1, hF1⟩ : ∃ F1, F1 = F.set x.fr.toNat y := ⟨_, rfl⟩
    rw [← hF1] at hF1l hF1g hF1s ⊢
    (repeat (first | refine au_pure ?_ | refine au_pass ?_ | refine au_box (fun _ => ?_) | refine au_alloc (fun _ => ?_) | refine au_store ?_ | refine au_make rfl rfl (fun _ => ?_) | refine au_lit rfl rfl rfl (fun _ => ?_) | refine au_append rfl rfl rfl rfl (fun _ => au_norm ?_) | refine au_storeE rfl rfl rfl rfl ?_ | refine tri_seq ?_ | refine tri_then ?_ | refine tri_region ?_ | refine tri_nil ?_ | refine tri_skip ?_ | refine tri_ret ?_ | refine tri_exit ?_ | refine tri_thenr ?_ | refine tri_thene ?_ | refine tri_blkn ?_ | refine tri_blkr ?_ | refine tri_blke ?_ | refine tri_blko (by rfl) ?_ | refine tri_if_t (by rfl) ?_ | refine tri_if_f (by rfl) ?_ | fail))
    rw [hF1g]
    ((first | refine tri_cond (by rfl) (fun hc => ?_) (fun hc => ?_) | refine tri_gsplit (by rfl) (by rfl) (by (fail_if_success exact (rfl : _ = some (Value.bool true))); (fail_if_success exact (rfl : _ = some (Value.bool false))); rfl) (fun hc => ?_) (fun hc => ?_)) <;> (try simp only [decide_eq_true_eq, decide_eq_false_iff_not, beq_iff_eq, bne_iff_ne, ne_eq, Bool.not_eq_true', Bool.not_eq_false', beq_eq_false_iff_ne, bne_eq_false_iff_eq, Int.not_lt, Int.not_le, gt_iff_lt, ge_iff_le, Bool.and_eq_true, Bool.or_eq_true, Bool.and_eq_false_iff, Bool.or_eq_false_iff, Decidable.not_not, not_true_eq_false, not_false_eq_true, and_true, true_and, or_false, false_or, or_true, true_or, and_false, false_and, eq_self, Bool.true_eq_false, Bool.false_eq_true] at hc) <;> (try (exfalso; omega)))
    · rw [if_pos (by assumption)] at hcl
      (repeat (first | refine au_pure ?_ | refine au_pass ?_ | refine au_box (fun _ => ?_) | refine au_alloc (fun _ => ?_) | refine au_store ?_ | refine au_make rfl rfl (fun _ => ?_) | refine au_lit rfl rfl rfl (fun _ => ?_) | refine au_append rfl rfl rfl rfl (fun _ => au_norm ?_) | refine au_storeE rfl rfl rfl rfl ?_ | refine tri_seq ?_ | refine tri_then ?_ | refine tri_region ?_ | refine tri_nil ?_ | refine tri_skip ?_ | refine tri_ret ?_ | refine tri_exit ?_ | refine tri_thenr ?_ | refine tri_thene ?_ | refine tri_blkn ?_ | refine tri_blkr ?_ | refine tri_blke ?_ | refine tri_blko (by rfl) ?_ | refine tri_if_t (by rfl) ?_ | refine tri_if_f (by rfl) ?_ | fail))
      refine tri_done0 (by first | exact .inl rfl | exact .inr rfl) rfl ?_
      intro w hw
      refine ⟨(), rfl, ?_⟩
      rw [hcl, ← hF1s, show (⟨y.ct, 0⟩ : FR) = ⟨(F1.getD x.fr.toNat default).ct, 0⟩ by rw [hF1g]]
      exact HpM.tail hw
    · rw [if_neg (by assumption)] at hcl
      (repeat (first | refine au_pure ?_ | refine au_pass ?_ | refine au_box (fun _ => ?_) | refine au_alloc (fun _ => ?_) | refine au_store ?_ | refine au_make rfl rfl (fun _ => ?_) | refine au_lit rfl rfl rfl (fun _ => ?_) | refine au_append rfl rfl rfl rfl (fun _ => au_norm ?_) | refine au_storeE rfl rfl rfl rfl ?_ | refine tri_seq ?_ | refine tri_then ?_ | refine tri_region ?_ | refine tri_nil ?_ | refine tri_skip ?_ | refine tri_ret ?_ | refine tri_exit ?_ | refine tri_thenr ?_ | refine tri_thene ?_ | refine tri_blkn ?_ | refine tri_blkr ?_ | refine tri_blke ?_ | refine tri_blko (by rfl) ?_ | refine tri_if_t (by rfl) ?_ | refine tri_if_f (by rfl) ?_ | fail))
      refine tri_done0 (by first | exact .inl rfl | exact .inr rfl) rfl ?_
      intro w hw
      refine ⟨(), rfl, ?_⟩
      rw [hcl, show (⟨y.ct, y.wd⟩ : FR) = y from rfl, ← hF1]
      exact HpM.tail hw
  · rw [decide_eq_false (show ¬ x.fr ≥ 0 from h0)]
    (repeat (first | refine au_pure ?_ | refine au_pass ?_ | refine au_box (fun _ => ?_) | refine au_alloc (fun _ => ?_) | refine au_store ?_ | refine au_make rfl rfl (fun _ => ?_) | refine au_lit rfl rfl rfl (fun _ => ?_) | refine au_append rfl rfl rfl rfl (fun _ => au_norm ?_) | refine au_storeE rfl rfl rfl rfl ?_ | refine tri_seq ?_ | refine tri_then ?_ | refine tri_region ?_ | refine tri_nil ?_ | refine tri_skip ?_ | refine tri_ret ?_ | refine tri_exit ?_ | refine tri_thenr ?_ | refine tri_thene ?_ | refine tri_blkn ?_ | refine tri_blkr ?_ | refine tri_blke ?_ | refine tri_blko (by rfl) ?_ | refine tri_if_t (by rfl) ?_ | refine tri_if_f (by rfl) ?_ | fail))
    refine tri_done0 (by first | exact .inl rfl | exact .inr rfl) rfl ?_
    intro w hw
    have hcl : clrF F x = F := if_neg h0
    rw [hcl]
    exact ⟨(), rfl, hw.tail⟩
theorem runmap_c {vS vF : Value} {xs : List SP} {m : CW} (s p : Int) (hC : RdC (Hp w0 cs) vS vF xs m) (hL : CLe m) :
    Cal Try.prog 41 [cowV m.z vS vF m.cp, .int .i64 s, .int .i64 p] (Hp w0 cs) (fun q : CR (unmM m s p).1.sp.length => .tuple #[crV q (unmM m s p).1, .int .i64 (unmM m s p).2]) (fun q => crH w0 cs q (unmM m s p).1) := by
  have hvl := hC.len
  refine cal_of_tri Try.func41 rfl Try.ntmps41 rfl ?_
  (repeat (first | refine au_pure ?_ | refine au_pass ?_ | refine au_box (fun _ => ?_) | refine au_alloc (fun _ => ?_) | refine au_store ?_ | refine au_make rfl rfl (fun _ => ?_) | refine au_lit rfl rfl rfl (fun _ => ?_) | refine au_append rfl rfl rfl rfl (fun _ => au_norm ?_) | refine au_storeE rfl rfl rfl rfl ?_ | refine tri_seq ?_ | refine tri_then ?_ | refine tri_region ?_ | refine tri_nil ?_ | refine tri_skip ?_ | refine tri_ret ?_ | refine tri_exit ?_ | refine tri_thenr ?_ | refine tri_thene ?_ | refine tri_blkn ?_ | refine tri_blkr ?_ | refine tri_blke ?_ | refine tri_blko (by rfl) ?_ | refine tri_if_t (by rfl) ?_ | refine tri_if_f (by rfl) ?_ | fail))
  rename_i g3 g6
  refine au_callC rfl rfl rfl rfl rfl (rplace_c w0 _ s p hC.cons.cons hL) (fun _ => ?_)
  (repeat (first | refine au_pure ?_ | refine au_pass ?_ | refine au_box (fun _ => ?_) | refine au_alloc (fun _ => ?_) | refine au_store ?_ | refine au_make rfl rfl (fun _ => ?_) | refine au_lit rfl rfl rfl (fun _ => ?_) | refine au_append rfl rfl rfl rfl (fun _ => au_norm ?_) | refine au_storeE rfl rfl rfl rfl ?_ | refine tri_seq ?_ | refine tri_then ?_ | refine tri_region ?_ | refine tri_nil ?_ | refine tri_skip ?_ | refine tri_ret ?_ | refine tri_exit ?_ | refine tri_thenr ?_ | refine tri_thene ?_ | refine tri_blkn ?_ | refine tri_blkr ?_ | refine tri_blke ?_ | refine tri_blko (by rfl) ?_ | refine tri_if_t (by rfl) ?_ | refine tri_if_f (by rfl) ?_ | fail))
  ((first | refine tri_cond (by rfl) (fun hc => ?_) (fun hc => ?_) | refine tri_gsplit (by rfl) (by rfl) (by (fail_if_success exact (rfl : _ = some (Value.bool true))); (fail_if_success exact (rfl : _ = some (Value.bool false))); rfl) (fun hc => ?_) (fun hc => ?_)) <;> (try simp only [decide_eq_true_eq, decide_eq_false_iff_not, beq_iff_eq, bne_iff_ne, ne_eq, Bool.not_eq_true', Bool.not_eq_false', beq_eq_false_iff_ne, bne_eq_false_iff_eq, Int.not_lt, Int.not_le, gt_iff_lt, ge_iff_le, Bool.and_eq_true, Bool.or_eq_true, Bool.and_eq_false_iff, Bool.or_eq_false_iff, Decidable.not_not, not_true_eq_false, not_false_eq_true, and_true, true_and, or_false, false_or, or_true, true_or, and_false, false_and, eq_self, Bool.true_eq_false, Bool.false_eq_true] at hc) <;> (try (exfalso; omega)))
  · have he := unm_err (show atE m s p ≠ 0 by assumption)
    rw [he]
    (repeat (first | refine au_pure ?_ | refine au_pass ?_ | refine au_box (fun _ => ?_) | refine au_alloc (fun _ => ?_) | refine au_store ?_ | refine au_make rfl rfl (fun _ => ?_) | refine au_lit rfl rfl rfl (fun _ => ?_) | refine au_append rfl rfl rfl rfl (fun _ => au_norm ?_) | refine au_storeE rfl rfl rfl rfl ?_ | refine tri_seq ?_ | refine tri_then ?_ | refine tri_region ?_ | refine tri_nil ?_ | refine tri_skip ?_ | refine tri_ret ?_ | refine tri_exit ?_ | refine tri_thenr ?_ | refine tri_thene ?_ | refine tri_blkn ?_ | refine tri_blkr ?_ | refine tri_blke ?_ | refine tri_blko (by rfl) ?_ | refine tri_if_t (by rfl) ?_ | refine tri_if_f (by rfl) ?_ | fail))
    refine au_done2 rfl ?_
    exact fun w hw => zero_res (m' := CW.zero) hw rfl rfl (by repeat (first | exact List.Sublist.refl _ | assumption | apply List.Sublist.cons_cons | apply List.Sublist.cons))
  have hk : atE m s p = 0 := by assumption
  rw [unm_yes hk]
  obtain ⟨h1, hO, h3, h4, h5, h6, h7, h8, h9⟩ := at_ok hk
  obtain ⟨s, rfl⟩ : ∃ k : Nat, s = (k : Int) := ⟨s.toNat, by omega⟩
  obtain ⟨p, rfl⟩ : ∃ k : Nat, p = (k : Int) := ⟨p.toNat, by omega⟩
  simp only [Int.toNat_natCast] at h4 h5 h6 h9 ⊢
  have hx := hO.at_ h9
  have hbd : Bd m.fm (-1000000) 1000000 := fun j => by have := hO.ctb' j; omega
  (repeat (first | refine au_pure ?_ | refine au_pass ?_ | refine au_box (fun _ => ?_) | refine au_alloc (fun _ => ?_) | refine au_store ?_ | refine au_make rfl rfl (fun _ => ?_) | refine au_lit rfl rfl rfl (fun _ => ?_) | refine au_append rfl rfl rfl rfl (fun _ => au_norm ?_) | refine au_storeE rfl rfl rfl rfl ?_ | refine tri_seq ?_ | refine tri_then ?_ | refine tri_region ?_ | refine tri_nil ?_ | refine tri_skip ?_ | refine tri_ret ?_ | refine tri_exit ?_ | refine tri_thenr ?_ | refine tri_thene ?_ | refine tri_blkn ?_ | refine tri_blkr ?_ | refine tri_blke ?_ | refine tri_blko (by rfl) ?_ | refine tri_if_t (by rfl) ?_ | refine tri_if_f (by rfl) ?_ | fail))
  refine au_callC rfl rfl rfl rfl rfl (rcopy_c w0 _ hC.cons.cons hO) ?_
  rintro ⟨r, rs, f, hl⟩
  refine tri_weak (H' := Hp w0 (pgS (rs.getD s (Row.nil 0)) (m.sp.getD s default).pg :: frS f m.fm :: spS r (spx rs m.sp) :: zeC g6 :: cowC g3 m.z vS vF m.cp :: (px rs m.sp s ++ cs))) (fun w h => HpM.perm h (own_focus hl h4)) ?_
  obtain ⟨rp, hrp⟩ : ∃ rp, rp = rs.getD s (Row.nil 0) := ⟨_, rfl⟩
  have hXv : ((spx rs m.sp).getD s default).s.v = (rs.getD s (Row.nil 0)).v := by rw [spx_get hl h4]; rfl
  have hXl := spx_len hl
  rw [← hrp] at hXv ⊢
  obtain ⟨X, hX⟩ : ∃ X, X = spx rs m.sp := ⟨_, rfl⟩
  rw [← hX] at hXv hXl ⊢
  have hug : unmG m s p = ⟨m.z, m.sp.set s ⟨(m.sp.getD s default).lv, (m.sp.getD s default).pg.set p ⟨-1, false⟩⟩, clrF m.fm (pgAt m s p), m.cp⟩ := rfl
  rw [hug]
  have hxe : pgAt m s p = (m.sp.getD s default).pg.getD p default := rfl
  rw [hxe] at hx ⊢
  obtain ⟨Pg, hPg⟩ : ∃ Pg, Pg = (m.sp.getD s default).pg := ⟨_, rfl⟩
  rw [← hPg] at h6 h9 hx ⊢
  (repeat (first | refine au_pure ?_ | refine au_pass ?_ | refine au_box (fun _ => ?_) | refine au_alloc (fun _ => ?_) | refine au_store ?_ | refine au_make rfl rfl (fun _ => ?_) | refine au_lit rfl rfl rfl (fun _ => ?_) | refine au_append rfl rfl rfl rfl (fun _ => au_norm ?_) | refine au_storeE rfl rfl rfl rfl ?_ | refine tri_seq ?_ | refine tri_then ?_ | refine tri_region ?_ | refine tri_nil ?_ | refine tri_skip ?_ | refine tri_ret ?_ | refine tri_exit ?_ | refine tri_thenr ?_ | refine tri_thene ?_ | refine tri_blkn ?_ | refine tri_blkr ?_ | refine tri_blke ?_ | refine tri_blko (by rfl) ?_ | refine tri_if_t (by rfl) ?_ | refine tri_if_f (by rfl) ?_ | fail))
  rename_i g9
  refine tri_weak (H' := Hp w0 (pgS rp Pg :: frS f m.fm :: spS r X :: cowC g9 m.z r.v f.v m.cp :: zeC g6 :: cowC g3 m.z vS vF m.cp :: (px rs m.sp s ++ cs))) (fun w h => HpM.perm h (List.perm_middle (l₁ := [_, _, _])).symm) ?_
  refine au_callC rfl rfl rfl rfl rfl (runm_c w0 _ (z := m.z) (cp := m.cp) (by omega) hXv h9 hx.2.1 hbd) (fun _ => ?_)
  (repeat (first | refine au_pure ?_ | refine au_pass ?_ | refine au_box (fun _ => ?_) | refine au_alloc (fun _ => ?_) | refine au_store ?_ | refine au_make rfl rfl (fun _ => ?_) | refine au_lit rfl rfl rfl (fun _ => ?_) | refine au_append rfl rfl rfl rfl (fun _ => au_norm ?_) | refine au_storeE rfl rfl rfl rfl ?_ | refine tri_seq ?_ | refine tri_then ?_ | refine tri_region ?_ | refine tri_nil ?_ | refine tri_skip ?_ | refine tri_ret ?_ | refine tri_exit ?_ | refine tri_thenr ?_ | refine tri_thene ?_ | refine tri_blkn ?_ | refine tri_blkr ?_ | refine tri_blke ?_ | refine tri_blko (by rfl) ?_ | refine tri_if_t (by rfl) ?_ | refine tri_if_f (by rfl) ?_ | fail))
  refine au_done2 rfl ?_
  intro w hw
  refine ⟨⟨r, rs, f, by simp [hl]⟩, rfl, ?_⟩
  refine fin_rows (rp := rp) (X := X) hl h4 hX hrp rfl ?_
  exact hw.sub (by repeat (first | exact List.Sublist.refl _ | assumption | apply List.Sublist.cons_cons | apply List.Sublist.cons))
end
end Go.Proofs.Ytinnkclemjognaa
