/- generations: all, ages, isFrame, Check. No conditions. -/
import Derived.Test.YtongcjepmidamaaGenIter
set_option linter.unusedSimpArgs false
set_option linter.unusedVariables false
namespace Go.Proofs.Ytongcjepmidamaa
open Go Go.RowKit
attribute [local irreducible] Code.wp Code.wpIn wpList wpListIn bodyPost bodyPostM Exit.then Exit.inBlock Calls wpQuiet Tri TriQ
theorem rall_of {w0 w : World} {cs : List Chunk} {gb t : Nat} {v : Value} {vs : List SV} {L : GL} (h : RdN (Hp w0 cs) v vs L) (hc : Has cs (blkC gb t [v])) (hw : Hp w0 cs w) : RAll gb v vs L w :=
  ⟨by rw [HpM.cell hw hc]; rfl, ⟨fun w' e => by subst e; exact h.out _ hw, h.len, fun i w' e => by subst e; exact h.inn i _ hw⟩⟩
theorem cells_one {α : Type} [Enc α] {w : World} {v : Value} {l : List α} (h : Rd w v l) : v.cells.toList = [v] := by
  obtain ⟨A, c, rfl, _⟩ := h.form
  rfl
theorem any_bad {L : GL} : L.flatten.any (fun f => !okF f) = false ↔ ∀ j, j < (prL L).length → okF ((prL L).getD j default).2 = true := by
  rw [← pr_snd, List.any_map, getD_any]
  constructor
  · intro h j hj
    have := h j hj
    simpa using this
  · intro h j hj
    have := h j hj
    simpa using this
section
variable (w0 : World) (cs : List Chunk)
theorem all_c {v : Value} (hv : v.cells.toList = [v]) : Cal Try.prog 31 [v] (Hp w0 cs) (fun gb : Nat => .func (.func 42) #[] #[.pointer (some ⟨gb, 0, none⟩)]) (fun gb => Hp w0 (blkC gb 22 [v] :: cs)) := by
  refine cal_of_tri Try.func31 rfl Try.ntmps31 rfl ?_
  (repeat (first | refine au_pure ?_ | refine au_pass ?_ | refine au_box (fun _ => ?_) | refine au_alloc (fun _ => ?_) | refine au_store ?_ | refine au_make rfl rfl (fun _ => ?_) | refine au_lit rfl rfl rfl (fun _ => ?_) | refine au_append rfl rfl rfl rfl (fun _ => au_norm ?_) | refine au_storeE rfl rfl rfl rfl ?_ | refine tri_seq ?_ | refine tri_then ?_ | refine tri_region ?_ | refine tri_nil ?_ | refine tri_skip ?_ | refine tri_ret ?_ | refine tri_exit ?_ | refine tri_thenr ?_ | refine tri_thene ?_ | refine tri_blkn ?_ | refine tri_blkr ?_ | refine tri_blke ?_ | refine tri_blko (by rfl) ?_ | refine tri_if_t (by rfl) ?_ | refine tri_if_f (by rfl) ?_ | fail))
  rename_i gb
  refine au_done1 rfl ?_
  exact fun w hw => ⟨gb, rfl, by rw [hv] at hw; exact hw⟩
theorem isFrame_c (f : Int) : Cal Try.prog 32 [.int .i64 f] (Hp w0 cs) (fun _ : Unit => .bool (okF f)) (fun _ => Hp w0 cs) := by
  refine cal_of_tri Try.func32 rfl Try.ntmps32 rfl ?_
  (repeat' (first | refine au_pure ?_ | refine au_pass ?_ | refine au_box (fun _ => ?_) | refine au_alloc (fun _ => ?_) | refine au_store ?_ | refine au_make rfl rfl (fun _ => ?_) | refine au_lit rfl rfl rfl (fun _ => ?_) | refine au_append rfl rfl rfl rfl (fun _ => au_norm ?_) | refine au_storeE rfl rfl rfl rfl ?_ | refine tri_seq ?_ | refine tri_then ?_ | refine tri_region ?_ | refine tri_nil ?_ | refine tri_skip ?_ | refine tri_ret ?_ | refine tri_exit ?_ | refine tri_thenr ?_ | refine tri_thene ?_ | refine tri_blkn ?_ | refine tri_blkr ?_ | refine tri_blke ?_ | refine tri_blko (by rfl) ?_ | refine tri_block ?_ | refine tri_if_t (by rfl) ?_ | refine tri_if_f (by rfl) ?_ | ((first | refine tri_cond (by rfl) (fun hc => ?_) (fun hc => ?_) | refine tri_gsplit (by rfl) (by rfl) (by (fail_if_success exact (rfl : _ = some (Value.bool true))); (fail_if_success exact (rfl : _ = some (Value.bool false))); rfl) (fun hc => ?_) (fun hc => ?_)) <;> (try simp only [decide_eq_true_eq, decide_eq_false_iff_not, beq_iff_eq, bne_iff_ne, ne_eq, Bool.not_eq_true', Bool.not_eq_false', beq_eq_false_iff_ne, bne_eq_false_iff_eq, Int.not_lt, Int.not_le, gt_iff_lt, ge_iff_le, Bool.and_eq_true, Bool.or_eq_true, Bool.and_eq_false_iff, Bool.or_eq_false_iff, Decidable.not_not, not_true_eq_false, not_false_eq_true, and_true, true_and, or_false, false_or, or_true, true_or, and_false, false_and, eq_self, Bool.true_eq_false, Bool.false_eq_true] at hc) <;> (try (exfalso; omega))) | fail))
  all_goals
    refine au_done1 rfl ?_
    intro w hw; refine ⟨(), ?_, hw.sub (by repeat (first | exact List.Sublist.refl _ | assumption | apply List.Sublist.cons_cons | apply List.Sublist.cons))⟩
    unfold okF
    first
      | rw [decide_eq_false (show ¬ (0 ≤ f ∧ f < 256) by omega)]
      | rw [show decide (0 ≤ f ∧ f < 256) = decide (f < 256) from decide_eq_decide.2 (by omega)]
set_option maxHeartbeats 2000000 in
theorem ages_c {v : Value} {vs : List SV} {L : GL} (hN : RdN (Hp w0 cs) v vs L) (hlen : L.length ≤ 1000) (hin : ∀ i, (L.getD i default).length ≤ 1000) :
    Cal Try.prog 33 [v] (Hp w0 cs) (fun b : Nat => .map (some b)) (fun b => Hp w0 (mapC b (agM L) :: cs)) := by
  intro w hw
  have hv := cells_one (hN.out w hw)
  refine (show Cal _ _ _ _ _ _ from ?_) w hw
  clear hw w
  refine cal_of_trim Try.func33 rfl Try.ntmps33 rfl ?_
  (repeat (first | refine au_pure ?_ | refine au_pass ?_ | refine au_box (fun _ => ?_) | refine au_alloc (fun _ => ?_) | refine au_store ?_ | refine au_make rfl rfl (fun _ => ?_) | refine au_lit rfl rfl rfl (fun _ => ?_) | refine au_append rfl rfl rfl rfl (fun _ => au_norm ?_) | refine au_storeE rfl rfl rfl rfl ?_ | refine tri_seq ?_ | refine tri_then ?_ | refine tri_region ?_ | refine tri_nil ?_ | refine tri_skip ?_ | refine tri_ret ?_ | refine tri_exit ?_ | refine tri_thenr ?_ | refine tri_thene ?_ | refine tri_blkn ?_ | refine tri_blkr ?_ | refine tri_blke ?_ | refine tri_blko (by rfl) ?_ | refine tri_if_t (by rfl) ?_ | refine tri_if_f (by rfl) ?_ | refine au_pure (hy := yl_look (β := Int) rfl rfl rfl (by first | (apply has_at; (repeat (first | exact at0 | apply atS)); done) | (repeat (first | assumption | apply has_cons)))) ?_ | refine au_pure (hy := yl_look2 (β := Int) rfl rfl rfl (by first | (apply has_at; (repeat (first | exact at0 | apply atS)); done) | (repeat (first | assumption | apply has_cons)))) ?_ | refine au_pure (hy := yl_maplen (β := Int) rfl rfl (by first | (apply has_at; (repeat (first | exact at0 | apply atS)); done) | (repeat (first | assumption | apply has_cons)))) ?_ | refine tri_update (β := Int) rfl (by first | exact wan_plain rfl | exact wan_yes rfl rfl rfl) rfl rfl rfl rfl (by repeat (first | exact at0 | apply atS)) (by repeat (first | exact nf0 rfl | apply nfS rfl | exact nfR)) ?_ | refine tri_delete (β := Int) rfl (by first | exact wan_plain rfl | exact wan_yes rfl rfl rfl) rfl rfl rfl (by repeat (first | exact at0 | apply atS)) (by repeat (first | exact nf0 rfl | apply nfS rfl | exact nfR)) ?_ | refine tri_makeMap Int rfl rfl rfl rfl (fun _ => ?_) | fail))
  rename_i b gm
  refine au_callC rfl rfl rfl rfl rfl (all_c w0 _ hv) ?_
  intro gb
  (repeat (first | refine au_pure ?_ | refine au_pass ?_ | refine au_box (fun _ => ?_) | refine au_alloc (fun _ => ?_) | refine au_store ?_ | refine au_make rfl rfl (fun _ => ?_) | refine au_lit rfl rfl rfl (fun _ => ?_) | refine au_append rfl rfl rfl rfl (fun _ => au_norm ?_) | refine au_storeE rfl rfl rfl rfl ?_ | refine tri_seq ?_ | refine tri_then ?_ | refine tri_region ?_ | refine tri_nil ?_ | refine tri_skip ?_ | refine tri_ret ?_ | refine tri_exit ?_ | refine tri_thenr ?_ | refine tri_thene ?_ | refine tri_blkn ?_ | refine tri_blkr ?_ | refine tri_blke ?_ | refine tri_blko (by rfl) ?_ | refine tri_if_t (by rfl) ?_ | refine tri_if_f (by rfl) ?_ | fail))
  refine tri_block ?_
  refine tri_range_func (σ := Unit) (τ := Unit) (K := (prL L).length) (R := RAll gb v vs L) (A := fun k => .int .i64 (((prL L).getD k default).1 : Int)) (B := fun k => .int .i64 ((prL L).getD k default).2)
    (fun k _ => blkC gb 22 [v] :: blkC gm 46 [.map (some b)] :: mapC b (agT ((prL L).take k)) :: cs) (fun _ _ => True) (fun _ => []) (fun _ => False)
    (fun k => [(3, .pointer (some ⟨gm, 0, none⟩)), (4, .int .i64 (((prL L).getD k default).1 : Int)), (5, .int .i64 ((prL L).getD k default).2)])
    rfl (all1_c hlen hin) () trivial (fun _ h => h) (fun k _ w _ h => rall_of (hN.sub (by repeat (first | exact List.Sublist.refl _ | assumption | apply List.Sublist.cons_cons | apply List.Sublist.cons))) (by first | (apply has_at; (repeat (first | exact at0 | apply atS)); done) | (repeat (first | assumption | apply has_cons))) h) rfl rfl ?_ ?_ ?_ (fun _ _ _ _ h => h.elim)
  · intro k l F H' hF
    (repeat (first | refine au_pure ?_ | refine au_pass ?_ | refine au_box (fun _ => ?_) | refine au_alloc (fun _ => ?_) | refine au_store ?_ | refine au_make rfl rfl (fun _ => ?_) | refine au_lit rfl rfl rfl (fun _ => ?_) | refine au_append rfl rfl rfl rfl (fun _ => au_norm ?_) | refine au_storeE rfl rfl rfl rfl ?_ | refine tri_seq ?_ | refine tri_then ?_ | refine tri_region ?_ | refine tri_nil ?_ | refine tri_skip ?_ | refine tri_ret ?_ | refine tri_exit ?_ | refine tri_thenr ?_ | refine tri_thene ?_ | refine tri_blkn ?_ | refine tri_blkr ?_ | refine tri_blke ?_ | refine tri_blko (by rfl) ?_ | refine rr_seq ?_ | refine rr_region ?_ | refine rr_skip ?_ | refine rr_ret ?_ | refine rr_exit ?_ | refine rr_block ?_ | refine rr_if_t (by rfl) ?_ | refine rr_if_f (by rfl) ?_ | refine tri_if_t (by rfl) ?_ | refine tri_if_f (by rfl) ?_ | fail))
    exact tri_sub (by repeat (first | exact trivial | refine ⟨rfl, ?_⟩)) hF
  · intro k _ l D r hk _
    obtain ⟨p, hp⟩ : ∃ p, p = (prL L).getD k default := ⟨_, rfl⟩
    have hst : agT ((prL L).take (k + 1)) = aSet (agT ((prL L).take k)) p.2 (p.1 : Int) := by rw [take_snoc hk, agT_snoc, hp]
    rw [← hp]
    (repeat (first | refine au_pure ?_ | refine au_pass ?_ | refine au_box (fun _ => ?_) | refine au_alloc (fun _ => ?_) | refine au_store ?_ | refine au_make rfl rfl (fun _ => ?_) | refine au_lit rfl rfl rfl (fun _ => ?_) | refine au_append rfl rfl rfl rfl (fun _ => au_norm ?_) | refine au_storeE rfl rfl rfl rfl ?_ | refine tri_seq ?_ | refine tri_then ?_ | refine tri_region ?_ | refine tri_nil ?_ | refine tri_skip ?_ | refine tri_ret ?_ | refine tri_exit ?_ | refine tri_thenr ?_ | refine tri_thene ?_ | refine tri_blkn ?_ | refine tri_blkr ?_ | refine tri_blke ?_ | refine tri_blko (by rfl) ?_ | refine rr_seq ?_ | refine rr_region ?_ | refine rr_skip ?_ | refine rr_ret ?_ | refine rr_exit ?_ | refine rr_block ?_ | refine rr_if_t (by rfl) ?_ | refine rr_if_f (by rfl) ?_ | refine tri_if_t (by rfl) ?_ | refine tri_if_f (by rfl) ?_ | refine au_pure (hy := yl_look (β := Int) rfl rfl rfl (by first | (apply has_at; (repeat (first | exact at0 | apply atS)); done) | (repeat (first | assumption | apply has_cons)))) ?_ | refine au_pure (hy := yl_look2 (β := Int) rfl rfl rfl (by first | (apply has_at; (repeat (first | exact at0 | apply atS)); done) | (repeat (first | assumption | apply has_cons)))) ?_ | refine au_pure (hy := yl_maplen (β := Int) rfl rfl (by first | (apply has_at; (repeat (first | exact at0 | apply atS)); done) | (repeat (first | assumption | apply has_cons)))) ?_ | refine tri_update (β := Int) rfl (by first | exact wan_plain rfl | exact wan_yes rfl rfl rfl) rfl rfl rfl rfl (by repeat (first | exact at0 | apply atS)) (by repeat (first | exact nf0 rfl | apply nfS rfl | exact nfR)) ?_ | refine tri_delete (β := Int) rfl (by first | exact wan_plain rfl | exact wan_yes rfl rfl rfl) rfl rfl rfl (by repeat (first | exact at0 | apply atS)) (by repeat (first | exact nf0 rfl | apply nfS rfl | exact nfR)) ?_ | refine tri_makeMap Int rfl rfl rfl rfl (fun _ => ?_) | fail))
    exact rn_norm () trivial (fun w h => by rw [hst]; exact h)
  · intro _ D dl hdl _
    rw [List.take_length]
    (repeat (first | refine au_pure ?_ | refine au_pass ?_ | refine au_box (fun _ => ?_) | refine au_alloc (fun _ => ?_) | refine au_store ?_ | refine au_make rfl rfl (fun _ => ?_) | refine au_lit rfl rfl rfl (fun _ => ?_) | refine au_append rfl rfl rfl rfl (fun _ => au_norm ?_) | refine au_storeE rfl rfl rfl rfl ?_ | refine tri_seq ?_ | refine tri_then ?_ | refine tri_region ?_ | refine tri_nil ?_ | refine tri_skip ?_ | refine tri_ret ?_ | refine tri_exit ?_ | refine tri_thenr ?_ | refine tri_thene ?_ | refine tri_blkn ?_ | refine tri_blkr ?_ | refine tri_blke ?_ | refine tri_blko (by rfl) ?_ | refine tri_if_t (by rfl) ?_ | refine tri_if_f (by rfl) ?_ | fail))
    refine donem_1 hdl rfl ?_
    exact fun w hw => ⟨b, rfl, hw.sub (by repeat (first | exact List.Sublist.refl _ | assumption | apply List.Sublist.cons_cons | apply List.Sublist.cons))⟩
set_option maxHeartbeats 2000000 in
theorem check_c {v : Value} {vs : List SV} {L : GL} (hN : RdN (Hp w0 cs) v vs L) (hlen : L.length ≤ 1000) (hin : ∀ i, (L.getD i default).length ≤ 1000) :
    Cal Try.prog 16 [v] (Hp w0 cs) (fun _ : Unit => .int .i64 (chkG L)) (fun _ => Hp w0 cs) := by
  intro w hw
  have hv := cells_one (hN.out w hw)
  refine (show Cal _ _ _ _ _ _ from ?_) w hw
  clear hw w
  have hvl := hN.len
  have hRo := hN.out
  have hK : (prL L).length ≤ 1000000 := by
    have : ∀ i, i ≤ L.length → off L i ≤ 1000 * i := by
      intro i
      induction i with
      | zero => intro _; exact Nat.le_refl _
      | succ i ih => intro h; rw [off_succ]; have := ih (by omega); have := hin i; omega
    have h2 := this L.length (Nat.le_refl _)
    have h3 : (prL L).length = off L L.length := rfl
    omega
  refine cal_of_trim Try.func16 rfl Try.ntmps16 rfl ?_
  (repeat (first | refine au_pure ?_ | refine au_pass ?_ | refine au_box (fun _ => ?_) | refine au_alloc (fun _ => ?_) | refine au_store ?_ | refine au_make rfl rfl (fun _ => ?_) | refine au_lit rfl rfl rfl (fun _ => ?_) | refine au_append rfl rfl rfl rfl (fun _ => au_norm ?_) | refine au_storeE rfl rfl rfl rfl ?_ | refine tri_seq ?_ | refine tri_then ?_ | refine tri_region ?_ | refine tri_nil ?_ | refine tri_skip ?_ | refine tri_ret ?_ | refine tri_exit ?_ | refine tri_thenr ?_ | refine tri_thene ?_ | refine tri_blkn ?_ | refine tri_blkr ?_ | refine tri_blke ?_ | refine tri_blko (by rfl) ?_ | refine tri_if_t (by rfl) ?_ | refine tri_if_f (by rfl) ?_ | fail))
  ((first | refine tri_cond (by rfl) (fun hc => ?_) (fun hc => ?_) | refine tri_gsplit (by rfl) (by rfl) (by (fail_if_success exact (rfl : _ = some (Value.bool true))); (fail_if_success exact (rfl : _ = some (Value.bool false))); rfl) (fun hc => ?_) (fun hc => ?_)) <;> (try simp only [decide_eq_true_eq, decide_eq_false_iff_not, beq_iff_eq, bne_iff_ne, ne_eq, Bool.not_eq_true', Bool.not_eq_false', beq_eq_false_iff_ne, bne_eq_false_iff_eq, Int.not_lt, Int.not_le, gt_iff_lt, ge_iff_le, Bool.and_eq_true, Bool.or_eq_true, Bool.and_eq_false_iff, Bool.or_eq_false_iff, Decidable.not_not, not_true_eq_false, not_false_eq_true, and_true, true_and, or_false, false_or, or_true, true_or, and_false, false_and, eq_self, Bool.true_eq_false, Bool.false_eq_true] at hc) <;> (try (exfalso; omega)))
  · (repeat (first | refine au_pure ?_ | refine au_pass ?_ | refine au_box (fun _ => ?_) | refine au_alloc (fun _ => ?_) | refine au_store ?_ | refine au_make rfl rfl (fun _ => ?_) | refine au_lit rfl rfl rfl (fun _ => ?_) | refine au_append rfl rfl rfl rfl (fun _ => au_norm ?_) | refine au_storeE rfl rfl rfl rfl ?_ | refine tri_seq ?_ | refine tri_then ?_ | refine tri_region ?_ | refine tri_nil ?_ | refine tri_skip ?_ | refine tri_ret ?_ | refine tri_exit ?_ | refine tri_thenr ?_ | refine tri_thene ?_ | refine tri_blkn ?_ | refine tri_blkr ?_ | refine tri_blke ?_ | refine tri_blko (by rfl) ?_ | refine tri_if_t (by rfl) ?_ | refine tri_if_f (by rfl) ?_ | fail))
    refine donem0_1 rfl ?_
    intro w hw; refine ⟨(), ?_, hw.sub (by repeat (first | exact List.Sublist.refl _ | assumption | apply List.Sublist.cons_cons | apply List.Sublist.cons))⟩
    unfold chkG
    rw [if_pos (by omega)]
  have hL4 : L.length = 4 := by omega
  (repeat (first | refine au_pure ?_ | refine au_pass ?_ | refine au_box (fun _ => ?_) | refine au_alloc (fun _ => ?_) | refine au_store ?_ | refine au_make rfl rfl (fun _ => ?_) | refine au_lit rfl rfl rfl (fun _ => ?_) | refine au_append rfl rfl rfl rfl (fun _ => au_norm ?_) | refine au_storeE rfl rfl rfl rfl ?_ | refine tri_seq ?_ | refine tri_then ?_ | refine tri_region ?_ | refine tri_nil ?_ | refine tri_skip ?_ | refine tri_ret ?_ | refine tri_exit ?_ | refine tri_thenr ?_ | refine tri_thene ?_ | refine tri_blkn ?_ | refine tri_blkr ?_ | refine tri_blke ?_ | refine tri_blko (by rfl) ?_ | refine tri_if_t (by rfl) ?_ | refine tri_if_f (by rfl) ?_ | fail))
  rename_i g2 g3
  refine au_callC rfl rfl rfl rfl rfl (all_c w0 _ hv) ?_
  intro gb
  (repeat (first | refine au_pure ?_ | refine au_pass ?_ | refine au_box (fun _ => ?_) | refine au_alloc (fun _ => ?_) | refine au_store ?_ | refine au_make rfl rfl (fun _ => ?_) | refine au_lit rfl rfl rfl (fun _ => ?_) | refine au_append rfl rfl rfl rfl (fun _ => au_norm ?_) | refine au_storeE rfl rfl rfl rfl ?_ | refine tri_seq ?_ | refine tri_then ?_ | refine tri_region ?_ | refine tri_nil ?_ | refine tri_skip ?_ | refine tri_ret ?_ | refine tri_exit ?_ | refine tri_thenr ?_ | refine tri_thene ?_ | refine tri_blkn ?_ | refine tri_blkr ?_ | refine tri_blke ?_ | refine tri_blko (by rfl) ?_ | refine tri_if_t (by rfl) ?_ | refine tri_if_f (by rfl) ?_ | fail))
  refine tri_block ?_
  refine tri_range_func (σ := Unit) (τ := Nat) (K := (prL L).length) (R := RAll gb v vs L) (A := fun k => .int .i64 (((prL L).getD k default).1 : Int)) (B := fun k => .int .i64 ((prL L).getD k default).2)
    (fun k _ => blkC gb 22 [v] :: blkC g3 3 [.int .i64 (k : Int)] :: blkC g2 3 [.int .i64 0] :: cs) (fun k _ => ∀ j, j < k → okF ((prL L).getD j default).2 = true)
    (fun k => blkC gb 22 [v] :: blkC g3 3 [.int .i64 (k : Int)] :: blkC g2 3 [.int .i64 2] :: cs) (fun k => L.flatten.any (fun f => !okF f) = true)
    (fun k => [(0, v), (2, .pointer (some ⟨g2, 0, none⟩)), (3, .pointer (some ⟨g3, 0, none⟩)), (5, .int .i64 ((prL L).getD k default).2)])
    rfl (all1_c hlen hin) () (fun j hj => by omega) (fun _ h => h) (fun k _ w _ h => rall_of (hN.sub (by repeat (first | exact List.Sublist.refl _ | assumption | apply List.Sublist.cons_cons | apply List.Sublist.cons))) (by first | (apply has_at; (repeat (first | exact at0 | apply atS)); done) | (repeat (first | assumption | apply has_cons))) h) rfl rfl ?_ ?_ ?_ ?_
  · intro k l F H' hF
    (repeat (first | refine au_pure ?_ | refine au_pass ?_ | refine au_box (fun _ => ?_) | refine au_alloc (fun _ => ?_) | refine au_store ?_ | refine au_make rfl rfl (fun _ => ?_) | refine au_lit rfl rfl rfl (fun _ => ?_) | refine au_append rfl rfl rfl rfl (fun _ => au_norm ?_) | refine au_storeE rfl rfl rfl rfl ?_ | refine tri_seq ?_ | refine tri_then ?_ | refine tri_region ?_ | refine tri_nil ?_ | refine tri_skip ?_ | refine tri_ret ?_ | refine tri_exit ?_ | refine tri_thenr ?_ | refine tri_thene ?_ | refine tri_blkn ?_ | refine tri_blkr ?_ | refine tri_blke ?_ | refine tri_blko (by rfl) ?_ | refine rr_seq ?_ | refine rr_region ?_ | refine rr_skip ?_ | refine rr_ret ?_ | refine rr_exit ?_ | refine rr_block ?_ | refine rr_if_t (by rfl) ?_ | refine rr_if_f (by rfl) ?_ | refine tri_if_t (by rfl) ?_ | refine tri_if_f (by rfl) ?_ | fail))
    exact tri_sub (by repeat (first | exact trivial | refine ⟨rfl, ?_⟩)) hF
  · intro k _ l D r hk hok
    obtain ⟨p, hp⟩ : ∃ p, p = ((prL L).getD k default).2 := ⟨_, rfl⟩
    rw [← hp]
    (repeat (first | refine au_pure ?_ | refine au_pass ?_ | refine au_box (fun _ => ?_) | refine au_alloc (fun _ => ?_) | refine au_store ?_ | refine au_make rfl rfl (fun _ => ?_) | refine au_lit rfl rfl rfl (fun _ => ?_) | refine au_append rfl rfl rfl rfl (fun _ => au_norm ?_) | refine au_storeE rfl rfl rfl rfl ?_ | refine tri_seq ?_ | refine tri_then ?_ | refine tri_region ?_ | refine tri_nil ?_ | refine tri_skip ?_ | refine tri_ret ?_ | refine tri_exit ?_ | refine tri_thenr ?_ | refine tri_thene ?_ | refine tri_blkn ?_ | refine tri_blkr ?_ | refine tri_blke ?_ | refine tri_blko (by rfl) ?_ | refine rr_seq ?_ | refine rr_region ?_ | refine rr_skip ?_ | refine rr_ret ?_ | refine rr_exit ?_ | refine rr_block ?_ | refine rr_if_t (by rfl) ?_ | refine rr_if_f (by rfl) ?_ | refine tri_if_t (by rfl) ?_ | refine tri_if_f (by rfl) ?_ | fail))
    refine au_callC rfl rfl rfl rfl rfl (isFrame_c w0 _ p) (fun _ => ?_)
    cases hb : okF p
    · (repeat (first | refine au_pure ?_ | refine au_pass ?_ | refine au_box (fun _ => ?_) | refine au_alloc (fun _ => ?_) | refine au_store ?_ | refine au_make rfl rfl (fun _ => ?_) | refine au_lit rfl rfl rfl (fun _ => ?_) | refine au_append rfl rfl rfl rfl (fun _ => au_norm ?_) | refine au_storeE rfl rfl rfl rfl ?_ | refine tri_seq ?_ | refine tri_then ?_ | refine tri_region ?_ | refine tri_nil ?_ | refine tri_skip ?_ | refine tri_ret ?_ | refine tri_exit ?_ | refine tri_thenr ?_ | refine tri_thene ?_ | refine tri_blkn ?_ | refine tri_blkr ?_ | refine tri_blke ?_ | refine tri_blko (by rfl) ?_ | refine rr_seq ?_ | refine rr_region ?_ | refine rr_skip ?_ | refine rr_ret ?_ | refine rr_exit ?_ | refine rr_block ?_ | refine rr_if_t (by rfl) ?_ | refine rr_if_f (by rfl) ?_ | refine tri_if_t (by rfl) ?_ | refine tri_if_f (by rfl) ?_ | fail))
      refine rn_ret k ?_ (fun w h => h)
      cases ha : L.flatten.any fun f => !okF f
      · have := any_bad.1 ha k hk
        rw [← hp, hb] at this
        cases this
      · rfl
    · (repeat (first | refine au_pure ?_ | refine au_pass ?_ | refine au_box (fun _ => ?_) | refine au_alloc (fun _ => ?_) | refine au_store ?_ | refine au_make rfl rfl (fun _ => ?_) | refine au_lit rfl rfl rfl (fun _ => ?_) | refine au_append rfl rfl rfl rfl (fun _ => au_norm ?_) | refine au_storeE rfl rfl rfl rfl ?_ | refine tri_seq ?_ | refine tri_then ?_ | refine tri_region ?_ | refine tri_nil ?_ | refine tri_skip ?_ | refine tri_ret ?_ | refine tri_exit ?_ | refine tri_thenr ?_ | refine tri_thene ?_ | refine tri_blkn ?_ | refine tri_blkr ?_ | refine tri_blke ?_ | refine tri_blko (by rfl) ?_ | refine rr_seq ?_ | refine rr_region ?_ | refine rr_skip ?_ | refine rr_ret ?_ | refine rr_exit ?_ | refine rr_block ?_ | refine rr_if_t (by rfl) ?_ | refine rr_if_f (by rfl) ?_ | refine tri_if_t (by rfl) ?_ | refine tri_if_f (by rfl) ?_ | fail))
      refine rn_norm () (fun j hj => ?_) (fun w h => h)
      rcases Nat.lt_or_eq_of_le (Nat.le_of_lt_succ hj) with h | rfl
      · exact hok j h
      · rw [← hp]; exact hb
  · intro _ D dl hdl hok
    have ha := any_bad.2 hok
    (repeat (first | refine au_pure ?_ | refine au_pass ?_ | refine au_box (fun _ => ?_) | refine au_alloc (fun _ => ?_) | refine au_store ?_ | refine au_make rfl rfl (fun _ => ?_) | refine au_lit rfl rfl rfl (fun _ => ?_) | refine au_append rfl rfl rfl rfl (fun _ => au_norm ?_) | refine au_storeE rfl rfl rfl rfl ?_ | refine tri_seq ?_ | refine tri_then ?_ | refine tri_region ?_ | refine tri_nil ?_ | refine tri_skip ?_ | refine tri_ret ?_ | refine tri_exit ?_ | refine tri_thenr ?_ | refine tri_thene ?_ | refine tri_blkn ?_ | refine tri_blkr ?_ | refine tri_blke ?_ | refine tri_blko (by rfl) ?_ | refine tri_if_t (by rfl) ?_ | refine tri_if_f (by rfl) ?_ | fail))
    refine ak_held [] (objC D dfr :: blkC gb 22 [v] :: blkC g3 3 [.int .i64 ((prL L).length : Int)] :: blkC g2 3 [.int .i64 0] :: cs) rfl ?_
    refine ak_take 0 rfl rfl rfl ?_
    refine ak_take 3 rfl rfl rfl ?_
    refine ak_op 1 rfl ?_
    refine au_callC rfl rfl rfl rfl rfl (ages_c w0 _ hN.cons.cons.cons.cons hlen hin) ?_
    intro b
    refine tri_nil ?_; refine ak_in ?_
    refine ak_op 2 rfl ?_
    refine au_pure (hy := yl_maplen (β := Int) rfl rfl (by first | (apply has_at; (repeat (first | exact at0 | apply atS)); done) | (repeat (first | assumption | apply has_cons)))) ?_
    refine tri_nil ?_; refine ak_in ?_
    refine ak_take 4 rfl rfl rfl ?_
    refine ak_done ?_
    rw [ag_len, pr_len]
    (repeat (first | refine au_pure ?_ | refine au_pass ?_ | refine au_box (fun _ => ?_) | refine au_alloc (fun _ => ?_) | refine au_store ?_ | refine au_make rfl rfl (fun _ => ?_) | refine au_lit rfl rfl rfl (fun _ => ?_) | refine au_append rfl rfl rfl rfl (fun _ => au_norm ?_) | refine au_storeE rfl rfl rfl rfl ?_ | refine tri_seq ?_ | refine tri_then ?_ | refine tri_region ?_ | refine tri_nil ?_ | refine tri_skip ?_ | refine tri_ret ?_ | refine tri_exit ?_ | refine tri_thenr ?_ | refine tri_thene ?_ | refine tri_blkn ?_ | refine tri_blkr ?_ | refine tri_blke ?_ | refine tri_blko (by rfl) ?_ | refine tri_if_t (by rfl) ?_ | refine tri_if_f (by rfl) ?_ | fail))
    ((first | refine tri_cond (by rfl) (fun hc => ?_) (fun hc => ?_) | refine tri_gsplit (by rfl) (by rfl) (by (fail_if_success exact (rfl : _ = some (Value.bool true))); (fail_if_success exact (rfl : _ = some (Value.bool false))); rfl) (fun hc => ?_) (fun hc => ?_)) <;> (try simp only [decide_eq_true_eq, decide_eq_false_iff_not, beq_iff_eq, bne_iff_ne, ne_eq, Bool.not_eq_true', Bool.not_eq_false', beq_eq_false_iff_ne, bne_eq_false_iff_eq, Int.not_lt, Int.not_le, gt_iff_lt, ge_iff_le, Bool.and_eq_true, Bool.or_eq_true, Bool.and_eq_false_iff, Bool.or_eq_false_iff, Decidable.not_not, not_true_eq_false, not_false_eq_true, and_true, true_and, or_false, false_or, or_true, true_or, and_false, false_and, eq_self, Bool.true_eq_false, Bool.false_eq_true] at hc) <;> (try (exfalso; omega)))
    · (repeat (first | refine au_pure ?_ | refine au_pass ?_ | refine au_box (fun _ => ?_) | refine au_alloc (fun _ => ?_) | refine au_store ?_ | refine au_make rfl rfl (fun _ => ?_) | refine au_lit rfl rfl rfl (fun _ => ?_) | refine au_append rfl rfl rfl rfl (fun _ => au_norm ?_) | refine au_storeE rfl rfl rfl rfl ?_ | refine tri_seq ?_ | refine tri_then ?_ | refine tri_region ?_ | refine tri_nil ?_ | refine tri_skip ?_ | refine tri_ret ?_ | refine tri_exit ?_ | refine tri_thenr ?_ | refine tri_thene ?_ | refine tri_blkn ?_ | refine tri_blkr ?_ | refine tri_blke ?_ | refine tri_blko (by rfl) ?_ | refine tri_if_t (by rfl) ?_ | refine tri_if_f (by rfl) ?_ | fail))
      refine tri_front 1 rfl (by repeat (first | exact nf0 rfl | apply nfS rfl | exact nfR)) ?_
      refine donem_1 hdl rfl ?_
      intro w hw; refine ⟨(), ?_, hw.sub (by repeat (first | exact List.Sublist.refl _ | assumption | apply List.Sublist.cons_cons | apply List.Sublist.cons))⟩
      unfold chkG
      rw [if_neg (by omega), if_neg (by rw [ha]; decide), if_pos (by omega)]
    · (repeat (first | refine au_pure ?_ | refine au_pass ?_ | refine au_box (fun _ => ?_) | refine au_alloc (fun _ => ?_) | refine au_store ?_ | refine au_make rfl rfl (fun _ => ?_) | refine au_lit rfl rfl rfl (fun _ => ?_) | refine au_append rfl rfl rfl rfl (fun _ => au_norm ?_) | refine au_storeE rfl rfl rfl rfl ?_ | refine tri_seq ?_ | refine tri_then ?_ | refine tri_region ?_ | refine tri_nil ?_ | refine tri_skip ?_ | refine tri_ret ?_ | refine tri_exit ?_ | refine tri_thenr ?_ | refine tri_thene ?_ | refine tri_blkn ?_ | refine tri_blkr ?_ | refine tri_blke ?_ | refine tri_blko (by rfl) ?_ | refine tri_if_t (by rfl) ?_ | refine tri_if_f (by rfl) ?_ | fail))
      refine tri_front 1 rfl (by repeat (first | exact nf0 rfl | apply nfS rfl | exact nfR)) ?_
      refine donem_1 hdl rfl ?_
      intro w hw; refine ⟨(), ?_, hw.sub (by repeat (first | exact List.Sublist.refl _ | assumption | apply List.Sublist.cons_cons | apply List.Sublist.cons))⟩
      unfold chkG
      rw [if_neg (by omega), if_neg (by rw [ha]; decide), if_neg (by omega)]
  · intro k D dl hdl ha
    (repeat (first | refine au_pure ?_ | refine au_pass ?_ | refine au_box (fun _ => ?_) | refine au_alloc (fun _ => ?_) | refine au_store ?_ | refine au_make rfl rfl (fun _ => ?_) | refine au_lit rfl rfl rfl (fun _ => ?_) | refine au_append rfl rfl rfl rfl (fun _ => au_norm ?_) | refine au_storeE rfl rfl rfl rfl ?_ | refine tri_seq ?_ | refine tri_then ?_ | refine tri_region ?_ | refine tri_nil ?_ | refine tri_skip ?_ | refine tri_ret ?_ | refine tri_exit ?_ | refine tri_thenr ?_ | refine tri_thene ?_ | refine tri_blkn ?_ | refine tri_blkr ?_ | refine tri_blke ?_ | refine tri_blko (by rfl) ?_ | refine tri_if_t (by rfl) ?_ | refine tri_if_f (by rfl) ?_ | fail))
    refine donem_1 hdl rfl ?_
    intro w hw; refine ⟨(), ?_, hw.sub (by repeat (first | exact List.Sublist.refl _ | assumption | apply List.Sublist.cons_cons | apply List.Sublist.cons))⟩
    unfold chkG
    rw [if_neg (by omega), if_pos ha]
end
end Go.Proofs.Ytongcjepmidamaa
