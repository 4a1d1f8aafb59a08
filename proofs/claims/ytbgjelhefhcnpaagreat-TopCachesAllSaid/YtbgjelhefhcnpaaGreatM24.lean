/- Texts joined: PtJoin. Each part's own remark says what it proves. -/
import Derived.Test.YtbgjelhefhcnpaaGreatM20
import Derived.Test.YtbgjelhefhcnpaaGreatM12
import Derived.Test.YtbgjelhefhcnpaaGreatM08
/- The walks of Join. No conditions. -/
set_option linter.unusedSimpArgs false
set_option linter.unusedVariables false
namespace Go.Proofs.YtbgjelhefhcnpaaGreat
open Go Go.RowKit
attribute [local irreducible] Code.wp wpList bodyPost Exit.then Exit.inBlock Calls wpQuiet Tri TriQ
structure W64 where
  v : Int
  deriving DecidableEq
instance : Enc W64 where
  default := ⟨0⟩
  sz := 1
  enc := fun s => [.int .u64 s.v]
  dec := fun cs => match cs with | [.int _ i] => ⟨i⟩ | _ => ⟨0⟩
  len := fun _ => rfl
  one := fun _ u hu => by simp at hu; subst hu; rfl
  pos := by decide
instance : Enc Ent where
  default := noEnt
  sz := 6
  enc := fun e => [.int .i64 e.k, .int .i64 e.n, .bool e.a, .bool e.b, .bool e.c, .bool e.d]
  dec := fun cs => match cs with | [.int _ k, .int _ n, .bool a, .bool b, .bool c, .bool d] => ⟨k, n, a, b, c, d⟩ | _ => noEnt
  len := fun _ => rfl
  one := fun _ u hu => by simp at hu; rcases hu with rfl | rfl | rfl | rfl | rfl | rfl <;> rfl
  pos := by decide
instance : ElT Tryz.prog 58 W64 := ⟨trivial⟩
instance : ElT Tryz.prog 62 Ent := ⟨trivial⟩
instance : ArTy Tryz.prog 87 8 58 1 := ⟨Tryz.underlying87, Tryz.sizeOf58⟩
instance : ArTy Tryz.prog 139 8 62 6 := ⟨Tryz.underlying139, Tryz.sizeOf62⟩
def decAt (ws : List W64) (j : Nat) : Ent × Int := decR (ws.getD j default).v
/-- The first error of the words from i on, or 0. -/
def errF (ws : List W64) : Nat → Nat → Int
  | 0, _ => 0
  | f + 1, i => if (decAt ws i).2 = 0 then errF ws f (i + 1) else (decAt ws i).2
theorem errF_at {ws : List W64} {c : Int} (hc : ¬ c = 0) {i : Nat} (hi : (decAt ws i).2 = c) : ∀ f k, k ≤ i → i < k + f → (∀ j, k ≤ j → j < i → (decAt ws j).2 = 0) → errF ws f k = c
  | 0, k, h1, h2, _ => by omega
  | f + 1, k, h1, h2, h3 => by
    rw [errF]
    by_cases e : k = i
    · rw [e, hi, if_neg hc]
    · rw [if_pos (h3 k (Nat.le_refl _) (by omega))]
      exact errF_at hc hi f (k + 1) (by omega) (by omega) fun j h4 h5 => h3 j (by omega) h5
theorem errF_no {ws : List W64} : ∀ f k, (∀ j, k ≤ j → j < k + f → (decAt ws j).2 = 0) → errF ws f k = 0
  | 0, _, _ => rfl
  | f + 1, k, h => by
    rw [errF, if_pos (h k (Nat.le_refl _) (by omega))]
    exact errF_no f (k + 1) fun j h1 h2 => h j (by omega) (by omega)
def badE (e : Ent) : Bool := decide (¬ e.k = 1) || e.d
def joinE (es : List Ent) : Int × Int := if es.any badE then (0, 11) else if (List.range 8).any (fun j => decide (¬ (es.getD j default).n = (es.getD 0 default).n + (j : Int))) then (0, 10) else if es.any (fun e => e.a != (es.getD 0 default).a) then (0, 12)
  else encS (es.getD 0 default).k (es.getD 0 default).n (es.getD 0 default).a (es.any (·.b)) (es.any (·.c)) true
def joinM (ws : List W64) : Int × Int := if errF ws 8 0 = 0 then joinE (ws.map fun x => (decR x.v).1) else (0, errF ws 8 0)
section
variable (w0 : World) (cs : List Chunk)
abbrev wrdS (g : Nat) (l : List W64) : Chunk := slC (arR g 8) 87 l
abbrev entS (g : Nat) (l : List Ent) : Chunk := slC (arR g 8) 139 l
set_option maxHeartbeats 4000000 in
theorem join_c (ws : List W64) (hl : ws.length = 8) (hb : ∀ j, 0 ≤ (ws.getD j default).v ∧ (ws.getD j default).v < 18446744073709551616) :
    Cal Tryz.prog 51 [.agg (encs ws).toArray] (Hp w0 cs) (fun _ : Unit => .tuple #[.int .u64 (joinM ws).1, .int .i64 (joinM ws).2]) (fun _ => Hp w0 cs) := by
  refine cal_of_tri Tryz.func51 rfl Tryz.ntmps51 rfl ?_
  (repeat (first | refine au_pure ?_ | refine au_pass ?_ | refine au_box (fun _ => ?_) | refine au_alloc (fun _ => ?_) | refine au_store ?_ | refine au_make rfl rfl (fun _ => ?_) | refine au_lit rfl rfl rfl (fun _ => ?_) | refine au_append rfl rfl rfl rfl (fun _ => au_norm ?_) | refine au_storeE rfl rfl rfl rfl ?_ | refine tri_seq ?_ | refine tri_then ?_ | refine tri_region ?_ | refine tri_nil ?_ | refine tri_skip ?_ | refine tri_ret ?_ | refine tri_exit ?_ | refine tri_thenr ?_ | refine tri_thene ?_ | refine tri_blkn ?_ | refine tri_blkr ?_ | refine tri_blke ?_ | refine tri_blko (by rfl) ?_ | refine tri_if_t (by rfl) ?_ | refine tri_if_f (by rfl) ?_ | fail))
  rename_i g1 g2
  refine tri_asrow ws (atS at0) (by simp [Value.cells]) hl rfl nfR ?_
  refine tri_asrow (List.replicate 8 (default : Ent)) at0 rfl rfl rfl nfR ?_
  refine tri_block ?_
  refine tri_loop2 (fun i es => i ≤ 8 ∧ (es : List Ent).length = 8 ∧ ∀ j, j < i → decAt ws j = (es.getD j default, 0)) (fun i es => [(1, .pointer (some ⟨g1, 0, none⟩)), (2, .int .u64 0), (3, .int .i64 0), (4, .pointer (some ⟨g2, 0, none⟩)), (15, .int .i64 (i : Int))])
    (fun i es => Hp w0 (entS g2 es :: wrdS g1 ws :: cs)) (fun i _ => 8 - i) 0 (List.replicate 8 default) ⟨by omega, rfl, fun j hj => by omega⟩ (by repeat (first | exact trivial | refine ⟨rfl, ?_⟩)) (fun _ h => h) ?_
  rintro i es ⟨hi, hes, hp⟩
  (repeat' (first | refine au_pure ?_ | refine au_pass ?_ | refine au_box (fun _ => ?_) | refine au_alloc (fun _ => ?_) | refine au_store ?_ | refine au_make rfl rfl (fun _ => ?_) | refine au_lit rfl rfl rfl (fun _ => ?_) | refine au_append rfl rfl rfl rfl (fun _ => au_norm ?_) | refine au_storeE rfl rfl rfl rfl ?_ | refine tri_seq ?_ | refine tri_then ?_ | refine tri_region ?_ | refine tri_nil ?_ | refine tri_skip ?_ | refine tri_ret ?_ | refine tri_exit ?_ | refine tri_thenr ?_ | refine tri_thene ?_ | refine tri_blkn ?_ | refine tri_blkr ?_ | refine tri_blke ?_ | refine tri_blko (by rfl) ?_ | refine tri_if_t (by rfl) ?_ | refine tri_if_f (by rfl) ?_ | ((first | refine tri_cond (by rfl) (fun hc => ?_) (fun hc => ?_) | refine tri_gsplit (by rfl) (by rfl) (by (fail_if_success exact (rfl : _ = some (Value.bool true))); (fail_if_success exact (rfl : _ = some (Value.bool false))); rfl) (fun hc => ?_) (fun hc => ?_)) <;> (try simp only [decide_eq_true_eq, decide_eq_false_iff_not, beq_iff_eq, bne_iff_ne, ne_eq, Bool.not_eq_true', Bool.not_eq_false', beq_eq_false_iff_ne, bne_eq_false_iff_eq, Int.not_lt, Int.not_le, gt_iff_lt, ge_iff_le, Bool.and_eq_true, Bool.or_eq_true, Bool.and_eq_false_iff, Bool.or_eq_false_iff, Decidable.not_not, not_true_eq_false, not_false_eq_true, and_true, true_and, or_false, false_or, or_true, true_or, and_false, false_and, eq_self, Bool.true_eq_false, Bool.false_eq_true] at hc) <;> (try (exfalso; omega))) | fail))
  · refine tri_block ?_
    (repeat (first | refine au_pure ?_ | refine au_pass ?_ | refine au_box (fun _ => ?_) | refine au_alloc (fun _ => ?_) | refine au_store ?_ | refine au_make rfl rfl (fun _ => ?_) | refine au_lit rfl rfl rfl (fun _ => ?_) | refine au_append rfl rfl rfl rfl (fun _ => au_norm ?_) | refine au_storeE rfl rfl rfl rfl ?_ | refine tri_seq ?_ | refine tri_then ?_ | refine tri_region ?_ | refine tri_nil ?_ | refine tri_skip ?_ | refine tri_ret ?_ | refine tri_exit ?_ | refine tri_thenr ?_ | refine tri_thene ?_ | refine tri_blkn ?_ | refine tri_blkr ?_ | refine tri_blke ?_ | refine tri_blko (by rfl) ?_ | refine tri_if_t (by rfl) ?_ | refine tri_if_f (by rfl) ?_ | refine au_pure (hy := yl_idxR rfl rfl (by first | exact ix_nat rfl | exact ix_int rfl (by omega)) (by first | omega | decide)) ?_ | refine au_pure (hy := yl_indexV rfl rfl (by first | exact ix_nat rfl | exact ix_int rfl (by omega)) (by rfl) (by assumption) (by omega) (by repeat (first | exact nf0 rfl | apply nfS rfl | exact nfR))) ?_ | refine au_pure (hy := yl_loadA rfl rfl (by first | (apply has_at; (repeat (first | exact at0 | apply atS)); done) | (repeat (first | assumption | apply has_cons))) (by rw [length_encs]; simp only [*]; rfl)) ?_ | fail))
    obtain ⟨ek, en, ea, eb, ec, ed, c, hd⟩ : ∃ k n a b c d u, decAt ws i = (⟨k, n, a, b, c, d⟩, u) := ⟨_, _, _, _, _, _, _, rfl⟩
    refine au_call rfl rfl (cl_of rfl rfl rfl (fun _ h => Ret.hp (decode_at _ (hb i).1 (hb i).2 hd) h)) ?_
    (repeat' (first | refine au_pure ?_ | refine au_pass ?_ | refine au_box (fun _ => ?_) | refine au_alloc (fun _ => ?_) | refine au_store ?_ | refine au_make rfl rfl (fun _ => ?_) | refine au_lit rfl rfl rfl (fun _ => ?_) | refine au_append rfl rfl rfl rfl (fun _ => au_norm ?_) | refine au_storeE rfl rfl rfl rfl ?_ | refine tri_seq ?_ | refine tri_then ?_ | refine tri_region ?_ | refine tri_nil ?_ | refine tri_skip ?_ | refine tri_ret ?_ | refine tri_exit ?_ | refine tri_thenr ?_ | refine tri_thene ?_ | refine tri_blkn ?_ | refine tri_blkr ?_ | refine tri_blke ?_ | refine tri_blko (by rfl) ?_ | refine tri_if_t (by rfl) ?_ | refine tri_if_f (by rfl) ?_ | ((first | refine tri_cond (by rfl) (fun hc => ?_) (fun hc => ?_) | refine tri_gsplit (by rfl) (by rfl) (by (fail_if_success exact (rfl : _ = some (Value.bool true))); (fail_if_success exact (rfl : _ = some (Value.bool false))); rfl) (fun hc => ?_) (fun hc => ?_)) <;> (try simp only [decide_eq_true_eq, decide_eq_false_iff_not, beq_iff_eq, bne_iff_ne, ne_eq, Bool.not_eq_true', Bool.not_eq_false', beq_eq_false_iff_ne, bne_eq_false_iff_eq, Int.not_lt, Int.not_le, gt_iff_lt, ge_iff_le, Bool.and_eq_true, Bool.or_eq_true, Bool.and_eq_false_iff, Bool.or_eq_false_iff, Decidable.not_not, not_true_eq_false, not_false_eq_true, and_true, true_and, or_false, false_or, or_true, true_or, and_false, false_and, eq_self, Bool.true_eq_false, Bool.false_eq_true] at hc) <;> (try (exfalso; omega))) | refine au_pure (hy := yl_idxR rfl rfl (by first | exact ix_nat rfl | exact ix_int rfl (by omega)) (by first | omega | decide)) ?_ | refine au_pure (hy := yl_indexV rfl rfl (by first | exact ix_nat rfl | exact ix_int rfl (by omega)) (by rfl) (by assumption) (by omega) (by repeat (first | exact nf0 rfl | apply nfS rfl | exact nfR))) ?_ | refine au_pure (hy := yl_loadA rfl rfl (by first | (apply has_at; (repeat (first | exact at0 | apply atS)); done) | (repeat (first | assumption | apply has_cons))) (by rw [length_encs]; simp only [*]; rfl)) ?_ | fail))
    · have he : errF ws 8 0 = c := errF_at hc (by rw [hd]) 8 0 (by omega) (by omega) fun j _ hj => by rw [hp j hj]
      refine au_done2 rfl ?_
      intro w hw; refine ⟨(), ?_, hw.sub (by repeat (first | exact List.Sublist.refl _ | assumption | apply List.Sublist.cons_cons | apply List.Sublist.cons))⟩
      rw [joinM, he, if_neg hc]
    · refine tri_nx2 (i + 1) (es.set i ⟨ek, en, ea, eb, ec, ed⟩) (by omega) ⟨by omega, by rw [List.length_set]; exact hes, fun j hj => ?_⟩ (by repeat (first | exact trivial | refine ⟨rfl, ?_⟩)) (fun _ h => h.sub (by repeat (first | exact List.Sublist.refl _ | assumption | apply List.Sublist.cons_cons | apply List.Sublist.cons)))
      rw [getD_set j (by omega)]
      split
      · rename_i e1; rw [e1, hd, hc]
      · exact hp j (by omega)
  · have he : errF ws 8 0 = 0 := errF_no 8 0 fun j _ hj => by rw [hp j (by omega)]
    have hes' : es = ws.map fun x => (decR x.v).1 := by
      refine ext_getD (by rw [List.length_map]; omega) fun j hj => ?_
      have := hp j (by omega)
      have hm : (ws.map fun x => (decR x.v).1).getD j default = (decR (ws.getD j default).v).1 := by
        rw [getD_get (by rw [List.length_map]; omega), List.getElem_map, getD_get (by omega)]
      rw [hm, show decR (ws.getD j default).v = _ from this]
    have hjm : joinM ws = joinE es := by rw [joinM, if_pos he, hes']
    rw [hjm]
    have hbd : ∀ j, j < 8 → 0 ≤ (es.getD j default).n ∧ (es.getD j default).n ≤ 4294967295 := fun j hj => decR_bd (hp j (by omega))
    clear hes' hjm he hp
    (repeat (first | refine au_pure ?_ | refine au_pass ?_ | refine au_box (fun _ => ?_) | refine au_alloc (fun _ => ?_) | refine au_store ?_ | refine au_make rfl rfl (fun _ => ?_) | refine au_lit rfl rfl rfl (fun _ => ?_) | refine au_append rfl rfl rfl rfl (fun _ => au_norm ?_) | refine au_storeE rfl rfl rfl rfl ?_ | refine tri_seq ?_ | refine tri_then ?_ | refine tri_region ?_ | refine tri_nil ?_ | refine tri_skip ?_ | refine tri_ret ?_ | refine tri_exit ?_ | refine tri_thenr ?_ | refine tri_thene ?_ | refine tri_blkn ?_ | refine tri_blkr ?_ | refine tri_blke ?_ | refine tri_blko (by rfl) ?_ | refine tri_if_t (by rfl) ?_ | refine tri_if_f (by rfl) ?_ | refine au_pure (hy := yl_idxR rfl rfl (by first | exact ix_nat rfl | exact ix_int rfl (by omega)) (by first | omega | decide)) ?_ | refine au_pure (hy := yl_indexV rfl rfl (by first | exact ix_nat rfl | exact ix_int rfl (by omega)) (by rfl) (by assumption) (by omega) (by repeat (first | exact nf0 rfl | apply nfS rfl | exact nfR))) ?_ | refine au_pure (hy := yl_loadA rfl rfl (by first | (apply has_at; (repeat (first | exact at0 | apply atS)); done) | (repeat (first | assumption | apply has_cons))) (by rw [length_encs]; simp only [*]; rfl)) ?_ | fail))
    refine tri_block ?_
    refine tri_loop1 (fun i => i ≤ 8 ∧ ∀ j, j < i → badE (es.getD j default) = false) (fun i => [(1, .pointer (some ⟨g1, 0, none⟩)), (2, .int .u64 0), (3, .int .i64 0), (4, .pointer (some ⟨g2, 0, none⟩)), (32, .agg (encs es).toArray), (33, .int .i64 (i : Int))])
      (fun _ => Hp w0 (entS g2 es :: wrdS g1 ws :: cs)) (fun i => 8 - i) 0 ⟨by omega, fun j hj => by omega⟩ (by repeat (first | exact trivial | refine ⟨rfl, ?_⟩)) (fun _ h => h) ?_
    rintro i ⟨hi, hp⟩
    (repeat' (first | refine au_pure ?_ | refine au_pass ?_ | refine au_box (fun _ => ?_) | refine au_alloc (fun _ => ?_) | refine au_store ?_ | refine au_make rfl rfl (fun _ => ?_) | refine au_lit rfl rfl rfl (fun _ => ?_) | refine au_append rfl rfl rfl rfl (fun _ => au_norm ?_) | refine au_storeE rfl rfl rfl rfl ?_ | refine tri_seq ?_ | refine tri_then ?_ | refine tri_region ?_ | refine tri_nil ?_ | refine tri_skip ?_ | refine tri_ret ?_ | refine tri_exit ?_ | refine tri_thenr ?_ | refine tri_thene ?_ | refine tri_blkn ?_ | refine tri_blkr ?_ | refine tri_blke ?_ | refine tri_blko (by rfl) ?_ | refine tri_if_t (by rfl) ?_ | refine tri_if_f (by rfl) ?_ | ((first | refine tri_cond (by rfl) (fun hc => ?_) (fun hc => ?_) | refine tri_gsplit (by rfl) (by rfl) (by (fail_if_success exact (rfl : _ = some (Value.bool true))); (fail_if_success exact (rfl : _ = some (Value.bool false))); rfl) (fun hc => ?_) (fun hc => ?_)) <;> (try simp only [decide_eq_true_eq, decide_eq_false_iff_not, beq_iff_eq, bne_iff_ne, ne_eq, Bool.not_eq_true', Bool.not_eq_false', beq_eq_false_iff_ne, bne_eq_false_iff_eq, Int.not_lt, Int.not_le, gt_iff_lt, ge_iff_le, Bool.and_eq_true, Bool.or_eq_true, Bool.and_eq_false_iff, Bool.or_eq_false_iff, Decidable.not_not, not_true_eq_false, not_false_eq_true, and_true, true_and, or_false, false_or, or_true, true_or, and_false, false_and, eq_self, Bool.true_eq_false, Bool.false_eq_true] at hc) <;> (try (exfalso; omega))) | refine au_pure (hy := yl_idxR rfl rfl (by first | exact ix_nat rfl | exact ix_int rfl (by omega)) (by first | omega | decide)) ?_ | refine au_pure (hy := yl_indexV rfl rfl (by first | exact ix_nat rfl | exact ix_int rfl (by omega)) (by rfl) (by assumption) (by omega) (by repeat (first | exact nf0 rfl | apply nfS rfl | exact nfR))) ?_ | refine au_pure (hy := yl_loadA rfl rfl (by first | (apply has_at; (repeat (first | exact at0 | apply atS)); done) | (repeat (first | assumption | apply has_cons))) (by rw [length_encs]; simp only [*]; rfl)) ?_ | fail))
    · refine tri_block ?_
      (repeat' (first | refine au_pure ?_ | refine au_pass ?_ | refine au_box (fun _ => ?_) | refine au_alloc (fun _ => ?_) | refine au_store ?_ | refine au_make rfl rfl (fun _ => ?_) | refine au_lit rfl rfl rfl (fun _ => ?_) | refine au_append rfl rfl rfl rfl (fun _ => au_norm ?_) | refine au_storeE rfl rfl rfl rfl ?_ | refine tri_seq ?_ | refine tri_then ?_ | refine tri_region ?_ | refine tri_nil ?_ | refine tri_skip ?_ | refine tri_ret ?_ | refine tri_exit ?_ | refine tri_thenr ?_ | refine tri_thene ?_ | refine tri_blkn ?_ | refine tri_blkr ?_ | refine tri_blke ?_ | refine tri_blko (by rfl) ?_ | refine tri_if_t (by rfl) ?_ | refine tri_if_f (by rfl) ?_ | ((first | refine tri_cond (by rfl) (fun hc => ?_) (fun hc => ?_) | refine tri_gsplit (by rfl) (by rfl) (by (fail_if_success exact (rfl : _ = some (Value.bool true))); (fail_if_success exact (rfl : _ = some (Value.bool false))); rfl) (fun hc => ?_) (fun hc => ?_)) <;> (try simp only [decide_eq_true_eq, decide_eq_false_iff_not, beq_iff_eq, bne_iff_ne, ne_eq, Bool.not_eq_true', Bool.not_eq_false', beq_eq_false_iff_ne, bne_eq_false_iff_eq, Int.not_lt, Int.not_le, gt_iff_lt, ge_iff_le, Bool.and_eq_true, Bool.or_eq_true, Bool.and_eq_false_iff, Bool.or_eq_false_iff, Decidable.not_not, not_true_eq_false, not_false_eq_true, and_true, true_and, or_false, false_or, or_true, true_or, and_false, false_and, eq_self, Bool.true_eq_false, Bool.false_eq_true] at hc) <;> (try (exfalso; omega))) | refine au_pure (hy := yl_idxR rfl rfl (by first | exact ix_nat rfl | exact ix_int rfl (by omega)) (by first | omega | decide)) ?_ | refine au_pure (hy := yl_indexV rfl rfl (by first | exact ix_nat rfl | exact ix_int rfl (by omega)) (by rfl) (by assumption) (by omega) (by repeat (first | exact nf0 rfl | apply nfS rfl | exact nfR))) ?_ | refine au_pure (hy := yl_loadA rfl rfl (by first | (apply has_at; (repeat (first | exact at0 | apply atS)); done) | (repeat (first | assumption | apply has_cons))) (by rw [length_encs]; simp only [*]; rfl)) ?_ | fail))
      iterate 2
        · have hb : es.any badE = true := any_some (show i < es.length by omega) (by unfold badE; simp only [Bool.or_eq_true, decide_eq_true_eq]; first | exact .inl (by assumption) | exact .inr (by assumption))
          refine au_done2 rfl ?_
          intro w hw; refine ⟨(), ?_, hw.sub (by repeat (first | exact List.Sublist.refl _ | assumption | apply List.Sublist.cons_cons | apply List.Sublist.cons))⟩
          rw [joinE, if_pos hb]
      · exact tri_nx1 (i + 1) (by omega) ⟨by omega, all_step hp (by unfold badE; rw [Bool.or_eq_false_iff]; exact ⟨decide_eq_false (fun h => h (by assumption)), by assumption⟩)⟩ (by repeat (first | exact trivial | refine ⟨rfl, ?_⟩)) (fun _ h => h.sub (by repeat (first | exact List.Sublist.refl _ | assumption | apply List.Sublist.cons_cons | apply List.Sublist.cons)))
    have hbad : ¬ es.any badE = true := by rw [getD_any.2 fun j hj => hp j (by omega)]; exact Bool.false_ne_true
    clear hp
    refine tri_block ?_
    refine tri_loop1 (fun i => i ≤ 8 ∧ ∀ j : Nat, j < i → (es.getD j default).n = (es.getD 0 default).n + (j : Int)) (fun i => [(1, .pointer (some ⟨g1, 0, none⟩)), (2, .int .u64 0), (3, .int .i64 0), (4, .pointer (some ⟨g2, 0, none⟩)), (44, .agg (encs es).toArray), (45, .int .i64 (i : Int))])
      (fun _ => Hp w0 (entS g2 es :: wrdS g1 ws :: cs)) (fun i => 8 - i) 0 ⟨by omega, fun j hj => by omega⟩ (by repeat (first | exact trivial | refine ⟨rfl, ?_⟩)) (fun _ h => h) ?_
    rintro i ⟨hi, hp⟩
    have hb00 := hbd 0 (by omega)
    have hb0 : 0 ≤ (es.getD (Int.toNat 0) default).n ∧ (es.getD (Int.toNat 0) default).n ≤ 4294967295 := hbd 0 (by omega)
    (repeat' (first | refine au_pure ?_ | refine au_pass ?_ | refine au_box (fun _ => ?_) | refine au_alloc (fun _ => ?_) | refine au_store ?_ | refine au_make rfl rfl (fun _ => ?_) | refine au_lit rfl rfl rfl (fun _ => ?_) | refine au_append rfl rfl rfl rfl (fun _ => au_norm ?_) | refine au_storeE rfl rfl rfl rfl ?_ | refine tri_seq ?_ | refine tri_then ?_ | refine tri_region ?_ | refine tri_nil ?_ | refine tri_skip ?_ | refine tri_ret ?_ | refine tri_exit ?_ | refine tri_thenr ?_ | refine tri_thene ?_ | refine tri_blkn ?_ | refine tri_blkr ?_ | refine tri_blke ?_ | refine tri_blko (by rfl) ?_ | refine tri_if_t (by rfl) ?_ | refine tri_if_f (by rfl) ?_ | ((first | refine tri_cond (by rfl) (fun hc => ?_) (fun hc => ?_) | refine tri_gsplit (by rfl) (by rfl) (by (fail_if_success exact (rfl : _ = some (Value.bool true))); (fail_if_success exact (rfl : _ = some (Value.bool false))); rfl) (fun hc => ?_) (fun hc => ?_)) <;> (try simp only [decide_eq_true_eq, decide_eq_false_iff_not, beq_iff_eq, bne_iff_ne, ne_eq, Bool.not_eq_true', Bool.not_eq_false', beq_eq_false_iff_ne, bne_eq_false_iff_eq, Int.not_lt, Int.not_le, gt_iff_lt, ge_iff_le, Bool.and_eq_true, Bool.or_eq_true, Bool.and_eq_false_iff, Bool.or_eq_false_iff, Decidable.not_not, not_true_eq_false, not_false_eq_true, and_true, true_and, or_false, false_or, or_true, true_or, and_false, false_and, eq_self, Bool.true_eq_false, Bool.false_eq_true] at hc) <;> (try (exfalso; omega))) | refine au_pure (hy := yl_idxR rfl rfl (by first | exact ix_nat rfl | exact ix_int rfl (by omega)) (by first | omega | decide)) ?_ | refine au_pure (hy := yl_indexV rfl rfl (by first | exact ix_nat rfl | exact ix_int rfl (by omega)) (by rfl) (by assumption) (by omega) (by repeat (first | exact nf0 rfl | apply nfS rfl | exact nfR))) ?_ | refine au_pure (hy := yl_loadA rfl rfl (by first | (apply has_at; (repeat (first | exact at0 | apply atS)); done) | (repeat (first | assumption | apply has_cons))) (by rw [length_encs]; simp only [*]; rfl)) ?_ | fail))
    · refine tri_block ?_
      have hw : IntKind.i64.wrap ((es.getD 0 default).n + (i : Int)) = (es.getD 0 default).n + (i : Int) := wrap_i64 (by omega)
      (repeat' (first | refine au_pure ?_ | refine au_pass ?_ | refine au_box (fun _ => ?_) | refine au_alloc (fun _ => ?_) | refine au_store ?_ | refine au_make rfl rfl (fun _ => ?_) | refine au_lit rfl rfl rfl (fun _ => ?_) | refine au_append rfl rfl rfl rfl (fun _ => au_norm ?_) | refine au_storeE rfl rfl rfl rfl ?_ | refine tri_seq ?_ | refine tri_then ?_ | refine tri_region ?_ | refine tri_nil ?_ | refine tri_skip ?_ | refine tri_ret ?_ | refine tri_exit ?_ | refine tri_thenr ?_ | refine tri_thene ?_ | refine tri_blkn ?_ | refine tri_blkr ?_ | refine tri_blke ?_ | refine tri_blko (by rfl) ?_ | refine tri_if_t (by rfl) ?_ | refine tri_if_f (by rfl) ?_ | ((first | refine tri_cond (by rfl) (fun hc => ?_) (fun hc => ?_) | refine tri_gsplit (by rfl) (by rfl) (by (fail_if_success exact (rfl : _ = some (Value.bool true))); (fail_if_success exact (rfl : _ = some (Value.bool false))); rfl) (fun hc => ?_) (fun hc => ?_)) <;> (try simp only [decide_eq_true_eq, decide_eq_false_iff_not, beq_iff_eq, bne_iff_ne, ne_eq, Bool.not_eq_true', Bool.not_eq_false', beq_eq_false_iff_ne, bne_eq_false_iff_eq, Int.not_lt, Int.not_le, gt_iff_lt, ge_iff_le, Bool.and_eq_true, Bool.or_eq_true, Bool.and_eq_false_iff, Bool.or_eq_false_iff, Decidable.not_not, not_true_eq_false, not_false_eq_true, and_true, true_and, or_false, false_or, or_true, true_or, and_false, false_and, eq_self, Bool.true_eq_false, Bool.false_eq_true] at hc) <;> (try (exfalso; omega))) | refine au_pure (hy := yl_idxR rfl rfl (by first | exact ix_nat rfl | exact ix_int rfl (by omega)) (by first | omega | decide)) ?_ | refine au_pure (hy := yl_indexV rfl rfl (by first | exact ix_nat rfl | exact ix_int rfl (by omega)) (by rfl) (by assumption) (by omega) (by repeat (first | exact nf0 rfl | apply nfS rfl | exact nfR))) ?_ | refine au_pure (hy := yl_loadA rfl rfl (by first | (apply has_at; (repeat (first | exact at0 | apply atS)); done) | (repeat (first | assumption | apply has_cons))) (by rw [length_encs]; simp only [*]; rfl)) ?_ | fail))
      · have hn : (List.range 8).any (fun j => decide (¬ (es.getD j default).n = (es.getD 0 default).n + (j : Int))) = true := List.any_eq_true.2 ⟨i, List.mem_range.2 (by omega), decide_eq_true (fun h => hc (h.trans hw.symm))⟩
        refine au_done2 rfl ?_
        intro w hw; refine ⟨(), ?_, hw.sub (by repeat (first | exact List.Sublist.refl _ | assumption | apply List.Sublist.cons_cons | apply List.Sublist.cons))⟩
        rw [joinE, if_neg hbad, if_pos hn]
      · exact tri_nx1 (i + 1) (by omega) ⟨by omega, all_next hp (hc.trans hw)⟩ (by repeat (first | exact trivial | refine ⟨rfl, ?_⟩)) (fun _ h => h.sub (by repeat (first | exact List.Sublist.refl _ | assumption | apply List.Sublist.cons_cons | apply List.Sublist.cons)))
    have hnum : ¬ (List.range 8).any (fun j => decide (¬ (es.getD j default).n = (es.getD 0 default).n + (j : Int))) = true := fun h => by
      obtain ⟨j, h1, h2⟩ := List.any_eq_true.1 h
      exact of_decide_eq_true h2 (hp j (by have := List.mem_range.1 h1; omega))
    clear hp
    (repeat (first | refine au_pure ?_ | refine au_pass ?_ | refine au_box (fun _ => ?_) | refine au_alloc (fun _ => ?_) | refine au_store ?_ | refine au_make rfl rfl (fun _ => ?_) | refine au_lit rfl rfl rfl (fun _ => ?_) | refine au_append rfl rfl rfl rfl (fun _ => au_norm ?_) | refine au_storeE rfl rfl rfl rfl ?_ | refine tri_seq ?_ | refine tri_then ?_ | refine tri_region ?_ | refine tri_nil ?_ | refine tri_skip ?_ | refine tri_ret ?_ | refine tri_exit ?_ | refine tri_thenr ?_ | refine tri_thene ?_ | refine tri_blkn ?_ | refine tri_blkr ?_ | refine tri_blke ?_ | refine tri_blko (by rfl) ?_ | refine tri_if_t (by rfl) ?_ | refine tri_if_f (by rfl) ?_ | refine au_pure (hy := yl_idxR rfl rfl (by first | exact ix_nat rfl | exact ix_int rfl (by omega)) (by first | omega | decide)) ?_ | refine au_pure (hy := yl_indexV rfl rfl (by first | exact ix_nat rfl | exact ix_int rfl (by omega)) (by rfl) (by assumption) (by omega) (by repeat (first | exact nf0 rfl | apply nfS rfl | exact nfR))) ?_ | refine au_pure (hy := yl_loadA rfl rfl (by first | (apply has_at; (repeat (first | exact at0 | apply atS)); done) | (repeat (first | assumption | apply has_cons))) (by rw [length_encs]; simp only [*]; rfl)) ?_ | fail))
    rename_i g3
    refine tri_block ?_
    refine tri_loop3 (fun i B C => i ≤ 8 ∧ (B = true ↔ (es.getD 0 default).b = true ∨ ∃ j, j < i ∧ (es.getD j default).b = true) ∧ (C = true ↔ (es.getD 0 default).c = true ∨ ∃ j, j < i ∧ (es.getD j default).c = true) ∧ ∀ j, j < i → (es.getD j default).a = (es.getD 0 default).a)
      (fun i B C => [(1, .pointer (some ⟨g1, 0, none⟩)), (2, .int .u64 0), (3, .int .i64 0), (4, .pointer (some ⟨g2, 0, none⟩)), (12, .pointer (some ⟨g3, 0, none⟩)), (60, .agg (encs es).toArray), (61, .int .i64 (i : Int))])
      (fun i B C => Hp w0 (blkC g3 62 [.int .i64 (es.getD 0 default).k, .int .i64 (es.getD 0 default).n, .bool (es.getD 0 default).a, .bool B, .bool C, .bool (es.getD 0 default).d] :: entS g2 es :: wrdS g1 ws :: cs)) (fun i _ _ => 8 - i)
      0 _ _ ⟨by omega, ⟨fun h => .inl h, fun h => h.elim id fun ⟨j, h1, _⟩ => by omega⟩, ⟨fun h => .inl h, fun h => h.elim id fun ⟨j, h1, _⟩ => by omega⟩, fun j hj => by omega⟩ (by repeat (first | exact trivial | refine ⟨rfl, ?_⟩)) (fun _ h => h) ?_
    rintro i B C ⟨hi, hB, hC, hA⟩
    (repeat' (first | refine au_pure ?_ | refine au_pass ?_ | refine au_box (fun _ => ?_) | refine au_alloc (fun _ => ?_) | refine au_store ?_ | refine au_make rfl rfl (fun _ => ?_) | refine au_lit rfl rfl rfl (fun _ => ?_) | refine au_append rfl rfl rfl rfl (fun _ => au_norm ?_) | refine au_storeE rfl rfl rfl rfl ?_ | refine tri_seq ?_ | refine tri_then ?_ | refine tri_region ?_ | refine tri_nil ?_ | refine tri_skip ?_ | refine tri_ret ?_ | refine tri_exit ?_ | refine tri_thenr ?_ | refine tri_thene ?_ | refine tri_blkn ?_ | refine tri_blkr ?_ | refine tri_blke ?_ | refine tri_blko (by rfl) ?_ | refine tri_if_t (by rfl) ?_ | refine tri_if_f (by rfl) ?_ | ((first | refine tri_cond (by rfl) (fun hc => ?_) (fun hc => ?_) | refine tri_gsplit (by rfl) (by rfl) (by (fail_if_success exact (rfl : _ = some (Value.bool true))); (fail_if_success exact (rfl : _ = some (Value.bool false))); rfl) (fun hc => ?_) (fun hc => ?_)) <;> (try simp only [decide_eq_true_eq, decide_eq_false_iff_not, beq_iff_eq, bne_iff_ne, ne_eq, Bool.not_eq_true', Bool.not_eq_false', beq_eq_false_iff_ne, bne_eq_false_iff_eq, Int.not_lt, Int.not_le, gt_iff_lt, ge_iff_le, Bool.and_eq_true, Bool.or_eq_true, Bool.and_eq_false_iff, Bool.or_eq_false_iff, Decidable.not_not, not_true_eq_false, not_false_eq_true, and_true, true_and, or_false, false_or, or_true, true_or, and_false, false_and, eq_self, Bool.true_eq_false, Bool.false_eq_true] at hc) <;> (try (exfalso; omega))) | refine au_pure (hy := yl_idxR rfl rfl (by first | exact ix_nat rfl | exact ix_int rfl (by omega)) (by first | omega | decide)) ?_ | refine au_pure (hy := yl_indexV rfl rfl (by first | exact ix_nat rfl | exact ix_int rfl (by omega)) (by rfl) (by assumption) (by omega) (by repeat (first | exact nf0 rfl | apply nfS rfl | exact nfR))) ?_ | refine au_pure (hy := yl_loadA rfl rfl (by first | (apply has_at; (repeat (first | exact at0 | apply atS)); done) | (repeat (first | assumption | apply has_cons))) (by rw [length_encs]; simp only [*]; rfl)) ?_ | fail))
    · refine tri_block ?_
      have hBn : ∀ b : Bool, (b = true ↔ B = true ∨ (es.getD i default).b = true) → (b = true ↔ (es.getD 0 default).b = true ∨ ∃ j, j < i + 1 ∧ (es.getD j default).b = true) := fun b hb => by
        rw [hb, hB]
        constructor
        · rintro ((h | ⟨j, h1, h2⟩) | h)
          · exact .inl h
          · exact .inr ⟨j, by omega, h2⟩
          · exact .inr ⟨i, by omega, h⟩
        · rintro (h | ⟨j, h1, h2⟩)
          · exact .inl (.inl h)
          · by_cases e : j = i
            · exact .inr (e ▸ h2)
            · exact .inl (.inr ⟨j, by omega, h2⟩)
      have hCn : ∀ b : Bool, (b = true ↔ C = true ∨ (es.getD i default).c = true) → (b = true ↔ (es.getD 0 default).c = true ∨ ∃ j, j < i + 1 ∧ (es.getD j default).c = true) := fun b hb => by
        rw [hb, hC]
        constructor
        · rintro ((h | ⟨j, h1, h2⟩) | h)
          · exact .inl h
          · exact .inr ⟨j, by omega, h2⟩
          · exact .inr ⟨i, by omega, h⟩
        · rintro (h | ⟨j, h1, h2⟩)
          · exact .inl (.inl h)
          · by_cases e : j = i
            · exact .inr (e ▸ h2)
            · exact .inl (.inr ⟨j, by omega, h2⟩)
      by_cases ha : (es.getD i default).a = (es.getD 0 default).a
      · have hne : ((es.getD i default).a != (es.getD 0 default).a) = false := by rw [ha]; simp
        (repeat (first | refine au_pure ?_ | refine au_pass ?_ | refine au_box (fun _ => ?_) | refine au_alloc (fun _ => ?_) | refine au_store ?_ | refine au_make rfl rfl (fun _ => ?_) | refine au_lit rfl rfl rfl (fun _ => ?_) | refine au_append rfl rfl rfl rfl (fun _ => au_norm ?_) | refine au_storeE rfl rfl rfl rfl ?_ | refine tri_seq ?_ | refine tri_then ?_ | refine tri_region ?_ | refine tri_nil ?_ | refine tri_skip ?_ | refine tri_ret ?_ | refine tri_exit ?_ | refine tri_thenr ?_ | refine tri_thene ?_ | refine tri_blkn ?_ | refine tri_blkr ?_ | refine tri_blke ?_ | refine tri_blko (by rfl) ?_ | refine tri_if_t (by rfl) ?_ | refine tri_if_f (by rfl) ?_ | refine au_pure (hy := yl_idxR rfl rfl (by first | exact ix_nat rfl | exact ix_int rfl (by omega)) (by first | omega | decide)) ?_ | refine au_pure (hy := yl_indexV rfl rfl (by first | exact ix_nat rfl | exact ix_int rfl (by omega)) (by rfl) (by assumption) (by omega) (by repeat (first | exact nf0 rfl | apply nfS rfl | exact nfR))) ?_ | refine au_pure (hy := yl_loadA rfl rfl (by first | (apply has_at; (repeat (first | exact at0 | apply atS)); done) | (repeat (first | assumption | apply has_cons))) (by rw [length_encs]; simp only [*]; rfl)) ?_ | fail))
        rw [hne]
        (repeat (first | refine au_pure ?_ | refine au_pass ?_ | refine au_box (fun _ => ?_) | refine au_alloc (fun _ => ?_) | refine au_store ?_ | refine au_make rfl rfl (fun _ => ?_) | refine au_lit rfl rfl rfl (fun _ => ?_) | refine au_append rfl rfl rfl rfl (fun _ => au_norm ?_) | refine au_storeE rfl rfl rfl rfl ?_ | refine tri_seq ?_ | refine tri_then ?_ | refine tri_region ?_ | refine tri_nil ?_ | refine tri_skip ?_ | refine tri_ret ?_ | refine tri_exit ?_ | refine tri_thenr ?_ | refine tri_thene ?_ | refine tri_blkn ?_ | refine tri_blkr ?_ | refine tri_blke ?_ | refine tri_blko (by rfl) ?_ | refine tri_if_t (by rfl) ?_ | refine tri_if_f (by rfl) ?_ | refine au_pure (hy := yl_idxR rfl rfl (by first | exact ix_nat rfl | exact ix_int rfl (by omega)) (by first | omega | decide)) ?_ | refine au_pure (hy := yl_indexV rfl rfl (by first | exact ix_nat rfl | exact ix_int rfl (by omega)) (by rfl) (by assumption) (by omega) (by repeat (first | exact nf0 rfl | apply nfS rfl | exact nfR))) ?_ | refine au_pure (hy := yl_loadA rfl rfl (by first | (apply has_at; (repeat (first | exact at0 | apply atS)); done) | (repeat (first | assumption | apply has_cons))) (by rw [length_encs]; simp only [*]; rfl)) ?_ | fail))
        have hBn' := hBn (B || (es.getD i default).b) (by simp)
        have hCn' := hCn (C || (es.getD i default).c) (by simp)
        cases B <;> cases C
        all_goals (repeat' (first | refine au_pure ?_ | refine au_pass ?_ | refine au_box (fun _ => ?_) | refine au_alloc (fun _ => ?_) | refine au_store ?_ | refine au_make rfl rfl (fun _ => ?_) | refine au_lit rfl rfl rfl (fun _ => ?_) | refine au_append rfl rfl rfl rfl (fun _ => au_norm ?_) | refine au_storeE rfl rfl rfl rfl ?_ | refine tri_seq ?_ | refine tri_then ?_ | refine tri_region ?_ | refine tri_nil ?_ | refine tri_skip ?_ | refine tri_ret ?_ | refine tri_exit ?_ | refine tri_thenr ?_ | refine tri_thene ?_ | refine tri_blkn ?_ | refine tri_blkr ?_ | refine tri_blke ?_ | refine tri_blko (by rfl) ?_ | refine tri_if_t (by rfl) ?_ | refine tri_if_f (by rfl) ?_ | ((first | refine tri_cond (by rfl) (fun hc => ?_) (fun hc => ?_) | refine tri_gsplit (by rfl) (by rfl) (by (fail_if_success exact (rfl : _ = some (Value.bool true))); (fail_if_success exact (rfl : _ = some (Value.bool false))); rfl) (fun hc => ?_) (fun hc => ?_)) <;> (try simp only [decide_eq_true_eq, decide_eq_false_iff_not, beq_iff_eq, bne_iff_ne, ne_eq, Bool.not_eq_true', Bool.not_eq_false', beq_eq_false_iff_ne, bne_eq_false_iff_eq, Int.not_lt, Int.not_le, gt_iff_lt, ge_iff_le, Bool.and_eq_true, Bool.or_eq_true, Bool.and_eq_false_iff, Bool.or_eq_false_iff, Decidable.not_not, not_true_eq_false, not_false_eq_true, and_true, true_and, or_false, false_or, or_true, true_or, and_false, false_and, eq_self, Bool.true_eq_false, Bool.false_eq_true] at hc) <;> (try (exfalso; omega))) | refine au_pure (hy := yl_idxR rfl rfl (by first | exact ix_nat rfl | exact ix_int rfl (by omega)) (by first | omega | decide)) ?_ | refine au_pure (hy := yl_indexV rfl rfl (by first | exact ix_nat rfl | exact ix_int rfl (by omega)) (by rfl) (by assumption) (by omega) (by repeat (first | exact nf0 rfl | apply nfS rfl | exact nfR))) ?_ | refine au_pure (hy := yl_loadA rfl rfl (by first | (apply has_at; (repeat (first | exact at0 | apply atS)); done) | (repeat (first | assumption | apply has_cons))) (by rw [length_encs]; simp only [*]; rfl)) ?_ | fail))
        all_goals exact tri_nx3 (i + 1) _ _ (by omega) ⟨by omega, hBn', hCn', all_next hA ha⟩ (by repeat (first | exact trivial | refine ⟨rfl, ?_⟩)) (fun _ h => h.sub (by repeat (first | exact List.Sublist.refl _ | assumption | apply List.Sublist.cons_cons | apply List.Sublist.cons)))
      · have hne : ((es.getD i default).a != (es.getD 0 default).a) = true := by simpa using ha
        have hac : es.any (fun e => e.a != (es.getD 0 default).a) = true := any_some (p := fun e => e.a != (es.getD 0 default).a) (show i < es.length by omega) hne
        (repeat (first | refine au_pure ?_ | refine au_pass ?_ | refine au_box (fun _ => ?_) | refine au_alloc (fun _ => ?_) | refine au_store ?_ | refine au_make rfl rfl (fun _ => ?_) | refine au_lit rfl rfl rfl (fun _ => ?_) | refine au_append rfl rfl rfl rfl (fun _ => au_norm ?_) | refine au_storeE rfl rfl rfl rfl ?_ | refine tri_seq ?_ | refine tri_then ?_ | refine tri_region ?_ | refine tri_nil ?_ | refine tri_skip ?_ | refine tri_ret ?_ | refine tri_exit ?_ | refine tri_thenr ?_ | refine tri_thene ?_ | refine tri_blkn ?_ | refine tri_blkr ?_ | refine tri_blke ?_ | refine tri_blko (by rfl) ?_ | refine tri_if_t (by rfl) ?_ | refine tri_if_f (by rfl) ?_ | refine au_pure (hy := yl_idxR rfl rfl (by first | exact ix_nat rfl | exact ix_int rfl (by omega)) (by first | omega | decide)) ?_ | refine au_pure (hy := yl_indexV rfl rfl (by first | exact ix_nat rfl | exact ix_int rfl (by omega)) (by rfl) (by assumption) (by omega) (by repeat (first | exact nf0 rfl | apply nfS rfl | exact nfR))) ?_ | refine au_pure (hy := yl_loadA rfl rfl (by first | (apply has_at; (repeat (first | exact at0 | apply atS)); done) | (repeat (first | assumption | apply has_cons))) (by rw [length_encs]; simp only [*]; rfl)) ?_ | fail))
        rw [hne]
        (repeat (first | refine au_pure ?_ | refine au_pass ?_ | refine au_box (fun _ => ?_) | refine au_alloc (fun _ => ?_) | refine au_store ?_ | refine au_make rfl rfl (fun _ => ?_) | refine au_lit rfl rfl rfl (fun _ => ?_) | refine au_append rfl rfl rfl rfl (fun _ => au_norm ?_) | refine au_storeE rfl rfl rfl rfl ?_ | refine tri_seq ?_ | refine tri_then ?_ | refine tri_region ?_ | refine tri_nil ?_ | refine tri_skip ?_ | refine tri_ret ?_ | refine tri_exit ?_ | refine tri_thenr ?_ | refine tri_thene ?_ | refine tri_blkn ?_ | refine tri_blkr ?_ | refine tri_blke ?_ | refine tri_blko (by rfl) ?_ | refine tri_if_t (by rfl) ?_ | refine tri_if_f (by rfl) ?_ | refine au_pure (hy := yl_idxR rfl rfl (by first | exact ix_nat rfl | exact ix_int rfl (by omega)) (by first | omega | decide)) ?_ | refine au_pure (hy := yl_indexV rfl rfl (by first | exact ix_nat rfl | exact ix_int rfl (by omega)) (by rfl) (by assumption) (by omega) (by repeat (first | exact nf0 rfl | apply nfS rfl | exact nfR))) ?_ | refine au_pure (hy := yl_loadA rfl rfl (by first | (apply has_at; (repeat (first | exact at0 | apply atS)); done) | (repeat (first | assumption | apply has_cons))) (by rw [length_encs]; simp only [*]; rfl)) ?_ | fail))
        refine au_done2 rfl ?_
        intro w hw; refine ⟨(), ?_, hw.sub (by repeat (first | exact List.Sublist.refl _ | assumption | apply List.Sublist.cons_cons | apply List.Sublist.cons))⟩
        rw [joinE, if_neg hbad, if_neg hnum, if_pos hac]
    · have hac : ¬ es.any (fun e => e.a != (es.getD 0 default).a) = true := fun h => by
        obtain ⟨x, h1, h2⟩ := List.any_eq_true.1 h
        obtain ⟨j, hj, rfl⟩ := List.getElem_of_mem h1
        have := hA j (by omega)
        rw [getD_get hj] at this
        rw [this] at h2
        simp at h2
      have h08 : (0 : Nat) < es.length := by omega
      have hB' : B = es.any (·.b) := by
        rw [Bool.eq_iff_iff, hB, List.any_eq_true]
        constructor
        · rintro (h | ⟨j, h1, h2⟩)
          · exact ⟨_, List.getElem_mem h08, by rw [← getD_get h08]; exact h⟩
          · exact ⟨_, List.getElem_mem (show j < es.length by omega), by rw [← getD_get (show j < es.length by omega)]; exact h2⟩
        · rintro ⟨x, h1, h2⟩
          obtain ⟨j, hj, rfl⟩ := List.getElem_of_mem h1
          exact .inr ⟨j, by omega, by rw [getD_get hj]; exact h2⟩
      have hC' : C = es.any (·.c) := by
        rw [Bool.eq_iff_iff, hC, List.any_eq_true]
        constructor
        · rintro (h | ⟨j, h1, h2⟩)
          · exact ⟨_, List.getElem_mem h08, by rw [← getD_get h08]; exact h⟩
          · exact ⟨_, List.getElem_mem (show j < es.length by omega), by rw [← getD_get (show j < es.length by omega)]; exact h2⟩
        · rintro ⟨x, h1, h2⟩
          obtain ⟨j, hj, rfl⟩ := List.getElem_of_mem h1
          exact .inr ⟨j, by omega, by rw [getD_get hj]; exact h2⟩
      have hje : joinE es = encS (es.getD 0 default).k (es.getD 0 default).n (es.getD 0 default).a B C true := by
        rw [joinE, if_neg hbad, if_neg hnum, if_neg hac, ← hB', ← hC']
      refine au_call rfl rfl (cl_of rfl rfl rfl (fun _ h => Ret.hp (encode_any _ _ _ _ _ _ _) h)) ?_
      (repeat (first | refine au_pure ?_ | refine au_pass ?_ | refine au_box (fun _ => ?_) | refine au_alloc (fun _ => ?_) | refine au_store ?_ | refine au_make rfl rfl (fun _ => ?_) | refine au_lit rfl rfl rfl (fun _ => ?_) | refine au_append rfl rfl rfl rfl (fun _ => au_norm ?_) | refine au_storeE rfl rfl rfl rfl ?_ | refine tri_seq ?_ | refine tri_then ?_ | refine tri_region ?_ | refine tri_nil ?_ | refine tri_skip ?_ | refine tri_ret ?_ | refine tri_exit ?_ | refine tri_thenr ?_ | refine tri_thene ?_ | refine tri_blkn ?_ | refine tri_blkr ?_ | refine tri_blke ?_ | refine tri_blko (by rfl) ?_ | refine tri_if_t (by rfl) ?_ | refine tri_if_f (by rfl) ?_ | fail))
      refine au_done2 rfl ?_
      intro w hw; refine ⟨(), ?_, hw.sub (by repeat (first | exact List.Sublist.refl _ | assumption | apply List.Sublist.cons_cons | apply List.Sublist.cons))⟩
      rw [hje]
end
end Go.Proofs.YtbgjelhefhcnpaaGreat
