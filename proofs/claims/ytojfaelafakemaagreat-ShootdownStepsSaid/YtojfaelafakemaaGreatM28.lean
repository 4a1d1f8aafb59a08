/- Texts joined: TlbSame, ShROps. Each part's own remark says what it proves. -/
import Derived.Test.YtojfaelafakemaaGreatM27
import Derived.Test.YtojfaelafakemaaGreatM25
import Derived.Test.YtojfaelafakemaaGreatM26
import Derived.Test.YtojfaelafakemaaGreatM23
/- The walks of Few, New, Same, do and the reference's Do. No conditions. -/
set_option linter.unusedSimpArgs false
set_option linter.unusedVariables false
namespace Go.Proofs.YtojfaelafakemaaGreat
open Go Go.RowKit
attribute [local irreducible] Code.wp wpList bodyPost Exit.then Exit.inBlock Calls wpQuiet Tri TriQ
/-- A call of a script. -/
structure OpT where
  k : Int
  s : Int
  p : Int
  w : Int
  deriving DecidableEq
instance : Enc OpT where
  default := ⟨0, 0, 0, 0⟩
  sz := 4
  enc := fun x => [.int .i64 x.k, .int .i64 x.s, .int .i64 x.p, .int .u64 x.w]
  dec := fun cs => match cs with | [.int _ a, .int _ b, .int _ c, .int _ d] => ⟨a, b, c, d⟩ | _ => ⟨0, 0, 0, 0⟩
  len := fun _ => rfl
  one := fun _ u hu => by simp at hu; rcases hu with rfl | rfl | rfl | rfl <;> rfl
  pos := by decide
abbrev opV (o : OpT) : Value := .agg #[.int .i64 o.k, .int .i64 o.s, .int .i64 o.p, .int .u64 o.w]
def doE (z : Int) (l : List TE) (o : OpT) : Int := if o.k = 0 then mkE z l o.s o.p o.w else if o.k = 1 then invE z l o.s o.p else if o.k = 2 then flE z l o.s else 0
def doL (z : Int) (l : List TE) (o : OpT) : List TE := if doE z l o = 0 then (if o.k = 0 then mkL z l (mkX o.s o.p o.w) else if o.k = 1 then invL l o.s o.p else if o.k = 2 then flL l o.s else l) else l
/-- A slice value that reads as l, with what has come to the memory. -/
structure Got (w0 : World) (cs : List Chunk) (l : List TE) where
  A : Option Addr
  n : Nat
  c : Nat
  ds : List Chunk
  rd : RdH (Hp w0 (cs ++ ds)) (.slice A n c) l
abbrev Got.v {w0 : World} {cs : List Chunk} {l : List TE} (g : Got w0 cs l) : Value := .slice g.A g.n g.c
def newE (z : Int) : Int := if z < 1 ∨ 16 < z then 1 else 0
def newZ (z : Int) : Int := if z < 1 ∨ 16 < z then 0 else z
theorem new_any (z : Int) (w : World) : Calls Tryz.prog 24 [.int .i64 z].toArray w (Ret (.tuple #[tlbV (newZ z) (.slice none 0 0), .int .i64 (newE z)]) w) := by
  have h1 : (z < 1 ∨ 16 < z) → newZ z = 0 ∧ newE z = 1 := fun h => ⟨if_pos h, if_pos h⟩
  have h2 : ¬ (z < 1 ∨ 16 < z) → newZ z = z ∧ newE z = 0 := fun h => ⟨if_neg h, if_neg h⟩
  by_cases hz : z < 1 ∨ 16 < z
  · obtain ⟨e1, e2⟩ := h1 hz
    rw [e1, e2]
    refine calls_of_tri Tryz.func24 rfl Tryz.ntmps24 rfl ?_
    (repeat' (first | refine au_pure ?_ | refine au_pass ?_ | refine au_box (fun _ => ?_) | refine au_alloc (fun _ => ?_) | refine au_store ?_ | refine au_make rfl rfl (fun _ => ?_) | refine au_lit rfl rfl rfl (fun _ => ?_) | refine au_append rfl rfl rfl rfl (fun _ => au_norm ?_) | refine au_storeE rfl rfl rfl rfl ?_ | refine tri_seq ?_ | refine tri_then ?_ | refine tri_region ?_ | refine tri_nil ?_ | refine tri_skip ?_ | refine tri_ret ?_ | refine tri_exit ?_ | refine tri_thenr ?_ | refine tri_thene ?_ | refine tri_blkn ?_ | refine tri_blkr ?_ | refine tri_blke ?_ | refine tri_blko (by rfl) ?_ | refine tri_if_t (by rfl) ?_ | refine tri_if_f (by rfl) ?_ | ((first | refine tri_cond (by rfl) (fun hc => ?_) (fun hc => ?_) | refine tri_gsplit (by rfl) (by rfl) (by (fail_if_success exact (rfl : _ = some (Value.bool true))); (fail_if_success exact (rfl : _ = some (Value.bool false))); rfl) (fun hc => ?_) (fun hc => ?_)) <;> (try simp only [decide_eq_true_eq, decide_eq_false_iff_not, beq_iff_eq, bne_iff_ne, ne_eq, Bool.not_eq_true', Bool.not_eq_false', beq_eq_false_iff_ne, bne_eq_false_iff_eq, Int.not_lt, Int.not_le, gt_iff_lt, ge_iff_le, Bool.and_eq_true, Bool.or_eq_true, Bool.and_eq_false_iff, Bool.or_eq_false_iff, Decidable.not_not, not_true_eq_false, not_false_eq_true, and_true, true_and, or_false, false_or, or_true, true_or, and_false, false_and, eq_self, Bool.true_eq_false, Bool.false_eq_true] at hc) <;> (try (exfalso; omega))) | fail))
    all_goals
      refine au_done2 rfl ?_
      exact fun w h => ⟨rfl, h.below⟩
  · obtain ⟨e1, e2⟩ := h2 hz
    rw [e1, e2]
    refine calls_of_tri Tryz.func24 rfl Tryz.ntmps24 rfl ?_
    (repeat' (first | refine au_pure ?_ | refine au_pass ?_ | refine au_box (fun _ => ?_) | refine au_alloc (fun _ => ?_) | refine au_store ?_ | refine au_make rfl rfl (fun _ => ?_) | refine au_lit rfl rfl rfl (fun _ => ?_) | refine au_append rfl rfl rfl rfl (fun _ => au_norm ?_) | refine au_storeE rfl rfl rfl rfl ?_ | refine tri_seq ?_ | refine tri_then ?_ | refine tri_region ?_ | refine tri_nil ?_ | refine tri_skip ?_ | refine tri_ret ?_ | refine tri_exit ?_ | refine tri_thenr ?_ | refine tri_thene ?_ | refine tri_blkn ?_ | refine tri_blkr ?_ | refine tri_blke ?_ | refine tri_blko (by rfl) ?_ | refine tri_if_t (by rfl) ?_ | refine tri_if_f (by rfl) ?_ | ((first | refine tri_cond (by rfl) (fun hc => ?_) (fun hc => ?_) | refine tri_gsplit (by rfl) (by rfl) (by (fail_if_success exact (rfl : _ = some (Value.bool true))); (fail_if_success exact (rfl : _ = some (Value.bool false))); rfl) (fun hc => ?_) (fun hc => ?_)) <;> (try simp only [decide_eq_true_eq, decide_eq_false_iff_not, beq_iff_eq, bne_iff_ne, ne_eq, Bool.not_eq_true', Bool.not_eq_false', beq_eq_false_iff_ne, bne_eq_false_iff_eq, Int.not_lt, Int.not_le, gt_iff_lt, ge_iff_le, Bool.and_eq_true, Bool.or_eq_true, Bool.and_eq_false_iff, Bool.or_eq_false_iff, Decidable.not_not, not_true_eq_false, not_false_eq_true, and_true, true_and, or_false, false_or, or_true, true_or, and_false, false_and, eq_self, Bool.true_eq_false, Bool.false_eq_true] at hc) <;> (try (exfalso; omega))) | fail))
    refine au_done2 rfl ?_
    exact fun w h => ⟨rfl, h.below⟩
theorem rnew_any (z : Int) (w : World) : Calls Tryz.prog 26 [.int .i64 z].toArray w (Ret (.tuple #[tlbV (newZ z) (.slice none 0 0), .int .i64 (newE z)]) w) := by
  have h1 : (z < 1 ∨ 16 < z) → newZ z = 0 ∧ newE z = 1 := fun h => ⟨if_pos h, if_pos h⟩
  have h2 : ¬ (z < 1 ∨ 16 < z) → newZ z = z ∧ newE z = 0 := fun h => ⟨if_neg h, if_neg h⟩
  by_cases hz : z < 1 ∨ 16 < z
  · obtain ⟨e1, e2⟩ := h1 hz
    rw [e1, e2]
    refine calls_of_tri Tryz.func26 rfl Tryz.ntmps26 rfl ?_
    (repeat' (first | refine au_pure ?_ | refine au_pass ?_ | refine au_box (fun _ => ?_) | refine au_alloc (fun _ => ?_) | refine au_store ?_ | refine au_make rfl rfl (fun _ => ?_) | refine au_lit rfl rfl rfl (fun _ => ?_) | refine au_append rfl rfl rfl rfl (fun _ => au_norm ?_) | refine au_storeE rfl rfl rfl rfl ?_ | refine tri_seq ?_ | refine tri_then ?_ | refine tri_region ?_ | refine tri_nil ?_ | refine tri_skip ?_ | refine tri_ret ?_ | refine tri_exit ?_ | refine tri_thenr ?_ | refine tri_thene ?_ | refine tri_blkn ?_ | refine tri_blkr ?_ | refine tri_blke ?_ | refine tri_blko (by rfl) ?_ | refine tri_if_t (by rfl) ?_ | refine tri_if_f (by rfl) ?_ | ((first | refine tri_cond (by rfl) (fun hc => ?_) (fun hc => ?_) | refine tri_gsplit (by rfl) (by rfl) (by (fail_if_success exact (rfl : _ = some (Value.bool true))); (fail_if_success exact (rfl : _ = some (Value.bool false))); rfl) (fun hc => ?_) (fun hc => ?_)) <;> (try simp only [decide_eq_true_eq, decide_eq_false_iff_not, beq_iff_eq, bne_iff_ne, ne_eq, Bool.not_eq_true', Bool.not_eq_false', beq_eq_false_iff_ne, bne_eq_false_iff_eq, Int.not_lt, Int.not_le, gt_iff_lt, ge_iff_le, Bool.and_eq_true, Bool.or_eq_true, Bool.and_eq_false_iff, Bool.or_eq_false_iff, Decidable.not_not, not_true_eq_false, not_false_eq_true, and_true, true_and, or_false, false_or, or_true, true_or, and_false, false_and, eq_self, Bool.true_eq_false, Bool.false_eq_true] at hc) <;> (try (exfalso; omega))) | fail))
    all_goals
      refine au_done2 rfl ?_
      exact fun w h => ⟨rfl, h.below⟩
  · obtain ⟨e1, e2⟩ := h2 hz
    rw [e1, e2]
    refine calls_of_tri Tryz.func26 rfl Tryz.ntmps26 rfl ?_
    (repeat' (first | refine au_pure ?_ | refine au_pass ?_ | refine au_box (fun _ => ?_) | refine au_alloc (fun _ => ?_) | refine au_store ?_ | refine au_make rfl rfl (fun _ => ?_) | refine au_lit rfl rfl rfl (fun _ => ?_) | refine au_append rfl rfl rfl rfl (fun _ => au_norm ?_) | refine au_storeE rfl rfl rfl rfl ?_ | refine tri_seq ?_ | refine tri_then ?_ | refine tri_region ?_ | refine tri_nil ?_ | refine tri_skip ?_ | refine tri_ret ?_ | refine tri_exit ?_ | refine tri_thenr ?_ | refine tri_thene ?_ | refine tri_blkn ?_ | refine tri_blkr ?_ | refine tri_blke ?_ | refine tri_blko (by rfl) ?_ | refine tri_if_t (by rfl) ?_ | refine tri_if_f (by rfl) ?_ | ((first | refine tri_cond (by rfl) (fun hc => ?_) (fun hc => ?_) | refine tri_gsplit (by rfl) (by rfl) (by (fail_if_success exact (rfl : _ = some (Value.bool true))); (fail_if_success exact (rfl : _ = some (Value.bool false))); rfl) (fun hc => ?_) (fun hc => ?_)) <;> (try simp only [decide_eq_true_eq, decide_eq_false_iff_not, beq_iff_eq, bne_iff_ne, ne_eq, Bool.not_eq_true', Bool.not_eq_false', beq_eq_false_iff_ne, bne_eq_false_iff_eq, Int.not_lt, Int.not_le, gt_iff_lt, ge_iff_le, Bool.and_eq_true, Bool.or_eq_true, Bool.and_eq_false_iff, Bool.or_eq_false_iff, Decidable.not_not, not_true_eq_false, not_false_eq_true, and_true, true_and, or_false, false_or, or_true, true_or, and_false, false_and, eq_self, Bool.true_eq_false, Bool.false_eq_true] at hc) <;> (try (exfalso; omega))) | fail))
    refine au_done2 rfl ?_
    exact fun w h => ⟨rfl, h.below⟩
section
variable (w0 : World) (cs : List Chunk)
theorem same_c {z z' : Int} {v v' : Value} {l l' : List TE} (hR : RdH (Hp w0 cs) v l) (hR' : RdH (Hp w0 cs) v' l') (hlen : l.length ≤ 9223372036854775807) (hlen' : l'.length ≤ 9223372036854775807) :
    Cal Tryz.prog 27 [tlbV z v, tlbV z' v'] (Hp w0 cs) (fun _ : Unit => .bool (decide (z = z' ∧ l = l'))) (fun _ => Hp w0 cs) := by
  refine cal_of_tri Tryz.func27 rfl Tryz.ntmps27 rfl ?_
  (repeat (first | refine au_pure ?_ | refine au_pass ?_ | refine au_box (fun _ => ?_) | refine au_alloc (fun _ => ?_) | refine au_store ?_ | refine au_make rfl rfl (fun _ => ?_) | refine au_lit rfl rfl rfl (fun _ => ?_) | refine au_append rfl rfl rfl rfl (fun _ => au_norm ?_) | refine au_storeE rfl rfl rfl rfl ?_ | refine tri_seq ?_ | refine tri_then ?_ | refine tri_region ?_ | refine tri_nil ?_ | refine tri_skip ?_ | refine tri_ret ?_ | refine tri_exit ?_ | refine tri_thenr ?_ | refine tri_thene ?_ | refine tri_blkn ?_ | refine tri_blkr ?_ | refine tri_blke ?_ | refine tri_blko (by rfl) ?_ | refine tri_if_t (by rfl) ?_ | refine tri_if_f (by rfl) ?_ | fail))
  rename_i g2 g3
  (repeat' (first | refine au_pure ?_ | refine au_pass ?_ | refine au_box (fun _ => ?_) | refine au_alloc (fun _ => ?_) | refine au_store ?_ | refine au_make rfl rfl (fun _ => ?_) | refine au_lit rfl rfl rfl (fun _ => ?_) | refine au_append rfl rfl rfl rfl (fun _ => au_norm ?_) | refine au_storeE rfl rfl rfl rfl ?_ | refine tri_seq ?_ | refine tri_then ?_ | refine tri_region ?_ | refine tri_nil ?_ | refine tri_skip ?_ | refine tri_ret ?_ | refine tri_exit ?_ | refine tri_thenr ?_ | refine tri_thene ?_ | refine tri_blkn ?_ | refine tri_blkr ?_ | refine tri_blke ?_ | refine tri_blko (by rfl) ?_ | refine tri_if_t (by rfl) ?_ | refine tri_if_f (by rfl) ?_ | ((first | refine tri_cond (by rfl) (fun hc => ?_) (fun hc => ?_) | refine tri_gsplit (by rfl) (by rfl) (by (fail_if_success exact (rfl : _ = some (Value.bool true))); (fail_if_success exact (rfl : _ = some (Value.bool false))); rfl) (fun hc => ?_) (fun hc => ?_)) <;> (try simp only [decide_eq_true_eq, decide_eq_false_iff_not, beq_iff_eq, bne_iff_ne, ne_eq, Bool.not_eq_true', Bool.not_eq_false', beq_eq_false_iff_ne, bne_eq_false_iff_eq, Int.not_lt, Int.not_le, gt_iff_lt, ge_iff_le, Bool.and_eq_true, Bool.or_eq_true, Bool.and_eq_false_iff, Bool.or_eq_false_iff, Decidable.not_not, not_true_eq_false, not_false_eq_true, and_true, true_and, or_false, false_or, or_true, true_or, and_false, false_and, eq_self, Bool.true_eq_false, Bool.false_eq_true] at hc) <;> (try (exfalso; omega))) | fail))
  · refine au_done1 rfl ?_
    intro w hw; refine ⟨(), ?_, hw.sub (by repeat (first | exact List.Sublist.refl _ | assumption | apply List.Sublist.cons_cons | apply List.Sublist.cons))⟩
    rw [decide_eq_false (fun h => by have := h.1; omega)]
  · refine au_done1 rfl ?_
    intro w hw; refine ⟨(), ?_, hw.sub (by repeat (first | exact List.Sublist.refl _ | assumption | apply List.Sublist.cons_cons | apply List.Sublist.cons))⟩
    rw [decide_eq_false (fun h => by have := h.2; subst this; omega)]
  refine tri_block ?_
  refine tri_loop1 (fun i => i ≤ l.length ∧ ∀ j, j < i → l.getD j default = l'.getD j default) (fun i => [(2, .pointer (some ⟨g2, 0, none⟩)), (3, .pointer (some ⟨g3, 0, none⟩)), (4, .bool false), (5, .int .i64 (i : Int))]) (fun _ => Hp w0 (tlbC g3 z' v' :: tlbC g2 z v :: cs)) (fun i => l.length - i)
    0 ⟨by omega, fun j hj => by omega⟩ (by repeat (first | exact trivial | refine ⟨rfl, ?_⟩)) (fun _ h => h) ?_
  rintro i ⟨hi, hp⟩
  (repeat' (first | refine au_pure ?_ | refine au_pass ?_ | refine au_box (fun _ => ?_) | refine au_alloc (fun _ => ?_) | refine au_store ?_ | refine au_make rfl rfl (fun _ => ?_) | refine au_lit rfl rfl rfl (fun _ => ?_) | refine au_append rfl rfl rfl rfl (fun _ => au_norm ?_) | refine au_storeE rfl rfl rfl rfl ?_ | refine tri_seq ?_ | refine tri_then ?_ | refine tri_region ?_ | refine tri_nil ?_ | refine tri_skip ?_ | refine tri_ret ?_ | refine tri_exit ?_ | refine tri_thenr ?_ | refine tri_thene ?_ | refine tri_blkn ?_ | refine tri_blkr ?_ | refine tri_blke ?_ | refine tri_blko (by rfl) ?_ | refine tri_if_t (by rfl) ?_ | refine tri_if_f (by rfl) ?_ | ((first | refine tri_cond (by rfl) (fun hc => ?_) (fun hc => ?_) | refine tri_gsplit (by rfl) (by rfl) (by (fail_if_success exact (rfl : _ = some (Value.bool true))); (fail_if_success exact (rfl : _ = some (Value.bool false))); rfl) (fun hc => ?_) (fun hc => ?_)) <;> (try simp only [decide_eq_true_eq, decide_eq_false_iff_not, beq_iff_eq, bne_iff_ne, ne_eq, Bool.not_eq_true', Bool.not_eq_false', beq_eq_false_iff_ne, bne_eq_false_iff_eq, Int.not_lt, Int.not_le, gt_iff_lt, ge_iff_le, Bool.and_eq_true, Bool.or_eq_true, Bool.and_eq_false_iff, Bool.or_eq_false_iff, Decidable.not_not, not_true_eq_false, not_false_eq_true, and_true, true_and, or_false, false_or, or_true, true_or, and_false, false_and, eq_self, Bool.true_eq_false, Bool.false_eq_true] at hc) <;> (try (exfalso; omega))) | fail))
  · refine tri_block ?_
    (repeat (first | refine au_pure ?_ | refine au_pass ?_ | refine au_box (fun _ => ?_) | refine au_alloc (fun _ => ?_) | refine au_store ?_ | refine au_make rfl rfl (fun _ => ?_) | refine au_lit rfl rfl rfl (fun _ => ?_) | refine au_append rfl rfl rfl rfl (fun _ => au_norm ?_) | refine au_storeE rfl rfl rfl rfl ?_ | refine tri_seq ?_ | refine tri_then ?_ | refine tri_region ?_ | refine tri_nil ?_ | refine tri_skip ?_ | refine tri_ret ?_ | refine tri_exit ?_ | refine tri_thenr ?_ | refine tri_thene ?_ | refine tri_blkn ?_ | refine tri_blkr ?_ | refine tri_blke ?_ | refine tri_blko (by rfl) ?_ | refine tri_if_t (by rfl) ?_ | refine tri_if_f (by rfl) ?_ | fail))
    refine au_draw rfl ?_
    (repeat (first | refine au_qpure rfl rfl ?_ | refine au_qpass rfl rfl ?_ | refine triq_nil ?_))
    by_cases he : l.getD i default = l'.getD i default
    · rw [he]
      (repeat' (first | refine au_pure ?_ | refine au_pass ?_ | refine au_box (fun _ => ?_) | refine au_alloc (fun _ => ?_) | refine au_store ?_ | refine au_make rfl rfl (fun _ => ?_) | refine au_lit rfl rfl rfl (fun _ => ?_) | refine au_append rfl rfl rfl rfl (fun _ => au_norm ?_) | refine au_storeE rfl rfl rfl rfl ?_ | refine tri_seq ?_ | refine tri_then ?_ | refine tri_region ?_ | refine tri_nil ?_ | refine tri_skip ?_ | refine tri_ret ?_ | refine tri_exit ?_ | refine tri_thenr ?_ | refine tri_thene ?_ | refine tri_blkn ?_ | refine tri_blkr ?_ | refine tri_blke ?_ | refine tri_blko (by rfl) ?_ | refine tri_if_t (by rfl) ?_ | refine tri_if_f (by rfl) ?_ | ((first | refine tri_cond (by rfl) (fun hc => ?_) (fun hc => ?_) | refine tri_gsplit (by rfl) (by rfl) (by (fail_if_success exact (rfl : _ = some (Value.bool true))); (fail_if_success exact (rfl : _ = some (Value.bool false))); rfl) (fun hc => ?_) (fun hc => ?_)) <;> (try simp only [decide_eq_true_eq, decide_eq_false_iff_not, beq_iff_eq, bne_iff_ne, ne_eq, Bool.not_eq_true', Bool.not_eq_false', beq_eq_false_iff_ne, bne_eq_false_iff_eq, Int.not_lt, Int.not_le, gt_iff_lt, ge_iff_le, Bool.and_eq_true, Bool.or_eq_true, Bool.and_eq_false_iff, Bool.or_eq_false_iff, Decidable.not_not, not_true_eq_false, not_false_eq_true, and_true, true_and, or_false, false_or, or_true, true_or, and_false, false_and, eq_self, Bool.true_eq_false, Bool.false_eq_true] at hc) <;> (try (exfalso; omega))) | fail))
      all_goals first
        | (exfalso; simp_all; done)
        | exact tri_nx1 (i + 1) (by omega) ⟨by omega, all_next hp he⟩ (by repeat (first | exact trivial | refine ⟨rfl, ?_⟩)) (fun _ h => h.sub (by repeat (first | exact List.Sublist.refl _ | assumption | apply List.Sublist.cons_cons | apply List.Sublist.cons)))
    · have hne : ∀ a b : TE, ¬ a = b → ¬ ((a.s = b.s ∧ a.p = b.p) ∧ a.w = b.w) := fun a b h h1 => h (by cases a; cases b; simp_all)
      have hne' := hne _ _ he
      (repeat' (first | refine au_pure ?_ | refine au_pass ?_ | refine au_box (fun _ => ?_) | refine au_alloc (fun _ => ?_) | refine au_store ?_ | refine au_make rfl rfl (fun _ => ?_) | refine au_lit rfl rfl rfl (fun _ => ?_) | refine au_append rfl rfl rfl rfl (fun _ => au_norm ?_) | refine au_storeE rfl rfl rfl rfl ?_ | refine tri_seq ?_ | refine tri_then ?_ | refine tri_region ?_ | refine tri_nil ?_ | refine tri_skip ?_ | refine tri_ret ?_ | refine tri_exit ?_ | refine tri_thenr ?_ | refine tri_thene ?_ | refine tri_blkn ?_ | refine tri_blkr ?_ | refine tri_blke ?_ | refine tri_blko (by rfl) ?_ | refine tri_if_t (by rfl) ?_ | refine tri_if_f (by rfl) ?_ | ((first | refine tri_cond (by rfl) (fun hc => ?_) (fun hc => ?_) | refine tri_gsplit (by rfl) (by rfl) (by (fail_if_success exact (rfl : _ = some (Value.bool true))); (fail_if_success exact (rfl : _ = some (Value.bool false))); rfl) (fun hc => ?_) (fun hc => ?_)) <;> (try simp only [decide_eq_true_eq, decide_eq_false_iff_not, beq_iff_eq, bne_iff_ne, ne_eq, Bool.not_eq_true', Bool.not_eq_false', beq_eq_false_iff_ne, bne_eq_false_iff_eq, Int.not_lt, Int.not_le, gt_iff_lt, ge_iff_le, Bool.and_eq_true, Bool.or_eq_true, Bool.and_eq_false_iff, Bool.or_eq_false_iff, Decidable.not_not, not_true_eq_false, not_false_eq_true, and_true, true_and, or_false, false_or, or_true, true_or, and_false, false_and, eq_self, Bool.true_eq_false, Bool.false_eq_true] at hc) <;> (try (exfalso; omega))) | fail))
      all_goals first
        | contradiction
        | (refine au_done1 rfl ?_
           intro w hw; refine ⟨(), ?_, hw.sub (by repeat (first | exact List.Sublist.refl _ | assumption | apply List.Sublist.cons_cons | apply List.Sublist.cons))⟩
           rw [decide_eq_false (fun h => he (by rw [h.2]))])
  · have hll : l = l' := ext_getD (by omega) fun j hj => hp j (by omega)
    refine au_done1 rfl ?_
    intro w hw; refine ⟨(), ?_, hw.sub (by repeat (first | exact List.Sublist.refl _ | assumption | apply List.Sublist.cons_cons | apply List.Sublist.cons))⟩
    rw [decide_eq_true ⟨by omega, hll⟩]
end
end Go.Proofs.YtojfaelafakemaaGreat

/- The walks of the reference of the shootdown machine: parts. No conditions. -/
set_option linter.unusedSimpArgs false
set_option linter.unusedVariables false
namespace Go.Proofs.YtojfaelafakemaaGreat
open Go Go.RowKit
theorem none_pg {m : SM} (hf : formM m = true) {k : Nat} (hk : k < m.tb.length) : ((decR (tbW m k)).1.k == 0) = !pgOk m.wd.length (tbW m k) := by
  have h := en_tb hf hk
  have hp := en_page m.wd.length (tbW m k)
  rw [h, Bool.true_and] at hp
  rw [← hp]
  by_cases h0 : (decR (tbW m k)).1.k = 0
  · rw [h0]; rfl
  · rw [show ((decR (tbW m k)).1.k == 0) = false by simpa using h0]
    have h2 := enOk_page (n := m.wd.length) (w := tbW m k) h0
    rw [h] at h2
    rw [← hp] at h2
    rw [← h2]; rfl
theorem tail_in {G : Chunk} (K N cs : List Chunk) : (G :: (K ++ (N ++ cs))).Perm (K ++ (N ++ (G :: cs))) := by
  have e1 : ∀ X : List Chunk, K ++ (N ++ X) = (K ++ N) ++ X := fun X => by simp
  rw [e1, e1]
  exact List.perm_middle.symm
attribute [local irreducible] decR enOk pgOk teOk ivOk tlOk checkM lbOk formM limM schk lookM rlbOk rmapN rlimM
attribute [local irreducible] Code.wp wpList bodyPost Exit.then Exit.inBlock Calls wpQuiet Tri TriQ
section
variable (w0 : World) (cs : List Chunk)
theorem rword_c (k n : Int) (a b c d : Bool) : Cal Tryz.prog 25 [entV k n a b c d] (Hp w0 cs) (fun _ : Unit => .int .u64 (encS k n a b c d).1) (fun _ => Hp w0 cs) := by
  refine cal_of_tri Tryz.func25 rfl Tryz.ntmps25 rfl ?_
  (repeat (first | refine tri_seq ?_ | refine tri_then ?_)); refine tri_region ?_; (repeat (first | refine au_pure ?_ | refine au_pass ?_ | refine au_box (fun _ => ?_) | refine au_alloc (fun _ => ?_) | refine au_store ?_ | refine au_make rfl rfl (fun _ => ?_) | refine au_lit rfl rfl rfl (fun _ => ?_) | refine au_append rfl rfl rfl rfl (fun _ => au_norm ?_) | refine au_storeE rfl rfl rfl rfl ?_)); refine tri_nil ?_; (repeat refine tri_then ?_)
  (repeat (first | refine zz ?_ | refine zv fun _ => ?_))
  refine au_call rfl rfl (cl_of rfl rfl rfl (fun _ h => Ret.hp (rencode_any _ _ _ _ _ _ _) h)) ?_
  (repeat (first | refine zz ?_ | refine zv fun _ => ?_))
  refine au_done1 rfl ?_
  exact fun w hw => ⟨(), rfl, hw.sub (by repeat (first | exact List.Sublist.refl _ | assumption | apply List.Sublist.cons_cons | apply List.Sublist.cons))⟩
theorem ris_c {vB vP vL vW vT : Value} {m : SM} (p : Int) (hT : RdH (Hp w0 cs) vT m.tb) (hl : m.tb.length ≤ 9223372036854775807) :
    Cal Tryz.prog 64 [shV vT vB vP vL vW, .int .i64 p] (Hp w0 cs) (fun _ : Unit => .bool (isP m p)) (fun _ => Hp w0 cs) := by
  refine cal_of_tri Tryz.func64 rfl Tryz.ntmps64 rfl ?_
  (repeat (first | refine tri_seq ?_ | refine tri_then ?_)); refine tri_region ?_; (repeat (first | refine au_pure ?_ | refine au_pass ?_ | refine au_box (fun _ => ?_) | refine au_alloc (fun _ => ?_) | refine au_store ?_ | refine au_make rfl rfl (fun _ => ?_) | refine au_lit rfl rfl rfl (fun _ => ?_) | refine au_append rfl rfl rfl rfl (fun _ => au_norm ?_) | refine au_storeE rfl rfl rfl rfl ?_)); refine tri_nil ?_; (repeat refine tri_then ?_)
  rename_i g2
  (repeat (first | refine zz ?_ | refine zv fun _ => ?_))
  cases h1 : decide (p ≥ 0)
  · have h1 := of_decide_eq_false h1
    (repeat (first | refine zz ?_ | refine zv fun _ => ?_))
    refine au_done1 rfl ?_
    exact fun w hw => ⟨(), by unfold isP; rw [decide_eq_false (by omega)], hw.sub (by repeat (first | exact List.Sublist.refl _ | assumption | apply List.Sublist.cons_cons | apply List.Sublist.cons))⟩
  · have h1 := of_decide_eq_true h1
    (repeat (first | refine zz ?_ | refine zv fun _ => ?_))
    refine au_pure ?_ (hy := yl_len rfl rfl hT.cons)
    (repeat (first | refine zz ?_ | refine zv fun _ => ?_))
    refine au_done1 rfl ?_
    refine fun w hw => ⟨(), ?_, hw.sub (by repeat (first | exact List.Sublist.refl _ | assumption | apply List.Sublist.cons_cons | apply List.Sublist.cons))⟩
    unfold isP
    rw [show decide (p < (m.tb.length : Int)) = decide (0 ≤ p ∧ p < (m.tb.length : Int)) by rw [decide_eq_decide]; omega]
set_option maxHeartbeats 1000000 in
theorem rtgt_c {h : SH} {xb : List TB} {xp : List SV} {m : SM} (p : Int) (hC : RdS (Hp w0 cs) h xb xp m) (hL : SLe m) :
    Cal Tryz.prog 71 [hdV h, .int .i64 p] (Hp w0 cs) (fun s : {x : Ent // tgtE m p = 0 → x = tgtX m p} => .tuple #[entE s.1, .int .i64 (tgtE m p)]) (fun _ => Hp w0 cs) := by
  have hno : ∀ (w : World) (cs' : List Chunk) (e : Int), tgtE m p = e → ¬ e = 0 → Hp w0 cs' w → cs.Sublist cs' → ∃ s : {x : Ent // tgtE m p = 0 → x = tgtX m p}, Ending.returned (.tuple #[.agg #[.int .i64 0, .int .i64 0, .bool false, .bool false, .bool false, .bool false], .int .i64 e]) = .returned (.tuple #[entE s.1, .int .i64 (tgtE m p)]) ∧ Hp w0 cs w := fun w cs' e he h0 hw hs => ⟨⟨noEnt, fun x => absurd (he ▸ x) h0⟩, by show Ending.returned (.tuple #[entE noEnt, .int .i64 e]) = .returned (.tuple #[entE noEnt, .int .i64 (tgtE m p)]); rw [he], hw.sub hs⟩
  refine cal_of_tri Tryz.func71 rfl Tryz.ntmps71 rfl ?_
  (repeat (first | refine tri_seq ?_ | refine tri_then ?_)); refine tri_region ?_; (repeat (first | refine au_pure ?_ | refine au_pass ?_ | refine au_box (fun _ => ?_) | refine au_alloc (fun _ => ?_) | refine au_store ?_ | refine au_make rfl rfl (fun _ => ?_) | refine au_lit rfl rfl rfl (fun _ => ?_) | refine au_append rfl rfl rfl rfl (fun _ => au_norm ?_) | refine au_storeE rfl rfl rfl rfl ?_)); refine tri_nil ?_; (repeat refine tri_then ?_)
  rename_i g2 g4
  have hC1 := hC.cons (c := hdC g2 h) |>.cons (c := enC g4 0 0 false false false false)
  (repeat (first | refine zz ?_ | refine zv fun _ => ?_))
  refine au_callC rfl rfl rfl rfl rfl (rscheck_c w0 _ hC1 hL) (fun _ => ?_)
  (repeat (first | refine zz ?_ | refine zv fun _ => ?_))
  cases h1 : (schk m != 0)
  case true =>
    have h1 := bne_iff_ne.1 h1
    (repeat (first | refine zz ?_ | refine zv fun _ => ?_))
    refine au_done2 rfl ?_
    exact fun w hw => hno w _ _ (by unfold tgtE; rw [if_pos h1]) h1 hw (by repeat (first | exact List.Sublist.refl _ | assumption | apply List.Sublist.cons_cons | apply List.Sublist.cons))
  have h1 : schk m = 0 := by simpa using h1
  have hV := schk_zero.1 h1
  have e1 : tgtE m p = if isP m p = false then 2 else if pgOk m.wd.length (tbW m p.toNat) = false then 6 else 0 := by unfold tgtE; rw [if_neg fun x => x h1]
  (repeat (first | refine zz ?_ | refine zv fun _ => ?_))
  refine au_callC rfl rfl rfl rfl rfl (ris_c w0 _ p hC1.tb hL.tb) (fun _ => ?_)
  cases h2 : isP m p
  case false =>
    (repeat (first | refine zz ?_ | refine zv fun _ => ?_))
    refine au_done2 rfl ?_
    exact fun w hw => hno w _ 2 (by rw [e1, if_pos h2]) (by decide) hw (by repeat (first | exact List.Sublist.refl _ | assumption | apply List.Sublist.cons_cons | apply List.Sublist.cons))
  rw [if_neg (by rw [h2]; simp)] at e1
  have hp := isP_iff.1 h2
  have htw := hL.tw p.toNat
  rw [show (m.tb.getD p.toNat default).v = tbW m p.toNat from rfl] at htw
  have hnp := none_pg hV.frm (k := p.toNat) (by omega)
  have e2 : tgtX m p = (decR (tbW m p.toNat)).1 := rfl
  obtain ⟨x, hx⟩ : ∃ x, x = tgtX m p := ⟨_, rfl⟩
  rw [← hx] at e2
  rw [← e2] at hnp
  refine tri_weak (H' := Hp w0 (enC g4 0 0 false false false false :: hdC g2 h :: cs)) (fun w h => h) ?_
  (repeat (first | refine zz ?_ | refine zv fun _ => ?_))
  (repeat (first | refine tri_seq ?_ | refine tri_then ?_))
  refine tri_cut1 (fun _ : Nat => True) (fun g => [(4, .pointer (some ⟨g4, 0, none⟩)), (7, .pointer (some ⟨g, 0, none⟩))]) (fun g => Hp w0 (enE g x :: enC g4 0 0 false false false false :: hdC g2 h :: cs)) ?_ ?_
  · refine ar_held [13] (hdC g2 h :: cs) rfl ?_
    have hT := hC.tb.cons (c := hdC g2 h)
    have hW := hC.wd.cons (c := hdC g2 h)
    refine ar_free 0 rfl rfl rfl ?_; refine ar_free 2 rfl rfl rfl ?_; refine ar_free 5 rfl rfl rfl ?_
    refine ar_take 1 rfl rfl rfl ?_
    refine ar_take 3 rfl rfl rfl ?_ (hy := yl_idx (k := p.toNat) rfl rfl hT (ix_int rfl (by omega)) (by rfl) (by omega))
    refine ar_take 4 rfl rfl rfl ?_ (hy := yl_loadE rfl rfl hT (by rfl) (by omega) (by rfl))
    rw [show (m.tb.getD p.toNat default).v = tbW m p.toNat from rfl]
    refine ar_take 6 rfl rfl rfl ?_
    refine ar_take 7 rfl rfl rfl ?_ (hy := yl_len rfl rfl hW)
    refine ar_op2 8 12 rfl rfl ?_ ?_
    · refine au_callC rfl rfl rfl rfl rfl (rentry_c w0 _ (tbW m p.toNat) m.wd.length htw.1 htw.2) (fun _ => ?_)
      rw [← e2]
      refine tri_nil ?_; refine ar_in ?_
      refine ar_free 9 rfl rfl rfl ?_; refine ar_free 10 rfl rfl rfl ?_; refine ar_free 11 rfl rfl rfl ?_
      refine ar_op 12 rfl ?_
      refine au_alloc (fun g => ?_)
      refine tri_nil ?_; refine ar_in ?_
      refine ar_op 13 rfl ?_
      refine au_store ?_
      refine tri_nil ?_; refine ar_ink ?_
      refine ar_free 14 rfl rfl rfl ?_
      refine ar_done ?_
      (repeat (first | refine tri_seq ?_ | refine tri_then ?_))
      exact tri_mt1 g trivial (by repeat (first | exact trivial | refine ⟨rfl, ?_⟩)) (fun _ h => h)
    · refine au_alloc (fun g => ?_)
      refine tri_nil ?_; refine ar_in ?_
      refine ar_op 8 rfl ?_
      refine au_callC rfl rfl rfl rfl rfl (rentry_c w0 _ (tbW m p.toNat) m.wd.length htw.1 htw.2) (fun _ => ?_)
      rw [← e2]
      refine tri_nil ?_; refine ar_in ?_
      refine ar_free 9 rfl rfl rfl ?_; refine ar_free 10 rfl rfl rfl ?_; refine ar_free 11 rfl rfl rfl ?_
      refine ar_op 13 rfl ?_
      refine au_store ?_
      refine tri_nil ?_; refine ar_ink ?_
      refine ar_free 14 rfl rfl rfl ?_
      refine ar_done ?_
      (repeat (first | refine tri_seq ?_ | refine tri_then ?_))
      exact tri_mt1 g trivial (by repeat (first | exact trivial | refine ⟨rfl, ?_⟩)) (fun _ h => h)
  intro g7 _
  (repeat (first | refine zz ?_ | refine zv fun _ => ?_))
  rw [hnp]
  cases h3 : pgOk m.wd.length (tbW m p.toNat)
  · rw [if_pos h3] at e1
    (repeat (first | refine zz ?_ | refine zv fun _ => ?_))
    refine au_done2 rfl ?_
    exact fun w hw => ⟨⟨x, fun y => by rw [e1] at y; cases y⟩, by show Ending.returned (.tuple #[entE x, .int .i64 6]) = .returned (.tuple #[entE x, .int .i64 (tgtE m p)]); rw [e1], hw.sub (by repeat (first | exact List.Sublist.refl _ | assumption | apply List.Sublist.cons_cons | apply List.Sublist.cons))⟩
  · rw [if_neg (by rw [h3]; simp)] at e1
    (repeat (first | refine zz ?_ | refine zv fun _ => ?_))
    refine au_done2 rfl ?_
    exact fun w hw => ⟨⟨x, fun _ => hx⟩, by show Ending.returned (.tuple #[entE x, .int .i64 0]) = .returned (.tuple #[entE x, .int .i64 (tgtE m p)]); rw [e1], hw.sub (by repeat (first | exact List.Sublist.refl _ | assumption | apply List.Sublist.cons_cons | apply List.Sublist.cons))⟩
theorem rcovers_c {z : Int} {v : Value} {l : List TE} (s p : Int) (hR : RdH (Hp w0 cs) v l) (hlen : l.length ≤ 9223372036854775807) (hw : ∀ x ∈ l, Wf x) (hpp : p ≤ 9223372036854775807) :
    Cal Tryz.prog 112 [tlbV z v, .int .i64 s, .int .i64 p] (Hp w0 cs) (fun _ : Unit => .bool (lookM z l s p).2) (fun _ => Hp w0 cs) := by
  refine cal_of_tri Tryz.func112 rfl Tryz.ntmps112 rfl ?_
  (repeat (first | refine tri_seq ?_ | refine tri_then ?_)); refine tri_region ?_; (repeat (first | refine au_pure ?_ | refine au_pass ?_ | refine au_box (fun _ => ?_) | refine au_alloc (fun _ => ?_) | refine au_store ?_ | refine au_make rfl rfl (fun _ => ?_) | refine au_lit rfl rfl rfl (fun _ => ?_) | refine au_append rfl rfl rfl rfl (fun _ => au_norm ?_) | refine au_storeE rfl rfl rfl rfl ?_)); refine tri_nil ?_; (repeat refine tri_then ?_)
  (repeat (first | refine zz ?_ | refine zv fun _ => ?_))
  refine au_callC rfl rfl rfl rfl rfl (rlookup_c w0 _ s p (hR.cons) hlen hw hpp) (fun _ => ?_)
  (repeat (first | refine zz ?_ | refine zv fun _ => ?_))
  refine au_done1 rfl ?_
  exact fun w hw => ⟨(), rfl, hw.sub (by repeat (first | exact List.Sublist.refl _ | assumption | apply List.Sublist.cons_cons | apply List.Sublist.cons))⟩
set_option maxHeartbeats 2000000 in
theorem rinv_c {q : SR} {m : SM} (p : Int) (hk : SOk q m) (hL : SLe m) (hpl : m.pd.length = m.tl.length) (hc4 : m.tl.length ≤ 4) (hpe : ∀ i, (m.pd.getD i default).length ≤ 1000000) (hpp : p ≤ 9223372036854775807) :
    Cal Tryz.prog 72 [hdV (hd q), .int .i64 p] (Hp w0 (SC q m ++ cs)) (fun _ : {ps : List Row // ps.length = m.pd.length} => .tuple #[hdV (hd q), .int .i64 (ntfM m p m.tl.length).2])
      (fun s => Hp w0 (SC { q with ps := s.1 } { m with pd := (ntfM m p m.tl.length).1 } ++ cs)) := by
  refine cal_of_tri Tryz.func72 rfl Tryz.ntmps72 rfl ?_
  (repeat (first | refine tri_seq ?_ | refine tri_then ?_)); refine tri_region ?_; (repeat (first | refine au_pure ?_ | refine au_pass ?_ | refine au_box (fun _ => ?_) | refine au_alloc (fun _ => ?_) | refine au_store ?_ | refine au_make rfl rfl (fun _ => ?_) | refine au_lit rfl rfl rfl (fun _ => ?_) | refine au_append rfl rfl rfl rfl (fun _ => au_norm ?_) | refine au_storeE rfl rfl rfl rfl ?_)); refine tri_nil ?_; (repeat refine tri_then ?_)
  rename_i g2 g4
  obtain ⟨rt, rb, rp, rl, rw', bs, ps0⟩ := q
  obtain ⟨hbs, hps⟩ := hk
  simp only at hbs hps
  have hT : ∀ (Y : List SV) (X : List Chunk), RdH (Hp w0 (shC g2 rt.v rb.v rp.v rl.v rw'.v :: tlS rb (tlx bs m.tl) :: pdS rp Y :: X)) rb.v (tlx bs m.tl) := fun _ _ => rd_chunk ⟨1, rfl⟩
  have hxl := tlx_len hbs
  refine tri_weak (H' := Hp w0 (shC g2 rt.v rb.v rp.v rl.v rw'.v :: tlS rb (tlx bs m.tl) :: pdS rp (ps0.map Row.sv) :: u64S rt m.tb :: lbS rl m.lm :: inS rw' m.wd :: ((nestE 72 bs (tls m) ++ nestE 63 ps0 m.pd) ++ (hdC g4 hdN :: cs)))) (fun w h => HpM.perm h (tail_in [_, _, _, _, _, _] _ cs)) ?_
  (repeat (first | refine zz ?_ | refine zv fun _ => ?_))
  refine tri_block ?_
  refine tri_loop2 (fun (c : Nat) (ps : List Row) => c ≤ m.tl.length ∧ ps.length = m.pd.length) (fun c _ => [(1, .int .i64 p), (2, .pointer (some ⟨g2, 0, none⟩)), (4, .pointer (some ⟨g4, 0, none⟩)), (6, .int .i64 (ntfM m p c).2), (7, .int .i64 (c : Int))])
    (fun c ps => Hp w0 (shC g2 rt.v rb.v rp.v rl.v rw'.v :: tlS rb (tlx bs m.tl) :: pdS rp (ps.map Row.sv) :: u64S rt m.tb :: lbS rl m.lm :: inS rw' m.wd :: ((nestE 72 bs (tls m) ++ nestE 63 ps (ntfM m p c).1) ++ (hdC g4 hdN :: cs)))) (fun c _ => m.tl.length - c)
    0 ps0 ⟨by omega, hps⟩ (by repeat (first | exact trivial | refine ⟨rfl, ?_⟩)) (fun w h => h) ?_
  rintro c ps ⟨hcl, hpsl⟩
  have hnl := ntf_len (m := m) (p := p) c
  have hnb := ntf_bd (m := m) (p := p) c
  have hng := ntf_get (m := m) (p := p) c c (Nat.le_refl _)
  (repeat (first | refine zz ?_ | refine zv fun _ => ?_))
  refine au_pure ?_ (hy := yl_len rfl rfl (hT _ _))
  rw [hxl]
  (repeat (first | refine zz ?_ | refine zv fun _ => ?_))
  ((first | refine tri_cond (by rfl) (fun hc => ?_) (fun hc => ?_) | refine tri_gsplit (by rfl) (by rfl) (by (fail_if_success exact (rfl : _ = some (Value.bool true))); (fail_if_success exact (rfl : _ = some (Value.bool false))); rfl) (fun hc => ?_) (fun hc => ?_)) <;> (try simp only [decide_eq_true_eq, decide_eq_false_iff_not, beq_iff_eq, bne_iff_ne, ne_eq, Bool.not_eq_true', Bool.not_eq_false', beq_eq_false_iff_ne, bne_eq_false_iff_eq, Int.not_lt, Int.not_le, gt_iff_lt, ge_iff_le, Bool.and_eq_true, Bool.or_eq_true, Bool.and_eq_false_iff, Bool.or_eq_false_iff, Decidable.not_not, not_true_eq_false, not_false_eq_true, and_true, true_and, or_false, false_or, or_true, true_or, and_false, false_and, eq_self, Bool.true_eq_false, Bool.false_eq_true] at hc) <;> (try (exfalso; omega)))
  · have hy := ntf_yes (m := m) (p := p) (k := c)
    have hn := ntf_no (m := m) (p := p) (k := c)
    have hE : RdH (Hp w0 (shC g2 rt.v rb.v rp.v rl.v rw'.v :: tlS rb (tlx bs m.tl) :: pdS rp (ps.map Row.sv) :: u64S rt m.tb :: lbS rl m.lm :: inS rw' m.wd :: ((nestE 72 bs (tls m) ++ nestE 63 ps (ntfM m p c).1) ++ (hdC g4 hdN :: cs)))) ((tlx bs m.tl).getD c default).s.v (m.tl.getD c default).l := by
      rw [tlx_get hbs (by omega), ← tls_get]
      refine rd_chunk (r := bs.getD c (Row.nil 0)) (e := 72) (has_mem ?_)
      exact List.mem_cons_of_mem _ (List.mem_cons_of_mem _ (List.mem_cons_of_mem _ (List.mem_cons_of_mem _ (List.mem_cons_of_mem _ (List.mem_cons_of_mem _ (List.mem_append_left _ (List.mem_append_left _ (nestE_mem (by simp [hbs]) (by simp; omega)))))))))
    have hz : ((tlx bs m.tl).getD c default).z = (m.tl.getD c default).z := by rw [tlx_get hbs (by omega)]
    have hle := hL.te c
    have hew := hL.ew c
    have hpc := hpe c
    (repeat (first | refine zz ?_ | refine zv fun _ => ?_))
    refine tri_block ?_
    (repeat (first | refine zz ?_ | refine zv fun _ => ?_))
    refine au_pure ?_ (hy := yl_idx (k := c) rfl rfl (hT _ _) (ix_nat rfl) (by rfl) (by omega))
    refine au_pure ?_ (hy := yl_loadEN rfl rfl (hT _ _) (by rfl) (by omega) (by repeat (first | exact nf0 rfl | apply nfS rfl | exact nfR)) (by rfl))
    rw [hz]
    (repeat (first | refine zz ?_ | refine zv fun _ => ?_))
    refine au_callC rfl rfl rfl rfl rfl (rcovers_c w0 _ 0 p hE hle hew hpp) (fun _ => ?_)
    rw [show (lookM (m.tl.getD c default).z (m.tl.getD c default).l 0 p).2 = covsM m c p from rfl]
    cases hcv : covsM m c p
    · (repeat (first | refine zz ?_ | refine zv fun _ => ?_))
      exact tri_nx2 (c + 1) ps (by omega) ⟨by omega, hpsl⟩ (by rw [hn hcv]; repeat (first | exact trivial | refine ⟨rfl, ?_⟩)) (fun w h => by rw [hn hcv]; exact h)
    · (repeat (first | refine au_pure ?_ | refine au_pass ?_ | refine au_box (fun _ => ?_) | refine au_alloc (fun _ => ?_) | refine au_store ?_ | refine au_make rfl rfl (fun _ => ?_) | refine au_lit rfl rfl rfl (fun _ => ?_) | refine au_append rfl rfl rfl rfl (fun _ => au_norm ?_) | refine au_storeE rfl rfl rfl rfl ?_)); refine tri_nil ?_; (repeat refine tri_then ?_)
      refine tri_if_t (by rfl) ?_
      have hfoc := focusP (e := 63) (rs := ps) (L := (ntfM m p c).1) (i := c) (by omega) (by omega) [shC g2 rt.v rb.v rp.v rl.v rw'.v, tlS rb (tlx bs m.tl), pdS rp (ps.map Row.sv), u64S rt m.tb, lbS rl m.lm, inS rw' m.wd] (nestE 72 bs (tls m)) (hdC g4 hdN :: cs)
      have hunf := fun (r' : Row) (l' : List IV) => unfocusP (e := 63) (rs := ps) (L := (ntfM m p c).1) (i := c) (by omega) (by omega) r' l' [shC g2 rt.v rb.v rp.v rl.v rw'.v, tlS rb (tlx bs m.tl), pdS rp ((ps.map Row.sv).set c r'.sv), u64S rt m.tb, lbS rl m.lm, inS rw' m.wd] (nestE 72 bs (tls m)) (hdC g4 hdN :: cs)
      rw [hng] at hfoc
      have hpg : (ps.map Row.sv).getD c default = (ps.getD c (Row.nil 0)).sv := map_getD_sv ps (by omega)
      have hpml : (ps.map Row.sv).length = ps.length := by simp
      obtain ⟨YY, hYY⟩ : ∃ Y, Y = ps.map Row.sv := ⟨_, rfl⟩
      obtain ⟨R0, hR0⟩ : ∃ R, R = ps.getD c (Row.nil 0) := ⟨_, rfl⟩
      obtain ⟨l0, hl0⟩ : ∃ l, l = m.pd.getD c default := ⟨_, rfl⟩
      obtain ⟨NX, hNX⟩ : ∃ X, X = (nestE 72 bs (tls m) ++ nxE 63 ps (ntfM m p c).1 c) ++ (hdC g4 hdN :: cs) := ⟨_, rfl⟩
      rw [← hYY, ← hR0, ← hl0] at hfoc
      rw [← hYY, ← hR0] at hpg
      rw [← hYY] at hpml hunf ⊢
      rw [← hl0] at hpc hy
      refine tri_weak (H' := Hp w0 (ivS R0 l0 :: shC g2 rt.v rb.v rp.v rl.v rw'.v :: tlS rb (tlx bs m.tl) :: pdS rp YY :: u64S rt m.tb :: lbS rl m.lm :: inS rw' m.wd :: NX)) (fun w h => by rw [hNX]; exact HpM.perm h hfoc) ?_
      have hp2 := pow_le (c := c) (by omega)
      (repeat (first | refine zz ?_ | refine zv fun _ => ?_))
      refine au_pure ?_ (hy := yl_shl rfl rfl rfl (by omega))
      rw [shl_eq (by omega)]
      refine au_pure ?_ (hy := yl_addn rfl rfl rfl (by omega))
      (repeat (first | refine zz ?_ | refine zv fun _ => ?_))
      have hRy : RdH (Hp w0 (shC g2 rt.v rb.v rp.v rl.v rw'.v :: pdS rp YY :: NX)) rp.v YY := rd_chunk ⟨1, rfl⟩
      refine ar_held [13] (shC g2 rt.v rb.v rp.v rl.v rw'.v :: pdS rp YY :: NX) rfl ?_
      refine ar_free 0 rfl rfl rfl ?_; refine ar_free 2 rfl rfl rfl ?_; refine ar_free 3 rfl rfl rfl ?_; refine ar_free 5 rfl rfl rfl ?_; refine ar_free 8 rfl rfl rfl ?_
      refine ar_take 1 rfl rfl rfl ?_; refine ar_take 4 rfl rfl rfl ?_
      refine ar_take 6 rfl rfl rfl ?_ (hy := yl_idx (k := c) rfl rfl hRy (ix_nat rfl) (by rfl) (by omega))
      refine ar_take 7 rfl rfl rfl ?_ (hy := yl_loadE rfl rfl hRy (by rfl) (by omega) (by rfl))
      rw [hpg]
      refine ar_take 9 rfl rfl rfl ?_
      refine ar_op 10 rfl ?_
      refine au_lit (l := ([⟨0, p, false⟩] : List IV)) rfl rfl rfl (fun r1 => ?_)
      refine tri_nil ?_; refine ar_in ?_
      refine ar_op 11 rfl ?_
      refine au_append (r := R0) (l2 := ([⟨0, p, false⟩] : List IV)) rfl rfl rfl rfl (fun r2 => au_norm ?_) (h2 := rd_chunk ⟨0, rfl⟩) (hb := by rw [List.length_singleton]; omega)
      refine tri_nil ?_; refine ar_in ?_
      refine ar_take 12 rfl rfl rfl ?_ (hy := yl_idx (k := c) rfl rfl hRy (ix_nat rfl) (by rfl) (by omega))
      refine ar_op 13 rfl ?_
      refine au_storeE (a := r2.sv) rfl rfl rfl rfl ?_
      refine tri_nil ?_; refine ar_ink ?_
      refine ar_done ?_
      refine tri_weak (H' := Hp w0 (shC g2 rt.v rb.v rp.v rl.v rw'.v :: tlS rb (tlx bs m.tl) :: pdS rp ((ps.set c r2).map Row.sv) :: u64S rt m.tb :: lbS rl m.lm :: inS rw' m.wd :: ((nestE 72 bs (tls m) ++ nestE 63 (ps.set c r2) ((ntfM m p c).1.set c (l0 ++ [⟨0, p, false⟩]))) ++ (hdC g4 hdN :: cs)))) (fun w h => ?_) ?_
      · rw [List.map_set, ← hYY]
        have h2 : Hp w0 (ivS r2 (l0 ++ [⟨0, p, false⟩]) :: shC g2 rt.v rb.v rp.v rl.v rw'.v :: tlS rb (tlx bs m.tl) :: pdS rp (YY.set c r2.sv) :: u64S rt m.tb :: lbS rl m.lm :: inS rw' m.wd :: NX) w := h.sub (by repeat (first | exact List.Sublist.refl _ | assumption | apply List.Sublist.cons_cons | apply List.Sublist.cons))
        rw [hNX] at h2
        exact HpM.perm h2 (hunf r2 (l0 ++ [⟨0, p, false⟩]))
      (repeat (first | refine zz ?_ | refine zv fun _ => ?_))
      exact tri_nx2 (c + 1) (ps.set c r2) (by omega) ⟨by omega, by simp [hpsl]⟩ (by rw [hy hcv]; repeat (first | exact trivial | refine ⟨rfl, ?_⟩)) (fun w h => by rw [hy hcv]; exact h)
  · have hce : c = m.tl.length := by omega
    subst hce
    refine tri_weak (fun w h => HpM.perm h (tail_in [_, _, _, _, _, _] _ cs).symm) ?_
    (repeat (first | refine zz ?_ | refine zv fun _ => ?_))
    refine au_done2 rfl ?_
    exact fun w hw => ⟨⟨ps, hpsl⟩, rfl, hw.sub (by repeat (first | exact List.Sublist.refl _ | assumption | apply List.Sublist.cons_cons | apply List.Sublist.cons))⟩
end
end Go.Proofs.YtojfaelafakemaaGreat
