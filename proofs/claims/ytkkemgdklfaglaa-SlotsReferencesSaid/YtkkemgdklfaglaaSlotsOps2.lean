/- The walks of slots: with, and what is built on it. No conditions. -/
import Derived.Test.YtkkemgdklfaglaaSlotsOps
set_option linter.unusedSimpArgs false
set_option linter.unusedVariables false
namespace Go.Proofs.Ytkkemgdklfaglaa
open Go Go.RowKit
attribute [local irreducible] Code.wp wpList bodyPost Exit.then Exit.inBlock Calls wpQuiet Tri TriQ
def inUse (l : List Slot) (i : Int) : Bool := decide (0 ≤ i) && (decide (i < (l.length : Int)) && (l.getD i.toNat default).place != 0)
def withE (l : List Slot) (i : Int) (e : Slot → Int) : Int := if checkM l = 0 then if inUse l i = true then e (l.getD i.toNat default) else 6 else checkM l
def withL (l : List Slot) (i : Int) (e : Slot → Int) (G : Slot → Slot) : List Slot := if checkM l = 0 ∧ inUse l i = true ∧ e (l.getD i.toNat default) = 0 then l.set i.toNat (G (l.getD i.toNat default)) else []
theorem inUse_lt {l : List Slot} {i : Int} (h : inUse l i = true) : 0 ≤ i ∧ i < (l.length : Int) ∧ i.toNat < l.length := by
  simp only [inUse, Bool.and_eq_true, decide_eq_true_eq] at h
  omega
section
variable (w0 : World) (cs : List Chunk)
theorem with_c {v : Value} {l : List Slot} (i : Int) (cs' : List Chunk) {e : Slot → Int} {G : Slot → Slot} (hR : RdH (Hp w0 cs) v l) (hlen : l.length ≤ 9223372036854775807) {g : Nat} {capd : List Value} [Fun_ Try.prog g]
    (hg : checkM l = 0 → i.toNat < l.length → ∀ r, Cal Try.prog g ([eP r.v i.toNat 2 0] ++ capd) (Hp w0 (slS r l :: cs)) (fun _ : Unit => .int .i64 (e (l.getD i.toNat default))) (fun _ => Hp w0 (slS r (l.set i.toNat (G (l.getD i.toNat default))) :: cs'))) :
    Cal Try.prog 34 [v, .int .i64 i, .func (.func g) #[] capd.toArray] (Hp w0 cs) (fun r : Row => .tuple #[r.v, .int .i64 (withE l i e)]) (fun r => Hp w0 (slS r (withL l i e G) :: if checkM l = 0 ∧ inUse l i = true then cs' else cs)) := by
  refine cal_of_tri Try.func34 rfl Try.ntmps34 rfl ?_
  (repeat (first | refine au_pure ?_ | refine au_pass ?_ | refine au_box (fun _ => ?_) | refine au_alloc (fun _ => ?_) | refine au_store ?_ | refine au_make rfl rfl (fun _ => ?_) | refine au_lit rfl rfl rfl (fun _ => ?_) | refine au_append rfl rfl rfl rfl (fun _ => au_norm ?_) | refine au_storeE rfl rfl rfl rfl ?_ | refine tri_seq ?_ | refine tri_then ?_ | refine tri_region ?_ | refine tri_nil ?_ | refine tri_skip ?_ | refine tri_ret ?_ | refine tri_exit ?_ | refine tri_thenr ?_ | refine tri_thene ?_ | refine tri_blkn ?_ | refine tri_blkr ?_ | refine tri_blke ?_ | refine tri_blko (by rfl) ?_ | refine tri_if_t (by rfl) ?_ | refine tri_if_f (by rfl) ?_ | fail))
  refine au_callC rfl rfl rfl rfl rfl (check_c w0 cs hR hlen) (fun _ => ?_)
  (repeat' (first | refine au_pure ?_ | refine au_pass ?_ | refine au_box (fun _ => ?_) | refine au_alloc (fun _ => ?_) | refine au_store ?_ | refine au_make rfl rfl (fun _ => ?_) | refine au_lit rfl rfl rfl (fun _ => ?_) | refine au_append rfl rfl rfl rfl (fun _ => au_norm ?_) | refine au_storeE rfl rfl rfl rfl ?_ | refine tri_seq ?_ | refine tri_then ?_ | refine tri_region ?_ | refine tri_nil ?_ | refine tri_skip ?_ | refine tri_ret ?_ | refine tri_exit ?_ | refine tri_thenr ?_ | refine tri_thene ?_ | refine tri_blkn ?_ | refine tri_blkr ?_ | refine tri_blke ?_ | refine tri_blko (by rfl) ?_ | refine tri_if_t (by rfl) ?_ | refine tri_if_f (by rfl) ?_ | ((first | refine tri_cond (by rfl) (fun hc => ?_) (fun hc => ?_) | refine tri_gsplit (by rfl) (by rfl) (by (fail_if_success exact (rfl : _ = some (Value.bool true))); (fail_if_success exact (rfl : _ = some (Value.bool false))); rfl) (fun hc => ?_) (fun hc => ?_)) <;> (try simp only [decide_eq_true_eq, decide_eq_false_iff_not, beq_iff_eq, bne_iff_ne, ne_eq, Bool.not_eq_true', Bool.not_eq_false', beq_eq_false_iff_ne, bne_eq_false_iff_eq, Int.not_lt, Int.not_le, gt_iff_lt, ge_iff_le, Bool.and_eq_true, Bool.or_eq_true, Bool.and_eq_false_iff, Bool.or_eq_false_iff, Decidable.not_not, not_true_eq_false, not_false_eq_true, and_true, true_and, or_false, false_or, or_true, true_or, and_false, false_and, eq_self, Bool.true_eq_false, Bool.false_eq_true] at hc) <;> (try (exfalso; omega))) | fail))
  · refine tri_nilrow Slot 41 ?_
    refine au_done2 rfl ?_
    intro w hw
    refine ⟨Row.nil w0.heap.size, ?_, ?_⟩
    · rw [withE, if_neg hc]; rfl
    · rw [withL, if_neg (fun h => hc h.1), if_neg (fun h => hc h.1)]; exact hw
  iterate 3
    · have hu : ¬ inUse l i = true := by
        simp only [inUse, Bool.and_eq_true, decide_eq_true_eq, bne_iff_ne, ne_eq]
        intro h
        have := h.1
        have := h.2.1
        first
          | omega
          | exact h.2.2 hc
      refine tri_nilrow Slot 41 ?_
      refine au_done2 rfl ?_
      intro w hw
      refine ⟨Row.nil w0.heap.size, ?_, ?_⟩
      · rw [withE, if_pos (by assumption), if_neg hu]; rfl
      · rw [withL, if_neg (fun h => hu h.2.1), if_neg (fun h => hu h.2)]; exact hw
  have h0 : checkM l = 0 := by assumption
  have hu : inUse l i = true := by
    simp only [inUse, Bool.and_eq_true, decide_eq_true_eq, bne_iff_ne, ne_eq]
    exact ⟨by omega, by omega, hc⟩
  have hi := (inUse_lt hu).2.2
  refine au_callC rfl rfl rfl rfl rfl (clone_c w0 cs hR (checkM_le h0)) ?_
  intro r
  (repeat (first | refine au_pure ?_ | refine au_pass ?_ | refine au_box (fun _ => ?_) | refine au_alloc (fun _ => ?_) | refine au_store ?_ | refine au_make rfl rfl (fun _ => ?_) | refine au_lit rfl rfl rfl (fun _ => ?_) | refine au_append rfl rfl rfl rfl (fun _ => au_norm ?_) | refine au_storeE rfl rfl rfl rfl ?_ | refine tri_seq ?_ | refine tri_then ?_ | refine tri_region ?_ | refine tri_nil ?_ | refine tri_skip ?_ | refine tri_ret ?_ | refine tri_exit ?_ | refine tri_thenr ?_ | refine tri_thene ?_ | refine tri_blkn ?_ | refine tri_blkr ?_ | refine tri_blke ?_ | refine tri_blko (by rfl) ?_ | refine tri_if_t (by rfl) ?_ | refine tri_if_f (by rfl) ?_ | fail))
  refine au_callC rfl rfl rfl rfl rfl (hg h0 hi r) (fun _ => ?_)
  (repeat' (first | refine au_pure ?_ | refine au_pass ?_ | refine au_box (fun _ => ?_) | refine au_alloc (fun _ => ?_) | refine au_store ?_ | refine au_make rfl rfl (fun _ => ?_) | refine au_lit rfl rfl rfl (fun _ => ?_) | refine au_append rfl rfl rfl rfl (fun _ => au_norm ?_) | refine au_storeE rfl rfl rfl rfl ?_ | refine tri_seq ?_ | refine tri_then ?_ | refine tri_region ?_ | refine tri_nil ?_ | refine tri_skip ?_ | refine tri_ret ?_ | refine tri_exit ?_ | refine tri_thenr ?_ | refine tri_thene ?_ | refine tri_blkn ?_ | refine tri_blkr ?_ | refine tri_blke ?_ | refine tri_blko (by rfl) ?_ | refine tri_if_t (by rfl) ?_ | refine tri_if_f (by rfl) ?_ | ((first | refine tri_cond (by rfl) (fun hc => ?_) (fun hc => ?_) | refine tri_gsplit (by rfl) (by rfl) (by (fail_if_success exact (rfl : _ = some (Value.bool true))); (fail_if_success exact (rfl : _ = some (Value.bool false))); rfl) (fun hc => ?_) (fun hc => ?_)) <;> (try simp only [decide_eq_true_eq, decide_eq_false_iff_not, beq_iff_eq, bne_iff_ne, ne_eq, Bool.not_eq_true', Bool.not_eq_false', beq_eq_false_iff_ne, bne_eq_false_iff_eq, Int.not_lt, Int.not_le, gt_iff_lt, ge_iff_le, Bool.and_eq_true, Bool.or_eq_true, Bool.and_eq_false_iff, Bool.or_eq_false_iff, Decidable.not_not, not_true_eq_false, not_false_eq_true, and_true, true_and, or_false, false_or, or_true, true_or, and_false, false_and, eq_self, Bool.true_eq_false, Bool.false_eq_true] at hc) <;> (try (exfalso; omega))) | fail))
  · refine tri_nilrow Slot 41 ?_
    refine au_done2 rfl ?_
    intro w hw
    refine ⟨Row.nil w0.heap.size, ?_, ?_⟩
    · rw [withE, if_pos h0, if_pos hu]; rfl
    · rw [withL, if_neg (fun h => hc h.2.2), if_pos ⟨h0, hu⟩]; exact hw.sub (by repeat (first | exact List.Sublist.refl _ | assumption | apply List.Sublist.cons_cons | apply List.Sublist.cons))
  · refine au_done2 rfl ?_
    intro w hw
    refine ⟨r, ?_, ?_⟩
    · rw [withE, if_pos h0, if_pos hu, hc]
    · rw [withL, if_pos ⟨h0, hu, hc⟩, if_pos ⟨h0, hu⟩]; exact hw
theorem checkM_at {l : List Slot} (h : checkM l = 0) {k : Nat} (hk : k < l.length) : 0 ≤ (l.getD k default).place ∧ (l.getD k default).place ≤ 3 ∧ 0 ≤ (l.getD k default).count ∧ (l.getD k default).count ≤ 1048576 ∧ ((l.getD k default).place = 0 → (l.getD k default).count = 0) := by
  unfold checkM at h
  split at h
  · cases h
  split at h
  · cases h
  split at h
  · cases h
  rename_i h1 h2 h3
  have h2' := getD_any.1 (by simpa using h2) k hk
  have h3' := getD_any.1 (by simpa using h3) k hk
  simp only [badS, Bool.or_eq_false_iff, decide_eq_false_iff_not] at h2'
  simp only [ghostB, Bool.and_eq_false_iff, beq_eq_false_iff_ne, bne_eq_false_iff_eq] at h3'
  refine ⟨by omega, by omega, by omega, by omega, fun h => ?_⟩
  rcases h3' with h4 | h4
  · exact absurd h h4
  · exact h4
def dupE (s : Slot) : Int := if s.count = 1048576 then 9 else 0
def dupG (s : Slot) : Slot := if s.count = 1048576 then s else ⟨s.place, s.count + 1⟩
theorem set_self {α : Type} [Inhabited α] {l : List α} {k : Nat} (hk : k < l.length) : l.set k (l.getD k default) = l := by
  rw [getD_get hk]; simp
theorem dup1_c {l : List Slot} {k : Nat} (r : Row) (hl : checkM l = 0) (hk : k < l.length) :
    Cal Try.prog 35 [eP r.v k 2 0] (Hp w0 (slS r l :: cs)) (fun _ : Unit => .int .i64 (dupE (l.getD k default))) (fun _ => Hp w0 (slS r (l.set k (dupG (l.getD k default))) :: cs)) := by
  have hb := checkM_at hl hk
  refine cal_of_tri Try.func35 rfl Try.ntmps35 rfl ?_
  (repeat' (first | refine au_pure ?_ | refine au_pass ?_ | refine au_box (fun _ => ?_) | refine au_alloc (fun _ => ?_) | refine au_store ?_ | refine au_make rfl rfl (fun _ => ?_) | refine au_lit rfl rfl rfl (fun _ => ?_) | refine au_append rfl rfl rfl rfl (fun _ => au_norm ?_) | refine au_storeE rfl rfl rfl rfl ?_ | refine tri_seq ?_ | refine tri_then ?_ | refine tri_region ?_ | refine tri_nil ?_ | refine tri_skip ?_ | refine tri_ret ?_ | refine tri_exit ?_ | refine tri_thenr ?_ | refine tri_thene ?_ | refine tri_blkn ?_ | refine tri_blkr ?_ | refine tri_blke ?_ | refine tri_blko (by rfl) ?_ | refine tri_if_t (by rfl) ?_ | refine tri_if_f (by rfl) ?_ | ((first | refine tri_cond (by rfl) (fun hc => ?_) (fun hc => ?_) | refine tri_gsplit (by rfl) (by rfl) (by (fail_if_success exact (rfl : _ = some (Value.bool true))); (fail_if_success exact (rfl : _ = some (Value.bool false))); rfl) (fun hc => ?_) (fun hc => ?_)) <;> (try simp only [decide_eq_true_eq, decide_eq_false_iff_not, beq_iff_eq, bne_iff_ne, ne_eq, Bool.not_eq_true', Bool.not_eq_false', beq_eq_false_iff_ne, bne_eq_false_iff_eq, Int.not_lt, Int.not_le, gt_iff_lt, ge_iff_le, Bool.and_eq_true, Bool.or_eq_true, Bool.and_eq_false_iff, Bool.or_eq_false_iff, Decidable.not_not, not_true_eq_false, not_false_eq_true, and_true, true_and, or_false, false_or, or_true, true_or, and_false, false_and, eq_self, Bool.true_eq_false, Bool.false_eq_true] at hc) <;> (try (exfalso; omega))) | fail))
  · refine au_done1 rfl ?_
    intro w hw
    refine ⟨(), ?_, ?_⟩
    · rw [dupE, if_pos hc]
    · rw [dupG, if_pos hc, set_self hk]; exact hw
  · refine au_done1 rfl ?_
    intro w hw
    refine ⟨(), ?_, ?_⟩
    · rw [dupE, if_neg hc]
    · rw [dupG, if_neg hc]; exact hw
theorem dup_c {v : Value} {l : List Slot} (i : Int) (hR : RdH (Hp w0 cs) v l) (hlen : l.length ≤ 9223372036854775807) :
    Cal Try.prog 20 [v, .int .i64 i] (Hp w0 cs) (fun r : Row => .tuple #[r.v, .int .i64 (withE l i dupE)]) (fun r => Hp w0 (slS r (withL l i dupE dupG) :: cs)) := by
  refine cal_of_tri Try.func20 rfl Try.ntmps20 rfl ?_
  (repeat (first | refine au_pure ?_ | refine au_pass ?_ | refine au_box (fun _ => ?_) | refine au_alloc (fun _ => ?_) | refine au_store ?_ | refine au_make rfl rfl (fun _ => ?_) | refine au_lit rfl rfl rfl (fun _ => ?_) | refine au_append rfl rfl rfl rfl (fun _ => au_norm ?_) | refine au_storeE rfl rfl rfl rfl ?_ | refine tri_seq ?_ | refine tri_then ?_ | refine tri_region ?_ | refine tri_nil ?_ | refine tri_skip ?_ | refine tri_ret ?_ | refine tri_exit ?_ | refine tri_thenr ?_ | refine tri_thene ?_ | refine tri_blkn ?_ | refine tri_blkr ?_ | refine tri_blke ?_ | refine tri_blko (by rfl) ?_ | refine tri_if_t (by rfl) ?_ | refine tri_if_f (by rfl) ?_ | fail))
  refine au_callC rfl rfl rfl rfl rfl (with_c w0 cs i cs hR hlen (g := 35) (capd := []) (fun h0 hk r => dup1_c w0 cs r h0 hk)) ?_
  intro r
  rw [ite_self]
  (repeat (first | refine au_pure ?_ | refine au_pass ?_ | refine au_box (fun _ => ?_) | refine au_alloc (fun _ => ?_) | refine au_store ?_ | refine au_make rfl rfl (fun _ => ?_) | refine au_lit rfl rfl rfl (fun _ => ?_) | refine au_append rfl rfl rfl rfl (fun _ => au_norm ?_) | refine au_storeE rfl rfl rfl rfl ?_ | refine tri_seq ?_ | refine tri_then ?_ | refine tri_region ?_ | refine tri_nil ?_ | refine tri_skip ?_ | refine tri_ret ?_ | refine tri_exit ?_ | refine tri_thenr ?_ | refine tri_thene ?_ | refine tri_blkn ?_ | refine tri_blkr ?_ | refine tri_blke ?_ | refine tri_blko (by rfl) ?_ | refine tri_if_t (by rfl) ?_ | refine tri_if_f (by rfl) ?_ | fail))
  refine au_done2 rfl ?_
  intro w hw
  exact ⟨r, rfl, hw⟩
def relE (s : Slot) : Int := if s.count = 0 then 0 else 21
def relG (s : Slot) : Slot := if s.count = 0 then ⟨0, 0⟩ else s
theorem release1_c {l : List Slot} {k : Nat} (r : Row) (hk : k < l.length) :
    Cal Try.prog 37 [eP r.v k 2 0] (Hp w0 (slS r l :: cs)) (fun _ : Unit => .int .i64 (relE (l.getD k default))) (fun _ => Hp w0 (slS r (l.set k (relG (l.getD k default))) :: cs)) := by
  refine cal_of_tri Try.func37 rfl Try.ntmps37 rfl ?_
  (repeat' (first | refine au_pure ?_ | refine au_pass ?_ | refine au_box (fun _ => ?_) | refine au_alloc (fun _ => ?_) | refine au_store ?_ | refine au_make rfl rfl (fun _ => ?_) | refine au_lit rfl rfl rfl (fun _ => ?_) | refine au_append rfl rfl rfl rfl (fun _ => au_norm ?_) | refine au_storeE rfl rfl rfl rfl ?_ | refine tri_seq ?_ | refine tri_then ?_ | refine tri_region ?_ | refine tri_nil ?_ | refine tri_skip ?_ | refine tri_ret ?_ | refine tri_exit ?_ | refine tri_thenr ?_ | refine tri_thene ?_ | refine tri_blkn ?_ | refine tri_blkr ?_ | refine tri_blke ?_ | refine tri_blko (by rfl) ?_ | refine tri_if_t (by rfl) ?_ | refine tri_if_f (by rfl) ?_ | ((first | refine tri_cond (by rfl) (fun hc => ?_) (fun hc => ?_) | refine tri_gsplit (by rfl) (by rfl) (by (fail_if_success exact (rfl : _ = some (Value.bool true))); (fail_if_success exact (rfl : _ = some (Value.bool false))); rfl) (fun hc => ?_) (fun hc => ?_)) <;> (try simp only [decide_eq_true_eq, decide_eq_false_iff_not, beq_iff_eq, bne_iff_ne, ne_eq, Bool.not_eq_true', Bool.not_eq_false', beq_eq_false_iff_ne, bne_eq_false_iff_eq, Int.not_lt, Int.not_le, gt_iff_lt, ge_iff_le, Bool.and_eq_true, Bool.or_eq_true, Bool.and_eq_false_iff, Bool.or_eq_false_iff, Decidable.not_not, not_true_eq_false, not_false_eq_true, and_true, true_and, or_false, false_or, or_true, true_or, and_false, false_and, eq_self, Bool.true_eq_false, Bool.false_eq_true] at hc) <;> (try (exfalso; omega))) | fail))
  · refine au_done1 rfl ?_
    intro w hw
    refine ⟨(), ?_, ?_⟩
    · rw [relE, if_neg hc]
    · rw [relG, if_neg hc, set_self hk]; exact hw
  · refine au_done1 rfl ?_
    intro w hw
    refine ⟨(), ?_, ?_⟩
    · rw [relE, if_pos hc]
    · rw [relG, if_pos hc]; exact hw
theorem release_c {v : Value} {l : List Slot} (i : Int) (hR : RdH (Hp w0 cs) v l) (hlen : l.length ≤ 9223372036854775807) :
    Cal Try.prog 22 [v, .int .i64 i] (Hp w0 cs) (fun r : Row => .tuple #[r.v, .int .i64 (withE l i relE)]) (fun r => Hp w0 (slS r (withL l i relE relG) :: cs)) := by
  refine cal_of_tri Try.func22 rfl Try.ntmps22 rfl ?_
  (repeat (first | refine au_pure ?_ | refine au_pass ?_ | refine au_box (fun _ => ?_) | refine au_alloc (fun _ => ?_) | refine au_store ?_ | refine au_make rfl rfl (fun _ => ?_) | refine au_lit rfl rfl rfl (fun _ => ?_) | refine au_append rfl rfl rfl rfl (fun _ => au_norm ?_) | refine au_storeE rfl rfl rfl rfl ?_ | refine tri_seq ?_ | refine tri_then ?_ | refine tri_region ?_ | refine tri_nil ?_ | refine tri_skip ?_ | refine tri_ret ?_ | refine tri_exit ?_ | refine tri_thenr ?_ | refine tri_thene ?_ | refine tri_blkn ?_ | refine tri_blkr ?_ | refine tri_blke ?_ | refine tri_blko (by rfl) ?_ | refine tri_if_t (by rfl) ?_ | refine tri_if_f (by rfl) ?_ | fail))
  refine au_callC rfl rfl rfl rfl rfl (with_c w0 cs i cs hR hlen (g := 37) (capd := []) (fun _ hk r => release1_c w0 cs r hk)) ?_
  intro r
  rw [ite_self]
  (repeat (first | refine au_pure ?_ | refine au_pass ?_ | refine au_box (fun _ => ?_) | refine au_alloc (fun _ => ?_) | refine au_store ?_ | refine au_make rfl rfl (fun _ => ?_) | refine au_lit rfl rfl rfl (fun _ => ?_) | refine au_append rfl rfl rfl rfl (fun _ => au_norm ?_) | refine au_storeE rfl rfl rfl rfl ?_ | refine tri_seq ?_ | refine tri_then ?_ | refine tri_region ?_ | refine tri_nil ?_ | refine tri_skip ?_ | refine tri_ret ?_ | refine tri_exit ?_ | refine tri_thenr ?_ | refine tri_thene ?_ | refine tri_blkn ?_ | refine tri_blkr ?_ | refine tri_blke ?_ | refine tri_blko (by rfl) ?_ | refine tri_if_t (by rfl) ?_ | refine tri_if_f (by rfl) ?_ | fail))
  refine au_done2 rfl ?_
  intro w hw
  exact ⟨r, rfl, hw⟩
def placeE (p : Int) (s : Slot) : Int := if p < 1 ∨ 3 < p then 1 else 0
def placeG (p : Int) (s : Slot) : Slot := if p < 1 ∨ 3 < p then s else ⟨p, s.count⟩
theorem place1_c {l : List Slot} {k : Nat} {g t : Nat} (p : Int) (r : Row) (hk : k < l.length) :
    Cal Try.prog 40 [eP r.v k 2 0, .pointer (some ⟨g, 0, none⟩)] (Hp w0 (slS r l :: blkC g t [.int .i64 p] :: cs)) (fun _ : Unit => .int .i64 (placeE p (l.getD k default))) (fun _ => Hp w0 (slS r (l.set k (placeG p (l.getD k default))) :: blkC g t [.int .i64 p] :: cs)) := by
  refine cal_of_tri Try.func40 rfl Try.ntmps40 rfl ?_
  (repeat' (first | refine au_pure ?_ | refine au_pass ?_ | refine au_box (fun _ => ?_) | refine au_alloc (fun _ => ?_) | refine au_store ?_ | refine au_make rfl rfl (fun _ => ?_) | refine au_lit rfl rfl rfl (fun _ => ?_) | refine au_append rfl rfl rfl rfl (fun _ => au_norm ?_) | refine au_storeE rfl rfl rfl rfl ?_ | refine tri_seq ?_ | refine tri_then ?_ | refine tri_region ?_ | refine tri_nil ?_ | refine tri_skip ?_ | refine tri_ret ?_ | refine tri_exit ?_ | refine tri_thenr ?_ | refine tri_thene ?_ | refine tri_blkn ?_ | refine tri_blkr ?_ | refine tri_blke ?_ | refine tri_blko (by rfl) ?_ | refine tri_if_t (by rfl) ?_ | refine tri_if_f (by rfl) ?_ | ((first | refine tri_cond (by rfl) (fun hc => ?_) (fun hc => ?_) | refine tri_gsplit (by rfl) (by rfl) (by (fail_if_success exact (rfl : _ = some (Value.bool true))); (fail_if_success exact (rfl : _ = some (Value.bool false))); rfl) (fun hc => ?_) (fun hc => ?_)) <;> (try simp only [decide_eq_true_eq, decide_eq_false_iff_not, beq_iff_eq, bne_iff_ne, ne_eq, Bool.not_eq_true', Bool.not_eq_false', beq_eq_false_iff_ne, bne_eq_false_iff_eq, Int.not_lt, Int.not_le, gt_iff_lt, ge_iff_le, Bool.and_eq_true, Bool.or_eq_true, Bool.and_eq_false_iff, Bool.or_eq_false_iff, Decidable.not_not, not_true_eq_false, not_false_eq_true, and_true, true_and, or_false, false_or, or_true, true_or, and_false, false_and, eq_self, Bool.true_eq_false, Bool.false_eq_true] at hc) <;> (try (exfalso; omega))) | fail))
  iterate 2
    · refine au_done1 rfl ?_
      intro w hw
      refine ⟨(), ?_, ?_⟩
      · rw [placeE, if_pos (by omega)]
      · rw [placeG, if_pos (by omega), set_self hk]; exact hw
  · refine au_done1 rfl ?_
    intro w hw
    refine ⟨(), ?_, ?_⟩
    · rw [placeE, if_neg (by omega)]
    · rw [placeG, if_neg (by omega)]; exact hw
theorem place_c {v : Value} {l : List Slot} (i p : Int) (hR : RdH (Hp w0 cs) v l) (hlen : l.length ≤ 9223372036854775807) :
    Cal Try.prog 27 [v, .int .i64 i, .int .i64 p] (Hp w0 cs) (fun r : Row => .tuple #[r.v, .int .i64 (withE l i (placeE p))]) (fun r => Hp w0 (slS r (withL l i (placeE p) (placeG p)) :: cs)) := by
  refine cal_of_tri Try.func27 rfl Try.ntmps27 rfl ?_
  (repeat (first | refine au_pure ?_ | refine au_pass ?_ | refine au_box (fun _ => ?_) | refine au_alloc (fun _ => ?_) | refine au_store ?_ | refine au_make rfl rfl (fun _ => ?_) | refine au_lit rfl rfl rfl (fun _ => ?_) | refine au_append rfl rfl rfl rfl (fun _ => au_norm ?_) | refine au_storeE rfl rfl rfl rfl ?_ | refine tri_seq ?_ | refine tri_then ?_ | refine tri_region ?_ | refine tri_nil ?_ | refine tri_skip ?_ | refine tri_ret ?_ | refine tri_exit ?_ | refine tri_thenr ?_ | refine tri_thene ?_ | refine tri_blkn ?_ | refine tri_blkr ?_ | refine tri_blke ?_ | refine tri_blko (by rfl) ?_ | refine tri_if_t (by rfl) ?_ | refine tri_if_f (by rfl) ?_ | fail))
  refine au_callC rfl rfl rfl rfl rfl (with_c w0 _ i _ hR.cons hlen (g := 40) (fun _ hk r => place1_c w0 cs p r hk)) ?_
  intro r
  rw [ite_self]
  (repeat (first | refine au_pure ?_ | refine au_pass ?_ | refine au_box (fun _ => ?_) | refine au_alloc (fun _ => ?_) | refine au_store ?_ | refine au_make rfl rfl (fun _ => ?_) | refine au_lit rfl rfl rfl (fun _ => ?_) | refine au_append rfl rfl rfl rfl (fun _ => au_norm ?_) | refine au_storeE rfl rfl rfl rfl ?_ | refine tri_seq ?_ | refine tri_then ?_ | refine tri_region ?_ | refine tri_nil ?_ | refine tri_skip ?_ | refine tri_ret ?_ | refine tri_exit ?_ | refine tri_thenr ?_ | refine tri_thene ?_ | refine tri_blkn ?_ | refine tri_blkr ?_ | refine tri_blke ?_ | refine tri_blko (by rfl) ?_ | refine tri_if_t (by rfl) ?_ | refine tri_if_f (by rfl) ?_ | fail))
  refine au_done2 rfl ?_
  intro w hw
  exact ⟨r, rfl, hw.sub (by repeat (first | exact List.Sublist.refl _ | assumption | apply List.Sublist.cons_cons | apply List.Sublist.cons))⟩
def dropE (s : Slot) : Int := if s.count = 0 then 11 else 0
def dropB (held : Bool) (s : Slot) : Bool := s.count == 1 && !held
def dropG (held : Bool) (s : Slot) : Slot := if s.count = 0 then s else if dropB held s then ⟨0, 0⟩ else ⟨s.place, s.count - 1⟩
theorem getD_set_self {α : Type} [Inhabited α] {l : List α} {k : Nat} {a : α} (hk : k < l.length) : (l.set k a).getD k default = a := by
  rw [getD_get (by simpa using hk)]; simp
theorem drop1_c {l : List Slot} {k : Nat} {g t g' t' : Nat} (held : Bool) (r : Row) (hl : checkM l = 0) (hk : k < l.length) :
    Cal Try.prog 36 [eP r.v k 2 0, .pointer (some ⟨g, 0, none⟩), .pointer (some ⟨g', 0, none⟩)] (Hp w0 (slS r l :: blkC g' t' [.bool false] :: blkC g t [.bool held] :: cs)) (fun _ : Unit => .int .i64 (dropE (l.getD k default)))
      (fun _ => Hp w0 (slS r (l.set k (dropG held (l.getD k default))) :: blkC g' t' [.bool (dropB held (l.getD k default))] :: blkC g t [.bool held] :: cs)) := by
  have hb := checkM_at hl hk
  refine cal_of_tri Try.func36 rfl Try.ntmps36 rfl ?_
  (repeat' (first | refine au_pure ?_ | refine au_pass ?_ | refine au_box (fun _ => ?_) | refine au_alloc (fun _ => ?_) | refine au_store ?_ | refine au_make rfl rfl (fun _ => ?_) | refine au_lit rfl rfl rfl (fun _ => ?_) | refine au_append rfl rfl rfl rfl (fun _ => au_norm ?_) | refine au_storeE rfl rfl rfl rfl ?_ | refine tri_seq ?_ | refine tri_then ?_ | refine tri_region ?_ | refine tri_nil ?_ | refine tri_skip ?_ | refine tri_ret ?_ | refine tri_exit ?_ | refine tri_thenr ?_ | refine tri_thene ?_ | refine tri_blkn ?_ | refine tri_blkr ?_ | refine tri_blke ?_ | refine tri_blko (by rfl) ?_ | refine tri_if_t (by rfl) ?_ | refine tri_if_f (by rfl) ?_ | ((first | refine tri_cond (by rfl) (fun hc => ?_) (fun hc => ?_) | refine tri_gsplit (by rfl) (by rfl) (by (fail_if_success exact (rfl : _ = some (Value.bool true))); (fail_if_success exact (rfl : _ = some (Value.bool false))); rfl) (fun hc => ?_) (fun hc => ?_)) <;> (try simp only [decide_eq_true_eq, decide_eq_false_iff_not, beq_iff_eq, bne_iff_ne, ne_eq, Bool.not_eq_true', Bool.not_eq_false', beq_eq_false_iff_ne, bne_eq_false_iff_eq, Int.not_lt, Int.not_le, gt_iff_lt, ge_iff_le, Bool.and_eq_true, Bool.or_eq_true, Bool.and_eq_false_iff, Bool.or_eq_false_iff, Decidable.not_not, not_true_eq_false, not_false_eq_true, and_true, true_and, or_false, false_or, or_true, true_or, and_false, false_and, eq_self, Bool.true_eq_false, Bool.false_eq_true] at hc) <;> (try (exfalso; omega))) | fail))
  all_goals refine au_done1 rfl ?_
  all_goals intro w hw
  all_goals refine ⟨(), ?_, ?_⟩
  · rw [dropE, if_pos hc]
  · rw [dropG, if_pos hc, set_self hk]
    have hb' : dropB held (l.getD k default) = false := by unfold dropB; rw [hc]; rfl
    rw [hb']; exact hw
  · rw [dropE, if_neg (by assumption)]
  · rename_i h1 h2
    rw [getD_set_self hk] at h2
    have h2' : (l.getD k default).count - 1 = 0 := h2
    have hb' : dropB held (l.getD k default) = true := by unfold dropB; rw [show (l.getD k default).count = 1 by omega, hc]; rfl
    rw [getD_set_self hk, List.set_set] at hw
    rw [dropG, if_neg h1, hb', if_pos rfl]; exact hw
  · rw [dropE, if_neg (by assumption)]
  · rename_i h1 h2
    have hb' : dropB held (l.getD k default) = false := by simp [dropB, hc]
    rw [dropG, if_neg h1, hb', if_neg Bool.false_ne_true]; exact hw
  · rw [dropE, if_neg (by assumption)]
  · rename_i h1
    rw [getD_set_self hk] at hc
    change ¬ (l.getD k default).count - 1 = 0 at hc
    have hb' : dropB held (l.getD k default) = false := by
      unfold dropB
      rw [Bool.and_eq_false_iff, beq_eq_false_iff_ne]
      left; omega
    rw [dropG, if_neg h1, hb', if_neg Bool.false_ne_true]; exact hw
def dropF (l : List Slot) (i : Int) (held : Bool) : Bool := decide (checkM l = 0) && (inUse l i && dropB held (l.getD i.toNat default))
theorem drop_c {v : Value} {l : List Slot} (i : Int) (held : Bool) (hR : RdH (Hp w0 cs) v l) (hlen : l.length ≤ 9223372036854775807) :
    Cal Try.prog 21 [v, .int .i64 i, .bool held] (Hp w0 cs) (fun r : Row => .tuple #[r.v, .bool (dropF l i held), .int .i64 (withE l i dropE)]) (fun r => Hp w0 (slS r (withL l i dropE (dropG held)) :: cs)) := by
  refine cal_of_tri Try.func21 rfl Try.ntmps21 rfl ?_
  (repeat (first | refine au_pure ?_ | refine au_pass ?_ | refine au_box (fun _ => ?_) | refine au_alloc (fun _ => ?_) | refine au_store ?_ | refine au_make rfl rfl (fun _ => ?_) | refine au_lit rfl rfl rfl (fun _ => ?_) | refine au_append rfl rfl rfl rfl (fun _ => au_norm ?_) | refine au_storeE rfl rfl rfl rfl ?_ | refine tri_seq ?_ | refine tri_then ?_ | refine tri_region ?_ | refine tri_nil ?_ | refine tri_skip ?_ | refine tri_ret ?_ | refine tri_exit ?_ | refine tri_thenr ?_ | refine tri_thene ?_ | refine tri_blkn ?_ | refine tri_blkr ?_ | refine tri_blke ?_ | refine tri_blko (by rfl) ?_ | refine tri_if_t (by rfl) ?_ | refine tri_if_f (by rfl) ?_ | fail))
  refine au_callC rfl rfl rfl rfl rfl (with_c w0 _ i _ hR.cons.cons hlen (g := 36) (fun h0 hk r => drop1_c w0 cs held r h0 hk)) ?_
  intro r
  by_cases hcu : checkM l = 0 ∧ inUse l i = true
  · rw [if_pos hcu]
    (repeat (first | refine au_pure ?_ | refine au_pass ?_ | refine au_box (fun _ => ?_) | refine au_alloc (fun _ => ?_) | refine au_store ?_ | refine au_make rfl rfl (fun _ => ?_) | refine au_lit rfl rfl rfl (fun _ => ?_) | refine au_append rfl rfl rfl rfl (fun _ => au_norm ?_) | refine au_storeE rfl rfl rfl rfl ?_ | refine tri_seq ?_ | refine tri_then ?_ | refine tri_region ?_ | refine tri_nil ?_ | refine tri_skip ?_ | refine tri_ret ?_ | refine tri_exit ?_ | refine tri_thenr ?_ | refine tri_thene ?_ | refine tri_blkn ?_ | refine tri_blkr ?_ | refine tri_blke ?_ | refine tri_blko (by rfl) ?_ | refine tri_if_t (by rfl) ?_ | refine tri_if_f (by rfl) ?_ | fail))
    refine au_draw rfl ?_; repeat (first | refine au_qpure rfl rfl ?_ | refine au_qpass rfl rfl ?_ | refine triq_nil ?_)
    (repeat (first | refine au_pure ?_ | refine au_pass ?_ | refine au_box (fun _ => ?_) | refine au_alloc (fun _ => ?_) | refine au_store ?_ | refine au_make rfl rfl (fun _ => ?_) | refine au_lit rfl rfl rfl (fun _ => ?_) | refine au_append rfl rfl rfl rfl (fun _ => au_norm ?_) | refine au_storeE rfl rfl rfl rfl ?_ | refine tri_seq ?_ | refine tri_then ?_ | refine tri_region ?_ | refine tri_nil ?_ | refine tri_skip ?_ | refine tri_ret ?_ | refine tri_exit ?_ | refine tri_thenr ?_ | refine tri_thene ?_ | refine tri_blkn ?_ | refine tri_blkr ?_ | refine tri_blke ?_ | refine tri_blko (by rfl) ?_ | refine tri_if_t (by rfl) ?_ | refine tri_if_f (by rfl) ?_ | fail))
    refine au_done3 rfl ?_
    intro w hw
    refine ⟨r, ?_, hw.sub (by repeat (first | exact List.Sublist.refl _ | assumption | apply List.Sublist.cons_cons | apply List.Sublist.cons))⟩
    simp [dropF, hcu.1, hcu.2]
  · rw [if_neg hcu]
    (repeat (first | refine au_pure ?_ | refine au_pass ?_ | refine au_box (fun _ => ?_) | refine au_alloc (fun _ => ?_) | refine au_store ?_ | refine au_make rfl rfl (fun _ => ?_) | refine au_lit rfl rfl rfl (fun _ => ?_) | refine au_append rfl rfl rfl rfl (fun _ => au_norm ?_) | refine au_storeE rfl rfl rfl rfl ?_ | refine tri_seq ?_ | refine tri_then ?_ | refine tri_region ?_ | refine tri_nil ?_ | refine tri_skip ?_ | refine tri_ret ?_ | refine tri_exit ?_ | refine tri_thenr ?_ | refine tri_thene ?_ | refine tri_blkn ?_ | refine tri_blkr ?_ | refine tri_blke ?_ | refine tri_blko (by rfl) ?_ | refine tri_if_t (by rfl) ?_ | refine tri_if_f (by rfl) ?_ | fail))
    refine au_draw rfl ?_; repeat (first | refine au_qpure rfl rfl ?_ | refine au_qpass rfl rfl ?_ | refine triq_nil ?_)
    (repeat (first | refine au_pure ?_ | refine au_pass ?_ | refine au_box (fun _ => ?_) | refine au_alloc (fun _ => ?_) | refine au_store ?_ | refine au_make rfl rfl (fun _ => ?_) | refine au_lit rfl rfl rfl (fun _ => ?_) | refine au_append rfl rfl rfl rfl (fun _ => au_norm ?_) | refine au_storeE rfl rfl rfl rfl ?_ | refine tri_seq ?_ | refine tri_then ?_ | refine tri_region ?_ | refine tri_nil ?_ | refine tri_skip ?_ | refine tri_ret ?_ | refine tri_exit ?_ | refine tri_thenr ?_ | refine tri_thene ?_ | refine tri_blkn ?_ | refine tri_blkr ?_ | refine tri_blke ?_ | refine tri_blko (by rfl) ?_ | refine tri_if_t (by rfl) ?_ | refine tri_if_f (by rfl) ?_ | fail))
    refine au_done3 rfl ?_
    intro w hw
    refine ⟨r, ?_, hw.sub (by repeat (first | exact List.Sublist.refl _ | assumption | apply List.Sublist.cons_cons | apply List.Sublist.cons))⟩
    have : dropF l i held = false := by
      simp only [dropF]
      by_cases h1 : checkM l = 0
      · have : inUse l i = false := by simpa [h1] using hcu
        simp [this]
      · simp [h1]
    rw [this]
end
end Go.Proofs.Ytkkemgdklfaglaa
