/- Texts joined: PtDelF, PtEq8, Copy, Grow. Each part's own remark says what it proves. -/
import Derived.Test.YtbgjelhefhcnpaaGreatM25
import Derived.Tactics
import Derived.Test.YtbgjelhefhcnpaaGreatM05
import Derived.Test.YtbgjelhefhcnpaaGreatM08
import Derived.Laws.CopyRow
/- slices.DeleteFunc over the nodes of a page table. No conditions. -/
set_option linter.unusedSimpArgs false
set_option linter.unusedVariables false
namespace Go.Proofs.YtbgjelhefhcnpaaGreat
open Go Go.RowKit
attribute [local irreducible] Code.wp wpList bodyPost Exit.then Exit.inBlock Calls wpQuiet Tri TriQ
abbrev ndV (x : ND) : Value := .agg #[.int .i64 x.f, .int .u64 (x.e 0), .int .u64 (x.e 1), .int .u64 (x.e 2), .int .u64 (x.e 3), .int .u64 (x.e 4), .int .u64 (x.e 5), .int .u64 (x.e 6), .int .u64 (x.e 7)]
def TstN (w0 : World) (cs : List Chunk) (g : Nat) (capd : List Value) (p : ND → Bool) (l : List ND) : Prop := ∀ ds s, s ∈ l → Cal Tryz.prog g ([ndV s] ++ capd) (Hp w0 (ds ++ cs)) (fun _ : Unit => .bool (p s)) (fun _ => Hp w0 (ds ++ cs))
theorem indexFuncN_c (w0 : World) (cs : List Chunk) {v : Value} {l : List ND} (hR : RdH (Hp w0 cs) v l) (hlen : l.length ≤ 9223372036854775807) {g : Nat} {capd : List Value} {p : ND → Bool} (hg : TstN w0 cs g capd p l) [Fun_ Tryz.prog g] :
    Cal Tryz.prog 93 [v, .func (.func g) #[] capd.toArray] (Hp w0 cs) (fun _ : Unit => .int .i64 (idxM p l)) (fun _ => Hp w0 cs) := by
  refine cal_of_tri Tryz.func93 rfl Tryz.ntmps93 rfl ?_
  (repeat (first | refine au_pure ?_ | refine au_pass ?_ | refine au_box (fun _ => ?_) | refine au_alloc (fun _ => ?_) | refine au_store ?_ | refine au_make rfl rfl (fun _ => ?_) | refine au_lit rfl rfl rfl (fun _ => ?_) | refine au_append rfl rfl rfl rfl (fun _ => au_norm ?_) | refine au_storeE rfl rfl rfl rfl ?_ | refine tri_seq ?_ | refine tri_then ?_ | refine tri_region ?_ | refine tri_nil ?_ | refine tri_skip ?_ | refine tri_ret ?_ | refine tri_exit ?_ | refine tri_thenr ?_ | refine tri_thene ?_ | refine tri_blkn ?_ | refine tri_blkr ?_ | refine tri_blke ?_ | refine tri_blko (by rfl) ?_ | refine tri_if_t (by rfl) ?_ | refine tri_if_f (by rfl) ?_ | fail))
  refine tri_block ?_
  refine tri_loop1 (fun k => k ≤ l.length ∧ ∀ j, j < k → p (l.getD j default) = false) (fun k => [(0, v), (1, .func (.func g) #[] capd.toArray), (7, .int .i64 (l.length : Int)), (8, .int .i64 (k : Int))]) (fun _ => Hp w0 cs) (fun k => l.length - k)
    0 ⟨by omega, fun j hj => by omega⟩ (by repeat (first | exact trivial | refine ⟨rfl, ?_⟩)) (fun _ h => h) ?_
  rintro k ⟨hk, hp⟩
  (repeat' (first | refine au_pure ?_ | refine au_pass ?_ | refine au_box (fun _ => ?_) | refine au_alloc (fun _ => ?_) | refine au_store ?_ | refine au_make rfl rfl (fun _ => ?_) | refine au_lit rfl rfl rfl (fun _ => ?_) | refine au_append rfl rfl rfl rfl (fun _ => au_norm ?_) | refine au_storeE rfl rfl rfl rfl ?_ | refine tri_seq ?_ | refine tri_then ?_ | refine tri_region ?_ | refine tri_nil ?_ | refine tri_skip ?_ | refine tri_ret ?_ | refine tri_exit ?_ | refine tri_thenr ?_ | refine tri_thene ?_ | refine tri_blkn ?_ | refine tri_blkr ?_ | refine tri_blke ?_ | refine tri_blko (by rfl) ?_ | refine tri_if_t (by rfl) ?_ | refine tri_if_f (by rfl) ?_ | ((first | refine tri_cond (by rfl) (fun hc => ?_) (fun hc => ?_) | refine tri_gsplit (by rfl) (by rfl) (by (fail_if_success exact (rfl : _ = some (Value.bool true))); (fail_if_success exact (rfl : _ = some (Value.bool false))); rfl) (fun hc => ?_) (fun hc => ?_)) <;> (try simp only [decide_eq_true_eq, decide_eq_false_iff_not, beq_iff_eq, bne_iff_ne, ne_eq, Bool.not_eq_true', Bool.not_eq_false', beq_eq_false_iff_ne, bne_eq_false_iff_eq, Int.not_lt, Int.not_le, gt_iff_lt, ge_iff_le, Bool.and_eq_true, Bool.or_eq_true, Bool.and_eq_false_iff, Bool.or_eq_false_iff, Decidable.not_not, not_true_eq_false, not_false_eq_true, and_true, true_and, or_false, false_or, or_true, true_or, and_false, false_and, eq_self, Bool.true_eq_false, Bool.false_eq_true] at hc) <;> (try (exfalso; omega))) | fail))
  · refine tri_block ?_
    (repeat (first | refine au_pure ?_ | refine au_pass ?_ | refine au_box (fun _ => ?_) | refine au_alloc (fun _ => ?_) | refine au_store ?_ | refine au_make rfl rfl (fun _ => ?_) | refine au_lit rfl rfl rfl (fun _ => ?_) | refine au_append rfl rfl rfl rfl (fun _ => au_norm ?_) | refine au_storeE rfl rfl rfl rfl ?_ | refine tri_seq ?_ | refine tri_then ?_ | refine tri_region ?_ | refine tri_nil ?_ | refine tri_skip ?_ | refine tri_ret ?_ | refine tri_exit ?_ | refine tri_thenr ?_ | refine tri_thene ?_ | refine tri_blkn ?_ | refine tri_blkr ?_ | refine tri_blke ?_ | refine tri_blko (by rfl) ?_ | refine tri_if_t (by rfl) ?_ | refine tri_if_f (by rfl) ?_ | fail))
    refine au_callC rfl rfl rfl rfl rfl (hg [] (l.getD k default) (mem_getD' (by omega))) (fun _ => ?_)
    (repeat' (first | refine au_pure ?_ | refine au_pass ?_ | refine au_box (fun _ => ?_) | refine au_alloc (fun _ => ?_) | refine au_store ?_ | refine au_make rfl rfl (fun _ => ?_) | refine au_lit rfl rfl rfl (fun _ => ?_) | refine au_append rfl rfl rfl rfl (fun _ => au_norm ?_) | refine au_storeE rfl rfl rfl rfl ?_ | refine tri_seq ?_ | refine tri_then ?_ | refine tri_region ?_ | refine tri_nil ?_ | refine tri_skip ?_ | refine tri_ret ?_ | refine tri_exit ?_ | refine tri_thenr ?_ | refine tri_thene ?_ | refine tri_blkn ?_ | refine tri_blkr ?_ | refine tri_blke ?_ | refine tri_blko (by rfl) ?_ | refine tri_if_t (by rfl) ?_ | refine tri_if_f (by rfl) ?_ | ((first | refine tri_cond (by rfl) (fun hc => ?_) (fun hc => ?_) | refine tri_gsplit (by rfl) (by rfl) (by (fail_if_success exact (rfl : _ = some (Value.bool true))); (fail_if_success exact (rfl : _ = some (Value.bool false))); rfl) (fun hc => ?_) (fun hc => ?_)) <;> (try simp only [decide_eq_true_eq, decide_eq_false_iff_not, beq_iff_eq, bne_iff_ne, ne_eq, Bool.not_eq_true', Bool.not_eq_false', beq_eq_false_iff_ne, bne_eq_false_iff_eq, Int.not_lt, Int.not_le, gt_iff_lt, ge_iff_le, Bool.and_eq_true, Bool.or_eq_true, Bool.and_eq_false_iff, Bool.or_eq_false_iff, Decidable.not_not, not_true_eq_false, not_false_eq_true, and_true, true_and, or_false, false_or, or_true, true_or, and_false, false_and, eq_self, Bool.true_eq_false, Bool.false_eq_true] at hc) <;> (try (exfalso; omega))) | fail))
    · refine au_done1 rfl ?_
      exact fun w hw => ⟨(), by rw [idxM_some (k := k) (by omega) (by assumption) hp], hw⟩
    · exact tri_nx1 (k + 1) (by omega) ⟨by omega, all_step hp (by assumption)⟩ (by repeat (first | exact trivial | refine ⟨rfl, ?_⟩)) (fun _ h => h)
  · refine au_done1 rfl ?_
    exact fun w hw => ⟨(), by rw [idxM_none fun j hj => hp j (by omega)], hw⟩
theorem TstN.cons {w0 : World} {cs : List Chunk} {g : Nat} {capd : List Value} {p : ND → Bool} {l : List ND} (h : TstN w0 cs g capd p l) (c : Chunk) : TstN w0 (c :: cs) g capd p l := fun ds s hs => by
  have := h (ds ++ [c]) s hs
  simpa using this
theorem filterN_step (p : ND → Bool) {l : List ND} {k : Nat} (hk : k < l.length) : (l.take (k + 1)).filter p = (l.take k).filter p ++ if p (l.getD k default) then [l.getD k default] else [] := by
  rw [take_step hk, List.filter_append]
  congr 1
  simp only [List.filter_cons, List.filter_nil]
set_option maxHeartbeats 2000000 in
theorem deleteFuncN_c (w0 : World) (cs : List Chunk) {r : Row} {l : List ND} (hlen : l.length ≤ 1000000) {g : Nat} {capd : List Value} {p : ND → Bool} (hg : TstN w0 cs g capd p l) [Fun_ Tryz.prog g] :
    Cal Tryz.prog 76 [r.v, .func (.func g) #[] capd.toArray] (Hp w0 (ndS r l :: cs)) (fun r' : Row => r'.v) (fun r' => Hp w0 (ndS r' (l.filter fun x => !p x) :: cs)) := by
  refine cal_of_tri Tryz.func76 rfl Tryz.ntmps76 rfl ?_
  (repeat (first | refine au_pure ?_ | refine au_pass ?_ | refine au_box (fun _ => ?_) | refine au_alloc (fun _ => ?_) | refine au_store ?_ | refine au_make rfl rfl (fun _ => ?_) | refine au_lit rfl rfl rfl (fun _ => ?_) | refine au_append rfl rfl rfl rfl (fun _ => au_norm ?_) | refine au_storeE rfl rfl rfl rfl ?_ | refine tri_seq ?_ | refine tri_then ?_ | refine tri_region ?_ | refine tri_nil ?_ | refine tri_skip ?_ | refine tri_ret ?_ | refine tri_exit ?_ | refine tri_thenr ?_ | refine tri_thene ?_ | refine tri_blkn ?_ | refine tri_blkr ?_ | refine tri_blke ?_ | refine tri_blko (by rfl) ?_ | refine tri_if_t (by rfl) ?_ | refine tri_if_f (by rfl) ?_ | fail))
  refine au_callC rfl rfl rfl rfl rfl (indexFuncN_c w0 _ (l := l) (by repeat (first | assumption | exact rd_chunk (by first | (apply has_at; (repeat (first | exact at0 | apply atS)); done) | (repeat (first | assumption | apply has_cons))) | apply RdH.cons | refine RdH.cut ?_ rfl (by omega) (by omega))) (by omega) (hg.cons _)) (fun _ => ?_)
  cases ha : l.any p
  · have hi : idxM p l = -1 := by unfold idxM; rw [ha]; rfl
    rw [hi]
    (repeat (first | refine au_pure ?_ | refine au_pass ?_ | refine au_box (fun _ => ?_) | refine au_alloc (fun _ => ?_) | refine au_store ?_ | refine au_make rfl rfl (fun _ => ?_) | refine au_lit rfl rfl rfl (fun _ => ?_) | refine au_append rfl rfl rfl rfl (fun _ => au_norm ?_) | refine au_storeE rfl rfl rfl rfl ?_ | refine tri_seq ?_ | refine tri_then ?_ | refine tri_region ?_ | refine tri_nil ?_ | refine tri_skip ?_ | refine tri_ret ?_ | refine tri_exit ?_ | refine tri_thenr ?_ | refine tri_thene ?_ | refine tri_blkn ?_ | refine tri_blkr ?_ | refine tri_blke ?_ | refine tri_blko (by rfl) ?_ | refine tri_if_t (by rfl) ?_ | refine tri_if_f (by rfl) ?_ | fail))
    refine au_done1 rfl ?_
    intro w hw
    have hf : (l.filter fun x => !p x) = l := by
      rw [List.filter_eq_self]
      intro x hx
      rw [List.any_eq_false] at ha
      simpa using ha x hx
    exact ⟨r, rfl, by rw [hf]; exact hw⟩
  · obtain ⟨h1, h2⟩ := idxM_lt ha
    obtain ⟨k0, hk0⟩ : ∃ k0 : Nat, idxM p l = (k0 : Int) := ⟨(idxM p l).toNat, by omega⟩
    have hk1 : k0 < l.length := by omega
    have hk2 : p (l.getD k0 default) = true := by have := idxM_at ha; rwa [hk0] at this
    have hk3 : ∀ j, j < k0 → p (l.getD j default) = false := fun j hj => by
      have he : l.findIdx p = k0 := by
        have : idxM p l = (l.findIdx p : Int) := by unfold idxM; rw [ha]; rfl
        omega
      rw [getD_get (by omega)]
      have := List.not_of_lt_findIdx (p := p) (xs := l) (i := j) (by omega)
      simpa using this
    rw [hk0]
    (repeat' (first | refine au_pure ?_ | refine au_pass ?_ | refine au_box (fun _ => ?_) | refine au_alloc (fun _ => ?_) | refine au_store ?_ | refine au_make rfl rfl (fun _ => ?_) | refine au_lit rfl rfl rfl (fun _ => ?_) | refine au_append rfl rfl rfl rfl (fun _ => au_norm ?_) | refine au_storeE rfl rfl rfl rfl ?_ | refine tri_seq ?_ | refine tri_then ?_ | refine tri_region ?_ | refine tri_nil ?_ | refine tri_skip ?_ | refine tri_ret ?_ | refine tri_exit ?_ | refine tri_thenr ?_ | refine tri_thene ?_ | refine tri_blkn ?_ | refine tri_blkr ?_ | refine tri_blke ?_ | refine tri_blko (by rfl) ?_ | refine tri_if_t (by rfl) ?_ | refine tri_if_f (by rfl) ?_ | ((first | refine tri_cond (by rfl) (fun hc => ?_) (fun hc => ?_) | refine tri_gsplit (by rfl) (by rfl) (by (fail_if_success exact (rfl : _ = some (Value.bool true))); (fail_if_success exact (rfl : _ = some (Value.bool false))); rfl) (fun hc => ?_) (fun hc => ?_)) <;> (try simp only [decide_eq_true_eq, decide_eq_false_iff_not, beq_iff_eq, bne_iff_ne, ne_eq, Bool.not_eq_true', Bool.not_eq_false', beq_eq_false_iff_ne, bne_eq_false_iff_eq, Int.not_lt, Int.not_le, gt_iff_lt, ge_iff_le, Bool.and_eq_true, Bool.or_eq_true, Bool.and_eq_false_iff, Bool.or_eq_false_iff, Decidable.not_not, not_true_eq_false, not_false_eq_true, and_true, true_and, or_false, false_or, or_true, true_or, and_false, false_and, eq_self, Bool.true_eq_false, Bool.false_eq_true] at hc) <;> (try (exfalso; omega))) | fail))
    refine tri_block ?_
    refine tri_loop3 (fun i j m => i < j ∧ j ≤ l.length ∧ (m : List ND).length = l.length ∧ m.take i = (l.take j).filter (fun x => !p x) ∧ ∀ k, j ≤ k → m.getD k default = l.getD k default) (fun i j m => [(0, r.v), (1, .func (.func g) #[] capd.toArray), (5, .int .i64 (i : Int)), (6, .int .i64 (j : Int))])
      (fun i j m => Hp w0 (ndS r m :: cs)) (fun i j m => l.length - j) k0 (k0 + 1) l ⟨by omega, by omega, rfl, ?_, fun _ _ => rfl⟩ (by repeat (first | exact trivial | refine ⟨rfl, ?_⟩)) (fun _ h => h) ?_
    · rw [filterN_step _ hk1, hk2]
      simp only [Bool.not_true, Bool.false_eq_true, if_false, List.append_nil]
      symm
      rw [List.filter_eq_self]
      intro x hx
      obtain ⟨j, hj, rfl⟩ := List.getElem_of_mem hx
      have := hk3 j (by rw [List.length_take] at hj; omega)
      rw [getD_get (by rw [List.length_take] at hj; omega)] at this
      simp [List.getElem_take, this]
    rintro i j m ⟨h1, h2, h3, h4, h5⟩
    (repeat' (first | refine au_pure ?_ | refine au_pass ?_ | refine au_box (fun _ => ?_) | refine au_alloc (fun _ => ?_) | refine au_store ?_ | refine au_make rfl rfl (fun _ => ?_) | refine au_lit rfl rfl rfl (fun _ => ?_) | refine au_append rfl rfl rfl rfl (fun _ => au_norm ?_) | refine au_storeE rfl rfl rfl rfl ?_ | refine tri_seq ?_ | refine tri_then ?_ | refine tri_region ?_ | refine tri_nil ?_ | refine tri_skip ?_ | refine tri_ret ?_ | refine tri_exit ?_ | refine tri_thenr ?_ | refine tri_thene ?_ | refine tri_blkn ?_ | refine tri_blkr ?_ | refine tri_blke ?_ | refine tri_blko (by rfl) ?_ | refine tri_if_t (by rfl) ?_ | refine tri_if_f (by rfl) ?_ | ((first | refine tri_cond (by rfl) (fun hc => ?_) (fun hc => ?_) | refine tri_gsplit (by rfl) (by rfl) (by (fail_if_success exact (rfl : _ = some (Value.bool true))); (fail_if_success exact (rfl : _ = some (Value.bool false))); rfl) (fun hc => ?_) (fun hc => ?_)) <;> (try simp only [decide_eq_true_eq, decide_eq_false_iff_not, beq_iff_eq, bne_iff_ne, ne_eq, Bool.not_eq_true', Bool.not_eq_false', beq_eq_false_iff_ne, bne_eq_false_iff_eq, Int.not_lt, Int.not_le, gt_iff_lt, ge_iff_le, Bool.and_eq_true, Bool.or_eq_true, Bool.and_eq_false_iff, Bool.or_eq_false_iff, Decidable.not_not, not_true_eq_false, not_false_eq_true, and_true, true_and, or_false, false_or, or_true, true_or, and_false, false_and, eq_self, Bool.true_eq_false, Bool.false_eq_true] at hc) <;> (try (exfalso; omega))) | fail))
    · refine tri_block ?_
      have h6 : m.getD j default = l.getD j default := h5 j (Nat.le_refl _)
      have hmem : m.getD j default ∈ l := by rw [h6]; exact mem_getD' (by omega)
      (repeat (first | refine au_pure ?_ | refine au_pass ?_ | refine au_box (fun _ => ?_) | refine au_alloc (fun _ => ?_) | refine au_store ?_ | refine au_make rfl rfl (fun _ => ?_) | refine au_lit rfl rfl rfl (fun _ => ?_) | refine au_append rfl rfl rfl rfl (fun _ => au_norm ?_) | refine au_storeE rfl rfl rfl rfl ?_ | refine tri_seq ?_ | refine tri_then ?_ | refine tri_region ?_ | refine tri_nil ?_ | refine tri_skip ?_ | refine tri_ret ?_ | refine tri_exit ?_ | refine tri_thenr ?_ | refine tri_thene ?_ | refine tri_blkn ?_ | refine tri_blkr ?_ | refine tri_blke ?_ | refine tri_blko (by rfl) ?_ | refine tri_if_t (by rfl) ?_ | refine tri_if_f (by rfl) ?_ | fail))
      refine au_callC rfl rfl rfl rfl rfl (hg [_, _] (m.getD j default) hmem) (fun _ => ?_)
      (repeat' (first | refine au_pure ?_ | refine au_pass ?_ | refine au_box (fun _ => ?_) | refine au_alloc (fun _ => ?_) | refine au_store ?_ | refine au_make rfl rfl (fun _ => ?_) | refine au_lit rfl rfl rfl (fun _ => ?_) | refine au_append rfl rfl rfl rfl (fun _ => au_norm ?_) | refine au_storeE rfl rfl rfl rfl ?_ | refine tri_seq ?_ | refine tri_then ?_ | refine tri_region ?_ | refine tri_nil ?_ | refine tri_skip ?_ | refine tri_ret ?_ | refine tri_exit ?_ | refine tri_thenr ?_ | refine tri_thene ?_ | refine tri_blkn ?_ | refine tri_blkr ?_ | refine tri_blke ?_ | refine tri_blko (by rfl) ?_ | refine tri_if_t (by rfl) ?_ | refine tri_if_f (by rfl) ?_ | ((first | refine tri_cond (by rfl) (fun hc => ?_) (fun hc => ?_) | refine tri_gsplit (by rfl) (by rfl) (by (fail_if_success exact (rfl : _ = some (Value.bool true))); (fail_if_success exact (rfl : _ = some (Value.bool false))); rfl) (fun hc => ?_) (fun hc => ?_)) <;> (try simp only [decide_eq_true_eq, decide_eq_false_iff_not, beq_iff_eq, bne_iff_ne, ne_eq, Bool.not_eq_true', Bool.not_eq_false', beq_eq_false_iff_ne, bne_eq_false_iff_eq, Int.not_lt, Int.not_le, gt_iff_lt, ge_iff_le, Bool.and_eq_true, Bool.or_eq_true, Bool.and_eq_false_iff, Bool.or_eq_false_iff, Decidable.not_not, not_true_eq_false, not_false_eq_true, and_true, true_and, or_false, false_or, or_true, true_or, and_false, false_and, eq_self, Bool.true_eq_false, Bool.false_eq_true] at hc) <;> (try (exfalso; omega))) | fail))
      · have hp : p (m.getD j default) = false := by assumption
        refine tri_nx3 (i + 1) (j + 1) (m.set i (m.getD j default)) (by omega) ⟨by omega, by omega, by rw [List.length_set]; exact h3, ?_, fun k hk => ?_⟩ (by repeat (first | exact trivial | refine ⟨rfl, ?_⟩)) (fun _ h => by rw [← nd_dec (m.getD j default)]; exact h.sub (by repeat (first | exact List.Sublist.refl _ | assumption | apply List.Sublist.cons_cons | apply List.Sublist.cons)))
        · rw [filterN_step _ (by omega), ← h4, ← h6, hp]
          rw [take_step (by rw [List.length_set]; omega), getD_set_self (by omega), List.take_set_of_le (Nat.le_refl _)]
          rfl
        · rw [getD_set k (by omega), if_neg (by omega)]
          exact h5 k (by omega)
      · have hp : p (m.getD j default) = true := by assumption
        refine tri_nx3 i (j + 1) m (by omega) ⟨by omega, by omega, h3, ?_, fun k hk => h5 k (by omega)⟩ (by repeat (first | exact trivial | refine ⟨rfl, ?_⟩)) (fun _ h => h.sub (by repeat (first | exact List.Sublist.refl _ | assumption | apply List.Sublist.cons_cons | apply List.Sublist.cons)))
        rw [filterN_step _ (by omega), ← h4, ← h6, hp]
        simp
    · have hj : j = l.length := by omega
      subst hj
      rw [List.take_length] at h4
      (repeat (first | refine au_pure ?_ | refine au_pass ?_ | refine au_box (fun _ => ?_) | refine au_alloc (fun _ => ?_) | refine au_store ?_ | refine au_make rfl rfl (fun _ => ?_) | refine au_lit rfl rfl rfl (fun _ => ?_) | refine au_append rfl rfl rfl rfl (fun _ => au_norm ?_) | refine au_storeE rfl rfl rfl rfl ?_ | refine tri_seq ?_ | refine tri_then ?_ | refine tri_region ?_ | refine tri_nil ?_ | refine tri_skip ?_ | refine tri_ret ?_ | refine tri_exit ?_ | refine tri_thenr ?_ | refine tri_thene ?_ | refine tri_blkn ?_ | refine tri_blkr ?_ | refine tri_blke ?_ | refine tri_blko (by rfl) ?_ | refine tri_if_t (by rfl) ?_ | refine tri_if_f (by rfl) ?_ | fail))
      have hl' : (m.take i ++ List.replicate (m.length - i) (default : ND)).length = m.length := by simp; omega
      refine tri_clear rfl (by first | exact wan_plain rfl | exact wan_yes rfl rfl rfl) rfl rfl (by repeat (first | exact at0 | apply atS)) rfl rfl (by omega) (by repeat (first | exact nf0 rfl | apply nfS rfl | exact nfR)) ?_
      (repeat (first | refine au_pure ?_ | refine au_pass ?_ | refine au_box (fun _ => ?_) | refine au_alloc (fun _ => ?_) | refine au_store ?_ | refine au_make rfl rfl (fun _ => ?_) | refine au_lit rfl rfl rfl (fun _ => ?_) | refine au_append rfl rfl rfl rfl (fun _ => au_norm ?_) | refine au_storeE rfl rfl rfl rfl ?_ | refine tri_seq ?_ | refine tri_then ?_ | refine tri_region ?_ | refine tri_nil ?_ | refine tri_skip ?_ | refine tri_ret ?_ | refine tri_exit ?_ | refine tri_thenr ?_ | refine tri_thene ?_ | refine tri_blkn ?_ | refine tri_blkr ?_ | refine tri_blke ?_ | refine tri_blko (by rfl) ?_ | refine tri_if_t (by rfl) ?_ | refine tri_if_f (by rfl) ?_ | fail))
      refine tri_recut (a := 0) (b := i) at0 (by omega) (by simp; omega) (by repeat (first | exact nf0 rfl | apply nfS rfl | exact nfR)) ?_
      refine au_done1 rfl ?_
      intro w hw
      refine ⟨r.cut 0 i 3, rfl, ?_⟩
      have e : ((m.take i ++ List.replicate (m.length - i) default).take i).drop 0 = l.filter fun x => !p x := by
        rw [List.drop_zero, List.take_append_of_le_length (by simp; omega), List.take_take, Nat.min_self, h4]
      rw [← e]
      exact hw
end Go.Proofs.YtbgjelhefhcnpaaGreat

/- Equality of a table's words. No conditions. -/
set_option linter.unusedSimpArgs false
set_option linter.unusedVariables false
namespace Go.Proofs.YtbgjelhefhcnpaaGreat
open Go Go.RowKit
theorem bld_array {P : Program} {t m e sz : Nat} {z : Array Value} (hu : P.underlying t = some (.array m e)) (hz : ∀ w, (zeroValue t).run P w = .ok (.agg z) w) (hs : ∀ w, (sizeOf e).run P w = .ok sz w) : Bld P t z.toList (placesL sz m 0) := ⟨fun w parts l h => by
  have hf := fill_of (placesL sz m 0) parts z l (by simpa using h)
  have hf2 := fill_more (q := fun i => some (i * sz, sz)) _ _ _ (fun i x hx => by
    have hx' : (placesL sz m 0)[i]? = some x := by simpa using hx
    rw [places_get] at hx'
    split at hx'
    · rw [Nat.zero_add] at hx'; exact hx'
    · cases hx') hf
  simp [Instr.build, hz, run_underlying hu, hs, Value.cells, hf2]⟩
instance : Bld Tryz.prog 87 [.int .u64 0, .int .u64 0, .int .u64 0, .int .u64 0, .int .u64 0, .int .u64 0, .int .u64 0, .int .u64 0] (placesL 1 8 0) := bld_array Tryz.underlying87 Tryz.zeroValue87 Tryz.sizeOf58
set_option maxHeartbeats 4000000 in
theorem eq8 (a0 a1 a2 a3 a4 a5 a6 a7 b0 b1 b2 b3 b4 b5 b6 b7 : Int) (w : World) : (Op.equalIn 10000 87 (.agg #[.int .u64 a0, .int .u64 a1, .int .u64 a2, .int .u64 a3, .int .u64 a4, .int .u64 a5, .int .u64 a6, .int .u64 a7]) (.agg #[.int .u64 b0, .int .u64 b1, .int .u64 b2, .int .u64 b3, .int .u64 b4, .int .u64 b5, .int .u64 b6, .int .u64 b7])).run Tryz.prog w = .ok (a0 == b0 && (a1 == b1 && (a2 == b2 && (a3 == b3 && (a4 == b4 && (a5 == b5 && (a6 == b6 && (a7 == b7)))))))) w := by
  have uu3 := Tryz.underlying58
  have aa3 := Tryz.isAgg58
  have zz3 := Tryz.sizeOf58
  rw [show (10000 : Nat) = 9999 + 1 from rfl, Op.equalIn]
  simp only [Sem.run_bind, run_underlying Tryz.underlying87, Result.andThen_ok]
  simp only [Std.Legacy.Range.forIn_eq_forIn_range', Std.Legacy.Range.size, Nat.sub_zero, Nat.add_sub_cancel, Nat.div_one, List.range'_succ, List.range'_zero, List.forIn_cons, List.forIn_nil]
  go_simp
  by_cases h0 : a0 = b0
  case neg => simp [h0]
  by_cases h1 : a1 = b1
  case neg => simp [h0, h1]
  by_cases h2 : a2 = b2
  case neg => simp [h0, h1, h2]
  by_cases h3 : a3 = b3
  case neg => simp [h0, h1, h2, h3]
  by_cases h4 : a4 = b4
  case neg => simp [h0, h1, h2, h3, h4]
  by_cases h5 : a5 = b5
  case neg => simp [h0, h1, h2, h3, h4, h5]
  by_cases h6 : a6 = b6
  case neg => simp [h0, h1, h2, h3, h4, h5, h6]
  by_cases h7 : a7 = b7
  case neg => simp [h0, h1, h2, h3, h4, h5, h6, h7]
  simp [h0, h1, h2, h3, h4, h5, h6, h7]
instance (a0 a1 a2 a3 a4 a5 a6 a7 b0 b1 b2 b3 b4 b5 b6 b7 : Int) : Neq_ Tryz.prog 87 (.agg #[.int .u64 a0, .int .u64 a1, .int .u64 a2, .int .u64 a3, .int .u64 a4, .int .u64 a5, .int .u64 a6, .int .u64 a7]) (.agg #[.int .u64 b0, .int .u64 b1, .int .u64 b2, .int .u64 b3, .int .u64 b4, .int .u64 b5, .int .u64 b6, .int .u64 b7]) (!(a0 == b0 && (a1 == b1 && (a2 == b2 && (a3 == b3 && (a4 == b4 && (a5 == b5 && (a6 == b6 && (a7 == b7))))))))) := ⟨fun w p q => by simp [go_sem], fun w => by
  rw [run_neq_struct, eq8]; rfl⟩
end Go.Proofs.YtbgjelhefhcnpaaGreat

/- The built-in copy into a row of the call's own. No conditions. -/
set_option linter.unusedSimpArgs false
set_option linter.unusedVariables false
namespace Go.Proofs.YtbgjelhefhcnpaaGreat
open Go Go.RowKit
section
variable {M : List Nat} {P : Program} {n d : Nat} {Q : Exit → Act → World → Prop} {ops rest : List Oper} {o : Oper} {E : Env} {w0 w : World} {cs : List Chunk} {x y : Operand} {t e sz : Nat} {z : Value} {α : Type} [Enc α] {l : List α} {r : Row}
/-- A value that shows the row from element a on. -/
def Shows (r : Row) (N a sz : Nat) (v : Value) : Prop := r.len = N → ∃ A c, v = .slice A (N - a) c ∧ ∀ g o, r.A = some ⟨g, o, none⟩ → a < r.cap → A = some ⟨g, o + a * sz, none⟩
theorem shows_row {N : Nat} : Shows r N 0 sz r.v := fun h => ⟨r.A, r.cap, by rw [Row.v, h]; rfl, fun g o hA _ => by rw [hA]; simp⟩
theorem shows_cut {N a : Nat} : Shows r N a sz (cut r.v a N sz) := fun h => ⟨_, _, rfl, fun g o hA ha => by
  rw [if_neg (by omega), hA]
  simp only [Option.map_some, add_lit]⟩
omit [Enc α] in
theorem take_drop_set {l l2 : List α} {a : Nat} (h : a ≤ l.length) : l.take a ++ (l2.take 0 ++ l.drop (a + 0)) = l := by simp
theorem tri_copy [Dl] {i a k t2 : Nat} {v1 v2 : Value} {l2 : List α} {cs' : List Chunk} [hS : SlTy P t e sz z] (hd : o.dst = some d) (hn : Nat.blt d n = true) (hw : Wan ops n o E true) (ho : o.op = .call { callee := .builtin .copy, args := #[x, y], argTypes := #[t, t2] })
    (hx : ev E x = some v1) (hv1 : Shows r l.length a sz v1) (hy : ev E y = some v2) (h2 : RdH (HpM M w0 cs) v2 l2) (hi : At cs i (slC r e l)) (hs : Enc.sz α = sz) (hal : a ≤ l.length) (hk : k = min l2.length (l.length - a)) (hcs : Nf (cs.set i (slC r e (l.take a ++ (l2.take k ++ l.drop (a + k))))) cs')
    (kk : Tri n (wpList P ops.toArray Q rest) ((d, .int .i64 (k : Int)) :: E) (HpM M w0 cs')) : Tri n (wpList P ops.toArray Q (o :: rest)) E (HpM M w0 cs) := by
  subst hcs
  subst hs
  intro b w hb hH
  refine wpList_want (hw b hb) ?_
  unfold Oper.wp
  obtain ⟨q1, q2, q3, g4⟩ := hH.at_ i _ hi
  have hlen := Own.len g4
  obtain ⟨A, c, rfl, hA⟩ := hv1 hlen
  have hR := h2 w hH
  obtain ⟨A2, c2, rfl, f1, f2, f3⟩ := hR.form
  obtain ⟨ti, hti, hz, hsz, _, hzs⟩ := hS.get
  have hkl : (encs (l2.take k)).length = k * Enc.sz α := by rw [length_encs, List.length_take]; congr 1; omega
  by_cases hk0 : k = 0
  · subst hk0
    have hld : ∀ a2, (loadCells a2 0).run P w = .ok #[] w := fun a2 => by
      have := run_loadCells_list (P := P) w a2 ([] : List Value) (fun j v hj => by simp at hj)
      simpa using this
    have hr : (execOp b.eval o).run P w = .ok (.value (.int .i64 0)) w := by
      simp only [execOp, ho, resolve, invoke, builtin, Sem.run_bind, Sem.run_pure, Result.andThen_ok, List.map_toArray, List.map_cons, List.map_nil, hb.ev hx, hb.ev hy]
      have hmin : Nat.min l2.length (l.length - a) = 0 := hk.symm
      cases A2 <;> cases A <;> simp [Builtin.copy_, run_underlying hS.und, Builtin.lenOf, Builtin.firstCells, sizeOf, typeInfo, hti, hmin, hld, storeCells, goInt]
    rw [hr, Oper.upon_value, hd]
    rw [take_drop_set hal] at kk
    have hcs : cs.set i (slC r e l) = cs := by
      apply List.ext_getElem?
      intro j
      by_cases h : i = j
      · subst h
        have : cs[i]? = some (slC r e l) := hi
        rw [List.getElem?_set_self (List.getElem?_eq_some_iff.1 this).1, this]
      · rw [List.getElem?_set_ne h]
    rw [hcs] at kk
    exact kk _ _ (hb.put hn _) hH
  · rcases g4.row with ⟨_, h4, _⟩ | ⟨g, o', cur, h3, h4, h5, h6, h7, h8⟩
    · omega
    · have hne : l2 ≠ [] := fun e => by rw [e] at hk; simp at hk; omega
      have hA2 := f3 hne
      have hA1 := hA g o' h3 (by have := g4.lec; omega)
      subst hA1
      have hcap : l.length * Enc.sz α ≤ r.cap * Enc.sz α := Nat.mul_le_mul_right _ (by rw [← hlen]; exact g4.lec)
      have hak : (a + k) * Enc.sz α ≤ l.length * Enc.sz α := Nat.mul_le_mul_right _ (by omega)
      rw [Nat.add_mul] at hak
      obtain ⟨ad, had⟩ : ∃ ad, ad = (⟨bk (.slice A2 l2.length c2), of (.slice A2 l2.length c2), none⟩ : Addr) := ⟨_, rfl⟩
      rw [← had] at hA2
      have hsrc : ∀ j v, (encs (l2.take k))[j]? = some v → w.cell? (ad.add j) = some v := fun j v hj => by
        rw [had, add_lit]
        refine hR.cells ?_
        rw [← encs_take, List.getElem?_take] at hj
        split at hj
        · exact hj
        · cases hj
      have hld := run_loadCells_list (P := P) w _ _ hsrc
      clear had f3
      subst hA2
      rw [hkl] at hld
      have hst := run_storeCells_at (P := P) g (o' + a * Enc.sz α) e (encs (l2.take k)) 0 cur w h6 (by rw [hkl]; omega) (one_encs _)
      have hr : (execOp b.eval o).run P w = .ok (.value (.int .i64 (k : Int))) (w.setRow g (cur.toList.take (o' + a * Enc.sz α + 0) ++ encs (l2.take k) ++ cur.toList.drop (o' + a * Enc.sz α + 0 + (encs (l2.take k)).length)).toArray) := by
        simp only [execOp, ho, resolve, invoke, builtin, Sem.run_bind, Sem.run_pure, Result.andThen_ok, List.map_toArray, List.map_cons, List.map_nil, hb.ev hx, hb.ev hy]
        have hmin : Nat.min l2.length (l.length - a) = k := hk.symm
        simp [Builtin.copy_, run_underlying hS.und, Builtin.lenOf, Builtin.firstCells, sizeOf, typeInfo, hti, hmin, hsz, hld, hst, goInt]
      rw [hr, Oper.upon_value, hd]
      refine kk _ _ (hb.put hn _) ((show HpM M w0 cs w from hH).set hi ⟨rfl, rfl, rfl, by simp [World.setRow]⟩ (fun b' _ hb' => setRow_other w g b' _ ?_) (.inl ⟨rfl, rfl⟩) (by have q3' : r.hi ≤ w.heap.size := q3; show r.hi ≤ _; simpa [World.setRow] using q3') ?_)
      · have : b' < r.lo ∨ r.hi ≤ b' := hb'
        omega
      · have hnl : (l.take a ++ (l2.take k ++ l.drop (a + k))).length = l.length := by simp; omega
        have hal3 : cur.toList.length = cur.size := by simp
        have hall : cur.toList = cur.toList.take o' ++ (encs l ++ (cur.toList.drop o').drop (r.len * Enc.sz α)) := by
          rw [← h8, List.take_append_drop, List.take_append_drop]
        have ht : (cur.toList.take o').length = o' := by rw [List.length_take]; omega
        have hel : (encs l).length = l.length * Enc.sz α := length_encs l
        have ht1 : cur.toList.take (o' + a * Enc.sz α + 0) = cur.toList.take o' ++ encs (l.take a) := by
          conv => lhs; rw [hall]
          rw [List.take_append, ht, List.take_of_length_le (by rw [ht]; omega), show o' + a * Enc.sz α + 0 - o' = a * Enc.sz α by omega, List.take_append_of_le_length (by omega), encs_take]
        have hd1 : cur.toList.drop (o' + a * Enc.sz α + 0 + (encs (l2.take k)).length) = encs (l.drop (a + k)) ++ (cur.toList.drop o').drop (r.len * Enc.sz α) := by
          conv => lhs; rw [hall]
          rw [hkl, List.drop_append, ht, List.drop_of_length_le (by rw [ht]; omega), List.nil_append, show o' + a * Enc.sz α + 0 + k * Enc.sz α - o' = (a + k) * Enc.sz α by rw [Nat.add_mul]; omega,
            List.drop_append_of_le_length (by rw [hel, Nat.add_mul]; omega), encs_drop]
        have hnew : cur.toList.take (o' + a * Enc.sz α + 0) ++ encs (l2.take k) ++ cur.toList.drop (o' + a * Enc.sz α + 0 + (encs (l2.take k)).length)
            = cur.toList.take o' ++ (encs (l.take a ++ (l2.take k ++ l.drop (a + k))) ++ (cur.toList.drop o').drop (r.len * Enc.sz α)) := by
          rw [ht1, hd1, encs_append, encs_append]; simp only [List.append_assoc]
        refine ⟨by rw [hnl]; exact hlen, g4.lec, g4.cap, .inr ⟨g, o', _, h3, h4, h5, setRow_heap w g _ _ e _ h6, ?_, ?_⟩⟩
        · simp only [List.size_toArray, List.length_append, List.length_take, List.length_drop, hkl]
          omega
        · simp only
          rw [hnew, List.drop_append_of_le_length (by omega), List.drop_of_length_le (by omega)]
          simp only [List.nil_append]
          have hlen2 : (encs (l.take a ++ (l2.take k ++ l.drop (a + k)))).length = r.len * Enc.sz α := by rw [length_encs, hnl, hlen]
          rw [← hlen2, List.take_left]
end
end Go.Proofs.YtbgjelhefhcnpaaGreat

/- append of a made slice to a nil one, cap. No conditions. -/
set_option linter.unusedSimpArgs false
set_option linter.unusedVariables false
namespace Go.Proofs.YtbgjelhefhcnpaaGreat
open Go Go.RowKit
section
variable {M : List Nat} {P : Program} {n d : Nat} {Q : Exit → Act → World → Prop} {ops rest : List Oper} {o : Oper} {E : Env} {H : World → Prop} {v : Value} {w0 w : World} {cs : List Chunk} {x y : Operand} {t t2 ty e sz : Nat} {z : Value} {α : Type} [Enc α] {l : List α} {r : Row}
theorem yl_cap [Dl] [hS : SlTy P t e sz z] {A : Option Addr} {k c : Nat} (ho : o.op = .call { callee := .builtin .cap, args := #[x], argTypes := #[t] }) (hx : ev E x = some (.slice A k c)) : Yl P n o E H (.int .i64 (c : Int)) := fun a w h1 h2 => by
  simp only [execOp, ho, resolve]
  simp [invoke, builtin, h1.ev hx, Builtin.cap_, run_underlying hS.und, goInt]
theorem own_ext {k : Nat} (hS : SlTy P t e sz z) (hU : P.underlying t2 = some (.int .i64)) (hs : Enc.sz α = sz) (ha : Enc.enc (default : α) = z.cells.toList) (h0 : 0 < k) (hk : k ≤ 34359738368) :
    ∃ r' w', (Builtin.append_ #[t, t2] ty #[.slice none 0 0, .int .i64 (k : Int)]).run P w = .ok r'.v w' ∧ Own w' r' e (List.replicate k (default : α)) ∧ w'.os = w.os ∧ w'.tape = w.tape ∧ w'.output = w.output ∧ r'.lo = w.heap.size ∧ r'.hi = w.heap.size + 1 ∧ w'.heap.size = w.heap.size + 1 ∧ (∀ b, b < w.heap.size → w'.heap[b]? = w.heap[b]?) := by
  obtain ⟨i, hi, hz, hsz, hby, hzs⟩ := hS.get
  have hp := Enc.pos (α := α)
  subst hs
  have hfit : Builtin.nextslicecap k 0 * i.bytes ≤ 281474976710656 := growslice_fits (by omega) (by
    have : k * i.bytes ≤ 34359738368 * 4096 := Nat.mul_le_mul (by omega) hby
    omega)
  have hge := grownCap_ge w k 0 e
  have hcm' : grownCap w k 0 e ≤ maxLen := grownCap_le_maxLen w k 0 e (by simp only [maxLen]; omega)
  have hz0 : ¬ Enc.sz α = 0 := by omega
  have hmc : (Builtin.zeroCells z.cells k).toList = encs (List.replicate k (default : α)) := by
    have := made_cells (default : α) z.cells.toList ha k
    rw [← this]
    have e1 : z.cells.toList.toArray = z.cells := by simp
    rw [e1, ← hzs]
    rfl
  have hlen : (encs (List.replicate k (default : α))).length = k * Enc.sz α := by rw [length_encs, List.length_replicate]
  refine ⟨⟨some ⟨w.heap.size, 0, none⟩, k, grownCap w k 0 e, w.heap.size, w.heap.size + 1⟩,
    w.drew.alloc (.cells (Builtin.zeroCells z.cells k ++ Builtin.zeroCells z.cells (grownCap w k 0 e - k)) e), ?_,
    ⟨by simp, hge, hcm', .inr ⟨w.heap.size, 0, _, rfl, Nat.le_refl _, Nat.lt_succ_self _, heap_alloc_new w.drew _, ?_, ?_⟩⟩, rfl, rfl, rfl, rfl, rfl, by simp, fun b hb' => by show (w.heap.push _)[b]? = _; rw [Array.getElem?_push, if_neg (Nat.ne_of_lt hb')]⟩
  · have hw1 : IntKind.i64.wrap (k : Int) = (k : Int) := wrap_i64 (by omega)
    have hb1 : ¬ (281474976710656 < (k : Int) * (i.bytes : Int)) := by
      have : k * i.bytes ≤ 34359738368 * 4096 := Nat.mul_le_mul (by omega) hby
      have h2 : ((k * i.bytes : Nat) : Int) ≤ 34359738368 * 4096 := by omega
      rw [Int.natCast_mul] at h2
      omega
    have hne : ¬ k = 0 := by omega
    have h63 : ¬ (9223372036854775807 < (k : Int)) := by omega
    have hnot' : ¬ (281474976710656 < Builtin.nextslicecap k 0 * i.bytes) := by omega
    have hneg : ¬ ((k : Int) < 0) := by omega
    simp [Builtin.append_, run_underlying hS.und, run_underlying hU, sizeOf, typeInfo, zeroValue, hi, hz, hsz, asInt, asIntOf, hw1, hb1, hneg, hne, hz0, h63, hnot', Question.forced, Builtin.firstCells, newRow, grownCap, Row.v]
    intro h
    rcases Nat.mul_eq_zero.1 h with h | h <;> omega
  · simp only [Array.size_append, size_zeroCells, hzs, Nat.zero_add]
    rw [← Nat.add_mul]
    exact Nat.mul_le_mul_right _ (by show grownCap w k 0 e ≤ _; omega)
  · simp only [Array.toList_append, List.drop_zero, hmc]
    rw [← hlen]
    exact List.take_left
theorem tri_ext [Dl] {k : Nat} [hS : SlTy P t e sz z] [hU : Und P t2 (.int .i64)] [ElT P e α] (hd : o.dst = some d) (hn : Nat.blt d n = true) (hw : Wan ops n o E true) (ho : o.op = .call { callee := .builtin .append, args := #[x, y], argTypes := #[t, t2] })
    (hx : ev E x = some (.slice none 0 0)) (hy : ev E y = some (.int .i64 (k : Int))) (hs : Enc.sz α = sz) (ha : Enc.enc (default : α) = z.cells.toList) (h0 : 0 < k) (hk : k ≤ 34359738368)
    (kk : ∀ r', Tri n (wpList P ops.toArray Q rest) ((d, r'.v) :: E) (HpM M w0 (slC r' e (List.replicate k (default : α)) :: cs))) : Tri n (wpList P ops.toArray Q (o :: rest)) E (HpM M w0 cs) := by
  intro a w h1 hh
  refine wpList_want (hw a h1) ?_
  unfold Oper.wp
  obtain ⟨r', w', hr, hown, g1, g2, g3, g4, g5, g6, g7⟩ := own_ext (P := P) (w := w) (ty := o.type) hS hU.eq hs ha h0 hk
  have : (execOp a.eval o).run P w = .ok (.value r'.v) w' := by
    simp only [execOp, ho, resolve, invoke, builtin, Sem.run_bind, Sem.run_pure, Result.andThen_ok, List.map_toArray, List.map_cons, List.map_nil, h1.ev hx, h1.ev hy, hr]
  rw [this, Oper.upon_value, hd]
  refine kk r' _ _ (h1.put hn _) (hh.push ⟨g1, g2, g3, by omega, g7⟩ ?_ ?_ ?_ hown)
  · show w.heap.size ≤ r'.lo; omega
  · show r'.lo ≤ r'.hi; omega
  · show r'.hi ≤ _; omega
end
end Go.Proofs.YtbgjelhefhcnpaaGreat
