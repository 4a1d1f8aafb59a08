/- The walks of package tlb: what it takes from the library. No conditions. -/
import Derived.Test.YtpcammiidklkhaaTlbWalks
import Derived.Test.YtpcammiidklkhaaClr
set_option linter.unusedSimpArgs false
set_option linter.unusedVariables false
namespace Go.Proofs.Ytpcammiidklkhaa
open Go Go.RowKit
attribute [local irreducible] Code.wp wpList bodyPost Exit.then Exit.inBlock Calls wpQuiet Tri TriQ
theorem mem_getD' {α : Type} [Inhabited α] {l : List α} {k : Nat} (h : k < l.length) : l.getD k default ∈ l := by rw [getD_get h]; exact List.getElem_mem h
theorem has_app {c : Chunk} {cs ds : List Chunk} (h : Has cs c) : Has (ds ++ cs) c := by
  induction ds with
  | nil => exact h
  | cons d ds ih => exact has_cons ih
theorem calr {P : Program} {f : Nat} {args : List Value} {H : World → Prop} {v : Value} (h : Cal P f args H (fun _ : Unit => v) (fun _ => H)) : ∀ w, H w → Calls P f args.toArray w fun e w' => e = .returned v ∧ H w' := fun w hw => (h w hw).mono fun _ _ ⟨_, h1, h2⟩ => ⟨h1, h2⟩
abbrev teS (r : Row) (l : List TE) : Chunk := slC r 42 l
def Tst (w0 : World) (cs : List Chunk) (g : Nat) (capd : List Value) (p : TE → Bool) (l : List TE) : Prop := ∀ ds s, s ∈ l → Cal Try.prog g ([.agg #[.int .i64 s.s, .int .i64 s.p, .int .u64 s.w]] ++ capd) (Hp w0 (ds ++ cs)) (fun _ : Unit => .bool (p s)) (fun _ => Hp w0 (ds ++ cs))
theorem indexFunc_c (w0 : World) (cs : List Chunk) {v : Value} {l : List TE} (hR : RdH (Hp w0 cs) v l) (hlen : l.length ≤ 9223372036854775807) {g : Nat} {capd : List Value} {p : TE → Bool} (hg : Tst w0 cs g capd p l) [Fun_ Try.prog g] :
    Cal Try.prog 48 [v, .func (.func g) #[] capd.toArray] (Hp w0 cs) (fun _ : Unit => .int .i64 (idxM p l)) (fun _ => Hp w0 cs) := by
  refine cal_of_tri Try.func48 rfl Try.ntmps48 rfl ?_
  (repeat (first | refine au_pure ?_ | refine au_pass ?_ | refine au_box (fun _ => ?_) | refine au_alloc (fun _ => ?_) | refine au_store ?_ | refine au_make rfl rfl (fun _ => ?_) | refine au_lit rfl rfl rfl (fun _ => ?_) | refine au_append rfl rfl rfl rfl (fun _ => au_norm ?_) | refine au_storeE rfl rfl rfl rfl ?_ | refine tri_seq ?_ | refine tri_then ?_ | refine tri_region ?_ | refine tri_nil ?_ | refine tri_skip ?_ | refine tri_ret ?_ | refine tri_exit ?_ | refine tri_thenr ?_ | refine tri_thene ?_ | refine tri_blkn ?_ | refine tri_blkr ?_ | refine tri_blke ?_ | refine tri_blko (by rfl) ?_ | refine tri_if_t (by rfl) ?_ | refine tri_if_f (by rfl) ?_ | fail))
  refine tri_block ?_
  refine tri_loop1 (fun k => k ≤ l.length ∧ ∀ j, j < k → p (l.getD j default) = false) (fun k => [(0, v), (1, .func (.func g) #[] capd.toArray), (7, .int .i64 (l.length : Int)), (8, .int .i64 (k : Int))]) (fun _ => Hp w0 cs) (fun k => l.length - k)
    0 ⟨by omega, fun j hj => by omega⟩ (by repeat (first | exact trivial | refine ⟨rfl, ?_⟩)) (fun _ h => h) ?_
  rintro k ⟨hk, hp⟩
  (repeat' (first | refine au_pure ?_ | refine au_pass ?_ | refine au_box (fun _ => ?_) | refine au_alloc (fun _ => ?_) | refine au_store ?_ | refine au_make rfl rfl (fun _ => ?_) | refine au_lit rfl rfl rfl (fun _ => ?_) | refine au_append rfl rfl rfl rfl (fun _ => au_norm ?_) | refine au_storeE rfl rfl rfl rfl ?_ | refine tri_seq ?_ | refine tri_then ?_ | refine tri_region ?_ | refine tri_nil ?_ | refine tri_skip ?_ | refine tri_ret ?_ | refine tri_exit ?_ | refine tri_thenr ?_ | refine tri_thene ?_ | refine tri_blkn ?_ | refine tri_blkr ?_ | refine tri_blke ?_ | refine tri_blko (by rfl) ?_ | refine tri_if_t (by rfl) ?_ | refine tri_if_f (by rfl) ?_ | ((first | refine tri_cond (by rfl) (fun hc => ?_) (fun hc => ?_) | refine tri_gsplit (by rfl) (by rfl) (by (fail_if_success exact (rfl : _ = some (Value.bool true))); (fail_if_success exact (rfl : _ = some (Value.bool false))); rfl) (fun hc => ?_) (fun hc => ?_)) <;> (try simp only [decide_eq_true_eq, decide_eq_false_iff_not, beq_iff_eq, bne_iff_ne, ne_eq, Bool.not_eq_true', Bool.not_eq_false', beq_eq_false_iff_ne, bne_eq_false_iff_eq, Int.not_lt, Int.not_le, gt_iff_lt, ge_iff_le, Bool.and_eq_true, Bool.or_eq_true, Bool.and_eq_false_iff, Bool.or_eq_false_iff, Decidable.not_not, not_true_eq_false, not_false_eq_true, and_true, true_and, or_false, false_or, or_true, true_or, and_false, false_and, eq_self, Bool.true_eq_false, Bool.false_eq_true] at hc) <;> (try (exfalso; omega))) | fail))
  · refine tri_block ?_
    (repeat (first | refine au_pure ?_ | refine au_pass ?_ | refine au_box (fun _ => ?_) | refine au_alloc (fun _ => ?_) | refine au_store ?_ | refine au_make rfl rfl (fun _ => ?_) | refine au_lit rfl rfl rfl (fun _ => ?_) | refine au_append rfl rfl rfl rfl (fun _ => au_norm ?_) | refine au_storeE rfl rfl rfl rfl ?_ | refine tri_seq ?_ | refine tri_then ?_ | refine tri_region ?_ | refine tri_nil ?_ | refine tri_skip ?_ | refine tri_ret ?_ | refine tri_exit ?_ | refine tri_thenr ?_ | refine tri_thene ?_ | refine tri_blkn ?_ | refine tri_blkr ?_ | refine tri_blke ?_ | refine tri_blko (by rfl) ?_ | refine tri_if_t (by rfl) ?_ | refine tri_if_f (by rfl) ?_ | fail))
    refine au_callC rfl rfl rfl rfl rfl (hg [] (l.getD k default) (mem_getD' (by omega))) (fun _ => ?_)
    (repeat' (first | refine au_pure ?_ | refine au_pass ?_ | refine au_box (fun _ => ?_) | refine au_alloc (fun _ => ?_) | refine au_store ?_ | refine au_make rfl rfl (fun _ => ?_) | refine au_lit rfl rfl rfl (fun _ => ?_) | refine au_append rfl rfl rfl rfl (fun _ => au_norm ?_) | refine au_storeE rfl rfl rfl rfl ?_ | refine tri_seq ?_ | refine tri_then ?_ | refine tri_region ?_ | refine tri_nil ?_ | refine tri_skip ?_ | refine tri_ret ?_ | refine tri_exit ?_ | refine tri_thenr ?_ | refine tri_thene ?_ | refine tri_blkn ?_ | refine tri_blkr ?_ | refine tri_blke ?_ | refine tri_blko (by rfl) ?_ | refine tri_if_t (by rfl) ?_ | refine tri_if_f (by rfl) ?_ | ((first | refine tri_cond (by rfl) (fun hc => ?_) (fun hc => ?_) | refine tri_gsplit (by rfl) (by rfl) (by (fail_if_success exact (rfl : _ = some (Value.bool true))); (fail_if_success exact (rfl : _ = some (Value.bool false))); rfl) (fun hc => ?_) (fun hc => ?_)) <;> (try simp only [decide_eq_true_eq, decide_eq_false_iff_not, beq_iff_eq, bne_iff_ne, ne_eq, Bool.not_eq_true', Bool.not_eq_false', beq_eq_false_iff_ne, bne_eq_false_iff_eq, Int.not_lt, Int.not_le, gt_iff_lt, ge_iff_le, Bool.and_eq_true, Bool.or_eq_true, Bool.and_eq_false_iff, Bool.or_eq_false_iff, Decidable.not_not, not_true_eq_false, not_false_eq_true, and_true, true_and, or_false, false_or, or_true, true_or, and_false, false_and, eq_self, Bool.true_eq_false, Bool.false_eq_true] at hc) <;> (try (exfalso; omega))) | fail))
    · refine au_done1 rfl ?_
      exact fun w hw => ⟨(), by rw [idxM_some (k := k) (by omega) (by assumption) hp], hw⟩
    · exact tri_nx1 (k + 1) (by omega) ⟨by omega, all_step hp (by assumption)⟩ (by repeat (first | exact trivial | refine ⟨rfl, ?_⟩)) (fun _ h => h)
  · refine au_done1 rfl ?_
    exact fun w hw => ⟨(), by rw [idxM_none fun j hj => hp j (by omega)], hw⟩
theorem containsFunc_c (w0 : World) (cs : List Chunk) {v : Value} {l : List TE} (hR : RdH (Hp w0 cs) v l) (hlen : l.length ≤ 9223372036854775807) {g : Nat} {capd : List Value} {p : TE → Bool} (hg : Tst w0 cs g capd p l) [Fun_ Try.prog g] :
    Cal Try.prog 32 [v, .func (.func g) #[] capd.toArray] (Hp w0 cs) (fun _ : Unit => .bool (l.any p)) (fun _ => Hp w0 cs) := by
  refine cal_of_tri Try.func32 rfl Try.ntmps32 rfl ?_
  (repeat (first | refine au_pure ?_ | refine au_pass ?_ | refine au_box (fun _ => ?_) | refine au_alloc (fun _ => ?_) | refine au_store ?_ | refine au_make rfl rfl (fun _ => ?_) | refine au_lit rfl rfl rfl (fun _ => ?_) | refine au_append rfl rfl rfl rfl (fun _ => au_norm ?_) | refine au_storeE rfl rfl rfl rfl ?_ | refine tri_seq ?_ | refine tri_then ?_ | refine tri_region ?_ | refine tri_nil ?_ | refine tri_skip ?_ | refine tri_ret ?_ | refine tri_exit ?_ | refine tri_thenr ?_ | refine tri_thene ?_ | refine tri_blkn ?_ | refine tri_blkr ?_ | refine tri_blke ?_ | refine tri_blko (by rfl) ?_ | refine tri_if_t (by rfl) ?_ | refine tri_if_f (by rfl) ?_ | fail))
  refine au_callC rfl rfl rfl rfl rfl (indexFunc_c w0 cs hR hlen hg) (fun _ => ?_)
  (repeat (first | refine au_pure ?_ | refine au_pass ?_ | refine au_box (fun _ => ?_) | refine au_alloc (fun _ => ?_) | refine au_store ?_ | refine au_make rfl rfl (fun _ => ?_) | refine au_lit rfl rfl rfl (fun _ => ?_) | refine au_append rfl rfl rfl rfl (fun _ => au_norm ?_) | refine au_storeE rfl rfl rfl rfl ?_ | refine tri_seq ?_ | refine tri_then ?_ | refine tri_region ?_ | refine tri_nil ?_ | refine tri_skip ?_ | refine tri_ret ?_ | refine tri_exit ?_ | refine tri_thenr ?_ | refine tri_thene ?_ | refine tri_blkn ?_ | refine tri_blkr ?_ | refine tri_blke ?_ | refine tri_blko (by rfl) ?_ | refine tri_if_t (by rfl) ?_ | refine tri_if_f (by rfl) ?_ | fail))
  refine au_done1 rfl ?_
  intro w hw; refine ⟨(), ?_, hw.sub (by repeat (first | exact List.Sublist.refl _ | assumption | apply List.Sublist.cons_cons | apply List.Sublist.cons))⟩
  rw [idxM_ge]
theorem clone_c (w0 : World) (cs : List Chunk) {v : Value} {l : List TE} (hR : RdH (Hp w0 cs) v l) (hlen : l.length ≤ 1000000) :
    Cal Try.prog 51 [v] (Hp w0 cs) (fun r : Row => r.v) (fun r => Hp w0 (slC r 42 l :: cs)) := by
  refine cal_of_tri Try.func51 rfl Try.ntmps51 rfl ?_
  (repeat' (first | refine au_pure ?_ | refine au_pass ?_ | refine au_box (fun _ => ?_) | refine au_alloc (fun _ => ?_) | refine au_store ?_ | refine au_make rfl rfl (fun _ => ?_) | refine au_lit rfl rfl rfl (fun _ => ?_) | refine au_append rfl rfl rfl rfl (fun _ => au_norm ?_) | refine au_storeE rfl rfl rfl rfl ?_ | refine tri_seq ?_ | refine tri_then ?_ | refine tri_region ?_ | refine tri_nil ?_ | refine tri_skip ?_ | refine tri_ret ?_ | refine tri_exit ?_ | refine tri_thenr ?_ | refine tri_thene ?_ | refine tri_blkn ?_ | refine tri_blkr ?_ | refine tri_blke ?_ | refine tri_blko (by rfl) ?_ | refine tri_if_t (by rfl) ?_ | refine tri_if_f (by rfl) ?_ | ((first | refine tri_cond (by rfl) (fun hc => ?_) (fun hc => ?_) | refine tri_gsplit (by rfl) (by rfl) (by (fail_if_success exact (rfl : _ = some (Value.bool true))); (fail_if_success exact (rfl : _ = some (Value.bool false))); rfl) (fun hc => ?_) (fun hc => ?_)) <;> (try simp only [decide_eq_true_eq, decide_eq_false_iff_not, beq_iff_eq, bne_iff_ne, ne_eq, Bool.not_eq_true', Bool.not_eq_false', beq_eq_false_iff_ne, bne_eq_false_iff_eq, Int.not_lt, Int.not_le, gt_iff_lt, ge_iff_le, Bool.and_eq_true, Bool.or_eq_true, Bool.and_eq_false_iff, Bool.or_eq_false_iff, Decidable.not_not, not_true_eq_false, not_false_eq_true, and_true, true_and, or_false, false_or, or_true, true_or, and_false, false_and, eq_self, Bool.true_eq_false, Bool.false_eq_true] at hc) <;> (try (exfalso; omega))) | fail))
  · refine tri_nilrow TE 42 ?_
    refine au_done1 rfl ?_
    intro w hw
    refine ⟨Row.nil w0.heap.size, rfl, ?_⟩
    have : l = [] := (hR w hw.tail).isNil hc
    exact this ▸ hw
  · refine au_done1 rfl ?_
    intro w hw
    exact ⟨_, rfl, hw⟩
theorem Tst.cons {w0 : World} {cs : List Chunk} {g : Nat} {capd : List Value} {p : TE → Bool} {l : List TE} (h : Tst w0 cs g capd p l) (c : Chunk) : Tst w0 (c :: cs) g capd p l := fun ds s hs => by
  have := h (ds ++ [c]) s hs
  simpa using this
theorem filter_step (p : TE → Bool) {l : List TE} {k : Nat} (hk : k < l.length) : (l.take (k + 1)).filter p = (l.take k).filter p ++ if p (l.getD k default) then [l.getD k default] else [] := by
  rw [take_step hk, List.filter_append]
  congr 1
  simp only [List.filter_cons, List.filter_nil]
set_option maxHeartbeats 2000000 in
theorem deleteFunc_c (w0 : World) (cs : List Chunk) {r : Row} {l : List TE} (hlen : l.length ≤ 1000000) {g : Nat} {capd : List Value} {p : TE → Bool} (hg : Tst w0 cs g capd p l) [Fun_ Try.prog g] :
    Cal Try.prog 50 [r.v, .func (.func g) #[] capd.toArray] (Hp w0 (teS r l :: cs)) (fun r' : Row => r'.v) (fun r' => Hp w0 (teS r' (l.filter fun x => !p x) :: cs)) := by
  refine cal_of_tri Try.func50 rfl Try.ntmps50 rfl ?_
  (repeat (first | refine au_pure ?_ | refine au_pass ?_ | refine au_box (fun _ => ?_) | refine au_alloc (fun _ => ?_) | refine au_store ?_ | refine au_make rfl rfl (fun _ => ?_) | refine au_lit rfl rfl rfl (fun _ => ?_) | refine au_append rfl rfl rfl rfl (fun _ => au_norm ?_) | refine au_storeE rfl rfl rfl rfl ?_ | refine tri_seq ?_ | refine tri_then ?_ | refine tri_region ?_ | refine tri_nil ?_ | refine tri_skip ?_ | refine tri_ret ?_ | refine tri_exit ?_ | refine tri_thenr ?_ | refine tri_thene ?_ | refine tri_blkn ?_ | refine tri_blkr ?_ | refine tri_blke ?_ | refine tri_blko (by rfl) ?_ | refine tri_if_t (by rfl) ?_ | refine tri_if_f (by rfl) ?_ | fail))
  refine au_callC rfl rfl rfl rfl rfl (indexFunc_c w0 _ (l := l) (by repeat (first | assumption | exact rd_chunk (by first | (apply has_at; (repeat (first | exact at0 | apply atS)); done) | (repeat (first | assumption | apply has_cons))) | apply RdH.cons | refine RdH.cut ?_ rfl (by omega) (by omega))) (by omega) (hg.cons _)) (fun _ => ?_)
  cases ha : l.any p
  · have hi : idxM p l = -1 := by unfold idxM; rw [ha]; rfl
    rw [hi]
    (repeat (first | refine au_pure ?_ | refine au_pass ?_ | refine au_box (fun _ => ?_) | refine au_alloc (fun _ => ?_) | refine au_store ?_ | refine au_make rfl rfl (fun _ => ?_) | refine au_lit rfl rfl rfl (fun _ => ?_) | refine au_append rfl rfl rfl rfl (fun _ => au_norm ?_) | refine au_storeE rfl rfl rfl rfl ?_ | refine tri_seq ?_ | refine tri_then ?_ | refine tri_region ?_ | refine tri_nil ?_ | refine tri_skip ?_ | refine tri_ret ?_ | refine tri_exit ?_ | refine tri_thenr ?_ | refine tri_thene ?_ | refine tri_blkn ?_ | refine tri_blkr ?_ | refine tri_blke ?_ | refine tri_blko (by rfl) ?_ | refine tri_if_t (by rfl) ?_ | refine tri_if_f (by rfl) ?_ | fail))
    refine au_done1 rfl ?_
    intro w hw
    have hf : (l.filter fun x => !p x) = l := by
      rw [List.filter_eq_self]
      intro x hx
      rw [List.any_eq_false] at ha
      simpa using ha x hx
    exact ⟨r, rfl, by rw [hf]; exact hw⟩
  · obtain ⟨h1, h2⟩ := idxM_lt ha
    obtain ⟨k0, hk0⟩ : ∃ k0 : Nat, idxM p l = (k0 : Int) := ⟨(idxM p l).toNat, by omega⟩
    have hk1 : k0 < l.length := by omega
    have hk2 : p (l.getD k0 default) = true := by have := idxM_at ha; rwa [hk0] at this
    have hk3 : ∀ j, j < k0 → p (l.getD j default) = false := fun j hj => by
      have he : l.findIdx p = k0 := by
        have : idxM p l = (l.findIdx p : Int) := by unfold idxM; rw [ha]; rfl
        omega
      rw [getD_get (by omega)]
      have := List.not_of_lt_findIdx (p := p) (xs := l) (i := j) (by omega)
      simpa using this
    rw [hk0]
    (repeat' (first | refine au_pure ?_ | refine au_pass ?_ | refine au_box (fun _ => ?_) | refine au_alloc (fun _ => ?_) | refine au_store ?_ | refine au_make rfl rfl (fun _ => ?_) | refine au_lit rfl rfl rfl (fun _ => ?_) | refine au_append rfl rfl rfl rfl (fun _ => au_norm ?_) | refine au_storeE rfl rfl rfl rfl ?_ | refine tri_seq ?_ | refine tri_then ?_ | refine tri_region ?_ | refine tri_nil ?_ | refine tri_skip ?_ | refine tri_ret ?_ | refine tri_exit ?_ | refine tri_thenr ?_ | refine tri_thene ?_ | refine tri_blkn ?_ | refine tri_blkr ?_ | refine tri_blke ?_ | refine tri_blko (by rfl) ?_ | refine tri_if_t (by rfl) ?_ | refine tri_if_f (by rfl) ?_ | ((first | refine tri_cond (by rfl) (fun hc => ?_) (fun hc => ?_) | refine tri_gsplit (by rfl) (by rfl) (by (fail_if_success exact (rfl : _ = some (Value.bool true))); (fail_if_success exact (rfl : _ = some (Value.bool false))); rfl) (fun hc => ?_) (fun hc => ?_)) <;> (try simp only [decide_eq_true_eq, decide_eq_false_iff_not, beq_iff_eq, bne_iff_ne, ne_eq, Bool.not_eq_true', Bool.not_eq_false', beq_eq_false_iff_ne, bne_eq_false_iff_eq, Int.not_lt, Int.not_le, gt_iff_lt, ge_iff_le, Bool.and_eq_true, Bool.or_eq_true, Bool.and_eq_false_iff, Bool.or_eq_false_iff, Decidable.not_not, not_true_eq_false, not_false_eq_true, and_true, true_and, or_false, false_or, or_true, true_or, and_false, false_and, eq_self, Bool.true_eq_false, Bool.false_eq_true] at hc) <;> (try (exfalso; omega))) | fail))
    refine tri_block ?_
    refine tri_loop3 (fun i j m => i < j ∧ j ≤ l.length ∧ (m : List TE).length = l.length ∧ m.take i = (l.take j).filter (fun x => !p x) ∧ ∀ k, j ≤ k → m.getD k default = l.getD k default) (fun i j m => [(0, r.v), (1, .func (.func g) #[] capd.toArray), (5, .int .i64 (i : Int)), (6, .int .i64 (j : Int))])
      (fun i j m => Hp w0 (teS r m :: cs)) (fun i j m => l.length - j) k0 (k0 + 1) l ⟨by omega, by omega, rfl, ?_, fun _ _ => rfl⟩ (by repeat (first | exact trivial | refine ⟨rfl, ?_⟩)) (fun _ h => h) ?_
    · rw [filter_step _ hk1, hk2]
      simp only [Bool.not_true, Bool.false_eq_true, if_false, List.append_nil]
      symm
      rw [List.filter_eq_self]
      intro x hx
      obtain ⟨j, hj, rfl⟩ := List.getElem_of_mem hx
      have := hk3 j (by rw [List.length_take] at hj; omega)
      rw [getD_get (by rw [List.length_take] at hj; omega)] at this
      simp [List.getElem_take, this]
    rintro i j m ⟨h1, h2, h3, h4, h5⟩
    (repeat' (first | refine au_pure ?_ | refine au_pass ?_ | refine au_box (fun _ => ?_) | refine au_alloc (fun _ => ?_) | refine au_store ?_ | refine au_make rfl rfl (fun _ => ?_) | refine au_lit rfl rfl rfl (fun _ => ?_) | refine au_append rfl rfl rfl rfl (fun _ => au_norm ?_) | refine au_storeE rfl rfl rfl rfl ?_ | refine tri_seq ?_ | refine tri_then ?_ | refine tri_region ?_ | refine tri_nil ?_ | refine tri_skip ?_ | refine tri_ret ?_ | refine tri_exit ?_ | refine tri_thenr ?_ | refine tri_thene ?_ | refine tri_blkn ?_ | refine tri_blkr ?_ | refine tri_blke ?_ | refine tri_blko (by rfl) ?_ | refine tri_if_t (by rfl) ?_ | refine tri_if_f (by rfl) ?_ | ((first | refine tri_cond (by rfl) (fun hc => ?_) (fun hc => ?_) | refine tri_gsplit (by rfl) (by rfl) (by (fail_if_success exact (rfl : _ = some (Value.bool true))); (fail_if_success exact (rfl : _ = some (Value.bool false))); rfl) (fun hc => ?_) (fun hc => ?_)) <;> (try simp only [decide_eq_true_eq, decide_eq_false_iff_not, beq_iff_eq, bne_iff_ne, ne_eq, Bool.not_eq_true', Bool.not_eq_false', beq_eq_false_iff_ne, bne_eq_false_iff_eq, Int.not_lt, Int.not_le, gt_iff_lt, ge_iff_le, Bool.and_eq_true, Bool.or_eq_true, Bool.and_eq_false_iff, Bool.or_eq_false_iff, Decidable.not_not, not_true_eq_false, not_false_eq_true, and_true, true_and, or_false, false_or, or_true, true_or, and_false, false_and, eq_self, Bool.true_eq_false, Bool.false_eq_true] at hc) <;> (try (exfalso; omega))) | fail))
    · refine tri_block ?_
      have h6 : m.getD j default = l.getD j default := h5 j (Nat.le_refl _)
      have hmem : m.getD j default ∈ l := by rw [h6]; exact mem_getD' (by omega)
      (repeat (first | refine au_pure ?_ | refine au_pass ?_ | refine au_box (fun _ => ?_) | refine au_alloc (fun _ => ?_) | refine au_store ?_ | refine au_make rfl rfl (fun _ => ?_) | refine au_lit rfl rfl rfl (fun _ => ?_) | refine au_append rfl rfl rfl rfl (fun _ => au_norm ?_) | refine au_storeE rfl rfl rfl rfl ?_ | refine tri_seq ?_ | refine tri_then ?_ | refine tri_region ?_ | refine tri_nil ?_ | refine tri_skip ?_ | refine tri_ret ?_ | refine tri_exit ?_ | refine tri_thenr ?_ | refine tri_thene ?_ | refine tri_blkn ?_ | refine tri_blkr ?_ | refine tri_blke ?_ | refine tri_blko (by rfl) ?_ | refine tri_if_t (by rfl) ?_ | refine tri_if_f (by rfl) ?_ | fail))
      refine au_callC rfl rfl rfl rfl rfl (hg [_, _] (m.getD j default) hmem) (fun _ => ?_)
      (repeat' (first | refine au_pure ?_ | refine au_pass ?_ | refine au_box (fun _ => ?_) | refine au_alloc (fun _ => ?_) | refine au_store ?_ | refine au_make rfl rfl (fun _ => ?_) | refine au_lit rfl rfl rfl (fun _ => ?_) | refine au_append rfl rfl rfl rfl (fun _ => au_norm ?_) | refine au_storeE rfl rfl rfl rfl ?_ | refine tri_seq ?_ | refine tri_then ?_ | refine tri_region ?_ | refine tri_nil ?_ | refine tri_skip ?_ | refine tri_ret ?_ | refine tri_exit ?_ | refine tri_thenr ?_ | refine tri_thene ?_ | refine tri_blkn ?_ | refine tri_blkr ?_ | refine tri_blke ?_ | refine tri_blko (by rfl) ?_ | refine tri_if_t (by rfl) ?_ | refine tri_if_f (by rfl) ?_ | ((first | refine tri_cond (by rfl) (fun hc => ?_) (fun hc => ?_) | refine tri_gsplit (by rfl) (by rfl) (by (fail_if_success exact (rfl : _ = some (Value.bool true))); (fail_if_success exact (rfl : _ = some (Value.bool false))); rfl) (fun hc => ?_) (fun hc => ?_)) <;> (try simp only [decide_eq_true_eq, decide_eq_false_iff_not, beq_iff_eq, bne_iff_ne, ne_eq, Bool.not_eq_true', Bool.not_eq_false', beq_eq_false_iff_ne, bne_eq_false_iff_eq, Int.not_lt, Int.not_le, gt_iff_lt, ge_iff_le, Bool.and_eq_true, Bool.or_eq_true, Bool.and_eq_false_iff, Bool.or_eq_false_iff, Decidable.not_not, not_true_eq_false, not_false_eq_true, and_true, true_and, or_false, false_or, or_true, true_or, and_false, false_and, eq_self, Bool.true_eq_false, Bool.false_eq_true] at hc) <;> (try (exfalso; omega))) | fail))
      · have hp : p (m.getD j default) = false := by assumption
        refine tri_nx3 (i + 1) (j + 1) (m.set i (m.getD j default)) (by omega) ⟨by omega, by omega, by rw [List.length_set]; exact h3, ?_, fun k hk => ?_⟩ (by repeat (first | exact trivial | refine ⟨rfl, ?_⟩)) (fun _ h => h.sub (by repeat (first | exact List.Sublist.refl _ | assumption | apply List.Sublist.cons_cons | apply List.Sublist.cons)))
        · rw [filter_step _ (by omega), ← h4, ← h6, hp]
          rw [take_step (by rw [List.length_set]; omega), getD_set_self (by omega), List.take_set_of_le (Nat.le_refl _)]
          rfl
        · rw [getD_set k (by omega), if_neg (by omega)]
          exact h5 k (by omega)
      · have hp : p (m.getD j default) = true := by assumption
        refine tri_nx3 i (j + 1) m (by omega) ⟨by omega, by omega, h3, ?_, fun k hk => h5 k (by omega)⟩ (by repeat (first | exact trivial | refine ⟨rfl, ?_⟩)) (fun _ h => h.sub (by repeat (first | exact List.Sublist.refl _ | assumption | apply List.Sublist.cons_cons | apply List.Sublist.cons)))
        rw [filter_step _ (by omega), ← h4, ← h6, hp]
        simp
    · have hj : j = l.length := by omega
      subst hj
      rw [List.take_length] at h4
      (repeat (first | refine au_pure ?_ | refine au_pass ?_ | refine au_box (fun _ => ?_) | refine au_alloc (fun _ => ?_) | refine au_store ?_ | refine au_make rfl rfl (fun _ => ?_) | refine au_lit rfl rfl rfl (fun _ => ?_) | refine au_append rfl rfl rfl rfl (fun _ => au_norm ?_) | refine au_storeE rfl rfl rfl rfl ?_ | refine tri_seq ?_ | refine tri_then ?_ | refine tri_region ?_ | refine tri_nil ?_ | refine tri_skip ?_ | refine tri_ret ?_ | refine tri_exit ?_ | refine tri_thenr ?_ | refine tri_thene ?_ | refine tri_blkn ?_ | refine tri_blkr ?_ | refine tri_blke ?_ | refine tri_blko (by rfl) ?_ | refine tri_if_t (by rfl) ?_ | refine tri_if_f (by rfl) ?_ | fail))
      have hl' : (m.take i ++ List.replicate (m.length - i) (default : TE)).length = m.length := by simp; omega
      refine tri_clear rfl (by first | exact wan_plain rfl | exact wan_yes rfl rfl rfl) rfl rfl (by repeat (first | exact at0 | apply atS)) rfl rfl (by omega) (by repeat (first | exact nf0 rfl | apply nfS rfl | exact nfR)) ?_
      (repeat (first | refine au_pure ?_ | refine au_pass ?_ | refine au_box (fun _ => ?_) | refine au_alloc (fun _ => ?_) | refine au_store ?_ | refine au_make rfl rfl (fun _ => ?_) | refine au_lit rfl rfl rfl (fun _ => ?_) | refine au_append rfl rfl rfl rfl (fun _ => au_norm ?_) | refine au_storeE rfl rfl rfl rfl ?_ | refine tri_seq ?_ | refine tri_then ?_ | refine tri_region ?_ | refine tri_nil ?_ | refine tri_skip ?_ | refine tri_ret ?_ | refine tri_exit ?_ | refine tri_thenr ?_ | refine tri_thene ?_ | refine tri_blkn ?_ | refine tri_blkr ?_ | refine tri_blke ?_ | refine tri_blko (by rfl) ?_ | refine tri_if_t (by rfl) ?_ | refine tri_if_f (by rfl) ?_ | fail))
      refine tri_recut (a := 0) (b := i) at0 (by omega) (by simp; omega) (by repeat (first | exact nf0 rfl | apply nfS rfl | exact nfR)) ?_
      refine au_done1 rfl ?_
      intro w hw
      refine ⟨r.cut 0 i 3, rfl, ?_⟩
      have e : ((m.take i ++ List.replicate (m.length - i) default).take i).drop 0 = l.filter fun x => !p x := by
        rw [List.drop_zero, List.take_append_of_le_length (by simp; omega), List.take_take, Nat.min_self, h4]
      rw [← e]
      exact hw
end Go.Proofs.Ytpcammiidklkhaa
