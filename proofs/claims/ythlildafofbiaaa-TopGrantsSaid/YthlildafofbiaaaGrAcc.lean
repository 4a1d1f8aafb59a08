/- The walks of the accounts: in, tree, amounts, own, Check, is. No conditions. -/
import Derived.Test.YthlildafofbiaaaGrLaws
import Derived.Test.YthlildafofbiaaaGrLib
import Derived.Test.YthlildafofbiaaaSeqR
set_option linter.unusedSimpArgs false
set_option linter.unusedVariables false
namespace Go.Proofs.Ythlildafofbiaaa
open Go Go.RowKit
theorem acL_len (u : US) : (acL u).length = 3 := rfl
theorem ac_at {u : US} (h : Uk u) {k : Nat} (hk : k < 3) : ((acL u).getD k default).pa = (k : Int) - 1 ∧ (0 ≤ ((acL u).getD k default).us ∧ ((acL u).getD k default).us ≤ 9) ∧ ((acL u).getD k default).mi = 0 ∧ ((acL u).getD k default).lo = 0 ∧ (4 ≤ ((acL u).getD k default).mx ∧ ((acL u).getD k default).mx ≤ 9) ∧ ((acL u).getD k default).us ≤ ((acL u).getD k default).mx := by
  obtain ⟨h1, h2, h3, h4, h5, h6⟩ := h
  have hk' : k = 0 ∨ k = 1 ∨ k = 2 := by omega
  rcases hk' with rfl | rfl | rfl
  · exact ⟨rfl, ⟨show 0 ≤ u.a by omega, show u.a ≤ 9 by omega⟩, rfl, rfl, ⟨show (4 : Int) ≤ 9 by omega, show (9 : Int) ≤ 9 by omega⟩, show u.a ≤ 9 by omega⟩
  · exact ⟨rfl, ⟨show 0 ≤ u.b by omega, show u.b ≤ 9 by omega⟩, rfl, rfl, ⟨show (4 : Int) ≤ 6 by omega, show (6 : Int) ≤ 9 by omega⟩, show u.b ≤ 6 by omega⟩
  · exact ⟨rfl, ⟨show 0 ≤ u.c by omega, show u.c ≤ 9 by omega⟩, rfl, rfl, ⟨show (4 : Int) ≤ 4 by omega, show (4 : Int) ≤ 9 by omega⟩, show u.c ≤ 4 by omega⟩
/-- What own has counted behind k accounts. -/
def ownL (u : US) : Nat → List Int
  | 0 => [0, 0, 0]
  | 1 => [u.a, 0, 0]
  | 2 => [u.a - u.b, u.b, 0]
  | _ => [u.a - u.b, u.b - u.c, u.c]
def ownH (u : US) : Nat → List Int
  | 0 => [u.a, 0, 0]
  | 1 => [u.a, u.b, 0]
  | _ => [u.a - u.b, u.b, u.c]
theorem own_len (u : US) : ∀ k, (ownL u k).length = 3
  | 0 => rfl
  | 1 => rfl
  | 2 => rfl
  | _ + 3 => rfl
theorem ownH_len (u : US) : ∀ k, (ownH u k).length = 3
  | 0 => rfl
  | 1 => rfl
  | _ + 2 => rfl
theorem own_up (u : US) {k : Nat} (hk : k < 3) : (ownL u k).set k ((ownL u k).getD k default + ((acL u).getD k default).us) = ownH u k := by
  have hk' : k = 0 ∨ k = 1 ∨ k = 2 := by omega
  rcases hk' with rfl | rfl | rfl
  · show [0 + u.a, 0, 0] = [u.a, 0, 0]; rw [Int.zero_add]
  · show [u.a, 0 + u.b, 0] = [u.a, u.b, 0]; rw [Int.zero_add]
  · show [u.a - u.b, u.b, 0 + u.c] = [u.a - u.b, u.b, u.c]; rw [Int.zero_add]
theorem own_zero (u : US) : ownH u 0 = ownL u 1 := rfl
theorem own_dn (u : US) {k : Nat} (hk : k < 3) (h0 : 0 < k) : (ownH u k).set (k - 1) ((ownH u k).getD (k - 1) default - ((acL u).getD k default).us) = ownL u (k + 1) := by
  have hk' : k = 1 ∨ k = 2 := by omega
  rcases hk' with rfl | rfl <;> rfl
theorem own_bd {u : US} (h : Uk u) {k j : Nat} (hk : k < 3) : (-100 ≤ (ownL u k).getD j default ∧ (ownL u k).getD j default ≤ 100) ∧ (-100 ≤ (ownH u k).getD j default ∧ (ownH u k).getD j default ≤ 100) := by
  obtain ⟨h1, h2, h3, h4, h5, h6⟩ := h
  have key : ∀ (x y z : Int), (-100 ≤ x ∧ x ≤ 100) → (-100 ≤ y ∧ y ≤ 100) → (-100 ≤ z ∧ z ≤ 100) → (-100 ≤ [x, y, z].getD j default ∧ [x, y, z].getD j default ≤ 100) := fun x y z hx hy hz => by
    match j with
    | 0 => exact hx
    | 1 => exact hy
    | 2 => exact hz
    | _ + 3 => exact ⟨show (-100 : Int) ≤ 0 by omega, show (0 : Int) ≤ 100 by omega⟩
  have hk' : k = 0 ∨ k = 1 ∨ k = 2 := by omega
  rcases hk' with rfl | rfl | rfl
  · exact ⟨key _ _ _ (by omega) (by omega) (by omega), key _ _ _ (by omega) (by omega) (by omega)⟩
  · exact ⟨key _ _ _ (by omega) (by omega) (by omega), key _ _ _ (by omega) (by omega) (by omega)⟩
  · exact ⟨key _ _ _ (by omega) (by omega) (by omega), key _ _ _ (by omega) (by omega) (by omega)⟩
theorem own_min {u : US} (h : Uk u) : minN (ownL u 3) ((ownL u 3).length - 1) ≥ 0 := by
  obtain ⟨h1, h2, h3, h4, h5, h6⟩ := h
  show (if u.c < (if u.b - u.c < u.a - u.b then u.b - u.c else u.a - u.b) then u.c else (if u.b - u.c < u.a - u.b then u.b - u.c else u.a - u.b)) ≥ 0
  split <;> split <;> omega
attribute [local irreducible] Code.wp wpList bodyPost Exit.then Exit.inBlock Calls wpQuiet Tri TriQ
section
variable (w0 : World) (cs : List Chunk)
abbrev acE (g : Nat) (x : AC) : Chunk := blkC g 41 [.int .i64 x.pa, .int .i64 x.us, .int .i64 x.mi, .int .i64 x.lo, .int .i64 x.mx]
abbrev akE (g : Nat) (x : AK) : Chunk := blkC g 37 [.int .i64 x.p, .int .i64 x.a, .int .i64 x.k, .int .i64 x.u]
theorem ain_c (n : Int) (h : 0 ≤ n ∧ n ≤ 1048576) : Cal Try.prog 37 [.int .i64 n] (Hp w0 cs) (fun _ : Unit => .bool true) (fun _ => Hp w0 cs) := by
  refine cal_of_tri Try.func37 rfl Try.ntmps37 rfl ?_
  (repeat (first | refine tri_seq ?_ | refine tri_then ?_)); refine tri_region ?_; (repeat (first | refine au_pure ?_ | refine au_pass ?_ | refine au_box (fun _ => ?_) | refine au_alloc (fun _ => ?_) | refine au_store ?_ | refine au_make rfl rfl (fun _ => ?_) | refine au_lit rfl rfl rfl (fun _ => ?_) | refine au_append rfl rfl rfl rfl (fun _ => au_norm ?_) | refine au_storeE rfl rfl rfl rfl ?_)); refine tri_nil ?_; (repeat refine tri_then ?_)
  (repeat (first | refine zz ?_ | refine zv fun _ => ?_))
  rw [show decide (n ≥ 0) = true from decide_eq_true h.1]
  (repeat (first | refine zz ?_ | refine zv fun _ => ?_))
  rw [show decide (n ≤ 1048576) = true from decide_eq_true h.2]
  (repeat (first | refine zz ?_ | refine zv fun _ => ?_))
  refine au_done1 rfl ?_
  exact fun w hw => ⟨(), rfl, hw.sub (by repeat (first | exact List.Sublist.refl _ | assumption | apply List.Sublist.cons_cons | apply List.Sublist.cons))⟩
theorem gin_c (n : Int) (h : 0 ≤ n ∧ n ≤ 1048576) : Cal Try.prog 27 [.int .i64 n] (Hp w0 cs) (fun _ : Unit => .bool true) (fun _ => Hp w0 cs) := by
  refine cal_of_tri Try.func27 rfl Try.ntmps27 rfl ?_
  (repeat (first | refine tri_seq ?_ | refine tri_then ?_)); refine tri_region ?_; (repeat (first | refine au_pure ?_ | refine au_pass ?_ | refine au_box (fun _ => ?_) | refine au_alloc (fun _ => ?_) | refine au_store ?_ | refine au_make rfl rfl (fun _ => ?_) | refine au_lit rfl rfl rfl (fun _ => ?_) | refine au_append rfl rfl rfl rfl (fun _ => au_norm ?_) | refine au_storeE rfl rfl rfl rfl ?_)); refine tri_nil ?_; (repeat refine tri_then ?_)
  (repeat (first | refine zz ?_ | refine zv fun _ => ?_))
  rw [show decide (n ≥ 0) = true from decide_eq_true h.1]
  (repeat (first | refine zz ?_ | refine zv fun _ => ?_))
  rw [show decide (n ≤ 1048576) = true from decide_eq_true h.2]
  (repeat (first | refine zz ?_ | refine zv fun _ => ?_))
  refine au_done1 rfl ?_
  exact fun w hw => ⟨(), rfl, hw.sub (by repeat (first | exact List.Sublist.refl _ | assumption | apply List.Sublist.cons_cons | apply List.Sublist.cons))⟩
theorem tree_c {v : Value} {u : US} (hu : Uk u) (hR : RdH (Hp w0 cs) v (acL u)) : Cal Try.prog 30 [v] (Hp w0 cs) (fun _ : Unit => .bool true) (fun _ => Hp w0 cs) := by
  have hl := acL_len u
  refine cal_of_tri Try.func30 rfl Try.ntmps30 rfl ?_
  (repeat (first | refine tri_seq ?_ | refine tri_then ?_)); refine tri_region ?_; (repeat (first | refine au_pure ?_ | refine au_pass ?_ | refine au_box (fun _ => ?_) | refine au_alloc (fun _ => ?_) | refine au_store ?_ | refine au_make rfl rfl (fun _ => ?_) | refine au_lit rfl rfl rfl (fun _ => ?_) | refine au_append rfl rfl rfl rfl (fun _ => au_norm ?_) | refine au_storeE rfl rfl rfl rfl ?_)); refine tri_nil ?_; (repeat refine tri_then ?_)
  (repeat (first | refine zz ?_ | refine zv fun _ => ?_))
  refine au_pure ?_ (hy := yl_len rfl rfl hR)
  rw [hl]
  (repeat (first | refine zz ?_ | refine zv fun _ => ?_))
  refine tri_block ?_
  refine tri_loop1 (fun (k : Nat) => k ≤ 3) (fun k => [(5, v), (6, .int .i64 ((3 : Nat) : Int)), (7, .int .i64 (k : Int))]) (fun _ => Hp w0 cs) (fun k => 3 - k) 0 (by omega) (by repeat (first | exact trivial | refine ⟨rfl, ?_⟩)) (fun w h => h) ?_
  intro k hk
  (repeat (first | refine zz ?_ | refine zv fun _ => ?_))
  ((first | refine tri_cond (by rfl) (fun hc => ?_) (fun hc => ?_) | refine tri_gsplit (by rfl) (by rfl) (by (fail_if_success exact (rfl : _ = some (Value.bool true))); (fail_if_success exact (rfl : _ = some (Value.bool false))); rfl) (fun hc => ?_) (fun hc => ?_)) <;> (try simp only [decide_eq_true_eq, decide_eq_false_iff_not, beq_iff_eq, bne_iff_ne, ne_eq, Bool.not_eq_true', Bool.not_eq_false', beq_eq_false_iff_ne, bne_eq_false_iff_eq, Int.not_lt, Int.not_le, gt_iff_lt, ge_iff_le, Bool.and_eq_true, Bool.or_eq_true, Bool.and_eq_false_iff, Bool.or_eq_false_iff, Decidable.not_not, not_true_eq_false, not_false_eq_true, and_true, true_and, or_false, false_or, or_true, true_or, and_false, false_and, eq_self, Bool.true_eq_false, Bool.false_eq_true] at hc) <;> (try (exfalso; omega)))
  case refine_1 =>
    have hk3 : k < 3 := by omega
    obtain ⟨x, hx⟩ : ∃ x, x = (acL u).getD k default := ⟨_, rfl⟩
    obtain ⟨f1, f2, f3, f4, f5, f6⟩ := ac_at hu hk3
    rw [← hx] at f1 f2 f3 f4 f5 f6
    (repeat (first | refine zz ?_ | refine zv fun _ => ?_))
    refine tri_block ?_
    (repeat (first | refine zz ?_ | refine zv fun _ => ?_))
    refine au_pure ?_ (hy := yl_idx (k := k) rfl rfl hR (ix_nat rfl) (by rfl) (by omega))
    refine au_pure ?_ (hy := yl_loadEN rfl rfl hR (by rfl) (by omega) (by repeat (first | exact nf0 rfl | apply nfS rfl | exact nfR)) (by rfl))
    rw [← hx]
    (repeat (first | refine zz ?_ | refine zv fun _ => ?_))
    by_cases h0 : k = 0
    · rw [show ((k : Int) == 0) = true by rw [h0]; rfl]
      (repeat (first | refine zz ?_ | refine zv fun _ => ?_))
      rw [show (x.pa != -1) = false by rw [f1, h0]; rfl]
      (repeat (first | refine zz ?_ | refine zv fun _ => ?_))
      rw [show decide ((k : Int) > 0) = false from decide_eq_false (by omega)]
      (repeat (first | refine zz ?_ | refine zv fun _ => ?_))
      exact tri_nx1 (k + 1) (by omega) (by omega) (by repeat (first | exact trivial | refine ⟨rfl, ?_⟩)) (fun w h => h.sub (by repeat (first | exact List.Sublist.refl _ | assumption | apply List.Sublist.cons_cons | apply List.Sublist.cons)))
    · rw [show ((k : Int) == 0) = false by rw [beq_eq_false_iff_ne]; omega]
      (repeat (first | refine zz ?_ | refine zv fun _ => ?_))
      rw [show decide ((k : Int) > 0) = true from decide_eq_true (by omega)]
      (repeat (first | refine zz ?_ | refine zv fun _ => ?_))
      rw [show decide (x.pa < 0) = false from decide_eq_false (by omega)]
      (repeat (first | refine zz ?_ | refine zv fun _ => ?_))
      rw [show decide (x.pa ≥ (k : Int)) = false from decide_eq_false (by omega)]
      (repeat (first | refine zz ?_ | refine zv fun _ => ?_))
      exact tri_nx1 (k + 1) (by omega) (by omega) (by repeat (first | exact trivial | refine ⟨rfl, ?_⟩)) (fun w h => h.sub (by repeat (first | exact List.Sublist.refl _ | assumption | apply List.Sublist.cons_cons | apply List.Sublist.cons)))
  (repeat (first | refine zz ?_ | refine zv fun _ => ?_))
  refine au_done1 rfl ?_
  exact fun w hw => ⟨(), rfl, hw.sub (by repeat (first | exact List.Sublist.refl _ | assumption | apply List.Sublist.cons_cons | apply List.Sublist.cons))⟩
theorem amounts_c {v : Value} {u : US} (hu : Uk u) (hR : RdH (Hp w0 cs) v (acL u)) : Cal Try.prog 31 [v] (Hp w0 cs) (fun _ : Unit => .bool true) (fun _ => Hp w0 cs) := by
  have hl := acL_len u
  refine cal_of_tri Try.func31 rfl Try.ntmps31 rfl ?_
  (repeat (first | refine tri_seq ?_ | refine tri_then ?_)); refine tri_region ?_; (repeat (first | refine au_pure ?_ | refine au_pass ?_ | refine au_box (fun _ => ?_) | refine au_alloc (fun _ => ?_) | refine au_store ?_ | refine au_make rfl rfl (fun _ => ?_) | refine au_lit rfl rfl rfl (fun _ => ?_) | refine au_append rfl rfl rfl rfl (fun _ => au_norm ?_) | refine au_storeE rfl rfl rfl rfl ?_)); refine tri_nil ?_; (repeat refine tri_then ?_)
  (repeat (first | refine zz ?_ | refine zv fun _ => ?_))
  refine au_pure ?_ (hy := yl_len rfl rfl hR)
  rw [hl]
  (repeat (first | refine zz ?_ | refine zv fun _ => ?_))
  refine tri_block ?_
  refine tri_loop1 (fun (k : Nat) => k ≤ 3) (fun k => [(0, v), (5, v), (6, .int .i64 ((3 : Nat) : Int)), (7, .int .i64 (k : Int))]) (fun _ => Hp w0 cs) (fun k => 3 - k) 0 (by omega) (by repeat (first | exact trivial | refine ⟨rfl, ?_⟩)) (fun w h => h) ?_
  intro k hk
  (repeat (first | refine zz ?_ | refine zv fun _ => ?_))
  ((first | refine tri_cond (by rfl) (fun hc => ?_) (fun hc => ?_) | refine tri_gsplit (by rfl) (by rfl) (by (fail_if_success exact (rfl : _ = some (Value.bool true))); (fail_if_success exact (rfl : _ = some (Value.bool false))); rfl) (fun hc => ?_) (fun hc => ?_)) <;> (try simp only [decide_eq_true_eq, decide_eq_false_iff_not, beq_iff_eq, bne_iff_ne, ne_eq, Bool.not_eq_true', Bool.not_eq_false', beq_eq_false_iff_ne, bne_eq_false_iff_eq, Int.not_lt, Int.not_le, gt_iff_lt, ge_iff_le, Bool.and_eq_true, Bool.or_eq_true, Bool.and_eq_false_iff, Bool.or_eq_false_iff, Decidable.not_not, not_true_eq_false, not_false_eq_true, and_true, true_and, or_false, false_or, or_true, true_or, and_false, false_and, eq_self, Bool.true_eq_false, Bool.false_eq_true] at hc) <;> (try (exfalso; omega)))
  case refine_1 =>
    have hk3 : k < 3 := by omega
    obtain ⟨x, hx⟩ : ∃ x, x = (acL u).getD k default := ⟨_, rfl⟩
    obtain ⟨f1, f2, f3, f4, f5, f6⟩ := ac_at hu hk3
    rw [← hx] at f1 f2 f3 f4 f5 f6
    (repeat (first | refine zz ?_ | refine zv fun _ => ?_))
    refine tri_block ?_
    (repeat (first | refine zz ?_ | refine zv fun _ => ?_))
    refine au_pure ?_ (hy := yl_idx (k := k) rfl rfl hR (ix_nat rfl) (by rfl) (by omega))
    refine au_pure ?_ (hy := yl_loadEN rfl rfl hR (by rfl) (by omega) (by repeat (first | exact nf0 rfl | apply nfS rfl | exact nfR)) (by rfl))
    rw [← hx]
    (repeat (first | refine zz ?_ | refine zv fun _ => ?_))
    refine au_callC rfl rfl rfl rfl rfl (ain_c w0 _ x.us (by omega)) (fun _ => ?_)
    (repeat (first | refine zz ?_ | refine zv fun _ => ?_))
    refine au_callC rfl rfl rfl rfl rfl (ain_c w0 _ x.mi (by omega)) (fun _ => ?_)
    (repeat (first | refine zz ?_ | refine zv fun _ => ?_))
    refine au_callC rfl rfl rfl rfl rfl (ain_c w0 _ x.lo (by omega)) (fun _ => ?_)
    (repeat (first | refine zz ?_ | refine zv fun _ => ?_))
    refine au_callC rfl rfl rfl rfl rfl (ain_c w0 _ x.mx (by omega)) (fun _ => ?_)
    (repeat (first | refine zz ?_ | refine zv fun _ => ?_))
    exact tri_nx1 (k + 1) (by omega) (by omega) (by repeat (first | exact trivial | refine ⟨rfl, ?_⟩)) (fun w h => h.sub (by repeat (first | exact List.Sublist.refl _ | assumption | apply List.Sublist.cons_cons | apply List.Sublist.cons)))
  (repeat (first | refine zz ?_ | refine zv fun _ => ?_))
  refine au_pure ?_ (hy := yl_idx (k := (0 : Int).toNat) rfl rfl hR (ix_int rfl (by decide)) (by rfl) (by rw [hl]; decide))
  refine au_pure ?_ (hy := yl_fieldE rfl rfl)
  refine au_pure ?_ (hy := yl_loadE rfl rfl hR (by rfl) (by rw [hl]; decide) (by rfl))
  rw [show ((acL u).getD ((0 : Int).toNat) default).mi = 0 from rfl]
  (repeat (first | refine zz ?_ | refine zv fun _ => ?_))
  refine au_pure ?_ (hy := yl_idx (k := (0 : Int).toNat) rfl rfl hR (ix_int rfl (by decide)) (by rfl) (by rw [hl]; decide))
  refine au_pure ?_ (hy := yl_fieldE rfl rfl)
  refine au_pure ?_ (hy := yl_loadE rfl rfl hR (by rfl) (by rw [hl]; decide) (by rfl))
  rw [show ((acL u).getD ((0 : Int).toNat) default).lo = 0 from rfl]
  (repeat (first | refine zz ?_ | refine zv fun _ => ?_))
  refine au_done1 rfl ?_
  exact fun w hw => ⟨(), rfl, hw.sub (by repeat (first | exact List.Sublist.refl _ | assumption | apply List.Sublist.cons_cons | apply List.Sublist.cons))⟩
set_option maxHeartbeats 1000000 in
theorem own_c {v : Value} {u : US} (hu : Uk u) (hR : RdH (Hp w0 cs) v (acL u)) : Cal Try.prog 35 [v] (Hp w0 cs) (fun r : Row => r.v) (fun r => Hp w0 (inS r (ownL u 3) :: cs)) := by
  have hl := acL_len u
  refine cal_of_tri Try.func35 rfl Try.ntmps35 rfl ?_
  (repeat (first | refine tri_seq ?_ | refine tri_then ?_)); refine tri_region ?_; (repeat (first | refine au_pure ?_ | refine au_pass ?_ | refine au_box (fun _ => ?_) | refine au_alloc (fun _ => ?_) | refine au_store ?_ | refine au_make rfl rfl (fun _ => ?_) | refine au_lit rfl rfl rfl (fun _ => ?_) | refine au_append rfl rfl rfl rfl (fun _ => au_norm ?_) | refine au_storeE rfl rfl rfl rfl ?_)); refine tri_nil ?_; (repeat refine tri_then ?_)
  (repeat (first | refine zz ?_ | refine zv fun _ => ?_))
  refine au_pure ?_ (hy := yl_len rfl rfl hR)
  rw [hl]
  (repeat (first | refine zz ?_ | refine zv fun _ => ?_))
  refine au_make (α := Int) (k := 3) (c := 3) rfl rfl (fun r => ?_)
  refine tri_weak (H' := Hp w0 (inS r (ownL u 0) :: cs)) (fun w h => h) ?_
  (repeat (first | refine zz ?_ | refine zv fun _ => ?_))
  refine au_pure ?_ (hy := yl_len rfl rfl hR.cons)
  rw [hl]
  (repeat (first | refine zz ?_ | refine zv fun _ => ?_))
  refine tri_block ?_
  refine tri_loop1 (fun (k : Nat) => k ≤ 3) (fun k => [(3, r.v), (9, v), (10, .int .i64 ((3 : Nat) : Int)), (11, .int .i64 (k : Int))]) (fun k => Hp w0 (inS r (ownL u k) :: cs)) (fun k => 3 - k) 0 (by omega) (by repeat (first | exact trivial | refine ⟨rfl, ?_⟩)) (fun w h => h) ?_
  intro k hk
  (repeat (first | refine zz ?_ | refine zv fun _ => ?_))
  ((first | refine tri_cond (by rfl) (fun hc => ?_) (fun hc => ?_) | refine tri_gsplit (by rfl) (by rfl) (by (fail_if_success exact (rfl : _ = some (Value.bool true))); (fail_if_success exact (rfl : _ = some (Value.bool false))); rfl) (fun hc => ?_) (fun hc => ?_)) <;> (try simp only [decide_eq_true_eq, decide_eq_false_iff_not, beq_iff_eq, bne_iff_ne, ne_eq, Bool.not_eq_true', Bool.not_eq_false', beq_eq_false_iff_ne, bne_eq_false_iff_eq, Int.not_lt, Int.not_le, gt_iff_lt, ge_iff_le, Bool.and_eq_true, Bool.or_eq_true, Bool.and_eq_false_iff, Bool.or_eq_false_iff, Decidable.not_not, not_true_eq_false, not_false_eq_true, and_true, true_and, or_false, false_or, or_true, true_or, and_false, false_and, eq_self, Bool.true_eq_false, Bool.false_eq_true] at hc) <;> (try (exfalso; omega)))
  case refine_1 =>
    have hk3 : k < 3 := by omega
    have hup := own_up u hk3
    have hdn := own_dn u hk3
    have hbd := fun j => own_bd hu (j := j) hk3
    have hol := own_len u k
    have hoh := ownH_len u k
    obtain ⟨x, hx⟩ : ∃ x, x = (acL u).getD k default := ⟨_, rfl⟩
    obtain ⟨f1, f2, f3, f4, f5, f6⟩ := ac_at hu hk3
    rw [← hx] at f1 f2 f3 f4 f5 f6 hup hdn
    (repeat (first | refine zz ?_ | refine zv fun _ => ?_))
    refine tri_block ?_
    (repeat (first | refine zz ?_ | refine zv fun _ => ?_))
    refine au_pure ?_ (hy := yl_idx (k := k) rfl rfl hR.cons (ix_nat rfl) (by rfl) (by omega))
    refine au_pure ?_ (hy := yl_loadEN rfl rfl hR.cons (by rfl) (by omega) (by repeat (first | exact nf0 rfl | apply nfS rfl | exact nfR)) (by rfl))
    rw [← hx]
    (repeat (first | refine au_pure ?_ | refine au_pass ?_ | refine au_box (fun _ => ?_) | refine au_alloc (fun _ => ?_) | refine au_store ?_ | refine au_make rfl rfl (fun _ => ?_) | refine au_lit rfl rfl rfl (fun _ => ?_) | refine au_append rfl rfl rfl rfl (fun _ => au_norm ?_) | refine au_storeE rfl rfl rfl rfl ?_)); refine tri_nil ?_; (repeat refine tri_then ?_)
    rename_i g5
    refine tri_weak (H' := Hp w0 (acE g5 x :: inS r (ownL u k) :: cs)) (fun w h => h) ?_
    have hL1 : RdH (Hp w0 (acE g5 x :: inS r (ownL u k) :: cs)) r.v (ownL u k) := rd_chunk ⟨1, rfl⟩
    have hb1 := hbd k
    (repeat (first | refine tri_seq ?_ | refine tri_then ?_))
    refine ar_held [8] (acE g5 x :: inS r (ownL u k) :: cs) rfl ?_
    refine ar_take 0 rfl rfl rfl ?_; refine ar_take 1 rfl rfl rfl ?_
    refine ar_take 2 rfl rfl rfl ?_ (hy := yl_idx (k := k) rfl rfl hL1 (ix_nat rfl) (by rfl) (by omega))
    refine ar_take 3 rfl rfl rfl ?_ (hy := yl_loadE rfl rfl hL1 (by rfl) (by omega) (by rfl))
    refine ar_take 4 rfl rfl rfl ?_; refine ar_take 5 rfl rfl rfl ?_; refine ar_take 6 rfl rfl rfl ?_
    refine ar_take 7 rfl rfl rfl ?_ (hy := yl_idx (k := k) rfl rfl hL1 (ix_nat rfl) (by rfl) (by omega))
    refine ar_op 8 rfl ?_
    refine au_storeE (a := (ownL u k).getD k default + x.us) rfl rfl rfl rfl ?_
    refine tri_nil ?_; refine ar_ink ?_
    refine ar_done ?_
    rw [hup]
    refine tri_weak (H' := Hp w0 (acE g5 x :: inS r (ownH u k) :: cs)) (fun w h => h) ?_
    have hL2 : RdH (Hp w0 (acE g5 x :: inS r (ownH u k) :: cs)) r.v (ownH u k) := rd_chunk ⟨1, rfl⟩
    (repeat (first | refine zz ?_ | refine zv fun _ => ?_))
    by_cases h0 : k = 0
    · subst h0
      (repeat (first | refine zz ?_ | refine zv fun _ => ?_))
      exact tri_nx1 (0 + 1) (by omega) (by omega) (by repeat (first | exact trivial | refine ⟨rfl, ?_⟩)) (fun w h => h.sub (List.Sublist.cons _ (List.Sublist.refl _)))
    · rw [show decide ((k : Int) > 0) = true from decide_eq_true (by omega)]
      have hb2 := hbd (k - 1)
      refine tri_if_t (by rfl) ?_
      (repeat (first | refine tri_seq ?_ | refine tri_then ?_))
      refine ar_held [9] (acE g5 x :: inS r (ownH u k) :: cs) rfl ?_
      refine ar_take 0 rfl rfl rfl ?_; refine ar_take 1 rfl rfl rfl ?_; refine ar_take 2 rfl rfl rfl ?_
      refine ar_take 3 rfl rfl rfl ?_ (hy := yl_idx (k := k - 1) rfl rfl hL2 (ix_eq rfl (by omega)) (by rfl) (by omega))
      refine ar_take 4 rfl rfl rfl ?_ (hy := yl_loadE rfl rfl hL2 (by rfl) (by omega) (by rfl))
      refine ar_take 5 rfl rfl rfl ?_; refine ar_take 6 rfl rfl rfl ?_; refine ar_take 7 rfl rfl rfl ?_
      refine ar_take 8 rfl rfl rfl ?_ (hy := yl_idx (k := k - 1) rfl rfl hL2 (ix_eq rfl (by omega)) (by rfl) (by omega))
      refine ar_op 9 rfl ?_
      refine au_storeE (a := (ownH u k).getD (k - 1) default - x.us) rfl rfl rfl rfl ?_
      refine tri_nil ?_; refine ar_ink ?_
      refine ar_done ?_
      rw [hdn (by omega)]
      (repeat (first | refine zz ?_ | refine zv fun _ => ?_))
      exact tri_nx1 (k + 1) (by omega) (by omega) (by repeat (first | exact trivial | refine ⟨rfl, ?_⟩)) (fun w h => h.sub (List.Sublist.cons _ (List.Sublist.refl _)))
  have hke : k = 3 := by omega
  subst hke
  (repeat (first | refine zz ?_ | refine zv fun _ => ?_))
  refine au_done1 rfl ?_
  exact fun w hw => ⟨r, rfl, hw⟩
theorem over_c (x : AC) : ∀ ds, Cal Try.prog 33 [.agg #[.int .i64 x.pa, .int .i64 x.us, .int .i64 x.mi, .int .i64 x.lo, .int .i64 x.mx]] (Hp w0 (ds ++ cs)) (fun _ : Unit => .bool (decide (x.us > x.mx))) (fun _ => Hp w0 (ds ++ cs)) := by
  intro ds
  refine cal_of_tri Try.func33 rfl Try.ntmps33 rfl ?_
  (repeat (first | refine tri_seq ?_ | refine tri_then ?_)); refine tri_region ?_; (repeat (first | refine au_pure ?_ | refine au_pass ?_ | refine au_box (fun _ => ?_) | refine au_alloc (fun _ => ?_) | refine au_store ?_ | refine au_make rfl rfl (fun _ => ?_) | refine au_lit rfl rfl rfl (fun _ => ?_) | refine au_append rfl rfl rfl rfl (fun _ => au_norm ?_) | refine au_storeE rfl rfl rfl rfl ?_)); refine tri_nil ?_; (repeat refine tri_then ?_)
  (repeat (first | refine zz ?_ | refine zv fun _ => ?_))
  refine au_done1 rfl ?_
  exact fun w hw => ⟨(), rfl, hw.sub (List.Sublist.cons _ (List.Sublist.refl _))⟩
theorem over_tst {l : List AC} : TstAC w0 cs 33 [] (fun x => decide (x.us > x.mx)) l := fun ds x _ => over_c w0 cs x ds
theorem acheck_c {v : Value} {u : US} (hu : Uk u) (hR : RdH (Hp w0 cs) v (acL u)) : Cal Try.prog 17 [v] (Hp w0 cs) (fun _ : Unit => .int .i64 0) (fun _ => Hp w0 cs) := by
  have hl := acL_len u
  have hany : ((acL u).any fun x => decide (x.us > x.mx)) = false := getD_any.2 fun j hj => decide_eq_false (by have := (ac_at hu (k := j) (by omega)).2.2.2.2.2; omega)
  refine cal_of_tri Try.func17 rfl Try.ntmps17 rfl ?_
  (repeat (first | refine tri_seq ?_ | refine tri_then ?_)); refine tri_region ?_; (repeat (first | refine au_pure ?_ | refine au_pass ?_ | refine au_box (fun _ => ?_) | refine au_alloc (fun _ => ?_) | refine au_store ?_ | refine au_make rfl rfl (fun _ => ?_) | refine au_lit rfl rfl rfl (fun _ => ?_) | refine au_append rfl rfl rfl rfl (fun _ => au_norm ?_) | refine au_storeE rfl rfl rfl rfl ?_)); refine tri_nil ?_; (repeat refine tri_then ?_)
  (repeat (first | refine zz ?_ | refine zv fun _ => ?_))
  refine tri_block ?_
  (repeat (first | refine zz ?_ | refine zv fun _ => ?_))
  refine au_pure ?_ (hy := yl_len rfl rfl hR)
  rw [hl]
  (repeat (first | refine zz ?_ | refine zv fun _ => ?_))
  refine au_pure ?_ (hy := yl_len rfl rfl hR)
  rw [hl]
  (repeat (first | refine zz ?_ | refine zv fun _ => ?_))
  refine au_callC rfl rfl rfl rfl rfl (tree_c w0 _ hu hR) (fun _ => ?_)
  (repeat (first | refine zz ?_ | refine zv fun _ => ?_))
  refine au_callC rfl rfl rfl rfl rfl (amounts_c w0 _ hu hR) (fun _ => ?_)
  (repeat (first | refine zz ?_ | refine zv fun _ => ?_))
  refine au_callC rfl rfl rfl rfl rfl (containsFuncAC_c w0 _ hR (by omega) (over_tst w0 _)) (fun _ => ?_)
  rw [hany]
  (repeat (first | refine zz ?_ | refine zv fun _ => ?_))
  refine au_callC rfl rfl rfl rfl rfl (own_c w0 _ hu hR) ?_
  intro r
  (repeat (first | refine zz ?_ | refine zv fun _ => ?_))
  refine au_callC rfl rfl rfl rfl rfl (min_c w0 _ (rd_chunk (r := r) (l := ownL u 3) ⟨0, rfl⟩) (by rw [own_len]; decide) (by rw [own_len]; decide)) (fun _ => ?_)
  (repeat (first | refine zz ?_ | refine zv fun _ => ?_))
  rw [show decide (minN (ownL u 3) ((ownL u 3).length - 1) < 0) = false from decide_eq_false (by have := own_min hu; omega)]
  (repeat (first | refine zz ?_ | refine zv fun _ => ?_))
  refine au_done1 rfl ?_
  exact fun w hw => ⟨(), rfl, hw.sub (by repeat (first | exact List.Sublist.refl _ | assumption | apply List.Sublist.cons_cons | apply List.Sublist.cons))⟩
theorem is_c {v : Value} {u : US} (hu : Uk u) (hR : RdH (Hp w0 cs) v (acL u)) {a : Int} (ha : 0 ≤ a ∧ a < 3) : Cal Try.prog 36 [v, .int .i64 a] (Hp w0 cs) (fun _ : Unit => .bool true) (fun _ => Hp w0 cs) := by
  have hl := acL_len u
  refine cal_of_tri Try.func36 rfl Try.ntmps36 rfl ?_
  (repeat (first | refine tri_seq ?_ | refine tri_then ?_)); refine tri_region ?_; (repeat (first | refine au_pure ?_ | refine au_pass ?_ | refine au_box (fun _ => ?_) | refine au_alloc (fun _ => ?_) | refine au_store ?_ | refine au_make rfl rfl (fun _ => ?_) | refine au_lit rfl rfl rfl (fun _ => ?_) | refine au_append rfl rfl rfl rfl (fun _ => au_norm ?_) | refine au_storeE rfl rfl rfl rfl ?_)); refine tri_nil ?_; (repeat refine tri_then ?_)
  (repeat (first | refine zz ?_ | refine zv fun _ => ?_))
  refine au_callC rfl rfl rfl rfl rfl (acheck_c w0 _ hu hR) (fun _ => ?_)
  (repeat (first | refine zz ?_ | refine zv fun _ => ?_))
  rw [show decide (a ≥ 0) = true from decide_eq_true ha.1]
  (repeat (first | refine zz ?_ | refine zv fun _ => ?_))
  refine au_pure ?_ (hy := yl_len rfl rfl hR)
  rw [hl]
  (repeat (first | refine zz ?_ | refine zv fun _ => ?_))
  rw [show decide (a < ((3 : Nat) : Int)) = true from decide_eq_true (by omega)]
  (repeat (first | refine zz ?_ | refine zv fun _ => ?_))
  refine au_done1 rfl ?_
  exact fun w hw => ⟨(), rfl, hw.sub (by repeat (first | exact List.Sublist.refl _ | assumption | apply List.Sublist.cons_cons | apply List.Sublist.cons))⟩
end
end Go.Proofs.Ythlildafofbiaaa
