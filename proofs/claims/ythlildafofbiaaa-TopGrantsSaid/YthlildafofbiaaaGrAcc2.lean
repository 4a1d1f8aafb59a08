/- The walks of the accounts: Path, request, Own, add, Charge, Uncharge. No conditions. -/
import Derived.Test.YthlildafofbiaaaGrAcc
set_option linter.unusedSimpArgs false
set_option linter.unusedVariables false
namespace Go.Proofs.Ythlildafofbiaaa
open Go Go.RowKit
/-- The first j accounts of the path of n. -/
def pthL (n : Nat) : Nat → List Int
  | 0 => []
  | j + 1 => pthL n j ++ [(n : Int) - j]
theorem pth_len (n : Nat) : ∀ j, (pthL n j).length = j
  | 0 => rfl
  | j + 1 => by rw [pthL, List.length_append, pth_len n j]; rfl
theorem pth_at (n : Nat) : ∀ {j i : Nat}, i < j → (pthL n j).getD i default = (n : Int) - i
  | j + 1, i, h => by
    rw [pthL, getD_app, pth_len]
    by_cases e : i < j
    · rw [if_pos e]; exact pth_at n e
    · obtain rfl : i = j := by omega
      rw [if_neg e, Nat.sub_self]; rfl
/-- The usages when n was added to the first j accounts of the path of a. -/
def stU (u : US) (a : Nat) (n : Int) (j : Nat) : US := ⟨if a < j then u.a + n else u.a, if 1 ≤ a ∧ a < j + 1 then u.b + n else u.b, if 2 ≤ a ∧ a < j + 2 then u.c + n else u.c⟩
theorem stU_zero (u : US) {a : Nat} (ha : a < 3) (n : Int) : stU u a n 0 = u := by
  have h : a = 0 ∨ a = 1 ∨ a = 2 := by omega
  rcases h with rfl | rfl | rfl <;> rfl
theorem stU_end (u : US) {a : Nat} (ha : a < 3) (n : Int) : stU u a n (a + 1) = addU u (a : Int) n := by
  have h : a = 0 ∨ a = 1 ∨ a = 2 := by omega
  rcases h with rfl | rfl | rfl <;> rfl
theorem stU_step (u : US) {a j : Nat} (ha : a < 3) (hj : j ≤ a) (n : Int) : (acL (stU u a n j)).set (a - j) ⟨((acL (stU u a n j)).getD (a - j) default).pa, ((acL (stU u a n j)).getD (a - j) default).us + n, ((acL (stU u a n j)).getD (a - j) default).mi, ((acL (stU u a n j)).getD (a - j) default).lo, ((acL (stU u a n j)).getD (a - j) default).mx⟩ = acL (stU u a n (j + 1)) := by
  have h : a = 0 ∨ a = 1 ∨ a = 2 := by omega
  have h' : j = 0 ∨ j = 1 ∨ j = 2 := by omega
  rcases h with rfl | rfl | rfl <;> rcases h' with rfl | rfl | rfl <;> first | rfl | omega
theorem stU_us (u : US) {a j : Nat} (ha : a < 3) (hj : j ≤ a) (n : Int) : ((acL (stU u a n j)).getD (a - j) default).us = ((acL u).getD (a - j) default).us := by
  have h : a = 0 ∨ a = 1 ∨ a = 2 := by omega
  have h' : j = 0 ∨ j = 1 ∨ j = 2 := by omega
  rcases h with rfl | rfl | rfl <;> rcases h' with rfl | rfl | rfl <;> first | rfl | omega
/-- What an account has of its own. -/
def ownA (u : US) (a : Int) : Int := if a = 0 then u.a - u.b else if a = 1 then u.b - u.c else u.c
theorem ownA_at (u : US) {a : Nat} (ha : a < 3) : (ownL u 3).getD a default = ownA u (a : Int) := by
  have h : a = 0 ∨ a = 1 ∨ a = 2 := by omega
  rcases h with rfl | rfl | rfl <;> rfl
theorem lit1 (x : Int) : Enc.dec (α := Int) (List.take (Enc.sz Int) (setL (repL 1 (Value.int .i64 0).cells.toList) (0 * 1) (Value.int .i64 x).cells.toList)) = x := rfl
attribute [local irreducible] acL
attribute [local irreducible] Code.wp wpList bodyPost Exit.then Exit.inBlock Calls wpQuiet Tri TriQ
section
variable (w0 : World) (cs : List Chunk)
set_option maxHeartbeats 1000000 in
theorem path_c {v : Value} {u : US} (hu : Uk u) (hR : RdH (Hp w0 cs) v (acL u)) {a : Nat} (ha : a < 3) : Cal Try.prog 26 [v, .int .i64 (a : Int)] (Hp w0 cs) (fun r : Row => r.v) (fun r => Hp w0 (inS r (pthL a (a + 1)) :: cs)) := by
  have hl := acL_len u
  refine cal_of_tri Try.func26 rfl Try.ntmps26 rfl ?_
  (repeat (first | refine tri_seq ?_ | refine tri_then ?_)); refine tri_region ?_; (repeat (first | refine au_pure ?_ | refine au_pass ?_ | refine au_box (fun _ => ?_) | refine au_alloc (fun _ => ?_) | refine au_store ?_ | refine au_make rfl rfl (fun _ => ?_) | refine au_lit rfl rfl rfl (fun _ => ?_) | refine au_append rfl rfl rfl rfl (fun _ => au_norm ?_) | refine au_storeE rfl rfl rfl rfl ?_)); refine tri_nil ?_; (repeat refine tri_then ?_)
  (repeat (first | refine zz ?_ | refine zv fun _ => ?_))
  refine au_callC rfl rfl rfl rfl rfl (is_c w0 _ hu hR (a := (a : Int)) (by omega)) (fun _ => ?_)
  (repeat (first | refine zz ?_ | refine zv fun _ => ?_))
  refine tri_nilrow Int 3 ?_
  refine tri_block ?_
  refine tri_loop2 (fun (j : Nat) (r : Row) => j ≤ a + 1) (fun j r => [(0, v), (5, r.v), (6, .int .i64 ((a : Int) - j))]) (fun j r => Hp w0 (inS r (pthL a j) :: cs)) (fun j _ => a + 1 - j) 0 (Row.nil w0.heap.size) (by omega) (by rw [show ((a : Int) - ((0 : Nat) : Int)) = (a : Int) by omega]; repeat (first | exact trivial | refine ⟨rfl, ?_⟩)) (fun w h => h) ?_
  intro j r hj
  (repeat (first | refine zz ?_ | refine zv fun _ => ?_))
  ((first | refine tri_cond (by rfl) (fun hc => ?_) (fun hc => ?_) | refine tri_gsplit (by rfl) (by rfl) (by (fail_if_success exact (rfl : _ = some (Value.bool true))); (fail_if_success exact (rfl : _ = some (Value.bool false))); rfl) (fun hc => ?_) (fun hc => ?_)) <;> (try simp only [decide_eq_true_eq, decide_eq_false_iff_not, beq_iff_eq, bne_iff_ne, ne_eq, Bool.not_eq_true', Bool.not_eq_false', beq_eq_false_iff_ne, bne_eq_false_iff_eq, Int.not_lt, Int.not_le, gt_iff_lt, ge_iff_le, Bool.and_eq_true, Bool.or_eq_true, Bool.and_eq_false_iff, Bool.or_eq_false_iff, Decidable.not_not, not_true_eq_false, not_false_eq_true, and_true, true_and, or_false, false_or, or_true, true_or, and_false, false_and, eq_self, Bool.true_eq_false, Bool.false_eq_true] at hc) <;> (try (exfalso; omega)))
  case refine_1 =>
    have hja : j ≤ a := by omega
    obtain ⟨x, hx⟩ : ∃ x : Int, x = (a : Int) - j := ⟨_, rfl⟩
    have hat := (ac_at hu (k := a - j) (by omega)).1
    have hpl := pth_len a j
    rw [← hx]
    (repeat (first | refine zz ?_ | refine zv fun _ => ?_))
    refine tri_block ?_
    (repeat (first | refine zz ?_ | refine zv fun _ => ?_))
    refine au_lit (l := [x]) rfl rfl rfl (fun rl => ?_)
    refine tri_weak (H' := Hp w0 (inS rl [x] :: inS r (pthL a j) :: cs)) (fun w h => h) ?_
    refine au_append (i := 1) (l := pthL a j) (l2 := [x]) rfl rfl rfl rfl (fun r2 => ?_) (hi := rfl) (h2 := rd_chunk (r := rl) (l := [x]) ⟨0, rfl⟩) (hb := by rw [hpl]; simp; omega)
    refine tri_weak (H' := Hp w0 (inS r2 (pthL a (j + 1)) :: cs)) (fun w h => by
      have h : Hp w0 (inS rl [x] :: inS r2 (pthL a j ++ [x]) :: cs) w := h
      rw [hx] at h
      exact h.sub (List.Sublist.cons _ (List.Sublist.refl _))) ?_
    (repeat (first | refine zz ?_ | refine zv fun _ => ?_))
    refine au_pure ?_ (hy := yl_idx (k := a - j) rfl rfl hR.cons (ix_eq rfl (by omega)) (by rfl) (by omega))
    refine au_pure ?_ (hy := yl_fieldE rfl rfl)
    refine au_pure ?_ (hy := yl_loadE rfl rfl hR.cons (by rfl) (by omega) (by rfl))
    rw [hat, show (((a - j : Nat) : Int) - 1) = (a : Int) - ((j + 1 : Nat) : Int) by omega]
    (repeat (first | refine zz ?_ | refine zv fun _ => ?_))
    exact tri_nx2 (j + 1) r2 (by omega) (by omega) (by repeat (first | exact trivial | refine ⟨rfl, ?_⟩)) (fun w h => h)
  have hje : j = a + 1 := by omega
  subst hje
  (repeat (first | refine zz ?_ | refine zv fun _ => ?_))
  refine au_done1 rfl ?_
  exact fun w hw => ⟨r, rfl, hw⟩
theorem request_c {v : Value} {u : US} (hu : Uk u) (hR : RdH (Hp w0 cs) v (acL u)) {a n : Int} (ha : 0 ≤ a ∧ a < 3) (hn : 0 ≤ n ∧ n ≤ 1048576) : Cal Try.prog 23 [v, .int .i64 a, .int .i64 n] (Hp w0 cs) (fun _ : Unit => .int .i64 0) (fun _ => Hp w0 cs) := by
  refine cal_of_tri Try.func23 rfl Try.ntmps23 rfl ?_
  (repeat (first | refine tri_seq ?_ | refine tri_then ?_)); refine tri_region ?_; (repeat (first | refine au_pure ?_ | refine au_pass ?_ | refine au_box (fun _ => ?_) | refine au_alloc (fun _ => ?_) | refine au_store ?_ | refine au_make rfl rfl (fun _ => ?_) | refine au_lit rfl rfl rfl (fun _ => ?_) | refine au_append rfl rfl rfl rfl (fun _ => au_norm ?_) | refine au_storeE rfl rfl rfl rfl ?_)); refine tri_nil ?_; (repeat refine tri_then ?_)
  (repeat (first | refine zz ?_ | refine zv fun _ => ?_))
  refine au_callC rfl rfl rfl rfl rfl (acheck_c w0 _ hu hR) (fun _ => ?_)
  (repeat (first | refine zz ?_ | refine zv fun _ => ?_))
  refine tri_block ?_
  (repeat (first | refine zz ?_ | refine zv fun _ => ?_))
  refine au_callC rfl rfl rfl rfl rfl (is_c w0 _ hu hR ha) (fun _ => ?_)
  (repeat (first | refine zz ?_ | refine zv fun _ => ?_))
  refine au_callC rfl rfl rfl rfl rfl (ain_c w0 _ n hn) (fun _ => ?_)
  (repeat (first | refine zz ?_ | refine zv fun _ => ?_))
  refine au_done1 rfl ?_
  exact fun w hw => ⟨(), rfl, hw.sub (by repeat (first | exact List.Sublist.refl _ | assumption | apply List.Sublist.cons_cons | apply List.Sublist.cons))⟩
theorem aown_c {v : Value} {u : US} (hu : Uk u) (hR : RdH (Hp w0 cs) v (acL u)) {a : Nat} (ha : a < 3) : Cal Try.prog 24 [v, .int .i64 (a : Int)] (Hp w0 cs) (fun _ : Unit => .int .i64 (ownA u (a : Int))) (fun _ => Hp w0 cs) := by
  have hol := own_len u 3
  have hoa := ownA_at u ha
  refine cal_of_tri Try.func24 rfl Try.ntmps24 rfl ?_
  (repeat (first | refine tri_seq ?_ | refine tri_then ?_)); refine tri_region ?_; (repeat (first | refine au_pure ?_ | refine au_pass ?_ | refine au_box (fun _ => ?_) | refine au_alloc (fun _ => ?_) | refine au_store ?_ | refine au_make rfl rfl (fun _ => ?_) | refine au_lit rfl rfl rfl (fun _ => ?_) | refine au_append rfl rfl rfl rfl (fun _ => au_norm ?_) | refine au_storeE rfl rfl rfl rfl ?_)); refine tri_nil ?_; (repeat refine tri_then ?_)
  (repeat (first | refine zz ?_ | refine zv fun _ => ?_))
  refine au_callC rfl rfl rfl rfl rfl (is_c w0 _ hu hR (a := (a : Int)) (by omega)) (fun _ => ?_)
  (repeat (first | refine zz ?_ | refine zv fun _ => ?_))
  refine au_callC rfl rfl rfl rfl rfl (own_c w0 _ hu hR) ?_
  intro r
  (repeat (first | refine zz ?_ | refine zv fun _ => ?_))
  refine au_pure ?_ (hy := yl_idx (k := a) rfl rfl (rd_chunk (r := r) (l := ownL u 3) ⟨0, rfl⟩) (ix_nat rfl) (by rfl) (by omega))
  refine au_pure ?_ (hy := yl_loadE rfl rfl (rd_chunk (r := r) (l := ownL u 3) ⟨0, rfl⟩) (by rfl) (by omega) (by rfl))
  rw [hoa]
  (repeat (first | refine zz ?_ | refine zv fun _ => ?_))
  refine au_done1 rfl ?_
  exact fun w hw => ⟨(), rfl, hw.sub (List.Sublist.cons _ (List.Sublist.refl _))⟩
set_option maxHeartbeats 1000000 in
theorem add_c {v : Value} {u : US} (hu : Uk u) (hR : RdH (Hp w0 cs) v (acL u)) {a : Nat} (ha : a < 3) {n : Int} (hn : -1048576 ≤ n ∧ n ≤ 1048576) : Cal Try.prog 25 [v, .int .i64 (a : Int), .int .i64 n] (Hp w0 cs) (fun r : Row => r.v) (fun r => Hp w0 (acS r (acL (addU u (a : Int) n)) :: cs)) := by
  have hl := acL_len
  have hpl := pth_len a (a + 1)
  refine cal_of_tri Try.func25 rfl Try.ntmps25 rfl ?_
  (repeat (first | refine tri_seq ?_ | refine tri_then ?_)); refine tri_region ?_; (repeat (first | refine au_pure ?_ | refine au_pass ?_ | refine au_box (fun _ => ?_) | refine au_alloc (fun _ => ?_) | refine au_store ?_ | refine au_make rfl rfl (fun _ => ?_) | refine au_lit rfl rfl rfl (fun _ => ?_) | refine au_append rfl rfl rfl rfl (fun _ => au_norm ?_) | refine au_storeE rfl rfl rfl rfl ?_)); refine tri_nil ?_; (repeat refine tri_then ?_)
  (repeat (first | refine zz ?_ | refine zv fun _ => ?_))
  refine au_callC rfl rfl rfl rfl rfl (cloneAC_c w0 _ hR (by rw [hl]; decide)) ?_
  intro r
  refine tri_weak (H' := Hp w0 (acS r (acL (stU u a n 0)) :: cs)) (fun w h => by rw [stU_zero u ha]; exact h) ?_
  (repeat (first | refine zz ?_ | refine zv fun _ => ?_))
  refine au_callC rfl rfl rfl rfl rfl (path_c w0 _ hu (hR.cons (c := acS r (acL (stU u a n 0)))) ha) ?_
  intro rp
  (repeat (first | refine zz ?_ | refine zv fun _ => ?_))
  refine au_pure ?_ (hy := yl_len rfl rfl (rd_chunk (r := rp) (l := pthL a (a + 1)) ⟨0, rfl⟩))
  rw [hpl]
  (repeat (first | refine zz ?_ | refine zv fun _ => ?_))
  refine tri_block ?_
  refine tri_loop1 (fun (j : Nat) => j ≤ a + 1) (fun j => [(2, .int .i64 n), (7, r.v), (14, rp.v), (15, .int .i64 ((a + 1 : Nat) : Int)), (16, .int .i64 (j : Int))]) (fun j => Hp w0 (inS rp (pthL a (a + 1)) :: acS r (acL (stU u a n j)) :: cs)) (fun j => a + 1 - j) 0 (by omega) (by repeat (first | exact trivial | refine ⟨rfl, ?_⟩)) (fun w h => h) ?_
  intro j hj
  (repeat (first | refine zz ?_ | refine zv fun _ => ?_))
  ((first | refine tri_cond (by rfl) (fun hc => ?_) (fun hc => ?_) | refine tri_gsplit (by rfl) (by rfl) (by (fail_if_success exact (rfl : _ = some (Value.bool true))); (fail_if_success exact (rfl : _ = some (Value.bool false))); rfl) (fun hc => ?_) (fun hc => ?_)) <;> (try simp only [decide_eq_true_eq, decide_eq_false_iff_not, beq_iff_eq, bne_iff_ne, ne_eq, Bool.not_eq_true', Bool.not_eq_false', beq_eq_false_iff_ne, bne_eq_false_iff_eq, Int.not_lt, Int.not_le, gt_iff_lt, ge_iff_le, Bool.and_eq_true, Bool.or_eq_true, Bool.and_eq_false_iff, Bool.or_eq_false_iff, Decidable.not_not, not_true_eq_false, not_false_eq_true, and_true, true_and, or_false, false_or, or_true, true_or, and_false, false_and, eq_self, Bool.true_eq_false, Bool.false_eq_true] at hc) <;> (try (exfalso; omega)))
  case refine_1 =>
    have hja : j ≤ a := by omega
    have hpa := pth_at a (j := a + 1) (i := j) (by omega)
    have hus := stU_us u ha hja n
    have hstp := stU_step u ha hja n
    obtain ⟨f1, f2, f3, f4, f5, f6⟩ := ac_at hu (k := a - j) (by omega)
    rw [← hus] at f2
    have hl2 := hl (stU u a n j)
    have hP : RdH (Hp w0 (inS rp (pthL a (a + 1)) :: acS r (acL (stU u a n j)) :: cs)) rp.v (pthL a (a + 1)) := rd_chunk ⟨0, rfl⟩
    have hA : RdH (Hp w0 (inS rp (pthL a (a + 1)) :: acS r (acL (stU u a n j)) :: cs)) r.v (acL (stU u a n j)) := rd_chunk ⟨1, rfl⟩
    (repeat (first | refine zz ?_ | refine zv fun _ => ?_))
    refine tri_block ?_
    (repeat (first | refine zz ?_ | refine zv fun _ => ?_))
    refine au_pure ?_ (hy := yl_idx (k := j) rfl rfl hP (ix_nat rfl) (by rfl) (by omega))
    refine au_pure ?_ (hy := yl_loadE rfl rfl hP (by rfl) (by omega) (by rfl))
    rw [hpa]
    (repeat (first | refine zz ?_ | refine zv fun _ => ?_))
    refine au_pure ?_ (hy := yl_idx (k := a - j) rfl rfl hA (ix_eq rfl (by omega)) (by rfl) (by omega))
    refine au_pure ?_ (hy := yl_fieldE rfl rfl)
    refine au_pure ?_ (hy := yl_loadE rfl rfl hA (by rfl) (by omega) (by rfl))
    (repeat (first | refine zz ?_ | refine zv fun _ => ?_))
    refine au_pure ?_ (hy := yl_idx (k := a - j) rfl rfl hA (ix_eq rfl (by omega)) (by rfl) (by omega))
    refine au_pure ?_ (hy := yl_fieldE rfl rfl)
    refine au_storeE (α := AC) (a := ⟨((acL (stU u a n j)).getD (a - j) default).pa, ((acL (stU u a n j)).getD (a - j) default).us + n, ((acL (stU u a n j)).getD (a - j) default).mi, ((acL (stU u a n j)).getD (a - j) default).lo, ((acL (stU u a n j)).getD (a - j) default).mx⟩) rfl rfl rfl rfl ?_
    rw [hstp]
    (repeat (first | refine zz ?_ | refine zv fun _ => ?_))
    exact tri_nx1 (j + 1) (by omega) (by omega) (by repeat (first | exact trivial | refine ⟨rfl, ?_⟩)) (fun w h => h)
  have hje : j = a + 1 := by omega
  subst hje
  (repeat (first | refine zz ?_ | refine zv fun _ => ?_))
  refine au_done1 rfl ?_
  exact fun w hw => ⟨r, rfl, by rw [stU_end u ha] at hw; exact hw.sub (List.Sublist.cons _ (List.Sublist.refl _))⟩
theorem uncharge_c {v : Value} {u : US} (hu : Uk u) (hR : RdH (Hp w0 cs) v (acL u)) {a : Nat} (ha : a < 3) {n : Int} (hn : 0 ≤ n ∧ n ≤ 1048576) (ho : n ≤ ownA u (a : Int)) : Cal Try.prog 10 [v, .int .i64 (a : Int), .int .i64 n] (Hp w0 cs) (fun r : Row => .tuple #[r.v, .int .i64 0]) (fun r => Hp w0 (acS r (acL (addU u (a : Int) (-n))) :: cs)) := by
  refine cal_of_tri Try.func10 rfl Try.ntmps10 rfl ?_
  (repeat (first | refine tri_seq ?_ | refine tri_then ?_)); refine tri_region ?_; (repeat (first | refine au_pure ?_ | refine au_pass ?_ | refine au_box (fun _ => ?_) | refine au_alloc (fun _ => ?_) | refine au_store ?_ | refine au_make rfl rfl (fun _ => ?_) | refine au_lit rfl rfl rfl (fun _ => ?_) | refine au_append rfl rfl rfl rfl (fun _ => au_norm ?_) | refine au_storeE rfl rfl rfl rfl ?_)); refine tri_nil ?_; (repeat refine tri_then ?_)
  (repeat (first | refine zz ?_ | refine zv fun _ => ?_))
  refine au_callC rfl rfl rfl rfl rfl (request_c w0 _ hu hR (a := (a : Int)) (by omega) hn) (fun _ => ?_)
  (repeat (first | refine zz ?_ | refine zv fun _ => ?_))
  refine au_callC rfl rfl rfl rfl rfl (aown_c w0 _ hu hR ha) (fun _ => ?_)
  (repeat (first | refine zz ?_ | refine zv fun _ => ?_))
  rw [show decide (n > ownA u (a : Int)) = false from decide_eq_false (by omega)]
  (repeat (first | refine zz ?_ | refine zv fun _ => ?_))
  refine au_pure ?_ (hy := yl_neg rfl rfl)
  rw [show IntKind.i64.wrap (0 - n) = -n by rw [Int.zero_sub]; exact wrap_i64 (by omega)]
  (repeat (first | refine zz ?_ | refine zv fun _ => ?_))
  refine au_callC rfl rfl rfl rfl rfl (add_c w0 _ hu hR ha (n := -n) (by omega)) ?_
  intro r
  (repeat (first | refine zz ?_ | refine zv fun _ => ?_))
  refine au_done2 rfl ?_
  exact fun w hw => ⟨r, rfl, hw⟩
set_option maxHeartbeats 1000000 in
theorem charge_c {v : Value} {u : US} (hu : Uk u) (hR : RdH (Hp w0 cs) v (acL u)) {a : Nat} (ha : a < 3) {n : Int} (hn : 0 ≤ n ∧ n ≤ 1048576) (hf : ∀ k, k ≤ a → ((acL u).getD k default).us + n ≤ ((acL u).getD k default).mx) : Cal Try.prog 22 [v, .int .i64 (a : Int), .int .i64 n] (Hp w0 cs) (fun r : Row => .tuple #[r.v, .int .i64 (-1), .int .i64 0]) (fun r => Hp w0 (acS r (acL (addU u (a : Int) n)) :: cs)) := by
  have hl := acL_len u
  have hpl := pth_len a (a + 1)
  refine cal_of_tri Try.func22 rfl Try.ntmps22 rfl ?_
  (repeat (first | refine tri_seq ?_ | refine tri_then ?_)); refine tri_region ?_; (repeat (first | refine au_pure ?_ | refine au_pass ?_ | refine au_box (fun _ => ?_) | refine au_alloc (fun _ => ?_) | refine au_store ?_ | refine au_make rfl rfl (fun _ => ?_) | refine au_lit rfl rfl rfl (fun _ => ?_) | refine au_append rfl rfl rfl rfl (fun _ => au_norm ?_) | refine au_storeE rfl rfl rfl rfl ?_)); refine tri_nil ?_; (repeat refine tri_then ?_)
  (repeat (first | refine zz ?_ | refine zv fun _ => ?_))
  refine au_callC rfl rfl rfl rfl rfl (request_c w0 _ hu hR (a := (a : Int)) (by omega) hn) (fun _ => ?_)
  (repeat (first | refine zz ?_ | refine zv fun _ => ?_))
  refine au_callC rfl rfl rfl rfl rfl (path_c w0 _ hu hR ha) ?_
  intro rp
  have hR2 := hR.cons (c := inS rp (pthL a (a + 1)))
  have hP : RdH (Hp w0 (inS rp (pthL a (a + 1)) :: cs)) rp.v (pthL a (a + 1)) := rd_chunk ⟨0, rfl⟩
  refine tri_weak (H' := Hp w0 (inS rp (pthL a (a + 1)) :: cs)) (fun w h => h) ?_
  (repeat (first | refine zz ?_ | refine zv fun _ => ?_))
  refine au_pure ?_ (hy := yl_len rfl rfl hP)
  rw [hpl]
  (repeat (first | refine zz ?_ | refine zv fun _ => ?_))
  refine tri_block ?_
  refine tri_loop1 (fun (j : Nat) => j ≤ a + 1) (fun j => [(0, v), (1, .int .i64 (a : Int)), (2, .int .i64 n), (21, rp.v), (22, .int .i64 ((a + 1 : Nat) : Int)), (23, .int .i64 (j : Int))]) (fun _ => Hp w0 (inS rp (pthL a (a + 1)) :: cs)) (fun j => a + 1 - j) 0 (by omega) (by repeat (first | exact trivial | refine ⟨rfl, ?_⟩)) (fun w h => h) ?_
  intro j hj
  (repeat (first | refine zz ?_ | refine zv fun _ => ?_))
  ((first | refine tri_cond (by rfl) (fun hc => ?_) (fun hc => ?_) | refine tri_gsplit (by rfl) (by rfl) (by (fail_if_success exact (rfl : _ = some (Value.bool true))); (fail_if_success exact (rfl : _ = some (Value.bool false))); rfl) (fun hc => ?_) (fun hc => ?_)) <;> (try simp only [decide_eq_true_eq, decide_eq_false_iff_not, beq_iff_eq, bne_iff_ne, ne_eq, Bool.not_eq_true', Bool.not_eq_false', beq_eq_false_iff_ne, bne_eq_false_iff_eq, Int.not_lt, Int.not_le, gt_iff_lt, ge_iff_le, Bool.and_eq_true, Bool.or_eq_true, Bool.and_eq_false_iff, Bool.or_eq_false_iff, Decidable.not_not, not_true_eq_false, not_false_eq_true, and_true, true_and, or_false, false_or, or_true, true_or, and_false, false_and, eq_self, Bool.true_eq_false, Bool.false_eq_true] at hc) <;> (try (exfalso; omega)))
  case refine_1 =>
    have hpa := pth_at a (j := a + 1) (i := j) (by omega)
    have hfk := hf (a - j) (by omega)
    obtain ⟨f1, f2, f3, f4, f5, f6⟩ := ac_at hu (k := a - j) (by omega)
    (repeat (first | refine zz ?_ | refine zv fun _ => ?_))
    refine tri_block ?_
    (repeat (first | refine zz ?_ | refine zv fun _ => ?_))
    refine au_pure ?_ (hy := yl_idx (k := j) rfl rfl hP (ix_nat rfl) (by rfl) (by omega))
    refine au_pure ?_ (hy := yl_loadE rfl rfl hP (by rfl) (by omega) (by rfl))
    rw [hpa]
    (repeat (first | refine zz ?_ | refine zv fun _ => ?_))
    (repeat (first | refine tri_seq ?_ | refine tri_then ?_))
    refine au_draw rfl ?_
    (repeat (first | refine z1 ?_ | refine au_qpass rfl rfl ?_ | refine triq_nil ?_))
    refine au_qpure rfl rfl ?_ (hy := yl_idx (k := a - j) rfl rfl hR2 (ix_eq rfl (by omega)) (by rfl) (by omega))
    refine au_qpure rfl rfl ?_ (hy := yl_fieldE rfl rfl)
    refine au_qpure rfl rfl ?_ (hy := yl_loadE rfl rfl hR2 (by rfl) (by omega) (by rfl))
    (repeat (first | refine z1 ?_ | refine au_qpass rfl rfl ?_ | refine triq_nil ?_))
    refine au_qpure rfl rfl ?_ (hy := yl_idx (k := a - j) rfl rfl hR2 (ix_eq rfl (by omega)) (by rfl) (by omega))
    refine au_qpure rfl rfl ?_ (hy := yl_fieldE rfl rfl)
    refine au_qpure rfl rfl ?_ (hy := yl_loadE rfl rfl hR2 (by rfl) (by omega) (by rfl))
    (repeat (first | refine z1 ?_ | refine au_qpass rfl rfl ?_ | refine triq_nil ?_))
    rw [show decide (((acL u).getD (a - j) default).us + n > ((acL u).getD (a - j) default).mx) = false from decide_eq_false (by omega)]
    (repeat (first | refine zz ?_ | refine zv fun _ => ?_))
    exact tri_nx1 (j + 1) (by omega) (by omega) (by repeat (first | exact trivial | refine ⟨rfl, ?_⟩)) (fun w h => h)
  refine tri_weak (H' := Hp w0 cs) (fun w h => h.sub (List.Sublist.cons _ (List.Sublist.refl _))) ?_
  (repeat (first | refine zz ?_ | refine zv fun _ => ?_))
  refine au_callC rfl rfl rfl rfl rfl (add_c w0 _ hu hR ha (n := n) (by omega)) ?_
  intro r
  (repeat (first | refine zz ?_ | refine zv fun _ => ?_))
  refine au_done3 rfl ?_
  exact fun w hw => ⟨r, rfl, hw⟩
end
end Go.Proofs.Ythlildafofbiaaa
