/- The walks of bStart and right. No conditions. -/
import Derived.Test.YthlildafofbiaaaGrServe
import Derived.Test.YthlildafofbiaaaArr
set_option linter.unusedSimpArgs false
set_option linter.unusedVariables false
namespace Go.Proofs.Ythlildafofbiaaa
open Go Go.RowKit
instance : ArTy Try.prog 32 8 3 1 := ⟨Try.underlying32, Try.sizeOf3⟩
instance : ArTy Try.prog 66 3 3 1 := ⟨Try.underlying66, Try.sizeOf3⟩
abbrev qB (g : Nat) (vq vl : Value) (b : BQ) (vo : Value) : Chunk := blkC g 35 [vq, vl, .int .i64 b.no, .int .i64 b.al, .int .i64 (b.nu 0), .int .i64 (b.nu 1), .int .i64 (b.nu 2), .int .i64 (b.nu 3), .int .i64 (b.nu 4), .int .i64 (b.nu 5), .int .i64 (b.nu 6), .int .i64 (b.nu 7), .int .i64 b.nx, .int .i64 b.la, vo]
abbrev grE (g : Nat) (x : GR) : Chunk := blkC g 39 [.int .i64 x.n, .int .i64 x.p, .int .i64 x.a, .int .i64 x.k, .int .i64 x.u]
/-- The usages as a list. -/
def usL (u : US) : List Int := [u.a, u.b, u.c]
theorem usL_len (u : US) : (usL u).length = 3 := rfl
theorem usL_step (u : US) {a j : Nat} (ha : a < 3) (hj : j ≤ a) (n : Int) : (usL (stU u a n j)).set (a - j) ((usL (stU u a n j)).getD (a - j) default + n) = usL (stU u a n (j + 1)) := by
  have h : a = 0 ∨ a = 1 ∨ a = 2 := by omega
  have h' : j = 0 ∨ j = 1 ∨ j = 2 := by omega
  rcases h with rfl | rfl | rfl <;> rcases h' with rfl | rfl | rfl <;> first | rfl | omega
theorem usL_at (u : US) {a j : Nat} (ha : a < 3) (hj : j ≤ a) (n : Int) : (usL (stU u a n j)).getD (a - j) default = (usL u).getD (a - j) default := by
  have h : a = 0 ∨ a = 1 ∨ a = 2 := by omega
  have h' : j = 0 ∨ j = 1 ∨ j = 2 := by omega
  rcases h with rfl | rfl | rfl <;> rcases h' with rfl | rfl | rfl <;> first | rfl | omega
theorem usL_acL (u : US) {k : Nat} (hk : k < 3) : (usL u).getD k default = ((acL u).getD k default).us := by
  have h : k = 0 ∨ k = 1 ∨ k = 2 := by omega
  rcases h with rfl | rfl | rfl <;> rfl
/-- What some grants charge. -/
def wU (l : List GR) : US := ⟨sumA l 2 + sumA l 1 + sumA l 0, sumA l 2 + sumA l 1, sumA l 2⟩
theorem wU_nil : usL (wU []) = [0, 0, 0] := rfl
theorem wU_bi {b : BQ} (h : Bi b) : wU b.out = b.u := by
  have h1 := h.cc
  have h2 := h.cb
  have h3 := h.ca
  unfold wU
  rw [← h1, ← h2, ← h3]
theorem wU_step {l : List GR} {i : Nat} (hi : i < l.length) (ha : 0 ≤ (l.getD i default).a ∧ (l.getD i default).a < 3) : wU (l.take (i + 1)) = addU (wU (l.take i)) (l.getD i default).a (gT (l.getD i default)) := by
  obtain ⟨x, hx⟩ : ∃ x, x = l.getD i default := ⟨_, rfl⟩
  rw [take_step hi, ← hx]
  rw [← hx] at ha
  have e : ∀ a, sumA (l.take i ++ [x]) a = sumA (l.take i) a + if x.a = a then gT x else 0 := fun a => by unfold sumA; rw [sum_app]; simp
  unfold wU addU
  rw [e, e, e]
  have h : x.a = 0 ∨ x.a = 1 ∨ x.a = 2 := by omega
  rcases h with h | h | h <;> rw [h] <;> simp <;> omega
theorem wU_bd {l : List GR} (h : ∀ x ∈ l, Ak (grA x)) (hl : l.length ≤ 10000) (k : Nat) : 0 ≤ (usL (wU l)).getD k default ∧ (usL (wU l)).getD k default ≤ 1000000 := by
  have key : ∀ (l : List GR), (∀ x ∈ l, Ak (grA x)) → ∀ a, 0 ≤ sumA l a ∧ sumA l a ≤ 5 * l.length := by
    intro l
    induction l with
    | nil => intro _ a; exact ⟨Int.le_refl _, Int.le_refl _⟩
    | cons x l ih =>
      intro h a
      have h1 := ih (fun y hy => h y (List.mem_cons_of_mem _ hy)) a
      have h2 := gT_pos (h x (List.mem_cons_self ..))
      unfold sumA at *
      rw [List.map_cons, List.sum_cons, List.length_cons]
      split <;> omega
  have k0 := key l h 0
  have k1 := key l h 1
  have k2 := key l h 2
  match k with
  | 0 => show 0 ≤ sumA l 2 + sumA l 1 + sumA l 0 ∧ sumA l 2 + sumA l 1 + sumA l 0 ≤ 1000000; omega
  | 1 => show 0 ≤ sumA l 2 + sumA l 1 ∧ sumA l 2 + sumA l 1 ≤ 1000000; omega
  | 2 => show 0 ≤ sumA l 2 ∧ sumA l 2 ≤ 1000000; omega
  | _ + 3 => exact ⟨show (0 : Int) ≤ 0 by omega, show (0 : Int) ≤ 1000000 by omega⟩
abbrev waS (g : Nat) (l : List Int) : Chunk := slC (arR g 3) 66 l
attribute [local irreducible] acL shM sumA sumK sumT
attribute [local irreducible] Code.wp wpList bodyPost Exit.then Exit.inBlock Calls wpQuiet Tri TriQ
section
variable (w0 : World) (cs : List Chunk)
theorem start_c : Cal Try.prog 5 [] (Hp w0 cs) (fun y : Nat × Row => .pointer (some ⟨y.1, 0, none⟩)) (fun y => Hp w0 (qB y.1 (.slice none 0 0) y.2.v bq0 (.slice none 0 0) :: acS y.2 (acL ⟨0, 0, 0⟩) :: cs)) := by
  refine cal_of_tri Try.func5 rfl Try.ntmps5 rfl ?_
  (repeat (first | refine tri_seq ?_ | refine tri_then ?_)); refine tri_region ?_; (repeat (first | refine au_pure ?_ | refine au_pass ?_ | refine au_box (fun _ => ?_) | refine au_alloc (fun _ => ?_) | refine au_store ?_ | refine au_make rfl rfl (fun _ => ?_) | refine au_lit rfl rfl rfl (fun _ => ?_) | refine au_append rfl rfl rfl rfl (fun _ => au_norm ?_) | refine au_storeE rfl rfl rfl rfl ?_)); refine tri_nil ?_; (repeat refine tri_then ?_)
  (repeat (first | refine zz ?_ | refine zv fun _ => ?_))
  refine au_lit (l := acL ⟨0, 0, 0⟩) rfl rfl rfl (fun r => ?_) (hl := by unfold acL; repeat (first | exact nf0 rfl | apply nfS rfl | exact nfR)) (he := by unfold acL; rfl) (hlen := by unfold acL; rfl)
  (repeat (first | refine zz ?_ | refine zv fun _ => ?_))
  rename_i g
  refine au_done1 rfl ?_
  exact fun w hw => ⟨(g, r), rfl, hw⟩
set_option maxHeartbeats 4000000 in
theorem right_c {g : Nat} {vq vl vo : Value} {b : BQ} (hB : Has cs (qB g vq vl b vo)) (h : Bi b) (hR : RdH (Hp w0 cs) vl (acL b.u)) (hO : RdH (Hp w0 cs) vo b.out) (hol : b.out.length ≤ 10000) : Cal Try.prog 11 [.pointer (some ⟨g, 0, none⟩)] (Hp w0 cs) (fun _ : Unit => .bool true) (fun _ => Hp w0 cs) := by
  have hl := acL_len b.u
  have hn0 := h.n0
  have ht0 := h.t0
  refine cal_of_tri Try.func11 rfl Try.ntmps11 rfl ?_
  (repeat (first | refine tri_seq ?_ | refine tri_then ?_)); refine tri_region ?_; (repeat (first | refine au_pure ?_ | refine au_pass ?_ | refine au_box (fun _ => ?_) | refine au_alloc (fun _ => ?_) | refine au_store ?_ | refine au_make rfl rfl (fun _ => ?_) | refine au_lit rfl rfl rfl (fun _ => ?_) | refine au_append rfl rfl rfl rfl (fun _ => au_norm ?_) | refine au_storeE rfl rfl rfl rfl ?_)); refine tri_nil ?_; (repeat refine tri_then ?_)
  (repeat (first | refine zz ?_ | refine zv fun _ => ?_))
  refine au_pure ?_ (hy := yl_len rfl rfl hR)
  rw [hl]
  (repeat (first | refine zz ?_ | refine zv fun _ => ?_))
  rw [show decide (b.no < 0) = false from decide_eq_false (by omega)]
  (repeat (first | refine zz ?_ | refine zv fun _ => ?_))
  rw [show decide (b.al < 0) = false from decide_eq_false (by omega)]
  (repeat (first | refine zz ?_ | refine zv fun _ => ?_))
  rename_i g3
  refine tri_asrow ([0, 0, 0] : List Int) (i := 0) rfl rfl rfl rfl (by repeat (first | exact nf0 rfl | apply nfS rfl | exact nfR)) ?_
  refine tri_weak (H' := Hp w0 (waS g3 (usL (wU (b.out.take 0))) :: cs)) (fun w h => by rw [List.take_zero, wU_nil]; exact h) ?_
  (repeat (first | refine zz ?_ | refine zv fun _ => ?_))
  refine au_pure ?_ (hy := yl_len rfl rfl hO.cons)
  (repeat (first | refine zz ?_ | refine zv fun _ => ?_))
  refine tri_block ?_
  refine tri_loop1 (fun (i : Nat) => i ≤ b.out.length) (fun i => [(0, .pointer (some ⟨g, 0, none⟩)), (3, .pointer (some ⟨g3, 0, none⟩)), (33, vo), (34, .int .i64 (b.out.length : Int)), (35, .int .i64 (i : Int))]) (fun i => Hp w0 (waS g3 (usL (wU (b.out.take i))) :: cs)) (fun i => b.out.length - i) 0 (by omega) (by repeat (first | exact trivial | refine ⟨rfl, ?_⟩)) (fun w h => h) ?_
  intro i hi
  (repeat (first | refine zz ?_ | refine zv fun _ => ?_))
  ((first | refine tri_cond (by rfl) (fun hc => ?_) (fun hc => ?_) | refine tri_gsplit (by rfl) (by rfl) (by (fail_if_success exact (rfl : _ = some (Value.bool true))); (fail_if_success exact (rfl : _ = some (Value.bool false))); rfl) (fun hc => ?_) (fun hc => ?_)) <;> (try simp only [decide_eq_true_eq, decide_eq_false_iff_not, beq_iff_eq, bne_iff_ne, ne_eq, Bool.not_eq_true', Bool.not_eq_false', beq_eq_false_iff_ne, bne_eq_false_iff_eq, Int.not_lt, Int.not_le, gt_iff_lt, ge_iff_le, Bool.and_eq_true, Bool.or_eq_true, Bool.and_eq_false_iff, Bool.or_eq_false_iff, Decidable.not_not, not_true_eq_false, not_false_eq_true, and_true, true_and, or_false, false_or, or_true, true_or, and_false, false_and, eq_self, Bool.true_eq_false, Bool.false_eq_true] at hc) <;> (try (exfalso; omega)))
  case refine_1 =>
    have hi' : i < b.out.length := by omega
    obtain ⟨x, hx⟩ : ∃ x, x = b.out.getD i default := ⟨_, rfl⟩
    have hA := h.o x (by rw [hx, getD_get hi']; exact List.getElem_mem hi')
    have hxa : 0 ≤ x.a ∧ x.a < 3 := hA.a
    have hxk : 0 ≤ x.k ∧ x.k ≤ 2 := hA.k
    have hxu : 0 ≤ x.u ∧ x.u ≤ 3 := hA.u
    obtain ⟨a, ha⟩ : ∃ a : Nat, x.a = (a : Int) := ⟨x.a.toNat, by omega⟩
    have ha3 : a < 3 := by omega
    have hst := wU_step hi' (by rw [← hx]; exact hxa)
    rw [← hx, ha] at hst
    have hbd := wU_bd (l := b.out.take i) (fun y hy => h.o y (List.mem_of_mem_take hy)) (by rw [List.length_take]; omega)
    have hg : gT x = x.k + x.u := rfl
    have hpl := pth_len a (a + 1)
    obtain ⟨U, hU⟩ : ∃ U, U = wU (b.out.take i) := ⟨_, rfl⟩
    rw [← hU] at hst hbd ⊢
    (repeat (first | refine zz ?_ | refine zv fun _ => ?_))
    refine tri_block ?_
    (repeat (first | refine zz ?_ | refine zv fun _ => ?_))
    refine au_pure ?_ (hy := yl_idx (k := i) rfl rfl hO.cons (ix_nat rfl) (by rfl) (by omega))
    refine au_pure ?_ (hy := yl_loadEN rfl rfl hO.cons (by rfl) (by omega) (by repeat (first | exact nf0 rfl | apply nfS rfl | exact nfR)) (by rfl))
    rw [← hx]
    (repeat (first | refine au_pure ?_ | refine au_pass ?_ | refine au_box (fun _ => ?_) | refine au_alloc (fun _ => ?_) | refine au_store ?_ | refine au_make rfl rfl (fun _ => ?_) | refine au_lit rfl rfl rfl (fun _ => ?_) | refine au_append rfl rfl rfl rfl (fun _ => au_norm ?_) | refine au_storeE rfl rfl rfl rfl ?_)); refine tri_nil ?_; (repeat refine tri_then ?_)
    rename_i g5
    refine tri_weak (H' := Hp w0 (grE g5 x :: waS g3 (usL U) :: cs)) (fun w h => h) ?_
    have hR2 := (hR.cons (c := waS g3 (usL U))).cons (c := grE g5 x)
    have hB2 : Has (grE g5 x :: waS g3 (usL U) :: cs) (qB g vq vl b vo) := has_cons (has_cons hB)
    (repeat (first | refine tri_seq ?_ | refine tri_then ?_))
    refine ar_held [] (grE g5 x :: waS g3 (usL U) :: cs) rfl ?_
    refine ar_take 0 rfl rfl rfl ?_; refine ar_take 1 rfl rfl rfl ?_; refine ar_take 2 rfl rfl rfl ?_; refine ar_take 3 rfl rfl rfl ?_; refine ar_take 4 rfl rfl rfl ?_; refine ar_take 5 rfl rfl rfl ?_; refine ar_take 6 rfl rfl rfl ?_; refine ar_take 9 rfl rfl rfl ?_
    rw [ha]
    refine ar_op 7 rfl ?_
    refine au_callC rfl rfl rfl rfl rfl (path_c w0 _ h.uk hR2 ha3) ?_
    intro rp
    refine tri_nil ?_; refine ar_in ?_
    refine ar_op 8 rfl ?_
    refine au_pure ?_ (hy := yl_len rfl rfl (rd_chunk (r := rp) (l := pthL a (a + 1)) ⟨0, rfl⟩))
    rw [hpl]
    refine tri_nil ?_; refine ar_in ?_
    refine ar_done ?_
    refine tri_weak (H' := Hp w0 (inS rp (pthL a (a + 1)) :: grE g5 x :: waS g3 (usL (stU U a (gT x) 0)) :: cs)) (fun w h => by rw [stU_zero U ha3]; exact h) ?_
    (repeat (first | refine zz ?_ | refine zv fun _ => ?_))
    refine tri_block ?_
    refine tri_loop1 (fun (j : Nat) => j ≤ a + 1) (fun j => [(0, .pointer (some ⟨g, 0, none⟩)), (3, .pointer (some ⟨g3, 0, none⟩)), (33, vo), (34, .int .i64 (b.out.length : Int)), (35, .int .i64 (i : Int)), (5, .pointer (some ⟨g5, 0, none⟩)), (46, rp.v), (47, .int .i64 ((a + 1 : Nat) : Int)), (48, .int .i64 (j : Int))])
      (fun j => Hp w0 (inS rp (pthL a (a + 1)) :: grE g5 x :: waS g3 (usL (stU U a (gT x) j)) :: cs)) (fun j => a + 1 - j) 0 (by omega) (by repeat (first | exact trivial | refine ⟨rfl, ?_⟩)) (fun w h => h) ?_
    intro j hj
    (repeat (first | refine zz ?_ | refine zv fun _ => ?_))
    ((first | refine tri_cond (by rfl) (fun hc => ?_) (fun hc => ?_) | refine tri_gsplit (by rfl) (by rfl) (by (fail_if_success exact (rfl : _ = some (Value.bool true))); (fail_if_success exact (rfl : _ = some (Value.bool false))); rfl) (fun hc => ?_) (fun hc => ?_)) <;> (try simp only [decide_eq_true_eq, decide_eq_false_iff_not, beq_iff_eq, bne_iff_ne, ne_eq, Bool.not_eq_true', Bool.not_eq_false', beq_eq_false_iff_ne, bne_eq_false_iff_eq, Int.not_lt, Int.not_le, gt_iff_lt, ge_iff_le, Bool.and_eq_true, Bool.or_eq_true, Bool.and_eq_false_iff, Bool.or_eq_false_iff, Decidable.not_not, not_true_eq_false, not_false_eq_true, and_true, true_and, or_false, false_or, or_true, true_or, and_false, false_and, eq_self, Bool.true_eq_false, Bool.false_eq_true] at hc) <;> (try (exfalso; omega)))
    case refine_1 =>
      have hja : j ≤ a := by omega
      have hpa := pth_at a (j := a + 1) (i := j) (by omega)
      have hus := usL_at U ha3 hja (gT x)
      have hstp := usL_step U ha3 hja (gT x)
      have hb2 := hbd (a - j)
      rw [← hus] at hb2
      have hul := usL_len (stU U a (gT x) j)
      have hP : RdH (Hp w0 (inS rp (pthL a (a + 1)) :: grE g5 x :: waS g3 (usL (stU U a (gT x) j)) :: cs)) rp.v (pthL a (a + 1)) := rd_chunk ⟨0, rfl⟩
      have hW : RdH (Hp w0 (inS rp (pthL a (a + 1)) :: grE g5 x :: waS g3 (usL (stU U a (gT x) j)) :: cs)) (arR g3 3).v (usL (stU U a (gT x) j)) := rd_chunk ⟨2, rfl⟩
      (repeat (first | refine zz ?_ | refine zv fun _ => ?_))
      refine tri_block ?_
      (repeat (first | refine zz ?_ | refine zv fun _ => ?_))
      refine au_pure ?_ (hy := yl_idx (k := j) rfl rfl hP (ix_nat rfl) (by rfl) (by omega))
      refine au_pure ?_ (hy := yl_loadE rfl rfl hP (by rfl) (by omega) (by rfl))
      rw [hpa]
      (repeat (first | refine zz ?_ | refine zv fun _ => ?_))
      rw [show decide ((a : Int) - j < 0) = false from decide_eq_false (by omega)]
      (repeat (first | refine zz ?_ | refine zv fun _ => ?_))
      rw [show decide ((a : Int) - j > 2) = false from decide_eq_false (by omega)]
      (repeat (first | refine zz ?_ | refine zv fun _ => ?_))
      (repeat (first | refine tri_seq ?_ | refine tri_then ?_))
      refine ar_held [12] (inS rp (pthL a (a + 1)) :: grE g5 x :: waS g3 (usL (stU U a (gT x) j)) :: cs) rfl ?_
      refine ar_take 0 rfl rfl rfl ?_
      refine ar_take 1 rfl rfl rfl ?_ (hy := yl_idxR (k := a - j) rfl rfl (ix_eq rfl (by omega)) (by omega))
      refine ar_take 2 rfl rfl rfl ?_ (hy := yl_loadE rfl rfl hW (by rfl) (by omega) (by rfl))
      refine ar_take 3 rfl rfl rfl ?_; refine ar_take 4 rfl rfl rfl ?_; refine ar_take 5 rfl rfl rfl ?_; refine ar_take 6 rfl rfl rfl ?_; refine ar_take 7 rfl rfl rfl ?_; refine ar_take 8 rfl rfl rfl ?_; refine ar_take 9 rfl rfl rfl ?_; refine ar_take 10 rfl rfl rfl ?_
      refine ar_take 11 rfl rfl rfl ?_ (hy := yl_idxR (k := a - j) rfl rfl (ix_eq rfl (by omega)) (by omega))
      refine ar_op 12 rfl ?_
      refine au_storeE (a := (usL (stU U a (gT x) j)).getD (a - j) default + gT x) rfl rfl rfl rfl ?_
      refine tri_nil ?_; refine ar_ink ?_
      refine ar_done ?_
      rw [hstp]
      (repeat (first | refine zz ?_ | refine zv fun _ => ?_))
      exact tri_nx1 (j + 1) (by omega) (by omega) (by repeat (first | exact trivial | refine ⟨rfl, ?_⟩)) (fun w h => h)
    have hje : j = a + 1 := by omega
    subst hje
    (repeat (first | refine zz ?_ | refine zv fun _ => ?_))
    exact tri_nx1 (i + 1) (by omega) (by omega) (by repeat (first | exact trivial | refine ⟨rfl, ?_⟩)) (fun w h => by
      rw [hst, ← stU_end U ha3]
      exact h.sub (List.Sublist.cons _ (List.Sublist.cons _ (List.Sublist.refl _))))
  have hie : i = b.out.length := by omega
  subst hie
  rw [List.take_length, wU_bi h]
  have hR2 := hR.cons (c := waS g3 (usL b.u))
  have hB2 : Has (waS g3 (usL b.u) :: cs) (qB g vq vl b vo) := has_cons hB
  have hul := usL_len b.u
  refine tri_weak (H' := Hp w0 (waS g3 (usL b.u) :: cs)) (fun w h => h) ?_
  (repeat (first | refine zz ?_ | refine zv fun _ => ?_))
  refine au_pure ?_ (hy := yl_len rfl rfl hR2)
  rw [hl]
  (repeat (first | refine zz ?_ | refine zv fun _ => ?_))
  refine tri_block ?_
  refine tri_loop1 (fun (k : Nat) => k ≤ 3) (fun k => [(3, .pointer (some ⟨g3, 0, none⟩)), (75, vl), (76, .int .i64 ((3 : Nat) : Int)), (77, .int .i64 (k : Int))]) (fun _ => Hp w0 (waS g3 (usL b.u) :: cs)) (fun k => 3 - k) 0 (by omega) (by repeat (first | exact trivial | refine ⟨rfl, ?_⟩)) (fun w h => h) ?_
  clear hi
  intro k hk
  (repeat (first | refine zz ?_ | refine zv fun _ => ?_))
  ((first | refine tri_cond (by rfl) (fun hc => ?_) (fun hc => ?_) | refine tri_gsplit (by rfl) (by rfl) (by (fail_if_success exact (rfl : _ = some (Value.bool true))); (fail_if_success exact (rfl : _ = some (Value.bool false))); rfl) (fun hc => ?_) (fun hc => ?_)) <;> (try simp only [decide_eq_true_eq, decide_eq_false_iff_not, beq_iff_eq, bne_iff_ne, ne_eq, Bool.not_eq_true', Bool.not_eq_false', beq_eq_false_iff_ne, bne_eq_false_iff_eq, Int.not_lt, Int.not_le, gt_iff_lt, ge_iff_le, Bool.and_eq_true, Bool.or_eq_true, Bool.and_eq_false_iff, Bool.or_eq_false_iff, Decidable.not_not, not_true_eq_false, not_false_eq_true, and_true, true_and, or_false, false_or, or_true, true_or, and_false, false_and, eq_self, Bool.true_eq_false, Bool.false_eq_true] at hc) <;> (try (exfalso; omega)))
  case refine_1 =>
    have hk3 : k < 3 := by omega
    have hua := usL_acL b.u hk3
    obtain ⟨x, hx⟩ : ∃ x, x = (acL b.u).getD k default := ⟨_, rfl⟩
    obtain ⟨f1, f2, f3, f4, f5, f6⟩ := ac_at h.uk hk3
    rw [← hx] at f1 f2 f3 f4 f5 f6 hua
    (repeat (first | refine zz ?_ | refine zv fun _ => ?_))
    refine tri_block ?_
    (repeat (first | refine zz ?_ | refine zv fun _ => ?_))
    refine au_pure ?_ (hy := yl_idx (k := k) rfl rfl hR2 (ix_nat rfl) (by rfl) (by omega))
    refine au_pure ?_ (hy := yl_loadEN rfl rfl hR2 (by rfl) (by omega) (by repeat (first | exact nf0 rfl | apply nfS rfl | exact nfR)) (by rfl))
    rw [← hx]
    (repeat (first | refine au_pure ?_ | refine au_pass ?_ | refine au_box (fun _ => ?_) | refine au_alloc (fun _ => ?_) | refine au_store ?_ | refine au_make rfl rfl (fun _ => ?_) | refine au_lit rfl rfl rfl (fun _ => ?_) | refine au_append rfl rfl rfl rfl (fun _ => au_norm ?_) | refine au_storeE rfl rfl rfl rfl ?_)); refine tri_nil ?_; (repeat refine tri_then ?_)
    rename_i g9
    refine tri_weak (H' := Hp w0 (acE g9 x :: waS g3 (usL b.u) :: cs)) (fun w h => h) ?_
    have hW : RdH (Hp w0 (acE g9 x :: waS g3 (usL b.u) :: cs)) (arR g3 3).v (usL b.u) := rd_chunk ⟨1, rfl⟩
    (repeat (first | refine zz ?_ | refine zv fun _ => ?_))
    (repeat (first | refine tri_seq ?_ | refine tri_then ?_))
    refine au_draw rfl ?_
    (repeat (first | refine z1 ?_ | refine au_qpass rfl rfl ?_ | refine triq_nil ?_))
    refine au_qpure rfl rfl ?_ (hy := yl_idxR (k := k) rfl rfl (ix_nat rfl) (by omega))
    refine au_qpure rfl rfl ?_ (hy := yl_loadE rfl rfl hW (by rfl) (by omega) (by rfl))
    rw [hua]
    refine au_qpure rfl rfl ?_ (hy := yl_neq rfl rfl rfl)
    rw [show (x.us != x.us) = false by simp]
    (repeat (first | refine z1 ?_ | refine au_qpass rfl rfl ?_ | refine triq_nil ?_))
    rw [show decide (x.us > x.mx) = false from decide_eq_false (by omega)]
    (repeat (first | refine z1 ?_ | refine au_qpass rfl rfl ?_ | refine triq_nil ?_))
    (repeat (first | refine zz ?_ | refine zv fun _ => ?_))
    exact tri_nx1 (k + 1) (by omega) (by omega) (by repeat (first | exact trivial | refine ⟨rfl, ?_⟩)) (fun w h => h.sub (List.Sublist.cons _ (List.Sublist.refl _)))
  (repeat (first | refine zz ?_ | refine zv fun _ => ?_))
  refine au_done1 rfl ?_
  exact fun w hw => ⟨(), rfl, hw.sub (List.Sublist.cons _ (List.Sublist.refl _))⟩
end
end Go.Proofs.Ythlildafofbiaaa
