/- The walks of the queue of asks: of, valid, Check, Push, Cancel. No conditions. -/
import Derived.Test.YthlildafofbiaaaGrAcc2
import Derived.Test.YthlildafofbiaaaSeq2
set_option linter.unusedSimpArgs false
set_option linter.unusedVariables false
namespace Go.Proofs.Ythlildafofbiaaa
open Go Go.RowKit
theorem has_app {c : Chunk} {cs ds : List Chunk} (h : Has cs c) : Has (ds ++ cs) c := by
  induction ds with
  | nil => exact h
  | cons d ds ih => exact has_cons ih
theorem calr {P : Program} {f : Nat} {args : List Value} {H : World → Prop} {v : Value} (h : Cal P f args H (fun _ : Unit => v) (fun _ => H)) : ∀ w, H w → Calls P f args.toArray w fun e w' => e = .returned v ∧ H w' := fun w hw => (h w hw).mono fun _ _ ⟨_, h1, h2⟩ => ⟨h1, h2⟩
/-- A valid queue. -/
structure Qk (q : List AK) : Prop where
  a : ∀ x ∈ q, Ak x
  d : (q.map AK.p).Nodup
  l : q.length ≤ 8
theorem Bi.qk {b : BQ} (h : Bi b) : Qk b.q := ⟨h.q, h.d, q_le h⟩
theorem Qk.at {q : List AK} (h : Qk q) {i : Nat} (hi : i < q.length) : Ak (q.getD i default) := h.a _ (by rw [getD_get hi]; exact List.getElem_mem hi)
theorem Qk.idx {q : List AK} (h : Qk q) {i : Nat} (hi : i < q.length) : idxM (fun x => x.p == (q.getD i default).p) q = (i : Int) := by
  refine idxM_some hi (by simp) fun j hj => ?_
  have hn := List.pairwise_iff_getElem.1 (List.nodup_iff_pairwise_ne.1 h.d) j i (by rw [List.length_map]; omega) (by rw [List.length_map]; omega) hj
  rw [List.getElem_map, List.getElem_map] at hn
  rw [getD_get (by omega), getD_get hi]
  simpa using hn
attribute [local irreducible] Code.wp wpList bodyPost Exit.then Exit.inBlock Calls wpQuiet Tri TriQ
section
variable (w0 : World) (cs : List Chunk)
theorem oft_c {g : Nat} {p : Int} {l : List AK} (hj : Has cs (blkC g 3 [.int .i64 p])) : TstAK w0 cs 29 [.pointer (some ⟨g, 0, none⟩)] (fun x => x.p == p) l := fun ds x _ => by
  have hj' : Has (ds ++ cs) (blkC g 3 [.int .i64 p]) := has_app hj
  show Cal _ _ [.agg #[.int .i64 x.p, .int .i64 x.a, .int .i64 x.k, .int .i64 x.u], .pointer (some ⟨g, 0, none⟩)] _ _ _
  refine cal_of_tri Try.func29 rfl Try.ntmps29 rfl ?_
  (repeat (first | refine tri_seq ?_ | refine tri_then ?_)); refine tri_region ?_; (repeat (first | refine au_pure ?_ | refine au_pass ?_ | refine au_box (fun _ => ?_) | refine au_alloc (fun _ => ?_) | refine au_store ?_ | refine au_make rfl rfl (fun _ => ?_) | refine au_lit rfl rfl rfl (fun _ => ?_) | refine au_append rfl rfl rfl rfl (fun _ => au_norm ?_) | refine au_storeE rfl rfl rfl rfl ?_)); refine tri_nil ?_; (repeat refine tri_then ?_)
  (repeat (first | refine zz ?_ | refine zv fun _ => ?_))
  refine au_done1 rfl ?_
  exact fun w hw => ⟨(), rfl, hw.sub (List.Sublist.cons _ (List.Sublist.refl _))⟩
theorem of_c {v : Value} {q : List AK} (hR : RdH (Hp w0 cs) v q) (hl : q.length ≤ 100) (p : Int) : Cal Try.prog 14 [v, .int .i64 p] (Hp w0 cs) (fun _ : Unit => .int .i64 (idxM (fun x => x.p == p) q)) (fun _ => Hp w0 cs) := by
  refine cal_of_tri Try.func14 rfl Try.ntmps14 rfl ?_
  (repeat (first | refine tri_seq ?_ | refine tri_then ?_)); refine tri_region ?_; (repeat (first | refine au_pure ?_ | refine au_pass ?_ | refine au_box (fun _ => ?_) | refine au_alloc (fun _ => ?_) | refine au_store ?_ | refine au_make rfl rfl (fun _ => ?_) | refine au_lit rfl rfl rfl (fun _ => ?_) | refine au_append rfl rfl rfl rfl (fun _ => au_norm ?_) | refine au_storeE rfl rfl rfl rfl ?_)); refine tri_nil ?_; (repeat refine tri_then ?_)
  rename_i g
  (repeat (first | refine zz ?_ | refine zv fun _ => ?_))
  refine au_pure ?_ (hy := yl_func rfl rfl)
  refine au_callC rfl rfl rfl rfl rfl (indexFuncAK_c w0 _ (hR.cons (c := blkC g 3 [.int .i64 p])) (by omega) (oft_c w0 _ ⟨0, rfl⟩)) (fun _ => ?_)
  (repeat (first | refine zz ?_ | refine zv fun _ => ?_))
  refine au_done1 rfl ?_
  exact fun w hw => ⟨(), rfl, hw.sub (List.Sublist.cons _ (List.Sublist.refl _))⟩
theorem valid_c {x : AK} (h : Ak x) : Cal Try.prog 13 [akV x] (Hp w0 cs) (fun _ : Unit => .bool true) (fun _ => Hp w0 cs) := by
  obtain ⟨p, a, k, u⟩ := x
  have hp : 0 ≤ p ∧ p < 8 := h.p
  have ha : 0 ≤ a ∧ a < 3 := h.a
  have hk : 0 ≤ k ∧ k ≤ 2 := h.k
  have hu : 0 ≤ u ∧ u ≤ 3 := h.u
  show Cal _ _ [.agg #[.int .i64 p, .int .i64 a, .int .i64 k, .int .i64 u]] _ _ _
  refine cal_of_tri Try.func13 rfl Try.ntmps13 rfl ?_
  (repeat (first | refine tri_seq ?_ | refine tri_then ?_)); refine tri_region ?_; (repeat (first | refine au_pure ?_ | refine au_pass ?_ | refine au_box (fun _ => ?_) | refine au_alloc (fun _ => ?_) | refine au_store ?_ | refine au_make rfl rfl (fun _ => ?_) | refine au_lit rfl rfl rfl (fun _ => ?_) | refine au_append rfl rfl rfl rfl (fun _ => au_norm ?_) | refine au_storeE rfl rfl rfl rfl ?_)); refine tri_nil ?_; (repeat refine tri_then ?_)
  (repeat (first | refine zz ?_ | refine zv fun _ => ?_))
  rw [show decide (p ≥ 0) = true from decide_eq_true (by omega)]
  (repeat (first | refine zz ?_ | refine zv fun _ => ?_))
  rw [show decide (p < 8) = true from decide_eq_true (by omega)]
  (repeat (first | refine zz ?_ | refine zv fun _ => ?_))
  rw [show decide (a ≥ 0) = true from decide_eq_true (by omega)]
  (repeat (first | refine zz ?_ | refine zv fun _ => ?_))
  refine au_callC rfl rfl rfl rfl rfl (gin_c w0 _ k (by omega)) (fun _ => ?_)
  (repeat (first | refine zz ?_ | refine zv fun _ => ?_))
  refine au_callC rfl rfl rfl rfl rfl (gin_c w0 _ u (by omega)) (fun _ => ?_)
  (repeat (first | refine zz ?_ | refine zv fun _ => ?_))
  refine au_done1 rfl ?_
  exact fun w hw => ⟨(), rfl, hw.sub (by repeat (first | exact List.Sublist.refl _ | assumption | apply List.Sublist.cons_cons | apply List.Sublist.cons))⟩
set_option maxHeartbeats 1000000 in
theorem gcheck_c {v : Value} {q : List AK} (hR : RdH (Hp w0 cs) v q) (hq : Qk q) : Cal Try.prog 12 [v] (Hp w0 cs) (fun _ : Unit => .int .i64 0) (fun _ => Hp w0 cs) := by
  have hl := hq.l
  refine cal_of_tri Try.func12 rfl Try.ntmps12 rfl ?_
  (repeat (first | refine tri_seq ?_ | refine tri_then ?_)); refine tri_region ?_; (repeat (first | refine au_pure ?_ | refine au_pass ?_ | refine au_box (fun _ => ?_) | refine au_alloc (fun _ => ?_) | refine au_store ?_ | refine au_make rfl rfl (fun _ => ?_) | refine au_lit rfl rfl rfl (fun _ => ?_) | refine au_append rfl rfl rfl rfl (fun _ => au_norm ?_) | refine au_storeE rfl rfl rfl rfl ?_)); refine tri_nil ?_; (repeat refine tri_then ?_)
  (repeat (first | refine zz ?_ | refine zv fun _ => ?_))
  refine au_pure ?_ (hy := yl_len rfl rfl hR)
  (repeat (first | refine zz ?_ | refine zv fun _ => ?_))
  refine tri_block ?_
  refine tri_loop1 (fun (i : Nat) => i ≤ q.length) (fun i => [(0, v), (7, v), (8, .int .i64 (q.length : Int)), (9, .int .i64 (i : Int))]) (fun _ => Hp w0 cs) (fun i => q.length - i) 0 (by omega) (by repeat (first | exact trivial | refine ⟨rfl, ?_⟩)) (fun w h => h) ?_
  intro i hi
  (repeat (first | refine zz ?_ | refine zv fun _ => ?_))
  ((first | refine tri_cond (by rfl) (fun hc => ?_) (fun hc => ?_) | refine tri_gsplit (by rfl) (by rfl) (by (fail_if_success exact (rfl : _ = some (Value.bool true))); (fail_if_success exact (rfl : _ = some (Value.bool false))); rfl) (fun hc => ?_) (fun hc => ?_)) <;> (try simp only [decide_eq_true_eq, decide_eq_false_iff_not, beq_iff_eq, bne_iff_ne, ne_eq, Bool.not_eq_true', Bool.not_eq_false', beq_eq_false_iff_ne, bne_eq_false_iff_eq, Int.not_lt, Int.not_le, gt_iff_lt, ge_iff_le, Bool.and_eq_true, Bool.or_eq_true, Bool.and_eq_false_iff, Bool.or_eq_false_iff, Decidable.not_not, not_true_eq_false, not_false_eq_true, and_true, true_and, or_false, false_or, or_true, true_or, and_false, false_and, eq_self, Bool.true_eq_false, Bool.false_eq_true] at hc) <;> (try (exfalso; omega)))
  case refine_1 =>
    have hA := hq.at (i := i) (by omega)
    (repeat (first | refine zz ?_ | refine zv fun _ => ?_))
    refine tri_block ?_
    (repeat (first | refine zz ?_ | refine zv fun _ => ?_))
    refine au_pure ?_ (hy := yl_idx (k := i) rfl rfl hR (ix_nat rfl) (by rfl) (by omega))
    refine au_pure ?_ (hy := yl_loadEN rfl rfl hR (by rfl) (by omega) (by repeat (first | exact nf0 rfl | apply nfS rfl | exact nfR)) (by rfl))
    (repeat (first | refine zz ?_ | refine zv fun _ => ?_))
    refine au_callC rfl rfl rfl rfl rfl (valid_c w0 _ hA) (fun _ => ?_)
    (repeat (first | refine zz ?_ | refine zv fun _ => ?_))
    exact tri_nx1 (i + 1) (by omega) (by omega) (by repeat (first | exact trivial | refine ⟨rfl, ?_⟩)) (fun w h => h.sub (by repeat (first | exact List.Sublist.refl _ | assumption | apply List.Sublist.cons_cons | apply List.Sublist.cons)))
  (repeat (first | refine zz ?_ | refine zv fun _ => ?_))
  refine au_pure ?_ (hy := yl_len rfl rfl hR)
  (repeat (first | refine zz ?_ | refine zv fun _ => ?_))
  refine tri_block ?_
  refine tri_loop1 (fun (i : Nat) => i ≤ q.length) (fun i => [(0, v), (17, v), (18, .int .i64 (q.length : Int)), (19, .int .i64 (i : Int))]) (fun _ => Hp w0 cs) (fun i => q.length - i) 0 (by omega) (by repeat (first | exact trivial | refine ⟨rfl, ?_⟩)) (fun w h => h) ?_
  clear hi
  intro i hi
  (repeat (first | refine zz ?_ | refine zv fun _ => ?_))
  ((first | refine tri_cond (by rfl) (fun hc => ?_) (fun hc => ?_) | refine tri_gsplit (by rfl) (by rfl) (by (fail_if_success exact (rfl : _ = some (Value.bool true))); (fail_if_success exact (rfl : _ = some (Value.bool false))); rfl) (fun hc => ?_) (fun hc => ?_)) <;> (try simp only [decide_eq_true_eq, decide_eq_false_iff_not, beq_iff_eq, bne_iff_ne, ne_eq, Bool.not_eq_true', Bool.not_eq_false', beq_eq_false_iff_ne, bne_eq_false_iff_eq, Int.not_lt, Int.not_le, gt_iff_lt, ge_iff_le, Bool.and_eq_true, Bool.or_eq_true, Bool.and_eq_false_iff, Bool.or_eq_false_iff, Decidable.not_not, not_true_eq_false, not_false_eq_true, and_true, true_and, or_false, false_or, or_true, true_or, and_false, false_and, eq_self, Bool.true_eq_false, Bool.false_eq_true] at hc) <;> (try (exfalso; omega)))
  case refine_1 =>
    have hix := hq.idx (i := i) (by omega)
    (repeat (first | refine zz ?_ | refine zv fun _ => ?_))
    refine tri_block ?_
    (repeat (first | refine zz ?_ | refine zv fun _ => ?_))
    refine au_pure ?_ (hy := yl_idx (k := i) rfl rfl hR (ix_nat rfl) (by rfl) (by omega))
    refine au_pure ?_ (hy := yl_loadEN rfl rfl hR (by rfl) (by omega) (by repeat (first | exact nf0 rfl | apply nfS rfl | exact nfR)) (by rfl))
    (repeat (first | refine au_pure ?_ | refine au_pass ?_ | refine au_box (fun _ => ?_) | refine au_alloc (fun _ => ?_) | refine au_store ?_ | refine au_make rfl rfl (fun _ => ?_) | refine au_lit rfl rfl rfl (fun _ => ?_) | refine au_append rfl rfl rfl rfl (fun _ => au_norm ?_) | refine au_storeE rfl rfl rfl rfl ?_)); refine tri_nil ?_; (repeat refine tri_then ?_)
    rename_i g6
    refine tri_weak (H' := Hp w0 (akE g6 (q.getD i default) :: cs)) (fun w h => h) ?_
    (repeat (first | refine zz ?_ | refine zv fun _ => ?_))
    refine au_callC rfl rfl rfl rfl rfl (of_c w0 _ (hR.cons (c := akE g6 (q.getD i default))) (by omega) (q.getD i default).p) (fun _ => ?_)
    rw [hix]
    (repeat (first | refine zz ?_ | refine zv fun _ => ?_))
    rw [show ((i : Int) != (i : Int)) = false by simp]
    (repeat (first | refine zz ?_ | refine zv fun _ => ?_))
    exact tri_nx1 (i + 1) (by omega) (by omega) (by repeat (first | exact trivial | refine ⟨rfl, ?_⟩)) (fun w h => h.sub (by repeat (first | exact List.Sublist.refl _ | assumption | apply List.Sublist.cons_cons | apply List.Sublist.cons)))
  (repeat (first | refine zz ?_ | refine zv fun _ => ?_))
  refine au_done1 rfl ?_
  exact fun w hw => ⟨(), rfl, hw.sub (by repeat (first | exact List.Sublist.refl _ | assumption | apply List.Sublist.cons_cons | apply List.Sublist.cons))⟩
theorem push_no {v : Value} {q : List AK} {x : AK} (hR : RdH (Hp w0 cs) v q) (hq : Qk q) (hx : Ak x) (hw : (q.any fun y => y.p == x.p) = true) : Cal Try.prog 7 [v, akV x] (Hp w0 cs) (fun _ : Unit => .tuple #[.slice none 0 0, .int .i64 7]) (fun _ => Hp w0 cs) := by
  have hl := hq.l
  have hge := idxM_ge (fun y : AK => y.p == x.p) q
  rw [hw] at hge
  refine cal_of_tri Try.func7 rfl Try.ntmps7 rfl ?_
  (repeat (first | refine tri_seq ?_ | refine tri_then ?_)); refine tri_region ?_; (repeat (first | refine au_pure ?_ | refine au_pass ?_ | refine au_box (fun _ => ?_) | refine au_alloc (fun _ => ?_) | refine au_store ?_ | refine au_make rfl rfl (fun _ => ?_) | refine au_lit rfl rfl rfl (fun _ => ?_) | refine au_append rfl rfl rfl rfl (fun _ => au_norm ?_) | refine au_storeE rfl rfl rfl rfl ?_)); refine tri_nil ?_; (repeat refine tri_then ?_)
  rename_i g3
  refine tri_weak (H' := Hp w0 (akE g3 x :: cs)) (fun w h => h) ?_
  have hR2 := hR.cons (c := akE g3 x)
  (repeat (first | refine zz ?_ | refine zv fun _ => ?_))
  refine au_callC rfl rfl rfl rfl rfl (gcheck_c w0 _ hR2 hq) (fun _ => ?_)
  (repeat (first | refine zz ?_ | refine zv fun _ => ?_))
  refine tri_block ?_
  (repeat (first | refine zz ?_ | refine zv fun _ => ?_))
  refine au_callC rfl rfl rfl rfl rfl (valid_c w0 _ hx) (fun _ => ?_)
  (repeat (first | refine zz ?_ | refine zv fun _ => ?_))
  refine au_callC rfl rfl rfl rfl rfl (of_c w0 _ hR2 (by omega) x.p) (fun _ => ?_)
  (repeat (first | refine zz ?_ | refine zv fun _ => ?_))
  rw [hge]
  (repeat (first | refine zz ?_ | refine zv fun _ => ?_))
  refine au_done2 rfl ?_
  exact fun w hw => ⟨(), rfl, hw.sub (by repeat (first | exact List.Sublist.refl _ | assumption | apply List.Sublist.cons_cons | apply List.Sublist.cons))⟩
set_option maxHeartbeats 1000000 in
theorem push_yes {v : Value} {q : List AK} {x : AK} (hR : RdH (Hp w0 cs) v q) (hq : Qk q) (hx : Ak x) (hw : (q.any fun y => y.p == x.p) = false) : Cal Try.prog 7 [v, akV x] (Hp w0 cs) (fun r : Row => .tuple #[r.v, .int .i64 0]) (fun r => Hp w0 (akS r (q ++ [x]) :: cs)) := by
  have hl := hq.l
  have hge := idxM_ge (fun y : AK => y.p == x.p) q
  rw [hw] at hge
  refine cal_of_tri Try.func7 rfl Try.ntmps7 rfl ?_
  (repeat (first | refine tri_seq ?_ | refine tri_then ?_)); refine tri_region ?_; (repeat (first | refine au_pure ?_ | refine au_pass ?_ | refine au_box (fun _ => ?_) | refine au_alloc (fun _ => ?_) | refine au_store ?_ | refine au_make rfl rfl (fun _ => ?_) | refine au_lit rfl rfl rfl (fun _ => ?_) | refine au_append rfl rfl rfl rfl (fun _ => au_norm ?_) | refine au_storeE rfl rfl rfl rfl ?_)); refine tri_nil ?_; (repeat refine tri_then ?_)
  rename_i g3
  refine tri_weak (H' := Hp w0 (akE g3 x :: cs)) (fun w h => h) ?_
  have hR2 := hR.cons (c := akE g3 x)
  (repeat (first | refine zz ?_ | refine zv fun _ => ?_))
  refine au_callC rfl rfl rfl rfl rfl (gcheck_c w0 _ hR2 hq) (fun _ => ?_)
  (repeat (first | refine zz ?_ | refine zv fun _ => ?_))
  refine tri_block ?_
  (repeat (first | refine zz ?_ | refine zv fun _ => ?_))
  refine au_callC rfl rfl rfl rfl rfl (valid_c w0 _ hx) (fun _ => ?_)
  (repeat (first | refine zz ?_ | refine zv fun _ => ?_))
  refine au_callC rfl rfl rfl rfl rfl (of_c w0 _ hR2 (by omega) x.p) (fun _ => ?_)
  (repeat (first | refine zz ?_ | refine zv fun _ => ?_))
  rw [hge]
  (repeat (first | refine zz ?_ | refine zv fun _ => ?_))
  (repeat (first | refine tri_seq ?_ | refine tri_then ?_))
  refine ap_held rfl ?_
  refine ap_take 0 rfl rfl rfl ?_
  refine ap_take 2 rfl rfl rfl ?_
  refine ap_op2 1 3 rfl rfl ?_ ?_
  · refine au_callC rfl rfl rfl rfl rfl (cloneAK_c w0 _ hR2 (by omega)) ?_
    intro r1
    refine tri_nil ?_; refine ap_in ?_
    refine ap_op 3 rfl ?_
    refine au_lit (l := [x]) rfl rfl rfl (fun rl => ?_)
    refine tri_nil ?_; refine ap_in ?_
    refine ap_op 4 rfl ?_
    refine au_append (i := 1) (l := q) (l2 := [x]) rfl rfl rfl rfl (fun r2 => ?_) (hi := rfl) (h2 := rd_chunk (r := rl) (l := [x]) ⟨0, rfl⟩) (hb := by simp; omega)
    refine tri_weak (H' := Hp w0 (akS r2 (q ++ [x]) :: akE g3 x :: cs)) (fun w h => by
      have h : Hp w0 (akS rl [x] :: akS r2 (q ++ [x]) :: akE g3 x :: cs) w := h
      exact h.sub (List.Sublist.cons _ (List.Sublist.refl _))) ?_
    refine tri_nil ?_; refine ap_in ?_
    refine ap_take 5 rfl rfl rfl ?_; refine ap_take 6 rfl rfl rfl ?_
    refine ap_done ?_
    (repeat (first | refine zz ?_ | refine zv fun _ => ?_))
    refine au_done2 rfl ?_
    exact fun w hw => ⟨r2, rfl, hw.sub (List.Sublist.cons_cons _ (List.Sublist.cons _ (List.Sublist.refl _)))⟩
  · refine au_lit (l := [x]) rfl rfl rfl (fun rl => ?_)
    refine tri_nil ?_; refine ap_in ?_
    refine ap_op 1 rfl ?_
    refine au_callC rfl rfl rfl rfl rfl (cloneAK_c w0 _ (hR2.cons (c := akS rl [x])) (by omega)) ?_
    intro r1
    refine tri_nil ?_; refine ap_in ?_
    refine ap_op 4 rfl ?_
    refine au_append (i := 0) (l := q) (l2 := [x]) rfl rfl rfl rfl (fun r2 => ?_) (hi := rfl) (h2 := rd_chunk (r := rl) (l := [x]) ⟨1, rfl⟩) (hb := by simp; omega)
    refine tri_weak (H' := Hp w0 (akS r2 (q ++ [x]) :: akE g3 x :: cs)) (fun w h => by
      have h : Hp w0 (akS r2 (q ++ [x]) :: akS rl [x] :: akE g3 x :: cs) w := h
      exact h.sub (List.Sublist.cons_cons _ (List.Sublist.cons _ (List.Sublist.refl _)))) ?_
    refine tri_nil ?_; refine ap_in ?_
    refine ap_take 5 rfl rfl rfl ?_; refine ap_take 6 rfl rfl rfl ?_
    refine ap_done ?_
    (repeat (first | refine zz ?_ | refine zv fun _ => ?_))
    refine au_done2 rfl ?_
    exact fun w hw => ⟨r2, rfl, hw.sub (List.Sublist.cons_cons _ (List.Sublist.cons _ (List.Sublist.refl _)))⟩
theorem cancel_no {v : Value} {q : List AK} (hR : RdH (Hp w0 cs) v q) (hq : Qk q) (p : Int) (hw : (q.any fun y => y.p == p) = false) : Cal Try.prog 8 [v, .int .i64 p] (Hp w0 cs) (fun _ : Unit => .tuple #[.slice none 0 0, .int .i64 6]) (fun _ => Hp w0 cs) := by
  have hl := hq.l
  have hix : idxM (fun y : AK => y.p == p) q = -1 := idxM_none (getD_any.1 hw)
  refine cal_of_tri Try.func8 rfl Try.ntmps8 rfl ?_
  (repeat (first | refine tri_seq ?_ | refine tri_then ?_)); refine tri_region ?_; (repeat (first | refine au_pure ?_ | refine au_pass ?_ | refine au_box (fun _ => ?_) | refine au_alloc (fun _ => ?_) | refine au_store ?_ | refine au_make rfl rfl (fun _ => ?_) | refine au_lit rfl rfl rfl (fun _ => ?_) | refine au_append rfl rfl rfl rfl (fun _ => au_norm ?_) | refine au_storeE rfl rfl rfl rfl ?_)); refine tri_nil ?_; (repeat refine tri_then ?_)
  (repeat (first | refine zz ?_ | refine zv fun _ => ?_))
  refine au_callC rfl rfl rfl rfl rfl (gcheck_c w0 _ hR hq) (fun _ => ?_)
  (repeat (first | refine zz ?_ | refine zv fun _ => ?_))
  refine au_callC rfl rfl rfl rfl rfl (of_c w0 _ hR (by omega) p) (fun _ => ?_)
  rw [hix]
  (repeat (first | refine zz ?_ | refine zv fun _ => ?_))
  refine au_done2 rfl ?_
  exact fun w hw => ⟨(), rfl, hw.sub (by repeat (first | exact List.Sublist.refl _ | assumption | apply List.Sublist.cons_cons | apply List.Sublist.cons))⟩
theorem cancel_yes {v : Value} {q : List AK} (hR : RdH (Hp w0 cs) v q) (hq : Qk q) (p : Int) (hw : (q.any fun y => y.p == p) = true) : Cal Try.prog 8 [v, .int .i64 p] (Hp w0 cs) (fun r : Row => .tuple #[r.v, .int .i64 0]) (fun r => Hp w0 (akS r (q.eraseIdx (idxM (fun y : AK => y.p == p) q).toNat) :: cs)) := by
  have hl := hq.l
  obtain ⟨h0, h1⟩ := idxM_lt hw
  obtain ⟨i, hi⟩ : ∃ i : Nat, idxM (fun y : AK => y.p == p) q = (i : Int) := ⟨(idxM (fun y : AK => y.p == p) q).toNat, by omega⟩
  rw [hi] at h1 ⊢
  rw [Int.toNat_natCast] at h1 ⊢
  rw [List.eraseIdx_eq_take_drop_succ]
  refine cal_of_tri Try.func8 rfl Try.ntmps8 rfl ?_
  (repeat (first | refine tri_seq ?_ | refine tri_then ?_)); refine tri_region ?_; (repeat (first | refine au_pure ?_ | refine au_pass ?_ | refine au_box (fun _ => ?_) | refine au_alloc (fun _ => ?_) | refine au_store ?_ | refine au_make rfl rfl (fun _ => ?_) | refine au_lit rfl rfl rfl (fun _ => ?_) | refine au_append rfl rfl rfl rfl (fun _ => au_norm ?_) | refine au_storeE rfl rfl rfl rfl ?_)); refine tri_nil ?_; (repeat refine tri_then ?_)
  (repeat (first | refine zz ?_ | refine zv fun _ => ?_))
  refine au_callC rfl rfl rfl rfl rfl (gcheck_c w0 _ hR hq) (fun _ => ?_)
  (repeat (first | refine zz ?_ | refine zv fun _ => ?_))
  refine au_callC rfl rfl rfl rfl rfl (of_c w0 _ hR (by omega) p) (fun _ => ?_)
  rw [hi]
  (repeat (first | refine zz ?_ | refine zv fun _ => ?_))
  rw [show decide ((i : Int) < 0) = false from decide_eq_false (by omega)]
  (repeat (first | refine zz ?_ | refine zv fun _ => ?_))
  refine au_callC rfl rfl rfl rfl rfl (cloneAK_c w0 _ hR (by omega)) ?_
  intro r
  (repeat (first | refine zz ?_ | refine zv fun _ => ?_))
  refine au_callC rfl rfl rfl rfl rfl (deleteAK_c w0 cs (r := r) h1 (by omega)) ?_
  intro r2
  (repeat (first | refine zz ?_ | refine zv fun _ => ?_))
  refine au_done2 rfl ?_
  exact fun w hw => ⟨r2, rfl, hw⟩
end
end Go.Proofs.Ythlildafofbiaaa
