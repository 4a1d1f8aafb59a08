/- The walks of bServes and of the law TopGrants. No conditions. -/
import Derived.Test.YthlildafofbiaaaGrStep
set_option linter.unusedSimpArgs false
set_option linter.unusedVariables false
namespace Go.Proofs.Ythlildafofbiaaa
open Go Go.RowKit
/-- The example's operations. -/
def svO : List GO := [⟨0, 1, 2, 5⟩, ⟨0, 2, 2, 4⟩, ⟨0, 3, 0, 1⟩, ⟨2, 0, 0, 0⟩]
def svB : Nat → BQ
  | 0 => bq0
  | i + 1 => stepM (svB i) (svO.getD i default)
theorem sv_bi : ∀ i, Bi (svB i)
  | 0 => bi_zero
  | i + 1 => bi_step (sv_bi i) _
theorem sv_gk {i : Nat} (hi : i < 4) : Gk (svO.getD i default) := by
  have h : i = 0 ∨ i = 1 ∨ i = 2 ∨ i = 3 := by omega
  rcases h with rfl | rfl | rfl | rfl <;> exact ⟨by decide, by decide, by decide, by decide⟩
theorem nx_le (b : BQ) (o : GO) : (stepM b o).nx = b.nx ∨ (stepM b o).nx = b.nx + 1 := by
  unfold stepM
  split
  · split
    · exact .inl rfl
    · exact .inr rfl
  split
  · split <;> exact .inl rfl
  split
  · exact .inl (pre_q _ _).2.2
  split <;> exact .inl rfl
theorem sv_sm : ∀ i, (svB i).out.length ≤ 8 * i ∧ 0 ≤ (svB i).nx ∧ (svB i).nx ≤ i + 1
  | 0 => ⟨Nat.le_refl _, by decide, by decide⟩
  | i + 1 => by
    have h := sv_sm i
    have h1 := out_le (sv_bi i) (svO.getD i default)
    have h2 := nx_le (svB i) (svO.getD i default)
    show (stepM (svB i) (svO.getD i default)).out.length ≤ _ ∧ 0 ≤ (stepM (svB i) (svO.getD i default)).nx ∧ (stepM (svB i) (svO.getD i default)).nx ≤ _
    omega
theorem sv_out : (svB 4).out.length = 1 := by kernel_rfl
theorem sv_p : ((svB 4).out.getD 0 default).p = 1 := by kernel_rfl
theorem sv_q : (svB 4).q.length = 2 := by kernel_rfl
theorem sv_q0 : ((svB 4).q.getD 0 default).p = 2 := by kernel_rfl
attribute [local irreducible] acL shM sumA sumK sumT srvN stepM
attribute [local irreducible] Code.wp wpList bodyPost Exit.then Exit.inBlock Calls wpQuiet Tri TriQ
section
variable (w0 : World) (cs : List Chunk)
abbrev goS (r : Row) (l : List GO) : Chunk := slC r 27 l
theorem step_n {g : Nat} {vO : Value} {ops : List GO} {C R : List Chunk} {vq vl : Value} {r : Row} {b : BQ} (hO : RdH (Hp w0 C) vO ops) (hs : C.Sublist R) : RdH (Hp w0 (qB g vq vl b r.v :: grS r b.out :: R)) vO ops := fun w h => hO w (h.sub (List.Sublist.cons _ (List.Sublist.cons _ hs)))
set_option maxHeartbeats 4000000 in
theorem serves_c : Cal Try.prog 4 [] (Hp w0 cs) (fun _ : Unit => .bool true) (fun _ => Hp w0 cs) := by
  have hol : svO.length = 4 := rfl
  refine cal_of_tri Try.func4 rfl Try.ntmps4 rfl ?_
  (repeat (first | refine tri_seq ?_ | refine tri_then ?_)); refine tri_region ?_; (repeat (first | refine au_pure ?_ | refine au_pass ?_ | refine au_box (fun _ => ?_) | refine au_alloc (fun _ => ?_) | refine au_store ?_ | refine au_make rfl rfl (fun _ => ?_) | refine au_lit rfl rfl rfl (fun _ => ?_) | refine au_append rfl rfl rfl rfl (fun _ => au_norm ?_) | refine au_storeE rfl rfl rfl rfl ?_)); refine tri_nil ?_; (repeat refine tri_then ?_)
  (repeat (first | refine zz ?_ | refine zv fun _ => ?_))
  refine au_callC rfl rfl rfl rfl rfl (start_c w0 _) ?_
  rintro ⟨g, rl⟩
  refine tri_nilrow GR 39 ?_
  obtain ⟨r0, hr0⟩ : ∃ r0, r0 = Row.nil w0.heap.size := ⟨_, rfl⟩
  refine tri_weak (H' := Hp w0 (grS r0 [] :: qB g (.slice none 0 0) rl.v bq0 r0.v :: acS rl (acL ⟨0, 0, 0⟩) :: cs)) (fun w h => by rw [hr0]; exact h) ?_
  (repeat (first | refine zz ?_ | refine zv fun _ => ?_))
  refine au_lit (l := svO) rfl rfl rfl (fun rO => ?_)
  have hO : RdH (Hp w0 (goS rO svO :: cs)) rO.v svO := rd_chunk ⟨0, rfl⟩
  refine tri_weak (H' := Hp w0 (qB g (.slice none 0 0) rl.v bq0 r0.v :: grS r0 [] :: goS rO svO :: acS rl (acL ⟨0, 0, 0⟩) :: cs)) (fun w h => by
    have h : Hp w0 (goS rO svO :: grS r0 [] :: qB g (.slice none 0 0) rl.v bq0 r0.v :: acS rl (acL ⟨0, 0, 0⟩) :: cs) w := h
    exact HpM.perm h (perm3.trans (List.Perm.swap _ _ _))) ?_
  (repeat (first | refine zz ?_ | refine zv fun _ => ?_))
  refine au_pure ?_ (hy := yl_len rfl rfl (rd_chunk (r := rO) (l := svO) ⟨2, rfl⟩))
  rw [hol]
  (repeat (first | refine zz ?_ | refine zv fun _ => ?_))
  refine tri_block ?_
  refine tri_loop2 (fun (i : Nat) (y : ST) => i ≤ 4 ∧ StOk w0 (goS rO svO :: cs) (svB i) y ∧ Bi y.b ∧ y.b.out.length ≤ 8 * i ∧ 0 ≤ y.b.nx ∧ y.b.nx ≤ (i : Int) + 1) (fun i _ => [(1, .pointer (some ⟨g, 0, none⟩)), (9, rO.v), (10, .int .i64 ((4 : Nat) : Int)), (11, .int .i64 (i : Int))])
    (fun _ y => Hp w0 (stC g y)) (fun i _ => 4 - i) 0 ⟨.slice none 0 0, rl.v, r0, goS rO svO :: acS rl (acL ⟨0, 0, 0⟩) :: cs, svB 0⟩ ⟨by omega, ⟨rfl, List.Sublist.cons_cons _ (List.Sublist.cons _ (List.Sublist.refl _)), rd_nil, rd_chunk ⟨1, rfl⟩⟩, bi_zero, ⟨Nat.le_refl _, (by show (0 : Int) ≤ 1; decide), (by show (1 : Int) ≤ ((0 : Nat) : Int) + 1; decide)⟩⟩ (by repeat (first | exact trivial | refine ⟨rfl, ?_⟩)) (fun w h => h) ?_
  clear hr0
  rintro i ⟨vq, vl, r, R, b⟩ ⟨hi, hy, hbi, hsm⟩
  simp only at hbi hsm
  have hyb : b = svB i := hy.b
  have hys : (goS rO svO :: cs).Sublist R := hy.s
  have hyq : RdH (Hp w0 R) vq b.q := hy.q
  have hyl : RdH (Hp w0 R) vl (acL b.u) := hy.l
  have hRO : RdH (Hp w0 (qB g vq vl b r.v :: grS r b.out :: R)) rO.v svO := step_n w0 hO hys
  refine tri_weak (H' := Hp w0 (qB g vq vl b r.v :: grS r b.out :: R)) (fun w h => h) ?_
  (repeat (first | refine zz ?_ | refine zv fun _ => ?_))
  ((first | refine tri_cond (by rfl) (fun hc => ?_) (fun hc => ?_) | refine tri_gsplit (by rfl) (by rfl) (by (fail_if_success exact (rfl : _ = some (Value.bool true))); (fail_if_success exact (rfl : _ = some (Value.bool false))); rfl) (fun hc => ?_) (fun hc => ?_)) <;> (try simp only [decide_eq_true_eq, decide_eq_false_iff_not, beq_iff_eq, bne_iff_ne, ne_eq, Bool.not_eq_true', Bool.not_eq_false', beq_eq_false_iff_ne, bne_eq_false_iff_eq, Int.not_lt, Int.not_le, gt_iff_lt, ge_iff_le, Bool.and_eq_true, Bool.or_eq_true, Bool.and_eq_false_iff, Bool.or_eq_false_iff, Decidable.not_not, not_true_eq_false, not_false_eq_true, and_true, true_and, or_false, false_or, or_true, true_or, and_false, false_and, eq_self, Bool.true_eq_false, Bool.false_eq_true] at hc) <;> (try (exfalso; omega)))
  case refine_1 =>
    have hi4 : i < 4 := by omega
    have hgk := sv_gk hi4
    (repeat (first | refine zz ?_ | refine zv fun _ => ?_))
    refine tri_block ?_
    (repeat (first | refine zz ?_ | refine zv fun _ => ?_))
    refine au_pure ?_ (hy := yl_idx (k := i) rfl rfl hRO (ix_nat rfl) (by rfl) (by omega))
    refine au_pure ?_ (hy := yl_loadEN rfl rfl hRO (by rfl) (by omega) (by repeat (first | exact nf0 rfl | apply nfS rfl | exact nfR)) (by rfl))
    obtain ⟨o, hox⟩ : ∃ o, o = (svO).getD i default := ⟨_, rfl⟩
    have hbn : stepM b o = svB (i + 1) := by rw [hyb, hox]; rfl
    rw [← hox] at hgk ⊢
    (repeat (first | refine au_pure ?_ | refine au_pass ?_ | refine au_box (fun _ => ?_) | refine au_alloc (fun _ => ?_) | refine au_store ?_ | refine au_make rfl rfl (fun _ => ?_) | refine au_lit rfl rfl rfl (fun _ => ?_) | refine au_append rfl rfl rfl rfl (fun _ => au_norm ?_) | refine au_storeE rfl rfl rfl rfl ?_)); refine tri_nil ?_; (repeat refine tri_then ?_)
    rename_i g3
    refine tri_weak (H' := Hp w0 (qB g vq vl b r.v :: grS r b.out :: (goE g3 o :: R))) (fun w h => by
      have h : Hp w0 (goE g3 o :: qB g vq vl b r.v :: grS r b.out :: R) w := h
      exact HpM.perm h perm3) ?_
    (repeat (first | refine zz ?_ | refine zv fun _ => ?_))
    have hob : (stepM b o).out.length ≤ b.out.length + 8 := out_le hbi o
    have hnb := nx_le b o
    have hbi2 := bi_step hbi o
    refine au_callC rfl rfl rfl rfl rfl (step_c w0 (g := g) (vq := vq) (vl := vl) (r := r) (R := goE g3 o :: R) hbi hyq.cons hyl.cons (by omega) (by omega) hgk) ?_
    rintro ⟨⟨vq2, vl2, r2, R2, b2⟩, hz⟩
    have hzb : b2 = stepM b o := hz.b
    have hzs : (goE g3 o :: R).Sublist R2 := hz.s
    refine tri_weak (H' := Hp w0 (qB g vq2 vl2 b2 r2.v :: grS r2 b2.out :: R2)) (fun w h => h) ?_
    (repeat (first | refine zz ?_ | refine zv fun _ => ?_))
    exact tri_nx2 (i + 1) ⟨vq2, vl2, r2, R2, b2⟩ (by omega) ⟨by omega, ⟨by show b2 = _; rw [hzb, hbn], hys.trans ((List.sublist_cons_self _ _).trans hzs), hz.q, hz.l⟩, by show Bi b2; rw [hzb]; exact hbi2, by show b2.out.length ≤ _ ∧ 0 ≤ b2.nx ∧ b2.nx ≤ _; rw [hzb]; omega⟩ (by repeat (first | exact trivial | refine ⟨rfl, ?_⟩)) (fun w h => h)
  have hie : i = 4 := by omega
  subst hie
  have hO1 : RdH (Hp w0 (qB g vq vl b r.v :: grS r b.out :: R)) r.v b.out := rd_chunk ⟨1, rfl⟩
  have hQ1 := (hyq.cons (c := grS r b.out)).cons (c := qB g vq vl b r.v)
  have s1 : b.out.length = 1 := by rw [hyb]; exact sv_out
  have s2 : (b.out.getD 0 default).p = 1 := by rw [hyb]; exact sv_p
  have s3 : b.q.length = 2 := by rw [hyb]; exact sv_q
  have s4 : (b.q.getD 0 default).p = 2 := by rw [hyb]; exact sv_q0
  (repeat (first | refine zz ?_ | refine zv fun _ => ?_))
  refine au_pure ?_ (hy := yl_len rfl rfl hO1)
  rw [s1]
  (repeat (first | refine zz ?_ | refine zv fun _ => ?_))
  refine au_pure ?_ (hy := yl_idx (k := (0 : Int).toNat) rfl rfl hO1 (ix_int rfl (by decide)) (by rfl) (by rw [s1]; decide))
  refine au_pure ?_ (hy := yl_fieldE rfl rfl)
  refine au_pure ?_ (hy := yl_fieldE rfl rfl)
  refine au_pure ?_ (hy := yl_loadE rfl rfl hO1 (by rfl) (by rw [s1]; decide) (by rfl))
  rw [show (b.out.getD ((0 : Int).toNat) default).p = 1 from s2]
  (repeat (first | refine zz ?_ | refine zv fun _ => ?_))
  refine au_pure ?_ (hy := yl_len rfl rfl hQ1)
  rw [s3]
  (repeat (first | refine zz ?_ | refine zv fun _ => ?_))
  refine au_pure ?_ (hy := yl_idx (k := (0 : Int).toNat) rfl rfl hQ1 (ix_int rfl (by decide)) (by rfl) (by rw [s3]; decide))
  refine au_pure ?_ (hy := yl_fieldE rfl rfl)
  refine au_pure ?_ (hy := yl_loadE rfl rfl hQ1 (by rfl) (by rw [s3]; decide) (by rfl))
  rw [show (b.q.getD ((0 : Int).toNat) default).p = 2 from s4]
  (repeat (first | refine zz ?_ | refine zv fun _ => ?_))
  refine au_done1 rfl ?_
  exact fun w hw => ⟨(), rfl, hw.sub (List.Sublist.cons _ (List.Sublist.cons _ ((List.Sublist.cons _ (List.Sublist.refl _)).trans hys)))⟩
/-- The state behind i operations. -/
def runB (ops : List GO) : Nat → BQ
  | 0 => bq0
  | i + 1 => stepM (runB ops i) (ops.getD i default)
set_option maxHeartbeats 4000000 in
theorem grants_law {vO : Value} {ops : List GO} (hO : ∀ cs, RdH (Hp w0 cs) vO ops) (hOl : ops.length ≤ 9223372036854775807) (hG : ∀ x ∈ ops, Gk x) : Cal Try.prog 3 [vO] (Hp w0 cs) (fun _ : Unit => .bool true) (fun _ => Hp w0 cs) := by
  refine cal_of_tri Try.func3 rfl Try.ntmps3 rfl ?_
  (repeat (first | refine tri_seq ?_ | refine tri_then ?_)); refine tri_region ?_; (repeat (first | refine au_pure ?_ | refine au_pass ?_ | refine au_box (fun _ => ?_) | refine au_alloc (fun _ => ?_) | refine au_store ?_ | refine au_make rfl rfl (fun _ => ?_) | refine au_lit rfl rfl rfl (fun _ => ?_) | refine au_append rfl rfl rfl rfl (fun _ => au_norm ?_) | refine au_storeE rfl rfl rfl rfl ?_)); refine tri_nil ?_; (repeat refine tri_then ?_)
  (repeat (first | refine zz ?_ | refine zv fun _ => ?_))
  refine au_pure ?_ (hy := yl_len rfl rfl (hO _))
  (repeat (first | refine zz ?_ | refine zv fun _ => ?_))
  cases h1 : decide ((ops.length : Int) > 60)
  case true =>
    (repeat (first | refine zz ?_ | refine zv fun _ => ?_))
    refine au_callC rfl rfl rfl rfl rfl (serves_c w0 _) (fun _ => ?_)
    (repeat (first | refine zz ?_ | refine zv fun _ => ?_))
    refine au_done1 rfl ?_
    exact fun w hw => ⟨(), rfl, hw.sub (by repeat (first | exact List.Sublist.refl _ | assumption | apply List.Sublist.cons_cons | apply List.Sublist.cons))⟩
  have h1 := of_decide_eq_false h1
  (repeat (first | refine zz ?_ | refine zv fun _ => ?_))
  refine au_callC rfl rfl rfl rfl rfl (start_c w0 _) ?_
  rintro ⟨g, rl⟩
  refine tri_nilrow GR 39 ?_
  obtain ⟨r0, hr0⟩ : ∃ r0, r0 = Row.nil w0.heap.size := ⟨_, rfl⟩
  refine tri_weak (H' := Hp w0 (qB g (.slice none 0 0) rl.v bq0 r0.v :: grS r0 [] :: acS rl (acL ⟨0, 0, 0⟩) :: cs)) (fun w h => by
    have h : Hp w0 (grS r0 [] :: qB g (.slice none 0 0) rl.v bq0 r0.v :: acS rl (acL ⟨0, 0, 0⟩) :: cs) w := by rw [hr0]; exact h
    exact HpM.perm h (List.Perm.swap _ _ _)) ?_
  (repeat (first | refine zz ?_ | refine zv fun _ => ?_))
  refine au_pure ?_ (hy := yl_len rfl rfl (hO _))
  (repeat (first | refine zz ?_ | refine zv fun _ => ?_))
  refine tri_block ?_
  refine tri_loop2 (fun (i : Nat) (y : ST) => i ≤ ops.length ∧ StOk w0 (cs) (runB ops i) y ∧ Bi y.b ∧ y.b.out.length ≤ 8 * i ∧ 0 ≤ y.b.nx ∧ y.b.nx ≤ (i : Int) + 1) (fun i _ => [(3, .pointer (some ⟨g, 0, none⟩)), (11, vO), (12, .int .i64 (ops.length : Int)), (13, .int .i64 (i : Int))])
    (fun _ y => Hp w0 (stC g y)) (fun i _ => ops.length - i) 0 ⟨.slice none 0 0, rl.v, r0, acS rl (acL ⟨0, 0, 0⟩) :: cs, runB ops 0⟩ ⟨by omega, ⟨rfl, List.Sublist.cons _ (List.Sublist.refl _), rd_nil, rd_chunk ⟨0, rfl⟩⟩, bi_zero, ⟨Nat.le_refl _, (by show (0 : Int) ≤ 1; decide), (by show (1 : Int) ≤ ((0 : Nat) : Int) + 1; decide)⟩⟩ (by repeat (first | exact trivial | refine ⟨rfl, ?_⟩)) (fun w h => h) ?_
  clear hr0
  rintro i ⟨vq, vl, r, R, b⟩ ⟨hi, hy, hbi, hsm⟩
  simp only at hbi hsm
  have hyb : b = runB ops i := hy.b
  have hys : (cs).Sublist R := hy.s
  have hyq : RdH (Hp w0 R) vq b.q := hy.q
  have hyl : RdH (Hp w0 R) vl (acL b.u) := hy.l
  have hRO : RdH (Hp w0 (qB g vq vl b r.v :: grS r b.out :: R)) vO ops := step_n w0 (hO _) hys
  refine tri_weak (H' := Hp w0 (qB g vq vl b r.v :: grS r b.out :: R)) (fun w h => h) ?_
  (repeat (first | refine zz ?_ | refine zv fun _ => ?_))
  ((first | refine tri_cond (by rfl) (fun hc => ?_) (fun hc => ?_) | refine tri_gsplit (by rfl) (by rfl) (by (fail_if_success exact (rfl : _ = some (Value.bool true))); (fail_if_success exact (rfl : _ = some (Value.bool false))); rfl) (fun hc => ?_) (fun hc => ?_)) <;> (try simp only [decide_eq_true_eq, decide_eq_false_iff_not, beq_iff_eq, bne_iff_ne, ne_eq, Bool.not_eq_true', Bool.not_eq_false', beq_eq_false_iff_ne, bne_eq_false_iff_eq, Int.not_lt, Int.not_le, gt_iff_lt, ge_iff_le, Bool.and_eq_true, Bool.or_eq_true, Bool.and_eq_false_iff, Bool.or_eq_false_iff, Decidable.not_not, not_true_eq_false, not_false_eq_true, and_true, true_and, or_false, false_or, or_true, true_or, and_false, false_and, eq_self, Bool.true_eq_false, Bool.false_eq_true] at hc) <;> (try (exfalso; omega)))
  case refine_1 =>
    have hi4 : i < ops.length := by omega
    have hgk := hG (ops.getD i default) (by rw [getD_get hi4]; exact List.getElem_mem hi4)
    (repeat (first | refine zz ?_ | refine zv fun _ => ?_))
    refine tri_block ?_
    (repeat (first | refine zz ?_ | refine zv fun _ => ?_))
    refine au_pure ?_ (hy := yl_idx (k := i) rfl rfl hRO (ix_nat rfl) (by rfl) (by omega))
    refine au_pure ?_ (hy := yl_loadEN rfl rfl hRO (by rfl) (by omega) (by repeat (first | exact nf0 rfl | apply nfS rfl | exact nfR)) (by rfl))
    obtain ⟨o, hox⟩ : ∃ o, o = (ops).getD i default := ⟨_, rfl⟩
    have hbn : stepM b o = runB ops (i + 1) := by rw [hyb, hox]; rfl
    rw [← hox] at hgk ⊢
    (repeat (first | refine au_pure ?_ | refine au_pass ?_ | refine au_box (fun _ => ?_) | refine au_alloc (fun _ => ?_) | refine au_store ?_ | refine au_make rfl rfl (fun _ => ?_) | refine au_lit rfl rfl rfl (fun _ => ?_) | refine au_append rfl rfl rfl rfl (fun _ => au_norm ?_) | refine au_storeE rfl rfl rfl rfl ?_)); refine tri_nil ?_; (repeat refine tri_then ?_)
    rename_i g3
    refine tri_weak (H' := Hp w0 (qB g vq vl b r.v :: grS r b.out :: (goE g3 o :: R))) (fun w h => by
      have h : Hp w0 (goE g3 o :: qB g vq vl b r.v :: grS r b.out :: R) w := h
      exact HpM.perm h perm3) ?_
    (repeat (first | refine zz ?_ | refine zv fun _ => ?_))
    have hob : (stepM b o).out.length ≤ b.out.length + 8 := out_le hbi o
    have hnb := nx_le b o
    have hbi2 := bi_step hbi o
    refine au_callC rfl rfl rfl rfl rfl (step_c w0 (g := g) (vq := vq) (vl := vl) (r := r) (R := goE g3 o :: R) hbi hyq.cons hyl.cons (by omega) (by omega) hgk) ?_
    rintro ⟨⟨vq2, vl2, r2, R2, b2⟩, hz⟩
    have hzb : b2 = stepM b o := hz.b
    have hzs : (goE g3 o :: R).Sublist R2 := hz.s
    refine tri_weak (H' := Hp w0 (qB g vq2 vl2 b2 r2.v :: grS r2 b2.out :: R2)) (fun w h => h) ?_
    (repeat (first | refine zz ?_ | refine zv fun _ => ?_))
    exact tri_nx2 (i + 1) ⟨vq2, vl2, r2, R2, b2⟩ (by omega) ⟨by omega, ⟨by show b2 = _; rw [hzb, hbn], hys.trans ((List.sublist_cons_self _ _).trans hzs), hz.q, hz.l⟩, by show Bi b2; rw [hzb]; exact hbi2, by show b2.out.length ≤ _ ∧ 0 ≤ b2.nx ∧ b2.nx ≤ _; rw [hzb]; omega⟩ (by repeat (first | exact trivial | refine ⟨rfl, ?_⟩)) (fun w h => h)
  (repeat (first | refine zz ?_ | refine zv fun _ => ?_))
  refine au_callC rfl rfl rfl rfl rfl (serves_c w0 _) (fun _ => ?_)
  (repeat (first | refine zz ?_ | refine zv fun _ => ?_))
  refine au_done1 rfl ?_
  exact fun w hw => ⟨(), rfl, hw.sub (List.Sublist.cons _ (List.Sublist.cons _ hys))⟩
end
end Go.Proofs.Ythlildafofbiaaa
