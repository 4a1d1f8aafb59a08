/- The walk of step. No conditions. -/
import Derived.Test.YthlildafofbiaaaGrRight
set_option linter.unusedSimpArgs false
set_option linter.unusedVariables false
namespace Go.Proofs.Ythlildafofbiaaa
open Go Go.RowKit
/-- What stands in memory behind a step. -/
structure ST where
  vq : Value
  vl : Value
  r : Row
  R : List Chunk
  b : BQ
structure StOk (w0 : World) (R : List Chunk) (b : BQ) (y : ST) : Prop where
  b : y.b = b
  s : R.Sublist y.R
  q : RdH (Hp w0 y.R) y.vq y.b.q
  l : RdH (Hp w0 y.R) y.vl (acL y.b.u)
abbrev stC (g : Nat) (y : ST) : List Chunk := qB g y.vq y.vl y.b y.r.v :: grS y.r y.b.out :: y.R
abbrev goV (o : GO) : Value := .agg #[.int .u8 o.k, .int .u8 o.p, .int .u8 o.a, .int .u8 o.c]
abbrev goE (g : Nat) (o : GO) : Chunk := blkC g 27 [.int .u8 o.k, .int .u8 o.p, .int .u8 o.a, .int .u8 o.c]
/-- The fields are bytes. -/
structure Gk (o : GO) : Prop where
  k : 0 ≤ o.k ∧ o.k ≤ 255
  p : 0 ≤ o.p ∧ o.p ≤ 255
  a : 0 ≤ o.a ∧ o.a ≤ 255
  c : 0 ≤ o.c ∧ o.c ≤ 255
theorem perm3 {A B C : Chunk} {R : List Chunk} : (A :: B :: C :: R).Perm (B :: C :: A :: R) := (List.Perm.swap _ _ _).trans (.cons _ (List.Perm.swap _ _ _))
/-- Behind i grants, ahead of the queue's and the accounts' turn. -/
def mixB (b : BQ) (i : Nat) : BQ := { b with no := (preB b i).no, al := (preB b i).al, la := (preB b i).la, out := (preB b i).out }
theorem pre_eq (b : BQ) (n : Nat) : preB b n = ⟨b.q.drop n, (preB b n).u, (preB b n).no, (preB b n).al, b.nu, b.nx, (preB b n).la, (preB b n).out⟩ := by
  obtain ⟨h1, h2, h3⟩ := pre_q b n
  rw [← h1, ← h2, ← h3]
theorem nu_at (vq vl vo : Value) (b : BQ) {m : Nat} (hm : m < 8) : ([vq, vl, .int .i64 b.no, .int .i64 b.al, .int .i64 (b.nu 0), .int .i64 (b.nu 1), .int .i64 (b.nu 2), .int .i64 (b.nu 3), .int .i64 (b.nu 4), .int .i64 (b.nu 5), .int .i64 (b.nu 6), .int .i64 (b.nu 7), .int .i64 b.nx, .int .i64 b.la, vo] : List Value)[4 + m * 1]? = some (.int .i64 (b.nu m)) := by
  have h : m = 0 ∨ m = 1 ∨ m = 2 ∨ m = 3 ∨ m = 4 ∨ m = 5 ∨ m = 6 ∨ m = 7 := by omega
  rcases h with rfl | rfl | rfl | rfl | rfl | rfl | rfl | rfl <;> rfl
attribute [local irreducible] acL shM sumA sumK sumT srvN
attribute [local irreducible] Code.wp wpList bodyPost Exit.then Exit.inBlock Calls wpQuiet Tri TriQ
section
variable (w0 : World)
set_option maxHeartbeats 8000000 in
theorem step_c {g : Nat} {vq vl : Value} {r : Row} {R : List Chunk} {b : BQ} (h : Bi b) (hQ : RdH (Hp w0 R) vq b.q) (hR : RdH (Hp w0 R) vl (acL b.u)) (hol : b.out.length ≤ 9000) (hnx : 0 ≤ b.nx ∧ b.nx ≤ 1000000) {o : GO} (ho : Gk o) :
    Cal Try.prog 6 [.pointer (some ⟨g, 0, none⟩), goV o] (Hp w0 (qB g vq vl b r.v :: grS r b.out :: R)) (fun _ : {y : ST // StOk w0 R (stepM b o) y} => .bool true) (fun y => Hp w0 (stC g y.1)) := by
  have hk := ho.k
  have hp := ho.p
  have ha := ho.a
  have hc' := ho.c
  have hql := q_le h
  refine cal_of_tri Try.func6 rfl Try.ntmps6 rfl ?_
  (repeat (first | refine tri_seq ?_ | refine tri_then ?_)); refine tri_region ?_; (repeat (first | refine au_pure ?_ | refine au_pass ?_ | refine au_box (fun _ => ?_) | refine au_alloc (fun _ => ?_) | refine au_store ?_ | refine au_make rfl rfl (fun _ => ?_) | refine au_lit rfl rfl rfl (fun _ => ?_) | refine au_append rfl rfl rfl rfl (fun _ => au_norm ?_) | refine au_storeE rfl rfl rfl rfl ?_)); refine tri_nil ?_; (repeat refine tri_then ?_)
  rename_i g3
  refine tri_weak (H' := Hp w0 (goE g3 o :: qB g vq vl b r.v :: grS r b.out :: R)) (fun w h => h) ?_
  have hQ1 := ((hQ.cons (c := grS r b.out)).cons (c := qB g vq vl b r.v)).cons (c := goE g3 o)
  have hR1 := ((hR.cons (c := grS r b.out)).cons (c := qB g vq vl b r.v)).cons (c := goE g3 o)
  (repeat (first | refine zz ?_ | refine zv fun _ => ?_))
  refine au_pure ?_ (hy := yl_convn rfl rfl (by omega))
  refine au_pure ?_ (hy := yl_remn rfl rfl rfl (by omega))
  obtain ⟨pn, hpn⟩ : ∃ pn : Int, pn = o.p % 8 := ⟨_, rfl⟩
  rw [← hpn]
  have hpb : 0 ≤ pn ∧ pn < 8 := by omega
  (repeat (first | refine zz ?_ | refine zv fun _ => ?_))
  refine au_pure ?_ (hy := yl_len rfl rfl hQ1)
  (repeat (first | refine zz ?_ | refine zv fun _ => ?_))
  refine tri_block ?_
  refine tri_loop2 (fun (i : Nat) (wt : Bool) => i ≤ b.q.length ∧ wt = (b.q.take i).any fun x => x.p == pn) (fun i wt => [(0, .pointer (some ⟨g, 0, none⟩)), (3, .pointer (some ⟨g3, 0, none⟩)), (5, .int .i64 pn), (6, .bool wt), (31, vq), (32, .int .i64 (b.q.length : Int)), (33, .int .i64 (i : Int))])
    (fun _ _ => Hp w0 (goE g3 o :: qB g vq vl b r.v :: grS r b.out :: R)) (fun i _ => b.q.length - i) 0 false ⟨by omega, by simp⟩ (by repeat (first | exact trivial | refine ⟨rfl, ?_⟩)) (fun w h => h) ?_
  rintro i wt ⟨hi, hwt⟩
  (repeat (first | refine zz ?_ | refine zv fun _ => ?_))
  ((first | refine tri_cond (by rfl) (fun hc => ?_) (fun hc => ?_) | refine tri_gsplit (by rfl) (by rfl) (by (fail_if_success exact (rfl : _ = some (Value.bool true))); (fail_if_success exact (rfl : _ = some (Value.bool false))); rfl) (fun hc => ?_) (fun hc => ?_)) <;> (try simp only [decide_eq_true_eq, decide_eq_false_iff_not, beq_iff_eq, bne_iff_ne, ne_eq, Bool.not_eq_true', Bool.not_eq_false', beq_eq_false_iff_ne, bne_eq_false_iff_eq, Int.not_lt, Int.not_le, gt_iff_lt, ge_iff_le, Bool.and_eq_true, Bool.or_eq_true, Bool.and_eq_false_iff, Bool.or_eq_false_iff, Decidable.not_not, not_true_eq_false, not_false_eq_true, and_true, true_and, or_false, false_or, or_true, true_or, and_false, false_and, eq_self, Bool.true_eq_false, Bool.false_eq_true] at hc) <;> (try (exfalso; omega)))
  case refine_1 =>
    have hi' : i < b.q.length := by omega
    (repeat (first | refine zz ?_ | refine zv fun _ => ?_))
    refine tri_block ?_
    (repeat (first | refine zz ?_ | refine zv fun _ => ?_))
    refine au_pure ?_ (hy := yl_idx (k := i) rfl rfl hQ1 (ix_nat rfl) (by rfl) (by omega))
    refine au_pure ?_ (hy := yl_loadEN rfl rfl hQ1 (by rfl) (by omega) (by repeat (first | exact nf0 rfl | apply nfS rfl | exact nfR)) (by rfl))
    (repeat (first | refine zz ?_ | refine zv fun _ => ?_))
    have hnw : (b.q.take (i + 1)).any (fun x => x.p == pn) = (wt || (b.q.getD i default).p == pn) := by rw [take_step hi', List.any_append, ← hwt]; simp
    cases wt with
    | true =>
      (repeat (first | refine zz ?_ | refine zv fun _ => ?_))
      exact tri_nx2 (i + 1) true (by omega) ⟨by omega, by rw [hnw]; rfl⟩ (by repeat (first | exact trivial | refine ⟨rfl, ?_⟩)) (fun w h => h.sub (by repeat (first | exact List.Sublist.refl _ | assumption | apply List.Sublist.cons_cons | apply List.Sublist.cons)))
    | false =>
      (repeat (first | refine zz ?_ | refine zv fun _ => ?_))
      exact tri_nx2 (i + 1) ((b.q.getD i default).p == pn) (by omega) ⟨by omega, by rw [hnw]; rfl⟩ (by repeat (first | exact trivial | refine ⟨rfl, ?_⟩)) (fun w h => h.sub (by repeat (first | exact List.Sublist.refl _ | assumption | apply List.Sublist.cons_cons | apply List.Sublist.cons)))
  have hie : i = b.q.length := by omega
  subst hie
  rw [List.take_length] at hwt
  have hwm : waitM b o = wt := by unfold waitM; rw [← hpn]; exact hwt.symm
  clear hi
  (repeat (first | refine zz ?_ | refine zv fun _ => ?_))
  refine au_pure ?_ (hy := yl_remn rfl rfl rfl (by omega))
  (repeat (first | refine zz ?_ | refine zv fun _ => ?_))
  refine tri_cut1 (fun y : ST => StOk w0 R (stepM b o) y) (fun _ => [(0, .pointer (some ⟨g, 0, none⟩))]) (fun y => Hp w0 (stC g y)) ?_ ?_
  rotate_left
  · rintro y hy
    have hyb : Bi y.b := by rw [hy.b]; exact bi_step h o
    have hyl : y.b.out.length ≤ 10000 := by rw [hy.b]; have := out_le h o; omega
    (repeat (first | refine zz ?_ | refine zv fun _ => ?_))
    refine au_callC rfl rfl rfl rfl rfl (right_c w0 _ (g := g) (vq := y.vq) (vl := y.vl) (vo := y.r.v) (b := y.b) ⟨0, rfl⟩ hyb ((hy.l.cons (c := grS y.r y.b.out)).cons (c := qB g y.vq y.vl y.b y.r.v)) (rd_chunk (r := y.r) (l := y.b.out) ⟨1, rfl⟩) hyl) (fun _ => ?_)
    (repeat (first | refine zz ?_ | refine zv fun _ => ?_))
    refine au_done1 rfl ?_
    exact fun w hw => ⟨⟨y, hy⟩, rfl, hw⟩
  have hsame : stepM b o = b → StOk w0 R (stepM b o) ⟨vq, vl, r, R, b⟩ := fun e => ⟨e.symm, List.Sublist.refl _, hQ, hR⟩
  refine tri_block ?_
  (repeat (first | refine zz ?_ | refine zv fun _ => ?_))
  cases hk0 : (o.k % 4 == 0)
  case true =>
    have hk0' : o.k % 4 = 0 := by simpa using hk0
    obtain ⟨A, hA⟩ : ∃ A : AK, A = ⟨pn, o.a % 3, o.c % 3, o.c / 3 % 4⟩ := ⟨_, rfl⟩
    have hAo : A = opA o := by rw [hA, hpn]; rfl
    have hAk : Ak A := by rw [hAo]; exact opA_ak o
    have hAp : A.p = pn := by rw [hA]
    (repeat (first | refine au_pure ?_ | refine au_pass ?_ | refine au_box (fun _ => ?_) | refine au_alloc (fun _ => ?_) | refine au_store ?_ | refine au_make rfl rfl (fun _ => ?_) | refine au_lit rfl rfl rfl (fun _ => ?_) | refine au_append rfl rfl rfl rfl (fun _ => au_norm ?_) | refine au_storeE rfl rfl rfl rfl ?_ | refine tri_seq ?_ | refine tri_then ?_ | refine tri_region ?_ | refine tri_nil ?_ | refine tri_skip ?_ | refine tri_ret ?_ | refine tri_exit ?_ | refine tri_thenr ?_ | refine tri_thene ?_ | refine tri_blkn ?_ | refine tri_blkr ?_ | refine tri_blke ?_ | refine tri_blko (by rfl) ?_ | refine tri_if_t (by rfl) ?_ | refine tri_if_f (by rfl) ?_ | fail))
    rename_i g9
    refine tri_weak (H' := Hp w0 (akE g9 A :: goE g3 o :: qB g vq vl b r.v :: grS r b.out :: R)) (fun w h => by rw [hA]; exact h) ?_
    have hQ2 := hQ1.cons (c := akE g9 A)
    cases wt with
    | true =>
      have hst : stepM b o = b := by unfold stepM; rw [if_pos hk0', if_pos hwm]
      (repeat (first | refine tri_seq ?_ | refine tri_then ?_))
      refine ar_held [] (akE g9 A :: goE g3 o :: qB g vq vl b r.v :: grS r b.out :: R) rfl ?_
      refine ar_take 0 rfl rfl rfl ?_; refine ar_take 1 rfl rfl rfl ?_; refine ar_take 2 rfl rfl rfl ?_; refine ar_take 3 rfl rfl rfl ?_; refine ar_take 4 rfl rfl rfl ?_
      refine ar_op 5 rfl ?_
      refine au_callC rfl rfl rfl rfl rfl (push_no w0 _ hQ2 h.qk hAk (by rw [hAp]; exact hwt.symm)) (fun _ => ?_)
      refine tri_nil ?_; refine ar_in ?_
      refine ar_take 6 rfl rfl rfl ?_; refine ar_take 7 rfl rfl rfl ?_; refine ar_take 8 rfl rfl rfl ?_; refine ar_take 9 rfl rfl rfl ?_; refine ar_take 10 rfl rfl rfl ?_
      refine ar_done ?_
      (repeat (first | refine zz ?_ | refine zv fun _ => ?_))
      refine au_pure ?_ (hy := yl_eqlb rfl rfl rfl)
      (repeat (first | refine zz ?_ | refine zv fun _ => ?_))
      exact tri_mt1 ⟨vq, vl, r, R, b⟩ (hsame hst) (by repeat (first | exact trivial | refine ⟨rfl, ?_⟩)) (fun w h => h.sub (List.Sublist.cons _ (List.Sublist.cons _ (List.Sublist.refl _))))
    | false =>
      obtain ⟨n, hn⟩ : ∃ n : Nat, pn = (n : Int) := ⟨pn.toNat, by omega⟩
      have hst : stepM b o = { b with q := b.q ++ [A], nu := fun j => if j = n then b.nx else b.nu j, nx := b.nx + 1 } := by
        unfold stepM
        rw [if_pos hk0', if_neg (by rw [hwm]; simp), hAo, ← hpn, hn, Int.toNat_natCast]
      (repeat (first | refine tri_seq ?_ | refine tri_then ?_))
      refine ar_held [] (akE g9 A :: goE g3 o :: qB g vq vl b r.v :: grS r b.out :: R) rfl ?_
      refine ar_take 0 rfl rfl rfl ?_; refine ar_take 1 rfl rfl rfl ?_; refine ar_take 2 rfl rfl rfl ?_; refine ar_take 3 rfl rfl rfl ?_; refine ar_take 4 rfl rfl rfl ?_
      refine ar_op 5 rfl ?_
      refine au_callC rfl rfl rfl rfl rfl (push_yes w0 _ hQ2 h.qk hAk (by rw [hAp]; exact hwt.symm)) ?_
      intro r1
      refine tri_nil ?_; refine ar_in ?_
      refine ar_take 6 rfl rfl rfl ?_; refine ar_take 7 rfl rfl rfl ?_; refine ar_take 8 rfl rfl rfl ?_; refine ar_take 9 rfl rfl rfl ?_; refine ar_take 10 rfl rfl rfl ?_
      refine ar_done ?_
      refine tri_weak (H' := Hp w0 (akS r1 (b.q ++ [A]) :: akE g9 A :: goE g3 o :: qB g vq vl b r.v :: grS r b.out :: R)) (fun w h => h) ?_
      (repeat (first | refine zz ?_ | refine zv fun _ => ?_))
      refine au_pure ?_ (hy := yl_eqlb rfl rfl rfl)
      (repeat (first | refine zz ?_ | refine zv fun _ => ?_))
      (repeat (first | refine tri_seq ?_ | refine tri_then ?_))
      refine ar_held [10, 13, 14] (akS r1 (b.q ++ [A]) :: akE g9 A :: goE g3 o :: qB g vq vl b r.v :: grS r b.out :: R) rfl ?_
      refine ar_free 1 rfl rfl rfl ?_; refine ar_free 2 rfl rfl rfl ?_
      refine ar_take 0 rfl rfl rfl ?_; refine ar_take 3 rfl rfl rfl ?_; refine ar_take 4 rfl rfl rfl ?_; refine ar_take 5 rfl rfl rfl ?_; refine ar_take 6 rfl rfl rfl ?_; refine ar_take 7 rfl rfl rfl ?_; refine ar_take 8 rfl rfl rfl ?_; refine ar_take 9 rfl rfl rfl ?_
      refine ar_free 11 rfl rfl rfl ?_; refine ar_free 12 rfl rfl rfl ?_
      refine ar_op 10 rfl ?_
      refine au_store ?_
      refine tri_nil ?_; refine ar_ink ?_
      refine ar_op 13 rfl ?_
      refine au_pure ?_ (hy := yl_idxA (k := n) rfl rfl (ix_eq rfl (by omega)) (by omega))
      refine tri_nil ?_; refine ar_ink ?_
      refine ar_op 14 rfl ?_
      have hn8 : n = 0 ∨ n = 1 ∨ n = 2 ∨ n = 3 ∨ n = 4 ∨ n = 5 ∨ n = 6 ∨ n = 7 := by omega
      rcases hn8 with rfl | rfl | rfl | rfl | rfl | rfl | rfl | rfl
      all_goals
        refine au_store ?_
        refine tri_nil ?_; refine ar_ink ?_
        refine ar_done ?_
        (repeat (first | refine zz ?_ | refine zv fun _ => ?_))
        refine tri_mt1 ⟨r1.v, vl, r, akS r1 (b.q ++ [A]) :: R, _⟩ ⟨hst.symm, List.Sublist.cons _ (List.Sublist.refl _), rd_chunk ⟨0, rfl⟩, hR.cons⟩ (by repeat (first | exact trivial | refine ⟨rfl, ?_⟩)) (fun w h => ?_)
        have h2 := h.sub (List.Sublist.cons_cons _ (List.Sublist.cons _ (List.Sublist.cons _ (List.Sublist.refl _))))
        exact HpM.perm h2 perm3
  have hk0' : ¬ o.k % 4 = 0 := by simpa using hk0
  (repeat (first | refine zz ?_ | refine zv fun _ => ?_))
  cases hk1 : (o.k % 4 == 1)
  case true =>
    have hk1' : o.k % 4 = 1 := by simpa using hk1
    (repeat (first | refine zz ?_ | refine zv fun _ => ?_))
    cases wt with
    | false =>
      have hst : stepM b o = b := by unfold stepM; rw [if_neg hk0', if_pos hk1', if_neg (by rw [hwm]; simp)]
      refine au_callC rfl rfl rfl rfl rfl (cancel_no w0 _ hQ1 h.qk pn hwt.symm) (fun _ => ?_)
      (repeat (first | refine zz ?_ | refine zv fun _ => ?_))
      refine au_pure ?_ (hy := yl_neqb rfl rfl rfl)
      (repeat (first | refine zz ?_ | refine zv fun _ => ?_))
      exact tri_mt1 ⟨vq, vl, r, R, b⟩ (hsame hst) (by repeat (first | exact trivial | refine ⟨rfl, ?_⟩)) (fun w h => h.sub (List.Sublist.cons _ (List.Sublist.refl _)))
    | true =>
      have hst : stepM b o = { b with q := b.q.eraseIdx (idxM (fun x : AK => x.p == pn) b.q).toNat } := by
        unfold stepM
        rw [if_neg hk0', if_pos hk1', if_pos hwm, ← hpn]
      refine au_callC rfl rfl rfl rfl rfl (cancel_yes w0 _ hQ1 h.qk pn hwt.symm) ?_
      intro r1
      obtain ⟨q', hq'⟩ : ∃ q', q' = b.q.eraseIdx (idxM (fun x : AK => x.p == pn) b.q).toNat := ⟨_, rfl⟩
      rw [← hq'] at hst
      refine tri_weak (H' := Hp w0 (akS r1 q' :: goE g3 o :: qB g vq vl b r.v :: grS r b.out :: R)) (fun w h => by rw [hq']; exact h) ?_
      (repeat (first | refine zz ?_ | refine zv fun _ => ?_))
      refine au_pure ?_ (hy := yl_neqb rfl rfl rfl)
      (repeat (first | refine zz ?_ | refine zv fun _ => ?_))
      refine tri_mt1 ⟨r1.v, vl, r, akS r1 q' :: R, _⟩ ⟨hst.symm, List.Sublist.cons _ (List.Sublist.refl _), rd_chunk ⟨0, rfl⟩, hR.cons⟩ (by repeat (first | exact trivial | refine ⟨rfl, ?_⟩)) (fun w h => ?_)
      have h2 := h.sub (List.Sublist.cons_cons _ (List.Sublist.cons _ (List.Sublist.refl _)))
      exact HpM.perm h2 perm3
  have hk1' : ¬ o.k % 4 = 1 := by simpa using hk1
  (repeat (first | refine zz ?_ | refine zv fun _ => ?_))
  cases hk2 : (o.k % 4 == 2)
  case true =>
    have hk2' : o.k % 4 = 2 := by simpa using hk2
    refine tri_if_t (by rfl) ?_
    (repeat (first | refine tri_seq ?_ | refine tri_then ?_))
    refine ar_held [] (goE g3 o :: qB g vq vl b r.v :: grS r b.out :: R) rfl ?_
    refine ar_take 0 rfl rfl rfl ?_; refine ar_take 1 rfl rfl rfl ?_; refine ar_take 2 rfl rfl rfl ?_; refine ar_take 3 rfl rfl rfl ?_; refine ar_take 4 rfl rfl rfl ?_; refine ar_take 5 rfl rfl rfl ?_; refine ar_take 6 rfl rfl rfl ?_; refine ar_take 7 rfl rfl rfl ?_; refine ar_take 8 rfl rfl rfl ?_; refine ar_take 9 rfl rfl rfl ?_; refine ar_take 10 rfl rfl rfl ?_; refine ar_take 11 rfl rfl rfl ?_; refine ar_take 12 rfl rfl rfl ?_; refine ar_take 13 rfl rfl rfl ?_; refine ar_take 14 rfl rfl rfl ?_; refine ar_take 15 rfl rfl rfl ?_
    refine ar_op 16 rfl ?_
    refine au_callC rfl rfl rfl rfl rfl (serve_c w0 _ h hQ1 hR1) ?_
    intro r1
    refine tri_nil ?_; refine ar_in ?_
    refine ar_take 17 rfl rfl rfl ?_; refine ar_take 18 rfl rfl rfl ?_; refine ar_take 19 rfl rfl rfl ?_; refine ar_take 20 rfl rfl rfl ?_; refine ar_take 21 rfl rfl rfl ?_; refine ar_take 22 rfl rfl rfl ?_; refine ar_take 23 rfl rfl rfl ?_
    refine ar_done ?_
    obtain ⟨n, hn⟩ : ∃ n, n = srvN b.q.length b := ⟨_, rfl⟩
    have hgo := srv_go b.q.length b
    have hnl := srv_le b.q.length b
    rw [← hn] at hgo hnl
    have hst : stepM b o = preB b n := by unfold stepM; rw [if_neg hk0', if_neg hk1', if_pos hk2', hn]
    refine tri_weak (H' := Hp w0 (acS r1 (acL (preB b n).u) :: goE g3 o :: qB g vq vl b r.v :: grS r b.out :: R)) (fun w h => by rw [hn]; exact h) ?_
    rw [← hn]
    have hQ2 := hQ1.cons (c := acS r1 (acL (preB b n).u))
    (repeat (first | refine zz ?_ | refine zv fun _ => ?_))
    rw [show decide ((n : Int) < 0) = false from decide_eq_false (by omega)]
    (repeat (first | refine zz ?_ | refine zv fun _ => ?_))
    refine au_pure ?_ (hy := yl_len rfl rfl hQ2)
    (repeat (first | refine zz ?_ | refine zv fun _ => ?_))
    rw [show decide ((n : Int) > (b.q.length : Int)) = false from decide_eq_false (by omega)]
    (repeat (first | refine zz ?_ | refine zv fun _ => ?_))
    refine au_pure ?_ (hy := yl_cut (a := 0) (b := n) rfl rfl hQ2 ixo_none (ixo_some (ix_nat rfl)) (by omega) (by omega))
    have hC0 : RdH (Hp w0 R) (cut vq 0 n 4) ((b.q.take n).drop 0) := RdH.cut hQ rfl (by omega) (by omega)
    have hCl : ((b.q.take n).drop 0).length = n := by rw [List.drop_zero, List.length_take]; omega
    have hCg : ∀ i, i < n → ((b.q.take n).drop 0).getD i default = b.q.getD i default := fun i hi => by rw [List.drop_zero, getD_take hi]
    obtain ⟨vc, hvc⟩ : ∃ vc, vc = cut vq 0 n 4 := ⟨_, rfl⟩
    rw [← hvc] at hC0 ⊢
    have hCm : ∀ (A B C : Chunk), RdH (Hp w0 (A :: B :: C :: R)) vc ((b.q.take n).drop 0) := fun A B C => ((hC0.cons (c := C)).cons (c := B)).cons (c := A)
    refine au_pure ?_ (hy := yl_len rfl rfl ((hCm _ _ _).cons))
    rw [hCl]
    (repeat (first | refine zz ?_ | refine zv fun _ => ?_))
    refine tri_block ?_
    refine tri_loop2 (fun (i : Nat) (r : Row) => i ≤ n) (fun i _ => [(0, .pointer (some ⟨g, 0, none⟩)), (14, .int .i64 (n : Int)), (15, r1.v), (247, vc), (248, .int .i64 (n : Int)), (249, .int .i64 (i : Int))])
      (fun i r => Hp w0 (acS r1 (acL (preB b n).u) :: goE g3 o :: qB g vq vl (mixB b i) r.v :: grS r (mixB b i).out :: R)) (fun i _ => n - i) 0 r (by omega) (by repeat (first | exact trivial | refine ⟨rfl, ?_⟩)) (fun w h => h) ?_
    clear hsame
    clear hQ1 hR1 hQ2
    clear r
    rintro i r hi
    (repeat (first | refine zz ?_ | refine zv fun _ => ?_))
    ((first | refine tri_cond (by rfl) (fun hc => ?_) (fun hc => ?_) | refine tri_gsplit (by rfl) (by rfl) (by (fail_if_success exact (rfl : _ = some (Value.bool true))); (fail_if_success exact (rfl : _ = some (Value.bool false))); rfl) (fun hc => ?_) (fun hc => ?_)) <;> (try simp only [decide_eq_true_eq, decide_eq_false_iff_not, beq_iff_eq, bne_iff_ne, ne_eq, Bool.not_eq_true', Bool.not_eq_false', beq_eq_false_iff_ne, bne_eq_false_iff_eq, Int.not_lt, Int.not_le, gt_iff_lt, ge_iff_le, Bool.and_eq_true, Bool.or_eq_true, Bool.and_eq_false_iff, Bool.or_eq_false_iff, Decidable.not_not, not_true_eq_false, not_false_eq_true, and_true, true_and, or_false, false_or, or_true, true_or, and_false, false_and, eq_self, Bool.true_eq_false, Bool.false_eq_true] at hc) <;> (try (exfalso; omega)))
    case refine_1 =>
      have hi' : i < n := by omega
      have hpre := bi_pre h i fun j hj => hgo j (by omega)
      have hpq := (pre_q b i).1
      obtain ⟨x, hx⟩ : ∃ x, x = b.q.getD i default := ⟨_, rfl⟩
      have hxm : x ∈ b.q := by rw [hx, getD_get (by omega)]; exact List.getElem_mem _
      have hxm2 : x ∈ (preB b i).q := by
        rw [hpq, hx, getD_get (by omega)]
        exact List.mem_drop_iff_getElem.2 ⟨0, by omega, by simp⟩
      have hAx := h.q x hxm
      have hhd : hdA (preB b i) = x := by rw [pre_hd, hx]
      have hlt := (hpre.r x hxm2).1
      rw [(pre_q b i).2.1] at hlt
      have hxp := hAx.p
      have hxk := hAx.k
      have hxu := hAx.u
      have hno := hpre.n0
      have hal := hpre.t0
      have hno4 : (preB b i).no ≤ 4 := by
        have := hpre.n
        have := sum_pos GR.k (l := (preB b i).out) fun y hy => (hpre.o y hy).k.1
        unfold sumK at *
        omega
      have hal10 : (preB b i).al ≤ 10 := by
        have := hpre.t
        have := sum_pos gT (l := (preB b i).out) fun y hy => (gT_pos (hpre.o y hy)).1
        unfold sumT at *
        omega
      have hpo := pre_out b i
      obtain ⟨m, hm⟩ : ∃ m : Nat, x.p = (m : Int) := ⟨x.p.toNat, by omega⟩
      have hm8 : m < 8 := by omega
      have e2 : (preB b (i + 1)).no = (preB b i).no - x.k := by show (preB b i).no - (hdA (preB b i)).k = _; rw [hhd]
      have e3 : (preB b (i + 1)).al = (preB b i).al - (x.k + x.u) := by show (preB b i).al - tot (hdA (preB b i)) = _; rw [hhd]; rfl
      have e4 : (preB b (i + 1)).la = b.nu m := by show (preB b i).nu (hdA (preB b i)).p.toNat = _; rw [hhd, (pre_q b i).2.1, hm, Int.toNat_natCast]
      have e5 : (preB b (i + 1)).out = (preB b i).out ++ [(⟨b.nu m, x.p, x.a, x.k, x.u⟩ : GR)] := by show (preB b i).out ++ [grOf (preB b i).nu (hdA (preB b i))] = _; rw [hhd, (pre_q b i).2.1]; unfold grOf; rw [hm, Int.toNat_natCast]
      have hCi := (hCm (goE g3 o) (qB g vq vl (mixB b i) r.v) (grS r (mixB b i).out)).cons (c := acS r1 (acL (preB b n).u))
      (repeat (first | refine zz ?_ | refine zv fun _ => ?_))
      refine tri_block ?_
      (repeat (first | refine zz ?_ | refine zv fun _ => ?_))
      refine au_pure ?_ (hy := yl_idx (k := i) rfl rfl hCi (ix_nat rfl) (by rfl) (by omega))
      refine au_pure ?_ (hy := yl_loadEN rfl rfl hCi (by rfl) (by omega) (by repeat (first | exact nf0 rfl | apply nfS rfl | exact nfR)) (by rfl))
      rw [hCg i hi', ← hx]
      (repeat (first | refine au_pure ?_ | refine au_pass ?_ | refine au_box (fun _ => ?_) | refine au_alloc (fun _ => ?_) | refine au_store ?_ | refine au_make rfl rfl (fun _ => ?_) | refine au_lit rfl rfl rfl (fun _ => ?_) | refine au_append rfl rfl rfl rfl (fun _ => au_norm ?_) | refine au_storeE rfl rfl rfl rfl ?_)); refine tri_nil ?_; (repeat refine tri_then ?_)
      rename_i g18
      refine tri_weak (H' := Hp w0 (akE g18 x :: acS r1 (acL (preB b n).u) :: goE g3 o :: qB g vq vl (mixB b i) r.v :: grS r (mixB b i).out :: R)) (fun w h => h) ?_
      (repeat (first | refine zz ?_ | refine zv fun _ => ?_))
      rw [show decide (x.p < 0) = false from decide_eq_false (by omega)]
      (repeat (first | refine zz ?_ | refine zv fun _ => ?_))
      rw [show decide (x.p ≥ 8) = false from decide_eq_false (by omega)]
      (repeat (first | refine zz ?_ | refine zv fun _ => ?_))
      (repeat (first | refine tri_seq ?_ | refine tri_then ?_))
      refine au_draw rfl ?_
      (repeat (first | refine z1 ?_ | refine au_qpass rfl rfl ?_ | refine triq_nil ?_))
      refine au_qpure rfl rfl ?_ (hy := yl_idxA (k := m) rfl rfl (ix_eq rfl (by omega)) (by omega))
      refine au_qpure rfl rfl ?_ (hy := yl_load rfl rfl (by first | (apply has_at; (repeat (first | exact at0 | apply atS)); done) | (repeat (first | assumption | apply has_cons))) (nu_at vq vl r.v (mixB b i) hm8))
      (repeat (first | refine z1 ?_ | refine au_qpass rfl rfl ?_ | refine triq_nil ?_))
      (repeat (first | refine zz ?_ | refine zv fun _ => ?_))
      rw [show decide ((mixB b i).nu m ≤ (mixB b i).la) = false from decide_eq_false (by
        have : b.nu m > (preB b i).la := by rw [hm, Int.toNat_natCast] at hlt; exact hlt
        show ¬ b.nu m ≤ (preB b i).la
        omega)]
      (repeat (first | refine zz ?_ | refine zv fun _ => ?_))
      (repeat (first | refine tri_seq ?_ | refine tri_then ?_))
      refine ar_held [9] (akE g18 x :: acS r1 (acL (preB b n).u) :: goE g3 o :: qB g vq vl { mixB b i with la := b.nu m } r.v :: grS r (mixB b i).out :: R) rfl ?_
      refine ar_take 0 rfl rfl rfl ?_; refine ar_take 1 rfl rfl rfl ?_; refine ar_take 2 rfl rfl rfl ?_; refine ar_take 3 rfl rfl rfl ?_; refine ar_take 4 rfl rfl rfl ?_; refine ar_take 5 rfl rfl rfl ?_
      refine ar_take 6 rfl rfl rfl ?_ (hy := yl_subn rfl rfl rfl (by show _ ≤ (preB b i).no - x.k ∧ (preB b i).no - x.k ≤ _; omega))
      refine ar_take 7 rfl rfl rfl ?_; refine ar_take 8 rfl rfl rfl ?_
      refine ar_op 9 rfl ?_
      refine au_store ?_
      refine tri_nil ?_; refine ar_ink ?_
      refine ar_done ?_
      (repeat (first | refine zz ?_ | refine zv fun _ => ?_))
      (repeat (first | refine tri_seq ?_ | refine tri_then ?_))
      refine ar_held [12] (akE g18 x :: acS r1 (acL (preB b n).u) :: goE g3 o :: qB g vq vl { mixB b i with la := b.nu m, no := (preB b i).no - x.k } r.v :: grS r (mixB b i).out :: R) rfl ?_
      refine ar_take 0 rfl rfl rfl ?_; refine ar_take 1 rfl rfl rfl ?_; refine ar_take 2 rfl rfl rfl ?_; refine ar_take 3 rfl rfl rfl ?_; refine ar_take 4 rfl rfl rfl ?_; refine ar_take 5 rfl rfl rfl ?_; refine ar_take 6 rfl rfl rfl ?_; refine ar_take 7 rfl rfl rfl ?_; refine ar_take 8 rfl rfl rfl ?_
      refine ar_take 9 rfl rfl rfl ?_ (hy := yl_subn rfl rfl rfl (by show _ ≤ (preB b i).al - (x.k + x.u) ∧ (preB b i).al - (x.k + x.u) ≤ _; omega))
      refine ar_take 10 rfl rfl rfl ?_; refine ar_take 11 rfl rfl rfl ?_
      refine ar_op 12 rfl ?_
      refine au_store ?_
      refine tri_nil ?_; refine ar_ink ?_
      refine ar_done ?_
      (repeat (first | refine zz ?_ | refine zv fun _ => ?_))
      (repeat (first | refine tri_seq ?_ | refine tri_then ?_))
      refine ar_held [9, 10, 11, 12] (akE g18 x :: acS r1 (acL (preB b n).u) :: goE g3 o :: qB g vq vl { mixB b i with la := b.nu m, no := (preB b i).no - x.k, al := (preB b i).al - (x.k + x.u) } r.v :: grS r (mixB b i).out :: R) rfl ?_
      refine ar_free 0 rfl rfl rfl ?_
      refine ar_take 1 rfl rfl rfl ?_; refine ar_take 2 rfl rfl rfl ?_; refine ar_take 3 rfl rfl rfl ?_; refine ar_take 4 rfl rfl rfl ?_; refine ar_take 5 rfl rfl rfl ?_; refine ar_take 6 rfl rfl rfl ?_; refine ar_take 7 rfl rfl rfl ?_
      refine ar_op 8 rfl ?_
      refine au_lit (l := [(⟨b.nu m, x.p, x.a, x.k, x.u⟩ : GR)]) rfl rfl rfl (fun rl => ?_)
      refine tri_nil ?_; refine ar_in ?_
      refine ar_op 9 rfl ?_
      refine au_append (i := 5) (l := (preB b i).out) (l2 := [(⟨b.nu m, x.p, x.a, x.k, x.u⟩ : GR)]) rfl rfl rfl rfl (fun r2 => ?_) (hi := rfl) (h2 := rd_chunk (r := rl) (l := [(⟨b.nu m, x.p, x.a, x.k, x.u⟩ : GR)]) ⟨0, rfl⟩) (hb := by rw [hpo]; simp; omega)
      refine tri_weak (H' := Hp w0 (grS rl [(⟨b.nu m, x.p, x.a, x.k, x.u⟩ : GR)] :: akE g18 x :: acS r1 (acL (preB b n).u) :: goE g3 o :: qB g vq vl { mixB b i with la := b.nu m, no := (preB b i).no - x.k, al := (preB b i).al - (x.k + x.u) } r.v :: grS r2 ((preB b i).out ++ [(⟨b.nu m, x.p, x.a, x.k, x.u⟩ : GR)]) :: R)) (fun w h => h) ?_
      refine tri_nil ?_; refine ar_ink ?_
      refine ar_op 10 rfl ?_
      refine au_pure ?_
      refine tri_nil ?_; refine ar_ink ?_
      refine ar_op 11 rfl ?_
      refine au_pure ?_
      refine tri_nil ?_; refine ar_ink ?_
      refine ar_op 12 rfl ?_
      refine au_store ?_
      refine tri_nil ?_; refine ar_ink ?_
      refine ar_done ?_
      (repeat (first | refine zz ?_ | refine zv fun _ => ?_))
      exact tri_nx2 (i + 1) r2 (by omega) (by omega) (by repeat (first | exact trivial | refine ⟨rfl, ?_⟩)) (fun w h => by
        have hmx : mixB b (i + 1) = { mixB b i with la := b.nu m, no := (preB b i).no - x.k, al := (preB b i).al - (x.k + x.u), out := (preB b i).out ++ [(⟨b.nu m, x.p, x.a, x.k, x.u⟩ : GR)] } := by unfold mixB; rw [e2, e3, e4, e5]
        rw [hmx]
        exact h.sub (List.Sublist.cons _ (List.Sublist.cons _ (List.Sublist.refl _))))
    have hie : i = n := by omega
    subst hie
    have hQ3 := (((hQ.cons (c := grS r (mixB b i).out)).cons (c := qB g vq vl (mixB b i) r.v)).cons (c := goE g3 o)).cons (c := acS r1 (acL (preB b i).u))
    have hD : RdH (Hp w0 R) (cut vq i b.q.length 4) ((b.q.take b.q.length).drop i) := RdH.cut hQ rfl (by omega) (by omega)
    rw [List.take_length] at hD
    (repeat (first | refine zz ?_ | refine zv fun _ => ?_))
    refine au_pure ?_ (hy := yl_cut (a := i) (b := b.q.length) rfl rfl hQ3 (ixo_some (ix_nat rfl)) ixo_none (by omega) (by omega))
    obtain ⟨vd, hvd⟩ : ∃ vd, vd = cut vq i b.q.length 4 := ⟨_, rfl⟩
    rw [← hvd] at hD ⊢
    have hbnd : RdH (Hp w0 R) vd (b.q.drop i) := hD
    refine tri_slice hD (fun Aq capq evd => ?_)
    subst evd
    (repeat (first | refine zz ?_ | refine zv fun _ => ?_))
    refine tri_mt1 ⟨.slice Aq (List.drop i b.q).length capq, r1.v, r, acS r1 (acL (preB b i).u) :: R, ⟨b.q.drop i, (preB b i).u, (preB b i).no, (preB b i).al, b.nu, b.nx, (preB b i).la, (preB b i).out⟩⟩ ⟨by rw [hst]; exact (pre_eq b i).symm, List.Sublist.cons _ (List.Sublist.refl _), hD.cons, rd_chunk ⟨0, rfl⟩⟩ (by repeat (first | exact trivial | refine ⟨rfl, ?_⟩)) (fun w h => ?_)
    have h2 := h.sub (List.Sublist.cons_cons _ (List.Sublist.cons _ (List.Sublist.refl _)))
    exact HpM.perm h2 perm3
  have hk2' : ¬ o.k % 4 = 2 := by simpa using hk2
  (repeat (first | refine zz ?_ | refine zv fun _ => ?_))
  have hO1 : RdH (Hp w0 (goE g3 o :: qB g vq vl b r.v :: grS r b.out :: R)) r.v b.out := rd_chunk ⟨2, rfl⟩
  refine au_pure ?_ (hy := yl_len rfl rfl hO1)
  (repeat (first | refine zz ?_ | refine zv fun _ => ?_))
  refine tri_block ?_
  refine tri_loop1 (fun (i : Nat) => i ≤ b.out.length ∧ ∀ j, j < i → ((b.out.getD j default).p == pn) = false) (fun i => [(0, .pointer (some ⟨g, 0, none⟩)), (5, .int .i64 pn), (51, r.v), (52, .int .i64 (b.out.length : Int)), (53, .int .i64 (i : Int))])
    (fun _ => Hp w0 (goE g3 o :: qB g vq vl b r.v :: grS r b.out :: R)) (fun i => b.out.length - i) 0 ⟨by omega, fun j hj => absurd hj (Nat.not_lt_zero j)⟩ (by repeat (first | exact trivial | refine ⟨rfl, ?_⟩)) (fun w h => h) ?_
  rintro i ⟨hi, hnot⟩
  (repeat (first | refine zz ?_ | refine zv fun _ => ?_))
  ((first | refine tri_cond (by rfl) (fun hc => ?_) (fun hc => ?_) | refine tri_gsplit (by rfl) (by rfl) (by (fail_if_success exact (rfl : _ = some (Value.bool true))); (fail_if_success exact (rfl : _ = some (Value.bool false))); rfl) (fun hc => ?_) (fun hc => ?_)) <;> (try simp only [decide_eq_true_eq, decide_eq_false_iff_not, beq_iff_eq, bne_iff_ne, ne_eq, Bool.not_eq_true', Bool.not_eq_false', beq_eq_false_iff_ne, bne_eq_false_iff_eq, Int.not_lt, Int.not_le, gt_iff_lt, ge_iff_le, Bool.and_eq_true, Bool.or_eq_true, Bool.and_eq_false_iff, Bool.or_eq_false_iff, Decidable.not_not, not_true_eq_false, not_false_eq_true, and_true, true_and, or_false, false_or, or_true, true_or, and_false, false_and, eq_self, Bool.true_eq_false, Bool.false_eq_true] at hc) <;> (try (exfalso; omega)))
  case refine_1 =>
    have hi' : i < b.out.length := by omega
    obtain ⟨x, hx⟩ : ∃ x, x = b.out.getD i default := ⟨_, rfl⟩
    have hAx := h.o x (by rw [hx, getD_get hi']; exact List.getElem_mem hi')
    have hxa : 0 ≤ x.a ∧ x.a < 3 := hAx.a
    have hxk : 0 ≤ x.k ∧ x.k ≤ 2 := hAx.k
    have hxu : 0 ≤ x.u ∧ x.u ≤ 3 := hAx.u
    have hog := own_ge h hi'
    rw [← hx] at hog
    have hno := h.n0
    have hal := h.t0
    have hno4 : b.no ≤ 4 := by
      have := h.n
      have := sum_pos GR.k (l := b.out) fun y hy => (h.o y hy).k.1
      unfold sumK at *
      omega
    have hal10 : b.al ≤ 10 := by
      have := h.t
      have := sum_pos gT (l := b.out) fun y hy => (gT_pos (h.o y hy)).1
      unfold sumT at *
      omega
    obtain ⟨a, hax⟩ : ∃ a : Nat, x.a = (a : Int) := ⟨x.a.toNat, by omega⟩
    have hg : gT x = x.k + x.u := rfl
    have hown : gT x ≤ ownA b.u (a : Int) := by
      have h1 := h.cc
      have h2 := h.cb
      have h3 := h.ca
      have h' : x.a = 0 ∨ x.a = 1 ∨ x.a = 2 := by omega
      unfold ownA
      rw [← hax]
      rcases h' with e | e | e <;> rw [e] at hog ⊢ <;> simp <;> omega
    (repeat (first | refine zz ?_ | refine zv fun _ => ?_))
    refine tri_block ?_
    (repeat (first | refine zz ?_ | refine zv fun _ => ?_))
    refine au_pure ?_ (hy := yl_idx (k := i) rfl rfl hO1 (ix_nat rfl) (by rfl) (by omega))
    refine au_pure ?_ (hy := yl_loadEN rfl rfl hO1 (by rfl) (by omega) (by repeat (first | exact nf0 rfl | apply nfS rfl | exact nfR)) (by rfl))
    rw [← hx]
    (repeat (first | refine au_pure ?_ | refine au_pass ?_ | refine au_box (fun _ => ?_) | refine au_alloc (fun _ => ?_) | refine au_store ?_ | refine au_make rfl rfl (fun _ => ?_) | refine au_lit rfl rfl rfl (fun _ => ?_) | refine au_append rfl rfl rfl rfl (fun _ => au_norm ?_) | refine au_storeE rfl rfl rfl rfl ?_)); refine tri_nil ?_; (repeat refine tri_then ?_)
    rename_i g21
    refine tri_weak (H' := Hp w0 (grE g21 x :: goE g3 o :: qB g vq vl b r.v :: grS r b.out :: R)) (fun w h => h) ?_
    have hR2 := hR1.cons (c := grE g21 x)
    (repeat (first | refine zz ?_ | refine zv fun _ => ?_))
    cases hxp : (x.p != pn)
    case true =>
      (repeat (first | refine zz ?_ | refine zv fun _ => ?_))
      exact tri_nx1 (i + 1) (by omega) ⟨by omega, fun j hj => by
        by_cases e : j = i
        · rw [e, ← hx]; simpa using hxp
        · exact hnot j (by omega)⟩ (by repeat (first | exact trivial | refine ⟨rfl, ?_⟩)) (fun w h => h.sub (List.Sublist.cons _ (List.Sublist.refl _)))
    have hxp' : x.p = pn := by simpa using hxp
    have hix : idxM (fun x : GR => x.p == pn) b.out = (i : Int) := idxM_some (p := fun x : GR => x.p == pn) hi' (by rw [← hx]; simpa using hxp') hnot
    have hst : stepM b o = { b with u := addU b.u (a : Int) (-gT x), no := b.no + x.k, al := b.al + gT x, out := b.out.eraseIdx i } := by
      have hany : (b.out.any fun x => x.p == o.p % 8) = true := by rw [← hpn]; exact any_some hi' (by rw [← hx]; simpa using hxp')
      have hgi : giveI b o = i := by unfold giveI; rw [← hpn, hix, Int.toNat_natCast]
      unfold stepM
      rw [if_neg hk0', if_neg hk1', if_neg hk2', if_pos hany, hgi, ← hx, hax]
    refine tri_if_f (by rfl) ?_
    refine tri_skip ?_
    (repeat (first | refine tri_seq ?_ | refine tri_then ?_))
    refine ar_held [] (grE g21 x :: goE g3 o :: qB g vq vl b r.v :: grS r b.out :: R) rfl ?_
    refine ar_take 0 rfl rfl rfl ?_; refine ar_take 1 rfl rfl rfl ?_; refine ar_take 2 rfl rfl rfl ?_; refine ar_take 3 rfl rfl rfl ?_; refine ar_take 4 rfl rfl rfl ?_; refine ar_take 5 rfl rfl rfl ?_; refine ar_take 6 rfl rfl rfl ?_; refine ar_take 7 rfl rfl rfl ?_; refine ar_take 8 rfl rfl rfl ?_; refine ar_take 9 rfl rfl rfl ?_; refine ar_take 10 rfl rfl rfl ?_; refine ar_take 11 rfl rfl rfl ?_; refine ar_take 12 rfl rfl rfl ?_; refine ar_take 13 rfl rfl rfl ?_
    rw [hax, ← hg]
    refine ar_op 14 rfl ?_
    refine au_callC rfl rfl rfl rfl rfl (uncharge_c w0 _ h.uk hR2 (a := a) (by omega) (n := gT x) (by omega) hown) ?_
    intro r1
    refine tri_nil ?_; refine ar_in ?_
    refine ar_take 15 rfl rfl rfl ?_; refine ar_take 16 rfl rfl rfl ?_; refine ar_take 17 rfl rfl rfl ?_; refine ar_take 18 rfl rfl rfl ?_; refine ar_take 19 rfl rfl rfl ?_
    refine ar_done ?_
    obtain ⟨U, hU⟩ : ∃ U, U = addU b.u (a : Int) (-gT x) := ⟨_, rfl⟩
    rw [← hU] at hst
    refine tri_weak (H' := Hp w0 (acS r1 (acL U) :: grE g21 x :: goE g3 o :: qB g vq vl b r.v :: grS r b.out :: R)) (fun w h => by rw [hU]; exact h) ?_
    (repeat (first | refine zz ?_ | refine zv fun _ => ?_))
    (repeat (first | refine tri_seq ?_ | refine tri_then ?_))
    refine ar_held [10] (acS r1 (acL U) :: grE g21 x :: goE g3 o :: qB g vq r1.v b r.v :: grS r b.out :: R) rfl ?_
    refine ar_take 0 rfl rfl rfl ?_; refine ar_take 1 rfl rfl rfl ?_; refine ar_take 2 rfl rfl rfl ?_; refine ar_take 3 rfl rfl rfl ?_; refine ar_take 4 rfl rfl rfl ?_; refine ar_take 5 rfl rfl rfl ?_; refine ar_take 6 rfl rfl rfl ?_; refine ar_take 7 rfl rfl rfl ?_; refine ar_take 8 rfl rfl rfl ?_; refine ar_take 9 rfl rfl rfl ?_
    refine ar_op 10 rfl ?_
    refine au_store ?_
    refine tri_nil ?_; refine ar_ink ?_
    refine ar_done ?_
    (repeat (first | refine zz ?_ | refine zv fun _ => ?_))
    (repeat (first | refine tri_seq ?_ | refine tri_then ?_))
    refine ar_held [14] (acS r1 (acL U) :: grE g21 x :: goE g3 o :: qB g vq r1.v { b with no := b.no + x.k } r.v :: grS r b.out :: R) rfl ?_
    refine ar_take 0 rfl rfl rfl ?_; refine ar_take 1 rfl rfl rfl ?_; refine ar_take 2 rfl rfl rfl ?_; refine ar_take 3 rfl rfl rfl ?_; refine ar_take 4 rfl rfl rfl ?_; refine ar_take 5 rfl rfl rfl ?_; refine ar_take 6 rfl rfl rfl ?_; refine ar_take 7 rfl rfl rfl ?_; refine ar_take 8 rfl rfl rfl ?_; refine ar_take 9 rfl rfl rfl ?_; refine ar_take 10 rfl rfl rfl ?_
    refine ar_take 11 rfl rfl rfl ?_ (hy := yl_addn rfl rfl rfl (by show _ ≤ b.al + (x.k + x.u) ∧ b.al + (x.k + x.u) ≤ _; omega))
    refine ar_take 12 rfl rfl rfl ?_; refine ar_take 13 rfl rfl rfl ?_
    refine ar_op 14 rfl ?_
    refine au_store ?_
    refine tri_nil ?_; refine ar_ink ?_
    refine ar_done ?_
    (repeat (first | refine zz ?_ | refine zv fun _ => ?_))
    refine tri_weak (H' := Hp w0 (acS r1 (acL U) :: grE g21 x :: goE g3 o :: qB g vq r1.v { b with no := b.no + x.k, al := b.al + gT x } r.v :: grS r b.out :: R)) (fun w h => h) ?_
    have hO3 : RdH (Hp w0 (acS r1 (acL U) :: grE g21 x :: goE g3 o :: qB g vq r1.v { b with no := b.no + x.k, al := b.al + gT x } r.v :: grS r b.out :: R)) r.v b.out := rd_chunk ⟨4, rfl⟩
    (repeat (first | refine tri_seq ?_ | refine tri_then ?_))
    refine ar_held [19] (acS r1 (acL U) :: grE g21 x :: goE g3 o :: qB g vq r1.v { b with no := b.no + x.k, al := b.al + gT x } r.v :: grS r b.out :: R) rfl ?_
    refine ar_take 0 rfl rfl rfl ?_; refine ar_take 2 rfl rfl rfl ?_; refine ar_take 3 rfl rfl rfl ?_; refine ar_take 4 rfl rfl rfl ?_; refine ar_take 5 rfl rfl rfl ?_; refine ar_take 6 rfl rfl rfl ?_
    refine ar_take 7 rfl rfl rfl ?_ (hy := yl_cut (a := 0) (b := i) rfl rfl hO3 ixo_none (ixo_some (ix_nat rfl)) (by omega) (by omega))
    refine ar_take 9 rfl rfl rfl ?_; refine ar_take 10 rfl rfl rfl ?_; refine ar_take 11 rfl rfl rfl ?_; refine ar_take 12 rfl rfl rfl ?_; refine ar_take 13 rfl rfl rfl ?_; refine ar_take 14 rfl rfl rfl ?_
    refine ar_take 15 rfl rfl rfl ?_ (hy := yl_cut (a := i + 1) (b := b.out.length) rfl rfl hO3 (ixo_some (ix_eq rfl (by omega))) ixo_none (by omega) (by omega))
    have hc1 : RdH (Hp w0 (acS r1 (acL U) :: grE g21 x :: goE g3 o :: qB g vq r1.v { b with no := b.no + x.k, al := b.al + gT x } r.v :: grS r b.out :: R)) (cut r.v 0 i 5) ((b.out.take i).drop 0) := RdH.cut hO3 rfl (by omega) (by omega)
    have hc2 : RdH (Hp w0 (acS r1 (acL U) :: grE g21 x :: goE g3 o :: qB g vq r1.v { b with no := b.no + x.k, al := b.al + gT x } r.v :: grS r b.out :: R)) (cut r.v (i + 1) b.out.length 5) ((b.out.take b.out.length).drop (i + 1)) := RdH.cut hO3 rfl (by omega) (by omega)
    rw [List.drop_zero] at hc1
    rw [List.take_length] at hc2
    have ht1 : (b.out.take i).length = i := by rw [List.length_take]; omega
    have ht2 : (b.out.drop (i + 1)).length = b.out.length - (i + 1) := List.length_drop
    refine ar_op 1 rfl ?_
    refine au_lit (l := ([] : List GR)) rfl rfl rfl (fun rl => ?_)
    refine tri_nil ?_; refine ar_in ?_
    refine ar_op 8 rfl ?_
    refine au_append (i := 0) (l := ([] : List GR)) (l2 := b.out.take i) rfl rfl rfl rfl (fun r2 => ?_) (hi := rfl) (h2 := hc1.cons) (hb := by rw [ht1]; simp; omega)
    refine tri_weak (H' := Hp w0 (grS r2 (b.out.take i) :: acS r1 (acL U) :: grE g21 x :: goE g3 o :: qB g vq r1.v { b with no := b.no + x.k, al := b.al + gT x } r.v :: grS r b.out :: R)) (fun w h => h) ?_
    refine tri_nil ?_; refine ar_in ?_
    refine ar_op 16 rfl ?_
    refine au_append (i := 0) (l := b.out.take i) (l2 := b.out.drop (i + 1)) rfl rfl rfl rfl (fun r3 => ?_) (hi := rfl) (h2 := hc2.cons) (hb := by rw [ht1, ht2]; omega)
    refine tri_weak (H' := Hp w0 (grS r3 (b.out.take i ++ b.out.drop (i + 1)) :: acS r1 (acL U) :: grE g21 x :: goE g3 o :: qB g vq r1.v { b with no := b.no + x.k, al := b.al + gT x } r.v :: grS r b.out :: R)) (fun w h => h) ?_
    refine tri_nil ?_; refine ar_in ?_
    refine ar_take 17 rfl rfl rfl ?_; refine ar_take 18 rfl rfl rfl ?_
    refine ar_op 19 rfl ?_
    refine au_store ?_
    refine tri_nil ?_; refine ar_ink ?_
    refine ar_done ?_
    rw [← List.eraseIdx_eq_take_drop_succ]
    (repeat (first | refine zz ?_ | refine zv fun _ => ?_))
    refine tri_mt1 ⟨vq, r1.v, r3, acS r1 (acL U) :: R, _⟩ ⟨hst.symm, List.Sublist.cons _ (List.Sublist.refl _), hQ.cons, rd_chunk ⟨0, rfl⟩⟩ (by repeat (first | exact trivial | refine ⟨rfl, ?_⟩)) (fun w h => ?_)
    have h2 : Hp w0 (grS r3 (b.out.eraseIdx i) :: acS r1 (acL U) :: qB g vq r1.v { b with no := b.no + x.k, al := b.al + gT x } r3.v :: R) w := h.sub (List.Sublist.cons_cons _ (List.Sublist.cons_cons _ (List.Sublist.cons _ (List.Sublist.cons _ (List.Sublist.cons_cons _ (List.Sublist.cons _ (List.Sublist.refl _)))))))
    exact HpM.perm h2 ((List.Perm.cons _ (List.Perm.swap _ _ _)).trans (List.Perm.swap _ _ _))
  have hie : i = b.out.length := by omega
  subst hie
  have hst : stepM b o = b := by
    unfold stepM
    rw [if_neg hk0', if_neg hk1', if_neg hk2', if_neg]
    rw [← hpn, getD_any.2 hnot]; simp
  (repeat (first | refine zz ?_ | refine zv fun _ => ?_))
  exact tri_mt1 ⟨vq, vl, r, R, b⟩ (hsame hst) (by repeat (first | exact trivial | refine ⟨rfl, ?_⟩)) (fun w h => h.sub (List.Sublist.cons _ (List.Sublist.refl _)))
end
end Go.Proofs.Ythlildafofbiaaa
