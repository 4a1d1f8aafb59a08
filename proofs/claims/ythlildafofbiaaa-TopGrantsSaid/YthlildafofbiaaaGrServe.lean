/- The walks of Short and Serve. No conditions. -/
import Derived.Test.YthlildafofbiaaaGrQ
set_option linter.unusedSimpArgs false
set_option linter.unusedVariables false
namespace Go.Proofs.Ythlildafofbiaaa
open Go Go.RowKit
/-- How much can still be charged to an account. -/
def roomU (u : US) (k : Nat) : Int := ((acL u).getD k default).mx - ((acL u).getD k default).us
theorem sh_bad {x : AK} {u : US} {no al : Int} {a j : Nat} (ha : x.a = (a : Int)) (ha3 : a < 3) (hj : j ≤ a) (hf : ∀ i, i < j → tot x ≤ roomU u (a - i)) (hb : tot x > roomU u (a - j)) : shM x u no al = (tot x - roomU u (a - j), (a : Int) - j, false) := by
  have r0 : roomU u 0 = 9 - u.a := rfl
  have r1 : roomU u 1 = 6 - u.b := rfl
  have r2 : roomU u 2 = 4 - u.c := rfl
  have h : a = 0 ∨ a = 1 ∨ a = 2 := by omega
  have h' : j = 0 ∨ j = 1 ∨ j = 2 := by omega
  unfold shM
  rcases h with rfl | rfl | rfl <;> rcases h' with rfl | rfl | rfl <;> try omega
  · rw [show (0 - 0 : Nat) = 0 from rfl, r0] at hb ⊢
    rw [if_neg (by omega), if_neg (by omega), if_pos (by omega)]; rfl
  · rw [show (1 - 0 : Nat) = 1 from rfl, r1] at hb ⊢
    rw [if_neg (by omega), if_pos (by omega)]; rfl
  · have h0 := hf 0 (by omega)
    rw [show (1 - 0 : Nat) = 1 from rfl, r1] at h0
    rw [show (1 - 1 : Nat) = 0 from rfl, r0] at hb ⊢
    rw [if_neg (by omega), if_neg (by omega), if_pos (by omega)]; rfl
  · rw [show (2 - 0 : Nat) = 2 from rfl, r2] at hb ⊢
    rw [if_pos (by omega)]; rfl
  · have h0 := hf 0 (by omega)
    rw [show (2 - 0 : Nat) = 2 from rfl, r2] at h0
    rw [show (2 - 1 : Nat) = 1 from rfl, r1] at hb ⊢
    rw [if_neg (by omega), if_pos (by omega)]; rfl
  · have h0 := hf 0 (by omega)
    have h1 := hf 1 (by omega)
    rw [show (2 - 0 : Nat) = 2 from rfl, r2] at h0
    rw [show (2 - 1 : Nat) = 1 from rfl, r1] at h1
    rw [show (2 - 2 : Nat) = 0 from rfl, r0] at hb ⊢
    rw [if_neg (by omega), if_neg (by omega), if_pos (by omega)]; rfl
theorem sh_rest {x : AK} {u : US} {no al : Int} {a : Nat} (ha : x.a = (a : Int)) (ha3 : a < 3) (hf : ∀ i, i < a + 1 → tot x ≤ roomU u (a - i)) : shM x u no al = if x.k > no then (x.k - no, -1, true) else if tot x > al then (tot x - al, -1, false) else (0, -1, false) := by
  have r0 : roomU u 0 = 9 - u.a := rfl
  have r1 : roomU u 1 = 6 - u.b := rfl
  have r2 : roomU u 2 = 4 - u.c := rfl
  have h : a = 0 ∨ a = 1 ∨ a = 2 := by omega
  unfold shM
  rcases h with rfl | rfl | rfl
  · have h0 := hf 0 (by omega)
    rw [show (0 - 0 : Nat) = 0 from rfl, r0] at h0
    rw [if_neg (by omega), if_neg (by omega), if_neg (by omega)]
  · have h0 := hf 0 (by omega)
    have h1 := hf 1 (by omega)
    rw [show (1 - 0 : Nat) = 1 from rfl, r1] at h0
    rw [show (1 - 1 : Nat) = 0 from rfl, r0] at h1
    rw [if_neg (by omega), if_neg (by omega), if_neg (by omega)]
  · have h0 := hf 0 (by omega)
    have h1 := hf 1 (by omega)
    have h2 := hf 2 (by omega)
    rw [show (2 - 0 : Nat) = 2 from rfl, r2] at h0
    rw [show (2 - 1 : Nat) = 1 from rfl, r1] at h1
    rw [show (2 - 2 : Nat) = 0 from rfl, r0] at h2
    rw [if_neg (by omega), if_neg (by omega), if_neg (by omega)]
theorem fit_room {x : AK} {u : US} {no al : Int} (hx : Ak x) (h : fitM x u no al = true) : ∀ k, k ≤ x.a.toNat → ((acL u).getD k default).us + tot x ≤ ((acL u).getD k default).mx := fun k hk => by
  obtain ⟨f1, f2, f3, _⟩ := shM_no.1 h
  have ha := hx.a
  have hk' : k = 0 ∨ k = 1 ∨ k = 2 := by omega
  rcases hk' with rfl | rfl | rfl
  · show u.a + tot x ≤ 9; omega
  · show u.b + tot x ≤ 6; omega
  · show u.c + tot x ≤ 4; omega
theorem tri_slice {α : Type} [Enc α] {n : Nat} {F : Act → World → Prop} {E : Env} {w0 : World} {cs cs0 : List Chunk} {v : Value} {l : List α} (hR : RdH (Hp w0 cs0) v l) (k : ∀ A c, v = .slice A l.length c → Tri n F E (Hp w0 cs)) (hs : cs0.Sublist cs := by repeat (first | exact List.Sublist.refl _ | assumption | apply List.Sublist.cons_cons | apply List.Sublist.cons)) : Tri n F E (Hp w0 cs) := fun a w h1 h2 => by
  obtain ⟨A, c, h, _⟩ := (hR w (h2.sub hs)).form
  exact k A c h a w h1 h2
abbrev shV (s : Int × Int × Bool) : Value := .agg #[.int .i64 s.1, .int .i64 s.2.1, .bool s.2.2]
abbrev shE (g : Nat) (s : Int × Int × Bool) : Chunk := blkC g 58 [.int .i64 s.1, .int .i64 s.2.1, .bool s.2.2]
attribute [local irreducible] acL shM
attribute [local irreducible] Code.wp wpList bodyPost Exit.then Exit.inBlock Calls wpQuiet Tri TriQ
section
variable (w0 : World) (cs : List Chunk)
set_option maxHeartbeats 4000000 in
theorem short_c {v : Value} {u : US} (hu : Uk u) (hR : RdH (Hp w0 cs) v (acL u)) {x : AK} (hx : Ak x) {no al : Int} (hno : 0 ≤ no ∧ no ≤ 100) (hal : 0 ≤ al ∧ al ≤ 100) : Cal Try.prog 21 [akV x, v, .int .i64 no, .int .i64 al] (Hp w0 cs) (fun _ : Unit => .tuple #[shV (shM x u no al), .int .i64 0]) (fun _ => Hp w0 cs) := by
  have hl := acL_len u
  have hxa := hx.a
  have hxk := hx.k
  have hxu := hx.u
  obtain ⟨a, ha⟩ : ∃ a : Nat, x.a = (a : Int) := ⟨x.a.toNat, by omega⟩
  have ha3 : a < 3 := by omega
  have hpl := pth_len a (a + 1)
  have ht : tot x = x.k + x.u := rfl
  refine cal_of_tri Try.func21 rfl Try.ntmps21 rfl ?_
  (repeat (first | refine tri_seq ?_ | refine tri_then ?_)); refine tri_region ?_; (repeat (first | refine au_pure ?_ | refine au_pass ?_ | refine au_box (fun _ => ?_) | refine au_alloc (fun _ => ?_) | refine au_store ?_ | refine au_make rfl rfl (fun _ => ?_) | refine au_lit rfl rfl rfl (fun _ => ?_) | refine au_append rfl rfl rfl rfl (fun _ => au_norm ?_) | refine au_storeE rfl rfl rfl rfl ?_)); refine tri_nil ?_; (repeat refine tri_then ?_)
  rename_i g4 g8
  refine tri_weak (H' := Hp w0 (shE g8 (0, 0, false) :: akE g4 x :: cs)) (fun w h => h) ?_
  have hR2 := (hR.cons (c := akE g4 x)).cons (c := shE g8 (0, 0, false))
  (repeat (first | refine zz ?_ | refine zv fun _ => ?_))
  refine au_callC rfl rfl rfl rfl rfl (valid_c w0 _ hx) (fun _ => ?_)
  (repeat (first | refine zz ?_ | refine zv fun _ => ?_))
  refine au_callC rfl rfl rfl rfl rfl (acheck_c w0 _ hu hR2) (fun _ => ?_)
  (repeat (first | refine zz ?_ | refine zv fun _ => ?_))
  refine au_pure ?_ (hy := yl_len rfl rfl hR2)
  rw [hl]
  (repeat (first | refine zz ?_ | refine zv fun _ => ?_))
  rw [show decide (x.a ≥ ((3 : Nat) : Int)) = false from decide_eq_false (by omega)]
  (repeat (first | refine zz ?_ | refine zv fun _ => ?_))
  rw [← ht, ha]
  refine au_callC rfl rfl rfl rfl rfl (path_c w0 _ hu hR2 ha3) ?_
  intro rp
  refine tri_weak (H' := Hp w0 (inS rp (pthL a (a + 1)) :: shE g8 (0, 0, false) :: akE g4 x :: cs)) (fun w h => h) ?_
  have hR3 := hR2.cons (c := inS rp (pthL a (a + 1)))
  have hP : RdH (Hp w0 (inS rp (pthL a (a + 1)) :: shE g8 (0, 0, false) :: akE g4 x :: cs)) rp.v (pthL a (a + 1)) := rd_chunk ⟨0, rfl⟩
  (repeat (first | refine zz ?_ | refine zv fun _ => ?_))
  refine au_pure ?_ (hy := yl_len rfl rfl hP)
  rw [hpl]
  (repeat (first | refine zz ?_ | refine zv fun _ => ?_))
  refine tri_block ?_
  refine tri_loop1 (fun (j : Nat) => j ≤ a + 1 ∧ ∀ i, i < j → tot x ≤ roomU u (a - i)) (fun j => [(1, v), (2, .int .i64 no), (3, .int .i64 al), (4, .pointer (some ⟨g4, 0, none⟩)), (8, .pointer (some ⟨g8, 0, none⟩)), (11, .int .i64 (tot x)), (39, rp.v), (40, .int .i64 ((a + 1 : Nat) : Int)), (41, .int .i64 (j : Int))]) (fun _ => Hp w0 (inS rp (pthL a (a + 1)) :: shE g8 (0, 0, false) :: akE g4 x :: cs)) (fun j => a + 1 - j) 0 ⟨by omega, fun i hi => absurd hi (Nat.not_lt_zero i)⟩ (by repeat (first | exact trivial | refine ⟨rfl, ?_⟩)) (fun w h => h) ?_
  rintro j ⟨hj, hfit⟩
  (repeat (first | refine zz ?_ | refine zv fun _ => ?_))
  ((first | refine tri_cond (by rfl) (fun hc => ?_) (fun hc => ?_) | refine tri_gsplit (by rfl) (by rfl) (by (fail_if_success exact (rfl : _ = some (Value.bool true))); (fail_if_success exact (rfl : _ = some (Value.bool false))); rfl) (fun hc => ?_) (fun hc => ?_)) <;> (try simp only [decide_eq_true_eq, decide_eq_false_iff_not, beq_iff_eq, bne_iff_ne, ne_eq, Bool.not_eq_true', Bool.not_eq_false', beq_eq_false_iff_ne, bne_eq_false_iff_eq, Int.not_lt, Int.not_le, gt_iff_lt, ge_iff_le, Bool.and_eq_true, Bool.or_eq_true, Bool.and_eq_false_iff, Bool.or_eq_false_iff, Decidable.not_not, not_true_eq_false, not_false_eq_true, and_true, true_and, or_false, false_or, or_true, true_or, and_false, false_and, eq_self, Bool.true_eq_false, Bool.false_eq_true] at hc) <;> (try (exfalso; omega)))
  case refine_1 =>
    have hpa := pth_at a (j := a + 1) (i := j) (by omega)
    obtain ⟨f1, f2, f3, f4, f5, f6⟩ := ac_at hu (k := a - j) (by omega)
    have hro : roomU u (a - j) = ((acL u).getD (a - j) default).mx - ((acL u).getD (a - j) default).us := rfl
    (repeat (first | refine zz ?_ | refine zv fun _ => ?_))
    refine tri_block ?_
    (repeat (first | refine zz ?_ | refine zv fun _ => ?_))
    refine au_pure ?_ (hy := yl_idx (k := j) rfl rfl hP (ix_nat rfl) (by rfl) (by omega))
    refine au_pure ?_ (hy := yl_loadE rfl rfl hP (by rfl) (by omega) (by rfl))
    rw [hpa]
    (repeat (first | refine zz ?_ | refine zv fun _ => ?_))
    (repeat (first | refine tri_seq ?_ | refine tri_then ?_))
    refine au_draw rfl ?_
    (repeat (first | refine z1 ?_ | refine au_qpass rfl rfl ?_ | refine triq_nil ?_))
    refine au_qpure rfl rfl ?_ (hy := yl_idx (k := a - j) rfl rfl hR3 (ix_eq rfl (by omega)) (by rfl) (by omega))
    refine au_qpure rfl rfl ?_ (hy := yl_fieldE rfl rfl)
    refine au_qpure rfl rfl ?_ (hy := yl_loadE rfl rfl hR3 (by rfl) (by omega) (by rfl))
    (repeat (first | refine z1 ?_ | refine au_qpass rfl rfl ?_ | refine triq_nil ?_))
    refine au_qpure rfl rfl ?_ (hy := yl_idx (k := a - j) rfl rfl hR3 (ix_eq rfl (by omega)) (by rfl) (by omega))
    refine au_qpure rfl rfl ?_ (hy := yl_fieldE rfl rfl)
    refine au_qpure rfl rfl ?_ (hy := yl_loadE rfl rfl hR3 (by rfl) (by omega) (by rfl))
    (repeat (first | refine z1 ?_ | refine au_qpass rfl rfl ?_ | refine triq_nil ?_))
    rw [← hro]
    (repeat (first | refine zz ?_ | refine zv fun _ => ?_))
    cases hb : decide (tot x > roomU u (a - j))
    case true =>
      have hb := of_decide_eq_true hb
      have he := sh_bad (no := no) (al := al) ha ha3 (by omega) hfit hb
      (repeat (first | refine zz ?_ | refine zv fun _ => ?_))
      refine tri_weak (H' := Hp w0 (inS rp (pthL a (a + 1)) :: shE g8 (tot x - roomU u (a - j), (a : Int) - j, false) :: akE g4 x :: cs)) (fun w h => h) ?_
      refine au_done2 rfl ?_
      exact fun w hw => ⟨(), by rw [he], hw.sub (List.Sublist.cons _ (List.Sublist.cons _ (List.Sublist.cons _ (List.Sublist.refl _))))⟩
    have hb := of_decide_eq_false hb
    (repeat (first | refine zz ?_ | refine zv fun _ => ?_))
    exact tri_nx1 (j + 1) (by omega) ⟨by omega, fun i hi => by
      by_cases e : i = j
      · rw [e]; omega
      · exact hfit i (by omega)⟩ (by repeat (first | exact trivial | refine ⟨rfl, ?_⟩)) (fun w h => h)
  have hje : j = a + 1 := by omega
  subst hje
  have he := sh_rest (no := no) (al := al) ha ha3 hfit
  refine tri_weak (H' := Hp w0 (shE g8 (0, 0, false) :: akE g4 x :: cs)) (fun w h => h.sub (List.Sublist.cons _ (List.Sublist.refl _))) ?_
  (repeat (first | refine zz ?_ | refine zv fun _ => ?_))
  refine au_pure ?_ (hy := yl_max2 rfl rfl rfl)
  rw [show (if (-1048576 : Int) > no then (-1048576 : Int) else no) = no from if_neg (by omega)]
  (repeat (first | refine zz ?_ | refine zv fun _ => ?_))
  refine au_pure ?_ (hy := yl_max2 rfl rfl rfl)
  rw [show (if (-1048576 : Int) > al then (-1048576 : Int) else al) = al from if_neg (by omega)]
  (repeat (first | refine zz ?_ | refine zv fun _ => ?_))
  refine tri_block ?_
  (repeat (first | refine zz ?_ | refine zv fun _ => ?_))
  cases h1 : decide (x.k > no)
  case true =>
    have h1 := of_decide_eq_true h1
    rw [if_pos h1] at he
    (repeat (first | refine zz ?_ | refine zv fun _ => ?_))
    refine au_done2 rfl ?_
    exact fun w hw => ⟨(), by rw [he], hw.sub (List.Sublist.cons _ (List.Sublist.cons _ (List.Sublist.refl _)))⟩
  have h1 := of_decide_eq_false h1
  rw [if_neg h1] at he
  (repeat (first | refine zz ?_ | refine zv fun _ => ?_))
  cases h2 : decide (tot x > al)
  case true =>
    have h2 := of_decide_eq_true h2
    rw [if_pos h2] at he
    (repeat (first | refine zz ?_ | refine zv fun _ => ?_))
    refine au_done2 rfl ?_
    exact fun w hw => ⟨(), by rw [he], hw.sub (List.Sublist.cons _ (List.Sublist.cons _ (List.Sublist.refl _)))⟩
  have h2 := of_decide_eq_false h2
  rw [if_neg h2] at he
  (repeat (first | refine zz ?_ | refine zv fun _ => ?_))
  refine au_done2 rfl ?_
  exact fun w hw => ⟨(), by rw [he], hw.sub (List.Sublist.cons _ (List.Sublist.cons _ (List.Sublist.refl _)))⟩
theorem svt_c {g : Nat} {v : Value} {u : US} {l : List AK} (hj : Has cs (blkC g 31 [v])) (hR : RdH (Hp w0 cs) v (acL u)) : TstAK w0 cs 19 [.pointer (some ⟨g, 0, none⟩)] (fun x => decide (x.a ≥ 3)) l := fun ds x _ => by
  have hj' : Has (ds ++ cs) (blkC g 31 [v]) := has_app hj
  have hl := acL_len u
  have hR' : RdH (Hp w0 (ds ++ cs)) v (acL u) := fun w hw => hR w (hw.sub (List.sublist_append_right ..))
  show Cal _ _ [.agg #[.int .i64 x.p, .int .i64 x.a, .int .i64 x.k, .int .i64 x.u], .pointer (some ⟨g, 0, none⟩)] _ _ _
  refine cal_of_tri Try.func19 rfl Try.ntmps19 rfl ?_
  (repeat (first | refine tri_seq ?_ | refine tri_then ?_)); refine tri_region ?_; (repeat (first | refine au_pure ?_ | refine au_pass ?_ | refine au_box (fun _ => ?_) | refine au_alloc (fun _ => ?_) | refine au_store ?_ | refine au_make rfl rfl (fun _ => ?_) | refine au_lit rfl rfl rfl (fun _ => ?_) | refine au_append rfl rfl rfl rfl (fun _ => au_norm ?_) | refine au_storeE rfl rfl rfl rfl ?_)); refine tri_nil ?_; (repeat refine tri_then ?_)
  (repeat (first | refine zz ?_ | refine zv fun _ => ?_))
  refine au_pure ?_ (hy := yl_len rfl rfl hR'.cons)
  rw [hl]
  (repeat (first | refine zz ?_ | refine zv fun _ => ?_))
  refine au_done1 rfl ?_
  exact fun w hw => ⟨(), rfl, hw.sub (List.Sublist.cons _ (List.Sublist.refl _))⟩
abbrev slB (g : Nat) (v : Value) : Chunk := blkC g 31 [v]
set_option maxHeartbeats 4000000 in
theorem serve_c {vq vl : Value} {b : BQ} (h : Bi b) (hQ : RdH (Hp w0 cs) vq b.q) (hR : RdH (Hp w0 cs) vl (acL b.u)) : Cal Try.prog 9 [vq, vl, .int .i64 b.no, .int .i64 b.al] (Hp w0 cs) (fun r : Row => .tuple #[.int .i64 (srvN b.q.length b : Int), r.v, .int .i64 0]) (fun r => Hp w0 (acS r (acL (preB b (srvN b.q.length b)).u) :: cs)) := by
  have hq := h.qk
  have hql := hq.l
  have hl := acL_len
  have hany : (b.q.any fun x => decide (x.a ≥ 3)) = false := getD_any.2 fun j hj => decide_eq_false (by have := (hq.at hj).a; omega)
  refine cal_of_tri Try.func9 rfl Try.ntmps9 rfl ?_
  refine tri_slice hR (fun Aq capq e0 => ?_)
  (repeat (first | refine tri_seq ?_ | refine tri_then ?_)); refine tri_region ?_; (repeat (first | refine au_pure ?_ | refine au_pass ?_ | refine au_box (fun _ => ?_) | refine au_alloc (fun _ => ?_) | refine au_store ?_ | refine au_make rfl rfl (fun _ => ?_) | refine au_lit rfl rfl rfl (fun _ => ?_) | refine au_append rfl rfl rfl rfl (fun _ => au_norm ?_) | refine au_storeE rfl rfl rfl rfl ?_)); refine tri_nil ?_; (repeat refine tri_then ?_)
  rename_i g5
  refine tri_weak (H' := Hp w0 (slB g5 vl :: cs)) (fun w h => by subst e0; exact h) ?_
  have hQ2 := hQ.cons (c := slB g5 vl)
  have hR2 := hR.cons (c := slB g5 vl)
  (repeat (first | refine zz ?_ | refine zv fun _ => ?_))
  refine au_callC rfl rfl rfl rfl rfl (gcheck_c w0 _ hQ2 hq) (fun _ => ?_)
  (repeat (first | refine zz ?_ | refine zv fun _ => ?_))
  refine au_callC rfl rfl rfl rfl rfl (acheck_c w0 _ h.uk hR2) (fun _ => ?_)
  (repeat (first | refine zz ?_ | refine zv fun _ => ?_))
  refine au_pure ?_ (hy := yl_func rfl rfl)
  refine au_callC rfl rfl rfl rfl rfl (containsFuncAK_c w0 _ hQ2 (by omega) (svt_c w0 _ (u := b.u) ⟨0, rfl⟩ hR2)) (fun _ => ?_)
  rw [hany]
  (repeat (first | refine zz ?_ | refine zv fun _ => ?_))
  refine au_callC rfl rfl rfl rfl rfl (cloneAC_c w0 _ hR2 (by rw [hl]; decide)) ?_
  intro r
  refine tri_weak (H' := Hp w0 (acS r (acL b.u) :: slB g5 vl :: cs)) (fun w h => h) ?_
  (repeat (first | refine zz ?_ | refine zv fun _ => ?_))
  refine au_pure ?_ (hy := yl_len rfl rfl (hQ.cons (c := slB g5 r.v)).cons)
  refine tri_weak (H' := Hp w0 (slB g5 r.v :: acS r (acL b.u) :: cs)) (fun w h => by
    have h : Hp w0 (acS r (acL b.u) :: slB g5 r.v :: cs) w := h
    exact HpM.perm h (List.Perm.swap _ _ _)) ?_
  (repeat (first | refine zz ?_ | refine zv fun _ => ?_))
  refine tri_block ?_
  refine tri_loop2 (fun (i : Nat) (r : Row) => i ≤ b.q.length ∧ ∀ j, j < i → goB (preB b j) = true) (fun i r => [(0, vq), (2, .int .i64 (preB b i).no), (3, .int .i64 (preB b i).al), (5, .pointer (some ⟨g5, 0, none⟩)), (33, vq), (34, .int .i64 (b.q.length : Int)), (35, .int .i64 (i : Int))])
    (fun i r => Hp w0 (slB g5 r.v :: acS r (acL (preB b i).u) :: cs)) (fun i _ => b.q.length - i) 0 r ⟨by omega, fun j hj => absurd hj (Nat.not_lt_zero j)⟩ (by repeat (first | exact trivial | refine ⟨rfl, ?_⟩)) (fun w h => h) ?_
  clear r
  rintro i r ⟨hi, hgo⟩
  have hp := bi_pre h i hgo
  have hpq := (pre_q b i).1
  (repeat (first | refine zz ?_ | refine zv fun _ => ?_))
  ((first | refine tri_cond (by rfl) (fun hc => ?_) (fun hc => ?_) | refine tri_gsplit (by rfl) (by rfl) (by (fail_if_success exact (rfl : _ = some (Value.bool true))); (fail_if_success exact (rfl : _ = some (Value.bool false))); rfl) (fun hc => ?_) (fun hc => ?_)) <;> (try simp only [decide_eq_true_eq, decide_eq_false_iff_not, beq_iff_eq, bne_iff_ne, ne_eq, Bool.not_eq_true', Bool.not_eq_false', beq_eq_false_iff_ne, bne_eq_false_iff_eq, Int.not_lt, Int.not_le, gt_iff_lt, ge_iff_le, Bool.and_eq_true, Bool.or_eq_true, Bool.and_eq_false_iff, Bool.or_eq_false_iff, Decidable.not_not, not_true_eq_false, not_false_eq_true, and_true, true_and, or_false, false_or, or_true, true_or, and_false, false_and, eq_self, Bool.true_eq_false, Bool.false_eq_true] at hc) <;> (try (exfalso; omega)))
  case refine_1 =>
    have hi' : i < b.q.length := by omega
    have hA := hq.at hi'
    have hpn := hp.n0
    have hpt := hp.t0
    have hb1 : (preB b i).no ≤ 4 := by
      have := hp.n
      have := sum_pos GR.k (l := (preB b i).out) fun y hy => (hp.o y hy).k.1
      unfold sumK at *
      omega
    have hb2 : (preB b i).al ≤ 10 := by
      have := hp.t
      have := sum_pos gT (l := (preB b i).out) fun y hy => (gT_pos (hp.o y hy)).1
      unfold sumT at *
      omega
    obtain ⟨x, hx⟩ : ∃ x, x = b.q.getD i default := ⟨_, rfl⟩
    have hhd : hdA (preB b i) = x := by rw [pre_hd, hx]
    rw [← hx] at hA
    have hak := hA.k
    have hau := hA.u
    have haa := hA.a
    have hgi : goB (preB b i) = fitM x (preB b i).u (preB b i).no (preB b i).al := by
      unfold goB
      rw [hhd, hpq]
      have : (b.q.drop i).isEmpty = false := by
        rw [List.isEmpty_eq_false_iff]
        intro e
        have := congrArg List.length e
        rw [List.length_drop] at this
        simp at this
        omega
      rw [this]; rfl
    (repeat (first | refine zz ?_ | refine zv fun _ => ?_))
    refine tri_block ?_
    (repeat (first | refine zz ?_ | refine zv fun _ => ?_))
    refine au_pure ?_ (hy := yl_idx (k := i) rfl rfl (hQ.cons (c := acS r (acL (preB b i).u))).cons (ix_nat rfl) (by rfl) (by omega))
    refine au_pure ?_ (hy := yl_loadEN rfl rfl (hQ.cons (c := acS r (acL (preB b i).u))).cons (by rfl) (by omega) (by repeat (first | exact nf0 rfl | apply nfS rfl | exact nfR)) (by rfl))
    rw [← hx]
    (repeat (first | refine au_pure ?_ | refine au_pass ?_ | refine au_box (fun _ => ?_) | refine au_alloc (fun _ => ?_) | refine au_store ?_ | refine au_make rfl rfl (fun _ => ?_) | refine au_lit rfl rfl rfl (fun _ => ?_) | refine au_append rfl rfl rfl rfl (fun _ => au_norm ?_) | refine au_storeE rfl rfl rfl rfl ?_)); refine tri_nil ?_; (repeat refine tri_then ?_)
    rename_i g14
    refine tri_weak (H' := Hp w0 (akE g14 x :: slB g5 r.v :: acS r (acL (preB b i).u) :: cs)) (fun w h => h) ?_
    have hR3 : RdH (Hp w0 (akE g14 x :: slB g5 r.v :: acS r (acL (preB b i).u) :: cs)) r.v (acL (preB b i).u) := rd_chunk ⟨2, rfl⟩
    (repeat (first | refine zz ?_ | refine zv fun _ => ?_))
    refine au_callC rfl rfl rfl rfl rfl (short_c w0 _ hp.uk hR3 hA (no := (preB b i).no) (al := (preB b i).al) (by omega) (by omega)) (fun _ => ?_)
    (repeat (first | refine au_pure ?_ | refine au_pass ?_ | refine au_box (fun _ => ?_) | refine au_alloc (fun _ => ?_) | refine au_store ?_ | refine au_make rfl rfl (fun _ => ?_) | refine au_lit rfl rfl rfl (fun _ => ?_) | refine au_append rfl rfl rfl rfl (fun _ => au_norm ?_) | refine au_storeE rfl rfl rfl rfl ?_)); refine tri_nil ?_; (repeat refine tri_then ?_)
    rename_i g15
    refine tri_weak (H' := Hp w0 (shE g15 (shM x (preB b i).u (preB b i).no (preB b i).al) :: akE g14 x :: slB g5 r.v :: acS r (acL (preB b i).u) :: cs)) (fun w h => h) ?_
    (repeat (first | refine zz ?_ | refine zv fun _ => ?_))
    cases hs : decide ((shM x (preB b i).u (preB b i).no (preB b i).al).1 > 0)
    case true =>
      have hn : srvN b.q.length b = i := srv_of i b hgo (by rw [hgi]; unfold fitM; rw [hs]; rfl)
      rw [hn]
      (repeat (first | refine zz ?_ | refine zv fun _ => ?_))
      (repeat (first | refine tri_seq ?_ | refine tri_then ?_))
      refine au_draw rfl ?_
      (repeat (first | refine z1 ?_ | refine au_qpass rfl rfl ?_ | refine triq_nil ?_))
      (repeat (first | refine zz ?_ | refine zv fun _ => ?_))
      refine au_done3 rfl ?_
      exact fun w hw => ⟨r, rfl, hw.sub (List.Sublist.cons _ (List.Sublist.cons _ (List.Sublist.cons _ (List.Sublist.refl _))))⟩
    have hfit : fitM x (preB b i).u (preB b i).no (preB b i).al = true := by unfold fitM; rw [hs]; rfl
    have hro := fit_room hA hfit
    obtain ⟨a, ha⟩ : ∃ a : Nat, x.a = (a : Int) := ⟨x.a.toNat, by omega⟩
    rw [ha, Int.toNat_natCast] at hro
    have ht : tot x = x.k + x.u := rfl
    have hR4 := hR3.cons (c := shE g15 (shM x (preB b i).u (preB b i).no (preB b i).al))
    have e1 : (preB b (i + 1)).u = addU (preB b i).u (a : Int) (tot x) := by show addU (preB b i).u (hdA (preB b i)).a (tot (hdA (preB b i))) = _; rw [hhd, ha]
    have e2 : (preB b (i + 1)).no = (preB b i).no - x.k := by show (preB b i).no - (hdA (preB b i)).k = _; rw [hhd]
    have e3 : (preB b (i + 1)).al = (preB b i).al - tot x := by show (preB b i).al - tot (hdA (preB b i)) = _; rw [hhd]
    (repeat (first | refine zz ?_ | refine zv fun _ => ?_))
    rw [← ht, ha]
    refine au_callC rfl rfl rfl rfl rfl (charge_c w0 _ hp.uk hR4 (a := a) (by omega) (n := tot x) (by omega) hro) ?_
    intro r2
    (repeat (first | refine zz ?_ | refine zv fun _ => ?_))
    rw [← e2, ← e3]
    exact tri_nx2 (i + 1) r2 (by omega) ⟨by omega, fun j hj => by
      by_cases e : j = i
      · rw [e, hgi]; exact hfit
      · exact hgo j (by omega)⟩ (by repeat (first | exact trivial | refine ⟨rfl, ?_⟩)) (fun w h => by
      have h : Hp w0 (acS r2 (acL (addU (preB b i).u (a : Int) (tot x))) :: shE g15 (shM x (preB b i).u (preB b i).no (preB b i).al) :: akE g14 x :: slB g5 r2.v :: acS r (acL (preB b i).u) :: cs) w := h
      rw [e1]
      have h2 : Hp w0 (acS r2 (acL (addU (preB b i).u (a : Int) (tot x))) :: slB g5 r2.v :: cs) w := h.sub (List.Sublist.cons_cons _ (List.Sublist.cons _ (List.Sublist.cons _ (List.Sublist.cons_cons _ (List.Sublist.cons _ (List.Sublist.refl _))))))
      exact HpM.perm h2 (List.Perm.swap _ _ _))
  have hie : i = b.q.length := by omega
  have hn : srvN b.q.length b = i := srv_of i b hgo (by unfold goB; rw [hpq, hie, List.drop_length]; rfl)
  rw [hn]
  (repeat (first | refine zz ?_ | refine zv fun _ => ?_))
  (repeat (first | refine tri_seq ?_ | refine tri_then ?_))
  refine au_draw rfl ?_
  (repeat (first | refine z1 ?_ | refine au_qpass rfl rfl ?_ | refine triq_nil ?_))
  refine au_qpure rfl rfl ?_ (hy := yl_len rfl rfl (hQ.cons (c := acS r (acL (preB b i).u))).cons)
  (repeat (first | refine z1 ?_ | refine au_qpass rfl rfl ?_ | refine triq_nil ?_))
  (repeat (first | refine zz ?_ | refine zv fun _ => ?_))
  rw [← hie]
  refine au_done3 rfl ?_
  exact fun w hw => ⟨r, rfl, hw.sub (List.Sublist.cons _ (List.Sublist.refl _))⟩
end
end Go.Proofs.Ythlildafofbiaaa
