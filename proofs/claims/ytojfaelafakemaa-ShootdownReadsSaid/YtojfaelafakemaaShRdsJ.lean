/- Texts joined: ShRds. Each part's own remark says what it proves. -/
import Derived.Test.YtojfaelafakemaaShBeginJ
import Derived.Test.YtojfaelafakemaaM28
import Derived.Test.YtojfaelafakemaaM29
/- The walk of the law ShootdownReads. No conditions. -/
set_option linter.unusedSimpArgs false
set_option linter.unusedVariables false
namespace Go.Proofs.Ytojfaelafakemaa
open Go Go.RowKit
instance : MpTy Try.prog 58 Int := ⟨_, _, Try.underlying58, Try.underlying3, fun w => Zr.run w⟩
attribute [local irreducible] mapM unmapM protM accM ackM sdoM schk snewM freeM quietM goM bgM atM decR
attribute [local irreducible] Code.wp wpList bodyPost Exit.then Exit.inBlock Calls wpQuiet Tri TriQ
section
variable (w0 : World) (cs : List Chunk)
set_option maxHeartbeats 4000000 in
theorem reads_law {vO : Value} {ops : List SO} (a b c d : Int) (ha : 0 ≤ a ∧ a ≤ 255) (hb : 0 ≤ b ∧ b ≤ 255) (hc : 0 ≤ c ∧ c ≤ 255) (hd' : 0 ≤ d ∧ d ≤ 255) (hO : ∀ cs, RdH (Hp w0 cs) vO ops) (hOl : ops.length ≤ 9223372036854775807) :
    Cal Try.prog 5 [.agg #[.int .u8 a, .int .u8 b, .int .u8 c, .int .u8 d], vO] (Hp w0 cs) (fun _ : Unit => .bool true) (fun _ => Hp w0 cs) := by
  refine cal_of_tri Try.func5 rfl Try.ntmps5 rfl ?_
  (repeat (first | refine tri_seq ?_ | refine tri_then ?_)); refine tri_region ?_; (repeat (first | refine au_pure ?_ | refine au_pass ?_ | refine au_box (fun _ => ?_) | refine au_alloc (fun _ => ?_) | refine au_store ?_ | refine au_make rfl rfl (fun _ => ?_) | refine au_lit rfl rfl rfl (fun _ => ?_) | refine au_append rfl rfl rfl rfl (fun _ => au_norm ?_) | refine au_storeE rfl rfl rfl rfl ?_)); refine tri_nil ?_; (repeat refine tri_then ?_)
  rename_i g2
  refine tri_weak (H' := Hp w0 (u4C g2 a b c d :: cs)) (fun w h => h) ?_
  (repeat (first | refine zz ?_ | refine zv fun _ => ?_))
  refine au_callC rfl rfl rfl rfl rfl (awake_c w0 _) (fun _ => ?_)
  (repeat (first | refine zz ?_ | refine zv fun _ => ?_))
  refine au_pure ?_ (hy := yl_len rfl rfl (hO _))
  (repeat (first | refine zz ?_ | refine zv fun _ => ?_))
  cases h1 : decide ((ops.length : Int) > 40)
  case true =>
    (repeat (first | refine zz ?_ | refine zv fun _ => ?_))
    refine au_callC rfl rfl rfl rfl rfl (awake_c w0 _) (fun _ => ?_)
    (repeat (first | refine zz ?_ | refine zv fun _ => ?_))
    refine au_done1 rfl ?_
    exact fun w hw => ⟨(), rfl, hw.sub (by repeat (first | exact List.Sublist.refl _ | assumption | apply List.Sublist.cons_cons | apply List.Sublist.cons))⟩
  have h1 := of_decide_eq_false h1
  (repeat (first | refine zz ?_ | refine zv fun _ => ?_))
  refine au_callC rfl rfl rfl rfl rfl (begin_c w0 _ a b c d ha hb hc hd') ?_
  rintro ⟨q, hq⟩
  (repeat (first | refine au_pure ?_ | refine au_pass ?_ | refine au_box (fun _ => ?_) | refine au_alloc (fun _ => ?_) | refine au_store ?_ | refine au_make rfl rfl (fun _ => ?_) | refine au_lit rfl rfl rfl (fun _ => ?_) | refine au_append rfl rfl rfl rfl (fun _ => au_norm ?_) | refine au_storeE rfl rfl rfl rfl ?_)); refine tri_nil ?_; (repeat refine tri_then ?_)
  rename_i g5
  refine tri_weak (H' := Hp w0 (hdC g5 (hd q) :: (SC q (bgM a b c d) ++ cs))) (fun w h => h.sub (List.Sublist.cons_cons _ (List.Sublist.append_left (List.Sublist.cons _ (List.Sublist.refl _)) _))) ?_
  have hkp := bg_kp a b c d
  have hvp := bg_vp a b c d
  (repeat (first | refine zz ?_ | refine zv fun _ => ?_))
  refine tri_makeMap Int rfl rfl rfl rfl (fun bm => ?_)
  refine tri_weak (H' := Hp w0 (mapC bm ([] : List (Int × Int)) :: hdC g5 (hd q) :: (SC q (bgM a b c d) ++ cs))) (fun w h => h) ?_
  (repeat (first | refine zz ?_ | refine zv fun _ => ?_))
  refine au_pure ?_ (hy := yl_len rfl rfl (hO _))
  (repeat (first | refine zz ?_ | refine zv fun _ => ?_))
  refine tri_block ?_
  refine tri_loop2 (fun (k : Nat) (y : SR × SM × List (Int × Int)) => k ≤ ops.length ∧ SOk y.1 y.2.1 ∧ Kp k y.2.1 ∧ Vp y.2.1 ∧ (keysL y.2.2).Nodup ∧ ∀ p v, aGet y.2.2 p = some v → Kn y.2.1 p v) (fun k _ => [(5, .pointer (some ⟨g5, 0, none⟩)), (7, .map (some bm)), (36, vO), (37, .int .i64 (ops.length : Int)), (38, .int .i64 (k : Int))])
    (fun _ y => Hp w0 (mapC bm y.2.2 :: hdC g5 (hd y.1) :: (SC y.1 y.2.1 ++ cs))) (fun k _ => ops.length - k)
    0 (q, bgM a b c d, []) ⟨by omega, hq, hkp, hvp, List.nodup_nil, fun p v h => by cases h⟩ (by repeat (first | exact trivial | refine ⟨rfl, ?_⟩)) (fun w h' => h') ?_
  clear hq hkp hvp
  rintro k ⟨q, m, L⟩ ⟨hk, hq, hkp, hvp, hnd, hkn0⟩
  simp only at hq hkp hvp hnd hkn0
  (repeat (first | refine zz ?_ | refine zv fun _ => ?_))
  ((first | refine tri_cond (by rfl) (fun hc => ?_) (fun hc => ?_) | refine tri_gsplit (by rfl) (by rfl) (by (fail_if_success exact (rfl : _ = some (Value.bool true))); (fail_if_success exact (rfl : _ = some (Value.bool false))); rfl) (fun hc => ?_) (fun hc => ?_)) <;> (try simp only [decide_eq_true_eq, decide_eq_false_iff_not, beq_iff_eq, bne_iff_ne, ne_eq, Bool.not_eq_true', Bool.not_eq_false', beq_eq_false_iff_ne, bne_eq_false_iff_eq, Int.not_lt, Int.not_le, gt_iff_lt, ge_iff_le, Bool.and_eq_true, Bool.or_eq_true, Bool.and_eq_false_iff, Bool.or_eq_false_iff, Decidable.not_not, not_true_eq_false, not_false_eq_true, and_true, true_and, or_false, false_or, or_true, true_or, and_false, false_and, eq_self, Bool.true_eq_false, Bool.false_eq_true] at hc) <;> (try (exfalso; omega)))
  case refine_1 =>
    have hkn := sdo_kp hkp (by omega) (ops.getD k default)
    (repeat (first | refine zz ?_ | refine zv fun _ => ?_))
    refine tri_block ?_
    refine tri_weak (H' := Hp w0 (mapC bm L :: hdC g5 (hd q) :: (SC q m ++ cs))) (fun w h => h) ?_
    (repeat (first | refine zz ?_ | refine zv fun _ => ?_))
    refine au_pure ?_ (hy := yl_idx (k := k) rfl rfl (hO _) (ix_nat rfl) (by rfl) (by omega))
    refine au_pure ?_ (hy := yl_loadEN rfl rfl (hO _) (by rfl) (by omega) (by repeat (first | exact nf0 rfl | apply nfS rfl | exact nfR)) (by rfl))
    obtain ⟨o, ho⟩ : ∃ o, o = ops.getD k default := ⟨_, rfl⟩
    rw [← ho] at hkn ⊢
    (repeat (first | refine au_pure ?_ | refine au_pass ?_ | refine au_box (fun _ => ?_) | refine au_alloc (fun _ => ?_) | refine au_store ?_ | refine au_make rfl rfl (fun _ => ?_) | refine au_lit rfl rfl rfl (fun _ => ?_) | refine au_append rfl rfl rfl rfl (fun _ => au_norm ?_) | refine au_storeE rfl rfl rfl rfl ?_)); refine tri_nil ?_; (repeat refine tri_then ?_)
    rename_i g9
    obtain ⟨N0, hN0⟩ : ∃ X, X = SC q m ++ cs := ⟨_, rfl⟩
    have hs0 : cs.Sublist N0 := by rw [hN0]; exact List.sublist_append_right _ _
    have hC0 : RdS (Hp w0 N0) (hd q) (tlx q.bs m.tl) (q.ps.map Row.sv) m := by rw [hN0]; exact rdS_own hq
    refine tri_weak (H' := Hp w0 (soC g9 o :: mapC bm L :: hdC g5 (hd q) :: N0)) (fun w h => by rw [hN0]; exact h) ?_
    (repeat (first | refine zz ?_ | refine zv fun _ => ?_))
    refine au_callC rfl rfl rfl rfl rfl (do_c w0 _ o (((hC0.cons (c := hdC g5 (hd q))).cons (c := mapC bm L)).cons (c := soC g9 o)) hkp.s (fun i => by have := hkp.p i; omega)) ?_
    rintro ⟨q1, hq1⟩
    (repeat (first | refine au_pure ?_ | refine au_pass ?_ | refine au_box (fun _ => ?_) | refine au_alloc (fun _ => ?_) | refine au_store ?_ | refine au_make rfl rfl (fun _ => ?_) | refine au_lit rfl rfl rfl (fun _ => ?_) | refine au_append rfl rfl rfl rfl (fun _ => au_norm ?_) | refine au_storeE rfl rfl rfl rfl ?_)); refine tri_nil ?_; (repeat refine tri_then ?_)
    rename_i g10
    obtain ⟨N1, hN1⟩ : ∃ X, X = SC q1 (sdoM m o).1 ++ N0 := ⟨_, rfl⟩
    have hs1 : N0.Sublist N1 := by rw [hN1]; exact List.sublist_append_right _ _
    have hA : RdS (Hp w0 N1) (hd q1) (tlx q1.bs (sdoM m o).1.tl) (q1.ps.map Row.sv) (sdoM m o).1 := by rw [hN1]; exact rdS_own hq1
    refine tri_weak (H' := Hp w0 (hdC g10 (hd q1) :: soC g9 o :: mapC bm L :: hdC g5 (hd q) :: N1)) (fun w h' => by rw [hN1]; exact sc_upK [soC g9 o, mapC bm L, hdC g5 (hd q)] h' (List.Sublist.refl _)) ?_
    have hA5 := hA.cons (c := hdC g5 (hd q)) |>.cons (c := mapC bm L) |>.cons (c := soC g9 o) |>.cons (c := hdC g10 (hd q1))
    have hC5 := (hC0.sub hs1).cons (c := hdC g5 (hd q)) |>.cons (c := mapC bm L) |>.cons (c := soC g9 o) |>.cons (c := hdC g10 (hd q1))
    have hback : ∀ w, Hp w0 (hdC g10 (hd q1) :: soC g9 o :: mapC bm L :: hdC g5 (hd q) :: N1) w → Hp w0 (mapC bm L :: hdC g5 (hd q) :: (SC q m ++ cs)) w := fun w h' => h'.sub (List.Sublist.cons _ (List.Sublist.cons _ (List.Sublist.cons_cons _ (List.Sublist.cons_cons _ (by rw [← hN0]; exact hs1)))))
    have hfwd : ∀ (L' : List (Int × Int)) w, Hp w0 (hdC g10 (hd q1) :: soC g9 o :: mapC bm L' :: hdC g5 (hd q1) :: N1) w → Hp w0 (mapC bm L' :: hdC g5 (hd q1) :: (SC q1 (sdoM m o).1 ++ cs)) w := fun L' w h' => h'.sub (List.Sublist.cons _ (List.Sublist.cons _ (List.Sublist.cons_cons _ (List.Sublist.cons_cons _ (by rw [hN1]; exact List.Sublist.append_left hs0 _)))))
    (repeat (first | refine zz ?_ | refine zv fun _ => ?_))
    refine au_callC rfl rfl rfl rfl rfl (goes_c w0 _ (sdoM m o).2.2) (fun _ => ?_)
    (repeat (first | refine zz ?_ | refine zv fun _ => ?_))
    cases hg : goM (sdoM m o).2.2
    case false =>
      (repeat (first | refine zz ?_ | refine zv fun _ => ?_))
      exact tri_nx2 (k + 1) (q, m, L) (by omega) ⟨by omega, hq, hkp.up (Nat.le_succ _), hvp, hnd, hkn0⟩ (by repeat (first | exact trivial | refine ⟨rfl, ?_⟩)) hback
    have hst := sdo_stp hvp (go_gz hg)
    have hvn := hst.vp hvp
    have hdel : o.k = 0 ∨ o.k = 1 ∨ o.k = 4 → ∀ p v, aGet (aDel L o.p) p = some v → Kn (sdoM m o).1 p v := fun _ p v hv => by
      rw [get_del _ _ hnd] at hv
      split at hv
      · cases hv
      · rename_i hne
        exact kn_step hvp hst (hkn0 p v hv) (fun e _ => hne e.symm)
    have hsame : (¬ (sdoM m o).2.2 = 0 ∨ ¬ (o.k = 0 ∨ o.k = 1 ∨ o.k = 4)) → ∀ p v, aGet L p = some v → Kn (sdoM m o).1 p v := fun hw p v hv => kn_step hvp hst (hkn0 p v hv) (fun _ y => by rcases hw with w | w; exact w y.1; exact w y.2)
    have hread : (sdoM m o).2.2 = 0 → (o.k = 3 ∨ o.k = 4) → (aGet L o.p).isSome = true → ((sdoM m o).2.1 != (aGet L o.p).getD 0) = false := fun h0 h3 hs => by
      obtain ⟨v, hv⟩ := Option.isSome_iff_exists.1 hs
      rw [hv, kn_read hst (hkn0 o.p v hv) h0 h3]
      simp
    have hpl := hkp.s.pd
    have hpe := hkp.s.pe
    have hxl := hC5.pdl
    have hwrite : (sdoM m o).2.2 = 0 → o.k = 4 → owedM m o.p = false → ∀ p v, aGet (aSet L o.p o.v) p = some v → Kn (sdoM m o).1 p v := fun h0 h4 ho p v hv => by
      rw [get_set] at hv
      split at hv
      · rename_i e
        obtain rfl : o.v = v := by simpa using hv
        rw [e]; exact kn_write hvp hst h0 h4 ho
      · rename_i hne
        exact kn_step hvp hst (hkn0 p v hv) (fun e _ => hne e.symm)
    (repeat (first | refine zz ?_ | refine zv fun _ => ?_))
    refine au_pure ?_ (hy := yl_look2 (β := Int) rfl rfl rfl (by first | (apply has_at; (repeat (first | exact at0 | apply atS)); done) | (repeat (first | assumption | apply has_cons))))
    refine tri_weak (H' := Hp w0 (hdC g10 (hd q1) :: soC g9 o :: mapC bm L :: hdC g5 (hd q) :: N1)) (fun w h => h) ?_
    (repeat (first | refine zz ?_ | refine zv fun _ => ?_))
    refine au_pure ?_ (hy := yl_len rfl rfl hC5.pd)
    rw [hxl]
    (repeat (first | refine zz ?_ | refine zv fun _ => ?_))
    refine tri_block ?_
    refine tri_loop2 (fun (i : Nat) (b : Bool) => i ≤ m.pd.length ∧ b = (m.pd.take i).any fun l => l.any fun v => v.p == o.p) (fun i b => [(5, .pointer (some ⟨g5, 0, none⟩)), (7, .map (some bm)), (9, .pointer (some ⟨g9, 0, none⟩)), (10, .pointer (some ⟨g10, 0, none⟩)), (11, .int .i64 (sdoM m o).2.1), (12, .int .i64 (sdoM m o).2.2), (13, .int .i64 ((aGet L o.p).getD 0)), (14, .bool (aGet L o.p).isSome), (36, vO), (37, .int .i64 (ops.length : Int)), (38, .int .i64 (k : Int)), (15, .bool b), (60, (hd q).p.v), (61, .int .i64 (m.pd.length : Int)), (62, .int .i64 (i : Int))])
      (fun _ _ => Hp w0 (hdC g10 (hd q1) :: soC g9 o :: mapC bm L :: hdC g5 (hd q) :: N1)) (fun i _ => m.pd.length - i)
      0 false ⟨by omega, by simp⟩ (by repeat (first | exact trivial | refine ⟨rfl, ?_⟩)) (fun w h => h) ?_
    rintro i b ⟨hi, hbi⟩
    (repeat (first | refine zz ?_ | refine zv fun _ => ?_))
    ((first | refine tri_cond (by rfl) (fun hc => ?_) (fun hc => ?_) | refine tri_gsplit (by rfl) (by rfl) (by (fail_if_success exact (rfl : _ = some (Value.bool true))); (fail_if_success exact (rfl : _ = some (Value.bool false))); rfl) (fun hc => ?_) (fun hc => ?_)) <;> (try simp only [decide_eq_true_eq, decide_eq_false_iff_not, beq_iff_eq, bne_iff_ne, ne_eq, Bool.not_eq_true', Bool.not_eq_false', beq_eq_false_iff_ne, bne_eq_false_iff_eq, Int.not_lt, Int.not_le, gt_iff_lt, ge_iff_le, Bool.and_eq_true, Bool.or_eq_true, Bool.and_eq_false_iff, Bool.or_eq_false_iff, Decidable.not_not, not_true_eq_false, not_false_eq_true, and_true, true_and, or_false, false_or, or_true, true_or, and_false, false_and, eq_self, Bool.true_eq_false, Bool.false_eq_true] at hc) <;> (try (exfalso; omega)))
    case refine_1 =>
      have hi' : i < m.pd.length := by omega
      have hEi := hC5.pe i
      have hli := hpe i
      (repeat (first | refine zz ?_ | refine zv fun _ => ?_))
      refine tri_block ?_
      (repeat (first | refine zz ?_ | refine zv fun _ => ?_))
      refine au_pure ?_ (hy := yl_idx (k := i) rfl rfl hC5.pd (ix_nat rfl) (by rfl) (by omega))
      refine au_pure ?_ (hy := yl_loadE rfl rfl hC5.pd (by rfl) (by omega) (by rfl))
      obtain ⟨sv, hsv⟩ : ∃ sv, sv = (q.ps.map Row.sv).getD i default := ⟨_, rfl⟩
      obtain ⟨l, hl⟩ : ∃ l, l = m.pd.getD i default := ⟨_, rfl⟩
      rw [← hsv, ← hl] at hEi
      rw [← hsv]
      rw [← hl] at hli
      (repeat (first | refine zz ?_ | refine zv fun _ => ?_))
      refine au_pure ?_ (hy := yl_len rfl rfl hEi)
      (repeat (first | refine zz ?_ | refine zv fun _ => ?_))
      refine tri_block ?_
      refine tri_loop2 (fun (j : Nat) (b' : Bool) => j ≤ l.length ∧ b' = (b || (l.take j).any fun v => v.p == o.p)) (fun j b' => [(5, .pointer (some ⟨g5, 0, none⟩)), (7, .map (some bm)), (9, .pointer (some ⟨g9, 0, none⟩)), (10, .pointer (some ⟨g10, 0, none⟩)), (11, .int .i64 (sdoM m o).2.1), (12, .int .i64 (sdoM m o).2.2), (13, .int .i64 ((aGet L o.p).getD 0)), (14, .bool (aGet L o.p).isSome), (36, vO), (37, .int .i64 (ops.length : Int)), (38, .int .i64 (k : Int)), (15, .bool b'), (60, (hd q).p.v), (61, .int .i64 (m.pd.length : Int)), (62, .int .i64 (i : Int)), (66, sv.v), (67, .int .i64 (l.length : Int)), (68, .int .i64 (j : Int))])
        (fun _ _ => Hp w0 (hdC g10 (hd q1) :: soC g9 o :: mapC bm L :: hdC g5 (hd q) :: N1)) (fun j _ => l.length - j)
        0 b ⟨by omega, by simp⟩ (by repeat (first | exact trivial | refine ⟨rfl, ?_⟩)) (fun w h => h) ?_
      rintro j b' ⟨hj, hbj⟩
      (repeat (first | refine zz ?_ | refine zv fun _ => ?_))
      ((first | refine tri_cond (by rfl) (fun hc => ?_) (fun hc => ?_) | refine tri_gsplit (by rfl) (by rfl) (by (fail_if_success exact (rfl : _ = some (Value.bool true))); (fail_if_success exact (rfl : _ = some (Value.bool false))); rfl) (fun hc => ?_) (fun hc => ?_)) <;> (try simp only [decide_eq_true_eq, decide_eq_false_iff_not, beq_iff_eq, bne_iff_ne, ne_eq, Bool.not_eq_true', Bool.not_eq_false', beq_eq_false_iff_ne, bne_eq_false_iff_eq, Int.not_lt, Int.not_le, gt_iff_lt, ge_iff_le, Bool.and_eq_true, Bool.or_eq_true, Bool.and_eq_false_iff, Bool.or_eq_false_iff, Decidable.not_not, not_true_eq_false, not_false_eq_true, and_true, true_and, or_false, false_or, or_true, true_or, and_false, false_and, eq_self, Bool.true_eq_false, Bool.false_eq_true] at hc) <;> (try (exfalso; omega)))
      case refine_1 =>
        have hj' : j < l.length := by omega
        (repeat (first | refine zz ?_ | refine zv fun _ => ?_))
        refine tri_block ?_
        (repeat (first | refine zz ?_ | refine zv fun _ => ?_))
        refine au_pure ?_ (hy := yl_idx (k := j) rfl rfl hEi (ix_nat rfl) (by rfl) (by omega))
        refine au_pure ?_ (hy := yl_loadEN rfl rfl hEi (by rfl) (by omega) (by repeat (first | exact nf0 rfl | apply nfS rfl | exact nfR)) (by rfl))
        (repeat (first | refine zz ?_ | refine zv fun _ => ?_))
        have hnx : (b || (l.take (j + 1)).any fun v => v.p == o.p) = (b' || (l.getD j default).p == o.p) := by rw [take_step hj', List.any_append, ← Bool.or_assoc, ← hbj]; simp
        cases b' with
        | true =>
          (repeat (first | refine zz ?_ | refine zv fun _ => ?_))
          exact tri_nx2 (j + 1) true (by omega) ⟨by omega, by rw [hnx]; rfl⟩ (by repeat (first | exact trivial | refine ⟨rfl, ?_⟩)) (fun w h => h.sub (by repeat (first | exact List.Sublist.refl _ | assumption | apply List.Sublist.cons_cons | apply List.Sublist.cons)))
        | false =>
          (repeat (first | refine zz ?_ | refine zv fun _ => ?_))
          exact tri_nx2 (j + 1) ((l.getD j default).p == o.p) (by omega) ⟨by omega, by rw [hnx]; rfl⟩ (by repeat (first | exact trivial | refine ⟨rfl, ?_⟩)) (fun w h => h.sub (by repeat (first | exact List.Sublist.refl _ | assumption | apply List.Sublist.cons_cons | apply List.Sublist.cons)))
      have hje : j = l.length := by omega
      subst hje
      rw [List.take_length] at hbj
      (repeat (first | refine zz ?_ | refine zv fun _ => ?_))
      exact tri_nx2 (i + 1) b' (by omega) ⟨by omega, by rw [take_step hi', List.any_append, ← hbi, hbj, hl]; simp⟩ (by repeat (first | exact trivial | refine ⟨rfl, ?_⟩)) (fun w h => h)
    have hie : i = m.pd.length := by omega
    subst hie
    rw [List.take_length] at hbi
    have hbo : b = owedM m o.p := hbi
    (repeat (first | refine zz ?_ | refine zv fun _ => ?_))
    refine tri_cut1 (fun L' : List (Int × Int) => (keysL L').Nodup ∧ ∀ p v, aGet L' p = some v → Kn (sdoM m o).1 p v) (fun _ => [(5, .pointer (some ⟨g5, 0, none⟩)), (7, .map (some bm)), (10, .pointer (some ⟨g10, 0, none⟩)), (36, vO), (37, .int .i64 (ops.length : Int)), (38, .int .i64 (k : Int))])
      (fun L' => Hp w0 (hdC g10 (hd q1) :: soC g9 o :: mapC bm L' :: hdC g5 (hd q) :: N1)) ?_ ?_
    · refine tri_block ?_
      (repeat (first | refine zz ?_ | refine zv fun _ => ?_))
      cases hE : ((sdoM m o).2.2 == 0)
      case false =>
        have hE' : ¬ (sdoM m o).2.2 = 0 := by simpa using hE
        (repeat (first | refine zz ?_ | refine zv fun _ => ?_))
        cases h0 : (o.k == 0)
        case true =>
          have h0' : o.k = 0 := by simpa using h0
          (repeat (first | refine zz ?_ | refine zv fun _ => ?_))
          rw [hE]
          (repeat (first | refine zz ?_ | refine zv fun _ => ?_))
          rw [show (o.k == 1) = false by rw [h0']; rfl]
          (repeat (first | refine zz ?_ | refine zv fun _ => ?_))
          rw [hE]
          (repeat (first | refine zz ?_ | refine zv fun _ => ?_))
          rw [hE]
          (repeat (first | refine zz ?_ | refine zv fun _ => ?_))
          exact tri_mt1 L ⟨hnd, hsame (.inl hE')⟩ (by repeat (first | exact trivial | refine ⟨rfl, ?_⟩)) (fun w h => h)
        (repeat (first | refine zz ?_ | refine zv fun _ => ?_))
        cases h1 : (o.k == 1)
        case true =>
          (repeat (first | refine zz ?_ | refine zv fun _ => ?_))
          rw [hE]
          (repeat (first | refine zz ?_ | refine zv fun _ => ?_))
          rw [hE]
          (repeat (first | refine zz ?_ | refine zv fun _ => ?_))
          rw [hE]
          (repeat (first | refine zz ?_ | refine zv fun _ => ?_))
          exact tri_mt1 L ⟨hnd, hsame (.inl hE')⟩ (by repeat (first | exact trivial | refine ⟨rfl, ?_⟩)) (fun w h => h)
        (repeat (first | refine zz ?_ | refine zv fun _ => ?_))
        rw [hE]
        (repeat (first | refine zz ?_ | refine zv fun _ => ?_))
        rw [hE]
        (repeat (first | refine zz ?_ | refine zv fun _ => ?_))
        exact tri_mt1 L ⟨hnd, hsame (.inl hE')⟩ (by repeat (first | exact trivial | refine ⟨rfl, ?_⟩)) (fun w h => h)
      have hE' : (sdoM m o).2.2 = 0 := by simpa using hE
      (repeat (first | refine zz ?_ | refine zv fun _ => ?_))
      cases h4 : (o.k == 4)
      case true =>
        have h4' : o.k = 4 := by simpa using h4
        (repeat (first | refine zz ?_ | refine zv fun _ => ?_))
        cases b with
        | true =>
          (repeat (first | refine zz ?_ | refine zv fun _ => ?_))
          refine tri_delete (β := Int) rfl (by first | exact wan_plain rfl | exact wan_yes rfl rfl rfl) rfl rfl rfl (by repeat (first | exact at0 | apply atS)) (by repeat (first | exact nf0 rfl | apply nfS rfl | exact nfR)) ?_
          (repeat (first | refine zz ?_ | refine zv fun _ => ?_))
          exact tri_mt1 (aDel L o.p) ⟨nodup_del hnd o.p, hdel (by omega)⟩ (by repeat (first | exact trivial | refine ⟨rfl, ?_⟩)) (fun w h => h)
        | false =>
          (repeat (first | refine zz ?_ | refine zv fun _ => ?_))
          rw [show (o.k == 0) = false by rw [h4']; rfl]
          (repeat (first | refine zz ?_ | refine zv fun _ => ?_))
          rw [show (o.k == 1) = false by rw [h4']; rfl]
          (repeat (first | refine zz ?_ | refine zv fun _ => ?_))
          rw [hE]
          (repeat (first | refine zz ?_ | refine zv fun _ => ?_))
          rw [h4]
          (repeat (first | refine zz ?_ | refine zv fun _ => ?_))
          have hrd := hread hE' (.inr h4')
          cases hs : (aGet L o.p).isSome
          case false =>
            (repeat (first | refine zz ?_ | refine zv fun _ => ?_))
            refine tri_update (β := Int) rfl (by first | exact wan_plain rfl | exact wan_yes rfl rfl rfl) rfl rfl rfl rfl (by repeat (first | exact at0 | apply atS)) (by repeat (first | exact nf0 rfl | apply nfS rfl | exact nfR)) ?_
            (repeat (first | refine zz ?_ | refine zv fun _ => ?_))
            exact tri_mt1 (aSet L o.p o.v) ⟨nodup_set hnd o.p o.v, hwrite hE' h4' hbo.symm⟩ (by repeat (first | exact trivial | refine ⟨rfl, ?_⟩)) (fun w h => h)
          (repeat (first | refine zz ?_ | refine zv fun _ => ?_))
          rw [hrd hs]
          (repeat (first | refine zz ?_ | refine zv fun _ => ?_))
          refine tri_update (β := Int) rfl (by first | exact wan_plain rfl | exact wan_yes rfl rfl rfl) rfl rfl rfl rfl (by repeat (first | exact at0 | apply atS)) (by repeat (first | exact nf0 rfl | apply nfS rfl | exact nfR)) ?_
          (repeat (first | refine zz ?_ | refine zv fun _ => ?_))
          exact tri_mt1 (aSet L o.p o.v) ⟨nodup_set hnd o.p o.v, hwrite hE' h4' hbo.symm⟩ (by repeat (first | exact trivial | refine ⟨rfl, ?_⟩)) (fun w h => h)
      have h4' : ¬ o.k = 4 := by simpa using h4
      (repeat (first | refine zz ?_ | refine zv fun _ => ?_))
      cases h0 : (o.k == 0)
      case true =>
        have h0' : o.k = 0 := by simpa using h0
        (repeat (first | refine zz ?_ | refine zv fun _ => ?_))
        rw [hE]
        (repeat (first | refine zz ?_ | refine zv fun _ => ?_))
        refine tri_delete (β := Int) rfl (by first | exact wan_plain rfl | exact wan_yes rfl rfl rfl) rfl rfl rfl (by repeat (first | exact at0 | apply atS)) (by repeat (first | exact nf0 rfl | apply nfS rfl | exact nfR)) ?_
        (repeat (first | refine zz ?_ | refine zv fun _ => ?_))
        exact tri_mt1 (aDel L o.p) ⟨nodup_del hnd o.p, hdel (by omega)⟩ (by repeat (first | exact trivial | refine ⟨rfl, ?_⟩)) (fun w h => h)
      have h0' : ¬ o.k = 0 := by simpa using h0
      (repeat (first | refine zz ?_ | refine zv fun _ => ?_))
      cases h1 : (o.k == 1)
      case true =>
        have h1' : o.k = 1 := by simpa using h1
        (repeat (first | refine zz ?_ | refine zv fun _ => ?_))
        rw [hE]
        (repeat (first | refine zz ?_ | refine zv fun _ => ?_))
        refine tri_delete (β := Int) rfl (by first | exact wan_plain rfl | exact wan_yes rfl rfl rfl) rfl rfl rfl (by repeat (first | exact at0 | apply atS)) (by repeat (first | exact nf0 rfl | apply nfS rfl | exact nfR)) ?_
        (repeat (first | refine zz ?_ | refine zv fun _ => ?_))
        exact tri_mt1 (aDel L o.p) ⟨nodup_del hnd o.p, hdel (by omega)⟩ (by repeat (first | exact trivial | refine ⟨rfl, ?_⟩)) (fun w h => h)
      have h1' : ¬ o.k = 1 := by simpa using h1
      (repeat (first | refine zz ?_ | refine zv fun _ => ?_))
      rw [hE]
      (repeat (first | refine zz ?_ | refine zv fun _ => ?_))
      rw [h4]
      (repeat (first | refine zz ?_ | refine zv fun _ => ?_))
      rw [hE]
      (repeat (first | refine zz ?_ | refine zv fun _ => ?_))
      cases h3 : (o.k == 3)
      case false =>
        (repeat (first | refine zz ?_ | refine zv fun _ => ?_))
        exact tri_mt1 L ⟨hnd, hsame (.inr (by omega))⟩ (by repeat (first | exact trivial | refine ⟨rfl, ?_⟩)) (fun w h => h)
      have h3' : o.k = 3 := by simpa using h3
      (repeat (first | refine zz ?_ | refine zv fun _ => ?_))
      have hrd := hread hE' (.inl h3')
      cases hs : (aGet L o.p).isSome
      case false =>
        (repeat (first | refine zz ?_ | refine zv fun _ => ?_))
        exact tri_mt1 L ⟨hnd, hsame (.inr (by omega))⟩ (by repeat (first | exact trivial | refine ⟨rfl, ?_⟩)) (fun w h => h)
      (repeat (first | refine zz ?_ | refine zv fun _ => ?_))
      rw [hrd hs]
      (repeat (first | refine zz ?_ | refine zv fun _ => ?_))
      exact tri_mt1 L ⟨hnd, hsame (.inr (by omega))⟩ (by repeat (first | exact trivial | refine ⟨rfl, ?_⟩)) (fun w h => h)
    rintro L' ⟨hnd', hkn'⟩
    (repeat (first | refine zz ?_ | refine zv fun _ => ?_))
    exact tri_nx2 (k + 1) (q1, (sdoM m o).1, L') (by omega) ⟨by omega, hq1, hkn, hvn, hnd', hkn'⟩ (by repeat (first | exact trivial | refine ⟨rfl, ?_⟩)) (hfwd L')
  (repeat (first | refine zz ?_ | refine zv fun _ => ?_))
  refine au_done1 rfl ?_
  exact fun w hw => ⟨(), rfl, hw.sub (List.Sublist.cons _ (List.Sublist.cons _ (List.sublist_append_right (SC q m) cs)))⟩
end
end Go.Proofs.Ytojfaelafakemaa
