/- Texts joined: ShFrs. Each part's own remark says what it proves. -/
import Derived.Test.YtojfaelafakemaaShBeginJ
import Derived.Test.YtojfaelafakemaaM30
/- The walk of the law ShootdownFrames. No conditions. -/
set_option linter.unusedSimpArgs false
set_option linter.unusedVariables false
namespace Go.Proofs.Ytojfaelafakemaa
open Go Go.RowKit
theorem shl_eq8 {c : Nat} (hc : c < 8) : IntKind.i64.wrap (1 * 2 ^ (min (Int.toNat (c : Int)) (IntKind.bits .i64))) = 2 ^ c := by
  have : c = 0 ∨ c = 1 ∨ c = 2 ∨ c = 3 ∨ c = 4 ∨ c = 5 ∨ c = 6 ∨ c = 7 := by omega
  rcases this with rfl | rfl | rfl | rfl | rfl | rfl | rfl | rfl <;> decide
theorem cT_le (m : SM) (k f : Nat) : cT m k f ≤ k := by
  unfold cT
  have := List.countP_le_length (p := fun p => frM m p == (f : Int)) (l := List.range k)
  rwa [List.length_range] at this
theorem cL_le (m : SM) (k f : Nat) : cL m k f ≤ m.lm.length := by
  unfold cL
  have h1 := List.countP_le_length (p := fun x : LB => x.f == (f : Int)) (l := m.lm.take k)
  have h2 := List.length_take_le k m.lm
  have h3 : (m.lm.take k).length ≤ m.lm.length := by rw [List.length_take]; omega
  omega
theorem cF_le (l : List Int) (k f : Nat) : cF l k f ≤ l.length := by
  unfold cF
  have h1 := List.countP_le_length (p := fun x : Int => x == (f : Int)) (l := l.take k)
  have h3 : (l.take k).length ≤ l.length := by rw [List.length_take]; omega
  omega
theorem free_mem {m : SM} (h : Vp m) {x : Int} (hx : x ∈ freeM m) : 0 ≤ x ∧ x < m.wd.length := by
  unfold freeM at hx
  rw [if_neg (fun x => x (vp_iff.2 h))] at hx
  obtain ⟨i, hi, rfl⟩ := List.mem_map.1 (List.mem_filter.1 hx).1
  have := List.mem_range.1 hi
  omega
theorem free_le {m : SM} (h : Vp m) : (freeM m).length ≤ m.wd.length := by
  unfold freeM
  rw [if_neg (fun x => x (vp_iff.2 h))]
  have := List.length_filter_le (freeB m) ((List.range m.wd.length).map fun (i : Nat) => (i : Int))
  rwa [List.length_map, List.length_range] at this
/-- One more of a list of counts. -/
theorem inc_at {L : List Int} {N : Nat} {g g' : Nat → Nat} (hl : L.length = N) (h : ∀ f, f < N → L.getD f default = (g f : Int)) {x : Int} (hx : 0 ≤ x ∧ x < N) (hg : ∀ f, g' f = g f + if x = (f : Int) then 1 else 0) :
    (L.set x.toNat (L.getD x.toNat default + 1)).length = N ∧ ∀ f, f < N → (L.set x.toNat (L.getD x.toNat default + 1)).getD f default = (g' f : Int) := by
  refine ⟨by rw [List.length_set]; exact hl, fun f hf => ?_⟩
  rw [gd_set (by omega), hg f]
  by_cases e : x.toNat = f
  · rw [if_pos e, if_pos (by omega), e, h f hf]; omega
  · rw [if_neg e, if_neg (by omega), h f hf]; omega
attribute [local irreducible] mapM unmapM protM accM ackM sdoM schk snewM freeM quietM goM bgM atM decR
attribute [local irreducible] Code.wp wpList bodyPost Exit.then Exit.inBlock Calls wpQuiet Tri TriQ
section
variable (w0 : World) (cs : List Chunk)
set_option maxHeartbeats 4000000 in
theorem frames_law {vO : Value} {ops : List SO} (a b c d : Int) (ha : 0 ≤ a ∧ a ≤ 255) (hb : 0 ≤ b ∧ b ≤ 255) (hc : 0 ≤ c ∧ c ≤ 255) (hd' : 0 ≤ d ∧ d ≤ 255) (hO : ∀ cs, RdH (Hp w0 cs) vO ops) (hOl : ops.length ≤ 9223372036854775807) :
    Cal Try.prog 6 [.agg #[.int .u8 a, .int .u8 b, .int .u8 c, .int .u8 d], vO] (Hp w0 cs) (fun _ : Unit => .bool true) (fun _ => Hp w0 cs) := by
  refine cal_of_tri Try.func6 rfl Try.ntmps6 rfl ?_
  (repeat (first | refine tri_seq ?_ | refine tri_then ?_)); refine tri_region ?_; (repeat (first | refine au_pure ?_ | refine au_pass ?_ | refine au_box (fun _ => ?_) | refine au_alloc (fun _ => ?_) | refine au_store ?_ | refine au_make rfl rfl (fun _ => ?_) | refine au_lit rfl rfl rfl (fun _ => ?_) | refine au_append rfl rfl rfl rfl (fun _ => au_norm ?_) | refine au_storeE rfl rfl rfl rfl ?_)); refine tri_nil ?_; (repeat refine tri_then ?_)
  rename_i g2
  refine tri_weak (H' := Hp w0 (u4C g2 a b c d :: cs)) (fun w h => h) ?_
  (repeat (first | refine zz ?_ | refine zv fun _ => ?_))
  refine au_callC rfl rfl rfl rfl rfl (awake_c w0 _) (fun _ => ?_)
  (repeat (first | refine zz ?_ | refine zv fun _ => ?_))
  refine au_pure ?_ (hy := yl_len rfl rfl (hO _))
  (repeat (first | refine zz ?_ | refine zv fun _ => ?_))
  cases h1 : decide ((ops.length : Int) > 40)
  case true =>
    (repeat (first | refine zz ?_ | refine zv fun _ => ?_))
    refine au_callC rfl rfl rfl rfl rfl (awake_c w0 _) (fun _ => ?_)
    (repeat (first | refine zz ?_ | refine zv fun _ => ?_))
    refine au_done1 rfl ?_
    exact fun w hw => ⟨(), rfl, hw.sub (by repeat (first | exact List.Sublist.refl _ | assumption | apply List.Sublist.cons_cons | apply List.Sublist.cons))⟩
  have h1 := of_decide_eq_false h1
  (repeat (first | refine zz ?_ | refine zv fun _ => ?_))
  refine au_callC rfl rfl rfl rfl rfl (begin_c w0 _ a b c d ha hb hc hd') ?_
  rintro ⟨q, hq⟩
  (repeat (first | refine au_pure ?_ | refine au_pass ?_ | refine au_box (fun _ => ?_) | refine au_alloc (fun _ => ?_) | refine au_store ?_ | refine au_make rfl rfl (fun _ => ?_) | refine au_lit rfl rfl rfl (fun _ => ?_) | refine au_append rfl rfl rfl rfl (fun _ => au_norm ?_) | refine au_storeE rfl rfl rfl rfl ?_)); refine tri_nil ?_; (repeat refine tri_then ?_)
  rename_i g5
  refine tri_weak (H' := Hp w0 (hdC g5 (hd q) :: (SC q (bgM a b c d) ++ cs))) (fun w h => h.sub (List.Sublist.cons_cons _ (List.Sublist.append_left (List.Sublist.cons _ (List.Sublist.refl _)) _))) ?_
  have hkp := bg_kp a b c d
  have hvp := bg_vp a b c d
  (repeat (first | refine zz ?_ | refine zv fun _ => ?_))
  refine au_pure ?_ (hy := yl_len rfl rfl (hO _))
  (repeat (first | refine zz ?_ | refine zv fun _ => ?_))
  refine tri_block ?_
  refine tri_loop2 (fun (k : Nat) (y : SR × SM) => k ≤ ops.length ∧ SOk y.1 y.2 ∧ Kp k y.2 ∧ Vp y.2) (fun k _ => [(5, .pointer (some ⟨g5, 0, none⟩)), (42, vO), (43, .int .i64 (ops.length : Int)), (44, .int .i64 (k : Int))])
    (fun _ y => Hp w0 (hdC g5 (hd y.1) :: (SC y.1 y.2 ++ cs))) (fun k _ => ops.length - k)
    0 (q, bgM a b c d) ⟨by omega, hq, hkp, hvp⟩ (by repeat (first | exact trivial | refine ⟨rfl, ?_⟩)) (fun w h' => h') ?_
  clear hq hkp hvp
  rintro k ⟨q, m⟩ ⟨hk, hq, hkp, hvp⟩
  simp only at hq hkp hvp
  (repeat (first | refine zz ?_ | refine zv fun _ => ?_))
  ((first | refine tri_cond (by rfl) (fun hc => ?_) (fun hc => ?_) | refine tri_gsplit (by rfl) (by rfl) (by (fail_if_success exact (rfl : _ = some (Value.bool true))); (fail_if_success exact (rfl : _ = some (Value.bool false))); rfl) (fun hc => ?_) (fun hc => ?_)) <;> (try simp only [decide_eq_true_eq, decide_eq_false_iff_not, beq_iff_eq, bne_iff_ne, ne_eq, Bool.not_eq_true', Bool.not_eq_false', beq_eq_false_iff_ne, bne_eq_false_iff_eq, Int.not_lt, Int.not_le, gt_iff_lt, ge_iff_le, Bool.and_eq_true, Bool.or_eq_true, Bool.and_eq_false_iff, Bool.or_eq_false_iff, Decidable.not_not, not_true_eq_false, not_false_eq_true, and_true, true_and, or_false, false_or, or_true, true_or, and_false, false_and, eq_self, Bool.true_eq_false, Bool.false_eq_true] at hc) <;> (try (exfalso; omega)))
  case refine_1 =>
    have hkn := sdo_kp hkp (by omega) (ops.getD k default)
    (repeat (first | refine zz ?_ | refine zv fun _ => ?_))
    refine tri_block ?_
    refine tri_weak (H' := Hp w0 (hdC g5 (hd q) :: (SC q m ++ cs))) (fun w h => h) ?_
    (repeat (first | refine zz ?_ | refine zv fun _ => ?_))
    refine au_pure ?_ (hy := yl_idx (k := k) rfl rfl (hO _) (ix_nat rfl) (by rfl) (by omega))
    refine au_pure ?_ (hy := yl_loadEN rfl rfl (hO _) (by rfl) (by omega) (by repeat (first | exact nf0 rfl | apply nfS rfl | exact nfR)) (by rfl))
    obtain ⟨o, ho⟩ : ∃ o, o = ops.getD k default := ⟨_, rfl⟩
    rw [← ho] at hkn ⊢
    (repeat (first | refine au_pure ?_ | refine au_pass ?_ | refine au_box (fun _ => ?_) | refine au_alloc (fun _ => ?_) | refine au_store ?_ | refine au_make rfl rfl (fun _ => ?_) | refine au_lit rfl rfl rfl (fun _ => ?_) | refine au_append rfl rfl rfl rfl (fun _ => au_norm ?_) | refine au_storeE rfl rfl rfl rfl ?_)); refine tri_nil ?_; (repeat refine tri_then ?_)
    rename_i g8
    obtain ⟨N0, hN0⟩ : ∃ X, X = SC q m ++ cs := ⟨_, rfl⟩
    have hs0 : cs.Sublist N0 := by rw [hN0]; exact List.sublist_append_right _ _
    have hC0 : RdS (Hp w0 N0) (hd q) (tlx q.bs m.tl) (q.ps.map Row.sv) m := by rw [hN0]; exact rdS_own hq
    refine tri_weak (H' := Hp w0 (soC g8 o :: hdC g5 (hd q) :: N0)) (fun w h => by rw [hN0]; exact h) ?_
    (repeat (first | refine zz ?_ | refine zv fun _ => ?_))
    refine au_callC rfl rfl rfl rfl rfl (do_c w0 _ o ((hC0.cons (c := hdC g5 (hd q))).cons (c := soC g8 o)) hkp.s (fun i => by have := hkp.p i; omega)) ?_
    rintro ⟨q1, hq1⟩
    (repeat (first | refine au_pure ?_ | refine au_pass ?_ | refine au_box (fun _ => ?_) | refine au_alloc (fun _ => ?_) | refine au_store ?_ | refine au_make rfl rfl (fun _ => ?_) | refine au_lit rfl rfl rfl (fun _ => ?_) | refine au_append rfl rfl rfl rfl (fun _ => au_norm ?_) | refine au_storeE rfl rfl rfl rfl ?_)); refine tri_nil ?_; (repeat refine tri_then ?_)
    rename_i g9
    obtain ⟨N1, hN1⟩ : ∃ X, X = SC q1 (sdoM m o).1 ++ N0 := ⟨_, rfl⟩
    have hs1 : N0.Sublist N1 := by rw [hN1]; exact List.sublist_append_right _ _
    have hA : RdS (Hp w0 N1) (hd q1) (tlx q1.bs (sdoM m o).1.tl) (q1.ps.map Row.sv) (sdoM m o).1 := by rw [hN1]; exact rdS_own hq1
    refine tri_weak (H' := Hp w0 (hdC g9 (hd q1) :: soC g8 o :: hdC g5 (hd q) :: N1)) (fun w h' => by rw [hN1]; exact sc_upK [soC g8 o, hdC g5 (hd q)] h' (List.Sublist.refl _)) ?_
    have hA5 := hA.cons (c := hdC g5 (hd q)) |>.cons (c := soC g8 o) |>.cons (c := hdC g9 (hd q1))
    have hC5 := (hC0.sub hs1).cons (c := hdC g5 (hd q)) |>.cons (c := soC g8 o) |>.cons (c := hdC g9 (hd q1))
    have hback : ∀ w, Hp w0 (hdC g9 (hd q1) :: soC g8 o :: hdC g5 (hd q) :: N1) w → Hp w0 (hdC g5 (hd q) :: (SC q m ++ cs)) w := fun w h' => h'.sub (List.Sublist.cons _ (List.Sublist.cons _ (List.Sublist.cons_cons _ (by rw [← hN0]; exact hs1))))
    have hfwd : ∀ w, Hp w0 (hdC g9 (hd q1) :: soC g8 o :: hdC g5 (hd q1) :: N1) w → Hp w0 (hdC g5 (hd q1) :: (SC q1 (sdoM m o).1 ++ cs)) w := fun w h' => h'.sub (List.Sublist.cons _ (List.Sublist.cons _ (List.Sublist.cons_cons _ (by rw [hN1]; exact List.Sublist.append_left hs0 _))))
    (repeat (first | refine zz ?_ | refine zv fun _ => ?_))
    refine au_callC rfl rfl rfl rfl rfl (goes_c w0 _ (sdoM m o).2.2) (fun _ => ?_)
    (repeat (first | refine zz ?_ | refine zv fun _ => ?_))
    cases hg : goM (sdoM m o).2.2
    case false =>
      (repeat (first | refine zz ?_ | refine zv fun _ => ?_))
      exact tri_nx2 (k + 1) (q, m) (by omega) ⟨by omega, hq, hkp.up (Nat.le_succ _), hvp⟩ (by repeat (first | exact trivial | refine ⟨rfl, ?_⟩)) hback
    have hst := sdo_stp hvp (go_gz hg)
    have hvn := hst.vp hvp
    have hr := hvn.r
    have hlw := hkn.s.wd
    have hltb := hkn.s.tb
    have hllm := hkn.s.lm
    have hllm0 := hkp.s.lm
    have hlml := hvn.vl.lml
    have hfl := free_le hvn
    obtain ⟨d', hd''⟩ : ∃ d', d' = (sdoM m o).1 := ⟨_, rfl⟩
    have hkept := fun x hx => kept_ok hvp hst (x := x) hx
    rw [← hd''] at hA5 hvn hr hlw hltb hllm hlml hfl hkept hkn
    have hlow := fun x hx => hvn.lm x hx
    (repeat (first | refine zz ?_ | refine zv fun _ => ?_))
    refine au_pure ?_ (hy := yl_len rfl rfl hA5.wd)
    (repeat (first | refine zz ?_ | refine zv fun _ => ?_))
    refine au_make (α := Int) (k := d'.wd.length) (c := d'.wd.length) rfl rfl (fun r => ?_)
    refine tri_weak (H' := Hp w0 (inS r (List.replicate d'.wd.length 0) :: hdC g9 (hd q1) :: soC g8 o :: hdC g5 (hd q) :: N1)) (fun w h => h) ?_
    (repeat (first | refine zz ?_ | refine zv fun _ => ?_))
    refine au_pure ?_ (hy := yl_len rfl rfl hA5.tb.cons)
    (repeat (first | refine zz ?_ | refine zv fun _ => ?_))
    refine tri_block ?_
    refine tri_loop2 (fun (p : Nat) (L : List Int) => p ≤ d'.tb.length ∧ L.length = d'.wd.length ∧ ∀ f, f < d'.wd.length → L.getD f default = (cT d' p f : Int)) (fun p _ => [(5, .pointer (some ⟨g5, 0, none⟩)), (8, .pointer (some ⟨g8, 0, none⟩)), (9, .pointer (some ⟨g9, 0, none⟩)), (12, r.v), (42, vO), (43, .int .i64 (ops.length : Int)), (44, .int .i64 (k : Int)), (64, .int .i64 (d'.tb.length : Int)), (65, .int .i64 (p : Int))])
      (fun _ L => Hp w0 (inS r L :: hdC g9 (hd q1) :: soC g8 o :: hdC g5 (hd q) :: N1)) (fun p _ => d'.tb.length - p)
      0 (List.replicate d'.wd.length 0) ⟨by omega, List.length_replicate, fun f hf => by rw [getD_rep hf]; rfl⟩ (by repeat (first | exact trivial | refine ⟨rfl, ?_⟩)) (fun w h => h) ?_
    rintro p L ⟨hp, hLl, hL⟩
    (repeat (first | refine zz ?_ | refine zv fun _ => ?_))
    ((first | refine tri_cond (by rfl) (fun hc => ?_) (fun hc => ?_) | refine tri_gsplit (by rfl) (by rfl) (by (fail_if_success exact (rfl : _ = some (Value.bool true))); (fail_if_success exact (rfl : _ = some (Value.bool false))); rfl) (fun hc => ?_) (fun hc => ?_)) <;> (try simp only [decide_eq_true_eq, decide_eq_false_iff_not, beq_iff_eq, bne_iff_ne, ne_eq, Bool.not_eq_true', Bool.not_eq_false', beq_eq_false_iff_ne, bne_eq_false_iff_eq, Int.not_lt, Int.not_le, gt_iff_lt, ge_iff_le, Bool.and_eq_true, Bool.or_eq_true, Bool.and_eq_false_iff, Bool.or_eq_false_iff, Decidable.not_not, not_true_eq_false, not_false_eq_true, and_true, true_and, or_false, false_or, or_true, true_or, and_false, false_and, eq_self, Bool.true_eq_false, Bool.false_eq_true] at hc) <;> (try (exfalso; omega)))
    case refine_1 =>
      have hp' : p < d'.tb.length := by omega
      have hat := at_fr hvn (p := (p : Int)) ⟨by omega, by omega⟩
      rw [Int.toNat_natCast] at hat
      (repeat (first | refine zz ?_ | refine zv fun _ => ?_))
      refine tri_block ?_
      (repeat (first | refine zz ?_ | refine zv fun _ => ?_))
      refine au_callC rfl rfl rfl rfl rfl (at_c w0 _ (p : Int) (hA5.cons (c := inS r L)) hkn.s) (fun _ => ?_)
      rw [hat]
      obtain ⟨F, hF⟩ : ∃ F, F = frM d' p := ⟨_, rfl⟩
      rw [← hF]
      (repeat (first | refine zz ?_ | refine zv fun _ => ?_))
      by_cases h0 : F ≥ 0
      · have hb : F < d'.wd.length := by
          obtain ⟨hpg, e⟩ := fr_pg (m := d') (p := p) (by rw [← hF]; exact h0)
          have := pg_bd hpg
          rw [hF, e]; exact this.2
        have hcv : L.getD F.toNat default ≤ 512 ∧ 0 ≤ L.getD F.toNat default := by
          rw [hL F.toNat (by omega)]
          have := cT_le d' p F.toNat
          omega
        rw [decide_eq_true h0]
        (repeat (first | refine zz ?_ | refine zv fun _ => ?_))
        refine au_pure ?_ (hy := yl_len rfl rfl (rd_chunk (r := r) (l := L) ⟨0, rfl⟩))
        (repeat (first | refine zz ?_ | refine zv fun _ => ?_))
        rw [show decide (F < (L.length : Int)) = true from decide_eq_true (by omega)]
        (repeat (first | refine zz ?_ | refine zv fun _ => ?_))
        refine au_pure ?_ (hy := yl_idx (k := F.toNat) rfl rfl (rd_chunk (r := r) (l := L) ⟨0, rfl⟩) (ix_int rfl (by omega)) (by rfl) (by omega))
        refine au_pure ?_ (hy := yl_loadE rfl rfl (rd_chunk (r := r) (l := L) ⟨0, rfl⟩) (by rfl) (by omega) (by rfl))
        (repeat (first | refine zz ?_ | refine zv fun _ => ?_))
        refine au_pure ?_ (hy := yl_idx (k := F.toNat) rfl rfl (rd_chunk (r := r) (l := L) ⟨0, rfl⟩) (ix_int rfl (by omega)) (by rfl) (by omega))
        refine au_storeE (a := L.getD F.toNat default + 1) rfl rfl rfl rfl ?_
        (repeat (first | refine zz ?_ | refine zv fun _ => ?_))
        obtain ⟨i1, i2⟩ := inc_at hLl hL (x := F) ⟨h0, hb⟩ (g' := fun f => cT d' (p + 1) f) (fun f => by rw [cT_succ, ← hF])
        exact tri_nx2 (p + 1) (L.set F.toNat (L.getD F.toNat default + 1)) (by omega) ⟨by omega, i1, i2⟩ (by repeat (first | exact trivial | refine ⟨rfl, ?_⟩)) (fun w h => h)
      · rw [decide_eq_false h0]
        (repeat (first | refine zz ?_ | refine zv fun _ => ?_))
        exact tri_nx2 (p + 1) L (by omega) ⟨by omega, hLl, fun f hf => by rw [hL f hf, cT_succ, ← hF, if_neg (by omega)]; rfl⟩ (by repeat (first | exact trivial | refine ⟨rfl, ?_⟩)) (fun w h => h)
    have hpe : p = d'.tb.length := by omega
    subst hpe
    (repeat (first | refine zz ?_ | refine zv fun _ => ?_))
    refine au_pure ?_ (hy := yl_len rfl rfl (hA5.lm.cons (c := inS r L)))
    (repeat (first | refine zz ?_ | refine zv fun _ => ?_))
    refine tri_block ?_
    refine tri_loop2 (fun (j : Nat) (L : List Int) => j ≤ d'.lm.length ∧ L.length = d'.wd.length ∧ ∀ f, f < d'.wd.length → L.getD f default = ((cT d' d'.tb.length f + cL d' j f : Nat) : Int)) (fun j _ => [(5, .pointer (some ⟨g5, 0, none⟩)), (8, .pointer (some ⟨g8, 0, none⟩)), (9, .pointer (some ⟨g9, 0, none⟩)), (12, r.v), (42, vO), (43, .int .i64 (ops.length : Int)), (44, .int .i64 (k : Int)), (87, (hd q1).l.v), (88, .int .i64 (d'.lm.length : Int)), (89, .int .i64 (j : Int))])
      (fun _ L => Hp w0 (inS r L :: hdC g9 (hd q1) :: soC g8 o :: hdC g5 (hd q) :: N1)) (fun j _ => d'.lm.length - j)
      0 L ⟨by omega, hLl, fun f hf => by rw [hL f hf]; unfold cL; simp⟩ (by repeat (first | exact trivial | refine ⟨rfl, ?_⟩)) (fun w h => h) ?_
    clear hL hLl hp
    clear L
    rintro j L ⟨hj, hLl, hL⟩
    (repeat (first | refine zz ?_ | refine zv fun _ => ?_))
    ((first | refine tri_cond (by rfl) (fun hc => ?_) (fun hc => ?_) | refine tri_gsplit (by rfl) (by rfl) (by (fail_if_success exact (rfl : _ = some (Value.bool true))); (fail_if_success exact (rfl : _ = some (Value.bool false))); rfl) (fun hc => ?_) (fun hc => ?_)) <;> (try simp only [decide_eq_true_eq, decide_eq_false_iff_not, beq_iff_eq, bne_iff_ne, ne_eq, Bool.not_eq_true', Bool.not_eq_false', beq_eq_false_iff_ne, bne_eq_false_iff_eq, Int.not_lt, Int.not_le, gt_iff_lt, ge_iff_le, Bool.and_eq_true, Bool.or_eq_true, Bool.and_eq_false_iff, Bool.or_eq_false_iff, Decidable.not_not, not_true_eq_false, not_false_eq_true, and_true, true_and, or_false, false_or, or_true, true_or, and_false, false_and, eq_self, Bool.true_eq_false, Bool.false_eq_true] at hc) <;> (try (exfalso; omega)))
    case refine_1 =>
      have hj' : j < d'.lm.length := by omega
      (repeat (first | refine zz ?_ | refine zv fun _ => ?_))
      refine tri_block ?_
      (repeat (first | refine zz ?_ | refine zv fun _ => ?_))
      refine au_pure ?_ (hy := yl_idx (k := j) rfl rfl (hA5.lm.cons (c := inS r L)) (ix_nat rfl) (by rfl) (by omega))
      refine au_pure ?_ (hy := yl_loadEN rfl rfl (hA5.lm.cons (c := inS r L)) (by rfl) (by omega) (by repeat (first | exact nf0 rfl | apply nfS rfl | exact nfR)) (by rfl))
      obtain ⟨x, hx⟩ : ∃ x, x = d'.lm.getD j default := ⟨_, rfl⟩
      have hxm : x ∈ d'.lm := by rw [hx, getD_get hj']; exact List.getElem_mem hj'
      obtain ⟨hx1, _, hx2, _⟩ := hlow x hxm
      rw [← hx]
      (repeat (first | refine au_pure ?_ | refine au_pass ?_ | refine au_box (fun _ => ?_) | refine au_alloc (fun _ => ?_) | refine au_store ?_ | refine au_make rfl rfl (fun _ => ?_) | refine au_lit rfl rfl rfl (fun _ => ?_) | refine au_append rfl rfl rfl rfl (fun _ => au_norm ?_) | refine au_storeE rfl rfl rfl rfl ?_)); refine tri_nil ?_; (repeat refine tri_then ?_)
      rename_i g16
      refine tri_weak (H' := Hp w0 (lbC g16 x :: inS r L :: hdC g9 (hd q1) :: soC g8 o :: hdC g5 (hd q) :: N1)) (fun w h => h) ?_
      have hRL : RdH (Hp w0 (lbC g16 x :: inS r L :: hdC g9 (hd q1) :: soC g8 o :: hdC g5 (hd q) :: N1)) r.v L := rd_chunk ⟨1, rfl⟩
      have hcv : L.getD x.f.toNat default ≤ 1024 ∧ 0 ≤ L.getD x.f.toNat default := by
        rw [hL x.f.toNat (by omega)]
        have := cT_le d' d'.tb.length x.f.toNat
        have := cL_le d' j x.f.toNat
        omega
      (repeat (first | refine zz ?_ | refine zv fun _ => ?_))
      rw [show decide (x.f < 0) = false from decide_eq_false (by omega)]
      (repeat (first | refine zz ?_ | refine zv fun _ => ?_))
      refine au_pure ?_ (hy := yl_len rfl rfl hRL)
      (repeat (first | refine zz ?_ | refine zv fun _ => ?_))
      rw [show decide (x.f ≥ (L.length : Int)) = false from decide_eq_false (by omega)]
      (repeat (first | refine zz ?_ | refine zv fun _ => ?_))
      rw [show (x.a == 0) = false by simpa using (show ¬ x.a = 0 by omega)]
      (repeat (first | refine zz ?_ | refine zv fun _ => ?_))
      refine au_pure ?_ (hy := yl_idx (k := x.f.toNat) rfl rfl hRL (ix_int rfl (by omega)) (by rfl) (by omega))
      refine au_pure ?_ (hy := yl_loadE rfl rfl hRL (by rfl) (by omega) (by rfl))
      refine au_pure ?_ (hy := yl_addn rfl rfl rfl (by omega))
      refine au_pure ?_ (hy := yl_idx (k := x.f.toNat) rfl rfl hRL (ix_int rfl (by omega)) (by rfl) (by omega))
      refine au_storeE (a := L.getD x.f.toNat default + 1) rfl rfl rfl rfl ?_
      (repeat (first | refine zz ?_ | refine zv fun _ => ?_))
      obtain ⟨i1, i2⟩ := inc_at hLl hL (x := x.f) hx1 (g' := fun f => cT d' d'.tb.length f + cL d' (j + 1) f) (fun f => by rw [cL_succ hj', ← hx]; omega)
      exact tri_nx2 (j + 1) (L.set x.f.toNat (L.getD x.f.toNat default + 1)) (by omega) ⟨by omega, i1, i2⟩ (by repeat (first | exact trivial | refine ⟨rfl, ?_⟩)) (fun w h => h.sub (by repeat (first | exact List.Sublist.refl _ | assumption | apply List.Sublist.cons_cons | apply List.Sublist.cons)))
    have hje : j = d'.lm.length := by omega
    subst hje
    (repeat (first | refine zz ?_ | refine zv fun _ => ?_))
    refine au_callC rfl rfl rfl rfl rfl (free_c w0 _ (hA5.cons (c := inS r L)) hkn.s) ?_
    intro r2
    obtain ⟨W, hW⟩ : ∃ W, W = freeM d' := ⟨_, rfl⟩
    have hWm : ∀ x ∈ W, 0 ≤ x ∧ x < d'.wd.length := fun x hx => free_mem hvn (by rw [← hW]; exact hx)
    rw [← hW] at hfl
    refine tri_weak (H' := Hp w0 (inS r2 W :: inS r L :: hdC g9 (hd q1) :: soC g8 o :: hdC g5 (hd q) :: N1)) (fun w h => by rw [hW]; exact h) ?_
    (repeat (first | refine zz ?_ | refine zv fun _ => ?_))
    refine au_pure ?_ (hy := yl_len rfl rfl (rd_chunk (r := r2) (l := W) ⟨0, rfl⟩))
    (repeat (first | refine zz ?_ | refine zv fun _ => ?_))
    refine tri_block ?_
    refine tri_loop2 (fun (j : Nat) (L : List Int) => j ≤ W.length ∧ L.length = d'.wd.length ∧ ∀ f, f < d'.wd.length → L.getD f default = ((cT d' d'.tb.length f + cL d' d'.lm.length f + cF W j f : Nat) : Int)) (fun j _ => [(5, .pointer (some ⟨g5, 0, none⟩)), (8, .pointer (some ⟨g8, 0, none⟩)), (9, .pointer (some ⟨g9, 0, none⟩)), (12, r.v), (42, vO), (43, .int .i64 (ops.length : Int)), (44, .int .i64 (k : Int)), (117, r2.v), (118, .int .i64 (W.length : Int)), (119, .int .i64 (j : Int))])
      (fun _ L => Hp w0 (inS r2 W :: inS r L :: hdC g9 (hd q1) :: soC g8 o :: hdC g5 (hd q) :: N1)) (fun j _ => W.length - j)
      0 L ⟨by omega, hLl, fun f hf => by rw [hL f hf]; unfold cF; simp⟩ (by repeat (first | exact trivial | refine ⟨rfl, ?_⟩)) (fun w h => h) ?_
    clear hL hLl hj
    clear L
    rintro j L ⟨hj, hLl, hL⟩
    (repeat (first | refine zz ?_ | refine zv fun _ => ?_))
    ((first | refine tri_cond (by rfl) (fun hc => ?_) (fun hc => ?_) | refine tri_gsplit (by rfl) (by rfl) (by (fail_if_success exact (rfl : _ = some (Value.bool true))); (fail_if_success exact (rfl : _ = some (Value.bool false))); rfl) (fun hc => ?_) (fun hc => ?_)) <;> (try simp only [decide_eq_true_eq, decide_eq_false_iff_not, beq_iff_eq, bne_iff_ne, ne_eq, Bool.not_eq_true', Bool.not_eq_false', beq_eq_false_iff_ne, bne_eq_false_iff_eq, Int.not_lt, Int.not_le, gt_iff_lt, ge_iff_le, Bool.and_eq_true, Bool.or_eq_true, Bool.and_eq_false_iff, Bool.or_eq_false_iff, Decidable.not_not, not_true_eq_false, not_false_eq_true, and_true, true_and, or_false, false_or, or_true, true_or, and_false, false_and, eq_self, Bool.true_eq_false, Bool.false_eq_true] at hc) <;> (try (exfalso; omega)))
    case refine_1 =>
      have hj' : j < W.length := by omega
      have hR2 : RdH (Hp w0 (inS r2 W :: inS r L :: hdC g9 (hd q1) :: soC g8 o :: hdC g5 (hd q) :: N1)) r2.v W := rd_chunk ⟨0, rfl⟩
      have hRL : RdH (Hp w0 (inS r2 W :: inS r L :: hdC g9 (hd q1) :: soC g8 o :: hdC g5 (hd q) :: N1)) r.v L := rd_chunk ⟨1, rfl⟩
      (repeat (first | refine zz ?_ | refine zv fun _ => ?_))
      refine tri_block ?_
      (repeat (first | refine zz ?_ | refine zv fun _ => ?_))
      refine au_pure ?_ (hy := yl_idx (k := j) rfl rfl hR2 (ix_nat rfl) (by rfl) (by omega))
      refine au_pure ?_ (hy := yl_loadE rfl rfl hR2 (by rfl) (by omega) (by rfl))
      obtain ⟨x, hx⟩ : ∃ x, x = W.getD j default := ⟨_, rfl⟩
      have hx1 := hWm x (by rw [hx, getD_get hj']; exact List.getElem_mem hj')
      rw [← hx]
      have hcv : L.getD x.toNat default ≤ 2048 ∧ 0 ≤ L.getD x.toNat default := by
        rw [hL x.toNat (by omega)]
        have := cT_le d' d'.tb.length x.toNat
        have := cL_le d' d'.lm.length x.toNat
        have := cF_le W j x.toNat
        omega
      (repeat (first | refine zz ?_ | refine zv fun _ => ?_))
      rw [show decide (x < 0) = false from decide_eq_false (by omega)]
      (repeat (first | refine zz ?_ | refine zv fun _ => ?_))
      refine au_pure ?_ (hy := yl_len rfl rfl hRL)
      (repeat (first | refine zz ?_ | refine zv fun _ => ?_))
      rw [show decide (x ≥ (L.length : Int)) = false from decide_eq_false (by omega)]
      (repeat (first | refine zz ?_ | refine zv fun _ => ?_))
      refine au_pure ?_ (hy := yl_idx (k := x.toNat) rfl rfl hRL (ix_int rfl (by omega)) (by rfl) (by omega))
      refine au_pure ?_ (hy := yl_loadE rfl rfl hRL (by rfl) (by omega) (by rfl))
      refine au_pure ?_ (hy := yl_addn rfl rfl rfl (by omega))
      refine au_pure ?_ (hy := yl_idx (k := x.toNat) rfl rfl hRL (ix_int rfl (by omega)) (by rfl) (by omega))
      refine au_storeE (a := L.getD x.toNat default + 1) rfl rfl rfl rfl ?_
      (repeat (first | refine zz ?_ | refine zv fun _ => ?_))
      obtain ⟨i1, i2⟩ := inc_at hLl hL (x := x) hx1 (g' := fun f => cT d' d'.tb.length f + cL d' d'.lm.length f + cF W (j + 1) f) (fun f => by rw [cF_succ hj', ← hx]; omega)
      exact tri_nx2 (j + 1) (L.set x.toNat (L.getD x.toNat default + 1)) (by omega) ⟨by omega, i1, i2⟩ (by repeat (first | exact trivial | refine ⟨rfl, ?_⟩)) (fun w h => h)
    have hje : j = W.length := by omega
    subst hje
    have hone : ∀ f, f < d'.wd.length → L.getD f default = 1 := fun f hf => by
      have := own_one hvn hf
      rw [← hW] at this
      rw [hL f hf, this]; rfl
    have hRL : RdH (Hp w0 (inS r2 W :: inS r L :: hdC g9 (hd q1) :: soC g8 o :: hdC g5 (hd q) :: N1)) r.v L := rd_chunk ⟨1, rfl⟩
    (repeat (first | refine zz ?_ | refine zv fun _ => ?_))
    refine au_pure ?_ (hy := yl_len rfl rfl hRL)
    (repeat (first | refine zz ?_ | refine zv fun _ => ?_))
    refine tri_block ?_
    refine tri_loop1 (fun (j : Nat) => j ≤ L.length) (fun j => [(5, .pointer (some ⟨g5, 0, none⟩)), (8, .pointer (some ⟨g8, 0, none⟩)), (9, .pointer (some ⟨g9, 0, none⟩)), (42, vO), (43, .int .i64 (ops.length : Int)), (44, .int .i64 (k : Int)), (138, r.v), (139, .int .i64 (L.length : Int)), (140, .int .i64 (j : Int))])
      (fun _ => Hp w0 (inS r2 W :: inS r L :: hdC g9 (hd q1) :: soC g8 o :: hdC g5 (hd q) :: N1)) (fun j => L.length - j)
      0 (by omega) (by repeat (first | exact trivial | refine ⟨rfl, ?_⟩)) (fun w h => h) ?_
    clear hj
    intro j hj
    (repeat (first | refine zz ?_ | refine zv fun _ => ?_))
    ((first | refine tri_cond (by rfl) (fun hc => ?_) (fun hc => ?_) | refine tri_gsplit (by rfl) (by rfl) (by (fail_if_success exact (rfl : _ = some (Value.bool true))); (fail_if_success exact (rfl : _ = some (Value.bool false))); rfl) (fun hc => ?_) (fun hc => ?_)) <;> (try simp only [decide_eq_true_eq, decide_eq_false_iff_not, beq_iff_eq, bne_iff_ne, ne_eq, Bool.not_eq_true', Bool.not_eq_false', beq_eq_false_iff_ne, bne_eq_false_iff_eq, Int.not_lt, Int.not_le, gt_iff_lt, ge_iff_le, Bool.and_eq_true, Bool.or_eq_true, Bool.and_eq_false_iff, Bool.or_eq_false_iff, Decidable.not_not, not_true_eq_false, not_false_eq_true, and_true, true_and, or_false, false_or, or_true, true_or, and_false, false_and, eq_self, Bool.true_eq_false, Bool.false_eq_true] at hc) <;> (try (exfalso; omega)))
    case refine_1 =>
      (repeat (first | refine zz ?_ | refine zv fun _ => ?_))
      refine tri_block ?_
      (repeat (first | refine zz ?_ | refine zv fun _ => ?_))
      refine au_pure ?_ (hy := yl_idx (k := j) rfl rfl hRL (ix_nat rfl) (by rfl) (by omega))
      refine au_pure ?_ (hy := yl_loadE rfl rfl hRL (by rfl) (by omega) (by rfl))
      rw [hone j (by omega)]
      (repeat (first | refine zz ?_ | refine zv fun _ => ?_))
      exact tri_nx1 (j + 1) (by omega) (by omega) (by repeat (first | exact trivial | refine ⟨rfl, ?_⟩)) (fun w h => h)
    refine tri_weak (H' := Hp w0 (hdC g9 (hd q1) :: soC g8 o :: hdC g5 (hd q) :: N1)) (fun w h => h.sub (List.Sublist.cons _ (List.Sublist.cons _ (List.Sublist.refl _)))) ?_
    (repeat (first | refine zz ?_ | refine zv fun _ => ?_))
    refine au_pure ?_ (hy := yl_len rfl rfl hC5.lm)
    (repeat (first | refine zz ?_ | refine zv fun _ => ?_))
    refine tri_block ?_
    refine tri_loop1 (fun (j : Nat) => j ≤ m.lm.length) (fun j => [(5, .pointer (some ⟨g5, 0, none⟩)), (8, .pointer (some ⟨g8, 0, none⟩)), (9, .pointer (some ⟨g9, 0, none⟩)), (42, vO), (43, .int .i64 (ops.length : Int)), (44, .int .i64 (k : Int)), (148, (hd q).l.v), (149, .int .i64 (m.lm.length : Int)), (150, .int .i64 (j : Int))])
      (fun _ => Hp w0 (hdC g9 (hd q1) :: soC g8 o :: hdC g5 (hd q) :: N1)) (fun j => m.lm.length - j)
      0 (by omega) (by repeat (first | exact trivial | refine ⟨rfl, ?_⟩)) (fun w h => h) ?_
    intro j hj
    (repeat (first | refine zz ?_ | refine zv fun _ => ?_))
    ((first | refine tri_cond (by rfl) (fun hc => ?_) (fun hc => ?_) | refine tri_gsplit (by rfl) (by rfl) (by (fail_if_success exact (rfl : _ = some (Value.bool true))); (fail_if_success exact (rfl : _ = some (Value.bool false))); rfl) (fun hc => ?_) (fun hc => ?_)) <;> (try simp only [decide_eq_true_eq, decide_eq_false_iff_not, beq_iff_eq, bne_iff_ne, ne_eq, Bool.not_eq_true', Bool.not_eq_false', beq_eq_false_iff_ne, bne_eq_false_iff_eq, Int.not_lt, Int.not_le, gt_iff_lt, ge_iff_le, Bool.and_eq_true, Bool.or_eq_true, Bool.and_eq_false_iff, Bool.or_eq_false_iff, Decidable.not_not, not_true_eq_false, not_false_eq_true, and_true, true_and, or_false, false_or, or_true, true_or, and_false, false_and, eq_self, Bool.true_eq_false, Bool.false_eq_true] at hc) <;> (try (exfalso; omega)))
    case refine_1 =>
      have hj' : j < m.lm.length := by omega
      (repeat (first | refine zz ?_ | refine zv fun _ => ?_))
      refine tri_block ?_
      (repeat (first | refine zz ?_ | refine zv fun _ => ?_))
      refine au_pure ?_ (hy := yl_idx (k := j) rfl rfl hC5.lm (ix_nat rfl) (by rfl) (by omega))
      refine au_pure ?_ (hy := yl_loadEN rfl rfl hC5.lm (by rfl) (by omega) (by repeat (first | exact nf0 rfl | apply nfS rfl | exact nfR)) (by rfl))
      obtain ⟨x, hx⟩ : ∃ x, x = m.lm.getD j default := ⟨_, rfl⟩
      have hke := hkept x (by rw [hx, getD_get hj']; exact List.getElem_mem hj')
      rw [← hx]
      (repeat (first | refine au_pure ?_ | refine au_pass ?_ | refine au_box (fun _ => ?_) | refine au_alloc (fun _ => ?_) | refine au_store ?_ | refine au_make rfl rfl (fun _ => ?_) | refine au_lit rfl rfl rfl (fun _ => ?_) | refine au_append rfl rfl rfl rfl (fun _ => au_norm ?_) | refine au_storeE rfl rfl rfl rfl ?_)); refine tri_nil ?_; (repeat refine tri_then ?_)
      rename_i g22
      refine tri_weak (H' := Hp w0 (lbC g22 x :: hdC g9 (hd q1) :: soC g8 o :: hdC g5 (hd q) :: N1)) (fun w h => h) ?_
      have hA6 := hA5.cons (c := lbC g22 x)
      (repeat (first | refine zz ?_ | refine zv fun _ => ?_))
      refine au_pure ?_ (hy := yl_len rfl rfl hA6.lm)
      (repeat (first | refine zz ?_ | refine zv fun _ => ?_))
      refine tri_block ?_
      refine tri_loop2 (fun (i : Nat) (b : Bool) => i ≤ d'.lm.length ∧ b = (d'.lm.take i).any fun y => y.f == x.f) (fun i b => [(5, .pointer (some ⟨g5, 0, none⟩)), (8, .pointer (some ⟨g8, 0, none⟩)), (9, .pointer (some ⟨g9, 0, none⟩)), (42, vO), (43, .int .i64 (ops.length : Int)), (44, .int .i64 (k : Int)), (148, (hd q).l.v), (149, .int .i64 (m.lm.length : Int)), (150, .int .i64 (j : Int)), (22, .pointer (some ⟨g22, 0, none⟩)), (23, .bool b), (155, (hd q1).l.v), (156, .int .i64 (d'.lm.length : Int)), (157, .int .i64 (i : Int))])
        (fun _ _ => Hp w0 (lbC g22 x :: hdC g9 (hd q1) :: soC g8 o :: hdC g5 (hd q) :: N1)) (fun i _ => d'.lm.length - i)
        0 false ⟨by omega, by simp⟩ (by repeat (first | exact trivial | refine ⟨rfl, ?_⟩)) (fun w h => h) ?_
      rintro i b ⟨hi, hbi⟩
      (repeat (first | refine zz ?_ | refine zv fun _ => ?_))
      ((first | refine tri_cond (by rfl) (fun hc => ?_) (fun hc => ?_) | refine tri_gsplit (by rfl) (by rfl) (by (fail_if_success exact (rfl : _ = some (Value.bool true))); (fail_if_success exact (rfl : _ = some (Value.bool false))); rfl) (fun hc => ?_) (fun hc => ?_)) <;> (try simp only [decide_eq_true_eq, decide_eq_false_iff_not, beq_iff_eq, bne_iff_ne, ne_eq, Bool.not_eq_true', Bool.not_eq_false', beq_eq_false_iff_ne, bne_eq_false_iff_eq, Int.not_lt, Int.not_le, gt_iff_lt, ge_iff_le, Bool.and_eq_true, Bool.or_eq_true, Bool.and_eq_false_iff, Bool.or_eq_false_iff, Decidable.not_not, not_true_eq_false, not_false_eq_true, and_true, true_and, or_false, false_or, or_true, true_or, and_false, false_and, eq_self, Bool.true_eq_false, Bool.false_eq_true] at hc) <;> (try (exfalso; omega)))
      case refine_1 =>
        have hi' : i < d'.lm.length := by omega
        (repeat (first | refine zz ?_ | refine zv fun _ => ?_))
        refine tri_block ?_
        (repeat (first | refine zz ?_ | refine zv fun _ => ?_))
        refine au_pure ?_ (hy := yl_idx (k := i) rfl rfl hA6.lm (ix_nat rfl) (by rfl) (by omega))
        refine au_pure ?_ (hy := yl_loadEN rfl rfl hA6.lm (by rfl) (by omega) (by repeat (first | exact nf0 rfl | apply nfS rfl | exact nfR)) (by rfl))
        (repeat (first | refine zz ?_ | refine zv fun _ => ?_))
        have hnx : (d'.lm.take (i + 1)).any (fun y => y.f == x.f) = (b || (d'.lm.getD i default).f == x.f) := by rw [take_step hi', List.any_append, ← hbi]; simp
        cases b with
        | true =>
          (repeat (first | refine zz ?_ | refine zv fun _ => ?_))
          exact tri_nx2 (i + 1) true (by omega) ⟨by omega, by rw [hnx]; rfl⟩ (by repeat (first | exact trivial | refine ⟨rfl, ?_⟩)) (fun w h => h.sub (by repeat (first | exact List.Sublist.refl _ | assumption | apply List.Sublist.cons_cons | apply List.Sublist.cons)))
        | false =>
          (repeat (first | refine zz ?_ | refine zv fun _ => ?_))
          exact tri_nx2 (i + 1) ((d'.lm.getD i default).f == x.f) (by omega) ⟨by omega, by rw [hnx]; rfl⟩ (by repeat (first | exact trivial | refine ⟨rfl, ?_⟩)) (fun w h => h.sub (by repeat (first | exact List.Sublist.refl _ | assumption | apply List.Sublist.cons_cons | apply List.Sublist.cons)))
      have hie : i = d'.lm.length := by omega
      subst hie
      rw [List.take_length, hke] at hbi
      (repeat (first | refine zz ?_ | refine zv fun _ => ?_))
      (repeat (first | refine tri_seq ?_ | refine tri_then ?_))
      refine au_draw rfl ?_
      (repeat (first | refine z1 ?_ | refine au_qpass rfl rfl ?_ | refine triq_nil ?_))
      cases h2 : decide (o.k > 4)
      case true =>
        have h2 := of_decide_eq_true h2
        (repeat (first | refine z1 ?_ | refine au_qpass rfl rfl ?_ | refine triq_nil ?_))
        cases h3 : decide (o.c ≥ 0)
        case false =>
          have h3 := of_decide_eq_false h3
          (repeat (first | refine z1 ?_ | refine au_qpass rfl rfl ?_ | refine triq_nil ?_))
          (repeat (first | refine zz ?_ | refine zv fun _ => ?_))
          rw [show decide (o.k < 0) = false from decide_eq_false (by omega)]
          (repeat (first | refine zz ?_ | refine zv fun _ => ?_))
          refine au_pure ?_ (hy := yl_eqlb rfl rfl rfl)
          rw [show (b == false) = false by rw [hbi, show lastM o x.a = false from decide_eq_false (by omega)]; rfl]
          (repeat (first | refine zz ?_ | refine zv fun _ => ?_))
          exact tri_nx1 (j + 1) (by omega) (by omega) (by repeat (first | exact trivial | refine ⟨rfl, ?_⟩)) (fun w h => h.sub (by repeat (first | exact List.Sublist.refl _ | assumption | apply List.Sublist.cons_cons | apply List.Sublist.cons)))
        have h3 := of_decide_eq_true h3
        (repeat (first | refine z1 ?_ | refine au_qpass rfl rfl ?_ | refine triq_nil ?_))
        cases h4 : decide (o.c < 8)
        case false =>
          have h4 := of_decide_eq_false h4
          (repeat (first | refine z1 ?_ | refine au_qpass rfl rfl ?_ | refine triq_nil ?_))
          (repeat (first | refine zz ?_ | refine zv fun _ => ?_))
          rw [show decide (o.k < 0) = false from decide_eq_false (by omega)]
          (repeat (first | refine zz ?_ | refine zv fun _ => ?_))
          refine au_pure ?_ (hy := yl_eqlb rfl rfl rfl)
          rw [show (b == false) = false by rw [hbi, show lastM o x.a = false from decide_eq_false (by omega)]; rfl]
          (repeat (first | refine zz ?_ | refine zv fun _ => ?_))
          exact tri_nx1 (j + 1) (by omega) (by omega) (by repeat (first | exact trivial | refine ⟨rfl, ?_⟩)) (fun w h => h.sub (by repeat (first | exact List.Sublist.refl _ | assumption | apply List.Sublist.cons_cons | apply List.Sublist.cons)))
        have h4 := of_decide_eq_true h4
        (repeat (first | refine z1 ?_ | refine au_qpass rfl rfl ?_ | refine triq_nil ?_))
        refine au_qpure rfl rfl ?_ (hy := yl_shl rfl rfl rfl (by omega))
        obtain ⟨cn, hcn⟩ : ∃ cn : Nat, o.c = (cn : Int) := ⟨o.c.toNat, by omega⟩
        rw [show IntKind.i64.wrap (1 * 2 ^ (min (Int.toNat o.c) (IntKind.bits .i64))) = 2 ^ o.c.toNat by rw [hcn, shl_eq8 (by omega), Int.toNat_natCast]]
        (repeat (first | refine z1 ?_ | refine au_qpass rfl rfl ?_ | refine triq_nil ?_))
        (repeat (first | refine zz ?_ | refine zv fun _ => ?_))
        rw [show decide (o.k < 0) = false from decide_eq_false (by omega)]
        (repeat (first | refine zz ?_ | refine zv fun _ => ?_))
        refine au_pure ?_ (hy := yl_eqlb rfl rfl rfl)
        rw [show (b == (x.a == 2 ^ o.c.toNat)) = false by rw [hbi, show lastM o x.a = (x.a == 2 ^ o.c.toNat) by unfold lastM; rw [Bool.eq_iff_iff, decide_eq_true_eq, beq_iff_eq]; constructor <;> intro y; exact y.2.2; exact ⟨by omega, by omega, y⟩]; cases (x.a == 2 ^ o.c.toNat) <;> rfl]
        (repeat (first | refine zz ?_ | refine zv fun _ => ?_))
        exact tri_nx1 (j + 1) (by omega) (by omega) (by repeat (first | exact trivial | refine ⟨rfl, ?_⟩)) (fun w h => h.sub (by repeat (first | exact List.Sublist.refl _ | assumption | apply List.Sublist.cons_cons | apply List.Sublist.cons)))
      have h2 := of_decide_eq_false h2
      (repeat (first | refine z1 ?_ | refine au_qpass rfl rfl ?_ | refine triq_nil ?_))
      (repeat (first | refine zz ?_ | refine zv fun _ => ?_))
      cases h5 : decide (o.k < 0)
      case false =>
        have h5 := of_decide_eq_false h5
        (repeat (first | refine zz ?_ | refine zv fun _ => ?_))
        refine au_pure ?_ (hy := yl_eqlb rfl rfl rfl)
        rw [show (b == false) = false by rw [hbi, show lastM o x.a = false from decide_eq_false (by omega)]; rfl]
        (repeat (first | refine zz ?_ | refine zv fun _ => ?_))
        exact tri_nx1 (j + 1) (by omega) (by omega) (by repeat (first | exact trivial | refine ⟨rfl, ?_⟩)) (fun w h => h.sub (by repeat (first | exact List.Sublist.refl _ | assumption | apply List.Sublist.cons_cons | apply List.Sublist.cons)))
      have h5 := of_decide_eq_true h5
      (repeat (first | refine zz ?_ | refine zv fun _ => ?_))
      (repeat (first | refine tri_seq ?_ | refine tri_then ?_))
      refine au_draw rfl ?_
      (repeat (first | refine z1 ?_ | refine au_qpass rfl rfl ?_ | refine triq_nil ?_))
      cases h3 : decide (o.c ≥ 0)
      case false =>
        have h3 := of_decide_eq_false h3
        (repeat (first | refine z1 ?_ | refine au_qpass rfl rfl ?_ | refine triq_nil ?_))
        (repeat (first | refine zz ?_ | refine zv fun _ => ?_))
        refine au_pure ?_ (hy := yl_eqlb rfl rfl rfl)
        rw [show (b == false) = false by rw [hbi, show lastM o x.a = false from decide_eq_false (by omega)]; rfl]
        (repeat (first | refine zz ?_ | refine zv fun _ => ?_))
        exact tri_nx1 (j + 1) (by omega) (by omega) (by repeat (first | exact trivial | refine ⟨rfl, ?_⟩)) (fun w h => h.sub (by repeat (first | exact List.Sublist.refl _ | assumption | apply List.Sublist.cons_cons | apply List.Sublist.cons)))
      have h3 := of_decide_eq_true h3
      (repeat (first | refine z1 ?_ | refine au_qpass rfl rfl ?_ | refine triq_nil ?_))
      cases h4 : decide (o.c < 8)
      case false =>
        have h4 := of_decide_eq_false h4
        (repeat (first | refine z1 ?_ | refine au_qpass rfl rfl ?_ | refine triq_nil ?_))
        (repeat (first | refine zz ?_ | refine zv fun _ => ?_))
        refine au_pure ?_ (hy := yl_eqlb rfl rfl rfl)
        rw [show (b == false) = false by rw [hbi, show lastM o x.a = false from decide_eq_false (by omega)]; rfl]
        (repeat (first | refine zz ?_ | refine zv fun _ => ?_))
        exact tri_nx1 (j + 1) (by omega) (by omega) (by repeat (first | exact trivial | refine ⟨rfl, ?_⟩)) (fun w h => h.sub (by repeat (first | exact List.Sublist.refl _ | assumption | apply List.Sublist.cons_cons | apply List.Sublist.cons)))
      have h4 := of_decide_eq_true h4
      (repeat (first | refine z1 ?_ | refine au_qpass rfl rfl ?_ | refine triq_nil ?_))
      refine au_qpure rfl rfl ?_ (hy := yl_shl rfl rfl rfl (by omega))
      obtain ⟨cn, hcn⟩ : ∃ cn : Nat, o.c = (cn : Int) := ⟨o.c.toNat, by omega⟩
      rw [show IntKind.i64.wrap (1 * 2 ^ (min (Int.toNat o.c) (IntKind.bits .i64))) = 2 ^ o.c.toNat by rw [hcn, shl_eq8 (by omega), Int.toNat_natCast]]
      (repeat (first | refine z1 ?_ | refine au_qpass rfl rfl ?_ | refine triq_nil ?_))
      (repeat (first | refine zz ?_ | refine zv fun _ => ?_))
      refine au_pure ?_ (hy := yl_eqlb rfl rfl rfl)
      rw [show (b == (x.a == 2 ^ o.c.toNat)) = false by rw [hbi, show lastM o x.a = (x.a == 2 ^ o.c.toNat) by unfold lastM; rw [Bool.eq_iff_iff, decide_eq_true_eq, beq_iff_eq]; constructor <;> intro y; exact y.2.2; exact ⟨by omega, by omega, y⟩]; cases (x.a == 2 ^ o.c.toNat) <;> rfl]
      (repeat (first | refine zz ?_ | refine zv fun _ => ?_))
      exact tri_nx1 (j + 1) (by omega) (by omega) (by repeat (first | exact trivial | refine ⟨rfl, ?_⟩)) (fun w h => h.sub (by repeat (first | exact List.Sublist.refl _ | assumption | apply List.Sublist.cons_cons | apply List.Sublist.cons)))
    subst hd''
    (repeat (first | refine zz ?_ | refine zv fun _ => ?_))
    exact tri_nx2 (k + 1) (q1, (sdoM m o).1) (by omega) ⟨by omega, hq1, hkn, hvn⟩ (by repeat (first | exact trivial | refine ⟨rfl, ?_⟩)) hfwd
  (repeat (first | refine zz ?_ | refine zv fun _ => ?_))
  refine au_done1 rfl ?_
  exact fun w hw => ⟨(), rfl, hw.sub (List.Sublist.cons _ (List.sublist_append_right (SC q m) cs))⟩
end
end Go.Proofs.Ytojfaelafakemaa
