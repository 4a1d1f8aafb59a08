/- Texts joined: ShLimbo. Each part's own remark says what it proves. -/
import Derived.Test.YtojfaelafakemaaM14
/- The walk of the frames in limbo. No conditions. -/
set_option linter.unusedSimpArgs false
set_option linter.unusedVariables false
namespace Go.Proofs.Ytojfaelafakemaa
open Go Go.RowKit
attribute [local irreducible] decR enOk pgOk teOk ivOk tlOk checkM
section
variable {m : SM}
theorem frM_yes {p : Nat} (h : pgOk m.wd.length (tbW m p) = true) : frM m p = (decR (tbW m p)).1.n := by unfold frM frW; rw [if_pos h]
theorem frM_no {p : Nat} (h : pgOk m.wd.length (tbW m p) = false) : frM m p = -1 := by unfold frM frW; rw [if_neg (by rw [h]; simp)]
theorem pg_bd {n : Nat} {w : Int} (h : pgOk n w = true) : 0 ≤ (decR w).1.n ∧ (decR w).1.n < n := by
  have := decR_bd (x := w) (e := (decR w).1) (c := (decR w).2) rfl
  unfold pgOk at h
  have := of_decide_eq_true h
  omega
theorem usedT_succ (k : Nat) (f : Int) : usedT m (k + 1) f = (usedT m k f || frM m k == f) := by
  unfold usedT
  rw [List.range_succ, List.any_append]; simp
theorem usedL_succ {k : Nat} (hk : k < m.lm.length) (f : Int) : usedL m (k + 1) f = (usedL m k f || (m.lm.getD k default).f == f) := by
  unfold usedL
  rw [take_step hk, List.any_append]; simp
theorem lim_dup {p : Nat} (hp : p < m.tb.length) (h : dupT m p = true) : limM m = false := by
  unfold limM
  have : ((List.range m.tb.length).all fun p => !dupT m p) = false := by
    rw [List.all_eq_false]
    exact ⟨p, List.mem_range.2 hp, by rw [h]; simp⟩
  rw [this]; rfl
theorem lim_lb {i : Nat} (hi : i < m.lm.length) (h : lbOk m i (m.lm.getD i default) = false) : limM m = false := by
  unfold limM
  have : ((List.range m.lm.length).all fun i => lbOk m i (m.lm.getD i default)) = false := by
    rw [List.all_eq_false]
    exact ⟨i, List.mem_range.2 hi, by rw [h]; simp⟩
  rw [this, Bool.and_false]
theorem lim_yes (h1 : ∀ p, p < m.tb.length → dupT m p = false) (h2 : ∀ i, i < m.lm.length → lbOk m i (m.lm.getD i default) = true) : limM m = true := by
  unfold limM
  rw [Bool.and_eq_true, List.all_eq_true, List.all_eq_true]
  exact ⟨fun p hp => by rw [h1 p (List.mem_range.1 hp)]; rfl, fun i hi => h2 i (List.mem_range.1 hi)⟩
end
theorem set_used {U : List Bool} {q : Nat → Bool} {N n : Nat} (hU : U.length = N) (h : ∀ f, f < N → U.getD f default = q f) (hn : n < N) : ∀ f, f < N → (U.set n true).getD f default = (q f || n == f) := fun f hf => by
  rw [gd_set (by omega)]
  by_cases e : n = f
  · rw [if_pos e, e]; simp
  · rw [if_neg e, h f hf]; simp [e]
theorem lbOk_eq (m : SM) (i : Nat) (x : LB) : lbOk m i x = (decide (0 ≤ x.f ∧ x.f < m.wd.length) && (!(usedT m m.tb.length x.f || usedL m i x.f) && (decide (1 ≤ x.a ∧ x.a < 2 ^ m.tl.length) && (List.range m.tl.length).all fun c => !(bitA x.a c && (m.pd.getD c default).isEmpty)))) := rfl
attribute [local irreducible] lbOk
abbrev lbC (g : Nat) (x : LB) : Chunk := blkC g 41 [.int .i64 x.f, .int .i64 x.a]
attribute [local irreducible] Code.wp wpList bodyPost Exit.then Exit.inBlock Calls wpQuiet Tri TriQ
section
variable (w0 : World) (cs : List Chunk)
set_option maxHeartbeats 4000000 in
theorem limbo_c {h : SH} {xb : List TB} {xp : List SV} {m : SM} (r : Row) (hC : RdS (Hp w0 cs) h xb xp m) (hL : SLe m) (hpl : m.pd.length = m.tl.length) (hc4 : m.tl.length ≤ 4) :
    Cal Try.prog 26 [hdV h, r.v] (Hp w0 (boS r (List.replicate m.wd.length false) :: cs))
      (fun _ : {U : List Bool // U.length = m.wd.length ∧ (limM m = true → ∀ f, f < m.wd.length → U.getD f default = (usedT m m.tb.length (f : Int) || usedL m m.lm.length (f : Int)))} => .bool (limM m)) (fun q => Hp w0 (boS r q.1 :: cs)) := by
  have htl := hC.tll
  have hpdl := hC.pdl
  have l1 := hL.tb
  have l2 := hL.tl
  have l4 := hL.lm
  have l5 := hL.wd
  refine cal_of_tri Try.func26 rfl Try.ntmps26 rfl ?_
  (repeat (first | refine tri_seq ?_ | refine tri_then ?_)); refine tri_region ?_; (repeat (first | refine au_pure ?_ | refine au_pass ?_ | refine au_box (fun _ => ?_) | refine au_alloc (fun _ => ?_) | refine au_store ?_ | refine au_make rfl rfl (fun _ => ?_) | refine au_lit rfl rfl rfl (fun _ => ?_) | refine au_append rfl rfl rfl rfl (fun _ => au_norm ?_) | refine au_storeE rfl rfl rfl rfl ?_)); refine tri_nil ?_; (repeat refine tri_then ?_)
  rename_i g2
  have hCU : ∀ U, RdS (Hp w0 (hdC g2 h :: boS r U :: cs)) h xb xp m := fun U => hC.cons.cons
  (repeat (first | refine zz ?_ | refine zv fun _ => ?_))
  refine au_pure ?_ (hy := yl_len rfl rfl (hCU _).tb)
  (repeat (first | refine zz ?_ | refine zv fun _ => ?_))
  refine tri_block ?_
  refine tri_loop2 (fun (k : Nat) (U : List Bool) => k ≤ m.tb.length ∧ U.length = m.wd.length ∧ (∀ f, f < m.wd.length → U.getD f default = usedT m k (f : Int)) ∧ ∀ j, j < k → dupT m j = false) (fun k _ => [(1, r.v), (2, .pointer (some ⟨g2, 0, none⟩)), (13, .int .i64 (m.tb.length : Int)), (14, .int .i64 (k : Int))]) (fun _ U => Hp w0 (hdC g2 h :: boS r U :: cs)) (fun k _ => m.tb.length - k)
    0 (List.replicate m.wd.length false) ⟨by omega, List.length_replicate, fun f hf => by rw [getD_rep hf]; rfl, fun j hj => by omega⟩ (by repeat (first | exact trivial | refine ⟨rfl, ?_⟩)) (fun w h => h) ?_
  rintro k U ⟨hk, hUl, hU, hd⟩
  (repeat (first | refine zz ?_ | refine zv fun _ => ?_))
  ((first | refine tri_cond (by rfl) (fun hc => ?_) (fun hc => ?_) | refine tri_gsplit (by rfl) (by rfl) (by (fail_if_success exact (rfl : _ = some (Value.bool true))); (fail_if_success exact (rfl : _ = some (Value.bool false))); rfl) (fun hc => ?_) (fun hc => ?_)) <;> (try simp only [decide_eq_true_eq, decide_eq_false_iff_not, beq_iff_eq, bne_iff_ne, ne_eq, Bool.not_eq_true', Bool.not_eq_false', beq_eq_false_iff_ne, bne_eq_false_iff_eq, Int.not_lt, Int.not_le, gt_iff_lt, ge_iff_le, Bool.and_eq_true, Bool.or_eq_true, Bool.and_eq_false_iff, Bool.or_eq_false_iff, Decidable.not_not, not_true_eq_false, not_false_eq_true, and_true, true_and, or_false, false_or, or_true, true_or, and_false, false_and, eq_self, Bool.true_eq_false, Bool.false_eq_true] at hc) <;> (try (exfalso; omega)))
  · (repeat (first | refine zz ?_ | refine zv fun _ => ?_))
    refine tri_block ?_
    (repeat (first | refine zz ?_ | refine zv fun _ => ?_))
    refine au_callC rfl rfl rfl rfl rfl (mapped_c w0 _ (k : Int) (hCU U) hL (by omega)) (fun _ => ?_)
    rw [Int.toNat_natCast]
    have hsu := usedT_succ (m := m) k
    cases h1 : pgOk m.wd.length (tbW m k)
    · have hf := frM_no h1
      (repeat (first | refine zz ?_ | refine zv fun _ => ?_))
      refine tri_nx2 (k + 1) U (by omega) ⟨by omega, hUl, fun f hf' => ?_, all_next (k := k) hd ?_⟩ (by repeat (first | exact trivial | refine ⟨rfl, ?_⟩)) (fun w h => h.sub (by repeat (first | exact List.Sublist.refl _ | assumption | apply List.Sublist.cons_cons | apply List.Sublist.cons)))
      · rw [hU f hf', hsu, hf, show ((-1 : Int) == (f : Int)) = false by rw [beq_eq_false_iff_ne]; omega, Bool.or_false]
      · unfold dupT; rw [hf]; rfl
    · have hf := frM_yes h1
      have hb := pg_bd h1
      obtain ⟨e, he⟩ : ∃ e, e = (decR (tbW m k)).1 := ⟨_, rfl⟩
      rw [← he] at hf hb ⊢
      (repeat (first | refine zz ?_ | refine zv fun _ => ?_))
      rename_i g6
      have hRU : RdH (Hp w0 (enE g6 e :: hdC g2 h :: boS r U :: cs)) r.v U := rd_chunk ⟨2, rfl⟩
      refine au_pure ?_ (hy := yl_idx (k := e.n.toNat) rfl rfl hRU (ix_int rfl (by omega)) (by rfl) (by omega))
      refine au_pure ?_ (hy := yl_loadE rfl rfl hRU (by rfl) (by omega) (by rfl))
      have hUn : U.getD e.n.toNat default = usedT m k (frM m k) := by
        have := hU e.n.toNat (by omega)
        rw [show ((e.n.toNat : Nat) : Int) = e.n by omega] at this
        rw [hf]; exact this
      cases h2 : U.getD e.n.toNat default
      · (repeat (first | refine zz ?_ | refine zv fun _ => ?_))
        refine au_pure ?_ (hy := yl_idx (k := e.n.toNat) rfl rfl hRU (ix_int rfl (by omega)) (by rfl) (by omega))
        refine au_storeE (a := true) rfl rfl rfl rfl ?_
        (repeat (first | refine zz ?_ | refine zv fun _ => ?_))
        refine tri_nx2 (k + 1) (U.set e.n.toNat true) (by omega) ⟨by omega, by simp [hUl], fun f hf' => ?_, all_next (k := k) hd ?_⟩ (by repeat (first | exact trivial | refine ⟨rfl, ?_⟩)) (fun w h => h.sub (by repeat (first | exact List.Sublist.refl _ | assumption | apply List.Sublist.cons_cons | apply List.Sublist.cons)))
        · rw [set_used hUl hU (by omega) f hf', hsu, hf]
          congr 1
          rw [Bool.eq_iff_iff, beq_iff_eq, beq_iff_eq]; omega
        · unfold dupT
          rw [← hUn, h2, Bool.and_false]
      · have hdu : dupT m k = true := by
          unfold dupT
          rw [← hUn, h2, Bool.and_true, hf]
          exact decide_eq_true hb.1
        (repeat (first | refine zz ?_ | refine zv fun _ => ?_))
        refine au_done1 rfl ?_
        intro w hw
        have hlf := lim_dup (by omega) hdu
        exact ⟨⟨U, hUl, fun x => by rw [hlf] at x; cases x⟩, by rw [hlf], hw.sub (by repeat (first | exact List.Sublist.refl _ | assumption | apply List.Sublist.cons_cons | apply List.Sublist.cons))⟩
  · have hkt : k = m.tb.length := by omega
    subst hkt
    (repeat (first | refine zz ?_ | refine zv fun _ => ?_))
    refine au_pure ?_ (hy := yl_len rfl rfl (hCU U).lm)
    (repeat (first | refine zz ?_ | refine zv fun _ => ?_))
    refine tri_block ?_
    refine tri_loop2 (fun (i : Nat) (U : List Bool) => i ≤ m.lm.length ∧ U.length = m.wd.length ∧ (∀ f, f < m.wd.length → U.getD f default = (usedT m m.tb.length (f : Int) || usedL m i (f : Int))) ∧ ∀ j, j < i → lbOk m j (m.lm.getD j default) = true) (fun i _ => [(1, r.v), (2, .pointer (some ⟨g2, 0, none⟩)), (35, h.l.v), (36, .int .i64 (m.lm.length : Int)), (37, .int .i64 (i : Int))]) (fun _ U => Hp w0 (hdC g2 h :: boS r U :: cs)) (fun i _ => m.lm.length - i)
      0 U ⟨by omega, hUl, fun f hf => by rw [hU f hf]; unfold usedL; simp, fun j hj => by omega⟩ (by repeat (first | exact trivial | refine ⟨rfl, ?_⟩)) (fun w h => h) ?_
    clear hU hUl
    rintro i U ⟨hi, hUl, hU, hlo⟩
    (repeat (first | refine zz ?_ | refine zv fun _ => ?_))
    ((first | refine tri_cond (by rfl) (fun hc => ?_) (fun hc => ?_) | refine tri_gsplit (by rfl) (by rfl) (by (fail_if_success exact (rfl : _ = some (Value.bool true))); (fail_if_success exact (rfl : _ = some (Value.bool false))); rfl) (fun hc => ?_) (fun hc => ?_)) <;> (try simp only [decide_eq_true_eq, decide_eq_false_iff_not, beq_iff_eq, bne_iff_ne, ne_eq, Bool.not_eq_true', Bool.not_eq_false', beq_eq_false_iff_ne, bne_eq_false_iff_eq, Int.not_lt, Int.not_le, gt_iff_lt, ge_iff_le, Bool.and_eq_true, Bool.or_eq_true, Bool.and_eq_false_iff, Bool.or_eq_false_iff, Decidable.not_not, not_true_eq_false, not_false_eq_true, and_true, true_and, or_false, false_or, or_true, true_or, and_false, false_and, eq_self, Bool.true_eq_false, Bool.false_eq_true] at hc) <;> (try (exfalso; omega)))
    · (repeat (first | refine zz ?_ | refine zv fun _ => ?_))
      refine tri_block ?_
      (repeat (first | refine zz ?_ | refine zv fun _ => ?_))
      refine au_pure ?_ (hy := yl_idx (k := i) rfl rfl (hCU U).lm (ix_nat rfl) (by rfl) (by omega))
      refine au_pure ?_ (hy := yl_loadEN rfl rfl (hCU U).lm (by rfl) (by omega) (by repeat (first | exact nf0 rfl | apply nfS rfl | exact nfR)) (by rfl))
      have hil : i < m.lm.length := by omega
      have hno := lim_lb (m := m) hil
      have hnx := fun e => all_next (k := i) (q := fun j => lbOk m j (m.lm.getD j default) = true) hlo e
      have hsu := usedL_succ hil
      have hlb := lbOk_eq m i (m.lm.getD i default)
      obtain ⟨x, hx⟩ : ∃ x, x = m.lm.getD i default := ⟨_, rfl⟩
      rw [← hx] at hno hnx hsu hlb ⊢
      have hfin : ∀ w, limM m = false → Hp w0 (boS r U :: cs) w → ∃ s : {U : List Bool // U.length = m.wd.length ∧ (limM m = true → ∀ f, f < m.wd.length → U.getD f default = (usedT m m.tb.length (f : Int) || usedL m m.lm.length (f : Int)))}, Ending.returned (.bool false) = .returned (.bool (limM m)) ∧ Hp w0 (boS r s.1 :: cs) w := fun w hlf hw => ⟨⟨U, hUl, fun y => by rw [hlf] at y; cases y⟩, by rw [hlf], hw⟩
      (repeat (first | refine au_pure ?_ | refine au_pass ?_ | refine au_box (fun _ => ?_) | refine au_alloc (fun _ => ?_) | refine au_store ?_ | refine au_make rfl rfl (fun _ => ?_) | refine au_lit rfl rfl rfl (fun _ => ?_) | refine au_append rfl rfl rfl rfl (fun _ => au_norm ?_) | refine au_storeE rfl rfl rfl rfl ?_)); refine tri_nil ?_; (repeat refine tri_then ?_)
      rename_i g9
      (repeat (first | refine tri_seq ?_ | refine tri_then ?_))
      have hCx := (hCU U).cons (c := lbC g9 x)
      have hRU : RdH (Hp w0 (lbC g9 x :: hdC g2 h :: boS r U :: cs)) r.v U := rd_chunk ⟨2, rfl⟩
      refine au_draw rfl ?_
      (repeat (first | refine z1 ?_ | refine au_qpass rfl rfl ?_ | refine triq_nil ?_))
      cases h1 : decide (x.f < 0)
      case true =>
        have h1 := of_decide_eq_true h1
        (repeat (first | refine z1 ?_ | refine au_qpass rfl rfl ?_ | refine triq_nil ?_))
        (repeat (first | refine zz ?_ | refine zv fun _ => ?_))
        refine au_done1 rfl ?_
        exact fun w hw => hfin w (hno (by rw [hlb, decide_eq_false (by omega), Bool.false_and])) (hw.sub (by repeat (first | exact List.Sublist.refl _ | assumption | apply List.Sublist.cons_cons | apply List.Sublist.cons)))
      have h1 := of_decide_eq_false h1
      (repeat (first | refine z1 ?_ | refine au_qpass rfl rfl ?_ | refine triq_nil ?_))
      refine au_qpure rfl rfl ?_ (hy := yl_len rfl rfl hCx.wd)
      (repeat (first | refine z1 ?_ | refine au_qpass rfl rfl ?_ | refine triq_nil ?_))
      cases h2 : decide (x.f ≥ (m.wd.length : Int))
      case true =>
        have h2 := of_decide_eq_true h2
        (repeat (first | refine z1 ?_ | refine au_qpass rfl rfl ?_ | refine triq_nil ?_))
        (repeat (first | refine zz ?_ | refine zv fun _ => ?_))
        refine au_done1 rfl ?_
        exact fun w hw => hfin w (hno (by rw [hlb, decide_eq_false (by omega), Bool.false_and])) (hw.sub (by repeat (first | exact List.Sublist.refl _ | assumption | apply List.Sublist.cons_cons | apply List.Sublist.cons)))
      have h2 := of_decide_eq_false h2
      (repeat (first | refine z1 ?_ | refine au_qpass rfl rfl ?_ | refine triq_nil ?_))
      refine au_qpure rfl rfl ?_ (hy := yl_idx (k := x.f.toNat) rfl rfl hRU (ix_int rfl (by omega)) (by rfl) (by omega))
      refine au_qpure rfl rfl ?_ (hy := yl_loadE rfl rfl hRU (by rfl) (by omega) (by rfl))
      have hUn := hU x.f.toNat (by omega)
      rw [show ((x.f.toNat : Nat) : Int) = x.f by omega] at hUn
      rw [decide_eq_true (show 0 ≤ x.f ∧ x.f < m.wd.length by omega), Bool.true_and, ← hUn] at hlb
      cases h3 : U.getD x.f.toNat default
      case true =>
        (repeat (first | refine z1 ?_ | refine au_qpass rfl rfl ?_ | refine triq_nil ?_))
        (repeat (first | refine zz ?_ | refine zv fun _ => ?_))
        refine au_done1 rfl ?_
        exact fun w hw => hfin w (hno (by rw [hlb, h3]; rfl)) (hw.sub (by repeat (first | exact List.Sublist.refl _ | assumption | apply List.Sublist.cons_cons | apply List.Sublist.cons)))
      rw [h3, Bool.not_false, Bool.true_and] at hlb
      (repeat (first | refine z1 ?_ | refine au_qpass rfl rfl ?_ | refine triq_nil ?_))
      cases h4 : decide (x.a < 1)
      case true =>
        have h4 := of_decide_eq_true h4
        (repeat (first | refine z1 ?_ | refine au_qpass rfl rfl ?_ | refine triq_nil ?_))
        (repeat (first | refine zz ?_ | refine zv fun _ => ?_))
        refine au_done1 rfl ?_
        exact fun w hw => hfin w (hno (by rw [hlb, decide_eq_false (by omega), Bool.false_and])) (hw.sub (by repeat (first | exact List.Sublist.refl _ | assumption | apply List.Sublist.cons_cons | apply List.Sublist.cons)))
      have h4 := of_decide_eq_false h4
      (repeat (first | refine z1 ?_ | refine au_qpass rfl rfl ?_ | refine triq_nil ?_))
      refine au_qpure rfl rfl ?_ (hy := yl_len rfl rfl hCx.tl)
      refine au_qpure rfl rfl ?_ (hy := yl_shl rfl rfl rfl (by omega))
      rw [htl, shl_eq hc4]
      have hpw := pow_le hc4
      (repeat (first | refine z1 ?_ | refine au_qpass rfl rfl ?_ | refine triq_nil ?_))
      cases h5 : decide (x.a ≥ (2 : Int) ^ m.tl.length)
      case true =>
        have h5 := of_decide_eq_true h5
        (repeat (first | refine z1 ?_ | refine au_qpass rfl rfl ?_ | refine triq_nil ?_))
        (repeat (first | refine zz ?_ | refine zv fun _ => ?_))
        refine au_done1 rfl ?_
        exact fun w hw => hfin w (hno (by rw [hlb, decide_eq_false (by omega), Bool.false_and])) (hw.sub (by repeat (first | exact List.Sublist.refl _ | assumption | apply List.Sublist.cons_cons | apply List.Sublist.cons)))
      have h5 := of_decide_eq_false h5
      rw [decide_eq_true (show 1 ≤ x.a ∧ x.a < 2 ^ m.tl.length by omega), Bool.true_and] at hlb
      (repeat (first | refine z1 ?_ | refine au_qpass rfl rfl ?_ | refine triq_nil ?_))
      (repeat (first | refine zz ?_ | refine zv fun _ => ?_))
      refine au_pure ?_ (hy := yl_idx (k := x.f.toNat) rfl rfl hRU (ix_int rfl (by omega)) (by rfl) (by omega))
      refine au_storeE (a := true) rfl rfl rfl rfl ?_
      (repeat (first | refine zz ?_ | refine zv fun _ => ?_))
      obtain ⟨V, hV⟩ : ∃ V, V = U.set x.f.toNat true := ⟨_, rfl⟩
      have hVl : V.length = m.wd.length := by rw [hV]; simp [hUl]
      have hVu : ∀ f, f < m.wd.length → V.getD f default = (usedT m m.tb.length (f : Int) || usedL m (i + 1) (f : Int)) := fun f hf => by
        rw [hV, set_used hUl hU (by omega) f hf, hsu, ← Bool.or_assoc]
        congr 1
        rw [Bool.eq_iff_iff, beq_iff_eq, beq_iff_eq]; omega
      rw [← hV]
      refine au_pure ?_ (hy := yl_len rfl rfl ((hCU V).cons (c := lbC g9 x)).tl)
      (repeat (first | refine zz ?_ | refine zv fun _ => ?_))
      refine tri_block ?_
      refine tri_loop1 (fun (c : Nat) => c ≤ xb.length ∧ ∀ j, j < c → (!(bitA x.a j && (m.pd.getD j default).isEmpty)) = true) (fun c => [(1, r.v), (2, .pointer (some ⟨g2, 0, none⟩)), (9, .pointer (some ⟨g9, 0, none⟩)), (35, h.l.v), (36, .int .i64 (m.lm.length : Int)), (37, .int .i64 (i : Int)), (79, .int .i64 (xb.length : Int)), (80, .int .i64 (c : Int))]) (fun _ => Hp w0 (lbC g9 x :: hdC g2 h :: boS r V :: cs)) (fun c => xb.length - c)
        0 ⟨by omega, fun j hj => by omega⟩ (by repeat (first | exact trivial | refine ⟨rfl, ?_⟩)) (fun w h => h) ?_
      rintro c ⟨hcl, hcb⟩
      (repeat (first | refine zz ?_ | refine zv fun _ => ?_))
      ((first | refine tri_cond (by rfl) (fun hc => ?_) (fun hc => ?_) | refine tri_gsplit (by rfl) (by rfl) (by (fail_if_success exact (rfl : _ = some (Value.bool true))); (fail_if_success exact (rfl : _ = some (Value.bool false))); rfl) (fun hc => ?_) (fun hc => ?_)) <;> (try simp only [decide_eq_true_eq, decide_eq_false_iff_not, beq_iff_eq, bne_iff_ne, ne_eq, Bool.not_eq_true', Bool.not_eq_false', beq_eq_false_iff_ne, bne_eq_false_iff_eq, Int.not_lt, Int.not_le, gt_iff_lt, ge_iff_le, Bool.and_eq_true, Bool.or_eq_true, Bool.and_eq_false_iff, Bool.or_eq_false_iff, Decidable.not_not, not_true_eq_false, not_false_eq_true, and_true, true_and, or_false, false_or, or_true, true_or, and_false, false_and, eq_self, Bool.true_eq_false, Bool.false_eq_true] at hc) <;> (try (exfalso; omega)))
      · (repeat (first | refine zz ?_ | refine zv fun _ => ?_))
        refine tri_block ?_
        have hCv := (hCU V).cons (c := lbC g9 x)
        have hPe := hCv.pe c
        have hpe := hL.pe c
        have hnc := fun e => all_next (k := c) (q := fun j => (!(bitA x.a j && (m.pd.getD j default).isEmpty)) = true) hcb e
        have hbad : (!(bitA x.a c && (m.pd.getD c default).isEmpty)) = false → lbOk m i x = false := fun e => by
          rw [hlb, List.all_eq_false]
          exact ⟨c, List.mem_range.2 (by omega), by rw [e]; simp⟩
        have hbit := bit_eq (a := x.a) (c := c) (by omega) (by omega)
        obtain ⟨pl, hpl2⟩ : ∃ pl, pl = m.pd.getD c default := ⟨_, rfl⟩
        rw [← hpl2] at hPe hpe hnc hbad
        (repeat (first | refine zz ?_ | refine zv fun _ => ?_))
        refine au_pure ?_ (hy := yl_shr rfl rfl rfl (by omega))
        refine au_pure ?_ (hy := yl_and rfl rfl rfl)
        (repeat (first | refine zz ?_ | refine zv fun _ => ?_))
        rw [hbit]
        cases h6 : bitA x.a c
        · (repeat (first | refine zz ?_ | refine zv fun _ => ?_))
          exact tri_nx1 (c + 1) (by omega) ⟨by omega, hnc (by rw [h6]; rfl)⟩ (by repeat (first | exact trivial | refine ⟨rfl, ?_⟩)) (fun w h => h.sub (by repeat (first | exact List.Sublist.refl _ | assumption | apply List.Sublist.cons_cons | apply List.Sublist.cons)))
        · (repeat (first | refine zz ?_ | refine zv fun _ => ?_))
          refine au_pure ?_ (hy := yl_idx (k := c) rfl rfl hCv.pd (ix_nat rfl) (by rfl) (by omega))
          refine au_pure ?_ (hy := yl_loadE rfl rfl hCv.pd (by rfl) (by omega) (by rfl))
          refine au_pure ?_ (hy := yl_len rfl rfl hPe)
          (repeat (first | refine zz ?_ | refine zv fun _ => ?_))
          cases h7 : ((pl.length : Int) == 0)
          · have h7 : ¬ (pl.length : Int) = 0 := by simpa using h7
            (repeat (first | refine zz ?_ | refine zv fun _ => ?_))
            refine tri_nx1 (c + 1) (by omega) ⟨by omega, hnc ?_⟩ (by repeat (first | exact trivial | refine ⟨rfl, ?_⟩)) (fun w h => h.sub (by repeat (first | exact List.Sublist.refl _ | assumption | apply List.Sublist.cons_cons | apply List.Sublist.cons)))
            rw [h6]
            cases pl with
            | nil => simp at h7
            | cons a b => rfl
          · have h7 : (pl.length : Int) = 0 := by simpa using h7
            have hnil : pl = [] := List.length_eq_zero_iff.1 (by omega)
            (repeat (first | refine zz ?_ | refine zv fun _ => ?_))
            refine au_done1 rfl ?_
            intro w hw
            have hlf := hno (hbad (by rw [h6, hnil]; rfl))
            exact ⟨⟨V, hVl, fun y => by rw [hlf] at y; cases y⟩, by rw [hlf], hw.sub (by repeat (first | exact List.Sublist.refl _ | assumption | apply List.Sublist.cons_cons | apply List.Sublist.cons))⟩
      · have hce : c = m.tl.length := by omega
        (repeat (first | refine zz ?_ | refine zv fun _ => ?_))
        refine tri_nx2 (i + 1) V (by omega) ⟨by omega, hVl, hVu, hnx ?_⟩ (by repeat (first | exact trivial | refine ⟨rfl, ?_⟩)) (fun w h => h.sub (by repeat (first | exact List.Sublist.refl _ | assumption | apply List.Sublist.cons_cons | apply List.Sublist.cons)))
        rw [hlb, List.all_eq_true]
        exact fun j hj => hcb j (by have := List.mem_range.1 hj; omega)
    · have hie : i = m.lm.length := by omega
      subst hie
      (repeat (first | refine zz ?_ | refine zv fun _ => ?_))
      refine au_done1 rfl ?_
      exact fun w hw => ⟨⟨U, hUl, fun _ => hU⟩, by rw [lim_yes hd hlo], hw.sub (by repeat (first | exact List.Sublist.refl _ | assumption | apply List.Sublist.cons_cons | apply List.Sublist.cons))⟩
end
end Go.Proofs.Ytojfaelafakemaa
