/- Texts joined: SpChP, SpCh, PtJoin3, SpStep, SpNew. Each part's own remark says what it proves. -/
import Derived.Test.YtbgjelhefhcnpaaGreatM23
import Derived.Test.YtbgjelhefhcnpaaGreatM25
import Derived.Test.YtbgjelhefhcnpaaGreatM28
/- The address space of the law in plain Lean: splitting, assembling, unmapping, protecting agree with what it should be. No conditions. -/
set_option linter.unusedSimpArgs false
set_option linter.unusedVariables false
namespace Go.Proofs.YtbgjelhefhcnpaaGreat
open Go Go.RowKit
/-- Another table. -/
def tabY (y : SpSt) (r1 r2 : Row) (N : List ND) (D : List DP) (T : Tr) : SpSt := { y with S := { y.S with vn := r1.v, vd := r2.v }, R := ndS r1 N :: dpS r2 D :: y.R, T := T, ns := N, ds := D }
theorem tab_M {w0 : World} {y : SpSt} (h : StM w0 y) {r1 r2 : Row} {N : List ND} {D : List DP} {T : Tr} (hp : PtOk 0 T N D) : StM w0 (tabY y r1 r2 N D T) :=
  ⟨rd_chunk ⟨0, rfl⟩, rd_chunk ⟨1, rfl⟩, h.b0.cons.cons, h.b1.cons.cons, hp, h.c0, h.c1⟩
theorem tab_A {y : SpSt} (h : StA y) {r1 r2 : Row} {N : List ND} {D : List DP} {T : Tr} (hp : PgInv T y.S.fr y.S.wr) (hf : ∀ f, f ∈ frT 0 T → f ∈ frT 0 y.T) : StA (tabY y r1 r2 N D T) :=
  ⟨hp, h.e0, h.e1, h.nx, fun f hx => h.fs f (hf f hx)⟩
theorem huge_known {root : Int} {T : Tr} (ht : TrOk root T) {fr : Nat → Int} {wr : Nat → Bool} (hI : PgInv T fr wr) {g : Nat} (hg : g < 64) (hd : (decR (pgT T (8 * g)).2).1.d = true) : ∃ a b c, (pgT T (8 * g)).1 = 1 ∧ decR (pgT T (8 * g)).2 = (⟨1, ((8 * g : Nat) : Int), a, b, c, true⟩, 0) := by
  rcases hI.pg (8 * g) (by omega) with ⟨_, e⟩ | ⟨_, e⟩
  · rw [e, dec_zero] at hd; cases hd
  · obtain ⟨b, c, d, h⟩ := e.e
    rw [h] at hd
    have hd : d = true := hd
    subst hd
    have hl := pg_lv ht h rfl
    refine ⟨wr (8 * g), b, c, ?_, ?_⟩
    · rcases hl with ⟨_, x⟩ | ⟨x, _⟩
      · cases x
      · exact x
    · rw [h]
      have : numP true (8 * g) = ((8 * g : Nat) : Int) := by unfold numP; simp only [if_true]; congr 1; omega
      rw [this]
theorem spl_agree {T T' : Tr} {ns' : List ND} {ds' : List DP} {fr : Nat → Int} {wr : Nat → Bool} {g : Nat} (hg : g < 64) {a b c : Bool} (hI : PgInv T fr wr) (hl : (pgT T (8 * g)).1 = 1) (hw : decR (pgT T (8 * g)).2 = (⟨1, ((8 * g : Nat) : Int), a, b, c, true⟩, 0)) (hS : SplOk 0 T T' ns' ds' g 8 ((8 * g : Nat) : Int) a b c) : PgInv T' fr wr := by
  refine ⟨fun q hq => ?_⟩
  rw [hS.at_ q hq]
  by_cases e : q / 8 = g
  · rw [if_pos e]
    have hs := huge_same (p := 8 * g) (q := q) (by omega) hq (by omega) hl
    rcases hI.pg q hq with ⟨_, x⟩ | ⟨x1, x2⟩
    · rw [hs] at x
      rw [x, dec_zero] at hw
      have := congrArg (fun x : Ent × Int => x.1.k) hw
      simp [noEnt] at this
    · obtain ⟨b', c', d', x3⟩ := x2.e
      rw [hs, hw] at x3
      have ha : a = wr q := congrArg (fun x : Ent × Int => x.1.a) x3
      refine .inr ⟨x1, ⟨b, c, false, ?_⟩⟩
      unfold partW
      rw [if_pos (by omega)]
      have ho := huge_ok (decR_zero hw).1 (q % 8) (by omega)
      rw [decR_wrd ho, ← ha]
      have : ((8 * g : Nat) : Int) + ((q % 8 : Nat) : Int) = numP false q := by unfold numP; simp only [Bool.false_eq_true, if_false]; omega
      rw [this]
  · rw [if_neg e]
    exact hI.pg q hq
theorem asm_agree {T T' : Tr} {ns' : List ND} {ds' : List DP} {fr : Nat → Int} {wr : Nat → Bool} {g : Nat} (hg : g < 64) {w n : Int} {a b c : Bool} (hI : PgInv T fr wr) (hj : JoinOk (grpW T g) w n a b c) (hA : AsmOk 0 T T' ns' ds' g w) : PgInv T' fr wr := by
  have key : ∀ i, i < 8 → fr (8 * g + i) = ((8 * g + i : Nat) : Int) ∧ n = ((8 * g : Nat) : Int) ∧ wr (8 * g + i) = a := fun i hi => by
    obtain ⟨j1, j2, j3, j4, j5⟩ := hj.pt i hi
    rw [grp_at T g hi] at j1 j2 j3 j4 j5
    simp only at j1 j2 j3 j4 j5
    rcases hI.pg (8 * g + i) (by omega) with ⟨_, x⟩ | ⟨x1, x2⟩
    · rw [x, dec_zero] at j2
      simp [noEnt] at j2
    · obtain ⟨b', c', d', x3⟩ := x2.e
      rw [x3] at j3 j4 j5
      simp only at j3 j4 j5
      subst j3
      unfold numP at j4
      simp only [Bool.false_eq_true, if_false] at j4
      exact ⟨x1, by omega, j5⟩
  refine ⟨fun q hq => ?_⟩
  rw [hA.at_ q hq]
  by_cases e : q / 8 = g
  · rw [if_pos e]
    obtain ⟨k1, k2, k3⟩ := key (q % 8) (by omega)
    rw [show 8 * g + q % 8 = q by omega] at k1 k3
    refine .inr ⟨k1, ⟨b, c, true, ?_⟩⟩
    rw [hj.dw, k3, k2]
    have : numP true q = ((8 * g : Nat) : Int) := by unfold numP; simp only [if_true]; rw [e]
    rw [this]
  · rw [if_neg e]
    exact hI.pg q hq
theorem clr_agree {root : Int} {T T' : Tr} {ns' : List ND} {ds : List DP} {fr : Nat → Int} {wr : Nat → Bool} {p : Nat} (hI : PgInv T fr wr) (hC : ClrOk root T T' ns' ds p) : PgInv T' (updI fr p (-1)) wr := by
  refine ⟨fun q hq => ?_⟩
  rw [hC.at_ q hq]
  unfold updI
  by_cases e : q = p
  · rw [if_pos e, if_pos e]; exact .inl ⟨rfl, rfl⟩
  · rw [if_neg e, if_neg e]; exact hI.pg q hq
/-- A protected word. -/
theorem prot_word {w n : Int} {a b c d : Bool} (h : decR w = (⟨1, n, a, b, c, d⟩, 0)) : protR w = (wrd ⟨1, n, false, b, c, d⟩, 0) ∧ decR (wrd ⟨1, n, false, b, c, d⟩) = (⟨1, n, false, b, c, d⟩, 0) ∧ 0 ≤ wrd ⟨1, n, false, b, c, d⟩ ∧ wrd ⟨1, n, false, b, c, d⟩ < 18446744073709551616 := by
  obtain ⟨h1, h2⟩ := decR_zero h
  have ho : okE ⟨1, n, false, b, c, d⟩ := ok_page h1
  have hr := wrd_rng ho
  refine ⟨?_, decR_wrd ho, hr.1, by omega⟩
  have e1 : bits .andNot .u64 w 8 = wrd ⟨1, n, false, b, c, d⟩ := by rw [h2]; exact w_prot h1
  unfold protR
  rw [h]
  simp only [if_neg (show ¬ (0 : Int) ≠ 0 by decide), e1]
  rw [if_neg (fun x => x.1 rfl)]
theorem prot_agree {root : Int} {T T' : Tr} {ns' : List ND} {ds : List DP} {fr : Nat → Int} {wr : Nat → Bool} {p : Nat} {b c : Bool} {m : Int} (hI : PgInv T fr wr) (hf : fr p = (p : Int)) (hm : decR m = (⟨1, numP false p, false, b, c, false⟩, 0)) (hP : PutOk root T T' ns' ds p 0 m) : PgInv T' fr (updB wr p false) := by
  refine ⟨fun q hq => ?_⟩
  rw [hP.at_ q hq]
  unfold updB
  by_cases e : q = p
  · subst e
    rw [if_pos ⟨rfl, fun _ => rfl⟩, if_pos rfl]
    exact .inr ⟨hf, ⟨b, c, false, hm⟩⟩
  · rw [if_neg (fun x => e (x.2 rfl)), if_neg e]
    exact hI.pg q hq
theorem inv_no {l : List TE} {p : Nat} {x : TE} (h : x ∈ invL l 3 (p : Int)) : x ∈ l ∧ covM x 3 (p : Int) = false := by
  unfold invL at h
  have := List.mem_filter.1 h
  exact ⟨this.1, by simpa using this.2⟩
/-- Words at level 0 are no huge pages. -/
theorem lv0_d {root : Int} {T : Tr} (ht : TrOk root T) {fr : Nat → Int} {wr : Nat → Bool} (hI : PgInv T fr wr) {q : Nat} (hq : q < 512) (hl : (pgT T q).1 = 0) : (decR (pgT T q).2).1.d = false := by
  rcases hI.pg q hq with ⟨_, e⟩ | ⟨_, e⟩
  · rw [e, dec_zero]; rfl
  · obtain ⟨b, c, d, h⟩ := e.e
    rcases pg_lv ht h rfl with ⟨_, x⟩ | ⟨x, _⟩
    · rw [h]; exact x
    · omega
end Go.Proofs.YtbgjelhefhcnpaaGreat

/- The walk of the law's change. No conditions. -/
set_option linter.unusedSimpArgs false
set_option linter.unusedVariables false
namespace Go.Proofs.YtbgjelhefhcnpaaGreat
open Go Go.RowKit
structure ChR (w0 : World) (y y' : SpSt) (p : Nat) (pr : Bool) : Prop where
  m : StM w0 y'
  a : StA y'
  r : y.R.Sublist y'.R
  wd : pr = true → ∀ q, q < 512 → q / 8 = p / 8 → (decR (pgT y'.T q).2).1.d = false
  nx : y'.S.nx ≤ y.S.nx + 2
/-- Behind the splitting. -/
structure Ch1 (w0 : World) (y y' : SpSt) (p : Nat) : Prop where
  m : StM w0 y'
  a : StA y'
  r : y.R.Sublist y'.R
  s : y'.S.fr = y.S.fr ∧ y'.S.wr = y.S.wr ∧ y'.S.nx = y.S.nx ∧ y'.S.z = y.S.z
  lv : ∀ q, q < 512 → q / 8 = p / 8 → (pgT y'.T q).1 = 0
theorem huge_not {root : Int} {T : Tr} (ht : TrOk root T) {fr : Nat → Int} {wr : Nat → Bool} (hI : PgInv T fr wr) {p : Nat} (hp : p < 512) (hf : fr p = (p : Int)) (hd : (decR (pgT T (8 * (p / 8))).2).1.d = false) : ∀ q, q < 512 → q / 8 = p / 8 → (pgT T q).1 = 0 := fun q hq hqp => by
  rcases hI.pg p hp with ⟨e, _⟩ | ⟨_, e⟩
  · omega
  · obtain ⟨b, c, d, h⟩ := e.e
    rcases pg_lv ht h rfl with ⟨x, _⟩ | ⟨x, y⟩
    · rw [lv_group T hp hq hqp]; exact x
    · have hs := huge_same (p := p) (q := 8 * (p / 8)) hp (by omega) (by omega) x
      rw [hs, h] at hd
      simp only at hd y
      rw [y] at hd; cases hd
attribute [local irreducible] spL invL setT tlbAt decR newW pgT endP nxL accE accF protR
attribute [local irreducible] Code.wp wpList bodyPost Exit.then Exit.inBlock Calls wpQuiet Tri TriQ
section
variable (w0 : World)
set_option maxHeartbeats 8000000 in
theorem spch_c {g : Nat} {y : SpSt} (h : StM w0 y) (ha : StA y) {p : Nat} (hp : p < 512) (hfr : y.S.fr p = (p : Int)) (pr : Bool) : Cal Tryz.prog 13 [pR g, .int .i64 (p : Int), .bool pr] (stH w0 g y) (fun _ : {y' : SpSt // ChR w0 y y' p pr} => .bool true) (fun y' => stH w0 g y'.1) := by
  have hg : p / 8 < 64 := by omega
  have hhu := huge_known h.pt.t ha.pg hg
  have hhn := huge_not h.pt.t ha.pg hp hfr
  have hend := end_pg 0 y.T (8 * (p / 8))
  have hrg := pg_rng h.pt.t (8 * (p / 8))
  refine cal_of_tri Tryz.func13 rfl Tryz.ntmps13 rfl ?_
  (repeat (first | refine tri_seq ?_ | refine tri_then ?_)); refine tri_region ?_; (repeat (first | refine au_pure ?_ | refine au_pass ?_ | refine au_box (fun _ => ?_) | refine au_alloc (fun _ => ?_) | refine au_store ?_ | refine au_make rfl rfl (fun _ => ?_) | refine au_lit rfl rfl rfl (fun _ => ?_) | refine au_append rfl rfl rfl rfl (fun _ => au_norm ?_) | refine au_storeE rfl rfl rfl rfl ?_)); refine tri_nil ?_; (repeat refine tri_then ?_)
  refine tri_seq ?_
  refine tri_cut1 (fun y1 : SpSt => Ch1 w0 y y1 p) (fun _ => [(0, pR g), (1, .int .i64 (p : Int)), (2, .bool pr)]) (fun y1 => stH w0 g y1) ?_ ?_
  · (repeat (first | refine zz ?_ | refine zv fun _ => ?_))
    refine au_pure ?_ (hy := yl_spTab (g := g) (S := y.S) rfl rfl (has_at at0))
    (repeat (first | refine zz ?_ | refine zv fun _ => ?_))
    refine au_pure ?_ (hy := yl_quon rfl rfl rfl (by omega))
    rw [show (p : Int) / 8 = ((p / 8 : Nat) : Int) by omega]
    (repeat (first | refine zz ?_ | refine zv fun _ => ?_))
    refine au_callC rfl rfl rfl rfl rfl (Huge_c w0 _ (vn := y.S.vn) (vd := y.S.vd) h.pt h.n.cons h.d.cons hg) (fun _ => ?_)
    rw [hend]
    cases hd : (decR (pgT y.T (8 * (p / 8))).2).1.d with
    | false =>
      (repeat (first | refine zz ?_ | refine zv fun _ => ?_))
      exact tri_mt1 y ⟨h, ha, List.Sublist.refl _, ⟨rfl, rfl, rfl, rfl⟩, hhn hd⟩ (by repeat (first | exact trivial | refine ⟨rfl, ?_⟩)) (fun w h => h)
    | true =>
      obtain ⟨a, b, c, hl, hw⟩ := hhu hd
      obtain ⟨o, ho⟩ : ∃ o, o = (pgT y.T (8 * (p / 8))).2 := ⟨_, rfl⟩
      have hpt : pgT y.T (8 * (p / 8)) = (1, o) := by rw [ho, ← hl]
      have hw' := hw
      rw [← ho] at hw' hrg
      (repeat (first | refine zz ?_ | refine zv fun _ => ?_))
      refine au_pure ?_ (hy := yl_spTab (g := g) (S := y.S) rfl rfl (has_at at0))
      (repeat (first | refine zz ?_ | refine zv fun _ => ?_))
      refine au_pure ?_ (hy := yl_quon rfl rfl rfl (by omega))
      rw [show (p : Int) / 8 = ((p / 8 : Nat) : Int) by omega]
      (repeat (first | refine zz ?_ | refine zv fun _ => ?_))
      refine au_callC rfl rfl rfl rfl rfl (Split_c w0 _ (vn := y.S.vn) (vd := y.S.vd) h.pt h.n.cons h.d.cons hg hpt hw' hrg) ?_
      rintro ⟨⟨r1, r2, N, D, T1⟩, hS⟩
      have hpg := spl_agree hg ha.pg hl hw hS
      have hC1 : Ch1 w0 y (tabY y r1 r2 N D T1) p := ⟨tab_M h hS.ok, tab_A ha hpg hS.fr, List.Sublist.cons _ (List.Sublist.cons _ (List.Sublist.refl _)), ⟨rfl, rfl, rfl, rfl⟩, hS.lv⟩
      (repeat (first | refine zz ?_ | refine zv fun _ => ?_))
      rename_i g7
      refine tri_weak (H' := Hp w0 (ptC g7 0 r1.v r2.v :: ndS r1 N :: dpS r2 D :: spB g y.S :: y.R)) (fun w h => h) ?_
      refine tri_spTab (i := 3) (g := g) (S := y.S) (vn := r1.v) (vd := r2.v) rfl rfl rfl rfl (by repeat (first | exact nf0 rfl | apply nfS rfl | exact nfR)) ?_
      (repeat (first | refine zz ?_ | refine zv fun _ => ?_))
      exact tri_mt1 (tabY y r1 r2 N D T1) hC1 (by repeat (first | exact trivial | refine ⟨rfl, ?_⟩)) (fun w h => (HpM.tail h).perm ((List.Perm.cons _ (List.Perm.swap _ _ _)).trans (List.Perm.swap _ _ _)))
  · rintro y1 ⟨m1, a1, s1, ⟨f1, f2, f3, f4⟩, l1⟩
    have hfr1 : y1.S.fr p = (p : Int) := by rw [f1]; exact hfr
    have hl0 := l1 p hp rfl
    obtain ⟨o, ho⟩ : ∃ o, o = (pgT y1.T p).2 := ⟨_, rfl⟩
    have hpt : pgT y1.T p = (0, o) := by rw [ho, ← hl0]
    have hup : PgUp o p (y1.S.wr p) := by
      rcases a1.pg.pg p hp with ⟨e, _⟩ | ⟨_, e⟩
      · omega
      · rw [ho]; exact e
    have hne := up_ne hup
    have hrg1 := pg_rng m1.pt.t p
    rw [← ho] at hrg1
    cases pr with
    | false =>
      (repeat (first | refine zz ?_ | refine zv fun _ => ?_))
      refine au_pure ?_ (hy := yl_spTab (g := g) (S := y1.S) rfl rfl (has_at at0))
      (repeat (first | refine zz ?_ | refine zv fun _ => ?_))
      refine au_callC rfl rfl rfl rfl rfl (Clear_c w0 _ (vn := y1.S.vn) (vd := y1.S.vd) m1.pt m1.n.cons m1.d.cons hp hpt hne) ?_
      rintro ⟨⟨r1, r2, rf, N, T2⟩, hC⟩
      (repeat (first | refine zz ?_ | refine zv fun _ => ?_))
      rename_i g9
      refine tri_weak (H' := Hp w0 (ptC g9 0 r1.v r2.v :: ndS r1 N :: dpS r2 y1.ds :: spB g y1.S :: y1.R)) (fun w h => h) ?_
      (repeat (first | refine tri_seq ?_ | refine tri_then ?_))
      refine ar_held [] (ptC g9 0 r1.v r2.v :: ndS r1 N :: dpS r2 y1.ds :: y1.R) rfl ?_
      refine ar_take 0 rfl rfl rfl ?_; refine ar_take 1 rfl rfl rfl ?_; refine ar_take 2 rfl rfl rfl ?_; refine ar_take 3 rfl rfl rfl ?_; refine ar_take 4 rfl rfl rfl ?_; refine ar_take 5 rfl rfl rfl ?_; refine ar_take 7 rfl rfl rfl ?_; refine ar_take 8 rfl rfl rfl ?_
      refine ar_op 6 rfl ?_
      refine tri_spTab (i := 3) (g := g) (S := y1.S) (vn := r1.v) (vd := r2.v) rfl rfl rfl rfl (by repeat (first | exact nf0 rfl | apply nfS rfl | exact nfR)) ?_
      refine tri_nil ?_; refine ar_in ?_
      refine ar_take 9 rfl rfl rfl ?_ (hy := yl_idxA rfl rfl (ix_nat rfl) hp)
      refine ar_op 10 rfl ?_
      refine tri_spFr (i := 3) (g := g) (S := { y1.S with vn := r1.v, vd := r2.v }) (p := p) (k := -1) rfl rfl rfl hp rfl (by repeat (first | exact nf0 rfl | apply nfS rfl | exact nfR)) ?_
      refine tri_nil ?_; refine ar_in ?_
      refine ar_done ?_
      obtain ⟨y2, hy2⟩ : ∃ y2 : SpSt, y2 = { tabY y1 r1 r2 N y1.ds T2 with S := { y1.S with vn := r1.v, vd := r2.v, fr := updI y1.S.fr p (-1) } } := ⟨_, rfl⟩
      have hM2 : StM w0 y2 := by
        have := tab_M m1 (r1 := r1) (r2 := r2) hC.ok
        rw [hy2]
        exact ⟨this.n, this.d, this.b0, this.b1, this.pt, this.c0, this.c1⟩
      refine tri_weak (H' := stH w0 g y2) (fun w h => by
        rw [hy2]
        exact (HpM.tail h).perm ((List.Perm.cons _ (List.Perm.swap _ _ _)).trans (List.Perm.swap _ _ _))) ?_
      (repeat (first | refine zz ?_ | refine zv fun _ => ?_))
      refine au_callC rfl rfl rfl rfl rfl (flush_c w0 (g := g) (y := y2) hM2 hp) ?_
      rintro ⟨y3, hF⟩
      obtain ⟨t1, t2, t3⟩ := hF.t
      obtain ⟨e1, e2, e3, e4⟩ := hF.s
      have hcov : ∀ x, CEnt y1.S.fr y1.S.wr x → covM x 3 (p : Int) = false → CEnt y3.S.fr y3.S.wr x := fun x hx hn => by
        rw [e1, e2, hy2]
        exact ce_upd (p := p) (fun q hq => if_neg hq) (fun q hq => rfl) hx hn
      have hA3 : StA y3 := by
        refine ⟨?_, fun x hx => ?_, fun x hx => ?_, ?_, fun f hf => ?_⟩
        · rw [t1, e1, e2, hy2]
          exact clr_agree a1.pg hC
        · rw [hF.l0, hy2] at hx
          have := inv_no hx
          exact hcov x (a1.e0 x this.1) this.2
        · rw [hF.l1, hy2] at hx
          have := inv_no hx
          exact hcov x (a1.e1 x this.1) this.2
        · rw [e3, hy2]; exact a1.nx
        · rw [e3, hy2]
          rw [t1, hy2] at hf
          exact a1.fs f (hC.fr f hf)
      have hR3 : ChR w0 y y3 p false := ⟨hF.m, hA3, s1.trans ((List.Sublist.cons _ (List.Sublist.cons _ (List.Sublist.refl _))).trans (by have := hF.r; rw [hy2] at this; exact this)), (fun x => by cases x), by rw [e3, hy2]; show y1.S.nx ≤ _; omega⟩
      (repeat (first | refine zz ?_ | refine zv fun _ => ?_))
      refine au_done1 rfl ?_
      exact fun w hw => ⟨⟨y3, hR3⟩, rfl, hw⟩
    | true =>
      obtain ⟨b, c, d, hdw⟩ := hup.e
      have hd0 : d = false := by
        rcases pg_lv m1.pt.t (p := p) (e := ⟨1, numP d p, y1.S.wr p, b, c, d⟩) (by rw [← ho]; exact hdw) rfl with ⟨_, x⟩ | ⟨x, _⟩
        · exact x
        · omega
      subst hd0
      obtain ⟨k1, k2, k3, k4⟩ := prot_word hdw
      obtain ⟨m, hm⟩ : ∃ m, m = wrd ⟨1, numP false p, false, b, c, false⟩ := ⟨_, rfl⟩
      rw [← hm] at k1 k2 k3 k4
      have hend1 := end_pg 0 y1.T p
      (repeat (first | refine zz ?_ | refine zv fun _ => ?_))
      refine au_pure ?_ (hy := yl_spTab (g := g) (S := y1.S) rfl rfl (has_at at0))
      (repeat (first | refine zz ?_ | refine zv fun _ => ?_))
      refine au_callC rfl rfl rfl rfl rfl (Walk_c w0 _ (vn := y1.S.vn) (vd := y1.S.vd) m1.pt m1.n.cons m1.d.cons hp) (fun _ => ?_)
      rw [hend1, ← ho]
      (repeat (first | refine zz ?_ | refine zv fun _ => ?_))
      refine au_call rfl rfl (cl_of rfl rfl rfl (fun _ h => Ret.hp (prot_at _ hrg1.1 hrg1.2 k1) h)) ?_
      (repeat (first | refine zz ?_ | refine zv fun _ => ?_))
      refine au_pure ?_ (hy := yl_spTab (g := g) (S := y1.S) rfl rfl (has_at at0))
      (repeat (first | refine zz ?_ | refine zv fun _ => ?_))
      refine au_callC rfl rfl rfl rfl rfl (Replace_c w0 _ (vn := y1.S.vn) (vd := y1.S.vd) m1.pt m1.n.cons m1.d.cons hp hpt hne k2 ⟨k3, k4⟩ (.inl ⟨rfl, rfl⟩)) ?_
      rintro ⟨⟨r1, r2, N, T2⟩, hP⟩
      (repeat (first | refine zz ?_ | refine zv fun _ => ?_))
      rename_i g18
      refine tri_weak (H' := Hp w0 (ptC g18 0 r1.v r2.v :: ndS r1 N :: dpS r2 y1.ds :: spB g y1.S :: y1.R)) (fun w h => h) ?_
      (repeat (first | refine tri_seq ?_ | refine tri_then ?_))
      refine ar_held [] (ptC g18 0 r1.v r2.v :: ndS r1 N :: dpS r2 y1.ds :: y1.R) rfl ?_
      refine ar_take 0 rfl rfl rfl ?_; refine ar_take 1 rfl rfl rfl ?_; refine ar_take 2 rfl rfl rfl ?_; refine ar_take 3 rfl rfl rfl ?_; refine ar_take 4 rfl rfl rfl ?_; refine ar_take 5 rfl rfl rfl ?_; refine ar_take 7 rfl rfl rfl ?_; refine ar_take 8 rfl rfl rfl ?_
      refine ar_op 6 rfl ?_
      refine tri_spTab (i := 3) (g := g) (S := y1.S) (vn := r1.v) (vd := r2.v) rfl rfl rfl rfl (by repeat (first | exact nf0 rfl | apply nfS rfl | exact nfR)) ?_
      refine tri_nil ?_; refine ar_in ?_
      refine ar_take 9 rfl rfl rfl ?_ (hy := yl_idxA rfl rfl (ix_nat rfl) hp)
      refine ar_op 10 rfl ?_
      refine tri_spWr (i := 3) (g := g) (S := { y1.S with vn := r1.v, vd := r2.v }) (p := p) (b := false) rfl rfl rfl hp rfl (by repeat (first | exact nf0 rfl | apply nfS rfl | exact nfR)) ?_
      refine tri_nil ?_; refine ar_in ?_
      refine ar_done ?_
      obtain ⟨y2, hy2⟩ : ∃ y2 : SpSt, y2 = { tabY y1 r1 r2 N y1.ds T2 with S := { y1.S with vn := r1.v, vd := r2.v, wr := updB y1.S.wr p false } } := ⟨_, rfl⟩
      have hM2 : StM w0 y2 := by
        have := tab_M m1 (r1 := r1) (r2 := r2) hP.ok
        rw [hy2]
        exact ⟨this.n, this.d, this.b0, this.b1, this.pt, this.c0, this.c1⟩
      refine tri_weak (H' := stH w0 g y2) (fun w h => by
        rw [hy2]
        exact (HpM.tail h).perm ((List.Perm.cons _ (List.Perm.swap _ _ _)).trans (List.Perm.swap _ _ _))) ?_
      (repeat (first | refine zz ?_ | refine zv fun _ => ?_))
      refine au_callC rfl rfl rfl rfl rfl (flush_c w0 (g := g) (y := y2) hM2 hp) ?_
      rintro ⟨y3, hF⟩
      obtain ⟨t1, t2, t3⟩ := hF.t
      obtain ⟨e1, e2, e3, e4⟩ := hF.s
      have hcov : ∀ x, CEnt y1.S.fr y1.S.wr x → covM x 3 (p : Int) = false → CEnt y3.S.fr y3.S.wr x := fun x hx hn => by
        rw [e1, e2, hy2]
        exact ce_upd (p := p) (fun q hq => rfl) (fun q hq => if_neg hq) hx hn
      have hpg3 : PgInv y3.T y3.S.fr y3.S.wr := by
        rw [t1, e1, e2, hy2]
        exact prot_agree a1.pg hfr1 k2 hP
      have hA3 : StA y3 := by
        refine ⟨hpg3, fun x hx => ?_, fun x hx => ?_, ?_, fun f hf => ?_⟩
        · rw [hF.l0, hy2] at hx
          have := inv_no hx
          exact hcov x (a1.e0 x this.1) this.2
        · rw [hF.l1, hy2] at hx
          have := inv_no hx
          exact hcov x (a1.e1 x this.1) this.2
        · rw [e3, hy2]; exact a1.nx
        · rw [e3, hy2]
          rw [t1, hy2] at hf
          exact a1.fs f (hP.fr.mem_iff.1 hf)
      have hR3 : ChR w0 y y3 p true := by
        refine ⟨hF.m, hA3, s1.trans ((List.Sublist.cons _ (List.Sublist.cons _ (List.Sublist.refl _))).trans (by have := hF.r; rw [hy2] at this; exact this)), fun _ q hq hqp => ?_, by rw [e3, hy2]; show y1.S.nx ≤ _; omega⟩
        refine lv0_d hF.m.pt.t hpg3 hq ?_
        rw [t1, hy2]
        show (pgT T2 q).1 = 0
        rw [hP.at_ q hq]
        split
        · rfl
        · exact l1 q hq hqp
      (repeat (first | refine zz ?_ | refine zv fun _ => ?_))
      refine au_done1 rfl ?_
      exact fun w hw => ⟨⟨y3, hR3⟩, rfl, hw⟩
end
end Go.Proofs.YtbgjelhefhcnpaaGreat

/- Joined words of a huge page's parts. No conditions. -/
set_option linter.unusedSimpArgs false
set_option linter.unusedVariables false
namespace Go.Proofs.YtbgjelhefhcnpaaGreat
open Go Go.RowKit
theorem huge_join {x n : Int} {a b c : Bool} (h : decR x = (⟨1, n, a, b, c, true⟩, 0)) {ws : List W64} (hl : ws.length = 8) (hw : ∀ j, j < 8 → ws.getD j default = ⟨wrd ⟨1, n + (j : Int), a, b, c, false⟩⟩) : joinM ws = (x, 0) := by
  have ho := (decR_zero h).1
  have hd : ∀ j, j < 8 → decAt ws j = (⟨1, n + (j : Int), a, b, c, false⟩, 0) := fun j hj => by
    rw [decAt, hw j hj]
    exact decR_wrd (huge_ok ho j hj)
  obtain ⟨es, hes⟩ : ∃ es, es = ws.map fun x => (decR x.v).1 := ⟨_, rfl⟩
  have hel : es.length = 8 := by rw [hes, List.length_map, hl]
  have hg : ∀ j, j < 8 → es.getD j default = ⟨1, n + (j : Int), a, b, c, false⟩ := fun j hj => by
    rw [hes, getD_get (by rw [List.length_map]; omega), List.getElem_map, ← getD_get (by omega)]
    show (decAt ws j).1 = _
    rw [hd j hj]
  have hg0 : es.getD 0 default = ⟨1, n, a, b, c, false⟩ := by
    have := hg 0 (by omega)
    simpa using this
  rw [joinM, if_pos (errF_no 8 0 fun j _ hj => by rw [hd j (by omega)]), ← hes, joinE]
  have e1 : es.any badE = false := getD_any.2 fun j hj => by rw [hg j (by omega)]; rfl
  have e2 : (List.range 8).any (fun j => decide (¬ (es.getD j default).n = (es.getD 0 default).n + (j : Int))) = false := by
    rw [List.any_eq_false]
    intro j hj
    have := List.mem_range.1 hj
    rw [hg j this, hg0]
    simp
  have e3 : es.any (fun e => e.a != (es.getD 0 default).a) = false := getD_any.2 fun j hj => by rw [hg j (by omega), hg0]; simp
  have e4 : es.any (·.b) = b := by
    cases b
    · exact getD_any.2 fun j hj => by rw [hg j (by omega)]
    · exact any_some (k := 0) (by omega) (by rw [hg0])
  have e5 : es.any (·.c) = c := by
    cases c
    · exact getD_any.2 fun j hj => by rw [hg j (by omega)]
    · exact any_some (k := 0) (by omega) (by rw [hg0])
  rw [e1, e2, e3, e4, e5, hg0]
  exact inv_dec h
end Go.Proofs.YtbgjelhefhcnpaaGreat

/- The walk of the law's step. No conditions. -/
set_option linter.unusedSimpArgs false
set_option linter.unusedVariables false
namespace Go.Proofs.YtbgjelhefhcnpaaGreat
open Go Go.RowKit
/-- An operation. -/
structure PO where
  k : Int
  p : Int
  c : Int
  deriving DecidableEq
/-- The fields are of their types. -/
structure POk (o : PO) : Prop where
  k : 0 ≤ o.k ∧ o.k ≤ 255
  p : 0 ≤ o.p ∧ o.p ≤ 65535
  c : 0 ≤ o.c ∧ o.c ≤ 255
abbrev poV (o : PO) : Value := .agg #[.int .u8 o.k, .int .u16 o.p, .int .u8 o.c]
abbrev poC (g : Nat) (o : PO) : Chunk := blkC g 29 [.int .u8 o.k, .int .u16 o.p, .int .u8 o.c]
/-- The page of an operation. -/
def pgO (o : PO) : Nat := (o.p % 512).toNat
/-- What a step does to the words. -/
structure StepW (o : PO) (T T' : Tr) : Prop where
  k0 : o.k % 6 = 0 → (pgT T (pgO o)).2 = 0 → ∀ q, q < 512 → (pgT T' q).2 = if q = pgO o then newW (pgO o) else (pgT T q).2
  k2 : o.k % 6 = 2 → (pgT T (pgO o)).2 ≠ 0 → ∀ q, q < 512 → q / 8 = pgO o / 8 → (decR (pgT T' q).2).1.d = false
  k3 : o.k % 6 = 3 ∨ o.k % 6 = 4 → ∀ q, q < 512 → (decR (pgT T' q).2).1.d = (decR (pgT T q).2).1.d
  k5 : o.k % 6 = 5 → (∀ i, i < 8 → (pgT T (8 * (pgO o / 8) + i)).2 = newW (8 * (pgO o / 8) + i)) → (decR (pgT T' (8 * (pgO o / 8))).2).1.d = true
structure StepR (w0 : World) (y y' : SpSt) (o : PO) : Prop where
  m : StM w0 y'
  a : StA y'
  r : y.R.Sublist y'.R
  nx : y'.S.nx ≤ y.S.nx + 2
  w : StepW o y.T y'.T
theorem asm_known {root : Int} {T : Tr} (ht : TrOk root T) {fr : Nat → Int} {wr : Nat → Bool} (hI : PgInv T fr wr) {g : Nat} (hg : g < 64) (hw : ∀ i, i < 8 → (pgT T (8 * g + i)).2 = newW (8 * g + i)) : (pgT T (8 * g)).1 = 0 ∧ ∃ x, joinM (grpW T g) = (x, 0) := by
  have hok : okE ⟨1, ((8 * g : Nat) : Int), true, false, false, true⟩ := ⟨by simp, by simp, by unfold rngB; simp; omega, rfl⟩
  constructor
  · have h0 := hw 0 (by decide)
    rw [Nat.add_zero] at h0
    have hd : decR (pgT T (8 * g)).2 = (⟨1, ((8 * g : Nat) : Int), true, false, false, false⟩, 0) := by rw [h0]; exact newW_dec (by omega)
    rcases pg_lv ht hd rfl with ⟨x, _⟩ | ⟨_, x⟩
    · exact x
    · cases x
  · refine ⟨_, huge_join (decR_wrd hok) (grp_len T g) fun j hj => ?_⟩
    rw [grp_at T g hj, hw j hj]
    unfold newW
    rw [show ((8 * g + j : Nat) : Int) = ((8 * g : Nat) : Int) + (j : Int) by omega]
attribute [local irreducible] spL invL setT tlbAt decR newW pgT endP nxL accE accF protR joinM grpW pgO
attribute [local irreducible] Code.wp wpList bodyPost Exit.then Exit.inBlock Calls wpQuiet Tri TriQ
section
variable (w0 : World)
set_option maxHeartbeats 8000000 in
theorem spstep_c {g : Nat} {y : SpSt} (h : StM w0 y) (ha : StA y) (hnx : y.S.nx ≤ 100000) {o : PO} (ho : POk o) : Cal Tryz.prog 6 [pR g, poV o] (stH w0 g y) (fun _ : {y' : SpSt // StepR w0 y y' o} => .bool true) (fun y' => stH w0 g y'.1) := by
  obtain ⟨k1, k2⟩ := ho.k
  obtain ⟨p1, p2⟩ := ho.p
  obtain ⟨u1, u2⟩ := ho.c
  obtain ⟨p, hpd⟩ : ∃ p, p = pgO o := ⟨_, rfl⟩
  have hpe : o.p % 512 = (p : Int) := by rw [hpd]; unfold pgO; omega
  have hp : p < 512 := by omega
  obtain ⟨i, hie⟩ : ∃ i : Nat, o.c % 2 = (i : Int) := ⟨(o.c % 2).toNat, by omega⟩
  have hi : i < 2 := by omega
  obtain ⟨kk, hkk⟩ : ∃ kk, o.k % 6 = kk := ⟨_, rfl⟩
  have hk6 : kk = 0 ∨ kk = 1 ∨ kk = 2 ∨ kk = 3 ∨ kk = 4 ∨ kk = 5 := by omega
  refine cal_of_tri Tryz.func6 rfl Tryz.ntmps6 rfl ?_
  (repeat (first | refine tri_seq ?_ | refine tri_then ?_)); refine tri_region ?_; (repeat (first | refine au_pure ?_ | refine au_pass ?_ | refine au_box (fun _ => ?_) | refine au_alloc (fun _ => ?_) | refine au_store ?_ | refine au_make rfl rfl (fun _ => ?_) | refine au_lit rfl rfl rfl (fun _ => ?_) | refine au_append rfl rfl rfl rfl (fun _ => au_norm ?_) | refine au_storeE rfl rfl rfl rfl ?_)); refine tri_nil ?_; (repeat refine tri_then ?_)
  rename_i g3
  obtain ⟨y1, hy1⟩ : ∃ y1 : SpSt, y1 = { y with R := poC g3 o :: y.R } := ⟨_, rfl⟩
  have m1 : StM w0 y1 := by rw [hy1]; exact ⟨h.n.cons, h.d.cons, h.b0.cons, h.b1.cons, h.pt, h.c0, h.c1⟩
  have a1 : StA y1 := by rw [hy1]; exact ⟨ha.pg, ha.e0, ha.e1, ha.nx, ha.fs⟩
  have hr1 : y.R.Sublist y1.R := by rw [hy1]; exact List.Sublist.cons _ (List.Sublist.refl _)
  have hnx1 : y1.S.nx = y.S.nx := by rw [hy1]
  have hT1 : y1.T = y.T := by rw [hy1]
  obtain ⟨R1, hR1⟩ : ∃ R1, R1 = y1.R := ⟨_, rfl⟩
  have hR1e : y1.R = poC g3 o :: y.R := by rw [hy1]
  have hid : kk ≠ 5 → (kk = 0 → (pgT y1.T p).2 ≠ 0) → (kk = 2 → (pgT y1.T p).2 = 0) → StepR w0 y y1 o := fun hk h0 h2 => by
    rw [hT1] at h0 h2
    refine ⟨m1, a1, hr1, by omega, ⟨fun e e2 => ?_, fun e e2 => ?_, fun _ q _ => by rw [hT1], fun e => ?_⟩⟩
    · rw [← hpd] at e2; exact absurd e2 (h0 (by omega))
    · rw [← hpd] at e2; exact absurd (h2 (by omega)) e2
    · omega
  refine tri_weak (H' := Hp w0 (spB g y1.S :: poC g3 o :: y.R)) (fun w h => by rw [hy1]; exact HpM.perm h (List.Perm.swap _ _ _)) ?_
  have hin : ∀ w, Hp w0 (spB g y1.S :: poC g3 o :: y.R) w → stH w0 g y1 w := fun w h => by show Hp w0 (spB g y1.S :: y1.R) w; rw [hR1e]; exact h
  (repeat (first | refine tri_seq ?_ | refine tri_then ?_))
  refine au_draw rfl ?_
  (repeat (first | refine z1 ?_ | refine au_qpass rfl rfl ?_ | refine triq_nil ?_))
  refine au_qpure rfl rfl ?_ (hy := yl_convn rfl rfl (by omega))
  refine au_qpure rfl rfl ?_ (hy := yl_remn rfl rfl rfl (by omega))
  (repeat (first | refine z1 ?_ | refine au_qpass rfl rfl ?_ | refine triq_nil ?_))
  refine au_qpure rfl rfl ?_ (hy := yl_convn rfl rfl (by omega))
  refine au_qpure rfl rfl ?_ (hy := yl_remn rfl rfl rfl (by omega))
  rw [hpe, hie]
  (repeat (first | refine z1 ?_ | refine au_qpass rfl rfl ?_ | refine triq_nil ?_))
  (repeat (first | refine zz ?_ | refine zv fun _ => ?_))
  refine au_pure ?_ (hy := yl_remn rfl rfl rfl (by omega))
  rw [hkk]
  (repeat (first | refine zz ?_ | refine zv fun _ => ?_))
  refine tri_block ?_
  have hpg := a1.pg.pg p hp
  rcases hk6 with rfl | hk6
  · (repeat (first | refine zz ?_ | refine zv fun _ => ?_))
    refine au_pure ?_ (hy := yl_idxA rfl rfl (ix_nat rfl) hp)
    refine au_pure ?_ (hy := yl_spFr (g := g) (S := y1.S) rfl rfl (has_at at0) hp)
    (repeat (first | refine zz ?_ | refine zv fun _ => ?_))
    rcases hpg with ⟨e, ew⟩ | ⟨e, up⟩
    · rw [e]
      (repeat (first | refine zz ?_ | refine zv fun _ => ?_))
      refine tri_weak (H' := stH w0 g y1) hin ?_
      refine au_callC rfl rfl rfl rfl rfl (spset_c w0 (g := g) m1 a1 hp e (by omega)) ?_
      rintro ⟨y2, hR⟩
      have hst : StepR w0 y y2 o := by
        refine ⟨hR.m, hR.a, hr1.trans hR.r, by have := hR.nx; omega, ⟨fun _ _ q hq => ?_, fun e => by omega, fun e => by omega, fun e => by omega⟩⟩
        rw [hR.wd q hq, hT1, hpd]
      (repeat (first | refine zz ?_ | refine zv fun _ => ?_))
      refine au_done1 rfl ?_
      exact fun w hw => ⟨⟨y2, hst⟩, rfl, hw⟩
    · rw [e, show decide ((p : Int) ≥ 0) = true from decide_eq_true (by omega)]
      (repeat (first | refine zz ?_ | refine zv fun _ => ?_))
      refine au_done1 rfl ?_
      exact fun w hw => ⟨⟨y1, hid (by decide) (fun _ => up_ne up) (fun x => by cases x)⟩, rfl, hin w hw⟩
  rcases hk6 with rfl | rfl | rfl | rfl | rfl
  · (repeat (first | refine zz ?_ | refine zv fun _ => ?_))
    refine au_pure ?_ (hy := yl_idxA rfl rfl (ix_nat rfl) hp)
    refine au_pure ?_ (hy := yl_spFr (g := g) (S := y1.S) rfl rfl (has_at at0) hp)
    (repeat (first | refine zz ?_ | refine zv fun _ => ?_))
    rcases hpg with ⟨e, ew⟩ | ⟨e, up⟩
    · rw [e]
      (repeat (first | refine zz ?_ | refine zv fun _ => ?_))
      refine au_done1 rfl ?_
      exact fun w hw => ⟨⟨y1, hid (by decide) (fun x => by cases x) (fun _ => ew)⟩, rfl, hin w hw⟩
    · rw [e, show decide ((p : Int) < 0) = false from decide_eq_false (by omega)]
      (repeat (first | refine zz ?_ | refine zv fun _ => ?_))
      refine au_pure ?_ (hy := yl_remn rfl rfl rfl (by omega))
      rw [hkk]
      (repeat (first | refine zz ?_ | refine zv fun _ => ?_))
      refine tri_weak (H' := stH w0 g y1) hin ?_
      refine au_callC rfl rfl rfl rfl rfl (spch_c w0 (g := g) m1 a1 hp e false) ?_
      rintro ⟨y2, hR⟩
      have hst : StepR w0 y y2 o := by
        refine ⟨hR.m, hR.a, hr1.trans hR.r, by have := hR.nx; omega, ⟨fun e => by omega, fun e _ q hq hqp => ?_, fun e => by omega, fun e => by omega⟩⟩
        omega
      (repeat (first | refine zz ?_ | refine zv fun _ => ?_))
      refine au_done1 rfl ?_
      exact fun w hw => ⟨⟨y2, hst⟩, rfl, hw⟩
  · (repeat (first | refine zz ?_ | refine zv fun _ => ?_))
    refine au_pure ?_ (hy := yl_idxA rfl rfl (ix_nat rfl) hp)
    refine au_pure ?_ (hy := yl_spFr (g := g) (S := y1.S) rfl rfl (has_at at0) hp)
    (repeat (first | refine zz ?_ | refine zv fun _ => ?_))
    rcases hpg with ⟨e, ew⟩ | ⟨e, up⟩
    · rw [e]
      (repeat (first | refine zz ?_ | refine zv fun _ => ?_))
      refine au_done1 rfl ?_
      exact fun w hw => ⟨⟨y1, hid (by decide) (fun x => by cases x) (fun _ => ew)⟩, rfl, hin w hw⟩
    · rw [e, show decide ((p : Int) < 0) = false from decide_eq_false (by omega)]
      (repeat (first | refine zz ?_ | refine zv fun _ => ?_))
      refine au_pure ?_ (hy := yl_remn rfl rfl rfl (by omega))
      rw [hkk]
      (repeat (first | refine zz ?_ | refine zv fun _ => ?_))
      refine tri_weak (H' := stH w0 g y1) hin ?_
      refine au_callC rfl rfl rfl rfl rfl (spch_c w0 (g := g) m1 a1 hp e true) ?_
      rintro ⟨y2, hR⟩
      have hst : StepR w0 y y2 o := by
        refine ⟨hR.m, hR.a, hr1.trans hR.r, by have := hR.nx; omega, ⟨fun e => by omega, fun e _ q hq hqp => ?_, fun e => by omega, fun e => by omega⟩⟩
        exact hR.wd rfl q hq (by rw [hqp, hpd])
      (repeat (first | refine zz ?_ | refine zv fun _ => ?_))
      refine au_done1 rfl ?_
      exact fun w hw => ⟨⟨y2, hst⟩, rfl, hw⟩
  · (repeat (first | refine zz ?_ | refine zv fun _ => ?_))
    refine au_pure ?_ (hy := yl_remn rfl rfl rfl (by omega))
    rw [hkk]
    (repeat (first | refine zz ?_ | refine zv fun _ => ?_))
    refine tri_weak (H' := stH w0 g y1) hin ?_
    refine au_callC rfl rfl rfl rfl rfl (spacc_c w0 (g := g) m1 a1 hi hp false) ?_
    rintro ⟨y2, hR⟩
    have hst : StepR w0 y y2 o := by
      refine ⟨hR.m, hR.a, hr1.trans hR.r, by have := hR.nx; omega, ⟨fun e => by omega, fun e => by omega, fun _ q hq => ?_, fun e => by omega⟩⟩
      rw [hR.wd q hq, hT1]
    (repeat (first | refine zz ?_ | refine zv fun _ => ?_))
    refine au_done1 rfl ?_
    exact fun w hw => ⟨⟨y2, hst⟩, rfl, hw⟩
  · (repeat (first | refine zz ?_ | refine zv fun _ => ?_))
    refine au_pure ?_ (hy := yl_remn rfl rfl rfl (by omega))
    rw [hkk]
    (repeat (first | refine zz ?_ | refine zv fun _ => ?_))
    refine tri_weak (H' := stH w0 g y1) hin ?_
    refine au_callC rfl rfl rfl rfl rfl (spacc_c w0 (g := g) m1 a1 hi hp true) ?_
    rintro ⟨y2, hR⟩
    have hst : StepR w0 y y2 o := by
      refine ⟨hR.m, hR.a, hr1.trans hR.r, by have := hR.nx; omega, ⟨fun e => by omega, fun e => by omega, fun _ q hq => ?_, fun e => by omega⟩⟩
      rw [hR.wd q hq, hT1]
    (repeat (first | refine zz ?_ | refine zv fun _ => ?_))
    refine au_done1 rfl ?_
    exact fun w hw => ⟨⟨y2, hst⟩, rfl, hw⟩
  · have hg : p / 8 < 64 := by omega
    have hhu := huge_known m1.pt.t a1.pg hg
    have hend := end_pg 0 y1.T (8 * (p / 8))
    have hrg := pg_rng m1.pt.t (8 * (p / 8))
    have hakn := asm_known m1.pt.t a1.pg hg
    (repeat (first | refine zz ?_ | refine zv fun _ => ?_))
    refine au_pure ?_ (hy := yl_quon rfl rfl rfl (by omega))
    rw [show (p : Int) / 8 = ((p / 8 : Nat) : Int) by omega]
    (repeat (first | refine zz ?_ | refine zv fun _ => ?_))
    refine au_pure ?_ (hy := yl_spTab (g := g) (S := y1.S) rfl rfl (has_at at0))
    (repeat (first | refine zz ?_ | refine zv fun _ => ?_))
    refine tri_weak (H' := stH w0 g y1) hin ?_
    refine au_callC rfl rfl rfl rfl rfl (Huge_c w0 _ (vn := y1.S.vn) (vd := y1.S.vd) m1.pt m1.n.cons m1.d.cons hg) (fun _ => ?_)
    rw [hend]
    cases hd : (decR (pgT y1.T (8 * (p / 8))).2).1.d with
    | true =>
      obtain ⟨a, b, c, hl, hw⟩ := hhu hd
      obtain ⟨o2, ho2⟩ : ∃ o2, o2 = (pgT y1.T (8 * (p / 8))).2 := ⟨_, rfl⟩
      have hpt : pgT y1.T (8 * (p / 8)) = (1, o2) := by rw [ho2, ← hl]
      have hw' := hw
      rw [← ho2] at hw' hrg
      (repeat (first | refine zz ?_ | refine zv fun _ => ?_))
      refine au_pure ?_ (hy := yl_spTab (g := g) (S := y1.S) rfl rfl (has_at at0))
      (repeat (first | refine zz ?_ | refine zv fun _ => ?_))
      refine au_callC rfl rfl rfl rfl rfl (Split_c w0 _ (vn := y1.S.vn) (vd := y1.S.vd) m1.pt m1.n.cons m1.d.cons hg hpt hw' hrg) ?_
      rintro ⟨⟨r1, r2, N, D, T2⟩, hS⟩
      have hpgS := spl_agree hg a1.pg hl hw hS
      have hst : StepR w0 y (tabY y1 r1 r2 N D T2) o := by
        refine ⟨tab_M m1 hS.ok, tab_A a1 hpgS hS.fr, hr1.trans (List.Sublist.cons _ (List.Sublist.cons _ (List.Sublist.refl _))), by show y1.S.nx ≤ _; omega, ⟨fun e => by omega, fun e => by omega, fun e => by omega, fun _ e => ?_⟩⟩
        rw [← hpd, ← hT1] at e
        have := (hakn e).1
        omega
      (repeat (first | refine zz ?_ | refine zv fun _ => ?_))
      rename_i g8
      refine tri_weak (H' := Hp w0 (ptC g8 0 r1.v r2.v :: ndS r1 N :: dpS r2 D :: spB g y1.S :: y1.R)) (fun w h => h) ?_
      refine tri_spTab (i := 3) (g := g) (S := y1.S) (vn := r1.v) (vd := r2.v) rfl rfl rfl rfl (by repeat (first | exact nf0 rfl | apply nfS rfl | exact nfR)) ?_
      (repeat (first | refine zz ?_ | refine zv fun _ => ?_))
      refine au_done1 rfl ?_
      exact fun w hw => ⟨⟨tabY y1 r1 r2 N D T2, hst⟩, rfl, (HpM.tail hw).perm ((List.Perm.cons _ (List.Perm.swap _ _ _)).trans (List.Perm.swap _ _ _))⟩
    | false =>
      have hno : ∀ {X : Prop}, (¬ ∀ i, i < 8 → (pgT y.T (8 * (pgO o / 8) + i)).2 = newW (8 * (pgO o / 8) + i)) → StepR w0 y y1 o := fun hn =>
        ⟨m1, a1, hr1, by omega, ⟨fun e => by omega, fun e => by omega, fun e => by omega, fun _ e => absurd e hn⟩⟩
      by_cases hl0 : (pgT y1.T (8 * (p / 8))).1 = 0
      · obtain ⟨m, f, e, hTm, hsm, _⟩ := pg_leaf (T := y1.T) (p := 8 * (p / 8)) (w0 := (pgT y1.T (8 * (p / 8))).2) (by rw [← hl0])
        obtain ⟨⟨w, c⟩, hj⟩ : ∃ x, joinM (grpW y1.T (p / 8)) = x := ⟨_, rfl⟩
        by_cases hc : c = 0
        · subst hc
          obtain ⟨n, a, b, q2, hJ⟩ := join_info (grp_len y1.T (p / 8)) hj
          (repeat (first | refine zz ?_ | refine zv fun _ => ?_))
          refine au_pure ?_ (hy := yl_spTab (g := g) (S := y1.S) rfl rfl (has_at at0))
          (repeat (first | refine zz ?_ | refine zv fun _ => ?_))
          refine au_callC rfl rfl rfl rfl rfl (Assemble_yes w0 _ (vn := y1.S.vn) (vd := y1.S.vd) m1.pt m1.n.cons m1.d.cons hg hTm hsm hj) ?_
          rintro ⟨⟨r1, r2, N, D, T2⟩, hA⟩
          have hpgA := asm_agree hg a1.pg hJ hA
          have hst : StepR w0 y (tabY y1 r1 r2 N D T2) o := by
            refine ⟨tab_M m1 hA.ok, tab_A a1 hpgA (fun f hf => hA.fr.mem_iff.1 hf), hr1.trans (List.Sublist.cons _ (List.Sublist.cons _ (List.Sublist.refl _))), by show y1.S.nx ≤ _; omega, ⟨fun e => by omega, fun e => by omega, fun e => by omega, fun _ _ => ?_⟩⟩
            show (decR (pgT T2 (8 * (pgO o / 8))).2).1.d = true
            rw [← hpd, hA.at_ _ (by omega), if_pos (by omega), hJ.dw]
          (repeat (first | refine zz ?_ | refine zv fun _ => ?_))
          rename_i g10
          refine tri_weak (H' := Hp w0 (ptC g10 0 r1.v r2.v :: ndS r1 N :: dpS r2 D :: spB g y1.S :: y1.R)) (fun w h => h) ?_
          refine tri_spTab (i := 3) (g := g) (S := y1.S) (vn := r1.v) (vd := r2.v) rfl rfl rfl rfl (by repeat (first | exact nf0 rfl | apply nfS rfl | exact nfR)) ?_
          (repeat (first | refine zz ?_ | refine zv fun _ => ?_))
          refine au_done1 rfl ?_
          exact fun w hw => ⟨⟨tabY y1 r1 r2 N D T2, hst⟩, rfl, (HpM.tail hw).perm ((List.Perm.cons _ (List.Perm.swap _ _ _)).trans (List.Perm.swap _ _ _))⟩
        · have hst := hno (X := True) (fun e => by
            rw [← hpd, ← hT1] at e
            obtain ⟨_, x, hx⟩ := hakn e
            rw [hj] at hx
            exact hc (congrArg Prod.snd hx))
          (repeat (first | refine zz ?_ | refine zv fun _ => ?_))
          refine au_pure ?_ (hy := yl_spTab (g := g) (S := y1.S) rfl rfl (has_at at0))
          (repeat (first | refine zz ?_ | refine zv fun _ => ?_))
          refine au_callC rfl rfl rfl rfl rfl (Assemble_err w0 _ (vn := y1.S.vn) (vd := y1.S.vd) m1.pt m1.n.cons m1.d.cons hg hTm hsm hc (by rw [hj])) (fun _ => ?_)
          (repeat (first | refine zz ?_ | refine zv fun _ => ?_))
          rw [show (c == 0) = false by simpa using hc]
          (repeat (first | refine zz ?_ | refine zv fun _ => ?_))
          refine au_done1 rfl ?_
          exact fun w hw => ⟨⟨y1, hst⟩, rfl, HpM.tail hw⟩
      · have hst := hno (X := True) (fun e => by
          rw [← hpd, ← hT1] at e
          exact hl0 (hakn e).1)
        (repeat (first | refine zz ?_ | refine zv fun _ => ?_))
        refine au_pure ?_ (hy := yl_spTab (g := g) (S := y1.S) rfl rfl (has_at at0))
        (repeat (first | refine zz ?_ | refine zv fun _ => ?_))
        refine au_callC rfl rfl rfl rfl rfl (Assemble_lvl w0 _ (vn := y1.S.vn) (vd := y1.S.vd) m1.pt m1.n.cons m1.d.cons hg hl0) (fun _ => ?_)
        (repeat (first | refine zz ?_ | refine zv fun _ => ?_))
        refine au_done1 rfl ?_
        exact fun w hw => ⟨⟨y1, hst⟩, rfl, HpM.tail hw⟩
end
end Go.Proofs.YtbgjelhefhcnpaaGreat

/- The walk of the law's aNew. No conditions. -/
set_option linter.unusedSimpArgs false
set_option linter.unusedVariables false
namespace Go.Proofs.YtbgjelhefhcnpaaGreat
open Go Go.RowKit
def T0 : Tr := fun _ => none
theorem nodes_T0 : nodesT 0 T0 = [⟨0, fun _ => 0⟩] := by
  have : rootE T0 = fun _ => 0 := rfl
  unfold nodesT
  rw [this]
  have h : (all8.flatMap fun i => optN (T0 i)) = [] := by rw [List.flatMap_eq_nil_iff]; intro i _; rfl
  rw [h]
theorem deps_T0 : depsT T0 = [] := by
  unfold depsT
  rw [List.flatMap_eq_nil_iff]
  intro i _
  rfl
theorem pt_T0 : PtOk 0 T0 [⟨0, fun _ => 0⟩] [] := by
  refine ⟨⟨(fun i m h => by cases h), ?_, ?_⟩, ?_, List.pairwise_singleton .., deps_T0.symm⟩
  · rw [nodes_T0, deps_T0]; simp
  · rw [nodes_T0, deps_T0]; simp
  · rw [nodes_T0]
theorem pg_T0 (q : Nat) : pgT T0 q = (2, 0) := rfl
theorem fr_T0 {f : Int} (h : f ∈ frT 0 T0) : f = 0 := by
  unfold frT at h
  rw [nodes_T0, deps_T0] at h
  simpa using h
def S00 : SpS := ⟨.slice none 0 0, .slice none 0 0, .slice none 0 0, .slice none 0 0, 0, fun _ => 0, fun _ => false, 0⟩
set_option maxRecDepth 100000 in
theorem zero_sp : Tryz.zeroCells44.toList = spL S00 := by kernel_rfl
instance spBld2 : Bld Tryz.prog 40 [.int .i64 0, .slice none 0 0, .int .i64 0, .slice none 0 0] (placesL 2 2 0) := bld_array Tryz.underlying40 Tryz.zeroValue40 Tryz.sizeOf33
theorem spBld : Bld Tryz.prog 44 (spL S00) [(0, 3), (3, 4), (7, 512), (519, 512), (1031, 1)] := by
  rw [← zero_sp]
  exact bld_struct Tryz.underlying44 Tryz.zeroValue44 fun w => by simp [go_sem]
theorem set_tlbs (S : SpS) (z : Int) (v0 v1 : Value) : setL (spL S) 3 [.int .i64 z, v0, .int .i64 z, v1] = spL { S with z := z, v0 := v0, v1 := v1 } := rfl
theorem sp_fill (vn : Value) (z : Int) : fillL [(0, 3), (3, 4), (7, 512), (519, 512), (1031, 1)] (spL S00) [(0, ptV 0 vn (.slice none 0 0)), (1, .agg #[.int .i64 z, .slice none 0 0, .int .i64 z, .slice none 0 0]), (4, .int .i64 1)] = some (spL { S00 with vn := vn, vd := .slice none 0 0, z := z, v0 := .slice none 0 0, v1 := .slice none 0 0, nx := 1 }) := by
  rw [fillL]
  have e1 : ([(0, 3), (3, 4), (7, 512), (519, 512), (1031, 1)] : List (Nat × Nat))[0]? = some (0, 3) := rfl
  have e2 : ([(0, 3), (3, 4), (7, 512), (519, 512), (1031, 1)] : List (Nat × Nat))[1]? = some (3, 4) := rfl
  have e3 : ([(0, 3), (3, 4), (7, 512), (519, 512), (1031, 1)] : List (Nat × Nat))[4]? = some (1031, 1) := rfl
  have b : ∀ (S : SpS) k, k ≤ 1032 → Nat.ble k (spL S).length = true := fun S k hk => sp_ble S hk
  rw [e1]
  have l1 : (ptV 0 vn (.slice none 0 0)).cells.toList = [.int .i64 0, vn, .slice none 0 0] := rfl
  have l2 : (Value.agg #[.int .i64 z, .slice none 0 0, .int .i64 z, .slice none 0 0]).cells.toList = [.int .i64 z, .slice none 0 0, .int .i64 z, .slice none 0 0] := rfl
  have l3 : (Value.int .i64 1).cells.toList = [.int .i64 1] := rfl
  dsimp only
  rw [l1, b S00 _ (by decide), set_tab]
  dsimp only [List.length_cons, List.length_nil, Nat.beq, Bool.true_and]
  rw [fillL, e2]
  dsimp only
  rw [l2, b _ _ (by decide), set_tlbs]
  dsimp only [List.length_cons, List.length_nil, Nat.beq, Bool.true_and]
  rw [fillL, e3]
  dsimp only
  rw [l3, b _ _ (by decide), set_nx]
  rfl
end Go.Proofs.YtbgjelhefhcnpaaGreat
