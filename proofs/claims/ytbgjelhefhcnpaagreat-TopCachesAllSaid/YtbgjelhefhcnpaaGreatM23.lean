/- Texts joined: SpAcc, PtWith. Each part's own remark says what it proves. -/
import Derived.Test.YtbgjelhefhcnpaaGreatM22
import Derived.Test.YtbgjelhefhcnpaaGreatM20
/- The walk of the law's access. No conditions. -/
set_option linter.unusedSimpArgs false
set_option linter.unusedVariables false
namespace Go.Proofs.YtbgjelhefhcnpaaGreat
open Go Go.RowKit
structure AcR (w0 : World) (y y' : SpSt) : Prop where
  m : StM w0 y'
  a : StA y'
  r : y.R.Sublist y'.R
  wd : ∀ q, q < 512 → (decR (pgT y'.T q).2).1.d = (decR (pgT y.T q).2).1.d
  nx : y'.S.nx ≤ y.S.nx + 2
theorem acc_cases (fr : Nat → Int) (wr : Nat → Bool) (p : Nat) (wt : Bool) : (fr p < 0 ∧ accE fr wr p wt = 13 ∧ accF fr wr p wt = 0) ∨ (¬ fr p < 0 ∧ (wt = true ∧ wr p = false) ∧ accE fr wr p wt = 12 ∧ accF fr wr p wt = 0) ∨ (¬ fr p < 0 ∧ ¬ (wt = true ∧ wr p = false) ∧ accE fr wr p wt = 0 ∧ accF fr wr p wt = (p : Int)) := by
  unfold accF accE
  by_cases h1 : fr p < 0
  · rw [if_pos h1]; exact .inl ⟨h1, rfl, rfl⟩
  · rw [if_neg h1]
    by_cases h2 : wt = true ∧ wr p = false
    · rw [if_pos h2]; exact .inr (.inl ⟨h1, h2, rfl, rfl⟩)
    · rw [if_neg h2]; exact .inr (.inr ⟨h1, h2, rfl, rfl⟩)
/-- Another table, and another cache of a processor. -/
def putA (y : SpSt) (i : Nat) (a : AccY) : SpSt := putT { y with S := { y.S with vn := a.1.v, vd := a.2.1.v }, R := ndS a.1 a.2.2.2.1 :: dpS a.2.1 y.ds :: y.R, T := a.2.2.2.2.1, ns := a.2.2.2.1 } i a.2.2.1 a.2.2.2.2.2
theorem putA_ok {w0 : World} {y : SpSt} (h : StM w0 y) (ha : StA y) {i : Nat} (hi : i < 2) {a : AccY} (hO : AccOk 0 y.T a.2.2.2.2.1 a.2.2.2.1 y.ds y.S.fr y.S.wr y.S.z a.2.2.2.2.2) : AcR w0 y (putA y i a) := by
  have hM : StM w0 { y with S := { y.S with vn := a.1.v, vd := a.2.1.v }, R := ndS a.1 a.2.2.2.1 :: dpS a.2.1 y.ds :: y.R, T := a.2.2.2.2.1, ns := a.2.2.2.1 } := ⟨rd_chunk ⟨0, rfl⟩, rd_chunk ⟨1, rfl⟩, h.b0.cons.cons, h.b1.cons.cons, hO.ok, h.c0, h.c1⟩
  have hM2 := hM.putT hi (r := a.2.2.1) (l := a.2.2.2.2.2) hO.iv
  have e : i = 0 ∨ i = 1 := by omega
  rcases e with rfl | rfl
  · exact ⟨hM2, ⟨hO.pg, hO.ce, ha.e1, ha.nx, fun f hf => ha.fs f (hO.fs f hf)⟩, List.Sublist.cons _ (List.Sublist.cons _ (List.Sublist.cons _ (List.Sublist.refl _))), hO.hg, by show y.S.nx ≤ _; omega⟩
  · exact ⟨hM2, ⟨hO.pg, ha.e0, hO.ce, ha.nx, fun f hf => ha.fs f (hO.fs f hf)⟩, List.Sublist.cons _ (List.Sublist.cons _ (List.Sublist.cons _ (List.Sublist.refl _))), hO.hg, by show y.S.nx ≤ _; omega⟩
/-- What an access may leave. -/
abbrev AcS (y : SpSt) : Type := {a : AccY // AccOk 0 y.T a.2.2.2.2.1 a.2.2.2.1 y.ds y.S.fr y.S.wr y.S.z a.2.2.2.2.2}
theorem ceAt {y : SpSt} (h : StA y) (i : Nat) : ∀ x ∈ lAt y i, CEnt y.S.fr y.S.wr x := by
  unfold lAt
  split
  · exact h.e0
  · exact h.e1
attribute [local irreducible] spL invL tlbAt decR newW pgT endP nxL accE accF
attribute [local irreducible] Code.wp wpList bodyPost Exit.then Exit.inBlock Calls wpQuiet Tri TriQ
section
variable (w0 : World)
set_option maxHeartbeats 4000000 in
theorem spacc_c {g : Nat} {y : SpSt} (h : StM w0 y) (ha : StA y) {i p : Nat} (hi : i < 2) (hp : p < 512) (wt : Bool) : Cal Tryz.prog 14 [pR g, .int .i64 (i : Int), .int .i64 (p : Int), .bool wt] (stH w0 g y) (fun _ : {y' : SpSt // AcR w0 y y'} => .bool true) (fun y' => stH w0 g y'.1) := by
  have hN : ∀ S', RdH (Hp w0 (spB g S' :: y.R)) y.S.vn y.ns := fun S' => h.n.cons
  have hD : ∀ S', RdH (Hp w0 (spB g S' :: y.R)) y.S.vd y.ds := fun S' => h.d.cons
  have hB := (h.bAt i).cons (c := spB g y.S)
  obtain ⟨E, hE⟩ : ∃ E, E = accE y.S.fr y.S.wr p wt := ⟨_, rfl⟩
  obtain ⟨F, hF⟩ : ∃ F, F = accF y.S.fr y.S.wr p wt := ⟨_, rfl⟩
  have hn0 := h.n
  have hd0 := h.d
  have hb0 := h.bAt i
  have hcs := acc_cases y.S.fr y.S.wr p wt
  rw [← hE, ← hF] at hcs
  refine cal_of_tri Tryz.func14 rfl Tryz.ntmps14 rfl ?_
  (repeat (first | refine tri_seq ?_ | refine tri_then ?_)); refine tri_region ?_; (repeat (first | refine au_pure ?_ | refine au_pass ?_ | refine au_box (fun _ => ?_) | refine au_alloc (fun _ => ?_) | refine au_store ?_ | refine au_make rfl rfl (fun _ => ?_) | refine au_lit rfl rfl rfl (fun _ => ?_) | refine au_append rfl rfl rfl rfl (fun _ => au_norm ?_) | refine au_storeE rfl rfl rfl rfl ?_)); refine tri_nil ?_; (repeat refine tri_then ?_)
  (repeat (first | refine tri_seq ?_ | refine tri_then ?_))
  refine ar_held [] (spB g y.S :: y.R) rfl ?_
  refine ar_take 0 rfl rfl rfl ?_; refine ar_take 1 rfl rfl rfl ?_; refine ar_take 2 rfl rfl rfl ?_
  refine ar_take 3 rfl rfl rfl ?_ (hy := yl_spTab (g := g) (S := y.S) rfl rfl (has_at at0))
  refine ar_take 4 rfl rfl rfl ?_; refine ar_take 5 rfl rfl rfl ?_; refine ar_take 6 rfl rfl rfl ?_; refine ar_take 7 rfl rfl rfl ?_
  refine ar_take 8 rfl rfl rfl ?_ (hy := yl_idxA rfl rfl (ix_nat rfl) hi)
  refine ar_take 9 rfl rfl rfl ?_ (hy := yl_spTlb (g := g) (i := i) (S := y.S) rfl rfl (has_at at0) hi)
  refine ar_take 10 rfl rfl rfl ?_; refine ar_take 11 rfl rfl rfl ?_
  refine tr_have (V := AcS y × Nat × Nat) 4 #[true, true, true, true, true, true, true, true, true, true, true, true, true, true, true, true, true, true, true, true, false, false, false, false] (fun v => [(0, pR g), (1, .int .i64 (i : Int)), (2, .int .i64 (p : Int)), (3, .bool wt), (17, ptV 0 y.S.vn y.S.vd), (23, tlbV y.S.z (tlbAt y.S i)), (24, .int .i64 (p : Int)), (25, .bool wt), (27, ptV 0 v.1.1.1.v v.1.1.2.1.v), (28, tlbV (y.S.z) v.1.1.2.2.1.v), (29, .int .i64 (accF y.S.fr y.S.wr p wt)), (30, .int .i64 (accE y.S.fr y.S.wr p wt)), (9, pR v.2.1), (10, pR v.2.2)]) (fun v => ndS v.1.1.1 v.1.1.2.2.2.1 :: dpS v.1.1.2.1 y.ds :: teS v.1.1.2.2.1 v.1.1.2.2.2.2.2 :: ptC v.2.1 0 (.slice none 0 0) (.slice none 0 0) :: tlbC v.2.2 0 (.slice none 0 0) :: spB g y.S :: y.R) ?_ (fun h_cab => ?_)
  · rintro ⟨a, g9, g10⟩
    rw [← hE, ← hF]
    refine ar_op 20 rfl ?_
    refine au_store ?_
    refine tri_nil ?_; refine ar_in ?_
    refine ar_op 21 rfl ?_
    refine au_store ?_
    refine tri_nil ?_; refine ar_in ?_
    refine ar_take 22 rfl rfl rfl ?_; refine ar_take 23 rfl rfl rfl ?_
    refine ar_done ?_
    refine tri_weak (H' := Hp w0 (ndS a.1.1 a.1.2.2.2.1 :: dpS a.1.2.1 y.ds :: teS a.1.2.2.1 a.1.2.2.2.2.2 :: ptC g9 0 a.1.1.v a.1.2.1.v :: tlbC g10 y.S.z a.1.2.2.1.v :: spB g y.S :: y.R)) (fun w h => h) ?_
    obtain ⟨y2, hy2⟩ : ∃ y2, y2 = putA y i a.1 := ⟨_, rfl⟩
    have hAR : AcR w0 y y2 := by rw [hy2]; exact putA_ok h ha hi a.2
    obtain ⟨s1, s2⟩ := putT_S { y with S := { y.S with vn := a.1.1.v, vd := a.1.2.1.v }, R := ndS a.1.1 a.1.2.2.2.1 :: dpS a.1.2.1 y.ds :: y.R, T := a.1.2.2.2.2.1, ns := a.1.2.2.2.1 } hi a.1.2.2.1 a.1.2.2.2.2.2
    obtain ⟨_, _, _, s3, s4, _, _⟩ := putT_same { y with S := { y.S with vn := a.1.1.v, vd := a.1.2.1.v }, R := ndS a.1.1 a.1.2.2.2.1 :: dpS a.1.2.1 y.ds :: y.R, T := a.1.2.2.2.2.1, ns := a.1.2.2.2.1 } hi a.1.2.2.1 a.1.2.2.2.2.2
    have hyS : y2.S = setT { y.S with vn := a.1.1.v, vd := a.1.2.1.v } i a.1.2.2.1.v := by rw [hy2]; exact s1
    have hyR : y2.R = teS a.1.2.2.1 a.1.2.2.2.2.2 :: ndS a.1.1 a.1.2.2.2.1 :: dpS a.1.2.1 y.ds :: y.R := by rw [hy2]; exact s2
    have hyf : y2.S.fr = y.S.fr := by rw [hy2]; exact s3
    have hyw : y2.S.wr = y.S.wr := by rw [hy2]; exact s4
    have hEo : E = 13 ∨ E = 12 ∨ E = 0 := by
      rcases hcs with ⟨_, e, _⟩ | ⟨_, _, e, _⟩ | ⟨_, _, e, _⟩
      · exact .inl e
      · exact .inr (.inl e)
      · exact .inr (.inr e)
    refine tri_then ?_
    refine tri_seq ?_
    refine tri_cut1 (fun _ : Unit => True) (fun _ => [(0, pR g), (1, .int .i64 (i : Int)), (2, .int .i64 (p : Int)), (3, .bool wt), (11, .int .i64 F), (12, .int .i64 E)]) (fun _ => stH w0 g y2) ?_ ?_
    · refine tri_seq ?_
      refine tri_cut1 (fun _ : Unit => True) (fun _ => [(0, pR g), (1, .int .i64 (i : Int)), (2, .int .i64 (p : Int)), (3, .bool wt), (9, pR g9), (10, pR g10), (11, .int .i64 F), (12, .int .i64 E), (40, .bool true)]) (fun _ => Hp w0 (ndS a.1.1 a.1.2.2.2.1 :: dpS a.1.2.1 y.ds :: teS a.1.2.2.1 a.1.2.2.2.2.2 :: ptC g9 0 a.1.1.v a.1.2.1.v :: tlbC g10 y.S.z a.1.2.2.1.v :: spB g y.S :: y.R)) ?_ ?_
      · rcases hEo with e | e | e
        · rw [e]
          (repeat (first | refine zz ?_ | refine zv fun _ => ?_))
          exact tri_mt1 () trivial (by repeat (first | exact trivial | refine ⟨rfl, ?_⟩)) (fun w h => h)
        · rw [e]
          (repeat (first | refine zz ?_ | refine zv fun _ => ?_))
          exact tri_mt1 () trivial (by repeat (first | exact trivial | refine ⟨rfl, ?_⟩)) (fun w h => h)
        · rw [e]
          (repeat (first | refine zz ?_ | refine zv fun _ => ?_))
          exact tri_mt1 () trivial (by repeat (first | exact trivial | refine ⟨rfl, ?_⟩)) (fun w h => h)
      rintro _ _
      (repeat (first | refine zz ?_ | refine zv fun _ => ?_))
      (repeat (first | refine tri_seq ?_ | refine tri_then ?_))
      refine ar_held [] (ndS a.1.1 a.1.2.2.2.1 :: dpS a.1.2.1 y.ds :: teS a.1.2.2.1 a.1.2.2.2.2.2 :: ptC g9 0 a.1.1.v a.1.2.1.v :: tlbC g10 y.S.z a.1.2.2.1.v :: y.R) rfl ?_
      refine ar_take 0 rfl rfl rfl ?_; refine ar_take 1 rfl rfl rfl ?_; refine ar_take 2 rfl rfl rfl ?_; refine ar_take 3 rfl rfl rfl ?_; refine ar_take 4 rfl rfl rfl ?_; refine ar_take 5 rfl rfl rfl ?_; refine ar_take 6 rfl rfl rfl ?_; refine ar_take 8 rfl rfl rfl ?_; refine ar_take 9 rfl rfl rfl ?_
      refine ar_op 7 rfl ?_
      refine tri_spTab (i := 5) (g := g) (S := y.S) (vn := a.1.1.v) (vd := a.1.2.1.v) rfl rfl rfl rfl (by repeat (first | exact nf0 rfl | apply nfS rfl | exact nfR)) ?_
      refine tri_nil ?_; refine ar_in ?_
      refine ar_take 10 rfl rfl rfl ?_ (hy := yl_idxA rfl rfl (ix_nat rfl) hi)
      refine ar_op 11 rfl ?_
      refine tri_spTlb (i := 5) (g := g) (S := { y.S with vn := a.1.1.v, vd := a.1.2.1.v }) (j := i) (v := a.1.2.2.1.v) rfl rfl rfl hi rfl (by repeat (first | exact nf0 rfl | apply nfS rfl | exact nfR)) ?_
      rw [← hyS]
      refine tri_nil ?_; refine ar_in ?_
      refine ar_done ?_
      (repeat (first | refine zz ?_ | refine zv fun _ => ?_))
      exact tri_mt1 () trivial (by repeat (first | exact trivial | refine ⟨rfl, ?_⟩)) (fun w h => by
        show Hp w0 (spB g y2.S :: y2.R) w
        rw [hyR]
        have h := h.perm (List.perm_middle (l₁ := [_, _, _, _, _]))
        have h := h.sub (List.Sublist.cons_cons _ (List.Sublist.cons_cons _ (List.Sublist.cons_cons _ (List.Sublist.cons_cons _ (List.Sublist.cons _ (List.Sublist.cons _ (List.Sublist.refl y.R)))))))
        exact h.perm (List.Perm.cons _ ((List.Perm.cons _ (List.Perm.swap _ _ _)).trans (List.Perm.swap _ _ _))))
    rintro _ _
    rcases hcs with ⟨q1, e, _⟩ | ⟨q1, q2, e, _⟩ | ⟨q1, q2, e, f⟩
    · rw [e]
      (repeat (first | refine zz ?_ | refine zv fun _ => ?_))
      refine tri_block ?_
      (repeat (first | refine zz ?_ | refine zv fun _ => ?_))
      refine au_pure ?_ (hy := yl_idxA rfl rfl (ix_nat rfl) hp)
      refine au_pure ?_ (hy := yl_spFr (g := g) (S := y2.S) rfl rfl (has_at at0) hp)
      rw [hyf]
      (repeat (first | refine zz ?_ | refine zv fun _ => ?_))
      rw [show decide (y.S.fr p < 0) = true from decide_eq_true q1]
      (repeat (first | refine zz ?_ | refine zv fun _ => ?_))
      refine au_done1 rfl ?_
      exact fun w hw => ⟨⟨y2, hAR⟩, rfl, hw⟩
    · obtain ⟨q2, q3⟩ := q2
      subst q2
      rw [e]
      (repeat (first | refine zz ?_ | refine zv fun _ => ?_))
      refine tri_block ?_
      (repeat (first | refine zz ?_ | refine zv fun _ => ?_))
      refine au_pure ?_ (hy := yl_idxA rfl rfl (ix_nat rfl) hp)
      refine au_pure ?_ (hy := yl_spFr (g := g) (S := y2.S) rfl rfl (has_at at0) hp)
      rw [hyf]
      (repeat (first | refine zz ?_ | refine zv fun _ => ?_))
      rw [show decide (y.S.fr p < 0) = false from decide_eq_false q1]
      (repeat (first | refine zz ?_ | refine zv fun _ => ?_))
      refine au_pure ?_ (hy := yl_idxA rfl rfl (ix_nat rfl) hp)
      refine au_pure ?_ (hy := yl_spWr (g := g) (S := y2.S) rfl rfl (has_at at0) hp)
      rw [hyw, q3]
      (repeat (first | refine zz ?_ | refine zv fun _ => ?_))
      refine au_done1 rfl ?_
      exact fun w hw => ⟨⟨y2, hAR⟩, rfl, hw⟩
    · have hfp : y.S.fr p = (p : Int) := by
        rcases ha.pg.pg p hp with ⟨x1, _⟩ | ⟨x1, _⟩
        · rw [x1] at q1; omega
        · exact x1
      refine tri_seq ?_
      refine tri_cut1 (fun _ : Unit => True) (fun _ => [(0, pR g), (2, .int .i64 (p : Int)), (11, .int .i64 F), (12, .int .i64 E)]) (fun _ => stH w0 g y2) ?_ ?_
      · refine tri_block ?_
        (repeat (first | refine zz ?_ | refine zv fun _ => ?_))
        refine au_pure ?_ (hy := yl_idxA rfl rfl (ix_nat rfl) hp)
        refine au_pure ?_ (hy := yl_spFr (g := g) (S := y2.S) rfl rfl (has_at at0) hp)
        rw [hyf]
        (repeat (first | refine zz ?_ | refine zv fun _ => ?_))
        rw [show decide (y.S.fr p < 0) = false from decide_eq_false q1]
        (repeat (first | refine zz ?_ | refine zv fun _ => ?_))
        cases wt with
        | false =>
          (repeat (first | refine zz ?_ | refine zv fun _ => ?_))
          exact tri_mt1 () trivial (by repeat (first | exact trivial | refine ⟨rfl, ?_⟩)) (fun w h => h)
        | true =>
          (repeat (first | refine zz ?_ | refine zv fun _ => ?_))
          refine au_pure ?_ (hy := yl_idxA rfl rfl (ix_nat rfl) hp)
          refine au_pure ?_ (hy := yl_spWr (g := g) (S := y2.S) rfl rfl (has_at at0) hp)
          rw [hyw, show y.S.wr p = true by cases hq : y.S.wr p with | true => rfl | false => exact absurd ⟨rfl, hq⟩ q2]
          (repeat (first | refine zz ?_ | refine zv fun _ => ?_))
          exact tri_mt1 () trivial (by repeat (first | exact trivial | refine ⟨rfl, ?_⟩)) (fun w h => h)
      rintro _ _
      rw [e, f]
      (repeat (first | refine zz ?_ | refine zv fun _ => ?_))
      refine au_pure ?_ (hy := yl_idxA rfl rfl (ix_nat rfl) hp)
      refine au_pure ?_ (hy := yl_spFr (g := g) (S := y2.S) rfl rfl (has_at at0) hp)
      rw [hyf, hfp]
      (repeat (first | refine zz ?_ | refine zv fun _ => ?_))
      rw [show ((p : Int) == (p : Int)) = true by simp]
      (repeat (first | refine zz ?_ | refine zv fun _ => ?_))
      refine au_done1 rfl ?_
      exact fun w hw => ⟨⟨y2, hAR⟩, rfl, hw⟩
  refine tr_have (V := AcS y × Nat) 5 #[true, true, true, true, true, true, true, true, true, true, true, true, true, true, true, true, true, true, true, false, false, false, false, false] (fun v => [(0, pR g), (1, .int .i64 (i : Int)), (2, .int .i64 (p : Int)), (3, .bool wt), (17, ptV 0 y.S.vn y.S.vd), (23, tlbV y.S.z (tlbAt y.S i)), (24, .int .i64 (p : Int)), (25, .bool wt), (27, ptV 0 v.1.1.1.v v.1.1.2.1.v), (28, tlbV (y.S.z) v.1.1.2.2.1.v), (29, .int .i64 (accF y.S.fr y.S.wr p wt)), (30, .int .i64 (accE y.S.fr y.S.wr p wt)), (9, pR v.2)]) (fun v => ndS v.1.1.1 v.1.1.2.2.2.1 :: dpS v.1.1.2.1 y.ds :: teS v.1.1.2.2.1 v.1.1.2.2.2.2.2 :: ptC v.2 0 (.slice none 0 0) (.slice none 0 0) :: spB g y.S :: y.R) ?_ (fun h_ca => ?_)
  · rintro ⟨c, ga⟩
    refine ar_op 19 rfl ?_
    refine au_alloc (fun gb => ?_)
    refine tri_nil ?_; refine ar_in ?_
    exact tr_meet (h_cab ⟨c, ga, gb⟩) (by repeat (first | exact trivial | refine ⟨rfl, ?_⟩)) (fun w h => HpM.perm h (List.perm_middle (l₁ := [_, _, _, _])).symm)
  refine tr_have (V := AcS y × Nat) 5 #[true, true, true, true, true, true, true, true, true, true, true, true, true, true, true, true, true, true, false, true, false, false, false, false] (fun v => [(0, pR g), (1, .int .i64 (i : Int)), (2, .int .i64 (p : Int)), (3, .bool wt), (17, ptV 0 y.S.vn y.S.vd), (23, tlbV y.S.z (tlbAt y.S i)), (24, .int .i64 (p : Int)), (25, .bool wt), (27, ptV 0 v.1.1.1.v v.1.1.2.1.v), (28, tlbV (y.S.z) v.1.1.2.2.1.v), (29, .int .i64 (accF y.S.fr y.S.wr p wt)), (30, .int .i64 (accE y.S.fr y.S.wr p wt)), (10, pR v.2)]) (fun v => ndS v.1.1.1 v.1.1.2.2.2.1 :: dpS v.1.1.2.1 y.ds :: teS v.1.1.2.2.1 v.1.1.2.2.2.2.2 :: tlbC v.2 0 (.slice none 0 0) :: spB g y.S :: y.R) ?_ (fun h_cb => ?_)
  · rintro ⟨c, gb⟩
    refine ar_op 18 rfl ?_
    refine au_alloc (fun ga => ?_)
    refine tri_nil ?_; refine ar_in ?_
    exact tr_meet (h_cab ⟨c, ga, gb⟩) (by repeat (first | exact trivial | refine ⟨rfl, ?_⟩)) (fun w h => HpM.perm h (List.perm_middle (l₁ := [_, _, _])).symm)
  refine tr_have (V := Nat × Nat) 10 #[true, true, true, true, true, true, true, true, true, true, true, true, false, false, false, false, false, false, true, true, false, false, false, false] (fun v => [(0, pR g), (1, .int .i64 (i : Int)), (2, .int .i64 (p : Int)), (3, .bool wt), (17, ptV 0 y.S.vn y.S.vd), (23, tlbV y.S.z (tlbAt y.S i)), (24, .int .i64 (p : Int)), (25, .bool wt), (9, pR v.1), (10, pR v.2)]) (fun v => ptC v.1 0 (.slice none 0 0) (.slice none 0 0) :: tlbC v.2 0 (.slice none 0 0) :: spB g y.S :: y.R) ?_ (fun h_ab => ?_)
  · rintro ⟨ga, gb⟩
    refine ar_op 12 rfl ?_
    refine au_callC rfl rfl rfl rfl rfl (Access_c w0 _ (vn := y.S.vn) (vd := y.S.vd) (vb := tlbAt y.S i) h.pt (by repeat (first | assumption | apply RdH.cons)) (by repeat (first | assumption | apply RdH.cons)) (l := lAt y i) (by repeat (first | assumption | apply RdH.cons)) (h.cAt i) ha.pg (ceAt ha i) hp wt) ?_
    intro c
    refine tri_nil ?_; refine ar_in ?_
    refine ar_free 13 rfl rfl rfl ?_; refine ar_free 14 rfl rfl rfl ?_; refine ar_free 15 rfl rfl rfl ?_; refine ar_free 16 rfl rfl rfl ?_; refine ar_free 17 rfl rfl rfl ?_
    exact tr_meet (h_cab ⟨c, ga, gb⟩) (by repeat (first | exact trivial | refine ⟨rfl, ?_⟩)) (fun w h => h)
  refine tr_have (V := AcS y) 6 #[true, true, true, true, true, true, true, true, true, true, true, true, true, true, true, true, true, true, false, false, false, false, false, false] (fun v => [(0, pR g), (1, .int .i64 (i : Int)), (2, .int .i64 (p : Int)), (3, .bool wt), (17, ptV 0 y.S.vn y.S.vd), (23, tlbV y.S.z (tlbAt y.S i)), (24, .int .i64 (p : Int)), (25, .bool wt), (27, ptV 0 v.1.1.v v.1.2.1.v), (28, tlbV (y.S.z) v.1.2.2.1.v), (29, .int .i64 (accF y.S.fr y.S.wr p wt)), (30, .int .i64 (accE y.S.fr y.S.wr p wt))]) (fun v => ndS v.1.1 v.1.2.2.2.1 :: dpS v.1.2.1 y.ds :: teS v.1.2.2.1 v.1.2.2.2.2.2 :: spB g y.S :: y.R) ?_ (fun h_c => ?_)
  · rintro c
    refine ar_op2 18 19 rfl rfl ?_ ?_
    · refine au_alloc (fun ga => ?_)
      refine tri_nil ?_; refine ar_in ?_
      exact tr_meet (h_ca ⟨c, ga⟩) (by repeat (first | exact trivial | refine ⟨rfl, ?_⟩)) (fun w h => HpM.perm h (List.perm_middle (l₁ := [_, _, _])).symm)
    · refine au_alloc (fun gb => ?_)
      refine tri_nil ?_; refine ar_in ?_
      exact tr_meet (h_cb ⟨c, gb⟩) (by repeat (first | exact trivial | refine ⟨rfl, ?_⟩)) (fun w h => HpM.perm h (List.perm_middle (l₁ := [_, _, _])).symm)
  refine tr_have (V := Nat) 11 #[true, true, true, true, true, true, true, true, true, true, true, true, false, false, false, false, false, false, true, false, false, false, false, false] (fun v => [(0, pR g), (1, .int .i64 (i : Int)), (2, .int .i64 (p : Int)), (3, .bool wt), (17, ptV 0 y.S.vn y.S.vd), (23, tlbV y.S.z (tlbAt y.S i)), (24, .int .i64 (p : Int)), (25, .bool wt), (9, pR v)]) (fun v => ptC v 0 (.slice none 0 0) (.slice none 0 0) :: spB g y.S :: y.R) ?_ (fun h_a => ?_)
  · rintro ga
    refine ar_op2 12 19 rfl rfl ?_ ?_
    · refine au_callC rfl rfl rfl rfl rfl (Access_c w0 _ (vn := y.S.vn) (vd := y.S.vd) (vb := tlbAt y.S i) h.pt (by repeat (first | assumption | apply RdH.cons)) (by repeat (first | assumption | apply RdH.cons)) (l := lAt y i) (by repeat (first | assumption | apply RdH.cons)) (h.cAt i) ha.pg (ceAt ha i) hp wt) ?_
      intro c
      refine tri_nil ?_; refine ar_in ?_
      refine ar_free 13 rfl rfl rfl ?_; refine ar_free 14 rfl rfl rfl ?_; refine ar_free 15 rfl rfl rfl ?_; refine ar_free 16 rfl rfl rfl ?_; refine ar_free 17 rfl rfl rfl ?_
      exact tr_meet (h_ca ⟨c, ga⟩) (by repeat (first | exact trivial | refine ⟨rfl, ?_⟩)) (fun w h => h)
    · refine au_alloc (fun gb => ?_)
      refine tri_nil ?_; refine ar_in ?_
      exact tr_meet (h_ab ⟨ga, gb⟩) (by repeat (first | exact trivial | refine ⟨rfl, ?_⟩)) (fun w h => HpM.perm h (List.perm_middle (l₁ := [_])).symm)
  refine tr_have (V := Nat) 11 #[true, true, true, true, true, true, true, true, true, true, true, true, false, false, false, false, false, false, false, true, false, false, false, false] (fun v => [(0, pR g), (1, .int .i64 (i : Int)), (2, .int .i64 (p : Int)), (3, .bool wt), (17, ptV 0 y.S.vn y.S.vd), (23, tlbV y.S.z (tlbAt y.S i)), (24, .int .i64 (p : Int)), (25, .bool wt), (10, pR v)]) (fun v => tlbC v 0 (.slice none 0 0) :: spB g y.S :: y.R) ?_ (fun h_b => ?_)
  · rintro gb
    refine ar_op2 12 18 rfl rfl ?_ ?_
    · refine au_callC rfl rfl rfl rfl rfl (Access_c w0 _ (vn := y.S.vn) (vd := y.S.vd) (vb := tlbAt y.S i) h.pt (by repeat (first | assumption | apply RdH.cons)) (by repeat (first | assumption | apply RdH.cons)) (l := lAt y i) (by repeat (first | assumption | apply RdH.cons)) (h.cAt i) ha.pg (ceAt ha i) hp wt) ?_
      intro c
      refine tri_nil ?_; refine ar_in ?_
      refine ar_free 13 rfl rfl rfl ?_; refine ar_free 14 rfl rfl rfl ?_; refine ar_free 15 rfl rfl rfl ?_; refine ar_free 16 rfl rfl rfl ?_; refine ar_free 17 rfl rfl rfl ?_
      exact tr_meet (h_cb ⟨c, gb⟩) (by repeat (first | exact trivial | refine ⟨rfl, ?_⟩)) (fun w h => h)
    · refine au_alloc (fun ga => ?_)
      refine tri_nil ?_; refine ar_in ?_
      exact tr_meet (h_ab ⟨ga, gb⟩) (by repeat (first | exact trivial | refine ⟨rfl, ?_⟩)) (fun w h => h)
  refine ar_op3 12 18 19 rfl rfl rfl ?_ ?_ ?_
  · refine au_callC rfl rfl rfl rfl rfl (Access_c w0 _ (vn := y.S.vn) (vd := y.S.vd) (vb := tlbAt y.S i) h.pt (by repeat (first | assumption | apply RdH.cons)) (by repeat (first | assumption | apply RdH.cons)) (l := lAt y i) (by repeat (first | assumption | apply RdH.cons)) (h.cAt i) ha.pg (ceAt ha i) hp wt) ?_
    intro c
    refine tri_nil ?_; refine ar_in ?_
    refine ar_free 13 rfl rfl rfl ?_; refine ar_free 14 rfl rfl rfl ?_; refine ar_free 15 rfl rfl rfl ?_; refine ar_free 16 rfl rfl rfl ?_; refine ar_free 17 rfl rfl rfl ?_
    exact tr_meet (h_c c) (by repeat (first | exact trivial | refine ⟨rfl, ?_⟩)) (fun w h => h)
  · refine au_alloc (fun ga => ?_)
    refine tri_nil ?_; refine ar_in ?_
    exact tr_meet (h_a ga) (by repeat (first | exact trivial | refine ⟨rfl, ?_⟩)) (fun w h => h)
  · refine au_alloc (fun gb => ?_)
    refine tri_nil ?_; refine ar_in ?_
    exact tr_meet (h_b gb) (by repeat (first | exact trivial | refine ⟨rfl, ?_⟩)) (fun w h => h)
end
end Go.Proofs.YtbgjelhefhcnpaaGreat

/- The walk of a page table's withdraw. No conditions. -/
set_option linter.unusedSimpArgs false
set_option linter.unusedVariables false
namespace Go.Proofs.YtbgjelhefhcnpaaGreat
open Go Go.RowKit
theorem fnd_at {ds : List DP} (h : ds.Pairwise fun a b => a.g < b.g) {i : Nat} (hi : i < ds.length) {k : Nat} (hk : Fnd ds.length (geG ds (ds.getD i default).g) k) : k = i := by
  rcases Nat.lt_trichotomy k i with e | e | e
  · have h1 := hk.hi k (Nat.le_refl _) (by omega)
    unfold geG at h1
    have h1 := of_decide_eq_true h1
    have := List.pairwise_iff_getElem.1 h k i (by omega) hi e
    rw [getD_get hi, getD_get (by omega)] at h1
    omega
  · exact e
  · have h1 := hk.lo i e
    unfold geG at h1
    have h1 := of_decide_eq_false h1
    exact absurd (Int.le_refl _) h1
attribute [local irreducible] Code.wp wpList bodyPost Exit.then Exit.inBlock Calls wpQuiet Tri TriQ
section
variable (w0 : World) (cs : List Chunk)
set_option maxHeartbeats 2000000 in
theorem withdraw_c {root : Int} {ds : List DP} (ho : ds.Pairwise fun a b => a.g < b.g) (hl : ds.length ≤ 1000) {i : Nat} (hi : i < ds.length) {vn : Value} {rd : Row} {gt : Nat} {g : Int} (hg : (ds.getD i default).g = g) :
    Cal Tryz.prog 48 [pR gt, .int .i64 g] (Hp w0 (ptC gt root vn rd.v :: dpS rd ds :: cs)) (fun _ : Row => .int .i64 (ds.getD i default).f) (fun r => Hp w0 (ptC gt root vn r.v :: dpS r (ds.take i ++ ds.drop (i + 1)) :: cs)) := by
  subst hg
  obtain ⟨g, hgg⟩ : ∃ g, g = (ds.getD i default).g := ⟨_, rfl⟩
  have hmono := geG_mono ho g
  have hfnd : ∀ k, Fnd ds.length (geG ds g) k → k = i := fun k hk => fnd_at ho hi (by rw [← hgg]; exact hk)
  rw [← hgg]
  refine cal_of_tri Tryz.func48 rfl Tryz.ntmps48 rfl ?_
  (repeat (first | refine tri_seq ?_ | refine tri_then ?_)); refine tri_region ?_; (repeat (first | refine au_pure ?_ | refine au_pass ?_ | refine au_box (fun _ => ?_) | refine au_alloc (fun _ => ?_) | refine au_store ?_ | refine au_make rfl rfl (fun _ => ?_) | refine au_lit rfl rfl rfl (fun _ => ?_) | refine au_append rfl rfl rfl rfl (fun _ => au_norm ?_) | refine au_storeE rfl rfl rfl rfl ?_)); refine tri_nil ?_; (repeat refine tri_then ?_)
  rename_i g2 g3
  refine tri_weak (H' := Hp w0 (sgC g3 g2 gt g root vn rd ds cs)) (fun w h => HpM.perm h (List.Perm.cons _ (List.Perm.cons _ (List.Perm.swap _ _ _)))) ?_
  have hD : RdH (Hp w0 (sgC g3 g2 gt g root vn rd ds cs)) rd.v ds := rd_chunk ⟨2, rfl⟩
  (repeat (first | refine zz ?_ | refine zv fun _ => ?_))
  refine au_pure ?_ (hy := yl_len rfl rfl hD)
  (repeat (first | refine zz ?_ | refine zv fun _ => ?_))
  refine au_pure ?_ (hy := yl_func rfl rfl)
  (repeat (first | refine zz ?_ | refine zv fun _ => ?_))
  refine au_callC rfl rfl rfl rfl rfl (search_c w0 _ (n := ds.length) (by omega) (capd := [pR g2, pR g3]) (p := geG ds g) hmono (wtest_c w0 cs (by omega))) ?_
  intro kk
  rw [hfnd kk.1 kk.2]
  (repeat (first | refine zz ?_ | refine zv fun _ => ?_))
  refine au_pure ?_ (hy := yl_idx (k := i) rfl rfl hD (ix_nat rfl) (by rfl) hi)
  refine au_pure ?_ (hy := yl_fieldE rfl rfl)
  refine au_pure ?_ (hy := yl_loadE rfl rfl hD (by rfl) hi (by rfl))
  (repeat (first | refine zz ?_ | refine zv fun _ => ?_))
  (repeat (first | refine tri_seq ?_ | refine tri_then ?_))
  refine ar_held [11] (blkC g3 3 [.int .i64 g] :: blkC g2 99 [pR gt] :: ptC gt root vn rd.v :: cs) rfl ?_
  refine ar_take 0 rfl rfl rfl ?_; refine ar_take 1 rfl rfl rfl ?_; refine ar_take 2 rfl rfl rfl ?_; refine ar_take 3 rfl rfl rfl ?_; refine ar_take 4 rfl rfl rfl ?_; refine ar_take 5 rfl rfl rfl ?_; refine ar_take 6 rfl rfl rfl ?_; refine ar_take 7 rfl rfl rfl ?_
  refine ar_op 8 rfl ?_
  refine tri_front 2 rfl (by repeat (first | exact nf0 rfl | apply nfS rfl | exact nfR)) ?_
  refine au_callC rfl rfl rfl rfl rfl (deleteD_c w0 _ (r := rd) (l := ds) (i := i) hi (by omega)) ?_
  intro r2
  refine tri_nil ?_; refine ar_in ?_
  refine ar_take 9 rfl rfl rfl ?_; refine ar_take 10 rfl rfl rfl ?_
  refine ar_op 11 rfl ?_
  refine au_store ?_
  refine tri_nil ?_; refine ar_ink ?_
  refine ar_done ?_
  refine tri_weak (H' := Hp w0 (dpS r2 (ds.take i ++ ds.drop (i + 1)) :: blkC g3 3 [.int .i64 g] :: blkC g2 99 [pR gt] :: ptC gt root vn r2.v :: cs)) (fun w h => h) ?_
  (repeat (first | refine zz ?_ | refine zv fun _ => ?_))
  refine au_done1 rfl ?_
  exact fun w hw => ⟨r2, rfl, (hw.sub (List.Sublist.cons_cons _ (List.Sublist.cons _ (List.Sublist.cons _ (List.Sublist.refl _))))).perm (List.Perm.swap _ _ _)⟩
end
end Go.Proofs.YtbgjelhefhcnpaaGreat
