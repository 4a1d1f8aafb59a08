/- Texts joined: SpAll, CapArgs. Each part's own remark says what it proves. -/
import Derived.Test.YtbgjelhefhcnpaaGreatM31
import Derived.Test.YtbgjelhefhcnpaaGreatM04
/- The walk of TopCachesAll. No conditions. -/
set_option linter.unusedSimpArgs false
set_option linter.unusedVariables false
namespace Go.Proofs.YtbgjelhefhcnpaaGreat
open Go Go.RowKit
instance spEncO : Enc PO where
  default := ⟨0, 0, 0⟩
  sz := 3
  enc := fun x => [.int .u8 x.k, .int .u16 x.p, .int .u8 x.c]
  dec := fun cs => match cs with | [.int _ a, .int _ b, .int _ c] => ⟨a, b, c⟩ | _ => ⟨0, 0, 0⟩
  len := fun _ => rfl
  one := fun _ u hu => by simp at hu; rcases hu with rfl | rfl | rfl <;> rfl
  pos := by decide
instance spElO : ElT Tryz.prog 29 PO := ⟨trivial⟩
/-- A cache's header. -/
structure TL where
  z : Int
  A : Option Addr
  n : Nat
  c : Nat
instance spEncT : Enc TL where
  default := ⟨0, none, 0, 0⟩
  sz := 2
  enc := fun x => [.int .i64 x.z, .slice x.A x.n x.c]
  dec := fun cs => match cs with | [.int _ a, .slice A n c] => ⟨a, A, n, c⟩ | _ => ⟨0, none, 0, 0⟩
  len := fun _ => rfl
  one := fun _ u hu => by simp at hu; rcases hu with rfl | rfl <;> rfl
  pos := by decide
instance spElT : ElT Tryz.prog 33 TL := ⟨trivial⟩
abbrev tlS (r : Row) (l : List TL) : Chunk := slC r 33 l
/-- What an access may leave, of a cache of any size. -/
abbrev AcZ (y : SpSt) (z : Int) : Type := {a : AccY // AccOk 0 y.T a.2.2.2.2.1 a.2.2.2.1 y.ds y.S.fr y.S.wr z a.2.2.2.2.2}
attribute [local irreducible] spL decR pgT endP newW accE accF
attribute [local irreducible] Code.wp wpList bodyPost Exit.then Exit.inBlock Calls wpQuiet Tri TriQ
section
variable (w0 : World) (cs : List Chunk)
set_option maxRecDepth 20000 in
set_option maxHeartbeats 8000000 in
theorem all_c {z : Int} (hz64 : -9223372036854775808 ≤ z ∧ z ≤ 9223372036854775807) {vl : Value} {l : List PO} (hl : RdH (Hp w0 cs) vl l) (hlen : l.length ≤ 9223372036854775807) (hok : ∀ o ∈ l, POk o) :
    Cal Tryz.prog 3 [.int .i64 z, vl] (Hp w0 cs) (fun _ : Unit => .bool true) (fun _ => Hp w0 cs) := by
  refine cal_of_tri Tryz.func3 rfl Tryz.ntmps3 rfl ?_
  (repeat (first | refine zz ?_ | refine zv fun _ => ?_))
  by_cases hz1 : z < 1
  · rw [show decide (z < 1) = true from decide_eq_true hz1]
    (repeat (first | refine zz ?_ | refine zv fun _ => ?_))
    refine au_callC rfl rfl rfl rfl rfl (aSpaced_c w0 cs) (fun _ => ?_)
    (repeat (first | refine zz ?_ | refine zv fun _ => ?_))
    refine au_done1 rfl ?_
    exact fun w hw => ⟨(), rfl, hw⟩
  rw [show decide (z < 1) = false from decide_eq_false hz1]
  (repeat (first | refine zz ?_ | refine zv fun _ => ?_))
  by_cases hz2 : z > 16
  · rw [show decide (z > 16) = true from decide_eq_true hz2]
    (repeat (first | refine zz ?_ | refine zv fun _ => ?_))
    refine au_callC rfl rfl rfl rfl rfl (aSpaced_c w0 cs) (fun _ => ?_)
    (repeat (first | refine zz ?_ | refine zv fun _ => ?_))
    refine au_done1 rfl ?_
    exact fun w hw => ⟨(), rfl, hw⟩
  rw [show decide (z > 16) = false from decide_eq_false hz2]
  (repeat (first | refine zz ?_ | refine zv fun _ => ?_))
  refine au_pure ?_ (hy := yl_len rfl rfl hl)
  (repeat (first | refine zz ?_ | refine zv fun _ => ?_))
  by_cases hl40 : (l.length : Int) > 40
  · rw [show decide ((l.length : Int) > 40) = true from decide_eq_true hl40]
    (repeat (first | refine zz ?_ | refine zv fun _ => ?_))
    refine au_callC rfl rfl rfl rfl rfl (aSpaced_c w0 cs) (fun _ => ?_)
    (repeat (first | refine zz ?_ | refine zv fun _ => ?_))
    refine au_done1 rfl ?_
    exact fun w hw => ⟨(), rfl, hw⟩
  rw [show decide ((l.length : Int) > 40) = false from decide_eq_false hl40]
  (repeat (first | refine zz ?_ | refine zv fun _ => ?_))
  refine au_callC rfl rfl rfl rfl rfl (aNew_c w0 cs (z := z) (by omega)) ?_
  rintro ⟨⟨g, y0⟩, h0⟩
  have hm0 : StM w0 y0 := h0.m
  have ha0 : StA y0 := h0.a
  have hr0 : cs.Sublist y0.R := h0.r
  have hx0 : y0.S.nx ≤ 1 := by have e : y0.S.nx = 1 := h0.nx; omega
  have hls : ∀ (y : SpSt), cs.Sublist y.R → RdH (stH w0 g y) vl l := fun y hr w hw => hl w (hw.tail.sub hr)
  (repeat (first | refine zz ?_ | refine zv fun _ => ?_))
  refine au_pure ?_ (hy := yl_len rfl rfl (hls y0 hr0))
  (repeat (first | refine zz ?_ | refine zv fun _ => ?_))
  refine tri_block ?_
  refine tri_loop2 (fun (i : Nat) (y : SpSt) => i ≤ l.length ∧ StM w0 y ∧ StA y ∧ cs.Sublist y.R ∧ y.S.nx ≤ 1 + 2 * (i : Int)) (fun i _ => [(5, pR g), (6, .bool true), (35, vl), (36, .int .i64 (l.length : Int)), (37, .int .i64 (i : Int))]) (fun _ y => stH w0 g y) (fun i _ => l.length - i) 0 y0 ⟨by omega, hm0, ha0, hr0, by omega⟩ (by repeat (first | exact trivial | refine ⟨rfl, ?_⟩)) (fun w h => h) ?_
  rintro i y ⟨hi, hm, ha, hr, hx⟩
  (repeat (first | refine zz ?_ | refine zv fun _ => ?_))
  ((first | refine tri_cond (by rfl) (fun hc => ?_) (fun hc => ?_) | refine tri_gsplit (by rfl) (by rfl) (by (fail_if_success exact (rfl : _ = some (Value.bool true))); (fail_if_success exact (rfl : _ = some (Value.bool false))); rfl) (fun hc => ?_) (fun hc => ?_)) <;> (try simp only [decide_eq_true_eq, decide_eq_false_iff_not, beq_iff_eq, bne_iff_ne, ne_eq, Bool.not_eq_true', Bool.not_eq_false', beq_eq_false_iff_ne, bne_eq_false_iff_eq, Int.not_lt, Int.not_le, gt_iff_lt, ge_iff_le, Bool.and_eq_true, Bool.or_eq_true, Bool.and_eq_false_iff, Bool.or_eq_false_iff, Decidable.not_not, not_true_eq_false, not_false_eq_true, and_true, true_and, or_false, false_or, or_true, true_or, and_false, false_and, eq_self, Bool.true_eq_false, Bool.false_eq_true] at hc) <;> (try (exfalso; omega)))
  case refine_1 =>
    have hi8 : i < l.length := by omega
    have hoi : POk (l.getD i default) := hok _ (by rw [getD_get hi8]; exact List.getElem_mem hi8)
    obtain ⟨o, ho⟩ : ∃ o, o = l.getD i default := ⟨_, rfl⟩
    rw [← ho] at hoi
    (repeat (first | refine zz ?_ | refine zv fun _ => ?_))
    refine tri_block ?_
    (repeat (first | refine zz ?_ | refine zv fun _ => ?_))
    refine au_pure ?_ (hy := yl_idx (k := i) rfl rfl (hls y hr) (ix_nat rfl) (by rfl) hi8)
    refine au_pure ?_ (hy := yl_loadEN rfl rfl (hls y hr) (by rfl) hi8 (by repeat (first | exact nf0 rfl | apply nfS rfl | exact nfR)) (by rfl))
    rw [← ho]
    (repeat (first | refine zz ?_ | refine zv fun _ => ?_))
    rename_i g8
    refine tri_weak (H' := stH w0 g y) (fun w h => HpM.tail h) ?_
    refine au_callC rfl rfl rfl rfl rfl (spstep_c w0 (g := g) hm ha (by omega) hoi) ?_
    rintro ⟨y', hs⟩
    (repeat (first | refine zz ?_ | refine zv fun _ => ?_))
    exact tri_nx2 (i + 1) y' (by omega) ⟨by omega, hs.m, hs.a, hr.trans hs.r, by have := hs.nx; omega⟩ (by repeat (first | exact trivial | refine ⟨rfl, ?_⟩)) (fun w h => h)
  (repeat (first | refine zz ?_ | refine zv fun _ => ?_))
  refine au_call rfl rfl (cl_of rfl rfl rfl (fun _ h => Ret.hp (tnew_at (z := 1) (by decide) _) h)) ?_
  (repeat (first | refine zz ?_ | refine zv fun _ => ?_))
  rename_i g9
  refine tri_weak (H' := Hp w0 (tlbC g9 1 (.slice none 0 0) :: spB g y.S :: y.R)) (fun w h => h) ?_
  refine tri_fact (fun w hw => ((hm.b0.cons.cons) w hw).form) ?_
  rintro ⟨A0, c0', hv0, _⟩
  refine tri_fact (fun w hw => ((hm.b1.cons.cons) w hw).form) ?_
  rintro ⟨A1, c1', hv1, _⟩
  have ht0 : tlbAt y.S 0 = .slice A0 y.l0.length c0' := hv0
  have ht1 : tlbAt y.S 1 = .slice A1 y.l1.length c1' := hv1
  obtain ⟨L3, hL3⟩ : ∃ L3 : List TL, L3 = [⟨y.S.z, A0, y.l0.length, c0'⟩, ⟨y.S.z, A1, y.l1.length, c1'⟩, ⟨1, none, 0, 0⟩] := ⟨_, rfl⟩
  have hL3l : L3.length = 3 := by rw [hL3]; rfl
  have hL3at : ∀ j, j < 3 → ∃ zj Aj nj cj lj, L3.getD j default = ⟨zj, Aj, nj, cj⟩ ∧ RdH (Hp w0 y.R) (.slice Aj nj cj) lj ∧ Iv zj lj ∧ ∀ x ∈ lj, CEnt y.S.fr y.S.wr x := fun j hj => by
    have h3 : j = 0 ∨ j = 1 ∨ j = 2 := by omega
    rw [hL3]
    rcases h3 with rfl | rfl | rfl
    · exact ⟨_, _, _, _, y.l0, rfl, by rw [← hv0]; exact hm.b0, hm.c0, ha.e0⟩
    · exact ⟨_, _, _, _, y.l1, rfl, by rw [← hv1]; exact hm.b1, hm.c1, ha.e1⟩
    · exact ⟨_, _, _, _, [], rfl, rd_nil, iv_nil (by decide), fun x hx => by cases hx⟩
  have hn0 := hm.n
  have hd0 := hm.d
  clear hm0 ha0 hr0 hx0 h0
  refine tri_block ?_
  refine tri_loop1 (fun (p : Nat) => p ≤ 512) (fun p => [(5, pR g), (9, pR g9), (56, .int .i64 (p : Int))]) (fun _ => Hp w0 (tlbC g9 1 (.slice none 0 0) :: spB g y.S :: y.R)) (fun p => 512 - p) 0 (by omega) (by repeat (first | exact trivial | refine ⟨rfl, ?_⟩)) (fun w h => h) ?_
  intro p hp512
  (repeat (first | refine zz ?_ | refine zv fun _ => ?_))
  ((first | refine tri_cond (by rfl) (fun hc => ?_) (fun hc => ?_) | refine tri_gsplit (by rfl) (by rfl) (by (fail_if_success exact (rfl : _ = some (Value.bool true))); (fail_if_success exact (rfl : _ = some (Value.bool false))); rfl) (fun hc => ?_) (fun hc => ?_)) <;> (try simp only [decide_eq_true_eq, decide_eq_false_iff_not, beq_iff_eq, bne_iff_ne, ne_eq, Bool.not_eq_true', Bool.not_eq_false', beq_eq_false_iff_ne, bne_eq_false_iff_eq, Int.not_lt, Int.not_le, gt_iff_lt, ge_iff_le, Bool.and_eq_true, Bool.or_eq_true, Bool.and_eq_false_iff, Bool.or_eq_false_iff, Decidable.not_not, not_true_eq_false, not_false_eq_true, and_true, true_and, or_false, false_or, or_true, true_or, and_false, false_and, eq_self, Bool.true_eq_false, Bool.false_eq_true] at hc) <;> (try (exfalso; omega)))
  case refine_1 =>
    have hp : p < 512 := by omega
    have hcase := acc_cases y.S.fr y.S.wr p false
    have hpgp := ha.pg.pg p hp
    (repeat (first | refine zz ?_ | refine zv fun _ => ?_))
    refine tri_block ?_
    (repeat (first | refine zz ?_ | refine zv fun _ => ?_))
    (repeat (first | refine tri_seq ?_ | refine tri_then ?_))
    refine ar_held [] (tlbC g9 1 (.slice none 0 0) :: spB g y.S :: y.R) rfl ?_
    refine ar_take 0 rfl rfl rfl ?_; refine ar_take 1 rfl rfl rfl ?_; refine ar_take 2 rfl rfl rfl ?_
    refine ar_take 3 rfl rfl rfl ?_ (hy := yl_idxA (k := 0) rfl rfl (ix_eq rfl rfl) (by decide))
    refine ar_take 4 rfl rfl rfl ?_ (hy := yl_spTlb (g := g) (i := 0) (S := y.S) rfl rfl (has_at (atS at0)) (by decide))
    refine ar_take 5 rfl rfl rfl ?_; refine ar_take 6 rfl rfl rfl ?_; refine ar_take 7 rfl rfl rfl ?_
    refine ar_take 8 rfl rfl rfl ?_ (hy := yl_idxA (k := 1) rfl rfl (ix_eq rfl rfl) (by decide))
    refine ar_take 9 rfl rfl rfl ?_ (hy := yl_spTlb (g := g) (i := 1) (S := y.S) rfl rfl (has_at (atS at0)) (by decide))
    refine ar_take 10 rfl rfl rfl ?_; refine ar_take 13 rfl rfl rfl ?_
    rw [ht0, ht1]
    refine ar_op 11 rfl ?_
    refine au_lit (l := ([⟨y.S.z, A0, y.l0.length, c0'⟩, ⟨y.S.z, A1, y.l1.length, c1'⟩, ⟨1, none, 0, 0⟩] : List TL)) rfl rfl rfl (fun rt => ?_)
    refine tri_weak (H' := Hp w0 (tlS rt L3 :: tlbC g9 1 (.slice none 0 0) :: spB g y.S :: y.R)) (fun w h => by rw [hL3]; exact h) ?_
    refine tri_nil ?_; refine ar_in ?_
    refine ar_op 12 rfl ?_
    refine au_pure ?_ (hy := yl_len rfl rfl (rd_chunk (r := rt) (l := L3) ⟨0, rfl⟩))
    rw [hL3l]
    refine tri_nil ?_; refine ar_in ?_
    refine ar_done ?_
    (repeat (first | refine zz ?_ | refine zv fun _ => ?_))
    refine tri_block ?_
    refine tri_loop1 (fun (j : Nat) => j ≤ 3) (fun j => [(5, pR g), (9, pR g9), (11, .int .i64 (p : Int)), (56, .int .i64 (p : Int)), (70, rt.v), (71, .int .i64 3), (72, .int .i64 (j : Int))]) (fun _ => Hp w0 (tlS rt L3 :: tlbC g9 1 (.slice none 0 0) :: spB g y.S :: y.R)) (fun j => 3 - j) 0 (by omega) (by repeat (first | exact trivial | refine ⟨rfl, ?_⟩)) (fun w h => h) ?_
    intro j hj
    (repeat (first | refine zz ?_ | refine zv fun _ => ?_))
    ((first | refine tri_cond (by rfl) (fun hc => ?_) (fun hc => ?_) | refine tri_gsplit (by rfl) (by rfl) (by (fail_if_success exact (rfl : _ = some (Value.bool true))); (fail_if_success exact (rfl : _ = some (Value.bool false))); rfl) (fun hc => ?_) (fun hc => ?_)) <;> (try simp only [decide_eq_true_eq, decide_eq_false_iff_not, beq_iff_eq, bne_iff_ne, ne_eq, Bool.not_eq_true', Bool.not_eq_false', beq_eq_false_iff_ne, bne_eq_false_iff_eq, Int.not_lt, Int.not_le, gt_iff_lt, ge_iff_le, Bool.and_eq_true, Bool.or_eq_true, Bool.and_eq_false_iff, Bool.or_eq_false_iff, Decidable.not_not, not_true_eq_false, not_false_eq_true, and_true, true_and, or_false, false_or, or_true, true_or, and_false, false_and, eq_self, Bool.true_eq_false, Bool.false_eq_true] at hc) <;> (try (exfalso; omega)))
    case refine_1 =>
      have hj3 : j < 3 := by omega
      obtain ⟨zj, Aj, nj, cj, lj, hLj, hBj, hIv, hCE⟩ := hL3at j hj3
      (repeat (first | refine zz ?_ | refine zv fun _ => ?_))
      refine tri_block ?_
      (repeat (first | refine zz ?_ | refine zv fun _ => ?_))
      refine au_pure ?_ (hy := yl_idx (k := j) rfl rfl (rd_chunk (r := rt) (l := L3) ⟨0, rfl⟩) (ix_nat rfl) (by rfl) (by omega))
      refine au_pure ?_ (hy := yl_loadEN rfl rfl (rd_chunk (r := rt) (l := L3) ⟨0, rfl⟩) (by rfl) (by omega) (by repeat (first | exact nf0 rfl | apply nfS rfl | exact nfR)) (by rfl))
      rw [hLj]
      refine zv fun g13 => ?_
      refine zz ?_
      refine tri_weak (H' := Hp w0 (tlbC g13 zj (.slice Aj nj cj) :: tlS rt L3 :: tlbC g9 1 (.slice none 0 0) :: spB g y.S :: y.R)) (fun w h => h) ?_
      refine zz ?_
      (repeat (first | refine tri_seq ?_ | refine tri_then ?_))
      refine ar_held [] (tlbC g13 zj (.slice Aj nj cj) :: tlS rt L3 :: tlbC g9 1 (.slice none 0 0) :: spB g y.S :: y.R) rfl ?_
      refine ar_take 0 rfl rfl rfl ?_; refine ar_take 1 rfl rfl rfl ?_; refine ar_take 2 rfl rfl rfl ?_
      refine ar_take 3 rfl rfl rfl ?_ (hy := yl_spTab (g := g) (S := y.S) rfl rfl (has_at (atS (atS (atS at0)))))
      refine ar_take 4 rfl rfl rfl ?_; refine ar_take 5 rfl rfl rfl ?_
      refine tr_have (V := AcZ y zj × Nat × Nat) 4 #[true, true, true, true, true, true, true, true, true, true, true, true, true, true, false, false, false, false] (fun v => [(5, pR g), (9, pR g9), (11, .int .i64 (p : Int)), (56, .int .i64 (p : Int)), (70, rt.v), (71, .int .i64 3), (72, .int .i64 (j : Int)), (80, ptV 0 y.S.vn y.S.vd), (81, tlbV zj (.slice Aj nj cj)), (82, .int .i64 (p : Int)), (84, ptV 0 v.1.1.1.v v.1.1.2.1.v), (85, tlbV (zj) v.1.1.2.2.1.v), (86, .int .i64 (accF y.S.fr y.S.wr p false)), (87, .int .i64 (accE y.S.fr y.S.wr p false)), (14, pR v.2.1), (15, pR v.2.2)]) (fun v => ndS v.1.1.1 v.1.1.2.2.2.1 :: dpS v.1.1.2.1 y.ds :: teS v.1.1.2.2.1 v.1.1.2.2.2.2.2 :: ptC v.2.1 0 (.slice none 0 0) (.slice none 0 0) :: tlbC v.2.2 0 (.slice none 0 0) :: tlbC g13 zj (.slice Aj nj cj) :: tlS rt L3 :: tlbC g9 1 (.slice none 0 0) :: spB g y.S :: y.R) ?_ (fun h_cab => ?_)
      · rintro ⟨a, g14, g15⟩
        refine ar_op 14 rfl ?_
        refine au_store ?_
        refine tri_nil ?_; refine ar_in ?_
        refine ar_op 15 rfl ?_
        refine au_store ?_
        refine tri_nil ?_; refine ar_in ?_
        refine ar_take 16 rfl rfl rfl ?_; refine ar_take 17 rfl rfl rfl ?_
        refine ar_done ?_
        refine tri_weak (H' := Hp w0 (tlS rt L3 :: tlbC g9 1 (.slice none 0 0) :: spB g y.S :: y.R)) (fun w h => h.tail.tail.tail.tail.tail.tail) ?_
        rcases hcase with ⟨q1, e, f⟩ | ⟨q1, q2, e, f⟩ | ⟨q1, q2, e, f⟩
        · rw [e, f]
          (repeat (first | refine zz ?_ | refine zv fun _ => ?_))
          refine au_pure ?_ (hy := yl_idxA rfl rfl (ix_nat rfl) hp)
          refine au_pure ?_ (hy := yl_spFr (g := g) (S := y.S) rfl rfl (has_at (atS (atS at0))) hp)
          (repeat (first | refine zz ?_ | refine zv fun _ => ?_))
          rw [show decide (y.S.fr p ≥ 0) = false from decide_eq_false (by omega)]
          refine au_pure ?_ (hy := yl_neqb rfl rfl rfl)
          rw [show (((13 : Int) == 0) != false) = false from rfl]
          (repeat (first | refine zz ?_ | refine zv fun _ => ?_))
          exact tri_nx1 (j + 1) (by omega) (by omega) (by repeat (first | exact trivial | refine ⟨rfl, ?_⟩)) (fun w h => h)
        · exact absurd q2.1 (by decide)
        · have hfp : y.S.fr p = (p : Int) := by
            rcases hpgp with ⟨x1, _⟩ | ⟨x1, _⟩
            · rw [x1] at q1; omega
            · exact x1
          rw [e, f]
          (repeat (first | refine zz ?_ | refine zv fun _ => ?_))
          refine au_pure ?_ (hy := yl_idxA rfl rfl (ix_nat rfl) hp)
          refine au_pure ?_ (hy := yl_spFr (g := g) (S := y.S) rfl rfl (has_at (atS (atS at0))) hp)
          rw [hfp]
          (repeat (first | refine zz ?_ | refine zv fun _ => ?_))
          rw [show decide ((p : Int) ≥ 0) = true from decide_eq_true (by omega)]
          refine au_pure ?_ (hy := yl_neqb rfl rfl rfl)
          rw [show (((0 : Int) == 0) != true) = false from rfl]
          (repeat (first | refine zz ?_ | refine zv fun _ => ?_))
          refine au_pure ?_ (hy := yl_idxA rfl rfl (ix_nat rfl) hp)
          refine au_pure ?_ (hy := yl_spFr (g := g) (S := y.S) rfl rfl (has_at (atS (atS at0))) hp)
          rw [hfp]
          (repeat (first | refine zz ?_ | refine zv fun _ => ?_))
          rw [show ((p : Int) != (p : Int)) = false by simp]
          (repeat (first | refine zz ?_ | refine zv fun _ => ?_))
          exact tri_nx1 (j + 1) (by omega) (by omega) (by repeat (first | exact trivial | refine ⟨rfl, ?_⟩)) (fun w h => h)
      refine tr_have (V := AcZ y zj × Nat) 5 #[true, true, true, true, true, true, true, true, true, true, true, true, true, false, false, false, false, false] (fun v => [(5, pR g), (9, pR g9), (11, .int .i64 (p : Int)), (56, .int .i64 (p : Int)), (70, rt.v), (71, .int .i64 3), (72, .int .i64 (j : Int)), (80, ptV 0 y.S.vn y.S.vd), (81, tlbV zj (.slice Aj nj cj)), (82, .int .i64 (p : Int)), (84, ptV 0 v.1.1.1.v v.1.1.2.1.v), (85, tlbV (zj) v.1.1.2.2.1.v), (86, .int .i64 (accF y.S.fr y.S.wr p false)), (87, .int .i64 (accE y.S.fr y.S.wr p false)), (14, pR v.2)]) (fun v => ndS v.1.1.1 v.1.1.2.2.2.1 :: dpS v.1.1.2.1 y.ds :: teS v.1.1.2.2.1 v.1.1.2.2.2.2.2 :: ptC v.2 0 (.slice none 0 0) (.slice none 0 0) :: tlbC g13 zj (.slice Aj nj cj) :: tlS rt L3 :: tlbC g9 1 (.slice none 0 0) :: spB g y.S :: y.R) ?_ (fun h_ca => ?_)
      · rintro ⟨c, ga⟩
        refine ar_op 13 rfl ?_
        refine au_alloc (fun gb => ?_)
        refine tri_nil ?_; refine ar_in ?_
        exact tr_meet (h_cab ⟨c, ga, gb⟩) (by repeat (first | exact trivial | refine ⟨rfl, ?_⟩)) (fun w h => HpM.perm h (List.perm_middle (l₁ := [_, _, _, _])).symm)
      refine tr_have (V := AcZ y zj × Nat) 5 #[true, true, true, true, true, true, true, true, true, true, true, true, false, true, false, false, false, false] (fun v => [(5, pR g), (9, pR g9), (11, .int .i64 (p : Int)), (56, .int .i64 (p : Int)), (70, rt.v), (71, .int .i64 3), (72, .int .i64 (j : Int)), (80, ptV 0 y.S.vn y.S.vd), (81, tlbV zj (.slice Aj nj cj)), (82, .int .i64 (p : Int)), (84, ptV 0 v.1.1.1.v v.1.1.2.1.v), (85, tlbV (zj) v.1.1.2.2.1.v), (86, .int .i64 (accF y.S.fr y.S.wr p false)), (87, .int .i64 (accE y.S.fr y.S.wr p false)), (15, pR v.2)]) (fun v => ndS v.1.1.1 v.1.1.2.2.2.1 :: dpS v.1.1.2.1 y.ds :: teS v.1.1.2.2.1 v.1.1.2.2.2.2.2 :: tlbC v.2 0 (.slice none 0 0) :: tlbC g13 zj (.slice Aj nj cj) :: tlS rt L3 :: tlbC g9 1 (.slice none 0 0) :: spB g y.S :: y.R) ?_ (fun h_cb => ?_)
      · rintro ⟨c, gb⟩
        refine ar_op 12 rfl ?_
        refine au_alloc (fun ga => ?_)
        refine tri_nil ?_; refine ar_in ?_
        exact tr_meet (h_cab ⟨c, ga, gb⟩) (by repeat (first | exact trivial | refine ⟨rfl, ?_⟩)) (fun w h => HpM.perm h (List.perm_middle (l₁ := [_, _, _])).symm)
      refine tr_have (V := Nat × Nat) 10 #[true, true, true, true, true, true, false, false, false, false, false, false, true, true, false, false, false, false] (fun v => [(5, pR g), (9, pR g9), (11, .int .i64 (p : Int)), (56, .int .i64 (p : Int)), (70, rt.v), (71, .int .i64 3), (72, .int .i64 (j : Int)), (80, ptV 0 y.S.vn y.S.vd), (81, tlbV zj (.slice Aj nj cj)), (82, .int .i64 (p : Int)), (14, pR v.1), (15, pR v.2)]) (fun v => ptC v.1 0 (.slice none 0 0) (.slice none 0 0) :: tlbC v.2 0 (.slice none 0 0) :: tlbC g13 zj (.slice Aj nj cj) :: tlS rt L3 :: tlbC g9 1 (.slice none 0 0) :: spB g y.S :: y.R) ?_ (fun h_ab => ?_)
      · rintro ⟨ga, gb⟩
        refine ar_op 6 rfl ?_
        refine au_callC rfl rfl rfl rfl rfl (Access_c w0 _ (vn := y.S.vn) (vd := y.S.vd) (vb := .slice Aj nj cj) hm.pt (by repeat (first | assumption | apply RdH.cons)) (by repeat (first | assumption | apply RdH.cons)) (l := lj) (by repeat (first | assumption | apply RdH.cons)) hIv ha.pg hCE hp false) ?_
        intro c
        refine tri_nil ?_; refine ar_in ?_
        refine ar_free 7 rfl rfl rfl ?_; refine ar_free 8 rfl rfl rfl ?_; refine ar_free 9 rfl rfl rfl ?_; refine ar_free 10 rfl rfl rfl ?_; refine ar_free 11 rfl rfl rfl ?_
        exact tr_meet (h_cab ⟨c, ga, gb⟩) (by repeat (first | exact trivial | refine ⟨rfl, ?_⟩)) (fun w h => h)
      refine tr_have (V := AcZ y zj) 6 #[true, true, true, true, true, true, true, true, true, true, true, true, false, false, false, false, false, false] (fun v => [(5, pR g), (9, pR g9), (11, .int .i64 (p : Int)), (56, .int .i64 (p : Int)), (70, rt.v), (71, .int .i64 3), (72, .int .i64 (j : Int)), (80, ptV 0 y.S.vn y.S.vd), (81, tlbV zj (.slice Aj nj cj)), (82, .int .i64 (p : Int)), (84, ptV 0 v.1.1.v v.1.2.1.v), (85, tlbV (zj) v.1.2.2.1.v), (86, .int .i64 (accF y.S.fr y.S.wr p false)), (87, .int .i64 (accE y.S.fr y.S.wr p false))]) (fun v => ndS v.1.1 v.1.2.2.2.1 :: dpS v.1.2.1 y.ds :: teS v.1.2.2.1 v.1.2.2.2.2.2 :: tlbC g13 zj (.slice Aj nj cj) :: tlS rt L3 :: tlbC g9 1 (.slice none 0 0) :: spB g y.S :: y.R) ?_ (fun h_c => ?_)
      · rintro c
        refine ar_op2 12 13 rfl rfl ?_ ?_
        · refine au_alloc (fun ga => ?_)
          refine tri_nil ?_; refine ar_in ?_
          exact tr_meet (h_ca ⟨c, ga⟩) (by repeat (first | exact trivial | refine ⟨rfl, ?_⟩)) (fun w h => HpM.perm h (List.perm_middle (l₁ := [_, _, _])).symm)
        · refine au_alloc (fun gb => ?_)
          refine tri_nil ?_; refine ar_in ?_
          exact tr_meet (h_cb ⟨c, gb⟩) (by repeat (first | exact trivial | refine ⟨rfl, ?_⟩)) (fun w h => HpM.perm h (List.perm_middle (l₁ := [_, _, _])).symm)
      refine tr_have (V := Nat) 11 #[true, true, true, true, true, true, false, false, false, false, false, false, true, false, false, false, false, false] (fun v => [(5, pR g), (9, pR g9), (11, .int .i64 (p : Int)), (56, .int .i64 (p : Int)), (70, rt.v), (71, .int .i64 3), (72, .int .i64 (j : Int)), (80, ptV 0 y.S.vn y.S.vd), (81, tlbV zj (.slice Aj nj cj)), (82, .int .i64 (p : Int)), (14, pR v)]) (fun v => ptC v 0 (.slice none 0 0) (.slice none 0 0) :: tlbC g13 zj (.slice Aj nj cj) :: tlS rt L3 :: tlbC g9 1 (.slice none 0 0) :: spB g y.S :: y.R) ?_ (fun h_a => ?_)
      · rintro ga
        refine ar_op2 6 13 rfl rfl ?_ ?_
        · refine au_callC rfl rfl rfl rfl rfl (Access_c w0 _ (vn := y.S.vn) (vd := y.S.vd) (vb := .slice Aj nj cj) hm.pt (by repeat (first | assumption | apply RdH.cons)) (by repeat (first | assumption | apply RdH.cons)) (l := lj) (by repeat (first | assumption | apply RdH.cons)) hIv ha.pg hCE hp false) ?_
          intro c
          refine tri_nil ?_; refine ar_in ?_
          refine ar_free 7 rfl rfl rfl ?_; refine ar_free 8 rfl rfl rfl ?_; refine ar_free 9 rfl rfl rfl ?_; refine ar_free 10 rfl rfl rfl ?_; refine ar_free 11 rfl rfl rfl ?_
          exact tr_meet (h_ca ⟨c, ga⟩) (by repeat (first | exact trivial | refine ⟨rfl, ?_⟩)) (fun w h => h)
        · refine au_alloc (fun gb => ?_)
          refine tri_nil ?_; refine ar_in ?_
          exact tr_meet (h_ab ⟨ga, gb⟩) (by repeat (first | exact trivial | refine ⟨rfl, ?_⟩)) (fun w h => HpM.perm h (List.perm_middle (l₁ := [_])).symm)
      refine tr_have (V := Nat) 11 #[true, true, true, true, true, true, false, false, false, false, false, false, false, true, false, false, false, false] (fun v => [(5, pR g), (9, pR g9), (11, .int .i64 (p : Int)), (56, .int .i64 (p : Int)), (70, rt.v), (71, .int .i64 3), (72, .int .i64 (j : Int)), (80, ptV 0 y.S.vn y.S.vd), (81, tlbV zj (.slice Aj nj cj)), (82, .int .i64 (p : Int)), (15, pR v)]) (fun v => tlbC v 0 (.slice none 0 0) :: tlbC g13 zj (.slice Aj nj cj) :: tlS rt L3 :: tlbC g9 1 (.slice none 0 0) :: spB g y.S :: y.R) ?_ (fun h_b => ?_)
      · rintro gb
        refine ar_op2 6 12 rfl rfl ?_ ?_
        · refine au_callC rfl rfl rfl rfl rfl (Access_c w0 _ (vn := y.S.vn) (vd := y.S.vd) (vb := .slice Aj nj cj) hm.pt (by repeat (first | assumption | apply RdH.cons)) (by repeat (first | assumption | apply RdH.cons)) (l := lj) (by repeat (first | assumption | apply RdH.cons)) hIv ha.pg hCE hp false) ?_
          intro c
          refine tri_nil ?_; refine ar_in ?_
          refine ar_free 7 rfl rfl rfl ?_; refine ar_free 8 rfl rfl rfl ?_; refine ar_free 9 rfl rfl rfl ?_; refine ar_free 10 rfl rfl rfl ?_; refine ar_free 11 rfl rfl rfl ?_
          exact tr_meet (h_cb ⟨c, gb⟩) (by repeat (first | exact trivial | refine ⟨rfl, ?_⟩)) (fun w h => h)
        · refine au_alloc (fun ga => ?_)
          refine tri_nil ?_; refine ar_in ?_
          exact tr_meet (h_ab ⟨ga, gb⟩) (by repeat (first | exact trivial | refine ⟨rfl, ?_⟩)) (fun w h => h)
      refine ar_op3 6 12 13 rfl rfl rfl ?_ ?_ ?_
      · refine au_callC rfl rfl rfl rfl rfl (Access_c w0 _ (vn := y.S.vn) (vd := y.S.vd) (vb := .slice Aj nj cj) hm.pt (by repeat (first | assumption | apply RdH.cons)) (by repeat (first | assumption | apply RdH.cons)) (l := lj) (by repeat (first | assumption | apply RdH.cons)) hIv ha.pg hCE hp false) ?_
        intro c
        refine tri_nil ?_; refine ar_in ?_
        refine ar_free 7 rfl rfl rfl ?_; refine ar_free 8 rfl rfl rfl ?_; refine ar_free 9 rfl rfl rfl ?_; refine ar_free 10 rfl rfl rfl ?_; refine ar_free 11 rfl rfl rfl ?_
        exact tr_meet (h_c c) (by repeat (first | exact trivial | refine ⟨rfl, ?_⟩)) (fun w h => h)
      · refine au_alloc (fun ga => ?_)
        refine tri_nil ?_; refine ar_in ?_
        exact tr_meet (h_a ga) (by repeat (first | exact trivial | refine ⟨rfl, ?_⟩)) (fun w h => h)
      · refine au_alloc (fun gb => ?_)
        refine tri_nil ?_; refine ar_in ?_
        exact tr_meet (h_b gb) (by repeat (first | exact trivial | refine ⟨rfl, ?_⟩)) (fun w h => h)
    (repeat (first | refine zz ?_ | refine zv fun _ => ?_))
    exact tri_nx1 (p + 1) (by omega) (by omega) (by repeat (first | exact trivial | refine ⟨rfl, ?_⟩)) (fun w h => HpM.tail h)
  (repeat (first | refine zz ?_ | refine zv fun _ => ?_))
  refine au_callC rfl rfl rfl rfl rfl (aSpaced_c w0 _) (fun _ => ?_)
  (repeat (first | refine zz ?_ | refine zv fun _ => ?_))
  refine au_done1 rfl ?_
  exact fun w hw => ⟨(), rfl, hw.tail.tail.sub hr⟩
end
end Go.Proofs.YtbgjelhefhcnpaaGreat

/- From the reading of the law's arguments to their plain form. No conditions. -/
set_option linter.unusedVariables false
namespace Go.Proofs.YtbgjelhefhcnpaaGreat
open Go Go.ChangeShapes Go.WideShapes Go.ChangeAt Go.RowKit
section
variable {H : Type} {enc : TypeId × Value → H} {P : Program} {w : World} {base : Nat} {spare : Nat → Bool} {held : Bool}
theorem field_u8 {t i : Nat} {fs : Array Field} {f : Field} {cs : List Value} {x : DataW H × List MemPlace} {n : Nat} (hs : P.underlying t = some (.struct fs)) (hf : fs[i]? = some f) (hU : P.underlying f.type = some (.int .u8)) (hc : P.cellsOf f.type = 1)
    (h : DataW.trod enc P w base spare held n t cs = some x) : ∃ z, cs[f.offset]? = some (.int .u8 z) ∧ 0 ≤ z ∧ z ≤ 255 := by
  obtain ⟨xs, k, _, _, _, hlen, hg⟩ := DataW.trod_struct hs h
  have hil : i < xs.length := by rw [hlen]; exact (Array.getElem?_eq_some_iff.1 hf).1
  have := hg i f hf
  rw [List.getElem?_eq_getElem hil, hc] at this
  obtain ⟨z, h1, _, hw⟩ := DataW.trod_int hU this
  have hb : 0 ≤ z ∧ z ≤ 255 := by
    have := bounds_u8 hw; omega
  refine ⟨z, ?_, hb⟩
  have h2 : ((cs.drop f.offset).take 1)[0]? = some (.int .u8 z) := by rw [h1]; rfl
  rw [List.getElem?_take, if_pos (by omega), List.getElem?_drop] at h2
  exact h2
theorem field_u16 {t i : Nat} {fs : Array Field} {f : Field} {cs : List Value} {x : DataW H × List MemPlace} {n : Nat} (hs : P.underlying t = some (.struct fs)) (hf : fs[i]? = some f) (hU : P.underlying f.type = some (.int .u16)) (hc : P.cellsOf f.type = 1)
    (h : DataW.trod enc P w base spare held n t cs = some x) : ∃ z, cs[f.offset]? = some (.int .u16 z) ∧ 0 ≤ z ∧ z ≤ 65535 := by
  obtain ⟨xs, k, _, _, _, hlen, hg⟩ := DataW.trod_struct hs h
  have hil : i < xs.length := by rw [hlen]; exact (Array.getElem?_eq_some_iff.1 hf).1
  have := hg i f hf
  rw [List.getElem?_eq_getElem hil, hc] at this
  obtain ⟨z, h1, _, hw⟩ := DataW.trod_int hU this
  have hb : 0 ≤ z ∧ z ≤ 65535 := by
    have := bounds_u16 hw; omega
  refine ⟨z, ?_, hb⟩
  have h2 : ((cs.drop f.offset).take 1)[0]? = some (.int .u16 z) := by rw [h1]; rfl
  rw [List.getElem?_take, if_pos (by omega), List.getElem?_drop] at h2
  exact h2
end
instance : Rds Tryz.prog 29 PO POk := ⟨by kernel_rfl, fun {_ _ _ _ _ _ _ cs _} h hl => by
  obtain ⟨z0, e0, w0⟩ := field_u8 (i := 0) Tryz.underlying29 rfl Tryz.underlying5 (by kernel_rfl) h
  obtain ⟨z1, e1, w1⟩ := field_u16 (i := 1) Tryz.underlying29 rfl Tryz.underlying27 (by kernel_rfl) h
  obtain ⟨z2, e2, w2⟩ := field_u8 (i := 2) Tryz.underlying29 rfl Tryz.underlying5 (by kernel_rfl) h
  replace hl : cs.length = 3 := hl
  match cs, hl with
  | [c0, c1, c2], _ =>
    replace e0 : some c0 = some (.int .u8 z0) := e0
    replace e1 : some c1 = some (.int .u16 z1) := e1
    replace e2 : some c2 = some (.int .u8 z2) := e2
    simp only [Option.some.injEq] at e0 e1 e2
    subst e0 e1 e2
    exact ⟨⟨z0, z1, z2⟩, rfl, ⟨w0, w1, w2⟩⟩⟩
end Go.Proofs.YtbgjelhefhcnpaaGreat
