/- Texts joined: PtAsm, PtClear, PtClr2. Each part's own remark says what it proves. -/
import Derived.Test.YtbgjelhefhcnpaaGreatM27
import Derived.Test.YtbgjelhefhcnpaaGreatM26
/- The walk of a page table's Assemble. No conditions. -/
set_option linter.unusedSimpArgs false
set_option linter.unusedVariables false
namespace Go.Proofs.YtbgjelhefhcnpaaGreat
open Go Go.RowKit
theorem path_three (ns : List ND) (root : Int) {T : Tr} {a b c : Fin 8} {m : Mid} {f : Int} {e : Fin 8 → Int} (hT : T a = some m) (hs : m.s b = .leaf f e) : pathL ns root T a b c = [⟨plI ns root, 2, rootE T a⟩, ⟨plI ns m.f, 1, midE m b⟩, ⟨plI ns f, 0, e c⟩] := by
  unfold pathL midP legP
  simp only [hT, hs]
theorem path_less (ns : List ND) (root : Int) {T : Tr} {a b c : Fin 8} (h : (lvT T a b c).1 ≠ 0) : (pathL ns root T a b c).length < 3 := by
  unfold lvT at h
  unfold pathL midP
  cases hT : T a with
  | none => simp
  | some m =>
    rw [hT] at h
    simp only at h ⊢
    unfold legP
    cases hs : m.s b with
    | no => simp
    | huge w f => simp
    | leaf f e => rw [hs] at h; exact absurd rfl h
attribute [local irreducible] decR ixL endP pgT pathL joinM asmE
attribute [local irreducible] Code.wp wpList bodyPost Exit.then Exit.inBlock Calls wpQuiet Tri TriQ
section
variable (w0 : World) (cs : List Chunk)
section
variable {root : Int} {T : Tr} {ns : List ND} {ds : List DP} (h : PtOk root T ns ds) {vn vd : Value} (hN : RdH (Hp w0 cs) vn ns) (hD : RdH (Hp w0 cs) vd ds) {g : Nat} (hg : g < 64)
include h hN hD hg
set_option maxHeartbeats 4000000 in
theorem Assemble_lvl (hl : (pgT T (8 * g)).1 ≠ 0) : Cal Tryz.prog 16 [ptV root vn vd, .int .i64 (g : Int)] (Hp w0 cs) (fun _ : Unit => .tuple #[ptV 0 (.slice none 0 0) (.slice none 0 0), .int .i64 6]) (fun _ => Hp w0 cs) := by
  have hnl := h.nlen
  have hp : 8 * g < 512 := by omega
  have hless : (pathL ns root T (dgF (8 * g) 2) (dgF (8 * g) 1) (dgF (8 * g) 0)).length < 3 := path_less ns root (by unfold pgT at hl; exact hl)
  obtain ⟨L, hL⟩ : ∃ L, L = pathL ns root T (dgF (8 * g) 2) (dgF (8 * g) 1) (dgF (8 * g) 0) := ⟨_, rfl⟩
  rw [← hL] at hless
  refine cal_of_tri Tryz.func16 rfl Tryz.ntmps16 rfl ?_
  (repeat (first | refine tri_seq ?_ | refine tri_then ?_)); refine tri_region ?_; (repeat (first | refine au_pure ?_ | refine au_pass ?_ | refine au_box (fun _ => ?_) | refine au_alloc (fun _ => ?_) | refine au_store ?_ | refine au_make rfl rfl (fun _ => ?_) | refine au_lit rfl rfl rfl (fun _ => ?_) | refine au_append rfl rfl rfl rfl (fun _ => au_norm ?_) | refine au_storeE rfl rfl rfl rfl ?_)); refine tri_nil ?_; (repeat refine tri_then ?_)
  rename_i g2 g4
  refine tri_weak (H' := Hp w0 (ptC g4 0 (.slice none 0 0) (.slice none 0 0) :: ptC g2 root vn vd :: cs)) (fun w h => h) ?_
  (repeat (first | refine zz ?_ | refine zv fun _ => ?_))
  refine au_callC rfl rfl rfl rfl rfl (checked_c w0 _ (vn := vn) (vd := vd) h hN.cons.cons hD.cons.cons (n := (g : Int)) (m := 64) (by omega)) (fun _ => ?_)
  (repeat (first | refine zz ?_ | refine zv fun _ => ?_))
  rw [show IntKind.i64.wrap ((g : Int) * 8) = ((8 * g : Nat) : Int) by rw [wrap_i64 (by omega)]; omega]
  (repeat (first | refine zz ?_ | refine zv fun _ => ?_))
  refine au_callC rfl rfl rfl rfl rfl (path_c w0 _ (vn := vn) (vd := vd) h hN.cons.cons (by omega) hp) ?_
  intro r
  rw [← hL]
  refine tri_weak (H' := Hp w0 (spS r L :: ptC g4 0 (.slice none 0 0) (.slice none 0 0) :: ptC g2 root vn vd :: cs)) (fun w h => h) ?_
  (repeat (first | refine zz ?_ | refine zv fun _ => ?_))
  refine au_pure ?_ (hy := yl_len rfl rfl (rd_chunk (r := r) (l := L) ⟨0, rfl⟩))
  (repeat (first | refine zz ?_ | refine zv fun _ => ?_))
  rw [show ((L.length : Int) != 3) = true by simp; omega]
  (repeat (first | refine zz ?_ | refine zv fun _ => ?_))
  refine au_done2 rfl ?_
  exact fun w hw => ⟨(), rfl, hw.tail.tail.tail⟩
section
variable {m : Mid} {f : Int} {e : Fin 8 → Int} (hT : T (dgF (8 * g) 2) = some m) (hs : m.s (dgF (8 * g) 1) = .leaf f e)
include hT hs
set_option maxHeartbeats 4000000 in
theorem Assemble_err {c : Int} (hc : c ≠ 0) (hj : (joinM (grpW T g)).2 = c) : Cal Tryz.prog 16 [ptV root vn vd, .int .i64 (g : Int)] (Hp w0 cs) (fun _ : Unit => .tuple #[ptV 0 (.slice none 0 0) (.slice none 0 0), .int .i64 c]) (fun _ => Hp w0 cs) := by
  have hnl := h.nlen
  have hp : 8 * g < 512 := by omega
  obtain ⟨k2, j1, j2, j3, _⟩ := h.pl (leaf_mem (root := root) hT hs)
  have j1 : plI ns f = (k2 : Int) := j1
  have hpth := path_three ns root (c := dgF (8 * g) 0) hT hs
  rw [j1] at hpth
  obtain ⟨L, hL⟩ : ∃ L, L = pathL ns root T (dgF (8 * g) 2) (dgF (8 * g) 1) (dgF (8 * g) 0) := ⟨_, rfl⟩
  rw [← hL] at hpth
  have hL3 : L.length = 3 := by rw [hpth]; rfl
  have hL2n : (L.getD 2 default).n = (k2 : Int) := by rw [hpth]; rfl
  have hgw := grp_leaf hg hT hs
  have hok := (h.t.s _ m hT (dgF (8 * g) 1)).l f e hs
  have hwb : ∀ j, 0 ≤ ((grpW T g).getD j default).v ∧ ((grpW T g).getD j default).v < 18446744073709551616 := fun j => by
    by_cases hj8 : j < 8
    · rw [hgw]
      have hj' : j = 0 ∨ j = 1 ∨ j = 2 ∨ j = 3 ∨ j = 4 ∨ j = 5 ∨ j = 6 ∨ j = 7 := by omega
      rcases hj' with rfl | rfl | rfl | rfl | rfl | rfl | rfl | rfl <;> exact (hok _).2.2
    · rw [List.getD_eq_getElem?_getD, List.getElem?_eq_none (by rw [grp_len]; omega)]
      exact ⟨Int.le_refl 0, by show (0 : Int) < _; decide⟩
  have hjoin := fun cs' => join_c w0 cs' (grpW T g) (grp_len T g) hwb
  rw [hj, hgw] at hjoin
  rw [hgw] at hj
  refine cal_of_tri Tryz.func16 rfl Tryz.ntmps16 rfl ?_
  (repeat (first | refine tri_seq ?_ | refine tri_then ?_)); refine tri_region ?_; (repeat (first | refine au_pure ?_ | refine au_pass ?_ | refine au_box (fun _ => ?_) | refine au_alloc (fun _ => ?_) | refine au_store ?_ | refine au_make rfl rfl (fun _ => ?_) | refine au_lit rfl rfl rfl (fun _ => ?_) | refine au_append rfl rfl rfl rfl (fun _ => au_norm ?_) | refine au_storeE rfl rfl rfl rfl ?_)); refine tri_nil ?_; (repeat refine tri_then ?_)
  rename_i g2 g4
  refine tri_weak (H' := Hp w0 (ptC g4 0 (.slice none 0 0) (.slice none 0 0) :: ptC g2 root vn vd :: cs)) (fun w h => h) ?_
  (repeat (first | refine zz ?_ | refine zv fun _ => ?_))
  refine au_callC rfl rfl rfl rfl rfl (checked_c w0 _ (vn := vn) (vd := vd) h hN.cons.cons hD.cons.cons (n := (g : Int)) (m := 64) (by omega)) (fun _ => ?_)
  (repeat (first | refine zz ?_ | refine zv fun _ => ?_))
  rw [show IntKind.i64.wrap ((g : Int) * 8) = ((8 * g : Nat) : Int) by rw [wrap_i64 (by omega)]; omega]
  (repeat (first | refine zz ?_ | refine zv fun _ => ?_))
  refine au_callC rfl rfl rfl rfl rfl (path_c w0 _ (vn := vn) (vd := vd) h hN.cons.cons (by omega) hp) ?_
  intro r
  rw [← hL]
  refine tri_weak (H' := Hp w0 (spS r L :: ptC g4 0 (.slice none 0 0) (.slice none 0 0) :: ptC g2 root vn vd :: cs)) (fun w h => h) ?_
  have hP : ∀ X, RdH (Hp w0 (spS r L :: X)) r.v L := fun X => rd_chunk (r := r) (l := L) ⟨0, rfl⟩
  (repeat (first | refine zz ?_ | refine zv fun _ => ?_))
  refine au_pure ?_ (hy := yl_len rfl rfl (hP _))
  (repeat (first | refine zz ?_ | refine zv fun _ => ?_))
  rw [hL3]
  (repeat (first | refine zz ?_ | refine zv fun _ => ?_))
  (repeat (first | refine tri_seq ?_ | refine tri_then ?_))
  refine ar_held [9] (spS r L :: ptC g4 0 (.slice none 0 0) (.slice none 0 0) :: ptC g2 root vn vd :: cs) rfl ?_
  refine ar_take 0 rfl rfl rfl ?_; refine ar_take 1 rfl rfl rfl ?_; refine ar_take 2 rfl rfl rfl ?_
  refine ar_take 3 rfl rfl rfl ?_ (hy := yl_idx (k := 2) rfl rfl (hP _) (ix_eq rfl rfl) (by rfl) (by omega))
  refine ar_take 4 rfl rfl rfl ?_
  refine ar_take 5 rfl rfl rfl ?_ (hy := yl_loadE rfl rfl (hP _) (by rfl) (by omega) (by rfl))
  refine ar_take 6 rfl rfl rfl ?_ (hy := yl_idx (k := k2) rfl rfl hN.cons.cons.cons (ix_eq rfl hL2n.symm) (by rfl) j2)
  refine ar_take 7 rfl rfl rfl ?_ (hy := yl_loadEN rfl rfl hN.cons.cons.cons (by rfl) j2 (by repeat (first | exact nf0 rfl | apply nfS rfl | exact nfR)) (by rfl))
  rw [j3]
  refine ar_op 8 rfl ?_
  refine au_alloc (fun g9 => ?_)
  refine tri_nil ?_; refine ar_in ?_
  refine ar_op 9 rfl ?_
  refine au_store ?_
  refine tri_nil ?_; refine ar_ink ?_
  refine ar_done ?_
  refine tri_weak (H' := Hp w0 (ndE g9 ⟨f, e⟩ :: spS r L :: ptC g4 0 (.slice none 0 0) (.slice none 0 0) :: ptC g2 root vn vd :: cs)) (fun w h => h) ?_
  (repeat (first | refine zz ?_ | refine zv fun _ => ?_))
  refine au_callC rfl rfl rfl rfl rfl (hjoin _) (fun _ => ?_)
  (repeat (first | refine zz ?_ | refine zv fun _ => ?_))
  rw [show (c != 0) = true by simpa using hc]
  (repeat (first | refine zz ?_ | refine zv fun _ => ?_))
  refine au_done2 rfl ?_
  exact fun w hw => ⟨(), rfl, hw.tail.tail.tail.tail⟩
set_option maxHeartbeats 4000000 in
theorem Assemble_yes {w : Int} (hj : joinM (grpW T g) = (w, 0)) : Cal Tryz.prog 16 [ptV root vn vd, .int .i64 (g : Int)] (Hp w0 cs) (fun y : {y : Row × Row × List ND × List DP × Tr // AsmOk root T y.2.2.2.2 y.2.2.1 y.2.2.2.1 g w} => .tuple #[ptV root y.1.1.v y.1.2.1.v, .int .i64 0])
    (fun y => Hp w0 (ndS y.1.1 y.1.2.2.1 :: dpS y.1.2.1 y.1.2.2.2.1 :: cs)) := by
  have hnl := h.nlen
  have hdl := h.dlen
  have hp : 8 * g < 512 := by omega
  obtain ⟨k2, j1, j2, j3, _⟩ := h.pl (leaf_mem (root := root) hT hs)
  have j1 : plI ns f = (k2 : Int) := j1
  obtain ⟨k1, i1, i2, i3, _⟩ := h.pl (mid_mem (root := root) hT)
  have i1 : plI ns m.f = (k1 : Int) := i1
  have hpth := path_three ns root (c := dgF (8 * g) 0) hT hs
  have hput := put_eq i1 (dgF (8 * g) 1) w
  rw [i3] at hput
  obtain ⟨n, a, b, c, hjo⟩ := join_info (grp_len T g) hj
  have hhu : huW w := ⟨by rw [hjo.dw], by rw [hjo.dw], by rw [hjo.dw], hjo.rg.1, hjo.rg.2⟩
  have hasm := fun i hi => asm_ok h hp hT hs hhu j1 (i := i) hi
  rw [show 8 * g / 8 = g by omega] at hasm
  rw [j1, i1] at hpth
  obtain ⟨L, hL⟩ : ∃ L, L = pathL ns root T (dgF (8 * g) 2) (dgF (8 * g) 1) (dgF (8 * g) 0) := ⟨_, rfl⟩
  rw [← hL] at hpth
  have hL3 : L.length = 3 := by rw [hpth]; rfl
  have hL2n : (L.getD 2 default).n = (k2 : Int) := by rw [hpth]; rfl
  have hL1n : (L.getD 1 default).n = (k1 : Int) := by rw [hpth]; rfl
  have hgw := grp_leaf hg hT hs
  have hok := (h.t.s _ m hT (dgF (8 * g) 1)).l f e hs
  have hwb : ∀ j, 0 ≤ ((grpW T g).getD j default).v ∧ ((grpW T g).getD j default).v < 18446744073709551616 := fun j => by
    by_cases hj8 : j < 8
    · rw [hgw]
      have hj' : j = 0 ∨ j = 1 ∨ j = 2 ∨ j = 3 ∨ j = 4 ∨ j = 5 ∨ j = 6 ∨ j = 7 := by omega
      rcases hj' with rfl | rfl | rfl | rfl | rfl | rfl | rfl | rfl <;> exact (hok _).2.2
    · rw [List.getD_eq_getElem?_getD, List.getElem?_eq_none (by rw [grp_len]; omega)]
      exact ⟨Int.le_refl 0, by show (0 : Int) < _; decide⟩
  have hjoin := fun cs' => join_c w0 cs' (grpW T g) (grp_len T g) hwb
  rw [hj, hgw] at hjoin
  have hdo : ds.Pairwise fun a b => a.g < b.g := by rw [h.d]; exact deps_asc _
  refine cal_of_tri Tryz.func16 rfl Tryz.ntmps16 rfl ?_
  (repeat (first | refine tri_seq ?_ | refine tri_then ?_)); refine tri_region ?_; (repeat (first | refine au_pure ?_ | refine au_pass ?_ | refine au_box (fun _ => ?_) | refine au_alloc (fun _ => ?_) | refine au_store ?_ | refine au_make rfl rfl (fun _ => ?_) | refine au_lit rfl rfl rfl (fun _ => ?_) | refine au_append rfl rfl rfl rfl (fun _ => au_norm ?_) | refine au_storeE rfl rfl rfl rfl ?_)); refine tri_nil ?_; (repeat refine tri_then ?_)
  rename_i g2 g4
  refine tri_weak (H' := Hp w0 (ptC g4 0 (.slice none 0 0) (.slice none 0 0) :: ptC g2 root vn vd :: cs)) (fun w h => h) ?_
  (repeat (first | refine zz ?_ | refine zv fun _ => ?_))
  refine au_callC rfl rfl rfl rfl rfl (checked_c w0 _ (vn := vn) (vd := vd) h hN.cons.cons hD.cons.cons (n := (g : Int)) (m := 64) (by omega)) (fun _ => ?_)
  (repeat (first | refine zz ?_ | refine zv fun _ => ?_))
  rw [show IntKind.i64.wrap ((g : Int) * 8) = ((8 * g : Nat) : Int) by rw [wrap_i64 (by omega)]; omega]
  (repeat (first | refine zz ?_ | refine zv fun _ => ?_))
  refine au_callC rfl rfl rfl rfl rfl (path_c w0 _ (vn := vn) (vd := vd) h hN.cons.cons (by omega) hp) ?_
  intro r
  rw [← hL]
  refine tri_weak (H' := Hp w0 (spS r L :: ptC g4 0 (.slice none 0 0) (.slice none 0 0) :: ptC g2 root vn vd :: cs)) (fun w h => h) ?_
  have hP : ∀ X, RdH (Hp w0 (spS r L :: X)) r.v L := fun X => rd_chunk (r := r) (l := L) ⟨0, rfl⟩
  (repeat (first | refine zz ?_ | refine zv fun _ => ?_))
  refine au_pure ?_ (hy := yl_len rfl rfl (hP _))
  (repeat (first | refine zz ?_ | refine zv fun _ => ?_))
  rw [hL3]
  (repeat (first | refine zz ?_ | refine zv fun _ => ?_))
  (repeat (first | refine tri_seq ?_ | refine tri_then ?_))
  refine ar_held [9] (spS r L :: ptC g4 0 (.slice none 0 0) (.slice none 0 0) :: ptC g2 root vn vd :: cs) rfl ?_
  refine ar_take 0 rfl rfl rfl ?_; refine ar_take 1 rfl rfl rfl ?_; refine ar_take 2 rfl rfl rfl ?_
  refine ar_take 3 rfl rfl rfl ?_ (hy := yl_idx (k := 2) rfl rfl (hP _) (ix_eq rfl rfl) (by rfl) (by omega))
  refine ar_take 4 rfl rfl rfl ?_
  refine ar_take 5 rfl rfl rfl ?_ (hy := yl_loadE rfl rfl (hP _) (by rfl) (by omega) (by rfl))
  refine ar_take 6 rfl rfl rfl ?_ (hy := yl_idx (k := k2) rfl rfl hN.cons.cons.cons (ix_eq rfl hL2n.symm) (by rfl) j2)
  refine ar_take 7 rfl rfl rfl ?_ (hy := yl_loadEN rfl rfl hN.cons.cons.cons (by rfl) j2 (by repeat (first | exact nf0 rfl | apply nfS rfl | exact nfR)) (by rfl))
  rw [j3]
  refine ar_op 8 rfl ?_
  refine au_alloc (fun g9 => ?_)
  refine tri_nil ?_; refine ar_in ?_
  refine ar_op 9 rfl ?_
  refine au_store ?_
  refine tri_nil ?_; refine ar_ink ?_
  refine ar_done ?_
  refine tri_weak (H' := Hp w0 (ndE g9 ⟨f, e⟩ :: spS r L :: ptC g4 0 (.slice none 0 0) (.slice none 0 0) :: ptC g2 root vn vd :: cs)) (fun w h => h) ?_
  (repeat (first | refine zz ?_ | refine zv fun _ => ?_))
  refine au_callC rfl rfl rfl rfl rfl (hjoin _) (fun _ => ?_)
  (repeat (first | refine zz ?_ | refine zv fun _ => ?_))
  refine au_callC rfl rfl rfl rfl rfl (ptclone_c w0 _ (root := root) (vn := vn) (vd := vd) hN.cons.cons.cons.cons hD.cons.cons.cons.cons (by omega) (by omega)) ?_
  rintro ⟨rn, rd⟩
  refine zv fun g12 => ?_
  refine zz ?_
  refine tri_weak (H' := Hp w0 (ndS rn ns :: ptC g12 root rn.v rd.v :: dpS rd ds :: ndE g9 ⟨f, e⟩ :: spS r L :: ptC g4 0 (.slice none 0 0) (.slice none 0 0) :: ptC g2 root vn vd :: cs)) (fun w h => HpM.perm h (List.Perm.swap _ _ _)) ?_
  have hP2 : ∀ A B C D X, RdH (Hp w0 (A :: B :: C :: D :: spS r L :: X)) r.v L := fun A B C D X => rd_chunk (r := r) (l := L) ⟨4, rfl⟩
  (repeat (first | refine zz ?_ | refine zv fun _ => ?_))
  (repeat (first | refine tri_seq ?_ | refine tri_then ?_))
  refine ar_held [12] (ndS rn ns :: ptC g12 root rn.v rd.v :: dpS rd ds :: ndE g9 ⟨f, e⟩ :: spS r L :: ptC g4 0 (.slice none 0 0) (.slice none 0 0) :: ptC g2 root vn vd :: cs) rfl ?_
  refine ar_take 0 rfl rfl rfl ?_; refine ar_take 1 rfl rfl rfl ?_; refine ar_take 2 rfl rfl rfl ?_
  refine ar_take 3 rfl rfl rfl ?_ (hy := yl_idx (k := 1) rfl rfl (hP2 _ _ _ _ _) (ix_eq rfl rfl) (by rfl) (by omega))
  refine ar_take 4 rfl rfl rfl ?_
  refine ar_take 5 rfl rfl rfl ?_ (hy := yl_loadE rfl rfl (hP2 _ _ _ _ _) (by rfl) (by omega) (by rfl))
  refine ar_take 6 rfl rfl rfl ?_; refine ar_take 8 rfl rfl rfl ?_
  refine ar_take 9 rfl rfl rfl ?_ (hy := yl_idx (k := k1) rfl rfl (rd_chunk (r := rn) (l := ns) ⟨0, rfl⟩) (ix_eq rfl hL1n.symm) (by rfl) i2)
  refine ar_take 10 rfl rfl rfl ?_ (hy := yl_fieldE rfl rfl)
  refine ar_op 7 rfl ?_
  refine au_callC rfl rfl rfl rfl rfl (digit_c w0 _ (8 * g) 1 (by omega) (by omega)) (fun _ => ?_)
  refine tri_nil ?_; refine ar_in ?_
  refine ar_take 11 rfl rfl rfl ?_ (hy := yl_idxE (j := digM (8 * g) 1) rfl rfl (ix_nat rfl) (dig_lt (8 * g) 1))
  refine ar_op 12 rfl ?_
  have hd := dig_lt (8 * g) 1
  refine au_storeE (k := k1) (f := 1 + digM (8 * g) 1) (a := (⟨(ns.getD k1 default).f, updF (ns.getD k1 default).e (dgF (8 * g) 1) w⟩ : ND)) rfl rfl rfl rfl ?_ (hf := Nat.ble_eq_true_of_le (by show 1 + digM (8 * g) 1 + 1 ≤ 9; omega)) (ha0 := by
    show Enc.dec (setL (Enc.enc (ns.getD k1 default)) (1 + (dgF (8 * g) 1).val) [.int .u64 w]) = _
    rw [nd_set, nd_dec]) (ha := nd_set (ns.getD k1 default) (dgF (8 * g) 1) w)
  refine tri_nil ?_; refine ar_ink ?_
  refine ar_done ?_
  rw [i3, ← hput]
  obtain ⟨N1, hN1⟩ : ∃ N1, N1 = putL ns m.f (dgF (8 * g) 1) w := ⟨_, rfl⟩
  have hN1l : N1.length = ns.length := by rw [hN1]; exact put_len ..
  rw [← hN1] at hasm ⊢
  refine tri_weak (H' := Hp w0 (ndS rn N1 :: ptC g12 root rn.v rd.v :: dpS rd ds :: ndE g9 ⟨f, e⟩ :: spS r L :: ptC g4 0 (.slice none 0 0) (.slice none 0 0) :: ptC g2 root vn vd :: cs)) (fun w h => h) ?_
  (repeat (first | refine zz ?_ | refine zv fun _ => ?_))
  (repeat (first | refine tri_seq ?_ | refine tri_then ?_))
  refine ar_held [13] (ptC g12 root rn.v rd.v :: dpS rd ds :: ndE g9 ⟨f, e⟩ :: spS r L :: ptC g4 0 (.slice none 0 0) (.slice none 0 0) :: ptC g2 root vn vd :: cs) rfl ?_
  refine ar_take 0 rfl rfl rfl ?_; refine ar_take 1 rfl rfl rfl ?_; refine ar_take 2 rfl rfl rfl ?_
  refine ar_take 3 rfl rfl rfl ?_ (hy := yl_idx (k := 2) rfl rfl (rd_chunk (r := r) (l := L) ⟨3, rfl⟩) (ix_eq rfl rfl) (by rfl) (by omega))
  refine ar_take 4 rfl rfl rfl ?_
  refine ar_take 5 rfl rfl rfl ?_ (hy := yl_loadE rfl rfl (rd_chunk (r := r) (l := L) ⟨3, rfl⟩) (by rfl) (by omega) (by rfl))
  refine ar_take 6 rfl rfl rfl ?_
  refine ar_take 7 rfl rfl rfl ?_ (hy := yl_idx (k := 2) rfl rfl (rd_chunk (r := r) (l := L) ⟨3, rfl⟩) (ix_eq rfl rfl) (by rfl) (by omega))
  refine ar_take 8 rfl rfl rfl ?_
  refine ar_take 9 rfl rfl rfl ?_ (hy := yl_loadE rfl rfl (rd_chunk (r := r) (l := L) ⟨3, rfl⟩) (by rfl) (by omega) (by rfl))
  rw [hL2n]
  refine ar_take 10 rfl rfl rfl ?_
  refine ar_op 11 rfl ?_
  refine au_callC rfl rfl rfl rfl rfl (deleteN_c w0 _ (r := rn) (l := N1) (i := k2) (by omega) (by omega)) ?_
  intro r2
  obtain ⟨N2, hN2⟩ : ∃ N2, N2 = N1.take k2 ++ N1.drop (k2 + 1) := ⟨_, rfl⟩
  rw [← hN2] at hasm ⊢
  refine tri_weak (H' := Hp w0 (ndS r2 N2 :: ptC g12 root rn.v rd.v :: dpS rd ds :: ndE g9 ⟨f, e⟩ :: spS r L :: ptC g4 0 (.slice none 0 0) (.slice none 0 0) :: ptC g2 root vn vd :: cs)) (fun w h => h) ?_
  refine tri_nil ?_; refine ar_in ?_
  refine ar_take 12 rfl rfl rfl ?_
  refine ar_op 13 rfl ?_
  refine au_store ?_
  refine tri_nil ?_; refine ar_ink ?_
  refine ar_done ?_
  refine tri_weak (H' := Hp w0 (ptC g12 root r2.v rd.v :: dpS rd ds :: ndS r2 N2 :: ndE g9 ⟨f, e⟩ :: spS r L :: ptC g4 0 (.slice none 0 0) (.slice none 0 0) :: ptC g2 root vn vd :: cs)) (fun w h => HpM.perm h ((List.Perm.swap _ _ _).trans (List.Perm.cons _ (List.Perm.swap _ _ _)))) ?_
  (repeat (first | refine zz ?_ | refine zv fun _ => ?_))
  refine au_callC rfl rfl rfl rfl rfl (deposit_c w0 _ hdo (by omega) (vn := r2.v) (rd := rd) (gt := g12) (root := root) (g := (g : Int)) (f := f)) ?_
  intro y
  obtain ⟨T2, hok2⟩ := hasm y.2.1 y.2.2
  (repeat (first | refine zz ?_ | refine zv fun _ => ?_))
  refine au_done2 rfl ?_
  refine fun w hw => ⟨⟨⟨r2, y.1, N2, _, T2⟩, hok2⟩, rfl, ?_⟩
  exact (hw.tail.sub (List.Sublist.cons_cons _ (List.Sublist.cons_cons _ (List.Sublist.cons _ (List.Sublist.cons _ (List.Sublist.cons _ (List.Sublist.cons _ (List.Sublist.refl _)))))))).perm (List.Perm.swap _ _ _)
end
end
end
end Go.Proofs.YtbgjelhefhcnpaaGreat

/- The walk of a page table's Clear. No conditions. -/
set_option linter.unusedSimpArgs false
set_option linter.unusedVariables false
namespace Go.Proofs.YtbgjelhefhcnpaaGreat
open Go Go.RowKit
theorem clrN_len (ns : List ND) (ks : Nat → Nat) (O : Nat → ND) (p : Nat) : ∀ j, (clrN ns ks O p j).length = ns.length
  | 0 => rfl
  | j + 1 => by rw [clrN, List.length_set]; exact clrN_len ns ks O p j
theorem clrN_at (ns : List ND) (ks : Nat → Nat) (O : Nat → ND) (p : Nat) (hk : ∀ i, i ≤ 2 → ks i < ns.length) {i : Nat} (hi : i ≤ 2) (hd : ∀ j, j ≤ 2 → i < j → ks i ≠ ks j) : ∀ j, j ≤ 2 - i → (clrN ns ks O p j).getD (ks i) default = ns.getD (ks i) default
  | 0, _ => rfl
  | j + 1, hj => by
    rw [clrN, getD_set _ (by rw [clrN_len]; exact hk _ (by omega)), if_neg (hd (2 - j) (by omega) (by omega))]
    exact clrN_at ns ks O p hk hi hd j (by omega)
/-- The test of DeleteFunc. -/
def inF (F : List Int) (x : ND) : Bool := F.any (eqB x.f)
attribute [local irreducible] decR ixL endP pgT pathL isZ clrN clrF
attribute [local irreducible] Code.wp wpList bodyPost Exit.then Exit.inBlock Calls wpQuiet Tri TriQ
section
variable (w0 : World) (cs : List Chunk)
theorem ctest_c {g12 : Nat} {rf : Row} {F : List Int} (hl : F.length ≤ 100) (l : List ND) : TstN w0 (inS rf F :: blkC g12 92 [rf.v] :: cs) 77 [pR g12] (inF F) l := by
  intro ds x _
  refine cal_of_tri Tryz.func77 rfl Tryz.ntmps77 rfl ?_
  (repeat (first | refine tri_seq ?_ | refine tri_then ?_)); refine tri_region ?_; (repeat (first | refine au_pure ?_ | refine au_pass ?_ | refine au_box (fun _ => ?_) | refine au_alloc (fun _ => ?_) | refine au_store ?_ | refine au_make rfl rfl (fun _ => ?_) | refine au_lit rfl rfl rfl (fun _ => ?_) | refine au_append rfl rfl rfl rfl (fun _ => au_norm ?_) | refine au_storeE rfl rfl rfl rfl ?_)); refine tri_nil ?_; (repeat refine tri_then ?_)
  rename_i g2
  refine tri_weak (H' := Hp w0 (inS rf F :: blkC g12 92 [rf.v] :: ndE g2 x :: (ds ++ cs))) (fun w h => by
    refine HpM.perm h ?_
    refine (List.Perm.cons _ (List.perm_middle.trans (List.Perm.cons _ List.perm_middle))).trans ?_
    exact (List.Perm.swap _ _ _).trans (List.Perm.cons _ (List.Perm.swap _ _ _))) ?_
  (repeat (first | refine zz ?_ | refine zv fun _ => ?_))
  refine au_callC rfl rfl rfl rfl rfl (containsI_c w0 _ x.f (rd_chunk (r := rf) (l := F) ⟨0, rfl⟩) (by omega)) (fun _ => ?_)
  (repeat (first | refine zz ?_ | refine zv fun _ => ?_))
  refine au_done1 rfl ?_
  refine fun w hw => ⟨(), rfl, ?_⟩
  have h2 := hw.sub (cs' := inS rf F :: blkC g12 92 [rf.v] :: (ds ++ cs)) (List.Sublist.cons_cons _ (List.Sublist.cons_cons _ (List.Sublist.cons _ (List.Sublist.refl _))))
  refine HpM.perm h2 ?_
  exact (List.perm_middle.trans (List.Perm.cons _ List.perm_middle)).symm
/-- What Clear's loop goes by. -/
structure ClrL (root : Int) (T : Tr) (ns : List ND) (p : Nat) (L : List SP) (ks : Nat → Nat) (O : Nat → ND) : Prop where
  len : L.length = 3
  n : ∀ i, i ≤ 2 → (L.getD i default).n = (ks i : Int)
  l : ∀ i, i ≤ 2 → (L.getD i default).l = ((2 - i : Nat) : Int)
  k : ∀ i, i ≤ 2 → ks i < ns.length
  o : ∀ i, i ≤ 2 → ns.getD (ks i) default = O i
  d : ∀ i j, i ≤ 2 → j ≤ 2 → i < j → ks i ≠ ks j
  w : (L.getD 2 default).w = (pgT T p).2
  fin : ∀ (ds : List DP) j, PtOk root T ns ds → j ≤ 2 → (∀ i, i < j → isZ (clrX O p (2 - i)).e = true) → (j = 2 ∨ isZ (clrX O p (2 - j)).e = false) → ∃ T', ClrOk root T T' ((clrN ns ks O p (j + 1)).filter fun x => !inF (clrF O j) x) ds p
theorem clr_known {root : Int} {T : Tr} {ns : List ND} {ds : List DP} (h : PtOk root T ns ds) {p : Nat} (hp : p < 512) {o : Int} (hlv : pgT T p = (0, o)) : ∃ ks O, ClrL root T ns p (pathL ns root T (dgF p 2) (dgF p 1) (dgF p 0)) ks O := by
  obtain ⟨m, f, e, hT, hs, he⟩ := pg_leaf hlv
  obtain ⟨k0, a1, a2, a3, _⟩ := h.pl (root_mem root T)
  obtain ⟨k1, b1, b2, b3, _⟩ := h.pl (mid_mem (root := root) hT)
  obtain ⟨k2, c1, c2, c3, _⟩ := h.pl (leaf_mem (root := root) hT hs)
  have a1 : plI ns root = (k0 : Int) := a1
  have b1 : plI ns m.f = (k1 : Int) := b1
  have c1 : plI ns f = (k2 : Int) := c1
  obtain ⟨ne1, ne2, ne3⟩ := clr_ne h hT hs ⟨a2, a3⟩ ⟨b2, b3⟩ ⟨c2, c3⟩
  have hpth := path_three ns root (c := dgF p 0) hT hs
  rw [a1, b1, c1] at hpth
  rw [hpth]
  have h3 : ∀ i, i ≤ 2 → i = 0 ∨ i = 1 ∨ i = 2 := fun i hi => by omega
  refine ⟨fun i => if i = 0 then k0 else if i = 1 then k1 else k2, fun i => if i = 0 then ⟨root, rootE T⟩ else if i = 1 then ⟨m.f, midE m⟩ else ⟨f, e⟩, rfl, fun i hi => ?_, fun i hi => ?_, fun i hi => ?_, fun i hi => ?_, fun i j hi hj hij => ?_, ?_, fun ds' j h' hj hz hn => ?_⟩
  · rcases h3 i hi with rfl | rfl | rfl <;> rfl
  · rcases h3 i hi with rfl | rfl | rfl <;> rfl
  · rcases h3 i hi with rfl | rfl | rfl
    · exact a2
    · exact b2
    · exact c2
  · rcases h3 i hi with rfl | rfl | rfl
    · exact a3
    · exact b3
    · exact c3
  · rcases h3 i hi with rfl | rfl | rfl <;> rcases h3 j hj with rfl | rfl | rfl
    · exact absurd hij (by decide)
    · exact ne1
    · exact ne2
    · exact absurd hij (by decide)
    · exact absurd hij (by decide)
    · exact ne3
    · exact absurd hij (by decide)
    · exact absurd hij (by decide)
    · exact absurd hij (by decide)
  · rw [hlv]; exact he
  · have z0 : ∀ (P : Prop), (0 < 1 ∨ P) := fun P => .inl (by decide)
    have hput : putL ns (endP root T p).1 (dgF p 0) 0 = ns.set k2 ⟨f, updF e (dgF p 0) 0⟩ := by
      have hend : (endP root T p).1 = f := by unfold endP endT; rw [hT]; dsimp only; rw [hs]
      rw [hend, put_eq c1, c3]
    rcases h3 j hj with rfl | rfl | rfl
    · obtain ⟨T', q1, q2, q3⟩ := put_leaf h' hp hlv zero_pg
      rw [hput] at q1
      refine ⟨T', ?_, fun q hq => ?_, fun x hx => q3.mem_iff.1 hx⟩
      · have : ((clrN ns (fun i => if i = 0 then k0 else if i = 1 then k1 else k2) (fun i => if i = 0 then ⟨root, rootE T⟩ else if i = 1 then ⟨m.f, midE m⟩ else ⟨f, e⟩) p (0 + 1)).filter fun x => !inF (clrF (fun i => if i = 0 then ⟨root, rootE T⟩ else if i = 1 then ⟨m.f, midE m⟩ else ⟨f, e⟩) 0) x) = ns.set k2 ⟨f, updF e (dgF p 0) 0⟩ := by
          unfold inF clrF clrN clrN clrX
          exact filt_all
        rw [this]
        exact q1
      · rw [q2 q hq]
        by_cases e2 : q = p
        · rw [if_pos ⟨by rw [e2], fun _ => e2⟩, if_pos e2]
        · rw [if_neg (fun x => e2 (x.2 rfl)), if_neg e2]
    · have hzz := (isZ_iff _).1 (hz 0 (by decide))
      have := clr_one h' hp hT hs ⟨a2, a3⟩ ⟨b2, b3⟩ ⟨c2, c3⟩ hzz
      unfold inF clrF clrF clrN clrN clrN clrX
      exact this
    · have hzz := (isZ_iff _).1 (hz 0 (by decide))
      have hzz2 := (isZ_iff _).1 (hz 1 (by decide))
      have := clr_two h' hp hT hs ⟨a2, a3⟩ ⟨b2, b3⟩ ⟨c2, c3⟩ hzz hzz2
      unfold inF clrF clrF clrF clrN clrN clrN clrN clrX
      exact this
end
end Go.Proofs.YtbgjelhefhcnpaaGreat

/- The walk of a page table's Clear. No conditions. -/
set_option linter.unusedSimpArgs false
set_option linter.unusedVariables false
namespace Go.Proofs.YtbgjelhefhcnpaaGreat
open Go Go.RowKit
attribute [local irreducible] decR ixL endP pgT pathL isZ clrN clrF clrX
attribute [local irreducible] Code.wp wpList bodyPost Exit.then Exit.inBlock Calls wpQuiet Tri TriQ
section
variable (w0 : World) (cs : List Chunk)
set_option maxHeartbeats 8000000 in
theorem Clear_c {root : Int} {T : Tr} {ns : List ND} {ds : List DP} (h : PtOk root T ns ds) {vn vd : Value} (hN : RdH (Hp w0 cs) vn ns) (hD : RdH (Hp w0 cs) vd ds) {p : Nat} (hp : p < 512) {o : Int} (hlv : pgT T p = (0, o)) (h0 : o ≠ 0) :
    Cal Tryz.prog 42 [ptV root vn vd, .int .i64 (p : Int)] (Hp w0 cs) (fun y : {y : Row × Row × Row × List ND × Tr // ClrOk root T y.2.2.2.2 y.2.2.2.1 ds p} => .tuple #[ptV root y.1.1.v y.1.2.1.v, .int .u64 o, y.1.2.2.1.v, .int .i64 0])
      (fun y => Hp w0 (ndS y.1.1 y.1.2.2.2.1 :: dpS y.1.2.1 ds :: cs)) := by
  have hnl := h.nlen
  have hdl := h.dlen
  obtain ⟨ks, O, hC⟩ := clr_known h hp hlv
  obtain ⟨L, hL⟩ : ∃ L, L = pathL ns root T (dgF p 2) (dgF p 1) (dgF p 0) := ⟨_, rfl⟩
  rw [← hL] at hC
  have hL3 := hC.len
  have hw2 : (L.getD 2 default).w = o := by rw [hC.w, hlv]
  have hn2 := hC.n 2 (by decide)
  have hl2 : (L.getD 2 default).l = 0 := by rw [hC.l 2 (by decide)]; rfl
  refine cal_of_tri Tryz.func42 rfl Tryz.ntmps42 rfl ?_
  (repeat (first | refine tri_seq ?_ | refine tri_then ?_)); refine tri_region ?_; (repeat (first | refine au_pure ?_ | refine au_pass ?_ | refine au_box (fun _ => ?_) | refine au_alloc (fun _ => ?_) | refine au_store ?_ | refine au_make rfl rfl (fun _ => ?_) | refine au_lit rfl rfl rfl (fun _ => ?_) | refine au_append rfl rfl rfl rfl (fun _ => au_norm ?_) | refine au_storeE rfl rfl rfl rfl ?_)); refine tri_nil ?_; (repeat refine tri_then ?_)
  rename_i g2 g4
  refine tri_weak (H' := Hp w0 (ptC g4 0 (.slice none 0 0) (.slice none 0 0) :: ptC g2 root vn vd :: cs)) (fun w h => h) ?_
  (repeat (first | refine zz ?_ | refine zv fun _ => ?_))
  refine au_callC rfl rfl rfl rfl rfl (checked_c w0 _ (vn := vn) (vd := vd) h hN.cons.cons hD.cons.cons (n := (p : Int)) (m := 512) (by omega)) (fun _ => ?_)
  (repeat (first | refine zz ?_ | refine zv fun _ => ?_))
  refine au_callC rfl rfl rfl rfl rfl (path_c w0 _ (vn := vn) (vd := vd) h hN.cons.cons (by omega) hp) ?_
  intro r
  rw [← hL]
  refine tri_weak (H' := Hp w0 (spS r L :: ptC g4 0 (.slice none 0 0) (.slice none 0 0) :: ptC g2 root vn vd :: cs)) (fun w h => h) ?_
  have hP : ∀ X, RdH (Hp w0 (spS r L :: X)) r.v L := fun X => rd_chunk (r := r) (l := L) ⟨0, rfl⟩
  (repeat (first | refine zz ?_ | refine zv fun _ => ?_))
  refine au_pure ?_ (hy := yl_len rfl rfl (hP _))
  rw [hL3]
  (repeat (first | refine zz ?_ | refine zv fun _ => ?_))
  refine au_pure ?_ (hy := yl_idx (k := 2) rfl rfl (hP _) (ix_eq rfl rfl) (by rfl) (by omega))
  refine au_pure ?_ (hy := yl_loadEN rfl rfl (hP _) (by rfl) (by omega) (by repeat (first | exact nf0 rfl | apply nfS rfl | exact nfR)) (by rfl))
  rw [hn2, hl2, hw2]
  refine zv fun g10 => ?_
  refine zz ?_
  refine tri_weak (H' := Hp w0 (spC g10 (ks 2 : Int) 0 o :: spS r L :: ptC g4 0 (.slice none 0 0) (.slice none 0 0) :: ptC g2 root vn vd :: cs)) (fun w h => h) ?_
  (repeat (first | refine zz ?_ | refine zv fun _ => ?_))
  rw [show (o == 0) = false by simpa using h0]
  (repeat (first | refine zz ?_ | refine zv fun _ => ?_))
  refine au_callC rfl rfl rfl rfl rfl (ptclone_c w0 _ (root := root) (vn := vn) (vd := vd) hN.cons.cons.cons.cons hD.cons.cons.cons.cons (by omega) (by omega)) ?_
  rintro ⟨rn, rd⟩
  refine zv fun g11 => ?_
  refine zz ?_
  (repeat (first | refine zz ?_ | refine zv fun _ => ?_))
  rename_i g12
  obtain ⟨K, hK⟩ : ∃ K : List Chunk, K = ptC g11 root rn.v rd.v :: dpS rd ds :: spC g10 (ks 2 : Int) 0 o :: spS r L :: ptC g4 0 (.slice none 0 0) (.slice none 0 0) :: ptC g2 root vn vd :: cs := ⟨_, rfl⟩
  refine tri_nilrow Int 3 ?_
  refine tri_weak (H' := Hp w0 (inS (Row.nil w0.heap.size) [] :: blkC g12 92 [(Row.nil w0.heap.size).v] :: ndS rn ns :: ptC g11 root rn.v rd.v :: dpS rd ds :: spC g10 (ks 2 : Int) 0 o :: spS r L :: ptC g4 0 (.slice none 0 0) (.slice none 0 0) :: ptC g2 root vn vd :: cs)) (fun w h => HpM.perm h (List.Perm.cons _ (List.Perm.cons _ (List.Perm.swap _ _ _)))) ?_
  have hP2 : ∀ A B C D F G X, RdH (Hp w0 (A :: B :: C :: D :: F :: G :: spS r L :: X)) r.v L := fun A B C D F G X => rd_chunk (r := r) (l := L) ⟨6, rfl⟩
  refine au_pure ?_ (hy := yl_len rfl rfl (hP2 _ _ _ _ _ _ _))
  rw [hL3]
  (repeat (first | refine zz ?_ | refine zv fun _ => ?_))
  refine tri_cut2 (fun (j : Nat) (rf : Row) => j ≤ 2 ∧ (∀ i, i < j → isZ (clrX O p (2 - i)).e = true) ∧ (j = 2 ∨ isZ (clrX O p (2 - j)).e = false)) (fun _ _ => [(1, .int .i64 (p : Int)), (4, .pointer (some ⟨g4, 0, none⟩)), (10, .pointer (some ⟨g10, 0, none⟩)), (11, .pointer (some ⟨g11, 0, none⟩)), (12, .pointer (some ⟨g12, 0, none⟩))])
    (fun j rf => Hp w0 (inS rf (clrF O j) :: blkC g12 92 [rf.v] :: ndS rn (clrN ns ks O p (j + 1)) :: ptC g11 root rn.v rd.v :: dpS rd ds :: spC g10 (ks 2 : Int) 0 o :: spS r L :: ptC g4 0 (.slice none 0 0) (.slice none 0 0) :: ptC g2 root vn vd :: cs)) ?_ ?_
  rotate_left
  · rintro j rf ⟨hj, hz, hn⟩
    have hFl : (clrF O j).length ≤ 100 := by
      have : ∀ j, (clrF O j).length = j := fun j => by
        induction j with
        | zero => unfold clrF; rfl
        | succ j ih => unfold clrF; rw [List.length_append, ih]; rfl
      rw [this]; omega
    have hNl := clrN_len ns ks O p (j + 1)
    obtain ⟨T2, hT2⟩ := hC.fin ds j h hj hz hn
    obtain ⟨N, hNN⟩ : ∃ N, N = clrN ns ks O p (j + 1) := ⟨_, rfl⟩
    obtain ⟨F, hFF⟩ : ∃ F, F = clrF O j := ⟨_, rfl⟩
    rw [← hNN] at hNl hT2
    rw [← hFF] at hFl hT2
    rw [← hNN, ← hFF]
    (repeat (first | refine zz ?_ | refine zv fun _ => ?_))
    refine au_pure ?_ (hy := yl_func rfl rfl)
    (repeat (first | refine zz ?_ | refine zv fun _ => ?_))
    refine tri_weak (H' := Hp w0 (ndS rn N :: inS rf F :: blkC g12 92 [rf.v] :: ptC g11 root rn.v rd.v :: dpS rd ds :: spC g10 (ks 2 : Int) 0 o :: spS r L :: ptC g4 0 (.slice none 0 0) (.slice none 0 0) :: ptC g2 root vn vd :: cs)) (fun w h => HpM.perm h ((List.Perm.cons _ (List.Perm.swap _ _ _)).trans (List.Perm.swap _ _ _))) ?_
    refine au_callC rfl rfl rfl rfl rfl (deleteFuncN_c w0 _ (r := rn) (l := N) (by omega) (capd := [pR g12]) (p := inF F) (ctest_c w0 _ hFl N)) ?_
    intro r2
    obtain ⟨N2, hN2⟩ : ∃ N2, N2 = N.filter fun x => !inF F x := ⟨_, rfl⟩
    rw [← hN2] at hT2
    refine tri_weak (H' := Hp w0 (ndS r2 N2 :: inS rf F :: blkC g12 92 [rf.v] :: ptC g11 root rn.v rd.v :: dpS rd ds :: spC g10 (ks 2 : Int) 0 o :: spS r L :: ptC g4 0 (.slice none 0 0) (.slice none 0 0) :: ptC g2 root vn vd :: cs)) (fun w h => by rw [hN2]; exact h) ?_
    (repeat (first | refine zz ?_ | refine zv fun _ => ?_))
    (repeat (first | refine tri_seq ?_ | refine tri_then ?_))
    refine ar_held [] (ndS r2 N2 :: inS rf F :: blkC g12 92 [rf.v] :: ptC g11 root r2.v rd.v :: dpS rd ds :: spC g10 (ks 2 : Int) 0 o :: spS r L :: ptC g2 root vn vd :: cs) rfl ?_
    refine ar_take 0 rfl rfl rfl ?_; refine ar_take 1 rfl rfl rfl ?_; refine ar_take 2 rfl rfl rfl ?_; refine ar_take 3 rfl rfl rfl ?_
    refine ar_op 4 rfl ?_
    refine au_store ?_
    refine tri_nil ?_; refine ar_in ?_
    refine ar_take 5 rfl rfl rfl ?_; refine ar_take 6 rfl rfl rfl ?_; refine ar_take 7 rfl rfl rfl ?_
    refine ar_done ?_
    refine tri_weak (H' := Hp w0 (ndS r2 N2 :: inS rf F :: blkC g12 92 [rf.v] :: ptC g11 root r2.v rd.v :: dpS rd ds :: spC g10 (ks 2 : Int) 0 o :: spS r L :: ptC g4 root r2.v rd.v :: ptC g2 root vn vd :: cs)) (fun w h => h) ?_
    (repeat (first | refine zz ?_ | refine zv fun _ => ?_))
    refine au_done4 rfl ?_
    exact fun w hw => ⟨⟨⟨r2, rd, rf, N2, T2⟩, hT2⟩, rfl, hw.sub (List.Sublist.cons_cons _ (List.Sublist.cons _ (List.Sublist.cons _ (List.Sublist.cons _ (List.Sublist.cons_cons _ (List.Sublist.cons _ (List.Sublist.cons _ (List.Sublist.cons _ (List.Sublist.cons _ (List.Sublist.refl _))))))))))⟩
  refine tri_weak (H' := Hp w0 (inS (Row.nil w0.heap.size) (clrF O (2 - 2)) :: blkC g12 92 [(Row.nil w0.heap.size).v] :: ndS rn (clrN ns ks O p (2 - 2)) :: ptC g11 root rn.v rd.v :: dpS rd ds :: spC g10 (ks 2 : Int) 0 o :: spS r L :: ptC g4 0 (.slice none 0 0) (.slice none 0 0) :: ptC g2 root vn vd :: cs)) (fun w h => by
    rw [show clrF O (2 - 2) = [] by unfold clrF; rfl, show clrN ns ks O p (2 - 2) = ns by unfold clrN; rfl]
    exact h) ?_
  refine tri_block ?_
  refine tri_loop2 (fun (i : Nat) (rf : Row) => i ≤ 2 ∧ ∀ j, j < 2 - i → isZ (clrX O p (2 - j)).e = true) (fun i _ => [(1, .int .i64 (p : Int)), (4, .pointer (some ⟨g4, 0, none⟩)), (9, r.v), (10, .pointer (some ⟨g10, 0, none⟩)), (11, .pointer (some ⟨g11, 0, none⟩)), (12, .pointer (some ⟨g12, 0, none⟩)), (13, .int .i64 (i : Int))])
    (fun i rf => Hp w0 (inS rf (clrF O (2 - i)) :: blkC g12 92 [rf.v] :: ndS rn (clrN ns ks O p (2 - i)) :: ptC g11 root rn.v rd.v :: dpS rd ds :: spC g10 (ks 2 : Int) 0 o :: spS r L :: ptC g4 0 (.slice none 0 0) (.slice none 0 0) :: ptC g2 root vn vd :: cs)) (fun i _ => i) 2 (Row.nil w0.heap.size) ⟨by omega, fun j hj => by omega⟩ (by repeat (first | exact trivial | refine ⟨rfl, ?_⟩)) (fun w h => h) ?_
  rintro i rf ⟨hi, hz⟩
  obtain ⟨F, hFF⟩ : ∃ F, F = clrF O (2 - i) := ⟨_, rfl⟩
  obtain ⟨N, hNN⟩ : ∃ N, N = clrN ns ks O p (2 - i) := ⟨_, rfl⟩
  have hNl : N.length = ns.length := by rw [hNN]; exact clrN_len ..
  have hki := hC.k i hi
  have hat : N.getD (ks i) default = O i := by rw [hNN, clrN_at ns ks O p hC.k hi (fun j hj hij => hC.d i j hi hj hij) (2 - i) (Nat.le_refl _), hC.o i hi]
  have hni := hC.n i hi
  have hli := hC.l i hi
  have hstep : clrN ns ks O p (2 - i + 1) = N.set (ks i) (clrX O p i) := by rw [hNN, clrN, show 2 - (2 - i) = i by omega]
  have hstepF : clrF O (2 - i + 1) = F ++ [(O i).f] := by rw [hFF, clrF, show 2 - (2 - i) = i by omega]
  have hFl : F.length ≤ 100 := by
    have : ∀ j, (clrF O j).length = j := fun j => by
      induction j with
      | zero => unfold clrF; rfl
      | succ j ih => unfold clrF; rw [List.length_append, ih]; rfl
    rw [hFF, this]; omega
  rw [← hFF, ← hNN]
  have hXf : (clrX O p i).f = (O i).f := by unfold clrX; rfl
  (repeat (first | refine tri_seq ?_ | refine tri_then ?_))
  refine tri_block ?_
  (repeat (first | refine tri_seq ?_ | refine tri_then ?_))
  refine au_draw rfl ?_
  (repeat (first | refine z1 ?_ | refine au_qpass rfl rfl ?_ | refine triq_nil ?_))
  refine au_qpure rfl rfl ?_ (hy := yl_idx (k := i) rfl rfl (hP2 _ _ _ _ _ _ _) (ix_nat rfl) (by rfl) (by omega))
  refine au_qpure rfl rfl ?_ (hy := yl_fieldE rfl rfl)
  refine au_qpure rfl rfl ?_ (hy := yl_loadE rfl rfl (hP2 _ _ _ _ _ _ _) (by rfl) (by omega) (by rfl))
  refine au_qpure rfl rfl ?_ (hy := yl_idx (k := ks i) rfl rfl (rd_chunk (r := rn) (l := N) ⟨2, rfl⟩) (ix_eq rfl hni.symm) (by rfl) (by omega))
  (repeat (first | refine z1 ?_ | refine au_qpass rfl rfl ?_ | refine triq_nil ?_))
  (repeat (first | refine tri_seq ?_ | refine tri_then ?_))
  refine ar_held [11] (inS rf F :: blkC g12 92 [rf.v] :: ndS rn N :: ptC g11 root rn.v rd.v :: dpS rd ds :: spC g10 (ks 2 : Int) 0 o :: spS r L :: ptC g4 0 (.slice none 0 0) (.slice none 0 0) :: ptC g2 root vn vd :: cs) rfl ?_
  refine ar_take 0 rfl rfl rfl ?_; refine ar_take 1 rfl rfl rfl ?_; refine ar_take 2 rfl rfl rfl ?_; refine ar_take 3 rfl rfl rfl ?_
  refine ar_take 4 rfl rfl rfl ?_ (hy := yl_idx (k := i) rfl rfl (hP2 _ _ _ _ _ _ _) (ix_nat rfl) (by rfl) (by omega))
  refine ar_take 5 rfl rfl rfl ?_ (hy := yl_fieldE rfl rfl)
  refine ar_take 6 rfl rfl rfl ?_ (hy := yl_loadE rfl rfl (hP2 _ _ _ _ _ _ _) (by rfl) (by omega) (by rfl))
  refine ar_take 8 rfl rfl rfl ?_ (hy := yl_nilchkE rfl rfl)
  refine ar_take 9 rfl rfl rfl ?_ (hy := yl_fieldE rfl rfl)
  rw [hli]
  refine ar_op 7 rfl ?_
  refine au_callC rfl rfl rfl rfl rfl (digit_c w0 _ p (2 - i) (by omega) (by omega)) (fun _ => ?_)
  refine tri_nil ?_; refine ar_in ?_
  refine ar_take 10 rfl rfl rfl ?_ (hy := yl_idxE (j := digM p (2 - i)) rfl rfl (ix_nat rfl) (dig_lt p (2 - i)))
  refine ar_op 11 rfl ?_
  have hd := dig_lt p (2 - i)
  have hXX : (⟨(N.getD (ks i) default).f, updF (N.getD (ks i) default).e (dgF p (2 - i)) 0⟩ : ND) = clrX O p i := by rw [hat]; unfold clrX; rfl
  refine au_storeE (k := ks i) (f := 1 + digM p (2 - i)) (a := (⟨(N.getD (ks i) default).f, updF (N.getD (ks i) default).e (dgF p (2 - i)) 0⟩ : ND)) rfl rfl rfl rfl ?_ (hf := Nat.ble_eq_true_of_le (by show 1 + digM p (2 - i) + 1 ≤ 9; omega)) (ha0 := by
    show Enc.dec (setL (Enc.enc (N.getD (ks i) default)) (1 + (dgF p (2 - i)).val) [.int .u64 0]) = _
    rw [nd_set, nd_dec]) (ha := nd_set (N.getD (ks i) default) (dgF p (2 - i)) 0)
  refine tri_nil ?_; refine ar_ink ?_
  refine ar_done ?_
  obtain ⟨N1, hN1⟩ : ∃ N1, N1 = N.set (ks i) (clrX O p i) := ⟨_, rfl⟩
  have hN1l : N1.length = ns.length := by rw [hN1, List.length_set, hNl]
  have hN1a : N1.getD (ks i) default = clrX O p i := by rw [hN1, getD_set _ (by omega), if_pos rfl]
  rw [← hN1] at hstep
  refine tri_weak (H' := Hp w0 (inS rf F :: blkC g12 92 [rf.v] :: ndS rn N1 :: ptC g11 root rn.v rd.v :: dpS rd ds :: spC g10 (ks 2 : Int) 0 o :: spS r L :: ptC g4 0 (.slice none 0 0) (.slice none 0 0) :: ptC g2 root vn vd :: cs)) (fun w h => by rw [hN1, ← hXX]; exact h) ?_
  have hR1 : ∀ A B X, RdH (Hp w0 (A :: B :: ndS rn N1 :: X)) rn.v N1 := fun A B X => rd_chunk (r := rn) (l := N1) ⟨2, rfl⟩
  by_cases hi0 : i = 0
  · subst hi0
    (repeat (first | refine zz ?_ | refine zv fun _ => ?_))
    refine tri_mt2 2 rf ⟨by omega, hz, .inl rfl⟩ (by repeat (first | exact trivial | refine ⟨rfl, ?_⟩)) (fun w h => by
      rw [show clrN ns ks O p (2 + 1) = N1 from hstep, ← hFF]
      exact h)
  · (repeat (first | refine zz ?_ | refine zv fun _ => ?_))
    rw [show ((i : Int) == 0) = false by simp; omega]
    (repeat (first | refine zz ?_ | refine zv fun _ => ?_))
    refine au_pure ?_ (hy := yl_nilchkE rfl rfl)
    refine au_pure ?_ (hy := yl_fieldE rfl rfl)
    refine au_pure ?_ (hy := yl_loadEN (k := ks i) (m := 8) rfl rfl (hR1 _ _ _) (by rfl) (by omega) (by repeat (first | exact nf0 rfl | apply nfS rfl | exact nfR)) (by rfl))
    (repeat (first | refine zz ?_ | refine zv fun _ => ?_))
    refine au_pure ?_ (hy := yl_neqs rfl rfl rfl)
    (repeat (first | refine zz ?_ | refine zv fun _ => ?_))
    rw [show (!((N1.getD (ks i) default).e 0 == 0 && ((N1.getD (ks i) default).e 1 == 0 && ((N1.getD (ks i) default).e 2 == 0 && ((N1.getD (ks i) default).e 3 == 0 && ((N1.getD (ks i) default).e 4 == 0 && ((N1.getD (ks i) default).e 5 == 0 && ((N1.getD (ks i) default).e 6 == 0 && ((N1.getD (ks i) default).e 7 == 0))))))))) = !isZ (N1.getD (ks i) default).e by unfold isZ; rfl, hN1a]
    cases hzi : isZ (clrX O p i).e with
    | false =>
      (repeat (first | refine zz ?_ | refine zv fun _ => ?_))
      refine tri_mt2 (2 - i) rf ⟨by omega, hz, .inr (by rw [show 2 - (2 - i) = i by omega]; exact hzi)⟩ (by repeat (first | exact trivial | refine ⟨rfl, ?_⟩)) (fun w h => by
        rw [hstep, ← hFF]
        exact h)
    | true =>
      (repeat (first | refine zz ?_ | refine zv fun _ => ?_))
      (repeat (first | refine tri_seq ?_ | refine tri_then ?_))
      refine ar_held [7] (blkC g12 92 [rf.v] :: ndS rn N1 :: ptC g11 root rn.v rd.v :: dpS rd ds :: spC g10 (ks 2 : Int) 0 o :: spS r L :: ptC g4 0 (.slice none 0 0) (.slice none 0 0) :: ptC g2 root vn vd :: cs) rfl ?_
      refine ar_take 0 rfl rfl rfl ?_; refine ar_take 1 rfl rfl rfl ?_
      refine ar_take 2 rfl rfl rfl ?_ (hy := yl_nilchkE rfl rfl)
      refine ar_take 3 rfl rfl rfl ?_ (hy := yl_fieldE rfl rfl)
      refine ar_take 4 rfl rfl rfl ?_ (hy := yl_loadE rfl rfl (rd_chunk (r := rn) (l := N1) ⟨1, rfl⟩) (by rfl) (by omega) (by rfl))
      refine ar_op 5 rfl ?_
      refine au_lit (l := [(N1.getD (ks i) default).f]) rfl rfl rfl (fun r1 => ?_)
      refine tri_nil ?_; refine ar_in ?_
      refine ar_op 6 rfl ?_
      refine au_append (i := 1) (l := F) (l2 := [(N1.getD (ks i) default).f]) rfl rfl rfl rfl (fun r2 => ?_) (hi := rfl) (h2 := rd_chunk (r := r1) (l := [(N1.getD (ks i) default).f]) ⟨0, rfl⟩) (hb := by simp only [List.length_cons, List.length_nil]; omega)
      refine tri_weak (H' := Hp w0 (inS r1 [(N1.getD (ks i) default).f] :: inS r2 (F ++ [(N1.getD (ks i) default).f]) :: blkC g12 92 [rf.v] :: ndS rn N1 :: ptC g11 root rn.v rd.v :: dpS rd ds :: spC g10 (ks 2 : Int) 0 o :: spS r L :: ptC g4 0 (.slice none 0 0) (.slice none 0 0) :: ptC g2 root vn vd :: cs)) (fun w h => h) ?_
      refine tri_nil ?_; refine ar_in ?_
      refine ar_op 7 rfl ?_
      refine au_store ?_
      refine tri_nil ?_; refine ar_ink ?_
      refine ar_done ?_
      rw [hN1a, hXf, ← hstepF]
      (repeat (first | refine zz ?_ | refine zv fun _ => ?_))
      refine tri_nx2 (i - 1) r2 (by omega) ⟨by omega, fun j hj => ?_⟩ (by rw [show ((i - 1 : Nat) : Int) = (i : Int) - 1 by omega]; repeat (first | exact trivial | refine ⟨rfl, ?_⟩)) (fun w h => by
        rw [show 2 - (i - 1) = 2 - i + 1 by omega, hstep]
        exact h.tail)
      by_cases hj2 : j = 2 - i
      · subst hj2
        rw [show 2 - (2 - i) = i by omega]
        exact hzi
      · exact hz j (by omega)
end
end Go.Proofs.YtbgjelhefhcnpaaGreat
