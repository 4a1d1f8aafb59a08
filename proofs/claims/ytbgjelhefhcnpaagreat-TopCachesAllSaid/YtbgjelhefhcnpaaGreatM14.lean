/- Texts joined: PtNum, PtPath, PtLast. Each part's own remark says what it proves. -/
import Derived.Test.YtbgjelhefhcnpaaGreatM13
import Derived.Test.YtbgjelhefhcnpaaGreatM09
/- The walk of a page table's numbers: a table that holds a tree has no error there. No conditions. -/
set_option linter.unusedSimpArgs false
set_option linter.unusedVariables false
namespace Go.Proofs.YtbgjelhefhcnpaaGreat
open Go Go.RowKit
theorem subD_g {g : Int} {s : Leg} {x : DP} (hx : x ∈ subD g s) : x.g = g := by
  cases s with
  | no => cases hx
  | huge w f => rw [List.mem_singleton.1 hx]
  | leaf f e => cases hx
theorem optD_g {i : Fin 8} {o : Option Mid} {x : DP} (hx : x ∈ optD i o) : ∃ j : Fin 8, x.g = 8 * (i.val : Int) + j.val := by
  cases o with
  | none => cases hx
  | some m =>
    obtain ⟨j, _, hj⟩ := List.mem_flatMap.1 hx
    exact ⟨j, subD_g hj⟩
theorem all8_lt : all8.Pairwise fun a b => a.val < b.val := by decide
theorem optD_asc (i : Fin 8) (o : Option Mid) : (optD i o).Pairwise fun a b => a.g < b.g := by
  cases o with
  | none => exact List.Pairwise.nil
  | some m =>
    refine List.pairwise_flatMap.2 ⟨fun j _ => ?_, all8_lt.imp fun {a b} hab x hx y hy => ?_⟩
    · cases m.s j with
      | no => exact List.Pairwise.nil
      | huge w f => exact List.pairwise_singleton ..
      | leaf f e => exact List.Pairwise.nil
    · rw [subD_g hx, subD_g hy]; omega
theorem deps_asc (T : Tr) : (depsT T).Pairwise fun a b => a.g < b.g := by
  refine List.pairwise_flatMap.2 ⟨fun i _ => optD_asc i _, all8_lt.imp fun {a b} hab x hx y hy => ?_⟩
  obtain ⟨j, hj⟩ := optD_g hx
  obtain ⟨k, hk⟩ := optD_g hy
  have := j.isLt
  have := k.isLt
  omega
theorem deps_rng {T : Tr} {x : DP} (hx : x ∈ depsT T) : 0 ≤ x.g ∧ x.g < 64 := by
  obtain ⟨i, _, hi⟩ := List.mem_flatMap.1 hx
  obtain ⟨j, hj⟩ := optD_g hi
  have := i.isLt
  have := j.isLt
  omega
/-- The places by frames, and -1 at the first k deposits' frames. -/
def dpL (ns : List ND) (ds : List DP) : Nat → List (Int × Int)
  | 0 => ixL ns ns.length
  | k + 1 => aSet (dpL ns ds k) (ds.getD k default).f (-1)
theorem dp_get (ns : List ND) (ds : List DP) : ∀ k f, aGet (dpL ns ds k) f = if ∃ i, i < k ∧ (ds.getD i default).f = f then some (-1) else aGet (ixL ns ns.length) f
  | 0, f => by rw [if_neg]; rfl; rintro ⟨i, h, _⟩; omega
  | k + 1, f => by
    show aGet (aSet (dpL ns ds k) (ds.getD k default).f (-1)) f = _
    rw [get_set, dp_get ns ds k]
    by_cases e : f = (ds.getD k default).f
    · rw [if_pos e, if_pos ⟨k, by omega, e.symm⟩]
    · rw [if_neg e]
      by_cases h : ∃ i, i < k ∧ (ds.getD i default).f = f
      · obtain ⟨i, hi, ei⟩ := h
        rw [if_pos ⟨i, hi, ei⟩, if_pos ⟨i, by omega, ei⟩]
      · rw [if_neg h, if_neg]
        rintro ⟨i, hi, ei⟩
        by_cases e2 : i = k
        · rw [e2] at ei; exact e ei.symm
        · exact h ⟨i, by omega, ei⟩
section
variable {root : Int} {T : Tr} {ns : List ND} {ds : List DP} (h : PtOk root T ns ds)
include h
theorem PtOk.nf {i : Nat} (hi : i < ns.length) : 0 ≤ (ns.getD i default).f ∧ (ns.getD i default).f ≤ 4294967295 := by
  refine h.t.r _ (List.mem_append.2 (.inl (List.mem_map.2 ⟨ns.getD i default, h.n.mem_iff.1 ?_, rfl⟩)))
  rw [getD_get hi]; exact List.getElem_mem hi
theorem PtOk.df {i : Nat} (hi : i < ds.length) : (0 ≤ (ds.getD i default).f ∧ (ds.getD i default).f ≤ 4294967295) ∧ 0 ≤ (ds.getD i default).g ∧ (ds.getD i default).g < 64 := by
  have hm : ds.getD i default ∈ depsT T := by rw [← h.d, getD_get hi]; exact List.getElem_mem hi
  exact ⟨h.t.r _ (List.mem_append.2 (.inr (List.mem_map.2 ⟨_, hm, rfl⟩))), deps_rng hm⟩
theorem PtOk.na {i : Nat} (h0 : 0 < i) (hi : i < ns.length) : (ns.getD (i - 1) default).f < (ns.getD i default).f := by
  rw [getD_get (by omega), getD_get hi]
  exact List.pairwise_iff_getElem.1 h.o (i - 1) i (by omega) hi (by omega)
theorem PtOk.da {i : Nat} (h0 : 0 < i) (hi : i < ds.length) : (ds.getD (i - 1) default).g < (ds.getD i default).g := by
  have := deps_asc T
  rw [← h.d] at this
  rw [getD_get (by omega), getD_get hi]
  exact List.pairwise_iff_getElem.1 this (i - 1) i (by omega) hi (by omega)
theorem PtOk.dnew {i : Nat} (hi : i < ds.length) : aGet (dpL ns ds i) (ds.getD i default).f = none := by
  have hd := h.t.d
  rw [List.nodup_append] at hd
  have hm : ds.getD i default ∈ depsT T := by rw [← h.d, getD_get hi]; exact List.getElem_mem hi
  rw [dp_get, if_neg, (ix_keys h.o ns.length (Nat.le_refl _)).2, if_neg]
  · rintro ⟨j, hj, e⟩
    have hj2 : ns.getD j default ∈ nodesT root T := h.n.mem_iff.1 (by rw [getD_get hj]; exact List.getElem_mem hj)
    exact hd.2.2 _ (List.mem_map.2 ⟨_, hj2, rfl⟩) _ (List.mem_map.2 ⟨_, hm, rfl⟩) e
  · rintro ⟨j, hj, e⟩
    have hn := hd.2.1
    rw [← h.d] at hn
    have := List.pairwise_iff_getElem.1 (List.nodup_iff_pairwise_ne.1 hn) j i (by rw [List.length_map]; omega) (by rw [List.length_map]; omega) hj
    rw [List.getElem_map, List.getElem_map] at this
    rw [getD_get (by omega), getD_get hi] at e
    exact this e
theorem PtOk.droot : ∃ k : Nat, aGet (dpL ns ds ds.length) root = some (k : Int) := by
  have hd := h.t.d
  rw [List.nodup_append] at hd
  obtain ⟨k, _, _, hk⟩ := h.get (root_mem root T)
  refine ⟨k, ?_⟩
  rw [dp_get, if_neg]
  · exact hk
  · rintro ⟨j, hj, e⟩
    have hm : ds.getD j default ∈ depsT T := by rw [← h.d, getD_get hj]; exact List.getElem_mem hj
    exact hd.2.2 _ (List.mem_map.2 ⟨_, root_mem root T, rfl⟩) _ (List.mem_map.2 ⟨_, hm, rfl⟩) e.symm
end
attribute [local irreducible] Code.wp wpList bodyPost Exit.then Exit.inBlock Calls wpQuiet Tri TriQ
section
variable (w0 : World) (cs : List Chunk)
set_option maxHeartbeats 4000000 in
theorem numbers_c {root : Int} {T : Tr} {vn vd : Value} {ns : List ND} {ds : List DP} (h : PtOk root T ns ds) (hN : RdH (Hp w0 cs) vn ns) (hD : RdH (Hp w0 cs) vd ds) (hnl : ns.length ≤ 1000000) (hdl : ds.length ≤ 1000000) :
    Cal Tryz.prog 55 [ptV root vn vd] (Hp w0 cs) (fun _ : Unit => .int .i64 0) (fun _ => Hp w0 cs) := by
  refine cal_of_tri Tryz.func55 rfl Tryz.ntmps55 rfl ?_
  (repeat (first | refine tri_seq ?_ | refine tri_then ?_)); refine tri_region ?_; (repeat (first | refine au_pure ?_ | refine au_pass ?_ | refine au_box (fun _ => ?_) | refine au_alloc (fun _ => ?_) | refine au_store ?_ | refine au_make rfl rfl (fun _ => ?_) | refine au_lit rfl rfl rfl (fun _ => ?_) | refine au_append rfl rfl rfl rfl (fun _ => au_norm ?_) | refine au_storeE rfl rfl rfl rfl ?_)); refine tri_nil ?_; (repeat refine tri_then ?_)
  rename_i g1
  refine tri_weak (H' := Hp w0 (ptC g1 root vn vd :: cs)) (fun w h => h) ?_
  have hN1 := hN.cons (c := ptC g1 root vn vd)
  have hD1 := hD.cons (c := ptC g1 root vn vd)
  (repeat (first | refine zz ?_ | refine zv fun _ => ?_))
  refine au_pure ?_ (hy := yl_len rfl rfl hN1)
  (repeat (first | refine zz ?_ | refine zv fun _ => ?_))
  refine tri_block ?_
  refine tri_loop1 (fun (i : Nat) => i ≤ ns.length) (fun i => [(1, .pointer (some ⟨g1, 0, none⟩)), (17, vn), (18, .int .i64 (ns.length : Int)), (19, .int .i64 (i : Int))]) (fun _ => Hp w0 (ptC g1 root vn vd :: cs)) (fun i => ns.length - i) 0 (by omega) (by repeat (first | exact trivial | refine ⟨rfl, ?_⟩)) (fun w h => h) ?_
  intro i hi
  (repeat (first | refine zz ?_ | refine zv fun _ => ?_))
  ((first | refine tri_cond (by rfl) (fun hc => ?_) (fun hc => ?_) | refine tri_gsplit (by rfl) (by rfl) (by (fail_if_success exact (rfl : _ = some (Value.bool true))); (fail_if_success exact (rfl : _ = some (Value.bool false))); rfl) (fun hc => ?_) (fun hc => ?_)) <;> (try simp only [decide_eq_true_eq, decide_eq_false_iff_not, beq_iff_eq, bne_iff_ne, ne_eq, Bool.not_eq_true', Bool.not_eq_false', beq_eq_false_iff_ne, bne_eq_false_iff_eq, Int.not_lt, Int.not_le, gt_iff_lt, ge_iff_le, Bool.and_eq_true, Bool.or_eq_true, Bool.and_eq_false_iff, Bool.or_eq_false_iff, Decidable.not_not, not_true_eq_false, not_false_eq_true, and_true, true_and, or_false, false_or, or_true, true_or, and_false, false_and, eq_self, Bool.true_eq_false, Bool.false_eq_true] at hc) <;> (try (exfalso; omega)))
  case refine_1 =>
    (repeat (first | refine zz ?_ | refine zv fun _ => ?_))
    refine tri_block ?_
    (repeat (first | refine zz ?_ | refine zv fun _ => ?_))
    refine au_pure ?_ (hy := yl_idx (k := i) rfl rfl hN1 (ix_nat rfl) (by rfl) (by omega))
    refine au_pure ?_ (hy := yl_loadEN rfl rfl hN1 (by rfl) (by omega) (by repeat (first | exact nf0 rfl | apply nfS rfl | exact nfR)) (by rfl))
    (repeat (first | refine zz ?_ | refine zv fun _ => ?_))
    refine au_callC rfl rfl rfl rfl rfl (isFrame_c w0 _ (ns.getD i default).f (h.nf (by omega))) (fun _ => ?_)
    (repeat (first | refine zz ?_ | refine zv fun _ => ?_))
    exact tri_nx1 (i + 1) (by omega) (by omega) (by repeat (first | exact trivial | refine ⟨rfl, ?_⟩)) (fun w h => h.sub (List.Sublist.cons _ (List.Sublist.refl _)))
  (repeat (first | refine zz ?_ | refine zv fun _ => ?_))
  refine au_pure ?_ (hy := yl_len rfl rfl hD1)
  (repeat (first | refine zz ?_ | refine zv fun _ => ?_))
  refine tri_block ?_
  refine tri_loop1 (fun (i : Nat) => i ≤ ds.length) (fun i => [(1, .pointer (some ⟨g1, 0, none⟩)), (29, vd), (30, .int .i64 (ds.length : Int)), (31, .int .i64 (i : Int))]) (fun _ => Hp w0 (ptC g1 root vn vd :: cs)) (fun i => ds.length - i) 0 (by omega) (by repeat (first | exact trivial | refine ⟨rfl, ?_⟩)) (fun w h => h) ?_
  clear hi
  intro i hi
  (repeat (first | refine zz ?_ | refine zv fun _ => ?_))
  ((first | refine tri_cond (by rfl) (fun hc => ?_) (fun hc => ?_) | refine tri_gsplit (by rfl) (by rfl) (by (fail_if_success exact (rfl : _ = some (Value.bool true))); (fail_if_success exact (rfl : _ = some (Value.bool false))); rfl) (fun hc => ?_) (fun hc => ?_)) <;> (try simp only [decide_eq_true_eq, decide_eq_false_iff_not, beq_iff_eq, bne_iff_ne, ne_eq, Bool.not_eq_true', Bool.not_eq_false', beq_eq_false_iff_ne, bne_eq_false_iff_eq, Int.not_lt, Int.not_le, gt_iff_lt, ge_iff_le, Bool.and_eq_true, Bool.or_eq_true, Bool.and_eq_false_iff, Bool.or_eq_false_iff, Decidable.not_not, not_true_eq_false, not_false_eq_true, and_true, true_and, or_false, false_or, or_true, true_or, and_false, false_and, eq_self, Bool.true_eq_false, Bool.false_eq_true] at hc) <;> (try (exfalso; omega)))
  case refine_1 =>
    obtain ⟨f1, f2, f3⟩ := h.df (i := i) (by omega)
    (repeat (first | refine zz ?_ | refine zv fun _ => ?_))
    refine tri_block ?_
    (repeat (first | refine zz ?_ | refine zv fun _ => ?_))
    refine au_pure ?_ (hy := yl_idx (k := i) rfl rfl hD1 (ix_nat rfl) (by rfl) (by omega))
    refine au_pure ?_ (hy := yl_loadEN rfl rfl hD1 (by rfl) (by omega) (by repeat (first | exact nf0 rfl | apply nfS rfl | exact nfR)) (by rfl))
    (repeat (first | refine zz ?_ | refine zv fun _ => ?_))
    refine au_callC rfl rfl rfl rfl rfl (isFrame_c w0 _ (ds.getD i default).f f1) (fun _ => ?_)
    (repeat (first | refine zz ?_ | refine zv fun _ => ?_))
    rw [show decide ((ds.getD i default).g < 0) = false from decide_eq_false (by omega)]
    (repeat (first | refine zz ?_ | refine zv fun _ => ?_))
    rw [show decide ((ds.getD i default).g ≥ 64) = false from decide_eq_false (by omega)]
    (repeat (first | refine zz ?_ | refine zv fun _ => ?_))
    exact tri_nx1 (i + 1) (by omega) (by omega) (by repeat (first | exact trivial | refine ⟨rfl, ?_⟩)) (fun w h => h.sub (List.Sublist.cons _ (List.Sublist.refl _)))
  (repeat (first | refine zz ?_ | refine zv fun _ => ?_))
  refine tri_block ?_
  refine tri_loop1 (fun (i : Nat) => True) (fun i => [(1, .pointer (some ⟨g1, 0, none⟩)), (7, .int .i64 ((i : Int) + 1))]) (fun _ => Hp w0 (ptC g1 root vn vd :: cs)) (fun i => ns.length - i) 0 trivial (by repeat (first | exact trivial | refine ⟨rfl, ?_⟩)) (fun w h => h) ?_
  clear hi
  intro i _
  (repeat (first | refine zz ?_ | refine zv fun _ => ?_))
  refine au_pure ?_ (hy := yl_len rfl rfl hN1)
  (repeat (first | refine zz ?_ | refine zv fun _ => ?_))
  ((first | refine tri_cond (by rfl) (fun hc => ?_) (fun hc => ?_) | refine tri_gsplit (by rfl) (by rfl) (by (fail_if_success exact (rfl : _ = some (Value.bool true))); (fail_if_success exact (rfl : _ = some (Value.bool false))); rfl) (fun hc => ?_) (fun hc => ?_)) <;> (try simp only [decide_eq_true_eq, decide_eq_false_iff_not, beq_iff_eq, bne_iff_ne, ne_eq, Bool.not_eq_true', Bool.not_eq_false', beq_eq_false_iff_ne, bne_eq_false_iff_eq, Int.not_lt, Int.not_le, gt_iff_lt, ge_iff_le, Bool.and_eq_true, Bool.or_eq_true, Bool.and_eq_false_iff, Bool.or_eq_false_iff, Decidable.not_not, not_true_eq_false, not_false_eq_true, and_true, true_and, or_false, false_or, or_true, true_or, and_false, false_and, eq_self, Bool.true_eq_false, Bool.false_eq_true] at hc) <;> (try (exfalso; omega)))
  case refine_1 =>
    have hna := h.na (i := i + 1) (by omega) (by omega)
    rw [Nat.add_sub_cancel] at hna
    (repeat (first | refine zz ?_ | refine zv fun _ => ?_))
    refine tri_block ?_
    (repeat (first | refine zz ?_ | refine zv fun _ => ?_))
    (repeat (first | refine tri_seq ?_ | refine tri_then ?_))
    refine au_draw rfl ?_
    (repeat (first | refine z1 ?_ | refine au_qpass rfl rfl ?_ | refine triq_nil ?_))
    refine au_qpure rfl rfl ?_ (hy := yl_idx (k := i + 1) rfl rfl hN1 (ix_nat rfl) (by rfl) (by omega))
    refine au_qpure rfl rfl ?_ (hy := yl_fieldE rfl rfl)
    refine au_qpure rfl rfl ?_ (hy := yl_loadE rfl rfl hN1 (by rfl) (by omega) (by rfl))
    (repeat (first | refine z1 ?_ | refine au_qpass rfl rfl ?_ | refine triq_nil ?_))
    refine au_qpure rfl rfl ?_ (hy := yl_idx (k := i) rfl rfl hN1 ⟨.i64, _, rfl, by omega⟩ (by rfl) (by omega))
    refine au_qpure rfl rfl ?_ (hy := yl_fieldE rfl rfl)
    refine au_qpure rfl rfl ?_ (hy := yl_loadE rfl rfl hN1 (by rfl) (by omega) (by rfl))
    (repeat (first | refine z1 ?_ | refine au_qpass rfl rfl ?_ | refine triq_nil ?_))
    rw [show decide ((ns.getD (i + 1) default).f ≤ (ns.getD i default).f) = false from decide_eq_false (by omega)]
    (repeat (first | refine zz ?_ | refine zv fun _ => ?_))
    exact tri_nx1 (i + 1) (by omega) trivial (by repeat (first | exact trivial | refine ⟨rfl, ?_⟩)) (fun w h => h)
  (repeat (first | refine zz ?_ | refine zv fun _ => ?_))
  refine tri_block ?_
  refine tri_loop1 (fun (i : Nat) => True) (fun i => [(1, .pointer (some ⟨g1, 0, none⟩)), (8, .int .i64 ((i : Int) + 1))]) (fun _ => Hp w0 (ptC g1 root vn vd :: cs)) (fun i => ds.length - i) 0 trivial (by repeat (first | exact trivial | refine ⟨rfl, ?_⟩)) (fun w h => h) ?_
  intro i _
  (repeat (first | refine zz ?_ | refine zv fun _ => ?_))
  refine au_pure ?_ (hy := yl_len rfl rfl hD1)
  (repeat (first | refine zz ?_ | refine zv fun _ => ?_))
  ((first | refine tri_cond (by rfl) (fun hc => ?_) (fun hc => ?_) | refine tri_gsplit (by rfl) (by rfl) (by (fail_if_success exact (rfl : _ = some (Value.bool true))); (fail_if_success exact (rfl : _ = some (Value.bool false))); rfl) (fun hc => ?_) (fun hc => ?_)) <;> (try simp only [decide_eq_true_eq, decide_eq_false_iff_not, beq_iff_eq, bne_iff_ne, ne_eq, Bool.not_eq_true', Bool.not_eq_false', beq_eq_false_iff_ne, bne_eq_false_iff_eq, Int.not_lt, Int.not_le, gt_iff_lt, ge_iff_le, Bool.and_eq_true, Bool.or_eq_true, Bool.and_eq_false_iff, Bool.or_eq_false_iff, Decidable.not_not, not_true_eq_false, not_false_eq_true, and_true, true_and, or_false, false_or, or_true, true_or, and_false, false_and, eq_self, Bool.true_eq_false, Bool.false_eq_true] at hc) <;> (try (exfalso; omega)))
  case refine_1 =>
    have hda := h.da (i := i + 1) (by omega) (by omega)
    rw [Nat.add_sub_cancel] at hda
    (repeat (first | refine zz ?_ | refine zv fun _ => ?_))
    refine tri_block ?_
    (repeat (first | refine zz ?_ | refine zv fun _ => ?_))
    (repeat (first | refine tri_seq ?_ | refine tri_then ?_))
    refine au_draw rfl ?_
    (repeat (first | refine z1 ?_ | refine au_qpass rfl rfl ?_ | refine triq_nil ?_))
    refine au_qpure rfl rfl ?_ (hy := yl_idx (k := i + 1) rfl rfl hD1 (ix_nat rfl) (by rfl) (by omega))
    refine au_qpure rfl rfl ?_ (hy := yl_fieldE rfl rfl)
    refine au_qpure rfl rfl ?_ (hy := yl_loadE rfl rfl hD1 (by rfl) (by omega) (by rfl))
    (repeat (first | refine z1 ?_ | refine au_qpass rfl rfl ?_ | refine triq_nil ?_))
    refine au_qpure rfl rfl ?_ (hy := yl_idx (k := i) rfl rfl hD1 ⟨.i64, _, rfl, by omega⟩ (by rfl) (by omega))
    refine au_qpure rfl rfl ?_ (hy := yl_fieldE rfl rfl)
    refine au_qpure rfl rfl ?_ (hy := yl_loadE rfl rfl hD1 (by rfl) (by omega) (by rfl))
    (repeat (first | refine z1 ?_ | refine au_qpass rfl rfl ?_ | refine triq_nil ?_))
    rw [show decide ((ds.getD (i + 1) default).g ≤ (ds.getD i default).g) = false from decide_eq_false (by omega)]
    (repeat (first | refine zz ?_ | refine zv fun _ => ?_))
    exact tri_nx1 (i + 1) (by omega) trivial (by repeat (first | exact trivial | refine ⟨rfl, ?_⟩)) (fun w h => h)
  (repeat (first | refine zz ?_ | refine zv fun _ => ?_))
  refine au_callC rfl rfl rfl rfl rfl (index_c w0 _ (root := root) (vd := vd) hN1 hnl) ?_
  intro bm
  refine tri_weak (H' := Hp w0 (mapC bm (dpL ns ds 0) :: ptC g1 root vn vd :: cs)) (fun w h => h) ?_
  (repeat (first | refine zz ?_ | refine zv fun _ => ?_))
  refine au_pure ?_ (hy := yl_len rfl rfl hD1.cons)
  (repeat (first | refine zz ?_ | refine zv fun _ => ?_))
  refine tri_block ?_
  refine tri_loop1 (fun (i : Nat) => i ≤ ds.length) (fun i => [(1, .pointer (some ⟨g1, 0, none⟩)), (9, .map (some bm)), (95, vd), (96, .int .i64 (ds.length : Int)), (97, .int .i64 (i : Int))]) (fun i => Hp w0 (mapC bm (dpL ns ds i) :: ptC g1 root vn vd :: cs)) (fun i => ds.length - i) 0 (by omega) (by repeat (first | exact trivial | refine ⟨rfl, ?_⟩)) (fun w h => h) ?_
  intro i hi
  have hD2 := hD1.cons (c := mapC bm (dpL ns ds i))
  (repeat (first | refine zz ?_ | refine zv fun _ => ?_))
  ((first | refine tri_cond (by rfl) (fun hc => ?_) (fun hc => ?_) | refine tri_gsplit (by rfl) (by rfl) (by (fail_if_success exact (rfl : _ = some (Value.bool true))); (fail_if_success exact (rfl : _ = some (Value.bool false))); rfl) (fun hc => ?_) (fun hc => ?_)) <;> (try simp only [decide_eq_true_eq, decide_eq_false_iff_not, beq_iff_eq, bne_iff_ne, ne_eq, Bool.not_eq_true', Bool.not_eq_false', beq_eq_false_iff_ne, bne_eq_false_iff_eq, Int.not_lt, Int.not_le, gt_iff_lt, ge_iff_le, Bool.and_eq_true, Bool.or_eq_true, Bool.and_eq_false_iff, Bool.or_eq_false_iff, Decidable.not_not, not_true_eq_false, not_false_eq_true, and_true, true_and, or_false, false_or, or_true, true_or, and_false, false_and, eq_self, Bool.true_eq_false, Bool.false_eq_true] at hc) <;> (try (exfalso; omega)))
  case refine_1 =>
    have hnew := h.dnew (i := i) (by omega)
    (repeat (first | refine zz ?_ | refine zv fun _ => ?_))
    refine tri_block ?_
    (repeat (first | refine zz ?_ | refine zv fun _ => ?_))
    refine au_pure ?_ (hy := yl_idx (k := i) rfl rfl hD2 (ix_nat rfl) (by rfl) (by omega))
    refine au_pure ?_ (hy := yl_loadEN rfl rfl hD2 (by rfl) (by omega) (by repeat (first | exact nf0 rfl | apply nfS rfl | exact nfR)) (by rfl))
    (repeat (first | refine au_pure ?_ | refine au_pass ?_ | refine au_box (fun _ => ?_) | refine au_alloc (fun _ => ?_) | refine au_store ?_ | refine au_make rfl rfl (fun _ => ?_) | refine au_lit rfl rfl rfl (fun _ => ?_) | refine au_append rfl rfl rfl rfl (fun _ => au_norm ?_) | refine au_storeE rfl rfl rfl rfl ?_)); refine tri_nil ?_; (repeat refine tri_then ?_)
    rename_i g11
    refine tri_weak (H' := Hp w0 (dpE g11 (ds.getD i default) :: mapC bm (dpL ns ds i) :: ptC g1 root vn vd :: cs)) (fun w h => h) ?_
    (repeat (first | refine zz ?_ | refine zv fun _ => ?_))
    refine au_pure ?_ (hy := yl_look2 (β := Int) rfl rfl rfl (by first | (apply has_at; (repeat (first | exact at0 | apply atS)); done) | (repeat (first | assumption | apply has_cons))))
    rw [hnew]
    (repeat (first | refine zz ?_ | refine zv fun _ => ?_))
    refine tri_update (β := Int) (v := (-1 : Int)) rfl (by first | exact wan_plain rfl | exact wan_yes rfl rfl rfl) rfl rfl rfl rfl (by repeat (first | exact at0 | apply atS)) (by repeat (first | exact nf0 rfl | apply nfS rfl | exact nfR)) ?_
    (repeat (first | refine zz ?_ | refine zv fun _ => ?_))
    exact tri_nx1 (i + 1) (by omega) (by omega) (by repeat (first | exact trivial | refine ⟨rfl, ?_⟩)) (fun w h => h.sub (List.Sublist.cons _ (List.Sublist.refl _)))
  have hie : i = ds.length := by omega
  subst hie
  obtain ⟨k, hk⟩ := h.droot
  (repeat (first | refine zz ?_ | refine zv fun _ => ?_))
  refine au_pure ?_ (hy := yl_look2 (β := Int) rfl rfl rfl (by first | (apply has_at; (repeat (first | exact at0 | apply atS)); done) | (repeat (first | assumption | apply has_cons))))
  rw [hk]
  (repeat (first | refine zz ?_ | refine zv fun _ => ?_))
  rw [show decide (((some (k : Int)).getD MV.dflt) < 0) = false from decide_eq_false (by show ¬ (k : Int) < 0; omega)]
  (repeat (first | refine zz ?_ | refine zv fun _ => ?_))
  refine au_done1 rfl ?_
  exact fun w hw => ⟨(), rfl, hw.sub (List.Sublist.cons _ (List.Sublist.cons _ (List.Sublist.refl _)))⟩
end
end Go.Proofs.YtbgjelhefhcnpaaGreat

/- The walks of a page table's path and last. No conditions. -/
set_option linter.unusedSimpArgs false
set_option linter.unusedVariables false
namespace Go.Proofs.YtbgjelhefhcnpaaGreat
open Go Go.RowKit
theorem dec_zero : decR 0 = (noEnt, 0) := by unfold decR; kernel_rfl
theorem zero_pg : pgW 0 := ⟨by rw [dec_zero], .inl (by rw [dec_zero]; rfl), by decide, by decide⟩
/-- The place of a frame's node. -/
def plI (ns : List ND) (f : Int) : Int := idxM (fun y : ND => y.f == f) ns
/-- The places below a middle table. -/
def legP (ns : List ND) (s : Leg) (c : Fin 8) : List SP := match s with
  | .leaf f e => [⟨plI ns f, 0, e c⟩]
  | _ => []
/-- The places below the root. -/
def midP (ns : List ND) (o : Option Mid) (b c : Fin 8) : List SP := match o with
  | none => []
  | some m => ⟨plI ns m.f, 1, midE m b⟩ :: legP ns (m.s b) c
/-- The places of the walk for a page. -/
def pathL (ns : List ND) (root : Int) (T : Tr) (a b c : Fin 8) : List SP := ⟨plI ns root, 2, rootE T a⟩ :: midP ns (T a) b c
theorem path_len (ns : List ND) (root : Int) (T : Tr) (a b c : Fin 8) : 1 ≤ (pathL ns root T a b c).length ∧ (pathL ns root T a b c).length ≤ 3 := by
  have key : ∀ o : Option Mid, (midP ns o b c).length ≤ 2 := fun o => by
    cases o with
    | none => exact Nat.zero_le _
    | some m =>
      have : ∀ s : Leg, (legP ns s c).length ≤ 1 := fun s => by
        cases s with
        | no => exact Nat.zero_le _
        | huge w f => exact Nat.zero_le _
        | leaf f e => exact Nat.le_refl _
      exact Nat.succ_le_succ (this (m.s b))
  have := key (T a)
  have : (pathL ns root T a b c).length = (midP ns (T a) b c).length + 1 := rfl
  omega
/-- The digits of a page. -/
def dgF (p : Nat) (l : Nat) : Fin 8 := ⟨digM p l, dig_lt p l⟩
/-- What holds at place j of a walk. -/
structure PthAt (ns : List ND) (p : Nat) (L : List SP) (j : Nat) : Prop where
  n : ∃ k : Nat, (L.getD j default).n = (k : Int) ∧ k < ns.length ∧ (ns.getD k default).e (dgF p (2 - j)) = (L.getD j default).w
  l : (L.getD j default).l = ((2 - j : Nat) : Int)
  w : 0 ≤ (L.getD j default).w ∧ (L.getD j default).w < 18446744073709551616
  m : j + 1 < L.length → (decR (L.getD j default).w).1.k = 4 ∧ aGet (ixL ns ns.length) (decR (L.getD j default).w).1.n = some (L.getD (j + 1) default).n
  e : j + 1 = L.length → (decR (L.getD j default).w).1.k ≠ 4
section
variable {root : Int} {T : Tr} {ns : List ND} {ds : List DP} (h : PtOk root T ns ds)
include h
theorem PtOk.pl {x : ND} (hx : x ∈ nodesT root T) : ∃ k : Nat, plI ns x.f = (k : Int) ∧ k < ns.length ∧ ns.getD k default = x ∧ aGet (ixL ns ns.length) x.f = some (k : Int) := by
  obtain ⟨k, hk, e, hi⟩ := h.place hx
  refine ⟨k, hi, hk, e, ?_⟩
  rw [(ix_keys h.o ns.length (Nat.le_refl _)).2, if_pos ⟨k, hk, by rw [e]⟩, hi]
theorem PtOk.rng {x : ND} (hx : x ∈ nodesT root T) : 0 ≤ x.f ∧ x.f ≤ 4294967295 := h.t.r _ (List.mem_append.2 (.inl (List.mem_map.2 ⟨x, hx, rfl⟩)))
theorem path_at (p : Nat) {j : Nat} (hj : j < (pathL ns root T (dgF p 2) (dgF p 1) (dgF p 0)).length) : PthAt ns p (pathL ns root T (dgF p 2) (dgF p 1) (dgF p 0)) j := by
  obtain ⟨k0, h01, h02, h03, h04⟩ := h.pl (root_mem root T)
  have h01 : plI ns root = (k0 : Int) := h01
  have hroot : ∀ X : List SP, ∃ k : Nat, (((⟨plI ns root, 2, rootE T (dgF p 2)⟩ : SP) :: X).getD 0 default).n = (k : Int) ∧ k < ns.length ∧ (ns.getD k default).e (dgF p (2 - 0)) = (((⟨plI ns root, 2, rootE T (dgF p 2)⟩ : SP) :: X).getD 0 default).w := fun X => ⟨k0, h01, h02, by rw [h03]; rfl⟩
  cases hT : T (dgF p 2) with
  | none =>
    have hP : pathL ns root T (dgF p 2) (dgF p 1) (dgF p 0) = [⟨plI ns root, 2, rootE T (dgF p 2)⟩] := by unfold pathL midP; rw [hT]
    have hE : rootE T (dgF p 2) = 0 := by unfold rootE; rw [hT]
    rw [hP] at hj ⊢
    have : j = 0 := by simpa using hj
    subst this
    refine ⟨hroot [], rfl, ?_, fun x => by simp at x, fun _ => ?_⟩
    · show 0 ≤ rootE T (dgF p 2) ∧ rootE T (dgF p 2) < _; rw [hE]; decide
    · show (decR (rootE T (dgF p 2))).1.k ≠ 4; rw [hE, dec_zero]; decide
  | some m =>
    have hmm := mid_mem (root := root) hT
    obtain ⟨k1, h11, h12, h13, h14⟩ := h.pl hmm
    have h11 : plI ns m.f = (k1 : Int) := h11
    have h14 : aGet (ixL ns ns.length) m.f = some (k1 : Int) := h14
    have hE : rootE T (dgF p 2) = tblW m.f := by unfold rootE; rw [hT]
    obtain ⟨t1, t2, t3⟩ := tbl_ok (h.rng hmm)
    have t1 : decR (tblW m.f) = (⟨4, m.f, false, false, false, false⟩, 0) := t1
    have t2 : 0 ≤ tblW m.f := t2
    have t3 : tblW m.f < 18446744073709551616 := t3
    have hP : pathL ns root T (dgF p 2) (dgF p 1) (dgF p 0) = ⟨plI ns root, 2, rootE T (dgF p 2)⟩ :: ⟨plI ns m.f, 1, midE m (dgF p 1)⟩ :: legP ns (m.s (dgF p 1)) (dgF p 0) := by unfold pathL midP; rw [hT]
    have hok := h.t.s _ m hT (dgF p 1)
    rw [hP] at hj ⊢
    have at0 : PthAt ns p (⟨plI ns root, 2, rootE T (dgF p 2)⟩ :: ⟨plI ns m.f, 1, midE m (dgF p 1)⟩ :: legP ns (m.s (dgF p 1)) (dgF p 0)) 0 := by
      refine ⟨hroot _, rfl, ?_, fun _ => ?_, fun x => by simp at x⟩
      · show 0 ≤ rootE T (dgF p 2) ∧ rootE T (dgF p 2) < _; rw [hE]; exact ⟨t2, t3⟩
      · show (decR (rootE T (dgF p 2))).1.k = 4 ∧ aGet (ixL ns ns.length) (decR (rootE T (dgF p 2))).1.n = some (plI ns m.f)
        rw [hE, t1, h11]
        exact ⟨rfl, h14⟩
    have hone : ∀ X : List SP, ∃ k : Nat, ((⟨plI ns root, 2, rootE T (dgF p 2)⟩ :: ⟨plI ns m.f, 1, midE m (dgF p 1)⟩ :: X : List SP).getD 1 default).n = (k : Int) ∧ k < ns.length ∧ (ns.getD k default).e (dgF p (2 - 1)) = ((⟨plI ns root, 2, rootE T (dgF p 2)⟩ :: ⟨plI ns m.f, 1, midE m (dgF p 1)⟩ :: X : List SP).getD 1 default).w := fun X => ⟨k1, h11, h12, by rw [h13]; rfl⟩
    cases hs : m.s (dgF p 1) with
    | no =>
      have hM : midE m (dgF p 1) = 0 := by unfold midE; rw [hs]; rfl
      rw [hs] at hj at0
      have hj' : j = 0 ∨ j = 1 := by have : j < 2 := hj; omega
      rcases hj' with rfl | rfl
      · exact at0
      · refine ⟨hone _, rfl, ?_, fun x => by simp [legP] at x, fun _ => ?_⟩
        · show 0 ≤ midE m (dgF p 1) ∧ midE m (dgF p 1) < _; rw [hM]; decide
        · show (decR (midE m (dgF p 1))).1.k ≠ 4; rw [hM, dec_zero]; decide
    | huge w f =>
      have hM : midE m (dgF p 1) = w := by unfold midE; rw [hs]; rfl
      obtain ⟨u1, u2, u3, u4, u5⟩ := hok.h w f hs
      rw [hs] at hj at0
      have hj' : j = 0 ∨ j = 1 := by have : j < 2 := hj; omega
      rcases hj' with rfl | rfl
      · exact at0
      · refine ⟨hone _, rfl, ?_, fun x => by simp [legP] at x, fun _ => ?_⟩
        · show 0 ≤ midE m (dgF p 1) ∧ midE m (dgF p 1) < _; rw [hM]; exact ⟨u4, u5⟩
        · show (decR (midE m (dgF p 1))).1.k ≠ 4; rw [hM, u2]; decide
    | leaf f e =>
      have hM : midE m (dgF p 1) = tblW f := by unfold midE; rw [hs]; rfl
      have hlm := leaf_mem (root := root) hT hs
      obtain ⟨k2, h21, h22, h23, h24⟩ := h.pl hlm
      have h21 : plI ns f = (k2 : Int) := h21
      have h24 : aGet (ixL ns ns.length) f = some (k2 : Int) := h24
      obtain ⟨v1, v2, v3⟩ := tbl_ok (h.rng hlm)
      have v1 : decR (tblW f) = (⟨4, f, false, false, false, false⟩, 0) := v1
      have v2 : 0 ≤ tblW f := v2
      have v3 : tblW f < 18446744073709551616 := v3
      obtain ⟨y1, y2, y3, y4⟩ := hok.l f e hs (dgF p 0)
      rw [hs] at hj at0
      have hj' : j = 0 ∨ j = 1 ∨ j = 2 := by have : j < 3 := hj; omega
      rcases hj' with rfl | rfl | rfl
      · exact at0
      · refine ⟨hone _, rfl, ?_, fun _ => ?_, fun x => by simp [legP] at x⟩
        · show 0 ≤ midE m (dgF p 1) ∧ midE m (dgF p 1) < _; rw [hM]; exact ⟨v2, v3⟩
        · show (decR (midE m (dgF p 1))).1.k = 4 ∧ aGet (ixL ns ns.length) (decR (midE m (dgF p 1))).1.n = some (plI ns f)
          rw [hM, v1, h21]
          exact ⟨rfl, h24⟩
      · refine ⟨⟨k2, h21, h22, by rw [h23]; rfl⟩, rfl, ⟨y3, y4⟩, fun x => by simp [legP] at x, fun _ => ?_⟩
        show (decR (e (dgF p 0))).1.k ≠ 4
        rcases y2 with z | ⟨z, _⟩ <;> rw [z] <;> decide
end
end Go.Proofs.YtbgjelhefhcnpaaGreat

/- The walks of a page table's path and last. No conditions. -/
set_option linter.unusedSimpArgs false
set_option linter.unusedVariables false
namespace Go.Proofs.YtbgjelhefhcnpaaGreat
open Go Go.RowKit
theorem ix_eq {E : Env} {x : Operand} {kd : IntKind} {k : Nat} {i : Int} (h : ev E x = some (.int kd i)) (he : (k : Int) = i) : Ix E x k := ⟨kd, i, h, he.symm⟩
abbrev spV (x : SP) : Value := .agg #[.int .i64 x.n, .int .i64 x.l, .int .u64 x.w]
attribute [local irreducible] decR pathL ixL
attribute [local irreducible] Code.wp wpList bodyPost Exit.then Exit.inBlock Calls wpQuiet Tri TriQ
section
variable (w0 : World) (cs : List Chunk)
set_option maxHeartbeats 4000000 in
theorem path_c {root : Int} {T : Tr} {vn vd : Value} {ns : List ND} {ds : List DP} (h : PtOk root T ns ds) (hN : RdH (Hp w0 cs) vn ns) (hnl : ns.length ≤ 1000000) {p : Nat} (hp : p < 512) :
    Cal Tryz.prog 50 [ptV root vn vd, .int .i64 (p : Int)] (Hp w0 cs) (fun r : Row => r.v) (fun r => Hp w0 (spS r (pathL ns root T (dgF p 2) (dgF p 1) (dgF p 0)) :: cs)) := by
  obtain ⟨L, hL⟩ : ∃ L, L = pathL ns root T (dgF p 2) (dgF p 1) (dgF p 0) := ⟨_, rfl⟩
  have hlen := path_len ns root T (dgF p 2) (dgF p 1) (dgF p 0)
  have hat : ∀ j, j < L.length → PthAt ns p L j := fun j hj => by rw [hL] at hj ⊢; exact path_at h p hj
  have h0n : (L.getD 0 default).n = plI ns root := by rw [hL]; unfold pathL; rfl
  obtain ⟨k0, h01, h02, h03, h04⟩ := h.pl (root_mem root T)
  have h01 : plI ns root = (k0 : Int) := h01
  have h04 : aGet (ixL ns ns.length) root = some (k0 : Int) := h04
  rw [← hL] at hlen ⊢
  refine cal_of_tri Tryz.func50 rfl Tryz.ntmps50 rfl ?_
  (repeat (first | refine tri_seq ?_ | refine tri_then ?_)); refine tri_region ?_; (repeat (first | refine au_pure ?_ | refine au_pass ?_ | refine au_box (fun _ => ?_) | refine au_alloc (fun _ => ?_) | refine au_store ?_ | refine au_make rfl rfl (fun _ => ?_) | refine au_lit rfl rfl rfl (fun _ => ?_) | refine au_append rfl rfl rfl rfl (fun _ => au_norm ?_) | refine au_storeE rfl rfl rfl rfl ?_)); refine tri_nil ?_; (repeat refine tri_then ?_)
  rename_i g2
  refine tri_weak (H' := Hp w0 (ptC g2 root vn vd :: cs)) (fun w h => h) ?_
  have hN1 := hN.cons (c := ptC g2 root vn vd)
  (repeat (first | refine zz ?_ | refine zv fun _ => ?_))
  refine au_callC rfl rfl rfl rfl rfl (index_c w0 _ (root := root) (vd := vd) hN1 hnl) ?_
  intro bm
  (repeat (first | refine zz ?_ | refine zv fun _ => ?_))
  refine au_pure ?_ (hy := yl_look (β := Int) rfl rfl rfl (by first | (apply has_at; (repeat (first | exact at0 | apply atS)); done) | (repeat (first | assumption | apply has_cons))))
  rw [h04]
  have hk0 : (L.getD 0 default).n = (k0 : Int) := by rw [h0n, h01]
  (repeat (first | refine zz ?_ | refine zv fun _ => ?_))
  refine tri_nilrow SP 80 ?_
  refine tri_block ?_
  refine tri_loop2 (fun (j : Nat) (r : Row) => j < L.length) (fun j r => [(1, .int .i64 (p : Int)), (2, .pointer (some ⟨g2, 0, none⟩)), (5, .map (some bm)), (6, .int .i64 (L.getD j default).n), (7, r.v), (8, .int .i64 ((2 - j : Nat) : Int))])
    (fun j r => Hp w0 (spS r (L.take j) :: mapC bm (ixL ns ns.length) :: ptC g2 root vn vd :: cs)) (fun j _ => L.length - j) 0 (Row.nil w0.heap.size) (by omega) (by rw [hk0]; repeat (first | exact trivial | refine ⟨rfl, ?_⟩)) (fun w h => h) ?_
  intro j r hj
  have hA := hat j hj
  obtain ⟨kk, hk1, hk2, hk3⟩ := hA.n
  have hk3 : (ns.getD kk default).e ⟨digM p (2 - j), dig_lt p (2 - j)⟩ = (L.getD j default).w := hk3
  have hwb := hA.w
  have hlv := hA.l
  have hN2 := (hN1.cons (c := mapC bm (ixL ns ns.length))).cons (c := spS r (L.take j))
  have htl : (L.take j).length = j := by rw [List.length_take]; omega
  (repeat (first | refine zz ?_ | refine zv fun _ => ?_))
  refine tri_block ?_
  (repeat (first | refine zz ?_ | refine zv fun _ => ?_))
  (repeat (first | refine tri_seq ?_ | refine tri_then ?_))
  refine au_draw rfl ?_
  (repeat (first | refine z1 ?_ | refine au_qpass rfl rfl ?_ | refine triq_nil ?_))
  refine triq_call rfl rfl (by first | exact wan_plain rfl | exact wan_yes rfl rfl rfl) (cl_of rfl rfl rfl (calr (digit_c w0 _ p (2 - j) (by omega) (by omega)))) ?_
  (repeat (first | refine z1 ?_ | refine au_qpass rfl rfl ?_ | refine triq_nil ?_))
  refine au_qpure rfl rfl ?_ (hy := yl_idx (k := kk) rfl rfl hN2 (ix_eq rfl hk1.symm) (by rfl) hk2)
  refine au_qpure rfl rfl ?_ (hy := yl_fieldE rfl rfl)
  refine au_qpure rfl rfl ?_ (hy := yl_idxE (j := digM p (2 - j)) rfl rfl (ix_nat rfl) (dig_lt p (2 - j)))
  refine au_qpure rfl rfl ?_ (hy := yl_loadE rfl rfl hN2 (by rfl) hk2 (nd_word (ns.getD kk default) (dig_lt p (2 - j))))
  rw [hk3]
  (repeat (first | refine z1 ?_ | refine au_qpass rfl rfl ?_ | refine triq_nil ?_))
  (repeat (first | refine zz ?_ | refine zv fun _ => ?_))
  have hsp : (⟨(L.getD j default).n, ((2 - j : Nat) : Int), (L.getD j default).w⟩ : SP) = L.getD j default := by rw [← hlv]
  refine au_lit (l := [(⟨(L.getD j default).n, ((2 - j : Nat) : Int), (L.getD j default).w⟩ : SP)]) rfl rfl rfl (fun rl => ?_)
  refine tri_weak (H' := Hp w0 (spS rl [L.getD j default] :: spS r (L.take j) :: mapC bm (ixL ns ns.length) :: ptC g2 root vn vd :: cs)) (fun w h => by rw [← hsp]; exact h) ?_
  refine au_append (i := 1) (l := L.take j) (l2 := [L.getD j default]) rfl rfl rfl rfl (fun r2 => ?_) (hi := rfl) (h2 := rd_chunk (r := rl) (l := [L.getD j default]) ⟨0, rfl⟩) (hb := by rw [htl]; simp; omega)
  refine tri_weak (H' := Hp w0 (spS r2 (L.take (j + 1)) :: mapC bm (ixL ns ns.length) :: ptC g2 root vn vd :: cs)) (fun w h => by
    have h : Hp w0 (spS rl [L.getD j default] :: spS r2 (L.take j ++ [L.getD j default]) :: mapC bm (ixL ns ns.length) :: ptC g2 root vn vd :: cs) w := h
    rw [take_step hj]
    exact h.sub (List.Sublist.cons _ (List.Sublist.refl _))) ?_
  (repeat (first | refine zz ?_ | refine zv fun _ => ?_))
  refine au_callC rfl rfl rfl rfl rfl (entry_c w0 _ (L.getD j default).w hwb.1 hwb.2) (fun _ => ?_)
  have hm := hA.m
  have hee := hA.e
  obtain ⟨e, he⟩ : ∃ e, e = (decR (L.getD j default).w).1 := ⟨_, rfl⟩
  rw [← he] at hm hee ⊢
  obtain ⟨ek, en, ea, eb, ec, ed⟩ := e
  simp only at hm hee
  (repeat (first | refine zz ?_ | refine zv fun _ => ?_))
  by_cases hl : j + 1 = L.length
  · rw [show (ek != 4) = true by simpa using hee hl]
    (repeat (first | refine zz ?_ | refine zv fun _ => ?_))
    refine au_done1 rfl ?_
    exact fun w hw => ⟨r2, rfl, by rw [hl, List.take_length] at hw; exact hw.sub (List.Sublist.cons _ (List.Sublist.cons_cons _ (List.Sublist.cons _ (List.Sublist.cons _ (List.Sublist.refl _)))))⟩
  · obtain ⟨m1, m2⟩ := hm (by omega)
    rw [show (ek != 4) = false by rw [m1]; rfl]
    (repeat (first | refine zz ?_ | refine zv fun _ => ?_))
    refine au_pure ?_ (hy := yl_look (β := Int) rfl rfl rfl (by first | (apply has_at; (repeat (first | exact at0 | apply atS)); done) | (repeat (first | assumption | apply has_cons))))
    rw [m2]
    (repeat (first | refine zz ?_ | refine zv fun _ => ?_))
    exact tri_nx2 (j + 1) r2 (by omega) (by omega) (by rw [show (((2 - (j + 1) : Nat) : Int)) = ((2 - j : Nat) : Int) - 1 by omega]; repeat (first | exact trivial | refine ⟨rfl, ?_⟩)) (fun w h => h.sub (List.Sublist.cons _ (List.Sublist.refl _)))
/-- The last place of the walk for a page. -/
def lastP (ns : List ND) (root : Int) (T : Tr) (p : Nat) : SP := (pathL ns root T (dgF p 2) (dgF p 1) (dgF p 0)).getD ((pathL ns root T (dgF p 2) (dgF p 1) (dgF p 0)).length - 1) default
set_option maxHeartbeats 1000000 in
theorem last_c {root : Int} {T : Tr} {vn vd : Value} {ns : List ND} {ds : List DP} (h : PtOk root T ns ds) (hN : RdH (Hp w0 cs) vn ns) (hnl : ns.length ≤ 1000000) {p : Nat} (hp : p < 512) :
    Cal Tryz.prog 32 [ptV root vn vd, .int .i64 (p : Int)] (Hp w0 cs) (fun _ : Unit => spV (lastP ns root T p)) (fun _ => Hp w0 cs) := by
  have hlen := path_len ns root T (dgF p 2) (dgF p 1) (dgF p 0)
  have hlp : lastP ns root T p = (pathL ns root T (dgF p 2) (dgF p 1) (dgF p 0)).getD ((pathL ns root T (dgF p 2) (dgF p 1) (dgF p 0)).length - 1) default := rfl
  obtain ⟨L, hL⟩ : ∃ L, L = pathL ns root T (dgF p 2) (dgF p 1) (dgF p 0) := ⟨_, rfl⟩
  rw [← hL] at hlen hlp
  rw [hlp]
  refine cal_of_tri Tryz.func32 rfl Tryz.ntmps32 rfl ?_
  (repeat (first | refine tri_seq ?_ | refine tri_then ?_)); refine tri_region ?_; (repeat (first | refine au_pure ?_ | refine au_pass ?_ | refine au_box (fun _ => ?_) | refine au_alloc (fun _ => ?_) | refine au_store ?_ | refine au_make rfl rfl (fun _ => ?_) | refine au_lit rfl rfl rfl (fun _ => ?_) | refine au_append rfl rfl rfl rfl (fun _ => au_norm ?_) | refine au_storeE rfl rfl rfl rfl ?_)); refine tri_nil ?_; (repeat refine tri_then ?_)
  rename_i g2 g4
  refine tri_weak (H' := Hp w0 (blkC g4 80 [.int .i64 0, .int .i64 0, .int .u64 0] :: ptC g2 root vn vd :: cs)) (fun w h => h) ?_
  have hN1 := (hN.cons (c := ptC g2 root vn vd)).cons (c := blkC g4 80 [.int .i64 0, .int .i64 0, .int .u64 0])
  (repeat (first | refine zz ?_ | refine zv fun _ => ?_))
  refine au_callC rfl rfl rfl rfl rfl (path_c w0 _ (vd := vd) h hN1 hnl hp) ?_
  intro r
  rw [← hL]
  have hP : RdH (Hp w0 (spS r L :: blkC g4 80 [.int .i64 0, .int .i64 0, .int .u64 0] :: ptC g2 root vn vd :: cs)) r.v L := rd_chunk ⟨0, rfl⟩
  refine tri_weak (H' := Hp w0 (spS r L :: blkC g4 80 [.int .i64 0, .int .i64 0, .int .u64 0] :: ptC g2 root vn vd :: cs)) (fun w h => h) ?_
  (repeat (first | refine zz ?_ | refine zv fun _ => ?_))
  refine au_pure ?_ (hy := yl_len rfl rfl hP)
  (repeat (first | refine zz ?_ | refine zv fun _ => ?_))
  refine au_pure ?_ (hy := yl_idx (k := L.length - 1) rfl rfl hP (ix_eq rfl (by omega)) (by rfl) (by omega))
  refine au_pure ?_ (hy := yl_loadEN rfl rfl hP (by rfl) (by omega) (by repeat (first | exact nf0 rfl | apply nfS rfl | exact nfR)) (by rfl))
  (repeat (first | refine zz ?_ | refine zv fun _ => ?_))
  refine au_done1 rfl ?_
  exact fun w hw => ⟨(), rfl, hw.sub (List.Sublist.cons _ (List.Sublist.cons _ (List.Sublist.cons _ (List.Sublist.refl _))))⟩
end
end Go.Proofs.YtbgjelhefhcnpaaGreat
