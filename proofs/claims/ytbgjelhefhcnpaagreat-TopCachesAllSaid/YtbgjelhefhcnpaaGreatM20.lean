/- Texts joined: PtDeep, PtPte, PtSet, PtWr. Each part's own remark says what it proves. -/
import Derived.Test.YtbgjelhefhcnpaaGreatM19
import Derived.Test.YtbgjelhefhcnpaaGreatM07
import Derived.Test.YtbgjelhefhcnpaaGreatM08
/- Page tables in plain Lean: a table that is added below the end of a walk. No conditions. -/
set_option linter.unusedSimpArgs false
set_option linter.unusedVariables false
namespace Go.Proofs.YtbgjelhefhcnpaaGreat
open Go Go.RowKit
/-- A tree with one more table on the way to a page. -/
def deepT (T : Tr) (a b : Fin 8) (f : Int) : Tr := match T a with
  | none => updA T a (some ⟨f, fun _ => .no⟩)
  | some m => legT T a b m (.leaf f fun _ => 0)
theorem put_eq {ns : List ND} {f : Int} {k : Nat} (h : plI ns f = (k : Int)) (d : Fin 8) (w : Int) : putL ns f d w = ns.set k ⟨(ns.getD k default).f, updF (ns.getD k default).e d w⟩ := by
  unfold putL
  rw [h, Int.toNat_natCast]
theorem updF_A (e : Fin 8 → Int) (d : Fin 8) (w : Int) : updF e d w = updA e d w := rfl
theorem fr_upd_none {root : Int} {T : Tr} {a : Fin 8} (hT : T a = none) (f : Int) : (frT root (updA T a (some ⟨f, fun _ => .no⟩))).Perm (f :: frT root T) := by
  have hid : updA T a none = T := by rw [← hT, updA_id]
  have n1 := (nodes_updT root T a none).map ND.f
  have d1 := (deps_updT T a none).map DP.f
  have n2 := (nodes_updT root T a (some ⟨f, fun _ => .no⟩)).map ND.f
  have d2 := (deps_updT T a (some ⟨f, fun _ => .no⟩)).map DP.f
  rw [hid] at n1 d1
  simp only [optN, midN, optD, subN, subD, all8, List.flatMap_cons, List.flatMap_nil, List.nil_append, List.append_nil, List.map_cons, List.cons_append] at n1 d1 n2 d2
  refine (n2.append d2).trans (List.Perm.trans ?_ (List.Perm.cons f (n1.append d1)).symm)
  simp only [List.cons_append]
  exact List.Perm.swap _ _ _
theorem huge_ne {w : Int} (h : huW w) : w ≠ 0 := fun e => by
  have := h.2.1
  rw [e, dec_zero] at this
  exact absurd this (by decide)
structure DeepOk (root : Int) (T T' : Tr) (ds : List DP) (ns' : List ND) (a b c : Fin 8) (f : Int) : Prop where
  ok : PtOk root T' ns' ds
  lv : (lvT T' a b c) = ((lvT T a b c).1 - 1, 0)
  wd : ∀ i j k, (lvT T' i j k).2 = (lvT T i j k).2
  fr : (frT root T').Perm (f :: frT root T)
theorem deep_ok {root : Int} {T : Tr} {ns : List ND} {ds : List DP} (h : PtOk root T ns ds) {a b c : Fin 8} {lv : Nat} (hl : lvT T a b c = (((lv + 1 : Nat) : Int), 0)) {f : Int} (hf : f ∉ frT root T) (hr : 0 ≤ f ∧ f ≤ 4294967295) {l' : List ND} {d : Fin 8} (hd : d = if lv = 1 then a else b)
    (hs : SortF (putL ns (endT root T a b c).1 d (tblW f) ++ [⟨f, fun _ => 0⟩]) l') : DeepOk root T (deepT T a b f) ds l' a b c f := by
  cases hT : T a with
  | none =>
    have hlv : lv = 1 := by
      have : lvT T a b c = (2, 0) := by unfold lvT; rw [hT]
      rw [this] at hl
      have := congrArg Prod.fst hl
      simp only at this
      omega
    rw [if_pos hlv] at hd
    subst hd
    obtain ⟨k, h1, h2, h3, _⟩ := h.pl (root_mem root T)
    have h1 : plI ns root = (k : Int) := h1
    have he : (endT root T d b c).1 = root := by unfold endT; rw [hT]
    have hdT : deepT T d b f = updA T d (some ⟨f, fun _ => .no⟩) := by unfold deepT; rw [hT]
    rw [hdT]
    rw [he, put_eq h1, h3] at hs
    have hid : updA T d none = T := by rw [← hT, updA_id]
    have n1 := nodes_updT root T d none
    rw [hid] at n1
    have n2 := nodes_updT root T d (some ⟨f, fun _ => .no⟩)
    rw [rootE_upd] at n2
    have hfr := fr_upd_none (root := root) hT f
    have hlg := legs_updT h.t.s (a := d) (o := some (Mid.mk f fun _ => Leg.no)) (fun m e j => by cases e; exact legok_no)
    have htr := h.t.more hlg hf hr hfr
    have hmn : midN (Mid.mk f fun _ => Leg.no) = [ND.mk f fun _ => 0] := by simp [midN, all8, subN]; rfl
    have hp : (ns.set k (ND.mk root (updF (rootE T) d (tblW f))) ++ [ND.mk f fun _ => 0]).Perm (nodesT root (updA T d (some ⟨f, fun _ => .no⟩))) := by
      refine ((perm_set h2 h3 (h.n.trans n1) ⟨root, updF (rootE T) d (tblW f)⟩).append_right _).trans (List.Perm.trans ?_ n2.symm)
      simp only [optN, hmn, List.nil_append, List.cons_append]
      exact List.Perm.cons _ (List.perm_append_comm (l₂ := [_]))
    refine ⟨⟨htr, hs.1.trans hp, asc_sort hs ((hp.map ND.f).nodup_iff.2 (nodes_nodup htr)), ?_⟩, ?_, fun i j k => ?_, hfr⟩
    · rw [h.d]
      refine dps_eq (deps_asc _) (deps_asc _) ?_
      have d1 := deps_updT T d none
      have d2 := deps_updT T d (some ⟨f, fun _ => .no⟩)
      rw [hid] at d1
      simp only [optD, subD, all8, List.flatMap_cons, List.flatMap_nil, List.nil_append] at d1 d2
      exact d1.trans d2.symm
    · rw [lv_updT, if_pos rfl, hl, hlv]; rfl
    · rw [lv_updT]
      split
      · rename_i e; subst e; unfold lvT; rw [hT]; rfl
      · rfl
  | some m =>
    have hh : lvT T a b c = legL (m.s b) c := by unfold lvT; rw [hT]
    have hok := h.t.s a m hT
    rw [hh] at hl
    have hs0 : m.s b = .no := by
      cases hb : m.s b with
      | no => rfl
      | huge w g =>
        rw [hb] at hl
        have := congrArg Prod.snd hl
        exact absurd this (huge_ne ((hok b).h w g hb))
      | leaf g e =>
        rw [hb] at hl
        have := congrArg Prod.fst hl
        simp only [legL] at this
        omega
    have hlv : lv = 0 := by
      rw [hs0] at hl
      have := congrArg Prod.fst hl
      simp only [legL] at this
      omega
    rw [if_neg (by omega)] at hd
    subst hd
    obtain ⟨k, h1, h2, h3, _⟩ := h.pl (mid_mem (root := root) hT)
    have h1 : plI ns m.f = (k : Int) := h1
    have he : (endT root T a d c).1 = m.f := by unfold endT; rw [hT]; dsimp only; rw [hs0]
    have hdT : deepT T a d f = legT T a d m (.leaf f fun _ => 0) := by unfold deepT; rw [hT]
    rw [hdT]
    rw [he, put_eq h1, h3] at hs
    have n1 := nodes_T (root := root) hT d
    have n2 := nodes_legT root T a d m (.leaf f fun _ => 0)
    have f1 := fr_T (root := root) hT d
    have f2 := fr_legT root T a d m (.leaf f fun _ => 0)
    rw [hs0] at n1 f1
    rw [rootE_some hT] at n2
    simp only [subN, legF, List.nil_append, List.cons_append] at n1 n2 f1 f2
    have hfr : (frT root (legT T a d m (.leaf f fun _ => 0))).Perm (f :: frT root T) := by
      refine f2.trans (List.Perm.trans ?_ (List.Perm.cons f f1).symm)
      exact (List.Perm.cons _ (List.Perm.swap _ _ _)).trans (List.Perm.swap _ _ _)
    have hlg := legs_legT h.t.s (a := a) (b := d) hok (s := Leg.leaf f fun _ => 0) (legok_leaf fun _ => zero_pg)
    have htr := h.t.more hlg hf hr hfr
    have hp : (ns.set k (ND.mk m.f (updF (midE m) d (tblW f))) ++ [ND.mk f fun _ => 0]).Perm (nodesT root (legT T a d m (.leaf f fun _ => 0))) := by
      refine ((perm_set h2 h3 (h.n.trans (n1.trans (List.Perm.swap _ _ _))) ⟨m.f, updF (midE m) d (tblW f)⟩).append_right _).trans (List.Perm.trans ?_ n2.symm)
      simp only [List.cons_append]
      refine (List.Perm.swap _ _ _).trans (List.Perm.cons _ (List.Perm.cons _ ?_))
      exact List.perm_append_comm (l₂ := [_])
    refine ⟨⟨htr, hs.1.trans hp, asc_sort hs ((hp.map ND.f).nodup_iff.2 (nodes_nodup htr)), ?_⟩, ?_, fun i j k => ?_, hfr⟩
    · rw [h.d]
      refine dps_eq (deps_asc _) (deps_asc _) ?_
      have d1 := deps_T hT d
      have d2 := deps_legT T a d m (.leaf f fun _ => 0)
      rw [hs0] at d1
      simp only [subD, List.nil_append] at d1 d2
      exact d1.trans d2.symm
    · rw [lv_legT hT, if_pos ⟨rfl, rfl⟩, hh, hs0]; rfl
    · rw [lv_legT hT]
      split
      · rename_i e; obtain ⟨rfl, rfl⟩ := e; unfold lvT; rw [hT]; dsimp only; rw [hs0]; rfl
      · rfl
/-- A tree with tables in the frames on the way to a page. -/
def deepL (T : Tr) (p : Nat) (l : List Int) : Tr := l.foldl (fun T f => deepT T (dgF p 2) (dgF p 1) f) T
theorem deepL_step (T : Tr) (p : Nat) {l : List Int} {i : Nat} (hi : i < l.length) : deepL T p (l.take (i + 1)) = deepT (deepL T p (l.take i)) (dgF p 2) (dgF p 1) (l.getD i default) := by
  unfold deepL
  rw [take_step hi, List.foldl_append]
  rfl
end Go.Proofs.YtbgjelhefhcnpaaGreat

/- Walks of Mark, Protect, Part of package pte. No conditions. -/
set_option linter.unusedSimpArgs false
set_option linter.unusedVariables false
namespace Go.Proofs.YtbgjelhefhcnpaaGreat
open Go Go.RowKit
attribute [local irreducible] Code.wp wpList bodyPost Exit.then Exit.inBlock Calls wpQuiet Tri TriQ
theorem ret_pg {x : Int} {e : Ent} {c : Int} (h : pageR x = (e, c)) : Ending.returned (.tuple #[entE e, .int .i64 c]) = .returned (.tuple #[entE (pageR x).1, .int .i64 (pageR x).2]) := by rw [h]
set_option maxHeartbeats 400000 in
theorem page_any (x : Int) (w : World) (h0 : 0 ≤ x) (h1 : x < 18446744073709551616) : Calls Tryz.prog 68 [.int .u64 x].toArray w (Ret (.tuple #[entE (pageR x).1, .int .i64 (pageR x).2]) w) := by
  obtain ⟨⟨k, n, a, b, c, d⟩, u, hp⟩ : ∃ e c, decR x = (e, c) := ⟨_, _, rfl⟩
  refine calls_of_tri Tryz.func68 rfl Tryz.ntmps68 rfl ?_
  (repeat (first | refine au_pure ?_ | refine au_pass ?_ | refine au_box (fun _ => ?_) | refine au_alloc (fun _ => ?_) | refine au_store ?_ | refine au_make rfl rfl (fun _ => ?_) | refine au_lit rfl rfl rfl (fun _ => ?_) | refine au_append rfl rfl rfl rfl (fun _ => au_norm ?_) | refine au_storeE rfl rfl rfl rfl ?_ | refine tri_seq ?_ | refine tri_then ?_ | refine tri_region ?_ | refine tri_nil ?_ | refine tri_skip ?_ | refine tri_ret ?_ | refine tri_exit ?_ | refine tri_thenr ?_ | refine tri_thene ?_ | refine tri_blkn ?_ | refine tri_blkr ?_ | refine tri_blke ?_ | refine tri_blko (by rfl) ?_ | refine tri_if_t (by rfl) ?_ | refine tri_if_f (by rfl) ?_ | fail))
  refine au_call rfl rfl (cl_of rfl rfl rfl (fun _ h => Ret.hp (decode_at _ h0 h1 hp) h)) ?_
  (repeat' (first | refine au_pure ?_ | refine au_pass ?_ | refine au_box (fun _ => ?_) | refine au_alloc (fun _ => ?_) | refine au_store ?_ | refine au_make rfl rfl (fun _ => ?_) | refine au_lit rfl rfl rfl (fun _ => ?_) | refine au_append rfl rfl rfl rfl (fun _ => au_norm ?_) | refine au_storeE rfl rfl rfl rfl ?_ | refine tri_seq ?_ | refine tri_then ?_ | refine tri_region ?_ | refine tri_nil ?_ | refine tri_skip ?_ | refine tri_ret ?_ | refine tri_exit ?_ | refine tri_thenr ?_ | refine tri_thene ?_ | refine tri_blkn ?_ | refine tri_blkr ?_ | refine tri_blke ?_ | refine tri_blko (by rfl) ?_ | refine tri_if_t (by rfl) ?_ | refine tri_if_f (by rfl) ?_ | ((first | refine tri_cond (by rfl) (fun hc => ?_) (fun hc => ?_) | refine tri_gsplit (by rfl) (by rfl) (by (fail_if_success exact (rfl : _ = some (Value.bool true))); (fail_if_success exact (rfl : _ = some (Value.bool false))); rfl) (fun hc => ?_) (fun hc => ?_)) <;> (try simp only [decide_eq_true_eq, decide_eq_false_iff_not, beq_iff_eq, bne_iff_ne, ne_eq, Bool.not_eq_true', Bool.not_eq_false', beq_eq_false_iff_ne, bne_eq_false_iff_eq, Int.not_lt, Int.not_le, gt_iff_lt, ge_iff_le, Bool.and_eq_true, Bool.or_eq_true, Bool.and_eq_false_iff, Bool.or_eq_false_iff, Decidable.not_not, not_true_eq_false, not_false_eq_true, and_true, true_and, or_false, false_or, or_true, true_or, and_false, false_and, eq_self, Bool.true_eq_false, Bool.false_eq_true] at hc) <;> (try (exfalso; omega))) | fail))
  all_goals
    refine au_done2 rfl ?_
    first
      | exact fun w h => ⟨ret_pg (e := noEnt) (by unfold pageR; rw [hp]; simp_all), h.below⟩
      | exact fun w h => ⟨ret_pg (e := ⟨k, n, a, b, c, d⟩) (by unfold pageR; rw [hp]; simp_all), h.below⟩
theorem page_at {x k n u : Int} {a b c d : Bool} (w : World) (h0 : 0 ≤ x) (h1 : x < 18446744073709551616) (hp : pageR x = (⟨k, n, a, b, c, d⟩, u)) : Calls Tryz.prog 68 [.int .u64 x].toArray w (Ret (.tuple #[entV k n a b c d, .int .i64 u]) w) := by
  have := page_any x w h0 h1
  rwa [hp] at this
set_option maxHeartbeats 400000 in
theorem mark_any (x : Int) (wr : Bool) (w : World) (h0 : 0 ≤ x) (h1 : x < 18446744073709551616) : Calls Tryz.prog 27 [.int .u64 x, .bool wr].toArray w (Ret (.tuple #[.int .u64 (markR x wr).1, .int .i64 (markR x wr).2]) w) := by
  obtain ⟨⟨k, n, a, b, c, d⟩, u, hp⟩ : ∃ e c, pageR x = (e, c) := ⟨_, _, rfl⟩
  refine calls_of_tri Tryz.func27 rfl Tryz.ntmps27 rfl ?_
  (repeat (first | refine au_pure ?_ | refine au_pass ?_ | refine au_box (fun _ => ?_) | refine au_alloc (fun _ => ?_) | refine au_store ?_ | refine au_make rfl rfl (fun _ => ?_) | refine au_lit rfl rfl rfl (fun _ => ?_) | refine au_append rfl rfl rfl rfl (fun _ => au_norm ?_) | refine au_storeE rfl rfl rfl rfl ?_ | refine tri_seq ?_ | refine tri_then ?_ | refine tri_region ?_ | refine tri_nil ?_ | refine tri_skip ?_ | refine tri_ret ?_ | refine tri_exit ?_ | refine tri_thenr ?_ | refine tri_thene ?_ | refine tri_blkn ?_ | refine tri_blkr ?_ | refine tri_blke ?_ | refine tri_blko (by rfl) ?_ | refine tri_if_t (by rfl) ?_ | refine tri_if_f (by rfl) ?_ | fail))
  refine au_call rfl rfl (cl_of rfl rfl rfl (fun _ h => Ret.hp (page_at _ h0 h1 hp) h)) ?_
  (repeat' (first | refine au_pure ?_ | refine au_pass ?_ | refine au_box (fun _ => ?_) | refine au_alloc (fun _ => ?_) | refine au_store ?_ | refine au_make rfl rfl (fun _ => ?_) | refine au_lit rfl rfl rfl (fun _ => ?_) | refine au_append rfl rfl rfl rfl (fun _ => au_norm ?_) | refine au_storeE rfl rfl rfl rfl ?_ | refine tri_seq ?_ | refine tri_then ?_ | refine tri_region ?_ | refine tri_nil ?_ | refine tri_skip ?_ | refine tri_ret ?_ | refine tri_exit ?_ | refine tri_thenr ?_ | refine tri_thene ?_ | refine tri_blkn ?_ | refine tri_blkr ?_ | refine tri_blke ?_ | refine tri_blko (by rfl) ?_ | refine tri_if_t (by rfl) ?_ | refine tri_if_f (by rfl) ?_ | ((first | refine tri_cond (by rfl) (fun hc => ?_) (fun hc => ?_) | refine tri_gsplit (by rfl) (by rfl) (by (fail_if_success exact (rfl : _ = some (Value.bool true))); (fail_if_success exact (rfl : _ = some (Value.bool false))); rfl) (fun hc => ?_) (fun hc => ?_)) <;> (try simp only [decide_eq_true_eq, decide_eq_false_iff_not, beq_iff_eq, bne_iff_ne, ne_eq, Bool.not_eq_true', Bool.not_eq_false', beq_eq_false_iff_ne, bne_eq_false_iff_eq, Int.not_lt, Int.not_le, gt_iff_lt, ge_iff_le, Bool.and_eq_true, Bool.or_eq_true, Bool.and_eq_false_iff, Bool.or_eq_false_iff, Decidable.not_not, not_true_eq_false, not_false_eq_true, and_true, true_and, or_false, false_or, or_true, true_or, and_false, false_and, eq_self, Bool.true_eq_false, Bool.false_eq_true] at hc) <;> (try (exfalso; omega))) | fail))
  all_goals
    refine au_done2 rfl ?_
    exact fun w h => ⟨ret_wi (by unfold markR; rw [hp]; simp_all), h.below⟩
set_option maxHeartbeats 400000 in
theorem prot_any (x : Int) (w : World) (h0 : 0 ≤ x) (h1 : x < 18446744073709551616) : Calls Tryz.prog 44 [.int .u64 x].toArray w (Ret (.tuple #[.int .u64 (protR x).1, .int .i64 (protR x).2]) w) := by
  obtain ⟨⟨k, n, a, b, c, d⟩, u, hp⟩ : ∃ e c, decR x = (e, c) := ⟨_, _, rfl⟩
  refine calls_of_tri Tryz.func44 rfl Tryz.ntmps44 rfl ?_
  (repeat (first | refine au_pure ?_ | refine au_pass ?_ | refine au_box (fun _ => ?_) | refine au_alloc (fun _ => ?_) | refine au_store ?_ | refine au_make rfl rfl (fun _ => ?_) | refine au_lit rfl rfl rfl (fun _ => ?_) | refine au_append rfl rfl rfl rfl (fun _ => au_norm ?_) | refine au_storeE rfl rfl rfl rfl ?_ | refine tri_seq ?_ | refine tri_then ?_ | refine tri_region ?_ | refine tri_nil ?_ | refine tri_skip ?_ | refine tri_ret ?_ | refine tri_exit ?_ | refine tri_thenr ?_ | refine tri_thene ?_ | refine tri_blkn ?_ | refine tri_blkr ?_ | refine tri_blke ?_ | refine tri_blko (by rfl) ?_ | refine tri_if_t (by rfl) ?_ | refine tri_if_f (by rfl) ?_ | fail))
  refine au_call rfl rfl (cl_of rfl rfl rfl (fun _ h => Ret.hp (decode_at _ h0 h1 hp) h)) ?_
  (repeat' (first | refine au_pure ?_ | refine au_pass ?_ | refine au_box (fun _ => ?_) | refine au_alloc (fun _ => ?_) | refine au_store ?_ | refine au_make rfl rfl (fun _ => ?_) | refine au_lit rfl rfl rfl (fun _ => ?_) | refine au_append rfl rfl rfl rfl (fun _ => au_norm ?_) | refine au_storeE rfl rfl rfl rfl ?_ | refine tri_seq ?_ | refine tri_then ?_ | refine tri_region ?_ | refine tri_nil ?_ | refine tri_skip ?_ | refine tri_ret ?_ | refine tri_exit ?_ | refine tri_thenr ?_ | refine tri_thene ?_ | refine tri_blkn ?_ | refine tri_blkr ?_ | refine tri_blke ?_ | refine tri_blko (by rfl) ?_ | refine tri_if_t (by rfl) ?_ | refine tri_if_f (by rfl) ?_ | ((first | refine tri_cond (by rfl) (fun hc => ?_) (fun hc => ?_) | refine tri_gsplit (by rfl) (by rfl) (by (fail_if_success exact (rfl : _ = some (Value.bool true))); (fail_if_success exact (rfl : _ = some (Value.bool false))); rfl) (fun hc => ?_) (fun hc => ?_)) <;> (try simp only [decide_eq_true_eq, decide_eq_false_iff_not, beq_iff_eq, bne_iff_ne, ne_eq, Bool.not_eq_true', Bool.not_eq_false', beq_eq_false_iff_ne, bne_eq_false_iff_eq, Int.not_lt, Int.not_le, gt_iff_lt, ge_iff_le, Bool.and_eq_true, Bool.or_eq_true, Bool.and_eq_false_iff, Bool.or_eq_false_iff, Decidable.not_not, not_true_eq_false, not_false_eq_true, and_true, true_and, or_false, false_or, or_true, true_or, and_false, false_and, eq_self, Bool.true_eq_false, Bool.false_eq_true] at hc) <;> (try (exfalso; omega))) | fail))
  all_goals
    refine au_done2 rfl ?_
    exact fun w h => ⟨ret_wi (by unfold protR; rw [hp]; simp_all), h.below⟩
set_option maxHeartbeats 400000 in
theorem part_any (x i : Int) (w : World) (h0 : 0 ≤ x) (h1 : x < 18446744073709551616) (hi : -9223372036854775808 ≤ i ∧ i ≤ 9223372036854775807) : Calls Tryz.prog 49 [.int .u64 x, .int .i64 i].toArray w (Ret (.tuple #[.int .u64 (partR x i).1, .int .i64 (partR x i).2]) w) := by
  obtain ⟨⟨k, n, a, b, c, d⟩, u, hp⟩ : ∃ e c, decR x = (e, c) := ⟨_, _, rfl⟩
  obtain ⟨hn0, hn1⟩ : 0 ≤ n ∧ n ≤ 4294967295 := decR_bd hp
  refine calls_of_tri Tryz.func49 rfl Tryz.ntmps49 rfl ?_
  (repeat (first | refine au_pure ?_ | refine au_pass ?_ | refine au_box (fun _ => ?_) | refine au_alloc (fun _ => ?_) | refine au_store ?_ | refine au_make rfl rfl (fun _ => ?_) | refine au_lit rfl rfl rfl (fun _ => ?_) | refine au_append rfl rfl rfl rfl (fun _ => au_norm ?_) | refine au_storeE rfl rfl rfl rfl ?_ | refine tri_seq ?_ | refine tri_then ?_ | refine tri_region ?_ | refine tri_nil ?_ | refine tri_skip ?_ | refine tri_ret ?_ | refine tri_exit ?_ | refine tri_thenr ?_ | refine tri_thene ?_ | refine tri_blkn ?_ | refine tri_blkr ?_ | refine tri_blke ?_ | refine tri_blko (by rfl) ?_ | refine tri_if_t (by rfl) ?_ | refine tri_if_f (by rfl) ?_ | fail))
  refine au_call rfl rfl (cl_of rfl rfl rfl (fun _ h => Ret.hp (decode_at _ h0 h1 hp) h)) ?_
  (repeat' (first | refine au_pure ?_ | refine au_pass ?_ | refine au_box (fun _ => ?_) | refine au_alloc (fun _ => ?_) | refine au_store ?_ | refine au_make rfl rfl (fun _ => ?_) | refine au_lit rfl rfl rfl (fun _ => ?_) | refine au_append rfl rfl rfl rfl (fun _ => au_norm ?_) | refine au_storeE rfl rfl rfl rfl ?_ | refine tri_seq ?_ | refine tri_then ?_ | refine tri_region ?_ | refine tri_nil ?_ | refine tri_skip ?_ | refine tri_ret ?_ | refine tri_exit ?_ | refine tri_thenr ?_ | refine tri_thene ?_ | refine tri_blkn ?_ | refine tri_blkr ?_ | refine tri_blke ?_ | refine tri_blko (by rfl) ?_ | refine tri_if_t (by rfl) ?_ | refine tri_if_f (by rfl) ?_ | ((first | refine tri_cond (by rfl) (fun hc => ?_) (fun hc => ?_) | refine tri_gsplit (by rfl) (by rfl) (by (fail_if_success exact (rfl : _ = some (Value.bool true))); (fail_if_success exact (rfl : _ = some (Value.bool false))); rfl) (fun hc => ?_) (fun hc => ?_)) <;> (try simp only [decide_eq_true_eq, decide_eq_false_iff_not, beq_iff_eq, bne_iff_ne, ne_eq, Bool.not_eq_true', Bool.not_eq_false', beq_eq_false_iff_ne, bne_eq_false_iff_eq, Int.not_lt, Int.not_le, gt_iff_lt, ge_iff_le, Bool.and_eq_true, Bool.or_eq_true, Bool.and_eq_false_iff, Bool.or_eq_false_iff, Decidable.not_not, not_true_eq_false, not_false_eq_true, and_true, true_and, or_false, false_or, or_true, true_or, and_false, false_and, eq_self, Bool.true_eq_false, Bool.false_eq_true] at hc) <;> (try (exfalso; omega))) | fail))
  all_goals try (refine au_done2 rfl ?_; exact fun w h => ⟨ret_wi (by unfold partR; rw [hp]; simp_all), h.below⟩)
  all_goals
    refine au_call rfl rfl (cl_of rfl rfl rfl (fun _ h => Ret.hp (encode_any _ _ _ _ _ _ _) h)) ?_
    (repeat (first | refine au_pure ?_ | refine au_pass ?_ | refine au_box (fun _ => ?_) | refine au_alloc (fun _ => ?_) | refine au_store ?_ | refine au_make rfl rfl (fun _ => ?_) | refine au_lit rfl rfl rfl (fun _ => ?_) | refine au_append rfl rfl rfl rfl (fun _ => au_norm ?_) | refine au_storeE rfl rfl rfl rfl ?_ | refine tri_seq ?_ | refine tri_then ?_ | refine tri_region ?_ | refine tri_nil ?_ | refine tri_skip ?_ | refine tri_ret ?_ | refine tri_exit ?_ | refine tri_thenr ?_ | refine tri_thene ?_ | refine tri_blkn ?_ | refine tri_blkr ?_ | refine tri_blke ?_ | refine tri_blko (by rfl) ?_ | refine tri_if_t (by rfl) ?_ | refine tri_if_f (by rfl) ?_ | fail))
    refine au_done2 rfl ?_
    refine fun w h => ⟨ret_wi ?_, h.below⟩
    unfold partR
    rw [hp]
    simp_all [enc]
    try (intro hh; omega)
theorem encode_at {k n v u : Int} {a b c d : Bool} (w : World) (h : encS k n a b c d = (v, u)) : Calls Tryz.prog 40 [entV k n a b c d].toArray w (Ret (.tuple #[.int .u64 v, .int .i64 u]) w) := by
  have := encode_any k n a b c d w
  rwa [h] at this
theorem mark_at {v u : Int} {x : Int} {wr : Bool} (w : World) (h0 : 0 ≤ x) (h1 : x < 18446744073709551616) (h : markR x wr = (v, u)) : Calls Tryz.prog 27 [.int .u64 x, .bool wr].toArray w (Ret (.tuple #[.int .u64 v, .int .i64 u]) w) := by
  have := mark_any x wr w h0 h1
  rwa [h] at this
theorem prot_at {v u : Int} {x : Int} (w : World) (h0 : 0 ≤ x) (h1 : x < 18446744073709551616) (h : protR x = (v, u)) : Calls Tryz.prog 44 [.int .u64 x].toArray w (Ret (.tuple #[.int .u64 v, .int .i64 u]) w) := by
  have := prot_any x w h0 h1
  rwa [h] at this
theorem part_at {v u : Int} {x i : Int} (w : World) (h0 : 0 ≤ x) (h1 : x < 18446744073709551616) (hi : -9223372036854775808 ≤ i ∧ i ≤ 9223372036854775807) (h : partR x i = (v, u)) : Calls Tryz.prog 49 [.int .u64 x, .int .i64 i].toArray w (Ret (.tuple #[.int .u64 v, .int .i64 u]) w) := by
  have := part_any x i w h0 h1 hi
  rwa [h] at this
end Go.Proofs.YtbgjelhefhcnpaaGreat

/- The walks of a page table's deepen and Set. No conditions. -/
set_option linter.unusedSimpArgs false
set_option linter.unusedVariables false
namespace Go.Proofs.YtbgjelhefhcnpaaGreat
open Go Go.RowKit
/-- The tree behind i tables. -/
structure DpOk (root : Int) (T : Tr) (ds : List DP) (p : Nat) (l : List Int) (i : Nat) (ns' : List ND) : Prop where
  ok : PtOk root (deepL T p (l.take i)) ns' ds
  lv : pgT (deepL T p (l.take i)) p = (((l.length - i : Nat) : Int), 0)
  wd : ∀ q, (pgT (deepL T p (l.take i)) q).2 = (pgT T q).2
  fr : ∀ f, f ∈ frT root (deepL T p (l.take i)) → f ∈ l.take i ∨ f ∈ frT root T
theorem lv_le (T : Tr) (a b c : Fin 8) : (lvT T a b c).1 ≤ 2 := by
  unfold lvT
  split
  · exact Int.le_refl _
  · unfold legL
    split <;> simp
theorem tbl_enc {f : Int} (h : 0 ≤ f ∧ f ≤ 4294967295) : encS 4 f false false false false = (tblW f, 0) := by
  have ho : okE ⟨4, f, false, false, false, false⟩ := ⟨by simp, by simp, by unfold rngB; simp; omega, rfl⟩
  exact enc_of_ok ho
theorem Frsh.at {root : Int} {T : Tr} {l : List Int} (h : Frsh root T l) {i : Nat} (hi : i < l.length) : l.getD i default ∉ l.take i ∧ l.getD i default ∉ frT root T ∧ 0 ≤ l.getD i default ∧ l.getD i default ≤ 4294967295 := by
  have hm : l.getD i default ∈ l := by rw [getD_get hi]; exact List.getElem_mem hi
  refine ⟨fun hx => ?_, h.n _ hm, h.r _ hm⟩
  have hd := h.d
  have e : l = l.take (i + 1) ++ l.drop (i + 1) := (List.take_append_drop _ _).symm
  rw [e, take_step hi] at hd
  have h1 := (List.nodup_append.1 hd).1
  exact (List.nodup_append.1 h1).2.2 _ hx _ (List.mem_singleton.2 rfl) rfl
attribute [local irreducible] decR ixL endP pgT deepL
attribute [local irreducible] Code.wp wpList bodyPost Exit.then Exit.inBlock Calls wpQuiet Tri TriQ
section
variable (w0 : World) (cs : List Chunk)
set_option maxHeartbeats 2000000 in
theorem deepen_c {root : Int} {T : Tr} {ns : List ND} {ds : List DP} (h : PtOk root T ns ds) {rn : Row} {vd vf : Value} {gt : Nat} {l : List Int} (hL : RdH (Hp w0 cs) vf l) (hf : Frsh root T l) {p : Nat} (hp : p < 512) (hlv : pgT T p = ((l.length : Int), 0)) :
    Cal Tryz.prog 47 [pR gt, .int .i64 (p : Int), vf] (Hp w0 (ptC gt root rn.v vd :: ndS rn ns :: cs)) (fun _ : {y : Row × List ND // DpOk root T ds p l l.length y.2} => .tuple #[]) (fun y => Hp w0 (ptC gt root y.1.1.v vd :: ndS y.1.1 y.1.2 :: cs)) := by
  have hl2 : l.length ≤ 2 := by
    have : (pgT T p).1 ≤ 2 := by unfold pgT; exact lv_le ..
    rw [hlv] at this
    simp only at this
    omega
  refine cal_of_tri Tryz.func47 rfl Tryz.ntmps47 rfl ?_
  (repeat (first | refine tri_seq ?_ | refine tri_then ?_)); refine tri_region ?_; (repeat (first | refine au_pure ?_ | refine au_pass ?_ | refine au_box (fun _ => ?_) | refine au_alloc (fun _ => ?_) | refine au_store ?_ | refine au_make rfl rfl (fun _ => ?_) | refine au_lit rfl rfl rfl (fun _ => ?_) | refine au_append rfl rfl rfl rfl (fun _ => au_norm ?_) | refine au_storeE rfl rfl rfl rfl ?_)); refine tri_nil ?_; (repeat refine tri_then ?_)
  (repeat (first | refine zz ?_ | refine zv fun _ => ?_))
  refine tri_block ?_
  refine tri_loop3 (fun (i : Nat) (r : Row) (m : List ND) => i ≤ l.length ∧ DpOk root T ds p l i m) (fun i _ _ => [(0, pR gt), (1, .int .i64 (p : Int)), (11, vf), (12, .int .i64 (l.length : Int)), (13, .int .i64 (i : Int))]) (fun _ r m => Hp w0 (ptC gt root r.v vd :: ndS r m :: cs)) (fun i _ _ => l.length - i) 0 rn ns ⟨by omega, ?_⟩ (by repeat (first | exact trivial | refine ⟨rfl, ?_⟩)) (fun w h => h) ?_
  · refine ⟨?_, ?_, ?_, ?_⟩
    · unfold deepL; exact h
    · unfold deepL; exact hlv
    · unfold deepL; exact fun _ => rfl
    · unfold deepL; exact fun f hf => .inr hf
  rintro i r m ⟨hi, hD⟩
  (repeat (first | refine zz ?_ | refine zv fun _ => ?_))
  ((first | refine tri_cond (by rfl) (fun hc => ?_) (fun hc => ?_) | refine tri_gsplit (by rfl) (by rfl) (by (fail_if_success exact (rfl : _ = some (Value.bool true))); (fail_if_success exact (rfl : _ = some (Value.bool false))); rfl) (fun hc => ?_) (fun hc => ?_)) <;> (try simp only [decide_eq_true_eq, decide_eq_false_iff_not, beq_iff_eq, bne_iff_ne, ne_eq, Bool.not_eq_true', Bool.not_eq_false', beq_eq_false_iff_ne, bne_eq_false_iff_eq, Int.not_lt, Int.not_le, gt_iff_lt, ge_iff_le, Bool.and_eq_true, Bool.or_eq_true, Bool.and_eq_false_iff, Bool.or_eq_false_iff, Decidable.not_not, not_true_eq_false, not_false_eq_true, and_true, true_and, or_false, false_or, or_true, true_or, and_false, false_and, eq_self, Bool.true_eq_false, Bool.false_eq_true] at hc) <;> (try (exfalso; omega)))
  case refine_1 =>
    have hil : i < l.length := by omega
    obtain ⟨q1, q2, q3, q4⟩ := hf.at hil
    obtain ⟨T1, hT1⟩ : ∃ T1, T1 = deepL T p (l.take i) := ⟨_, rfl⟩
    have hst := deepL_step T p hil
    obtain ⟨f, hff⟩ : ∃ f, f = l.getD i default := ⟨_, rfl⟩
    obtain ⟨d1, d2, d3, d4⟩ := hD
    rw [← hT1] at d1 d2 d3 d4
    rw [← hT1, ← hff] at hst
    rw [← hff] at q1 q2 q3 q4
    have hle := last_eq m root T1 p
    obtain ⟨k, lv, e1, e2, e3, e4⟩ := end_at d1 p
    have e5 : (endP root T1 p).2 = pgT T1 p := by unfold endP pgT; exact end_lv ..
    have e6 : lv = l.length - i := by
      have : (endP root T1 p).2.1 = ((l.length - i : Nat) : Int) := by rw [e5, d2]
      omega
    obtain ⟨lw, hlw⟩ : ∃ lw, lv = lw + 1 := ⟨lv - 1, by omega⟩
    rw [e1, e3] at hle
    have hN : RdH (Hp w0 (ptC gt root r.v vd :: ndS r m :: cs)) r.v m := rd_chunk ⟨1, rfl⟩
    (repeat (first | refine zz ?_ | refine zv fun _ => ?_))
    refine tri_block ?_
    (repeat (first | refine zz ?_ | refine zv fun _ => ?_))
    refine au_pure ?_ (hy := yl_idx (k := i) rfl rfl hL.cons.cons (ix_nat rfl) (by rfl) (by omega))
    refine au_pure ?_ (hy := yl_loadE rfl rfl hL.cons.cons (by rfl) (by omega) (by rfl))
    rw [← hff]
    (repeat (first | refine zz ?_ | refine zv fun _ => ?_))
    refine au_callC rfl rfl rfl rfl rfl (last_c w0 _ (vn := r.v) (vd := vd) d1 hN (by have := d1.nlen; omega) hp) (fun _ => ?_)
    rw [hle]
    refine zv fun g6 => ?_
    refine zz ?_
    refine zz ?_
    refine tri_weak (H' := Hp w0 (spC g6 (k : Int) (lv : Int) (endP root T1 p).2.2 :: ptC gt root r.v vd :: ndS r m :: cs)) (fun w h => h) ?_
    (repeat (first | refine zz ?_ | refine zv fun _ => ?_))
    refine au_call rfl rfl (cl_of rfl rfl rfl (fun _ h => Ret.hp (encode_at _ (tbl_enc ⟨q3, q4⟩)) h)) ?_
    (repeat (first | refine zz ?_ | refine zv fun _ => ?_))
    (repeat (first | refine tri_seq ?_ | refine tri_then ?_))
    refine ar_held [14] (spC g6 (k : Int) (lv : Int) (endP root T1 p).2.2 :: ptC gt root r.v vd :: ndS r m :: cs) rfl ?_
    refine ar_take 0 rfl rfl rfl ?_; refine ar_take 1 rfl rfl rfl ?_; refine ar_take 2 rfl rfl rfl ?_; refine ar_take 3 rfl rfl rfl ?_; refine ar_take 4 rfl rfl rfl ?_; refine ar_take 5 rfl rfl rfl ?_; refine ar_take 6 rfl rfl rfl ?_; refine ar_take 7 rfl rfl rfl ?_; refine ar_take 8 rfl rfl rfl ?_
    refine ar_take 10 rfl rfl rfl ?_
    refine ar_take 11 rfl rfl rfl ?_ (hy := yl_idx (k := k) rfl rfl (rd_chunk (r := r) (l := m) ⟨2, rfl⟩) (ix_nat rfl) (by rfl) e2)
    refine ar_take 12 rfl rfl rfl ?_ (hy := yl_fieldE rfl rfl)
    refine ar_op 9 rfl ?_
    refine au_callC rfl rfl rfl rfl rfl (digit_c w0 _ p lv (by omega) (by omega)) (fun _ => ?_)
    refine tri_nil ?_; refine ar_in ?_
    refine ar_take 13 rfl rfl rfl ?_ (hy := yl_idxE (j := digM p lv) rfl rfl (ix_nat rfl) (dig_lt p lv))
    refine ar_op 14 rfl ?_
    have hd := dig_lt p lv
    refine au_storeE (k := k) (f := 1 + digM p lv) (a := (⟨(m.getD k default).f, updF (m.getD k default).e (dgF p lv) (tblW f)⟩ : ND)) rfl rfl rfl rfl ?_ (hf := Nat.ble_eq_true_of_le (by show 1 + digM p lv + 1 ≤ 9; omega)) (ha0 := by
      show Enc.dec (setL (Enc.enc (m.getD k default)) (1 + (dgF p lv).val) [.int .u64 (tblW f)]) = _
      rw [nd_set, nd_dec]) (ha := nd_set (m.getD k default) (dgF p lv) (tblW f))
    refine tri_nil ?_; refine ar_ink ?_
    refine ar_done ?_
    have hput := put_eq e1 (dgF p lv) (tblW f)
    rw [← hput]
    refine tri_weak (H' := Hp w0 (ptC gt root r.v vd :: ndS r (putL m (endP root T1 p).1 (dgF p lv) (tblW f)) :: cs)) (fun w h => HpM.tail h) ?_
    (repeat (first | refine zz ?_ | refine zv fun _ => ?_))
    refine au_callC rfl rfl rfl rfl rfl (add_c w0 cs (root := root) (ns := putL m (endP root T1 p).1 (dgF p lv) (tblW f)) (rn := r) (vd := vd) (gt := gt) f (by rw [put_len]; omega) (by rw [put_len]; have := d1.nlen; omega)) ?_
    rintro ⟨r2, l2, hl2s⟩
    have hlvT : lvT T1 (dgF p 2) (dgF p 1) (dgF p 0) = (((lw + 1 : Nat) : Int), 0) := by
      have : pgT T1 p = (((lw + 1 : Nat) : Int), 0) := by rw [d2]; congr 2; omega
      unfold pgT at this
      exact this
    have hfn : f ∉ frT root T1 := fun hx => (d4 f hx).elim q1 q2
    have hdg : dgF p lv = if lw = 1 then dgF p 2 else dgF p 1 := by
      split
      · rw [show lv = 2 by omega]
      · rw [show lv = 1 by omega]
    have hK := deep_ok d1 hlvT hfn ⟨q3, q4⟩ hdg (l' := l2) (by unfold endP at hl2s; exact hl2s)
    rw [← hst] at hK
    (repeat (first | refine zz ?_ | refine zv fun _ => ?_))
    refine tri_nx3 (i + 1) r2 l2 (by omega) ⟨by omega, hK.ok, ?_, fun q => ?_, fun g hg => ?_⟩ (by repeat (first | exact trivial | refine ⟨rfl, ?_⟩)) (fun w h => h)
    · have := hK.lv
      rw [hlvT] at this
      unfold pgT
      rw [this]
      congr 1
      simp only
      omega
    · rw [← d3]
      unfold pgT
      exact hK.wd _ _ _
    · rw [take_step hil, ← hff]
      rcases List.mem_cons.1 (hK.fr.mem_iff.1 hg) with e | e
      · exact .inl (List.mem_append.2 (.inr (List.mem_singleton.2 e)))
      · exact (d4 g e).elim (fun x => .inl (List.mem_append.2 (.inl x))) .inr
  have hie : i = l.length := by omega
  subst hie
  (repeat (first | refine zz ?_ | refine zv fun _ => ?_))
  refine tri_done0 (by first | exact .inl rfl | exact .inr rfl) rfl ?_
  exact fun w hw => ⟨⟨⟨r, m⟩, hD⟩, rfl, hw⟩
end
end Go.Proofs.YtbgjelhefhcnpaaGreat

/- Page tables in plain Lean: a word that is written at the end of a walk. No conditions. -/
set_option linter.unusedSimpArgs false
set_option linter.unusedVariables false
namespace Go.Proofs.YtbgjelhefhcnpaaGreat
open Go Go.RowKit
/-- A word is written for a page (or for its group, if it stands in a middle table). -/
structure PutOk (root : Int) (T T' : Tr) (ns' : List ND) (ds : List DP) (p : Nat) (lv : Int) (w : Int) : Prop where
  ok : PtOk root T' ns' ds
  at_ : ∀ q, q < 512 → pgT T' q = if q / 8 = p / 8 ∧ (lv = 0 → q = p) then (lv, w) else pgT T q
  fr : (frT root T').Perm (frT root T)
theorem pg_leaf {T : Tr} {p : Nat} {w0 : Int} (h : pgT T p = (0, w0)) : ∃ m f e, T (dgF p 2) = some m ∧ m.s (dgF p 1) = .leaf f e ∧ e (dgF p 0) = w0 := by
  unfold pgT lvT at h
  cases hT : T (dgF p 2) with
  | none => rw [hT] at h; simp at h
  | some m =>
    rw [hT] at h
    simp only at h
    cases hs : m.s (dgF p 1) with
    | no => rw [hs] at h; simp [legL] at h
    | huge w f => rw [hs] at h; simp [legL] at h
    | leaf f e =>
      rw [hs] at h
      simp only [legL, Prod.mk.injEq, true_and] at h
      exact ⟨m, f, e, rfl, hs, h⟩
theorem pg_huge {T : Tr} {p : Nat} {w0 : Int} (h : pgT T p = (1, w0)) (h0 : w0 ≠ 0) : ∃ m f, T (dgF p 2) = some m ∧ m.s (dgF p 1) = .huge w0 f := by
  unfold pgT lvT at h
  cases hT : T (dgF p 2) with
  | none => rw [hT] at h; simp at h
  | some m =>
    rw [hT] at h
    simp only at h
    cases hs : m.s (dgF p 1) with
    | no => rw [hs] at h; simp only [legL, Prod.mk.injEq, true_and] at h; exact absurd h.symm h0
    | huge w f =>
      rw [hs] at h
      simp only [legL, Prod.mk.injEq, true_and] at h
      exact ⟨m, f, rfl, by rw [hs, h]⟩
    | leaf f e => rw [hs] at h; simp [legL] at h
theorem putL_nodes {ns : List ND} {X : ND} {f : Int} {k : Nat} (h1 : plI ns f = (k : Int)) (h3 : ns.getD k default = X) (d : Fin 8) (w : Int) : putL ns f d w = ns.set k ⟨X.f, updA X.e d w⟩ := by
  rw [put_eq h1, h3]; rfl
theorem put_leaf {root : Int} {T : Tr} {ns : List ND} {ds : List DP} (h : PtOk root T ns ds) {p : Nat} (hp : p < 512) {w0 w : Int} (hlv : pgT T p = (0, w0)) (hw : pgW w) : ∃ T', PutOk root T T' (putL ns (endP root T p).1 (dgF p 0) w) ds p 0 w := by
  obtain ⟨m, f, e, hT, hs, he⟩ := pg_leaf hlv
  have hend : (endP root T p).1 = f := by unfold endP endT; rw [hT]; dsimp only; rw [hs]
  obtain ⟨k, h1, h2, h3, _⟩ := h.pl (leaf_mem (root := root) hT hs)
  have h1 : plI ns f = (k : Int) := h1
  rw [hend, putL_nodes h1 h3]
  have n1 := nodes_T (root := root) hT (dgF p 1)
  have n2 := nodes_legT root T (dgF p 2) (dgF p 1) m (.leaf f (updA e (dgF p 0) w))
  have f1 := fr_T (root := root) hT (dgF p 1)
  have f2 := fr_legT root T (dgF p 2) (dgF p 1) m (.leaf f (updA e (dgF p 0) w))
  have d1 := deps_T hT (dgF p 1)
  have d2 := deps_legT T (dgF p 2) (dgF p 1) m (.leaf f (updA e (dgF p 0) w))
  have hse : subE (.leaf f (updA e (dgF p 0) w)) = midE m (dgF p 1) := by unfold midE; rw [hs]; rfl
  rw [hs] at n1 f1 d1
  rw [rootE_some hT, hse, updA_id] at n2
  simp only [subN, legF, subD, List.nil_append, List.cons_append] at n1 n2 f1 f2 d1 d2
  have hfr : (frT root (legT T (dgF p 2) (dgF p 1) m (.leaf f (updA e (dgF p 0) w)))).Perm (frT root T) := f2.trans f1.symm
  have hok := h.t.s _ m hT
  have hlf := (hok (dgF p 1)).l f e hs
  have hlg := legs_legT h.t.s (a := dgF p 2) (b := dgF p 1) hok (s := Leg.leaf f (updA e (dgF p 0) w)) (legok_leaf fun k => by unfold updA; split; exact hw; exact hlf k)
  have htr : TrOk root (legT T (dgF p 2) (dgF p 1) m (.leaf f (updA e (dgF p 0) w))) := h.t.same (L := []) hlg hfr.symm
  have hrot : ∀ A B C : ND, ∀ R : List ND, (A :: B :: C :: R).Perm (C :: A :: B :: R) := fun A B C R => (List.Perm.cons A (List.Perm.swap _ _ _)).trans (List.Perm.swap _ _ _)
  refine ⟨_, ⟨htr, ?_, asc_set h2 (by rw [h3]) h.o, ?_⟩, fun q hq => ?_, hfr⟩
  · refine (perm_set h2 h3 (h.n.trans (n1.trans (hrot _ _ _ _))) _).trans (List.Perm.trans ?_ n2.symm)
    exact (hrot _ _ _ _).symm
  · rw [h.d]
    exact dps_eq (deps_asc _) (deps_asc _) (d1.trans d2.symm)
  · have hde := dg_eq hq hp
    unfold pgT
    rw [lv_legT hT]
    by_cases c1 : q / 8 = p / 8
    · rw [if_pos (hde.2 c1)]
      have hd0 := dg0_eq c1
      by_cases c2 : q = p
      · subst c2; rw [if_pos ⟨rfl, fun _ => rfl⟩]; simp only [legL, updA_at]
      · rw [if_neg (fun x => c2 (x.2 rfl))]
        obtain ⟨g1, g2⟩ := hde.2 c1
        unfold lvT
        rw [g1, hT, g2]
        dsimp only
        rw [hs]
        simp only [legL]
        rw [updA_ne _ _ _ (fun x => c2 (hd0.1 x))]
    · rw [if_neg (fun x => c1 (hde.1 x)), if_neg (fun x => c1 x.1)]
theorem put_huge {root : Int} {T : Tr} {ns : List ND} {ds : List DP} (h : PtOk root T ns ds) {p : Nat} (hp : p < 512) {w0 w : Int} (hlv : pgT T p = (1, w0)) (h0 : w0 ≠ 0) (hw : huW w) : ∃ T', PutOk root T T' (putL ns (endP root T p).1 (dgF p 1) w) ds p 1 w := by
  obtain ⟨m, f, hT, hs⟩ := pg_huge hlv h0
  have hend : (endP root T p).1 = m.f := by unfold endP endT; rw [hT]; dsimp only; rw [hs]
  obtain ⟨k, h1, h2, h3, _⟩ := h.pl (mid_mem (root := root) hT)
  have h1 : plI ns m.f = (k : Int) := h1
  rw [hend, putL_nodes h1 h3]
  have n1 := nodes_T (root := root) hT (dgF p 1)
  have n2 := nodes_legT root T (dgF p 2) (dgF p 1) m (.huge w f)
  have f1 := fr_T (root := root) hT (dgF p 1)
  have f2 := fr_legT root T (dgF p 2) (dgF p 1) m (.huge w f)
  have d1 := deps_T hT (dgF p 1)
  have d2 := deps_legT T (dgF p 2) (dgF p 1) m (.huge w f)
  rw [hs] at n1 f1 d1
  rw [rootE_some hT] at n2
  simp only [subN, subE, legF, subD, List.nil_append, List.cons_append] at n1 n2 f1 f2 d1 d2
  have hfr : (frT root (legT T (dgF p 2) (dgF p 1) m (.huge w f))).Perm (frT root T) := f2.trans f1.symm
  have hok := h.t.s _ m hT
  have hlg := legs_legT h.t.s (a := dgF p 2) (b := dgF p 1) hok (s := Leg.huge w f) (legok_huge hw)
  have htr : TrOk root (legT T (dgF p 2) (dgF p 1) m (.huge w f)) := h.t.same (L := []) hlg hfr.symm
  refine ⟨_, ⟨htr, ?_, asc_set h2 (by rw [h3]) h.o, ?_⟩, fun q hq => ?_, hfr⟩
  · refine (perm_set h2 h3 (h.n.trans (n1.trans (List.Perm.swap _ _ _))) _).trans (List.Perm.trans ?_ n2.symm)
    exact List.Perm.swap _ _ _
  · rw [h.d]
    exact dps_eq (deps_asc _) (deps_asc _) (d1.trans d2.symm)
  · have hde := dg_eq hq hp
    unfold pgT
    rw [lv_legT hT]
    by_cases c1 : q / 8 = p / 8
    · rw [if_pos (hde.2 c1), if_pos ⟨c1, fun x => absurd x (by decide)⟩]; rfl
    · rw [if_neg (fun x => c1 (hde.1 x)), if_neg (fun x => c1 x.1)]
end Go.Proofs.YtbgjelhefhcnpaaGreat
