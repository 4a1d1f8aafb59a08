/- Texts joined: SpNew2, RfNum, RfWalk. Each part's own remark says what it proves. -/
import Derived.Test.YtbgjelhefhcnpaaGreatM29
import Derived.Test.YtbgjelhefhcnpaaGreatM16
/- The walk of the law's aNew. No conditions. -/
set_option linter.unusedSimpArgs false
set_option linter.unusedVariables false
namespace Go.Proofs.YtbgjelhefhcnpaaGreat
open Go Go.RowKit
/-- A new space. -/
structure NewOk (w0 : World) (cs : List Chunk) (y : SpSt) (z : Int) : Prop where
  m : StM w0 y
  a : StA y
  r : cs.Sublist y.R
  z : y.S.z = z
  nx : y.S.nx = 1
  w : ∀ q, (pgT y.T q).2 = 0
theorem fr_len1 : (([⟨0, fun _ => 0⟩] : List ND).length : Nat) = 1 := rfl
attribute [local irreducible] spL
attribute [local irreducible] Code.wp wpList bodyPost Exit.then Exit.inBlock Calls wpQuiet Tri TriQ
section
variable (w0 : World) (cs : List Chunk)
theorem ptNew_c : Cal Tryz.prog 11 [.int .i64 0] (Hp w0 cs) (fun r : Row => .tuple #[ptV 0 r.v (.slice none 0 0), .int .i64 0]) (fun r => Hp w0 (ndS r [⟨0, fun _ => 0⟩] :: cs)) := by
  rw [← newN_eq]
  refine cal_of_tri Tryz.func11 rfl Tryz.ntmps11 rfl ?_
  (repeat (first | refine zz ?_ | refine zv fun _ => ?_))
  refine au_callC rfl rfl rfl rfl rfl (isFrame_c w0 _ 0 (by decide)) (fun _ => ?_)
  (repeat (first | refine zz ?_ | refine zv fun _ => ?_))
  refine au_lit (l := [newN 0]) rfl rfl rfl (fun r1 => ?_)
  (repeat (first | refine zz ?_ | refine zv fun _ => ?_))
  refine au_done2 rfl ?_
  exact fun w hw => ⟨r1, rfl, hw.sub (List.Sublist.cons_cons _ (List.Sublist.cons _ (List.Sublist.refl _)))⟩
theorem tnew_at {z : Int} (hz : 1 ≤ z ∧ z ≤ 16) (w : World) : Calls Tryz.prog 7 [.int .i64 z].toArray w (Ret (.tuple #[tlbV z (.slice none 0 0), .int .i64 0]) w) := by
  have := new_any z w
  have h1 : newZ z = z := by unfold newZ; rw [if_neg (by omega)]
  have h2 : newE z = 0 := by unfold newE; rw [if_neg (by omega)]
  rwa [h1, h2] at this
set_option maxRecDepth 20000 in
set_option maxHeartbeats 4000000 in
theorem aNew_c {z : Int} (hz : 1 ≤ z ∧ z ≤ 16) : Cal Tryz.prog 5 [.int .i64 z] (Hp w0 cs) (fun x : {x : Nat × SpSt // NewOk w0 cs x.2 z} => .tuple #[pR x.1.1, .bool true]) (fun x => stH w0 x.1.1 x.1.2) := by
  refine cal_of_tri Tryz.func5 rfl Tryz.ntmps5 rfl ?_
  (repeat (first | refine zz ?_ | refine zv fun _ => ?_))
  refine au_callC rfl rfl rfl rfl rfl (ptNew_c w0 _) ?_
  intro r1
  (repeat (first | refine zz ?_ | refine zv fun _ => ?_))
  refine au_call rfl rfl (cl_of rfl rfl rfl (fun _ h => Ret.hp (tnew_at hz _) h)) ?_
  (repeat (first | refine zz ?_ | refine zv fun _ => ?_))
  refine au_call rfl rfl (cl_of rfl rfl rfl (fun _ h => Ret.hp (tnew_at hz _) h)) ?_
  (repeat (first | refine zz ?_ | refine zv fun _ => ?_))
  rename_i g4 g6 g8
  obtain ⟨S1, hS1⟩ : ∃ S1 : SpS, S1 = { S00 with vn := r1.v, vd := .slice none 0 0, z := z, v0 := .slice none 0 0, v1 := .slice none 0 0, nx := 1 } := ⟨_, rfl⟩
  have hfill := sp_fill r1.v z
  rw [← hS1] at hfill
  haveI := spBld
  refine au_pure ?_ (hy := yl_build (hB := spBld) rfl rfl hfill rfl)
  refine au_box (v := .agg (spL S1).toArray) (cells := spL S1) (fun g => ?_) (hc := rfl)
  refine tri_weak (H' := Hp w0 (spB g S1 :: ndS r1 [⟨0, fun _ => 0⟩] :: cs)) (fun w h => h.sub (List.Sublist.cons_cons _ (List.Sublist.cons _ (List.Sublist.cons _ (List.Sublist.cons _ (List.Sublist.refl _)))))) ?_
  (repeat (first | refine zz ?_ | refine zv fun _ => ?_))
  refine tri_block ?_
  refine tri_loop2 (fun (i : Nat) (f : Nat → Int) => i ≤ 512 ∧ ∀ q, q < i → f q = -1) (fun i _ => [(10, pR g), (5, .int .i64 0), (7, .int .i64 0), (9, .int .i64 0), (32, .int .i64 (i : Int))]) (fun _ f => Hp w0 (spB g { S1 with fr := f } :: ndS r1 [⟨0, fun _ => 0⟩] :: cs)) (fun i _ => 512 - i) 0 S1.fr ⟨by omega, fun q hq => by omega⟩ (by repeat (first | exact trivial | refine ⟨rfl, ?_⟩)) (fun w h => h) ?_
  rintro i f ⟨hi, hf⟩
  (repeat (first | refine zz ?_ | refine zv fun _ => ?_))
  ((first | refine tri_cond (by rfl) (fun hc => ?_) (fun hc => ?_) | refine tri_gsplit (by rfl) (by rfl) (by (fail_if_success exact (rfl : _ = some (Value.bool true))); (fail_if_success exact (rfl : _ = some (Value.bool false))); rfl) (fun hc => ?_) (fun hc => ?_)) <;> (try simp only [decide_eq_true_eq, decide_eq_false_iff_not, beq_iff_eq, bne_iff_ne, ne_eq, Bool.not_eq_true', Bool.not_eq_false', beq_eq_false_iff_ne, bne_eq_false_iff_eq, Int.not_lt, Int.not_le, gt_iff_lt, ge_iff_le, Bool.and_eq_true, Bool.or_eq_true, Bool.and_eq_false_iff, Bool.or_eq_false_iff, Decidable.not_not, not_true_eq_false, not_false_eq_true, and_true, true_and, or_false, false_or, or_true, true_or, and_false, false_and, eq_self, Bool.true_eq_false, Bool.false_eq_true] at hc) <;> (try (exfalso; omega)))
  case refine_1 =>
    have hi5 : i < 512 := by omega
    (repeat (first | refine zz ?_ | refine zv fun _ => ?_))
    refine tri_block ?_
    (repeat (first | refine zz ?_ | refine zv fun _ => ?_))
    refine au_pure ?_ (hy := yl_idxA rfl rfl (ix_nat rfl) hi5)
    refine tri_spFr (i := 0) (g := g) (S := { S1 with fr := f }) (p := i) (k := -1) rfl rfl rfl hi5 rfl (by repeat (first | exact nf0 rfl | apply nfS rfl | exact nfR)) ?_
    (repeat (first | refine zz ?_ | refine zv fun _ => ?_))
    refine tri_nx2 (i + 1) (updI f i (-1)) (by omega) ⟨by omega, fun q hq => ?_⟩ (by repeat (first | exact trivial | refine ⟨rfl, ?_⟩)) (fun w h => h)
    unfold updI
    by_cases e : q = i
    · rw [if_pos e]
    · rw [if_neg e]; exact hf q (by omega)
  have hie : i = 512 := by omega
  subst hie
  obtain ⟨y, hy⟩ : ∃ y : SpSt, y = ⟨{ S1 with fr := f }, ndS r1 [⟨0, fun _ => 0⟩] :: cs, T0, [⟨0, fun _ => 0⟩], [], [], []⟩ := ⟨_, rfl⟩
  have hN : NewOk w0 cs y z := by
    rw [hy, hS1]
    refine ⟨⟨rd_chunk ⟨0, rfl⟩, rd_nil, rd_nil, rd_nil, pt_T0, iv_nil hz, iv_nil hz⟩, ⟨⟨fun q hq => .inl ⟨hf q hq, by rw [pg_T0]⟩⟩, (fun x hx => by cases hx), (fun x hx => by cases hx), Int.le_refl _, fun x hx => by rw [fr_T0 hx]; show (0 : Int) < 1; decide⟩, List.Sublist.cons _ (List.Sublist.refl _), rfl, rfl, fun q => by show (pgT T0 q).2 = 0; rw [pg_T0]⟩
  refine tri_weak (H' := stH w0 g y) (fun w h => by rw [hy]; exact h) ?_
  (repeat (first | refine zz ?_ | refine zv fun _ => ?_))
  refine au_done2 rfl ?_
  exact fun w hw => ⟨⟨⟨g, y⟩, hN⟩, rfl, hw⟩
end
end Go.Proofs.YtbgjelhefhcnpaaGreat

/- The walks of the reference's small functions on page tables. No conditions. -/
set_option linter.unusedSimpArgs false
set_option linter.unusedVariables false
namespace Go.Proofs.YtbgjelhefhcnpaaGreat
open Go Go.RowKit
theorem rsuit_eq (k : Int) (d : Bool) (l : Int) : suitM k d l = if k = 0 then true else if k = 4 then decide (l > 0) else if k = 1 then (l == 1 && d) || (l == 0 && !d) else l == 0 := rfl
attribute [local irreducible] decR ixL suitM
attribute [local irreducible] Code.wp wpList bodyPost Exit.then Exit.inBlock Calls wpQuiet Tri TriQ
section
variable (w0 : World) (cs : List Chunk)
theorem rfind_c {root : Int} {vn vd : Value} {ns : List ND} (hN : RdH (Hp w0 cs) vn ns) (hl : ns.length ≤ 1000000) (f : Int) : Cal Tryz.prog 36 [ptV root vn vd, .int .i64 f] (Hp w0 cs) (fun _ : Unit => .int .i64 (idxM (fun y : ND => y.f == f) ns)) (fun _ => Hp w0 cs) := by
  refine cal_of_tri Tryz.func36 rfl Tryz.ntmps36 rfl ?_
  (repeat (first | refine tri_seq ?_ | refine tri_then ?_)); refine tri_region ?_; (repeat (first | refine au_pure ?_ | refine au_pass ?_ | refine au_box (fun _ => ?_) | refine au_alloc (fun _ => ?_) | refine au_store ?_ | refine au_make rfl rfl (fun _ => ?_) | refine au_lit rfl rfl rfl (fun _ => ?_) | refine au_append rfl rfl rfl rfl (fun _ => au_norm ?_) | refine au_storeE rfl rfl rfl rfl ?_)); refine tri_nil ?_; (repeat refine tri_then ?_)
  rename_i g1
  refine tri_weak (H' := Hp w0 (ptC g1 root vn vd :: cs)) (fun w h => h) ?_
  have hN1 := hN.cons (c := ptC g1 root vn vd)
  (repeat (first | refine zz ?_ | refine zv fun _ => ?_))
  refine au_pure ?_ (hy := yl_len rfl rfl hN1)
  (repeat (first | refine zz ?_ | refine zv fun _ => ?_))
  refine tri_block ?_
  refine tri_loop1 (fun (i : Nat) => i ≤ ns.length ∧ ∀ j, j < i → (fun y : ND => y.f == f) (ns.getD j default) = false) (fun i => [(1, .int .i64 f), (2, .pointer (some ⟨g1, 0, none⟩)), (8, .int .i64 (ns.length : Int)), (9, .int .i64 (i : Int))]) (fun _ => Hp w0 (ptC g1 root vn vd :: cs)) (fun i => ns.length - i) 0 ⟨by omega, fun j hj => by omega⟩ (by repeat (first | exact trivial | refine ⟨rfl, ?_⟩)) (fun w h => h) ?_
  rintro i ⟨hi, hp⟩
  (repeat (first | refine zz ?_ | refine zv fun _ => ?_))
  ((first | refine tri_cond (by rfl) (fun hc => ?_) (fun hc => ?_) | refine tri_gsplit (by rfl) (by rfl) (by (fail_if_success exact (rfl : _ = some (Value.bool true))); (fail_if_success exact (rfl : _ = some (Value.bool false))); rfl) (fun hc => ?_) (fun hc => ?_)) <;> (try simp only [decide_eq_true_eq, decide_eq_false_iff_not, beq_iff_eq, bne_iff_ne, ne_eq, Bool.not_eq_true', Bool.not_eq_false', beq_eq_false_iff_ne, bne_eq_false_iff_eq, Int.not_lt, Int.not_le, gt_iff_lt, ge_iff_le, Bool.and_eq_true, Bool.or_eq_true, Bool.and_eq_false_iff, Bool.or_eq_false_iff, Decidable.not_not, not_true_eq_false, not_false_eq_true, and_true, true_and, or_false, false_or, or_true, true_or, and_false, false_and, eq_self, Bool.true_eq_false, Bool.false_eq_true] at hc) <;> (try (exfalso; omega)))
  case refine_1 =>
    (repeat (first | refine zz ?_ | refine zv fun _ => ?_))
    refine tri_block ?_
    (repeat (first | refine zz ?_ | refine zv fun _ => ?_))
    refine au_pure ?_ (hy := yl_idx (k := i) rfl rfl hN1 (ix_nat rfl) (by rfl) (by omega))
    refine au_pure ?_ (hy := yl_fieldE rfl rfl)
    refine au_pure ?_ (hy := yl_loadE rfl rfl hN1 (by rfl) (by omega) (by rfl))
    (repeat (first | refine zz ?_ | refine zv fun _ => ?_))
    cases he : ((ns.getD i default).f == f) with
    | true =>
      (repeat (first | refine zz ?_ | refine zv fun _ => ?_))
      refine au_done1 rfl ?_
      exact fun w hw => ⟨(), by rw [idxM_some (p := fun y : ND => y.f == f) (k := i) (by omega) he hp], hw.tail⟩
    | false =>
      (repeat (first | refine zz ?_ | refine zv fun _ => ?_))
      refine tri_nx1 (i + 1) (by omega) ⟨by omega, fun j hj => ?_⟩ (by repeat (first | exact trivial | refine ⟨rfl, ?_⟩)) (fun w h => h)
      by_cases e : j = i
      · subst e; exact he
      · exact hp j (by omega)
  (repeat (first | refine zz ?_ | refine zv fun _ => ?_))
  refine au_done1 rfl ?_
  exact fun w hw => ⟨(), by rw [idxM_none fun j hj => hp j (by omega)], hw.tail⟩
theorem rdep_c {root : Int} {vn vd : Value} {ds : List DP} (hD : RdH (Hp w0 cs) vd ds) (hl : ds.length ≤ 1000000) (f : Int) : Cal Tryz.prog 72 [ptV root vn vd, .int .i64 f] (Hp w0 cs) (fun _ : Unit => .int .i64 (idxM (fun y : DP => y.g == f) ds)) (fun _ => Hp w0 cs) := by
  refine cal_of_tri Tryz.func72 rfl Tryz.ntmps72 rfl ?_
  (repeat (first | refine tri_seq ?_ | refine tri_then ?_)); refine tri_region ?_; (repeat (first | refine au_pure ?_ | refine au_pass ?_ | refine au_box (fun _ => ?_) | refine au_alloc (fun _ => ?_) | refine au_store ?_ | refine au_make rfl rfl (fun _ => ?_) | refine au_lit rfl rfl rfl (fun _ => ?_) | refine au_append rfl rfl rfl rfl (fun _ => au_norm ?_) | refine au_storeE rfl rfl rfl rfl ?_)); refine tri_nil ?_; (repeat refine tri_then ?_)
  rename_i g1
  refine tri_weak (H' := Hp w0 (ptC g1 root vn vd :: cs)) (fun w h => h) ?_
  have hN1 := hD.cons (c := ptC g1 root vn vd)
  (repeat (first | refine zz ?_ | refine zv fun _ => ?_))
  refine au_pure ?_ (hy := yl_len rfl rfl hN1)
  (repeat (first | refine zz ?_ | refine zv fun _ => ?_))
  refine tri_block ?_
  refine tri_loop1 (fun (i : Nat) => i ≤ ds.length ∧ ∀ j, j < i → (fun y : DP => y.g == f) (ds.getD j default) = false) (fun i => [(1, .int .i64 f), (2, .pointer (some ⟨g1, 0, none⟩)), (8, .int .i64 (ds.length : Int)), (9, .int .i64 (i : Int))]) (fun _ => Hp w0 (ptC g1 root vn vd :: cs)) (fun i => ds.length - i) 0 ⟨by omega, fun j hj => by omega⟩ (by repeat (first | exact trivial | refine ⟨rfl, ?_⟩)) (fun w h => h) ?_
  rintro i ⟨hi, hp⟩
  (repeat (first | refine zz ?_ | refine zv fun _ => ?_))
  ((first | refine tri_cond (by rfl) (fun hc => ?_) (fun hc => ?_) | refine tri_gsplit (by rfl) (by rfl) (by (fail_if_success exact (rfl : _ = some (Value.bool true))); (fail_if_success exact (rfl : _ = some (Value.bool false))); rfl) (fun hc => ?_) (fun hc => ?_)) <;> (try simp only [decide_eq_true_eq, decide_eq_false_iff_not, beq_iff_eq, bne_iff_ne, ne_eq, Bool.not_eq_true', Bool.not_eq_false', beq_eq_false_iff_ne, bne_eq_false_iff_eq, Int.not_lt, Int.not_le, gt_iff_lt, ge_iff_le, Bool.and_eq_true, Bool.or_eq_true, Bool.and_eq_false_iff, Bool.or_eq_false_iff, Decidable.not_not, not_true_eq_false, not_false_eq_true, and_true, true_and, or_false, false_or, or_true, true_or, and_false, false_and, eq_self, Bool.true_eq_false, Bool.false_eq_true] at hc) <;> (try (exfalso; omega)))
  case refine_1 =>
    (repeat (first | refine zz ?_ | refine zv fun _ => ?_))
    refine tri_block ?_
    (repeat (first | refine zz ?_ | refine zv fun _ => ?_))
    refine au_pure ?_ (hy := yl_idx (k := i) rfl rfl hN1 (ix_nat rfl) (by rfl) (by omega))
    refine au_pure ?_ (hy := yl_fieldE rfl rfl)
    refine au_pure ?_ (hy := yl_loadE rfl rfl hN1 (by rfl) (by omega) (by rfl))
    (repeat (first | refine zz ?_ | refine zv fun _ => ?_))
    cases he : ((ds.getD i default).g == f) with
    | true =>
      (repeat (first | refine zz ?_ | refine zv fun _ => ?_))
      refine au_done1 rfl ?_
      exact fun w hw => ⟨(), by rw [idxM_some (p := fun y : DP => y.g == f) (k := i) (by omega) he hp], hw.tail⟩
    | false =>
      (repeat (first | refine zz ?_ | refine zv fun _ => ?_))
      refine tri_nx1 (i + 1) (by omega) ⟨by omega, fun j hj => ?_⟩ (by repeat (first | exact trivial | refine ⟨rfl, ?_⟩)) (fun w h => h)
      by_cases e : j = i
      · subst e; exact he
      · exact hp j (by omega)
  (repeat (first | refine zz ?_ | refine zv fun _ => ?_))
  refine au_done1 rfl ?_
  exact fun w hw => ⟨(), by rw [idxM_none fun j hj => hp j (by omega)], hw.tail⟩
theorem rsuits_c (e : Ent) (l : Int) (hs : suitM e.k e.d l = true) (hk : e.k = 0 ∨ e.k = 4 ∨ e.k = 1) : Cal Tryz.prog 71 [entE e, .int .i64 l] (Hp w0 cs) (fun _ : Unit => .bool true) (fun _ => Hp w0 cs) := by
  obtain ⟨k, n, a, b, c, d⟩ := e
  have hs : suitM k d l = true := hs
  have hk : k = 0 ∨ k = 4 ∨ k = 1 := hk
  rw [rsuit_eq] at hs
  show Cal _ _ [entV k n a b c d, .int .i64 l] _ _ _
  refine cal_of_tri Tryz.func71 rfl Tryz.ntmps71 rfl ?_
  (repeat (first | refine tri_seq ?_ | refine tri_then ?_)); refine tri_region ?_; (repeat (first | refine au_pure ?_ | refine au_pass ?_ | refine au_box (fun _ => ?_) | refine au_alloc (fun _ => ?_) | refine au_store ?_ | refine au_make rfl rfl (fun _ => ?_) | refine au_lit rfl rfl rfl (fun _ => ?_) | refine au_append rfl rfl rfl rfl (fun _ => au_norm ?_) | refine au_storeE rfl rfl rfl rfl ?_)); refine tri_nil ?_; (repeat refine tri_then ?_)
  (repeat (first | refine zz ?_ | refine zv fun _ => ?_))
  refine tri_block ?_
  rcases hk with rfl | rfl | rfl
  · (repeat (first | refine zz ?_ | refine zv fun _ => ?_))
    refine au_done1 rfl ?_
    exact fun w hw => ⟨(), rfl, hw.tail⟩
  · rw [if_neg (by decide), if_pos rfl] at hs
    (repeat (first | refine zz ?_ | refine zv fun _ => ?_))
    rw [hs]
    (repeat (first | refine zz ?_ | refine zv fun _ => ?_))
    refine au_done1 rfl ?_
    exact fun w hw => ⟨(), rfl, hw.tail⟩
  · rw [if_neg (by decide), if_neg (by decide), if_pos rfl] at hs
    cases d with
    | true =>
      have h1 : (l == 1) = true := by simpa using hs
      (repeat (first | refine zz ?_ | refine zv fun _ => ?_))
      rw [h1]
      (repeat (first | refine zz ?_ | refine zv fun _ => ?_))
      refine au_done1 rfl ?_
      exact fun w hw => ⟨(), rfl, hw.tail⟩
    | false =>
      have h1 : (l == 0) = true := by simpa using hs
      (repeat (first | refine zz ?_ | refine zv fun _ => ?_))
      rw [h1]
      (repeat (first | refine zz ?_ | refine zv fun _ => ?_))
      refine au_done1 rfl ?_
      exact fun w hw => ⟨(), rfl, hw.tail⟩
section
variable {root : Int} {T : Tr} {vn vd : Value} {ns : List ND} {ds : List DP} (h : PtOk root T ns ds) (hN : RdH (Hp w0 cs) vn ns) (hD : RdH (Hp w0 cs) vd ds)
include h hN hD
set_option maxHeartbeats 2000000 in
theorem ranges_c : Cal Tryz.prog 33 [ptV root vn vd] (Hp w0 cs) (fun _ : Unit => .bool true) (fun _ => Hp w0 cs) := by
  have hnl := h.nlen
  have hdl := h.dlen
  refine cal_of_tri Tryz.func33 rfl Tryz.ntmps33 rfl ?_
  (repeat (first | refine tri_seq ?_ | refine tri_then ?_)); refine tri_region ?_; (repeat (first | refine au_pure ?_ | refine au_pass ?_ | refine au_box (fun _ => ?_) | refine au_alloc (fun _ => ?_) | refine au_store ?_ | refine au_make rfl rfl (fun _ => ?_) | refine au_lit rfl rfl rfl (fun _ => ?_) | refine au_append rfl rfl rfl rfl (fun _ => au_norm ?_) | refine au_storeE rfl rfl rfl rfl ?_)); refine tri_nil ?_; (repeat refine tri_then ?_)
  rename_i g1
  refine tri_weak (H' := Hp w0 (ptC g1 root vn vd :: cs)) (fun w h => h) ?_
  have hN1 := hN.cons (c := ptC g1 root vn vd)
  have hD1 := hD.cons (c := ptC g1 root vn vd)
  (repeat (first | refine zz ?_ | refine zv fun _ => ?_))
  refine au_pure ?_ (hy := yl_len rfl rfl hN1)
  (repeat (first | refine zz ?_ | refine zv fun _ => ?_))
  refine tri_block ?_
  refine tri_loop1 (fun (i : Nat) => i ≤ ns.length) (fun i => [(1, .pointer (some ⟨g1, 0, none⟩)), (8, vn), (9, .int .i64 (ns.length : Int)), (10, .int .i64 (i : Int))]) (fun _ => Hp w0 (ptC g1 root vn vd :: cs)) (fun i => ns.length - i) 0 (by omega) (by repeat (first | exact trivial | refine ⟨rfl, ?_⟩)) (fun w h => h) ?_
  intro i hi
  (repeat (first | refine zz ?_ | refine zv fun _ => ?_))
  ((first | refine tri_cond (by rfl) (fun hc => ?_) (fun hc => ?_) | refine tri_gsplit (by rfl) (by rfl) (by (fail_if_success exact (rfl : _ = some (Value.bool true))); (fail_if_success exact (rfl : _ = some (Value.bool false))); rfl) (fun hc => ?_) (fun hc => ?_)) <;> (try simp only [decide_eq_true_eq, decide_eq_false_iff_not, beq_iff_eq, bne_iff_ne, ne_eq, Bool.not_eq_true', Bool.not_eq_false', beq_eq_false_iff_ne, bne_eq_false_iff_eq, Int.not_lt, Int.not_le, gt_iff_lt, ge_iff_le, Bool.and_eq_true, Bool.or_eq_true, Bool.and_eq_false_iff, Bool.or_eq_false_iff, Decidable.not_not, not_true_eq_false, not_false_eq_true, and_true, true_and, or_false, false_or, or_true, true_or, and_false, false_and, eq_self, Bool.true_eq_false, Bool.false_eq_true] at hc) <;> (try (exfalso; omega)))
  case refine_1 =>
    have hf := h.nf (i := i) (by omega)
    (repeat (first | refine zz ?_ | refine zv fun _ => ?_))
    refine tri_block ?_
    (repeat (first | refine zz ?_ | refine zv fun _ => ?_))
    refine au_pure ?_ (hy := yl_idx (k := i) rfl rfl hN1 (ix_nat rfl) (by rfl) (by omega))
    refine au_pure ?_ (hy := yl_loadEN rfl rfl hN1 (by rfl) (by omega) (by repeat (first | exact nf0 rfl | apply nfS rfl | exact nfR)) (by rfl))
    (repeat (first | refine zz ?_ | refine zv fun _ => ?_))
    rw [show decide ((ns.getD i default).f < 0) = false from decide_eq_false (by omega)]
    (repeat (first | refine zz ?_ | refine zv fun _ => ?_))
    rw [show decide ((ns.getD i default).f > 4294967295) = false from decide_eq_false (by omega)]
    (repeat (first | refine zz ?_ | refine zv fun _ => ?_))
    exact tri_nx1 (i + 1) (by omega) (by omega) (by repeat (first | exact trivial | refine ⟨rfl, ?_⟩)) (fun w h => h.sub (List.Sublist.cons _ (List.Sublist.refl _)))
  (repeat (first | refine zz ?_ | refine zv fun _ => ?_))
  refine au_pure ?_ (hy := yl_len rfl rfl hD1)
  (repeat (first | refine zz ?_ | refine zv fun _ => ?_))
  refine tri_block ?_
  refine tri_loop1 (fun (i : Nat) => i ≤ ds.length) (fun i => [(1, .pointer (some ⟨g1, 0, none⟩)), (24, vd), (25, .int .i64 (ds.length : Int)), (26, .int .i64 (i : Int))]) (fun _ => Hp w0 (ptC g1 root vn vd :: cs)) (fun i => ds.length - i) 0 (by omega) (by repeat (first | exact trivial | refine ⟨rfl, ?_⟩)) (fun w h => h) ?_
  clear hi
  intro i hi
  (repeat (first | refine zz ?_ | refine zv fun _ => ?_))
  ((first | refine tri_cond (by rfl) (fun hc => ?_) (fun hc => ?_) | refine tri_gsplit (by rfl) (by rfl) (by (fail_if_success exact (rfl : _ = some (Value.bool true))); (fail_if_success exact (rfl : _ = some (Value.bool false))); rfl) (fun hc => ?_) (fun hc => ?_)) <;> (try simp only [decide_eq_true_eq, decide_eq_false_iff_not, beq_iff_eq, bne_iff_ne, ne_eq, Bool.not_eq_true', Bool.not_eq_false', beq_eq_false_iff_ne, bne_eq_false_iff_eq, Int.not_lt, Int.not_le, gt_iff_lt, ge_iff_le, Bool.and_eq_true, Bool.or_eq_true, Bool.and_eq_false_iff, Bool.or_eq_false_iff, Decidable.not_not, not_true_eq_false, not_false_eq_true, and_true, true_and, or_false, false_or, or_true, true_or, and_false, false_and, eq_self, Bool.true_eq_false, Bool.false_eq_true] at hc) <;> (try (exfalso; omega)))
  case refine_1 =>
    obtain ⟨f1, f2, f3⟩ := h.df (i := i) (by omega)
    (repeat (first | refine zz ?_ | refine zv fun _ => ?_))
    refine tri_block ?_
    (repeat (first | refine zz ?_ | refine zv fun _ => ?_))
    refine au_pure ?_ (hy := yl_idx (k := i) rfl rfl hD1 (ix_nat rfl) (by rfl) (by omega))
    refine au_pure ?_ (hy := yl_loadEN rfl rfl hD1 (by rfl) (by omega) (by repeat (first | exact nf0 rfl | apply nfS rfl | exact nfR)) (by rfl))
    (repeat (first | refine zz ?_ | refine zv fun _ => ?_))
    rw [show decide ((ds.getD i default).f < 0) = false from decide_eq_false (by omega)]
    (repeat (first | refine zz ?_ | refine zv fun _ => ?_))
    rw [show decide ((ds.getD i default).f > 4294967295) = false from decide_eq_false (by omega)]
    (repeat (first | refine zz ?_ | refine zv fun _ => ?_))
    rw [show decide ((ds.getD i default).g < 0) = false from decide_eq_false (by omega)]
    (repeat (first | refine zz ?_ | refine zv fun _ => ?_))
    rw [show decide ((ds.getD i default).g ≥ 64) = false from decide_eq_false (by omega)]
    (repeat (first | refine zz ?_ | refine zv fun _ => ?_))
    exact tri_nx1 (i + 1) (by omega) (by omega) (by repeat (first | exact trivial | refine ⟨rfl, ?_⟩)) (fun w h => h.sub (List.Sublist.cons _ (List.Sublist.refl _)))
  (repeat (first | refine zz ?_ | refine zv fun _ => ?_))
  refine au_done1 rfl ?_
  exact fun w hw => ⟨(), rfl, hw.tail⟩
set_option maxHeartbeats 2000000 in
theorem ordered_c : Cal Tryz.prog 34 [ptV root vn vd] (Hp w0 cs) (fun _ : Unit => .bool true) (fun _ => Hp w0 cs) := by
  have hnl := h.nlen
  have hdl := h.dlen
  refine cal_of_tri Tryz.func34 rfl Tryz.ntmps34 rfl ?_
  (repeat (first | refine tri_seq ?_ | refine tri_then ?_)); refine tri_region ?_; (repeat (first | refine au_pure ?_ | refine au_pass ?_ | refine au_box (fun _ => ?_) | refine au_alloc (fun _ => ?_) | refine au_store ?_ | refine au_make rfl rfl (fun _ => ?_) | refine au_lit rfl rfl rfl (fun _ => ?_) | refine au_append rfl rfl rfl rfl (fun _ => au_norm ?_) | refine au_storeE rfl rfl rfl rfl ?_)); refine tri_nil ?_; (repeat refine tri_then ?_)
  rename_i g1
  refine tri_weak (H' := Hp w0 (ptC g1 root vn vd :: cs)) (fun w h => h) ?_
  have hN1 := hN.cons (c := ptC g1 root vn vd)
  have hD1 := hD.cons (c := ptC g1 root vn vd)
  (repeat (first | refine zz ?_ | refine zv fun _ => ?_))
  refine tri_block ?_
  refine tri_loop1 (fun (i : Nat) => True) (fun i => [(1, .pointer (some ⟨g1, 0, none⟩)), (3, .int .i64 ((i : Int) + 1))]) (fun _ => Hp w0 (ptC g1 root vn vd :: cs)) (fun i => ns.length - i) 0 trivial (by repeat (first | exact trivial | refine ⟨rfl, ?_⟩)) (fun w h => h) ?_
  intro i _
  (repeat (first | refine zz ?_ | refine zv fun _ => ?_))
  refine au_pure ?_ (hy := yl_len rfl rfl hN1)
  (repeat (first | refine zz ?_ | refine zv fun _ => ?_))
  ((first | refine tri_cond (by rfl) (fun hc => ?_) (fun hc => ?_) | refine tri_gsplit (by rfl) (by rfl) (by (fail_if_success exact (rfl : _ = some (Value.bool true))); (fail_if_success exact (rfl : _ = some (Value.bool false))); rfl) (fun hc => ?_) (fun hc => ?_)) <;> (try simp only [decide_eq_true_eq, decide_eq_false_iff_not, beq_iff_eq, bne_iff_ne, ne_eq, Bool.not_eq_true', Bool.not_eq_false', beq_eq_false_iff_ne, bne_eq_false_iff_eq, Int.not_lt, Int.not_le, gt_iff_lt, ge_iff_le, Bool.and_eq_true, Bool.or_eq_true, Bool.and_eq_false_iff, Bool.or_eq_false_iff, Decidable.not_not, not_true_eq_false, not_false_eq_true, and_true, true_and, or_false, false_or, or_true, true_or, and_false, false_and, eq_self, Bool.true_eq_false, Bool.false_eq_true] at hc) <;> (try (exfalso; omega)))
  case refine_1 =>
    have hna := h.na (i := i + 1) (by omega) (by omega)
    rw [Nat.add_sub_cancel] at hna
    (repeat (first | refine zz ?_ | refine zv fun _ => ?_))
    refine tri_block ?_
    (repeat (first | refine zz ?_ | refine zv fun _ => ?_))
    (repeat (first | refine tri_seq ?_ | refine tri_then ?_))
    refine au_draw rfl ?_
    (repeat (first | refine z1 ?_ | refine au_qpass rfl rfl ?_ | refine triq_nil ?_))
    refine au_qpure rfl rfl ?_ (hy := yl_idx (k := i) rfl rfl hN1 ⟨.i64, _, rfl, by omega⟩ (by rfl) (by omega))
    refine au_qpure rfl rfl ?_ (hy := yl_fieldE rfl rfl)
    refine au_qpure rfl rfl ?_ (hy := yl_loadE rfl rfl hN1 (by rfl) (by omega) (by rfl))
    (repeat (first | refine z1 ?_ | refine au_qpass rfl rfl ?_ | refine triq_nil ?_))
    refine au_qpure rfl rfl ?_ (hy := yl_idx (k := i + 1) rfl rfl hN1 (ix_nat rfl) (by rfl) (by omega))
    refine au_qpure rfl rfl ?_ (hy := yl_fieldE rfl rfl)
    refine au_qpure rfl rfl ?_ (hy := yl_loadE rfl rfl hN1 (by rfl) (by omega) (by rfl))
    (repeat (first | refine z1 ?_ | refine au_qpass rfl rfl ?_ | refine triq_nil ?_))
    rw [show decide ((ns.getD i default).f ≥ (ns.getD (i + 1) default).f) = false from decide_eq_false (by omega)]
    (repeat (first | refine zz ?_ | refine zv fun _ => ?_))
    exact tri_nx1 (i + 1) (by omega) trivial (by repeat (first | exact trivial | refine ⟨rfl, ?_⟩)) (fun w h => h)
  (repeat (first | refine zz ?_ | refine zv fun _ => ?_))
  refine tri_block ?_
  refine tri_loop1 (fun (i : Nat) => True) (fun i => [(1, .pointer (some ⟨g1, 0, none⟩)), (4, .int .i64 ((i : Int) + 1))]) (fun _ => Hp w0 (ptC g1 root vn vd :: cs)) (fun i => ds.length - i) 0 trivial (by repeat (first | exact trivial | refine ⟨rfl, ?_⟩)) (fun w h => h) ?_
  intro i _
  (repeat (first | refine zz ?_ | refine zv fun _ => ?_))
  refine au_pure ?_ (hy := yl_len rfl rfl hD1)
  (repeat (first | refine zz ?_ | refine zv fun _ => ?_))
  ((first | refine tri_cond (by rfl) (fun hc => ?_) (fun hc => ?_) | refine tri_gsplit (by rfl) (by rfl) (by (fail_if_success exact (rfl : _ = some (Value.bool true))); (fail_if_success exact (rfl : _ = some (Value.bool false))); rfl) (fun hc => ?_) (fun hc => ?_)) <;> (try simp only [decide_eq_true_eq, decide_eq_false_iff_not, beq_iff_eq, bne_iff_ne, ne_eq, Bool.not_eq_true', Bool.not_eq_false', beq_eq_false_iff_ne, bne_eq_false_iff_eq, Int.not_lt, Int.not_le, gt_iff_lt, ge_iff_le, Bool.and_eq_true, Bool.or_eq_true, Bool.and_eq_false_iff, Bool.or_eq_false_iff, Decidable.not_not, not_true_eq_false, not_false_eq_true, and_true, true_and, or_false, false_or, or_true, true_or, and_false, false_and, eq_self, Bool.true_eq_false, Bool.false_eq_true] at hc) <;> (try (exfalso; omega)))
  case refine_1 =>
    have hda := h.da (i := i + 1) (by omega) (by omega)
    rw [Nat.add_sub_cancel] at hda
    (repeat (first | refine zz ?_ | refine zv fun _ => ?_))
    refine tri_block ?_
    (repeat (first | refine zz ?_ | refine zv fun _ => ?_))
    (repeat (first | refine tri_seq ?_ | refine tri_then ?_))
    refine au_draw rfl ?_
    (repeat (first | refine z1 ?_ | refine au_qpass rfl rfl ?_ | refine triq_nil ?_))
    refine au_qpure rfl rfl ?_ (hy := yl_idx (k := i) rfl rfl hD1 ⟨.i64, _, rfl, by omega⟩ (by rfl) (by omega))
    refine au_qpure rfl rfl ?_ (hy := yl_fieldE rfl rfl)
    refine au_qpure rfl rfl ?_ (hy := yl_loadE rfl rfl hD1 (by rfl) (by omega) (by rfl))
    (repeat (first | refine z1 ?_ | refine au_qpass rfl rfl ?_ | refine triq_nil ?_))
    refine au_qpure rfl rfl ?_ (hy := yl_idx (k := i + 1) rfl rfl hD1 (ix_nat rfl) (by rfl) (by omega))
    refine au_qpure rfl rfl ?_ (hy := yl_fieldE rfl rfl)
    refine au_qpure rfl rfl ?_ (hy := yl_loadE rfl rfl hD1 (by rfl) (by omega) (by rfl))
    (repeat (first | refine z1 ?_ | refine au_qpass rfl rfl ?_ | refine triq_nil ?_))
    rw [show decide ((ds.getD i default).g ≥ (ds.getD (i + 1) default).g) = false from decide_eq_false (by omega)]
    (repeat (first | refine zz ?_ | refine zv fun _ => ?_))
    exact tri_nx1 (i + 1) (by omega) trivial (by repeat (first | exact trivial | refine ⟨rfl, ?_⟩)) (fun w h => h)
  (repeat (first | refine zz ?_ | refine zv fun _ => ?_))
  refine au_done1 rfl ?_
  exact fun w hw => ⟨(), rfl, hw.tail⟩
omit hN hD in
theorem dep_no {i : Nat} (hi : i < ds.length) : idxM (fun y : ND => y.f == (ds.getD i default).f) ns = -1 := by
  have hd := h.t.d
  rw [List.nodup_append] at hd
  have hm : ds.getD i default ∈ depsT T := by rw [← h.d, getD_get hi]; exact List.getElem_mem hi
  refine idxM_none fun j hj => ?_
  have hj2 : ns.getD j default ∈ nodesT root T := h.n.mem_iff.1 (by rw [getD_get hj]; exact List.getElem_mem hj)
  have := hd.2.2 _ (List.mem_map.2 ⟨_, hj2, rfl⟩) _ (List.mem_map.2 ⟨_, hm, rfl⟩)
  simpa using this
omit hN hD in
theorem dep_ne {i j : Nat} (hij : j < i) (hi : i < ds.length) : (ds.getD j default).f ≠ (ds.getD i default).f := by
  have hd := h.t.d
  rw [List.nodup_append] at hd
  have hn := hd.2.1
  rw [← h.d] at hn
  have := List.pairwise_iff_getElem.1 (List.nodup_iff_pairwise_ne.1 hn) j i (by rw [List.length_map]; omega) (by rw [List.length_map]; omega) hij
  rw [List.getElem_map, List.getElem_map] at this
  rw [getD_get (by omega), getD_get hi]
  exact this
set_option maxHeartbeats 2000000 in
theorem twice_c : Cal Tryz.prog 35 [ptV root vn vd] (Hp w0 cs) (fun _ : Unit => .bool false) (fun _ => Hp w0 cs) := by
  have hnl := h.nlen
  have hdl := h.dlen
  have hno := fun i hi => dep_no h (i := i) hi
  have hne := fun i j hij hi => dep_ne h (i := i) (j := j) hij hi
  refine cal_of_tri Tryz.func35 rfl Tryz.ntmps35 rfl ?_
  (repeat (first | refine tri_seq ?_ | refine tri_then ?_)); refine tri_region ?_; (repeat (first | refine au_pure ?_ | refine au_pass ?_ | refine au_box (fun _ => ?_) | refine au_alloc (fun _ => ?_) | refine au_store ?_ | refine au_make rfl rfl (fun _ => ?_) | refine au_lit rfl rfl rfl (fun _ => ?_) | refine au_append rfl rfl rfl rfl (fun _ => au_norm ?_) | refine au_storeE rfl rfl rfl rfl ?_)); refine tri_nil ?_; (repeat refine tri_then ?_)
  rename_i g1
  refine tri_weak (H' := Hp w0 (ptC g1 root vn vd :: cs)) (fun w h => h) ?_
  have hN1 := hN.cons (c := ptC g1 root vn vd)
  have hD1 := hD.cons (c := ptC g1 root vn vd)
  (repeat (first | refine zz ?_ | refine zv fun _ => ?_))
  refine au_pure ?_ (hy := yl_len rfl rfl hD1)
  (repeat (first | refine zz ?_ | refine zv fun _ => ?_))
  refine tri_block ?_
  refine tri_loop1 (fun (i : Nat) => i ≤ ds.length) (fun i => [(1, .pointer (some ⟨g1, 0, none⟩)), (8, vd), (9, .int .i64 (ds.length : Int)), (10, .int .i64 (i : Int))]) (fun _ => Hp w0 (ptC g1 root vn vd :: cs)) (fun i => ds.length - i) 0 (by omega) (by repeat (first | exact trivial | refine ⟨rfl, ?_⟩)) (fun w h => h) ?_
  intro i hi
  (repeat (first | refine zz ?_ | refine zv fun _ => ?_))
  ((first | refine tri_cond (by rfl) (fun hc => ?_) (fun hc => ?_) | refine tri_gsplit (by rfl) (by rfl) (by (fail_if_success exact (rfl : _ = some (Value.bool true))); (fail_if_success exact (rfl : _ = some (Value.bool false))); rfl) (fun hc => ?_) (fun hc => ?_)) <;> (try simp only [decide_eq_true_eq, decide_eq_false_iff_not, beq_iff_eq, bne_iff_ne, ne_eq, Bool.not_eq_true', Bool.not_eq_false', beq_eq_false_iff_ne, bne_eq_false_iff_eq, Int.not_lt, Int.not_le, gt_iff_lt, ge_iff_le, Bool.and_eq_true, Bool.or_eq_true, Bool.and_eq_false_iff, Bool.or_eq_false_iff, Decidable.not_not, not_true_eq_false, not_false_eq_true, and_true, true_and, or_false, false_or, or_true, true_or, and_false, false_and, eq_self, Bool.true_eq_false, Bool.false_eq_true] at hc) <;> (try (exfalso; omega)))
  case refine_1 =>
    have hno := hno i (by omega)
    have hne := fun j hj => hne i j hj (by omega)
    (repeat (first | refine zz ?_ | refine zv fun _ => ?_))
    refine tri_block ?_
    (repeat (first | refine zz ?_ | refine zv fun _ => ?_))
    refine au_pure ?_ (hy := yl_idx (k := i) rfl rfl hD1 (ix_nat rfl) (by rfl) (by omega))
    refine au_pure ?_ (hy := yl_loadEN rfl rfl hD1 (by rfl) (by omega) (by repeat (first | exact nf0 rfl | apply nfS rfl | exact nfR)) (by rfl))
    refine zv fun g4 => ?_
    refine zz ?_
    refine zz ?_
    refine tri_weak (H' := Hp w0 (dpE g4 (ds.getD i default) :: ptC g1 root vn vd :: cs)) (fun w h => h) ?_
    (repeat (first | refine zz ?_ | refine zv fun _ => ?_))
    refine au_callC rfl rfl rfl rfl rfl (rfind_c w0 _ (root := root) (vd := vd) hN1.cons (by omega) (ds.getD i default).f) (fun _ => ?_)
    rw [hno]
    (repeat (first | refine zz ?_ | refine zv fun _ => ?_))
    refine au_pure ?_ (hy := yl_cut (a := 0) (b := i) rfl rfl hD1.cons ixo_none (ixo_some (ix_nat rfl)) (by omega) (by omega))
    have hDc : RdH (Hp w0 (dpE g4 (ds.getD i default) :: ptC g1 root vn vd :: cs)) (cut vd 0 i 2) ((ds.take i).drop 0) := hD1.cons.cut rfl (by omega) (by omega)
    rw [List.drop_zero] at hDc
    have hcl : (ds.take i).length = i := by rw [List.length_take]; omega
    refine au_pure ?_ (hy := yl_len rfl rfl hDc)
    rw [hcl]
    (repeat (first | refine zz ?_ | refine zv fun _ => ?_))
    refine tri_block ?_
    refine tri_loop1 (fun (j : Nat) => j ≤ i) (fun j => [(1, .pointer (some ⟨g1, 0, none⟩)), (4, .pointer (some ⟨g4, 0, none⟩)), (8, vd), (9, .int .i64 (ds.length : Int)), (10, .int .i64 (i : Int)), (23, cut vd 0 i 2), (24, .int .i64 (i : Int)), (25, .int .i64 (j : Int))]) (fun _ => Hp w0 (dpE g4 (ds.getD i default) :: ptC g1 root vn vd :: cs)) (fun j => i - j) 0 (by omega) (by repeat (first | exact trivial | refine ⟨rfl, ?_⟩)) (fun w h => h) ?_
    intro j hj
    (repeat (first | refine zz ?_ | refine zv fun _ => ?_))
    ((first | refine tri_cond (by rfl) (fun hc => ?_) (fun hc => ?_) | refine tri_gsplit (by rfl) (by rfl) (by (fail_if_success exact (rfl : _ = some (Value.bool true))); (fail_if_success exact (rfl : _ = some (Value.bool false))); rfl) (fun hc => ?_) (fun hc => ?_)) <;> (try simp only [decide_eq_true_eq, decide_eq_false_iff_not, beq_iff_eq, bne_iff_ne, ne_eq, Bool.not_eq_true', Bool.not_eq_false', beq_eq_false_iff_ne, bne_eq_false_iff_eq, Int.not_lt, Int.not_le, gt_iff_lt, ge_iff_le, Bool.and_eq_true, Bool.or_eq_true, Bool.and_eq_false_iff, Bool.or_eq_false_iff, Decidable.not_not, not_true_eq_false, not_false_eq_true, and_true, true_and, or_false, false_or, or_true, true_or, and_false, false_and, eq_self, Bool.true_eq_false, Bool.false_eq_true] at hc) <;> (try (exfalso; omega)))
    case refine_1 =>
      have hjf : ((ds.take i).getD j default) = ds.getD j default := by rw [getD_get (by omega), getD_get (by omega), List.getElem_take]
      have hnj := hne j (by omega)
      (repeat (first | refine zz ?_ | refine zv fun _ => ?_))
      refine tri_block ?_
      (repeat (first | refine zz ?_ | refine zv fun _ => ?_))
      refine au_pure ?_ (hy := yl_idx (k := j) rfl rfl hDc (ix_nat rfl) (by rfl) (by omega))
      refine au_pure ?_ (hy := yl_loadEN rfl rfl hDc (by rfl) (by omega) (by repeat (first | exact nf0 rfl | apply nfS rfl | exact nfR)) (by rfl))
      rw [hjf]
      (repeat (first | refine zz ?_ | refine zv fun _ => ?_))
      rw [show ((ds.getD j default).f == (ds.getD i default).f) = false by simpa using hnj]
      (repeat (first | refine zz ?_ | refine zv fun _ => ?_))
      exact tri_nx1 (j + 1) (by omega) (by omega) (by repeat (first | exact trivial | refine ⟨rfl, ?_⟩)) (fun w h => h.sub (List.Sublist.cons _ (List.Sublist.refl _)))
    (repeat (first | refine zz ?_ | refine zv fun _ => ?_))
    exact tri_nx1 (i + 1) (by omega) (by omega) (by repeat (first | exact trivial | refine ⟨rfl, ?_⟩)) (fun w h => h.sub (List.Sublist.cons _ (List.Sublist.refl _)))
  (repeat (first | refine zz ?_ | refine zv fun _ => ?_))
  refine au_done1 rfl ?_
  exact fun w hw => ⟨(), rfl, hw.tail⟩
end
end
end Go.Proofs.YtbgjelhefhcnpaaGreat

/- The walks of the reference's walks over a page table. No conditions. -/
set_option linter.unusedSimpArgs false
set_option linter.unusedVariables false
namespace Go.Proofs.YtbgjelhefhcnpaaGreat
open Go Go.RowKit
abbrev ndA (e : Fin 8 → Int) : Value := .agg #[.int .u64 (e 0), .int .u64 (e 1), .int .u64 (e 2), .int .u64 (e 3), .int .u64 (e 4), .int .u64 (e 5), .int .u64 (e 6), .int .u64 (e 7)]
theorem yl_index8 [Dl] {n : Nat} {o : Oper} {E : Env} {H : World → Prop} {x y : Operand} {e : Fin 8 → Int} {k : Nat} (ho : o.op = .index 87 x y) (hx : ev E x = some (ndA e)) (hy : Ix E y k) (hk : k < 8) : Yl Tryz.prog n o E H (.int .u64 (e ⟨k, hk⟩)) := fun a w h1 _ => by
  obtain ⟨kd, i, hi, rfl⟩ := hy
  have hA : ∀ w, (isAgg 58).run Tryz.prog w = .ok false w := Tryz.isAgg58
  simp only [execOp, ho, h1.ev hx, h1.ev hi]
  have h8 : k = 0 ∨ k = 1 ∨ k = 2 ∨ k = 3 ∨ k = 4 ∨ k = 5 ∨ k = 6 ∨ k = 7 := by omega
  rcases h8 with rfl | rfl | rfl | rfl | rfl | rfl | rfl | rfl <;> simp [Instr.index, run_underlying Tryz.underlying87, asIntOf, Tryz.sizeOf58, part, hA] <;> rfl
/-- What the reference's walk works on. -/
abbrev rkC (gh : Nat) (rl : Row) (led : List Bool) (h : Int) (cs : List Chunk) : List Chunk := boS rl led :: blkC gh 3 [.int .i64 h] :: cs
theorem pg_kind {w : Int} (h : pgW w) : (decR w).1.k = 0 ∨ (decR w).1.k = 4 ∨ (decR w).1.k = 1 := by
  rcases h.2.1 with e | ⟨e, _⟩
  · exact .inl e
  · exact .inr (.inr e)
theorem dep_yes {root : Int} {T : Tr} {ns : List ND} {ds : List DP} (h : PtOk root T ns ds) {a j : Fin 8} {m : Mid} (hT : T a = some m) {w f : Int} (hs : m.s j = .huge w f) : 0 ≤ idxM (fun y : DP => y.g == 8 * (a.val : Int) + j.val) ds := by
  have hm : (⟨8 * (a.val : Int) + j.val, f⟩ : DP) ∈ ds := by
    rw [h.d]
    refine List.mem_flatMap.2 ⟨a, mem_all8 a, ?_⟩
    rw [hT]
    refine List.mem_flatMap.2 ⟨j, mem_all8 j, ?_⟩
    rw [hs]
    exact List.mem_singleton.2 rfl
  have ha : ds.any (fun y : DP => y.g == 8 * (a.val : Int) + j.val) = true := List.any_eq_true.2 ⟨_, hm, by simp⟩
  exact (idxM_lt ha).1
attribute [local irreducible] decR ixL suitM ledV
attribute [local irreducible] Code.wp wpList bodyPost Exit.then Exit.inBlock Calls wpQuiet Tri TriQ
section
variable (w0 : World) (cs : List Chunk)
set_option maxHeartbeats 4000000 in
theorem rwalk0_c {gh : Nat} {root : Int} {vn vd : Value} {ns : List ND} {rl : Row} {led : List Bool} {hc : Int} (hN : RdH (Hp w0 cs) vn ns) {k : Nat} (hk : k < ns.length) (hw : ∀ j, pgW ((ns.getD k default).e j)) (hll : led.length = ns.length) (hlk : led.getD k default = false) (first : Int) :
    Cal Tryz.prog 37 [ptV root vn vd, .int .i64 (k : Int), .int .i64 0, .int .i64 first, rl.v, pR gh] (Hp w0 (rkC gh rl led hc cs)) (fun _ : Unit => .bool true) (fun _ => Hp w0 (rkC gh rl (led.set k true) hc cs)) := by
  refine cal_of_tri Tryz.func37 rfl Tryz.ntmps37 rfl ?_
  (repeat (first | refine tri_seq ?_ | refine tri_then ?_)); refine tri_region ?_; (repeat (first | refine au_pure ?_ | refine au_pass ?_ | refine au_box (fun _ => ?_) | refine au_alloc (fun _ => ?_) | refine au_store ?_ | refine au_make rfl rfl (fun _ => ?_) | refine au_lit rfl rfl rfl (fun _ => ?_) | refine au_append rfl rfl rfl rfl (fun _ => au_norm ?_) | refine au_storeE rfl rfl rfl rfl ?_)); refine tri_nil ?_; (repeat refine tri_then ?_)
  rename_i g6
  refine tri_weak (H' := Hp w0 (rkC gh rl led hc (ptC g6 root vn vd :: cs))) (fun w h => HpM.perm h ((List.Perm.swap _ _ _).trans (List.Perm.cons _ (List.Perm.swap _ _ _)))) ?_
  have hNc : ∀ (A B C : Chunk), RdH (Hp w0 (A :: B :: C :: cs)) vn ns := fun A B C => hN.cons.cons.cons
  have hL : ∀ l : List Bool, RdH (Hp w0 (rkC gh rl l hc (ptC g6 root vn vd :: cs))) rl.v l := fun l => rd_chunk ⟨0, rfl⟩
  (repeat (first | refine zz ?_ | refine zv fun _ => ?_))
  refine au_pure ?_ (hy := yl_idx (k := k) rfl rfl (hL led) (ix_nat rfl) (by rfl) (by omega))
  refine au_pure ?_ (hy := yl_loadE rfl rfl (hL led) (by rfl) (by omega) (by rfl))
  rw [hlk]
  (repeat (first | refine zz ?_ | refine zv fun _ => ?_))
  refine au_pure ?_ (hy := yl_idx (k := k) rfl rfl (hL led) (ix_nat rfl) (by rfl) (by omega))
  refine au_storeE (a := true) rfl rfl rfl rfl ?_
  refine tri_weak (H' := Hp w0 (rkC gh rl (led.set k true) hc (ptC g6 root vn vd :: cs))) (fun w h => h) ?_
  (repeat (first | refine zz ?_ | refine zv fun _ => ?_))
  refine au_pure ?_ (hy := yl_idx (k := k) rfl rfl (hNc _ _ _) (ix_nat rfl) (by rfl) hk)
  refine au_pure ?_ (hy := yl_fieldE rfl rfl)
  refine au_pure ?_ (hy := yl_loadEN (k := k) (m := 8) rfl rfl (hNc _ _ _) (by rfl) hk (by repeat (first | exact nf0 rfl | apply nfS rfl | exact nfR)) (by rfl))
  (repeat (first | refine zz ?_ | refine zv fun _ => ?_))
  refine tri_block ?_
  refine tri_loop1 (fun (i : Nat) => i ≤ 8) (fun i => [(1, .int .i64 (k : Int)), (2, .int .i64 0), (3, .int .i64 first), (4, rl.v), (5, pR gh), (6, pR g6), (31, ndA (ns.getD k default).e), (32, .int .i64 (i : Int))]) (fun _ => Hp w0 (rkC gh rl (led.set k true) hc (ptC g6 root vn vd :: cs))) (fun i => 8 - i) 0 (by omega) (by repeat (first | exact trivial | refine ⟨rfl, ?_⟩)) (fun w h => h) ?_
  intro i hi
  (repeat (first | refine zz ?_ | refine zv fun _ => ?_))
  ((first | refine tri_cond (by rfl) (fun hc => ?_) (fun hc => ?_) | refine tri_gsplit (by rfl) (by rfl) (by (fail_if_success exact (rfl : _ = some (Value.bool true))); (fail_if_success exact (rfl : _ = some (Value.bool false))); rfl) (fun hc => ?_) (fun hc => ?_)) <;> (try simp only [decide_eq_true_eq, decide_eq_false_iff_not, beq_iff_eq, bne_iff_ne, ne_eq, Bool.not_eq_true', Bool.not_eq_false', beq_eq_false_iff_ne, bne_eq_false_iff_eq, Int.not_lt, Int.not_le, gt_iff_lt, ge_iff_le, Bool.and_eq_true, Bool.or_eq_true, Bool.and_eq_false_iff, Bool.or_eq_false_iff, Decidable.not_not, not_true_eq_false, not_false_eq_true, and_true, true_and, or_false, false_or, or_true, true_or, and_false, false_and, eq_self, Bool.true_eq_false, Bool.false_eq_true] at hc) <;> (try (exfalso; omega)))
  case refine_1 =>
    have hi8 : i < 8 := by omega
    obtain ⟨wd, hwd⟩ : ∃ wd, wd = (ns.getD k default).e ⟨i, hi8⟩ := ⟨_, rfl⟩
    have hpw := hw ⟨i, hi8⟩
    rw [← hwd] at hpw
    have hsu := pg_suit hpw
    have hkd := pg_kind hpw
    obtain ⟨p1, p2, p3, p4⟩ := hpw
    obtain ⟨⟨ek, en, ea, eb, ec, ed⟩, eu, hdu⟩ : ∃ e v, decR wd = (e, v) := ⟨_, _, rfl⟩
    rw [hdu] at hsu p1 p2 hkd
    simp only at hsu p1 p2 hkd
    obtain ⟨s1, s2, s3⟩ := hsu
    (repeat (first | refine zz ?_ | refine zv fun _ => ?_))
    refine tri_block ?_
    (repeat (first | refine zz ?_ | refine zv fun _ => ?_))
    refine au_pure ?_ (hy := yl_index8 rfl rfl (ix_nat rfl) hi8)
    rw [← hwd]
    (repeat (first | refine zz ?_ | refine zv fun _ => ?_))
    refine au_call rfl rfl (cl_of rfl rfl rfl (fun _ h => Ret.hp (rdecode_at _ p3 p4 hdu) h)) ?_
    rw [p1]
    (repeat (first | refine zz ?_ | refine zv fun _ => ?_))
    refine au_callC rfl rfl rfl rfl rfl (rsuits_c w0 _ (⟨ek, en, ea, eb, ec, ed⟩ : Ent) 0 s1 hkd) (fun _ => ?_)
    (repeat (first | refine zz ?_ | refine zv fun _ => ?_))
    rw [show (ek == 4) = false by simpa using s2]
    (repeat (first | refine zz ?_ | refine zv fun _ => ?_))
    cases h1 : (ek == 1)
    case true =>
      have hd := s3 (beq_iff_eq.1 h1)
      subst hd
      (repeat (first | refine zz ?_ | refine zv fun _ => ?_))
      exact tri_nx1 (i + 1) (by omega) (by omega) (by repeat (first | exact trivial | refine ⟨rfl, ?_⟩)) (fun w h => h.sub (by repeat (first | exact List.Sublist.refl _ | assumption | apply List.Sublist.cons_cons | apply List.Sublist.cons)))
    (repeat (first | refine zz ?_ | refine zv fun _ => ?_))
    exact tri_nx1 (i + 1) (by omega) (by omega) (by repeat (first | exact trivial | refine ⟨rfl, ?_⟩)) (fun w h => h.sub (by repeat (first | exact List.Sublist.refl _ | assumption | apply List.Sublist.cons_cons | apply List.Sublist.cons)))
  (repeat (first | refine zz ?_ | refine zv fun _ => ?_))
  refine au_done1 rfl ?_
  exact fun w hw => ⟨(), rfl, hw.sub (List.Sublist.cons_cons _ (List.Sublist.cons_cons _ (List.Sublist.cons _ (List.Sublist.refl _))))⟩
end
end Go.Proofs.YtbgjelhefhcnpaaGreat
