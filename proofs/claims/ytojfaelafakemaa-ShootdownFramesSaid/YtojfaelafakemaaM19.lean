/- Texts joined: ShOps3, ShOps4, Seq2, TlbOpsR, TlbOpsR2. Each part's own remark says what it proves. -/
import Derived.Test.YtojfaelafakemaaM18
import Derived.Test.YtojfaelafakemaaM12
import Derived.Test.YtojfaelafakemaaM16
import Derived.Test.YtojfaelafakemaaM07
/- The walks of the shootdown machine: Free, Quiet, Map, Unmap, Protect. No conditions. -/
set_option linter.unusedSimpArgs false
set_option linter.unusedVariables false
namespace Go.Proofs.Ytojfaelafakemaa
open Go Go.RowKit
attribute [local irreducible] decR enOk pgOk teOk ivOk tlOk checkM lbOk formM limM schk lookM
theorem zero_res {w0 w : World} {cs cs' : List Chunk} {X : SM × Int} {e : Int} (hw : Hp w0 cs' w) (hX : X = (SM.zero, e)) (hs : cs.Sublist cs') : ∃ q : {q : SR // SOk q X.1}, Ending.returned (.tuple #[hdV hdN, .int .i64 e]) = .returned (.tuple #[hdV (hd q.1), .int .i64 X.2]) ∧ Hp w0 (SC q.1 X.1 ++ cs) w := by
  subst hX
  obtain ⟨q, h1, h2⟩ := zero_rows hw hs
  exact ⟨q, by rw [h1], h2⟩
theorem zero_res3 {w0 w : World} {cs cs' : List Chunk} {X : SM × Int × Int} {e : Int} (hw : Hp w0 cs' w) (hX : X = (SM.zero, 0, e)) (hs : cs.Sublist cs') : ∃ q : {q : SR // SOk q X.1}, Ending.returned (.tuple #[hdV hdN, .int .i64 0, .int .i64 e]) = .returned (.tuple #[hdV (hd q.1), .int .i64 X.2.1, .int .i64 X.2.2]) ∧ Hp w0 (SC q.1 X.1 ++ cs) w := by
  subst hX
  obtain ⟨q, h1, h2⟩ := zero_rows hw hs
  exact ⟨q, by rw [h1], h2⟩
theorem good_res {w0 w : World} {cs cs' : List Chunk} {X : SM × Int} {m' : SM} {q : SR} (hX : X = (m', 0)) (hq : SOk q m') (hw : Hp w0 cs' w) (hs : (SC q m' ++ cs).Sublist cs') : ∃ s : {q : SR // SOk q X.1}, Ending.returned (.tuple #[hdV (hd q), .int .i64 0]) = .returned (.tuple #[hdV (hd s.1), .int .i64 X.2]) ∧ Hp w0 (SC s.1 X.1 ++ cs) w := by
  subst hX
  exact ⟨⟨q, hq⟩, rfl, hw.sub hs⟩
theorem good_res3 {w0 w : World} {cs cs' : List Chunk} {X : SM × Int × Int} {m' : SM} {x e : Int} {q : SR} (hX : X = (m', x, e)) (hq : SOk q m') (hw : Hp w0 cs' w) (hs : (SC q m' ++ cs).Sublist cs') : ∃ s : {q : SR // SOk q X.1}, Ending.returned (.tuple #[hdV (hd q), .int .i64 x, .int .i64 e]) = .returned (.tuple #[hdV (hd s.1), .int .i64 X.2.1, .int .i64 X.2.2]) ∧ Hp w0 (SC s.1 X.1 ++ cs) w := by
  subst hX
  exact ⟨⟨q, hq⟩, rfl, hw.sub hs⟩
theorem sc_mid2 {w0 w : World} {q : SR} {m : SM} {A B : Chunk} {cs X : List Chunk} (h : Hp w0 (SC q m ++ X) w) (hs : (A :: B :: cs).Sublist X) : Hp w0 (A :: B :: (SC q m ++ cs)) w :=
  HpM.perm (h.sub (List.Sublist.append_left hs (SC q m))) (List.perm_middle.trans (List.Perm.cons _ List.perm_middle))
theorem sc_mid3 {w0 w : World} {q : SR} {m : SM} {A B C : Chunk} {cs X : List Chunk} (h : Hp w0 (SC q m ++ X) w) (hs : (A :: B :: C :: cs).Sublist X) : Hp w0 (A :: B :: C :: (SC q m ++ cs)) w :=
  HpM.perm (h.sub (List.Sublist.append_left hs (SC q m))) (List.perm_middle.trans (List.Perm.cons _ (List.perm_middle.trans (List.Perm.cons _ List.perm_middle))))
theorem free_step {m : SM} {k : Nat} : (((List.range (k + 1)).map fun (i : Nat) => (i : Int)).filter (freeB m)) = (((List.range k).map fun (i : Nat) => (i : Int)).filter (freeB m)) ++ if freeB m (k : Int) = true then [(k : Int)] else [] := by
  rw [List.range_succ, List.map_append, List.filter_append]
  simp only [List.map_cons, List.map_nil, List.filter_cons, List.filter_nil]
theorem free_any {m : SM} (h0 : schk m = 0) {f : Int} (hf : 0 ≤ f ∧ f < m.wd.length) : (freeM m).any (eqB f) = freeB m f := by
  unfold freeM
  rw [if_neg fun x => x h0, Bool.eq_iff_iff, List.any_eq_true]
  constructor
  · rintro ⟨x, hx, he⟩
    have : f = x := by simpa [eqB] using he
    rw [this]
    exact (List.mem_filter.1 hx).2
  · intro h
    exact ⟨f, List.mem_filter.2 ⟨List.mem_map.2 ⟨f.toNat, List.mem_range.2 (by omega), by show ((f.toNat : Nat) : Int) = f; omega⟩, h⟩, by simp [eqB]⟩
attribute [local irreducible] Code.wp wpList bodyPost Exit.then Exit.inBlock Calls wpQuiet Tri TriQ
section
variable (w0 : World) (cs : List Chunk)
set_option maxHeartbeats 2000000 in
theorem free_c {h : SH} {xb : List TB} {xp : List SV} {m : SM} (hC : RdS (Hp w0 cs) h xb xp m) (hL : SLe m) :
    Cal Try.prog 18 [hdV h] (Hp w0 cs) (fun r : Row => r.v) (fun r => Hp w0 (inS r (freeM m) :: cs)) := by
  refine cal_of_tri Try.func18 rfl Try.ntmps18 rfl ?_
  (repeat (first | refine tri_seq ?_ | refine tri_then ?_)); refine tri_region ?_; (repeat (first | refine au_pure ?_ | refine au_pass ?_ | refine au_box (fun _ => ?_) | refine au_alloc (fun _ => ?_) | refine au_store ?_ | refine au_make rfl rfl (fun _ => ?_) | refine au_lit rfl rfl rfl (fun _ => ?_) | refine au_append rfl rfl rfl rfl (fun _ => au_norm ?_) | refine au_storeE rfl rfl rfl rfl ?_)); refine tri_nil ?_; (repeat refine tri_then ?_)
  rename_i g1
  have hC1 := hC.cons (c := hdC g1 h)
  (repeat (first | refine zz ?_ | refine zv fun _ => ?_))
  refine au_callC rfl rfl rfl rfl rfl (scheck_c w0 _ hC1 hL) (fun _ => ?_)
  (repeat (first | refine zz ?_ | refine zv fun _ => ?_))
  cases h1 : (schk m != 0)
  case true =>
    have h1 := bne_iff_ne.1 h1
    have e1 : freeM m = [] := by unfold freeM; rw [if_pos h1]
    (repeat (first | refine zz ?_ | refine zv fun _ => ?_))
    refine au_done1 rfl ?_
    intro w hw
    refine ⟨Row.nil w0.heap.size, rfl, ?_⟩
    rw [e1]
    exact (hw.sub (show cs.Sublist _ from (by repeat (first | exact List.Sublist.refl _ | assumption | apply List.Sublist.cons_cons | apply List.Sublist.cons)))).push0 rfl rfl (Own.nil w _ _)
  have h1 : schk m = 0 := by simpa using h1
  have hV := schk_zero.1 h1
  have hr := hV.r
  (repeat (first | refine zz ?_ | refine zv fun _ => ?_))
  refine au_pure ?_ (hy := yl_len rfl rfl hC1.wd)
  refine au_make (α := Bool) (k := m.wd.length) (c := m.wd.length) rfl rfl (fun r => ?_)
  (repeat (first | refine zz ?_ | refine zv fun _ => ?_))
  refine au_callC rfl rfl rfl rfl rfl (limbo_c w0 _ r hC1 hL (by omega) (by omega)) ?_
  rintro ⟨U, hU1, hU2⟩
  have hU2 := hU2 hV.lim
  have hfr : ∀ k, k < m.wd.length → (!U.getD k default) = freeB m (k : Int) := fun k hk => by
    rw [hU2 k hk]; rfl
  refine tri_weak (H' := Hp w0 (boS r U :: hdC g1 h :: cs)) (fun w h => h) ?_
  have hRU : ∀ X : List Chunk, RdH (Hp w0 (boS r U :: X)) r.v U := fun X => rd_chunk ⟨0, rfl⟩
  refine tri_nil ?_
  refine tri_nilrow Int 3 ?_
  (repeat (first | refine zz ?_ | refine zv fun _ => ?_))
  refine au_pure ?_ (hy := yl_len rfl rfl (RdH.cons (hRU _)))
  (repeat (first | refine zz ?_ | refine zv fun _ => ?_))
  refine tri_block ?_
  refine tri_loop2 (fun (k : Nat) (_ : Row) => k ≤ U.length) (fun k ro => [(3, r.v), (4, ro.v), (17, .int .i64 (U.length : Int)), (18, .int .i64 (k : Int))]) (fun k ro => Hp w0 (inS ro (((List.range k).map fun (i : Nat) => (i : Int)).filter (freeB m)) :: boS r U :: hdC g1 h :: cs)) (fun k _ => U.length - k)
    0 (Row.nil w0.heap.size) (by omega) (by repeat (first | exact trivial | refine ⟨rfl, ?_⟩)) (fun w h => h) ?_
  rintro k ro hk
  (repeat (first | refine zz ?_ | refine zv fun _ => ?_))
  ((first | refine tri_cond (by rfl) (fun hc => ?_) (fun hc => ?_) | refine tri_gsplit (by rfl) (by rfl) (by (fail_if_success exact (rfl : _ = some (Value.bool true))); (fail_if_success exact (rfl : _ = some (Value.bool false))); rfl) (fun hc => ?_) (fun hc => ?_)) <;> (try simp only [decide_eq_true_eq, decide_eq_false_iff_not, beq_iff_eq, bne_iff_ne, ne_eq, Bool.not_eq_true', Bool.not_eq_false', beq_eq_false_iff_ne, bne_eq_false_iff_eq, Int.not_lt, Int.not_le, gt_iff_lt, ge_iff_le, Bool.and_eq_true, Bool.or_eq_true, Bool.and_eq_false_iff, Bool.or_eq_false_iff, Decidable.not_not, not_true_eq_false, not_false_eq_true, and_true, true_and, or_false, false_or, or_true, true_or, and_false, false_and, eq_self, Bool.true_eq_false, Bool.false_eq_true] at hc) <;> (try (exfalso; omega)))
  · (repeat (first | refine zz ?_ | refine zv fun _ => ?_))
    refine tri_block ?_
    have hst := free_step (m := m) (k := k)
    have hfk := hfr k (by omega)
    have hflen : (((List.range k).map fun (i : Nat) => (i : Int)).filter (freeB m)).length ≤ k := by
      have := List.length_filter_le (freeB m) ((List.range k).map fun (i : Nat) => (i : Int))
      simpa using this
    obtain ⟨L, hL0⟩ : ∃ L, L = ((List.range k).map fun (i : Nat) => (i : Int)).filter (freeB m) := ⟨_, rfl⟩
    rw [← hL0] at hst hflen ⊢
    (repeat (first | refine zz ?_ | refine zv fun _ => ?_))
    refine au_pure ?_ (hy := yl_idx (k := k) rfl rfl (RdH.cons (hRU _)) (ix_nat rfl) (by rfl) (by omega))
    refine au_pure ?_ (hy := yl_loadE rfl rfl (RdH.cons (hRU _)) (by rfl) (by omega) (by rfl))
    (repeat (first | refine zz ?_ | refine zv fun _ => ?_))
    rw [hfk]
    cases hf : freeB m (k : Int)
    · rw [if_neg (by rw [hf]; simp), List.append_nil] at hst
      (repeat (first | refine zz ?_ | refine zv fun _ => ?_))
      exact tri_nx2 (k + 1) ro (by omega) (by omega) (by repeat (first | exact trivial | refine ⟨rfl, ?_⟩)) (fun w h => by rw [hst]; exact h)
    · rw [if_pos hf] at hst
      (repeat (first | refine zz ?_ | refine zv fun _ => ?_))
      refine au_lit (l := ([(k : Int)] : List Int)) rfl rfl rfl (fun r1 => ?_)
      refine au_append (r := ro) (l2 := ([(k : Int)] : List Int)) rfl rfl rfl rfl (fun r2 => au_norm ?_) (h2 := rd_chunk ⟨0, rfl⟩) (hb := by rw [List.length_singleton]; omega)
      (repeat (first | refine zz ?_ | refine zv fun _ => ?_))
      exact tri_nx2 (k + 1) r2 (by omega) (by omega) (by repeat (first | exact trivial | refine ⟨rfl, ?_⟩)) (fun w h => by rw [hst]; exact h.sub (by repeat (first | exact List.Sublist.refl _ | assumption | apply List.Sublist.cons_cons | apply List.Sublist.cons)))
  · have hke : k = m.wd.length := by omega
    subst hke
    have e1 : ((List.range m.wd.length).map fun (i : Nat) => (i : Int)).filter (freeB m) = freeM m := by unfold freeM; rw [if_neg fun x => x h1]
    rw [e1]
    (repeat (first | refine zz ?_ | refine zv fun _ => ?_))
    refine au_done1 rfl ?_
    exact fun w hw => ⟨ro, rfl, hw.sub (by repeat (first | exact List.Sublist.refl _ | assumption | apply List.Sublist.cons_cons | apply List.Sublist.cons))⟩
theorem quietf_c {l : List SV} (hl : ∀ s ∈ l, ∃ (x : List IV), RdH (Hp w0 cs) s.v x) : TstPD w0 cs 33 [] (fun s => decide ((s.len : Int) > 0)) l := fun ds s hs => by
  obtain ⟨x, hx⟩ := hl s hs
  have hx' : RdH (Hp w0 (ds ++ cs)) s.v x := hx.app
  have hcal : Cal Try.prog 33 [s.v] (Hp w0 (ds ++ cs)) (fun _ : Unit => .bool (decide ((x.length : Int) > 0))) (fun _ => Hp w0 (ds ++ cs)) := by
    refine cal_of_tri Try.func33 rfl Try.ntmps33 rfl ?_
    (repeat (first | refine zz ?_ | refine zv fun _ => ?_))
    refine au_pure ?_ (hy := yl_len rfl rfl hx')
    (repeat (first | refine zz ?_ | refine zv fun _ => ?_))
    refine au_done1 rfl ?_
    exact fun w hw => ⟨(), rfl, hw⟩
  intro w hw
  have hlen : (x.length : Int) = (s.len : Int) := by
    obtain ⟨A, c, h1, _⟩ := (hx' w hw).form
    unfold SV.v at h1
    simp only [Value.slice.injEq] at h1
    rw [h1.2.1]
  have h2 := hcal w hw
  rw [hlen] at h2
  exact h2
theorem sv_len {w : World} {s : SV} {x : List IV} (h : Rd w s.v x) : s.len = x.length := by
  obtain ⟨A, c, h1, _⟩ := h.form
  unfold SV.v at h1
  simp only [Value.slice.injEq] at h1
  exact h1.2.1
set_option maxHeartbeats 1000000 in
theorem quiet_c {h : SH} {xb : List TB} {xp : List SV} {m : SM} (hC : RdS (Hp w0 cs) h xb xp m) (hL : SLe m) :
    Cal Try.prog 14 [hdV h] (Hp w0 cs) (fun _ : Unit => .bool (quietM m)) (fun _ => Hp w0 cs) := by
  have hpl := hC.pdl
  have l3 := hL.pd
  refine cal_of_tri Try.func14 rfl Try.ntmps14 rfl ?_
  (repeat (first | refine tri_seq ?_ | refine tri_then ?_)); refine tri_region ?_; (repeat (first | refine au_pure ?_ | refine au_pass ?_ | refine au_box (fun _ => ?_) | refine au_alloc (fun _ => ?_) | refine au_store ?_ | refine au_make rfl rfl (fun _ => ?_) | refine au_lit rfl rfl rfl (fun _ => ?_) | refine au_append rfl rfl rfl rfl (fun _ => au_norm ?_) | refine au_storeE rfl rfl rfl rfl ?_)); refine tri_nil ?_; (repeat refine tri_then ?_)
  rename_i g1
  have hC1 := hC.cons (c := hdC g1 h)
  (repeat (first | refine zz ?_ | refine zv fun _ => ?_))
  refine au_callC rfl rfl rfl rfl rfl (scheck_c w0 _ hC1 hL) (fun _ => ?_)
  (repeat (first | refine zz ?_ | refine zv fun _ => ?_))
  cases h1 : (schk m == 0)
  · have h1 := beq_eq_false_iff_ne.1 h1
    (repeat (first | refine zz ?_ | refine zv fun _ => ?_))
    refine au_done1 rfl ?_
    exact fun w hw => ⟨(), by unfold quietM; rw [decide_eq_false h1]; rfl, hw.sub (by repeat (first | exact List.Sublist.refl _ | assumption | apply List.Sublist.cons_cons | apply List.Sublist.cons))⟩
  · have h1 := beq_iff_eq.1 h1
    (repeat (first | refine zz ?_ | refine zv fun _ => ?_))
    have hrd : ∀ s ∈ xp, ∃ (x : List IV), RdH (Hp w0 (hdC g1 h :: cs)) s.v x := fun s hs => by
      obtain ⟨i, hi, rfl⟩ := List.getElem_of_mem hs
      have := hC1.pe i
      rw [getD_get hi] at this
      exact ⟨_, this⟩
    refine au_callC rfl rfl rfl rfl rfl (containsFuncPD_c w0 _ hC1.pd (by omega) (quietf_c w0 _ hrd) (capd := [])) (fun _ => ?_)
    (repeat (first | refine zz ?_ | refine zv fun _ => ?_))
    refine au_done1 rfl ?_
    intro w hw
    refine ⟨(), ?_, hw.sub (by repeat (first | exact List.Sublist.refl _ | assumption | apply List.Sublist.cons_cons | apply List.Sublist.cons))⟩
    have hlen : ∀ i, (xp.getD i default).len = (m.pd.getD i default).length := fun i => sv_len (hC1.pe i w hw)
    have e1 : quietM m = !(xp.any fun s => decide ((s.len : Int) > 0)) := by
      unfold quietM
      rw [decide_eq_true h1, Bool.true_and, Bool.eq_iff_iff, all_get, Bool.not_eq_true', List.any_eq_false]
      constructor
      · intro ha s hs
        obtain ⟨i, hi, rfl⟩ := List.getElem_of_mem hs
        have h2 := ha i (by omega)
        have h3 := hlen i
        rw [getD_get hi] at h3
        rw [List.isEmpty_iff] at h2
        rw [h2] at h3
        simp at h3
        simp [h3]
      · intro ha i hi
        have h2 := ha (xp.getD i default) (mem_getD' (by omega))
        have h3 := hlen i
        rw [decide_eq_true_eq] at h2
        rw [List.isEmpty_iff, ← List.length_eq_zero_iff]
        omega
    rw [e1]
set_option maxHeartbeats 2000000 in
theorem map_c {h : SH} {xb : List TB} {xp : List SV} {m : SM} (p f : Int) (wr : Bool) (hC : RdS (Hp w0 cs) h xb xp m) (hL : SLe m) (hpe : ∀ i, (m.pd.getD i default).length ≤ 1000000) :
    Cal Try.prog 21 [hdV h, .int .i64 p, .int .i64 f, .bool wr] (Hp w0 cs) (fun q : {q : SR // SOk q (mapM m p f wr).1} => .tuple #[hdV (hd q.1), .int .i64 (mapM m p f wr).2]) (fun q => Hp w0 (SC q.1 (mapM m p f wr).1 ++ cs)) := by
  refine cal_of_tri Try.func21 rfl Try.ntmps21 rfl ?_
  (repeat (first | refine tri_seq ?_ | refine tri_then ?_)); refine tri_region ?_; (repeat (first | refine au_pure ?_ | refine au_pass ?_ | refine au_box (fun _ => ?_) | refine au_alloc (fun _ => ?_) | refine au_store ?_ | refine au_make rfl rfl (fun _ => ?_) | refine au_lit rfl rfl rfl (fun _ => ?_) | refine au_append rfl rfl rfl rfl (fun _ => au_norm ?_) | refine au_storeE rfl rfl rfl rfl ?_)); refine tri_nil ?_; (repeat refine tri_then ?_)
  rename_i g4 g8
  have hC1 := hC.cons (c := hdC g4 h) |>.cons (c := hdC g8 hdN)
  refine tri_weak (H' := Hp w0 (hdC g8 hdN :: hdC g4 h :: cs)) (fun w h => h) ?_
  (repeat (first | refine zz ?_ | refine zv fun _ => ?_))
  refine au_callC rfl rfl rfl rfl rfl (scheck_c w0 _ hC1 hL) (fun _ => ?_)
  (repeat (first | refine zz ?_ | refine zv fun _ => ?_))
  cases h1 : (schk m != 0)
  case true =>
    have h1 := bne_iff_ne.1 h1
    (repeat (first | refine zz ?_ | refine zv fun _ => ?_))
    refine au_done2 rfl ?_
    exact fun w hw => zero_res hw (by unfold mapM; rw [if_pos h1]) (by repeat (first | exact List.Sublist.refl _ | assumption | apply List.Sublist.cons_cons | apply List.Sublist.cons))
  have h1 : schk m = 0 := by simpa using h1
  have hV := schk_zero.1 h1
  have hr := hV.r
  have e1 : mapM m p f wr = if ¬ (isP m p = true ∧ 0 ≤ f ∧ f < m.wd.length) then (.zero, 2) else if pgOk m.wd.length (tbW m p.toNat) = true then (.zero, 7) else if freeB m f = false then (.zero, 21)
    else ({ m with tb := m.tb.set p.toNat ⟨wordM ⟨1, f, wr, false, false, false⟩⟩, wd := m.wd.set f.toNat 0 }, 0) := by unfold mapM; rw [if_neg fun x => x h1]
  (repeat (first | refine zz ?_ | refine zv fun _ => ?_))
  refine au_callC rfl rfl rfl rfl rfl (is_c w0 _ p hC1.tb hL.tb) (fun _ => ?_)
  cases h2 : isP m p
  case false =>
    (repeat (first | refine zz ?_ | refine zv fun _ => ?_))
    refine au_done2 rfl ?_
    exact fun w hw => zero_res hw (by rw [e1, if_pos (by rw [h2]; simp)]) (by repeat (first | exact List.Sublist.refl _ | assumption | apply List.Sublist.cons_cons | apply List.Sublist.cons))
  (repeat (first | refine zz ?_ | refine zv fun _ => ?_))
  cases h3 : decide (f < 0)
  case true =>
    have h3 := of_decide_eq_true h3
    (repeat (first | refine zz ?_ | refine zv fun _ => ?_))
    refine au_done2 rfl ?_
    exact fun w hw => zero_res hw (by rw [e1, if_pos (by omega)]) (by repeat (first | exact List.Sublist.refl _ | assumption | apply List.Sublist.cons_cons | apply List.Sublist.cons))
  have h3 := of_decide_eq_false h3
  (repeat (first | refine zz ?_ | refine zv fun _ => ?_))
  refine au_pure ?_ (hy := yl_len rfl rfl hC1.wd)
  (repeat (first | refine zz ?_ | refine zv fun _ => ?_))
  cases h4 : decide (f ≥ (m.wd.length : Int))
  case true =>
    have h4 := of_decide_eq_true h4
    (repeat (first | refine zz ?_ | refine zv fun _ => ?_))
    refine au_done2 rfl ?_
    exact fun w hw => zero_res hw (by rw [e1, if_pos (by omega)]) (by repeat (first | exact List.Sublist.refl _ | assumption | apply List.Sublist.cons_cons | apply List.Sublist.cons))
  have h4 := of_decide_eq_false h4
  rw [if_neg (fun x => x ⟨h2, by omega, by omega⟩)] at e1
  have hp := isP_iff.1 h2
  (repeat (first | refine zz ?_ | refine zv fun _ => ?_))
  refine au_callC rfl rfl rfl rfl rfl (mapped_c w0 _ p hC1 hL hp) (fun _ => ?_)
  cases h5 : pgOk m.wd.length (tbW m p.toNat)
  case true =>
    (repeat (first | refine zz ?_ | refine zv fun _ => ?_))
    refine au_done2 rfl ?_
    exact fun w hw => zero_res hw (by rw [e1, if_pos h5]) (by repeat (first | exact List.Sublist.refl _ | assumption | apply List.Sublist.cons_cons | apply List.Sublist.cons))
  rw [if_neg (by rw [h5]; simp)] at e1
  (repeat (first | refine zz ?_ | refine zv fun _ => ?_))
  rename_i g11
  have hC2 := hC1.cons (c := enE g11 (decR (tbW m p.toNat)).1)
  refine au_callC rfl rfl rfl rfl rfl (free_c w0 _ hC2 hL) ?_
  intro rf
  have hfl : (freeM m).length ≤ 256 := by
    unfold freeM
    rw [if_neg fun x => x h1]
    have := List.length_filter_le (freeB m) ((List.range m.wd.length).map fun (i : Nat) => (i : Int))
    rw [List.length_map, List.length_range] at this
    omega
  (repeat (first | refine zz ?_ | refine zv fun _ => ?_))
  refine au_callC rfl rfl rfl rfl rfl (containsI_c w0 _ f (rd_chunk (r := rf) (l := freeM m) ⟨0, rfl⟩) (by omega)) (fun _ => ?_)
  rw [free_any h1 (by omega)]
  (repeat (first | refine zz ?_ | refine zv fun _ => ?_))
  cases h6 : freeB m f
  case false =>
    (repeat (first | refine zz ?_ | refine zv fun _ => ?_))
    refine au_done2 rfl ?_
    exact fun w hw => zero_res hw (by rw [e1, if_pos h6]) (by repeat (first | exact List.Sublist.refl _ | assumption | apply List.Sublist.cons_cons | apply List.Sublist.cons))
  rw [if_neg (by rw [h6]; simp)] at e1
  (repeat (first | refine zz ?_ | refine zv fun _ => ?_))
  refine au_callC rfl rfl rfl rfl rfl (own_c w0 _ hC2.cons hr.2.2.1 (by omega) (by have := hV.lml; omega) (fun i => by have := hV.tel i; omega) hpe) ?_
  rintro ⟨q, hq⟩
  refine tri_weak (H' := Hp w0 (hdC g8 hdN :: hdC g4 h :: (SC q m ++ cs))) (fun w h => sc_mid2 (X := _ :: _ :: _ :: _ :: cs) h (by repeat (first | exact List.Sublist.refl _ | assumption | apply List.Sublist.cons_cons | apply List.Sublist.cons))) ?_
  (repeat (first | refine au_pure ?_ | refine au_pass ?_ | refine au_box (fun _ => ?_) | refine au_alloc (fun _ => ?_) | refine au_store ?_ | refine au_make rfl rfl (fun _ => ?_) | refine au_lit rfl rfl rfl (fun _ => ?_) | refine au_append rfl rfl rfl rfl (fun _ => au_norm ?_) | refine au_storeE rfl rfl rfl rfl ?_)); refine tri_nil ?_; (repeat refine tri_then ?_)
  obtain ⟨NX, hNX⟩ : ∃ X, X = (SNb q m ++ SNp q m) ++ cs := ⟨_, rfl⟩
  have hRt : RdH (Hp w0 (hdC g4 (hd q) :: u64S q.t m.tb :: NX)) q.t.v m.tb := rd_chunk ⟨1, rfl⟩
  refine tri_weak (H' := Hp w0 (hdC g8 hdN :: hdC g4 (hd q) :: tlS q.b (tlx q.bs m.tl) :: pdS q.p (q.ps.map Row.sv) :: u64S q.t m.tb :: lbS q.l m.lm :: inS q.w m.wd :: NX)) (fun w h => by rw [hNX]; exact h) ?_
  (repeat (first | refine tri_seq ?_ | refine tri_then ?_))
  refine ar_held [8] (hdC g4 (hd q) :: u64S q.t m.tb :: NX) rfl ?_
  refine ar_free 0 rfl rfl rfl ?_; refine ar_free 2 rfl rfl rfl ?_; refine ar_free 3 rfl rfl rfl ?_; refine ar_free 4 rfl rfl rfl ?_
  refine ar_take 1 rfl rfl rfl ?_; refine ar_take 5 rfl rfl rfl ?_
  refine ar_op 6 rfl ?_
  refine au_callC rfl rfl rfl rfl rfl (word_c w0 _ 1 f wr false false false) (fun _ => ?_)
  refine tri_nil ?_; refine ar_in ?_
  refine ar_take 7 rfl rfl rfl ?_ (hy := yl_idx (k := p.toNat) rfl rfl hRt (ix_int rfl (by omega)) (by rfl) (by omega))
  refine ar_op 8 rfl ?_
  refine au_storeE (r := q.t) (a := (⟨(encS 1 f wr false false false).1⟩ : W64)) rfl rfl rfl rfl ?_
  refine tri_nil ?_; refine ar_ink ?_
  refine ar_done ?_
  obtain ⟨T, hT⟩ : ∃ T, T = m.tb.set p.toNat (⟨(encS 1 f wr false false false).1⟩ : W64) := ⟨_, rfl⟩
  rw [← hT]
  have hRw : RdH (Hp w0 (hdC g8 hdN :: hdC g4 (hd q) :: tlS q.b (tlx q.bs m.tl) :: pdS q.p (q.ps.map Row.sv) :: u64S q.t T :: lbS q.l m.lm :: inS q.w m.wd :: NX)) q.w.v m.wd := rd_chunk ⟨6, rfl⟩
  (repeat (first | refine zz ?_ | refine zv fun _ => ?_))
  refine au_pure ?_ (hy := yl_idx (k := f.toNat) rfl rfl hRw (ix_int rfl (by omega)) (by rfl) (by omega))
  refine au_storeE (r := q.w) (a := (0 : Int)) rfl rfl rfl rfl ?_
  (repeat (first | refine zz ?_ | refine zv fun _ => ?_))
  refine au_done2 rfl ?_
  intro w hw
  refine good_res (m' := { m with tb := m.tb.set p.toNat ⟨wordM ⟨1, f, wr, false, false, false⟩⟩, wd := m.wd.set f.toNat 0 }) e1 ⟨hq.hb, hq.hp⟩ hw ?_
  rw [hT, hNX]
  exact (by repeat (first | exact List.Sublist.refl _ | assumption | apply List.Sublist.cons_cons | apply List.Sublist.cons))
end
end Go.Proofs.Ytojfaelafakemaa

/- The walks of the shootdown machine: Unmap, Protect. No conditions. -/
set_option linter.unusedSimpArgs false
set_option linter.unusedVariables false
namespace Go.Proofs.Ytojfaelafakemaa
open Go Go.RowKit
attribute [local irreducible] decR enOk pgOk teOk ivOk tlOk checkM lbOk formM limM schk lookM
theorem tgt_zero {m : SM} {p : Int} (h : tgtE m p = 0) : Vl m ∧ (0 ≤ p ∧ p < m.tb.length) ∧ pgOk m.wd.length (tbW m p.toNat) = true := by
  unfold tgtE at h
  split at h
  · rename_i h1; exact absurd h h1
  · rename_i h1
    split at h
    · cases h
    · rename_i h2
      split at h
      · cases h
      · rename_i h3
        exact ⟨schk_zero.1 (by omega), isP_iff.1 (by simpa using h2), by simpa using h3⟩
theorem ntf_tb (m : SM) (T : List W64) (p : Int) : ∀ k, ntfM { m with tb := T } p k = ntfM m p k
  | 0 => rfl
  | k + 1 => by
    unfold ntfM
    rw [ntf_tb m T p k]
    rfl
theorem SLe.setTb {m : SM} (h : SLe m) (i : Nat) {v : Int} (hv : 0 ≤ v ∧ v < 18446744073709551616) : SLe { m with tb := m.tb.set i ⟨v⟩ } :=
  ⟨by simpa using h.tb, h.tl, h.te, h.pd, h.pe, h.lm, h.wd, fun j => by
    show 0 ≤ ((m.tb.set i ⟨v⟩).getD j default).v ∧ _
    rcases Nat.lt_or_ge i m.tb.length with hi | hi
    · rw [gd_set hi]
      by_cases e : i = j
      · rw [if_pos e]; exact hv
      · rw [if_neg e]; exact h.tw j
    · rw [List.set_eq_of_length_le hi]; exact h.tw j, h.ew⟩
theorem enc_bd (k n : Int) (a b c d : Bool) : 0 ≤ (encS k n a b c d).1 ∧ (encS k n a b c d).1 < 18446744073709551616 := enc_err (v := (encS k n a b c d).1) (u := (encS k n a b c d).2) rfl
theorem sc_front3 {w0 w : World} {q : SR} {m : SM} {A B C : Chunk} {cs : List Chunk} (h : Hp w0 (A :: B :: C :: (SC q m ++ cs)) w) : Hp w0 (SC q m ++ (A :: B :: C :: cs)) w :=
  HpM.perm h ((List.perm_middle.trans (List.Perm.cons _ (List.perm_middle.trans (List.Perm.cons _ List.perm_middle)))).symm)
attribute [local irreducible] Code.wp wpList bodyPost Exit.then Exit.inBlock Calls wpQuiet Tri TriQ
section
variable (w0 : World) (cs : List Chunk)
set_option maxHeartbeats 2000000 in
theorem unmap_c {h : SH} {xb : List TB} {xp : List SV} {m : SM} (p : Int) (hC : RdS (Hp w0 cs) h xb xp m) (hL : SLe m) (hpe : ∀ i, (m.pd.getD i default).length ≤ 1000000) :
    Cal Try.prog 22 [hdV h, .int .i64 p] (Hp w0 cs) (fun q : {q : SR // SOk q (unmapM m p).1} => .tuple #[hdV (hd q.1), .int .i64 (unmapM m p).2]) (fun q => Hp w0 (SC q.1 (unmapM m p).1 ++ cs)) := by
  refine cal_of_tri Try.func22 rfl Try.ntmps22 rfl ?_
  (repeat (first | refine tri_seq ?_ | refine tri_then ?_)); refine tri_region ?_; (repeat (first | refine au_pure ?_ | refine au_pass ?_ | refine au_box (fun _ => ?_) | refine au_alloc (fun _ => ?_) | refine au_store ?_ | refine au_make rfl rfl (fun _ => ?_) | refine au_lit rfl rfl rfl (fun _ => ?_) | refine au_append rfl rfl rfl rfl (fun _ => au_norm ?_) | refine au_storeE rfl rfl rfl rfl ?_)); refine tri_nil ?_; (repeat refine tri_then ?_)
  rename_i g2 g4
  have hC1 := hC.cons (c := hdC g2 h) |>.cons (c := hdC g4 hdN)
  refine tri_weak (H' := Hp w0 (hdC g4 hdN :: hdC g2 h :: cs)) (fun w h => h) ?_
  (repeat (first | refine zz ?_ | refine zv fun _ => ?_))
  refine au_callC rfl rfl rfl rfl rfl (target_c w0 _ p hC1 hL) (fun _ => ?_)
  by_cases h1 : tgtE m p = 0
  case neg =>
    rw [if_neg h1]
    (repeat (first | refine zz ?_ | refine zv fun _ => ?_))
    rw [show (tgtE m p != 0) = true by simpa using h1]
    (repeat (first | refine zz ?_ | refine zv fun _ => ?_))
    refine au_done2 rfl ?_
    exact fun w hw => zero_res hw (by unfold unmapM; rw [if_pos h1]) (by repeat (first | exact List.Sublist.refl _ | assumption | apply List.Sublist.cons_cons | apply List.Sublist.cons))
  rw [if_pos h1]
  obtain ⟨hV, hp, hpg⟩ := tgt_zero h1
  have hr := hV.r
  have e1 : unmapM m p = ({ m with tb := m.tb.set p.toNat ⟨0⟩, pd := (ntfM m p m.tl.length).1, lm := if (ntfM m p m.tl.length).2 = 0 then m.lm else m.lm ++ [⟨(tgtX m p).n, (ntfM m p m.tl.length).2⟩] }, 0) := by unfold unmapM; rw [if_neg fun x => x h1]
  obtain ⟨x, hx⟩ : ∃ x, x = tgtX m p := ⟨_, rfl⟩
  rw [← hx] at e1 ⊢
  (repeat (first | refine zz ?_ | refine zv fun _ => ?_))
  rw [show (tgtE m p != 0) = false by simpa using h1]
  rename_i g6
  have hC2 := hC1.cons (c := enE g6 x)
  (repeat (first | refine zz ?_ | refine zv fun _ => ?_))
  refine au_callC rfl rfl rfl rfl rfl (own_c w0 _ hC2 hr.2.2.1 (by omega) (by have := hV.lml; omega) (fun i => by have := hV.tel i; omega) hpe) ?_
  rintro ⟨q, hq⟩
  refine tri_weak (H' := Hp w0 (enE g6 x :: hdC g4 hdN :: hdC g2 h :: (SC q m ++ cs))) (fun w h => sc_mid3 (X := _ :: _ :: _ :: cs) h (List.Sublist.refl _)) ?_
  (repeat (first | refine au_pure ?_ | refine au_pass ?_ | refine au_box (fun _ => ?_) | refine au_alloc (fun _ => ?_) | refine au_store ?_ | refine au_make rfl rfl (fun _ => ?_) | refine au_lit rfl rfl rfl (fun _ => ?_) | refine au_append rfl rfl rfl rfl (fun _ => au_norm ?_) | refine au_storeE rfl rfl rfl rfl ?_)); refine tri_nil ?_; (repeat refine tri_then ?_)
  obtain ⟨NX, hNX⟩ : ∃ X, X = (SNb q m ++ SNp q m) ++ cs := ⟨_, rfl⟩
  have hRt : RdH (Hp w0 (hdC g2 (hd q) :: u64S q.t m.tb :: NX)) q.t.v m.tb := rd_chunk ⟨1, rfl⟩
  refine tri_weak (H' := Hp w0 (enE g6 x :: hdC g4 hdN :: hdC g2 (hd q) :: tlS q.b (tlx q.bs m.tl) :: pdS q.p (q.ps.map Row.sv) :: u64S q.t m.tb :: lbS q.l m.lm :: inS q.w m.wd :: NX)) (fun w h => by rw [hNX]; exact h) ?_
  (repeat (first | refine tri_seq ?_ | refine tri_then ?_))
  refine ar_held [6] (hdC g2 (hd q) :: u64S q.t m.tb :: NX) rfl ?_
  refine ar_free 0 rfl rfl rfl ?_; refine ar_free 2 rfl rfl rfl ?_
  refine ar_take 1 rfl rfl rfl ?_; refine ar_take 3 rfl rfl rfl ?_
  refine ar_op 4 rfl ?_
  refine au_callC rfl rfl rfl rfl rfl (word_c w0 _ 0 0 false false false false) (fun _ => ?_)
  refine tri_nil ?_; refine ar_in ?_
  refine ar_take 5 rfl rfl rfl ?_ (hy := yl_idx (k := p.toNat) rfl rfl hRt (ix_int rfl (by omega)) (by rfl) (by omega))
  refine ar_op 6 rfl ?_
  refine au_storeE (r := q.t) (a := (⟨(encS 0 0 false false false false).1⟩ : W64)) rfl rfl rfl rfl ?_
  refine tri_nil ?_; refine ar_ink ?_
  refine ar_done ?_
  rw [show (encS 0 0 false false false false).1 = 0 from by decide]
  refine tri_weak (H' := Hp w0 (enE g6 x :: hdC g4 hdN :: hdC g2 (hd q) :: (SC q { m with tb := m.tb.set p.toNat ⟨0⟩ } ++ cs))) (fun w h => by rw [hNX] at h; exact h) ?_
  (repeat (first | refine zz ?_ | refine zv fun _ => ?_))
  refine tri_weak (H' := Hp w0 (SC q { m with tb := m.tb.set p.toNat ⟨0⟩ } ++ (enE g6 x :: hdC g4 hdN :: hdC g2 (hd q) :: cs))) (fun w h => sc_front3 h) ?_
  have hq1 : SOk q { m with tb := m.tb.set p.toNat ⟨0⟩ } := ⟨hq.hb, hq.hp⟩
  refine au_callC rfl rfl rfl rfl rfl (notify_c w0 _ p hq1 (hL.setTb p.toNat ⟨by decide, by decide⟩) hr.2.2.1 hr.2.1 hpe) ?_
  rintro ⟨ps, hps⟩
  rw [ntf_tb]
  have hnl := ntf_len (m := m) (p := p) m.tl.length
  obtain ⟨PD, hPD⟩ : ∃ P, P = (ntfM m p m.tl.length).1 := ⟨_, rfl⟩
  obtain ⟨mk, hmk⟩ : ∃ k, k = (ntfM m p m.tl.length).2 := ⟨_, rfl⟩
  rw [← hPD] at e1 hnl ⊢
  rw [← hmk] at e1 ⊢
  have hq2 : ∀ (T : List W64) (L : List LB) (r2 : Row), SOk { q with ps := ps, l := r2 } { m with tb := T, pd := PD, lm := L } := fun _ _ _ => ⟨hq.hb, by show ps.length = PD.length; rw [hps, hnl]⟩
  refine tri_weak (H' := Hp w0 (enE g6 x :: hdC g4 hdN :: hdC g2 (hd q) :: (SC { q with ps := ps } { m with tb := m.tb.set p.toNat ⟨0⟩, pd := PD } ++ cs))) (fun w h => sc_mid3 (X := _ :: _ :: _ :: cs) h (List.Sublist.refl _)) ?_
  (repeat (first | refine zz ?_ | refine zv fun _ => ?_))
  have hml := hV.lml
  cases h3 : (mk != 0)
  · have h3 : mk = 0 := by simpa using h3
    rw [if_pos h3] at e1
    (repeat (first | refine zz ?_ | refine zv fun _ => ?_))
    refine au_done2 rfl ?_
    exact fun w hw => good_res (q := { q with ps := ps }) e1 (hq2 _ _ q.l) hw (by repeat (first | exact List.Sublist.refl _ | assumption | apply List.Sublist.cons_cons | apply List.Sublist.cons))
  · have h3 := bne_iff_ne.1 h3
    rw [if_neg h3] at e1
    (repeat (first | refine zz ?_ | refine zv fun _ => ?_))
    refine au_lit (l := ([⟨x.n, mk⟩] : List LB)) rfl rfl rfl (fun r1 => ?_)
    refine au_append (r := q.l) (l2 := ([⟨x.n, mk⟩] : List LB)) rfl rfl rfl rfl (fun r2 => au_norm ?_) (h2 := rd_chunk ⟨0, rfl⟩) (hb := by show m.lm.length + 1 ≤ _; omega)
    (repeat (first | refine zz ?_ | refine zv fun _ => ?_))
    refine au_done2 rfl ?_
    exact fun w hw => good_res (q := { q with ps := ps, l := r2 }) e1 (hq2 _ _ r2) hw (by repeat (first | exact List.Sublist.refl _ | assumption | apply List.Sublist.cons_cons | apply List.Sublist.cons))
set_option maxHeartbeats 2000000 in
theorem protect_c {h : SH} {xb : List TB} {xp : List SV} {m : SM} (p : Int) (hC : RdS (Hp w0 cs) h xb xp m) (hL : SLe m) (hpe : ∀ i, (m.pd.getD i default).length ≤ 1000000) :
    Cal Try.prog 23 [hdV h, .int .i64 p] (Hp w0 cs) (fun q : {q : SR // SOk q (protM m p).1} => .tuple #[hdV (hd q.1), .int .i64 (protM m p).2]) (fun q => Hp w0 (SC q.1 (protM m p).1 ++ cs)) := by
  refine cal_of_tri Try.func23 rfl Try.ntmps23 rfl ?_
  (repeat (first | refine tri_seq ?_ | refine tri_then ?_)); refine tri_region ?_; (repeat (first | refine au_pure ?_ | refine au_pass ?_ | refine au_box (fun _ => ?_) | refine au_alloc (fun _ => ?_) | refine au_store ?_ | refine au_make rfl rfl (fun _ => ?_) | refine au_lit rfl rfl rfl (fun _ => ?_) | refine au_append rfl rfl rfl rfl (fun _ => au_norm ?_) | refine au_storeE rfl rfl rfl rfl ?_)); refine tri_nil ?_; (repeat refine tri_then ?_)
  rename_i g2 g4
  have hC1 := hC.cons (c := hdC g2 h) |>.cons (c := hdC g4 hdN)
  refine tri_weak (H' := Hp w0 (hdC g4 hdN :: hdC g2 h :: cs)) (fun w h => h) ?_
  (repeat (first | refine zz ?_ | refine zv fun _ => ?_))
  refine au_callC rfl rfl rfl rfl rfl (target_c w0 _ p hC1 hL) (fun _ => ?_)
  by_cases h1 : tgtE m p = 0
  case neg =>
    rw [if_neg h1]
    (repeat (first | refine zz ?_ | refine zv fun _ => ?_))
    rw [show (tgtE m p != 0) = true by simpa using h1]
    (repeat (first | refine zz ?_ | refine zv fun _ => ?_))
    refine au_done2 rfl ?_
    exact fun w hw => zero_res hw (by unfold protM; rw [if_pos h1]) (by repeat (first | exact List.Sublist.refl _ | assumption | apply List.Sublist.cons_cons | apply List.Sublist.cons))
  rw [if_pos h1]
  obtain ⟨hV, hp, hpg⟩ := tgt_zero h1
  have hr := hV.r
  have e1 : protM m p = if (tgtX m p).a = true then
    ({ m with tb := m.tb.set p.toNat ⟨wordM ⟨(tgtX m p).k, (tgtX m p).n, false, (tgtX m p).b, (tgtX m p).c, (tgtX m p).d⟩⟩, pd := (ntfM m p m.tl.length).1 }, 0) else (m, 0) := by unfold protM; rw [if_neg fun x => x h1]
  obtain ⟨x, hx⟩ : ∃ x, x = tgtX m p := ⟨_, rfl⟩
  rw [← hx] at e1 ⊢
  obtain ⟨xk, xn, xa, xb', xc, xd⟩ := x
  simp only at e1
  (repeat (first | refine zz ?_ | refine zv fun _ => ?_))
  rw [show (tgtE m p != 0) = false by simpa using h1]
  rename_i g6
  have hC2 := hC1.cons (c := enC g6 xk xn xa xb' xc xd)
  (repeat (first | refine zz ?_ | refine zv fun _ => ?_))
  refine au_callC rfl rfl rfl rfl rfl (own_c w0 _ hC2 hr.2.2.1 (by omega) (by have := hV.lml; omega) (fun i => by have := hV.tel i; omega) hpe) ?_
  rintro ⟨q, hq⟩
  refine tri_weak (H' := Hp w0 (enC g6 xk xn xa xb' xc xd :: hdC g4 hdN :: hdC g2 h :: (SC q m ++ cs))) (fun w h => sc_mid3 (X := _ :: _ :: _ :: cs) h (List.Sublist.refl _)) ?_
  cases xa with
  | false =>
    rw [if_neg (by simp)] at e1
    (repeat (first | refine zz ?_ | refine zv fun _ => ?_))
    refine au_done2 rfl ?_
    exact fun w hw => good_res e1 hq hw (by repeat (first | exact List.Sublist.refl _ | assumption | apply List.Sublist.cons_cons | apply List.Sublist.cons))
  | true =>
    rw [if_pos rfl] at e1
    obtain ⟨NX, hNX⟩ : ∃ X, X = (SNb q m ++ SNp q m) ++ cs := ⟨_, rfl⟩
    have hRt : RdH (Hp w0 (enC g6 xk xn false xb' xc xd :: hdC g2 (hd q) :: u64S q.t m.tb :: NX)) q.t.v m.tb := rd_chunk ⟨2, rfl⟩
    refine tri_weak (H' := Hp w0 (enC g6 xk xn true xb' xc xd :: hdC g4 hdN :: hdC g2 h :: tlS q.b (tlx q.bs m.tl) :: pdS q.p (q.ps.map Row.sv) :: u64S q.t m.tb :: lbS q.l m.lm :: inS q.w m.wd :: NX)) (fun w h => by rw [hNX]; exact h) ?_
    (repeat (first | refine zz ?_ | refine zv fun _ => ?_))
    (repeat (first | refine tri_seq ?_ | refine tri_then ?_))
    refine ar_held [6] (enC g6 xk xn false xb' xc xd :: hdC g2 (hd q) :: u64S q.t m.tb :: NX) rfl ?_
    refine ar_free 0 rfl rfl rfl ?_; refine ar_free 2 rfl rfl rfl ?_
    refine ar_take 1 rfl rfl rfl ?_; refine ar_take 3 rfl rfl rfl ?_
    refine ar_op 4 rfl ?_
    refine au_callC rfl rfl rfl rfl rfl (word_c w0 _ xk xn false xb' xc xd) (fun _ => ?_)
    refine tri_nil ?_; refine ar_in ?_
    refine ar_take 5 rfl rfl rfl ?_ (hy := yl_idx (k := p.toNat) rfl rfl hRt (ix_int rfl (by omega)) (by rfl) (by omega))
    refine ar_op 6 rfl ?_
    refine au_storeE (r := q.t) (a := (⟨(encS xk xn false xb' xc xd).1⟩ : W64)) rfl rfl rfl rfl ?_
    refine tri_nil ?_; refine ar_ink ?_
    refine ar_done ?_
    have hbd := enc_bd xk xn false xb' xc xd
    obtain ⟨v, hv⟩ : ∃ v, v = (encS xk xn false xb' xc xd).1 := ⟨_, rfl⟩
    rw [← hv] at hbd ⊢
    rw [show wordM ⟨xk, xn, false, xb', xc, xd⟩ = v from hv.symm] at e1
    refine tri_weak (H' := Hp w0 (enC g6 xk xn false xb' xc xd :: hdC g4 hdN :: hdC g2 (hd q) :: (SC q { m with tb := m.tb.set p.toNat ⟨v⟩ } ++ cs))) (fun w h => by rw [hNX] at h; exact h) ?_
    (repeat (first | refine zz ?_ | refine zv fun _ => ?_))
    refine tri_weak (H' := Hp w0 (SC q { m with tb := m.tb.set p.toNat ⟨v⟩ } ++ (enC g6 xk xn false xb' xc xd :: hdC g4 hdN :: hdC g2 (hd q) :: cs))) (fun w h => sc_front3 h) ?_
    have hq1 : SOk q { m with tb := m.tb.set p.toNat ⟨v⟩ } := ⟨hq.hb, hq.hp⟩
    refine au_callC rfl rfl rfl rfl rfl (notify_c w0 _ p hq1 (hL.setTb p.toNat hbd) hr.2.2.1 hr.2.1 hpe) ?_
    rintro ⟨ps, hps⟩
    rw [ntf_tb]
    have hnl := ntf_len (m := m) (p := p) m.tl.length
    obtain ⟨PD, hPD⟩ : ∃ P, P = (ntfM m p m.tl.length).1 := ⟨_, rfl⟩
    rw [← hPD] at e1 hnl ⊢
    refine tri_weak (H' := Hp w0 (enC g6 xk xn false xb' xc xd :: hdC g4 hdN :: hdC g2 (hd q) :: (SC { q with ps := ps } { m with tb := m.tb.set p.toNat ⟨v⟩, pd := PD } ++ cs))) (fun w h => sc_mid3 (X := _ :: _ :: _ :: cs) h (List.Sublist.refl _)) ?_
    (repeat (first | refine zz ?_ | refine zv fun _ => ?_))
    refine au_done2 rfl ?_
    exact fun w hw => good_res (q := { q with ps := ps }) e1 ⟨hq.hb, by show ps.length = PD.length; rw [hps, hnl]⟩ hw (by repeat (first | exact List.Sublist.refl _ | assumption | apply List.Sublist.cons_cons | apply List.Sublist.cons))
end
end Go.Proofs.Ytojfaelafakemaa

/- A region that draws its order, when two of its operations may come up. No conditions. -/
set_option linter.unusedSimpArgs false
set_option linter.unusedVariables false
namespace Go.Proofs.Ytojfaelafakemaa
open Go Go.RowKit
section
variable {M : List Nat} {P : Program} {n d : Nat} {Q : Exit → Act → World → Prop} {F : Act → World → Prop} {l : List Oper} {E : Env} {w0 : World} {cs cs0 : List Chunk} {fuel : Nat} {listed : Array Bool} {S : World → Prop}
theorem wpop_of {i : Nat} {o : Oper} (hi : l[i]? = some o) {a : Act} {w : World} (h : wpList P l.toArray (Exit.then (fun a w => S w ∧ wpAnyH P .any l.toArray (Exit.then F NoQ) S fuel (listed.setIfInBounds i true) a w) NoQ) [o] a w) :
    wpOp P l.toArray (Exit.then F NoQ) i (fun a' w' => S w' ∧ wpAnyH P .any l.toArray (Exit.then F NoQ) S fuel (listed.setIfInBounds i true) a' w') a w := by
  have hi' : l.toArray[i]? = some o := by simpa using hi
  unfold wpList at h
  unfold wpOp
  rw [hi']
  simp only
  by_cases hw : Region.wanted o (yielded l.toArray a.tmps) = true
  · rw [if_pos hw] at h ⊢
    rcases h with h | ⟨_, a', w', h⟩
    · left
      have e : wpList P l.toArray (Exit.then (fun a w => S w ∧ wpAnyH P .any l.toArray (Exit.then F NoQ) S fuel (listed.setIfInBounds i true) a w) NoQ) [] = fun a w => S w ∧ wpAnyH P .any l.toArray (Exit.then F NoQ) S fuel (listed.setIfInBounds i true) a w := by
        funext a w; rfl
      rw [e] at h
      unfold Oper.wp at h ⊢
      unfold Oper.upon at h ⊢
      split at h <;> exact h
    · exact h.elim
  · rw [if_neg hw] at h ⊢
    exact h
theorem ap_op2 [Dl] (i j : Nat) {oi oj : Oper} (hi : l[i]? = some oi) (hj : l[j]? = some oj)
    (ki : Tri n (wpList P l.toArray (Exit.then (fun a w => HpM M w0 cs0 w ∧ wpAnyH P .any l.toArray (Exit.then F NoQ) (HpM M w0 cs0) fuel (listed.setIfInBounds i true) a w) NoQ) [oi]) E (HpM M w0 cs))
    (kj : Tri n (wpList P l.toArray (Exit.then (fun a w => HpM M w0 cs0 w ∧ wpAnyH P .any l.toArray (Exit.then F NoQ) (HpM M w0 cs0) fuel (listed.setIfInBounds j true) a w) NoQ) [oj]) E (HpM M w0 cs))
    (hr : Region.ready .any l.toArray listed = [i, j] := by kernel_rfl) : TH P n l (HpM M w0 cs0) (fuel + 1) listed F E (HpM M w0 cs) := fun a w h1 h2 => by
  refine wpAnyH_all hr (by simp) fun k hk => ?_
  have : k = i ∨ k = j := by simpa using hk
  rcases this with rfl | rfl
  · exact wpop_of hi (ki a w h1 h2)
  · exact wpop_of hj (kj a w h1 h2)
end
end Go.Proofs.Ytojfaelafakemaa

/- The walks of the reference's Fill, Invalidate and Flush, of Same. No conditions. -/
set_option linter.unusedSimpArgs false
set_option linter.unusedVariables false
namespace Go.Proofs.Ytojfaelafakemaa
open Go Go.RowKit
attribute [local irreducible] Code.wp wpList bodyPost Exit.then Exit.inBlock Calls wpQuiet Tri TriQ
section
variable (w0 : World) (cs : List Chunk)
end
end Go.Proofs.Ytojfaelafakemaa

/- The walks of the reference's Invalidate and Flush. No conditions. -/
set_option linter.unusedSimpArgs false
set_option linter.unusedVariables false
namespace Go.Proofs.Ytojfaelafakemaa
open Go Go.RowKit
attribute [local irreducible] Code.wp wpList bodyPost Exit.then Exit.inBlock Calls wpQuiet Tri TriQ
section
variable (w0 : World) (cs : List Chunk)
end
end Go.Proofs.Ytojfaelafakemaa
