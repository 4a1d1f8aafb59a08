/- The walk of the plain model of the spaces: what turns it. No conditions. -/
import Derived.Test.YtinnkclemjognaaCowWd
import Derived.Test.YtinnkclemjognaaSeqR
set_option linter.unusedSimpArgs false
set_option linter.unusedVariables false
namespace Go.Proofs.Ytinnkclemjognaa
open Go Go.RowKit
/-- The rows of the model. -/
structure WQ where
  rl : Row
  rw : Row
  ri : Row
  a : List Row
  b : List Row
abbrev WC (g : Nat) (q : WQ) (W : WM) : List Chunk := [wB g q.rl.v q.rw.v q.ri.v W.nx, boS q.rl W.lv, outS q.rw (q.a.map Row.sv), outS q.ri (q.b.map Row.sv)]
abbrev WN (q : WQ) (W : WM) : List Chunk := nest q.a W.ws ++ nest q.b W.ids
structure WOk (q : WQ) (W : WM) : Prop where
  ha : q.a.length = W.ws.length
  hb : q.b.length = W.ids.length
  l2 : W.ws.length = W.lv.length
  l3 : W.ids.length = W.lv.length
theorem rdN_mem {w0 : World} {cs : List Chunk} {r : Row} {rs : List Row} {L : List (List Int)} (hl : rs.length = L.length) (ho : Has cs (outS r (rs.map Row.sv))) (hi : ∀ i, i < L.length → Has cs (intS (rs.getD i (Row.nil 0)) (L.getD i default))) : RdN (Hp w0 cs) r.v (rs.map Row.sv) L := ⟨rd_chunk ho, by rw [List.length_map, hl], fun i => by
  rcases Nat.lt_or_ge i L.length with h | h
  · rw [map_getD_sv rs (by omega)]
    exact rd_chunk (hi i h)
  · rw [getD_none (by rw [List.length_map]; omega), getD_none h]
    exact rd_nil⟩
theorem has_mem {cs : List Chunk} {c : Chunk} (h : c ∈ cs) : Has cs c := by
  obtain ⟨i, hi, he⟩ := List.getElem_of_mem h
  exact ⟨i, by rw [← he]; exact List.getElem?_eq_getElem hi⟩
theorem nest_mem {rs : List Row} {L : List (List Int)} (hl : rs.length = L.length) {i : Nat} (hi : i < L.length) : intS (rs.getD i (Row.nil 0)) (L.getD i default) ∈ nest rs L := List.mem_of_getElem? (nest_get hl hi)
theorem rdW_own {w0 : World} {cs : List Chunk} {q : WQ} {W : WM} (h : WOk q W) : RdW (Hp w0 (boS q.rl W.lv :: outS q.rw (q.a.map Row.sv) :: outS q.ri (q.b.map Row.sv) :: (WN q W ++ cs))) q.rl.v q.rw.v q.ri.v (q.a.map Row.sv) (q.b.map Row.sv) W where
  lv := rd_chunk (e := 4) ⟨0, rfl⟩
  ws := rdN_mem h.ha ⟨1, rfl⟩ fun i hi => has_mem (List.mem_cons_of_mem _ (List.mem_cons_of_mem _ (List.mem_cons_of_mem _ (List.mem_append_left _ (List.mem_append_left _ (nest_mem h.ha hi))))))
  ids := rdN_mem h.hb ⟨2, rfl⟩ fun i hi => has_mem (List.mem_cons_of_mem _ (List.mem_cons_of_mem _ (List.mem_cons_of_mem _ (List.mem_append_left _ (List.mem_append_right _ (nest_mem h.hb hi))))))
  l2 := h.l2
  l3 := h.l3
theorem RdW.imp {w0 : World} {cs cs' : List Chunk} {vl vw vi : Value} {xs ys : List SV} {W : WM} (h : RdW (Hp w0 cs) vl vw vi xs ys W) (hs : ∀ w, Hp w0 cs' w → Hp w0 cs w) : RdW (Hp w0 cs') vl vw vi xs ys W :=
  ⟨fun w hw => h.lv w (hs w hw), ⟨fun w hw => h.ws.out w (hs w hw), h.ws.len, fun i w hw => h.ws.inn i w (hs w hw)⟩, ⟨fun w hw => h.ids.out w (hs w hw), h.ids.len, fun i w hw => h.ids.inn i w (hs w hw)⟩, h.l2, h.l3⟩
/-- A row of a nest in front. -/
theorem nest_focus {rs : List Row} {L : List (List Int)} (hl : rs.length = L.length) {i : Nat} (hi : i < L.length) (A B : List Chunk) : (A ++ (nest rs L ++ B)).Perm (intS (rs.getD i (Row.nil 0)) (L.getD i default) :: (A ++ ((nest rs L).eraseIdx i ++ B))) := by
  have h1 := nest_get hl hi
  have h2 : i < (nest rs L).length := by rw [nest_len hl]; exact hi
  rw [List.getElem?_eq_getElem h2] at h1
  have h3 := perm_erase (nest rs L) i h2
  rw [Option.some.inj h1] at h3
  exact (List.Perm.append_left A (List.Perm.append_right B h3)).trans List.perm_middle
theorem nest_unfocus {rs : List Row} {L : List (List Int)} (hl : rs.length = L.length) {i : Nat} (hi : i < L.length) (l' : List Int) (A B : List Chunk) : (intS (rs.getD i (Row.nil 0)) l' :: (A ++ ((nest rs L).eraseIdx i ++ B))).Perm (A ++ (nest rs (L.set i l') ++ B)) := by
  have h0 : (nest rs (L.set i l')).eraseIdx i = (nest rs L).eraseIdx i := by
    have := nest_set rs L i (rs.getD i (Row.nil 0)) l'
    rw [rs_self (by omega)] at this
    rw [← this, eraseIdx_set]
  have h1 := nest_focus (rs := rs) (L := L.set i l') (i := i) (by simp [hl]) (by simpa using hi) A B
  rw [h0] at h1
  have e2 : (L.set i l').getD i default = l' := by rw [List.getD_eq_getElem?_getD, List.getElem?_set_self hi]; rfl
  rw [e2] at h1
  exact h1.symm
def eN (rs : List Row) (L : List (List Int)) (i : Nat) : List Chunk := (nest rs L).eraseIdx i
theorem focus2 {ra rb : List Row} {ws ids : List (List Int)} (ha : ra.length = ws.length) (hb : rb.length = ids.length) {i : Nat} (hi : i < ws.length) (hj : i < ids.length) (A cs : List Chunk) :
    (A ++ ((nest ra ws ++ nest rb ids) ++ cs)).Perm (intS (rb.getD i (Row.nil 0)) (ids.getD i default) :: intS (ra.getD i (Row.nil 0)) (ws.getD i default) :: (A ++ (eN ra ws i ++ (eN rb ids i ++ cs)))) := by
  rw [List.append_assoc]
  have h1 := nest_focus ha hi A (nest rb ids ++ cs)
  have h2 := nest_focus hb hj (intS (ra.getD i (Row.nil 0)) (ws.getD i default) :: (A ++ eN ra ws i)) cs
  refine h1.trans ?_
  have e1 : (intS (ra.getD i (Row.nil 0)) (ws.getD i default) :: (A ++ ((nest ra ws).eraseIdx i ++ (nest rb ids ++ cs)))) = (intS (ra.getD i (Row.nil 0)) (ws.getD i default) :: (A ++ eN ra ws i)) ++ (nest rb ids ++ cs) := by unfold eN; simp
  rw [e1]
  refine h2.trans (List.Perm.of_eq ?_)
  unfold eN
  simp
theorem unfocus2 {ra rb : List Row} {ws ids : List (List Int)} (ha : ra.length = ws.length) (hb : rb.length = ids.length) {i : Nat} (hi : i < ws.length) (hj : i < ids.length) (l1 l2 : List Int) (A cs : List Chunk) :
    (intS (rb.getD i (Row.nil 0)) l2 :: intS (ra.getD i (Row.nil 0)) l1 :: (A ++ (eN ra ws i ++ (eN rb ids i ++ cs)))).Perm (A ++ ((nest ra (ws.set i l1) ++ nest rb (ids.set i l2)) ++ cs)) := by
  have h := focus2 (ra := ra) (rb := rb) (ws := ws.set i l1) (ids := ids.set i l2) (i := i) (by simp [ha]) (by simp [hb]) (by simpa using hi) (by simpa using hj) A cs
  have e1 : (ws.set i l1).getD i default = l1 := by rw [List.getD_eq_getElem?_getD, List.getElem?_set_self hi]; rfl
  have e2 : (ids.set i l2).getD i default = l2 := by rw [List.getD_eq_getElem?_getD, List.getElem?_set_self hj]; rfl
  have e3 : eN ra (ws.set i l1) i = eN ra ws i := by
    unfold eN
    have := nest_set ra ws i (ra.getD i (Row.nil 0)) l1
    rw [rs_self (by omega)] at this
    rw [← this, eraseIdx_set]
  have e4 : eN rb (ids.set i l2) i = eN rb ids i := by
    unfold eN
    have := nest_set rb ids i (rb.getD i (Row.nil 0)) l2
    rw [rs_self (by omega)] at this
    rw [← this, eraseIdx_set]
  rw [e1, e2, e3, e4] at h
  exact h.symm
theorem fork_perm {A B : Chunk} {Na Nb cs : List Chunk} (K : List Chunk) : (A :: B :: (K ++ ((Na ++ Nb) ++ cs))).Perm (K ++ (((Na ++ [B]) ++ (Nb ++ [A])) ++ cs)) := by
  have h1 : (B :: (K ++ ((Na ++ Nb) ++ cs))).Perm (K ++ (Na ++ (B :: (Nb ++ cs)))) := by
    rw [List.append_assoc, ← List.append_assoc K, ← List.append_assoc K]
    exact List.perm_middle.symm
  refine (List.Perm.cons A h1).trans ?_
  have h2 : (A :: (K ++ (Na ++ (B :: (Nb ++ cs))))).Perm (K ++ (Na ++ (B :: (Nb ++ (A :: cs))))) := by
    have e1 : ∀ X : List Chunk, K ++ (Na ++ (B :: (Nb ++ X))) = (K ++ (Na ++ (B :: Nb))) ++ X := fun X => by simp
    rw [e1, e1]
    exact List.perm_middle.symm
  refine h2.trans (List.Perm.of_eq ?_)
  simp
abbrev opC (g : Nat) (o : OP) : Chunk := blkC g 40 [.int .i64 o.kd, .int .i64 o.s, .int .i64 o.p, .int .i64 o.w]
attribute [local irreducible] Code.wp wpList bodyPost Exit.then Exit.inBlock Calls wpQuiet Tri TriQ
section
variable (w0 : World) (cs : List Chunk) {W : WM}
set_option maxHeartbeats 2000000 in
theorem do_c (g : Nat) (q : WQ) (o : OP) (hk : WOk q W) (hl : W.lv.length ≤ 8) (hll : (liveI W).length ≤ 100000) (hr3 : ∀ i, (W.ids.getD i default).length ≤ 1000) (hr2 : ∀ i, (W.ws.getD i default).length ≤ 1000) (hnx : 1 ≤ W.nx ∧ W.nx ≤ 100000) (h03 : 0 ≤ o.kd ∧ o.kd ≤ 3)
    (hs : 0 ≤ o.s ∧ o.s.toNat < W.lv.length) (hp : (o.kd = 0 ∨ o.kd = 2) → 0 ≤ o.p ∧ o.p.toNat < (W.ids.getD o.s.toNat default).length ∧ o.p.toNat < (W.ws.getD o.s.toNat default).length) :
    Cal Try.prog 51 [.pointer (some ⟨g, 0, none⟩), opV o] (Hp w0 (WC g q W ++ (WN q W ++ cs))) (fun _ : {q' : WQ // WOk q' (doW W o).1} => .bool (doW W o).2) (fun q' => Hp w0 (WC g q'.1 (doW W o).1 ++ (WN q'.1 (doW W o).1 ++ cs))) := by
  have hW0 := rdW_own (w0 := w0) (cs := cs) hk
  obtain ⟨rl, rw', ri, ra, rb⟩ := q
  obtain ⟨ha, hb, l2, l3⟩ := hk
  simp only at ha hb hW0
  obtain ⟨kd, s, p, wd⟩ := o
  simp only at h03 hs hp ⊢
  obtain ⟨s, rfl⟩ : ∃ k : Nat, s = (k : Int) := ⟨s.toNat, by omega⟩
  rw [Int.toNat_natCast] at hs hp
  have hsl : s < W.lv.length := by omega
  have hri := hr3 s
  have hrw := hr2 s
  have hYv : ((rb.map Row.sv).getD s default).v = (rb.getD s (Row.nil 0)).v := by rw [map_getD_sv rb (by omega)]; rfl
  have hXv : ((ra.map Row.sv).getD s default).v = (ra.getD s (Row.nil 0)).v := by rw [map_getD_sv ra (by omega)]; rfl
  have hYl : (rb.map Row.sv).length = W.lv.length := by rw [List.length_map]; omega
  have hXl : (ra.map Row.sv).length = W.lv.length := by rw [List.length_map]; omega
  refine cal_of_tri Try.func51 rfl Try.ntmps51 rfl ?_
  (repeat (first | refine au_pure ?_ (hy := by first | exact yl_mv rfl rfl | exact yl_ext rfl rfl rfl | exact yl_addn rfl rfl rfl (by omega) | exact yl_subn rfl rfl rfl (by omega) | exact yl_int2 rfl rfl rfl rfl | exact yl_pick_t rfl rfl rfl | exact yl_pick_f rfl rfl rfl | exact yl_not rfl rfl | exact yl_field rfl rfl | exact yl_load rfl rfl (by first | (apply has_at; (repeat (first | exact at0 | apply atS)); done) | (repeat (first | assumption | apply has_cons))) rfl | exact yl_loadN rfl rfl (by first | (apply has_at; (repeat (first | exact at0 | apply atS)); done) | (repeat (first | assumption | apply has_cons))) (by repeat (first | exact nf0 rfl | apply nfS rfl | exact nfR)) (by rfl) | exact yl_nilchk rfl rfl) | refine au_pass ?_ | refine au_alloc (fun _ => ?_) | refine au_box (fun _ => ?_) | refine au_store ?_ | refine tri_seq ?_ | refine tri_then ?_ | refine tri_region ?_ | refine tri_nil ?_ | refine tri_skip ?_ | refine tri_ret ?_ | refine tri_exit ?_ | refine tri_thenr ?_ | refine tri_thene ?_ | refine tri_blkn ?_ | refine tri_blkr ?_ | refine tri_blke ?_ | refine tri_blko (by rfl) ?_ | refine tri_if_t (by rfl) ?_ | refine tri_if_f (by rfl) ?_ | fail))
  rename_i g3
  refine tri_weak (H' := Hp w0 (wB g rl.v rw'.v ri.v W.nx :: opC g3 ⟨kd, s, p, wd⟩ :: boS rl W.lv :: outS rw' (ra.map Row.sv) :: outS ri (rb.map Row.sv) :: ((nest ra W.ws ++ nest rb W.ids) ++ cs))) (fun w h => HpM.perm h (List.Perm.swap _ _ _)) ?_
  have hW1 := hW0.cons (c := opC g3 ⟨kd, s, p, wd⟩)
  have hW := hW1.cons (c := wB g rl.v rw'.v ri.v W.nx)
  refine tri_block ?_
  (repeat (first | refine au_pure ?_ (hy := by first | exact yl_mv rfl rfl | exact yl_ext rfl rfl rfl | exact yl_addn rfl rfl rfl (by omega) | exact yl_subn rfl rfl rfl (by omega) | exact yl_int2 rfl rfl rfl rfl | exact yl_pick_t rfl rfl rfl | exact yl_pick_f rfl rfl rfl | exact yl_not rfl rfl | exact yl_field rfl rfl | exact yl_load rfl rfl (by first | (apply has_at; (repeat (first | exact at0 | apply atS)); done) | (repeat (first | assumption | apply has_cons))) rfl | exact yl_loadN rfl rfl (by first | (apply has_at; (repeat (first | exact at0 | apply atS)); done) | (repeat (first | assumption | apply has_cons))) (by repeat (first | exact nf0 rfl | apply nfS rfl | exact nfR)) (by rfl) | exact yl_nilchk rfl rfl) | refine au_pass ?_ | refine au_alloc (fun _ => ?_) | refine au_box (fun _ => ?_) | refine au_store ?_ | refine tri_seq ?_ | refine tri_then ?_ | refine tri_region ?_ | refine tri_nil ?_ | refine tri_skip ?_ | refine tri_ret ?_ | refine tri_exit ?_ | refine tri_thenr ?_ | refine tri_thene ?_ | refine tri_blkn ?_ | refine tri_blkr ?_ | refine tri_blke ?_ | refine tri_blko (by rfl) ?_ | refine tri_if_t (by rfl) ?_ | refine tri_if_f (by rfl) ?_ | fail))
  cases hd0 : (kd == 0)
  · have h0 : ¬ kd = 0 := beq_eq_false_iff_ne.1 hd0
    (repeat (first | refine au_pure ?_ (hy := by first | exact yl_mv rfl rfl | exact yl_ext rfl rfl rfl | exact yl_addn rfl rfl rfl (by omega) | exact yl_subn rfl rfl rfl (by omega) | exact yl_int2 rfl rfl rfl rfl | exact yl_pick_t rfl rfl rfl | exact yl_pick_f rfl rfl rfl | exact yl_not rfl rfl | exact yl_field rfl rfl | exact yl_load rfl rfl (by first | (apply has_at; (repeat (first | exact at0 | apply atS)); done) | (repeat (first | assumption | apply has_cons))) rfl | exact yl_loadN rfl rfl (by first | (apply has_at; (repeat (first | exact at0 | apply atS)); done) | (repeat (first | assumption | apply has_cons))) (by repeat (first | exact nf0 rfl | apply nfS rfl | exact nfR)) (by rfl) | exact yl_nilchk rfl rfl) | refine au_pass ?_ | refine au_alloc (fun _ => ?_) | refine au_box (fun _ => ?_) | refine au_store ?_ | refine tri_seq ?_ | refine tri_then ?_ | refine tri_region ?_ | refine tri_nil ?_ | refine tri_skip ?_ | refine tri_ret ?_ | refine tri_exit ?_ | refine tri_thenr ?_ | refine tri_thene ?_ | refine tri_blkn ?_ | refine tri_blkr ?_ | refine tri_blke ?_ | refine tri_blko (by rfl) ?_ | refine tri_if_t (by rfl) ?_ | refine tri_if_f (by rfl) ?_ | fail))
    cases hd1 : (kd == 1)
    · have h1 : ¬ kd = 1 := beq_eq_false_iff_ne.1 hd1
      (repeat (first | refine au_pure ?_ (hy := by first | exact yl_mv rfl rfl | exact yl_ext rfl rfl rfl | exact yl_addn rfl rfl rfl (by omega) | exact yl_subn rfl rfl rfl (by omega) | exact yl_int2 rfl rfl rfl rfl | exact yl_pick_t rfl rfl rfl | exact yl_pick_f rfl rfl rfl | exact yl_not rfl rfl | exact yl_field rfl rfl | exact yl_load rfl rfl (by first | (apply has_at; (repeat (first | exact at0 | apply atS)); done) | (repeat (first | assumption | apply has_cons))) rfl | exact yl_loadN rfl rfl (by first | (apply has_at; (repeat (first | exact at0 | apply atS)); done) | (repeat (first | assumption | apply has_cons))) (by repeat (first | exact nf0 rfl | apply nfS rfl | exact nfR)) (by rfl) | exact yl_nilchk rfl rfl) | refine au_pass ?_ | refine au_alloc (fun _ => ?_) | refine au_box (fun _ => ?_) | refine au_store ?_ | refine tri_seq ?_ | refine tri_then ?_ | refine tri_region ?_ | refine tri_nil ?_ | refine tri_skip ?_ | refine tri_ret ?_ | refine tri_exit ?_ | refine tri_thenr ?_ | refine tri_thene ?_ | refine tri_blkn ?_ | refine tri_blkr ?_ | refine tri_blke ?_ | refine tri_blko (by rfl) ?_ | refine tri_if_t (by rfl) ?_ | refine tri_if_f (by rfl) ?_ | fail))
      cases hd2 : (kd == 2)
      · have h2 : ¬ kd = 2 := beq_eq_false_iff_ne.1 hd2
        have h3 : kd = 3 := by omega
        subst h3
        have hdo : doW W ⟨3, s, p, wd⟩ = (exW W s, false) := rfl
        rw [hdo]
        (repeat (first | refine au_pure ?_ (hy := by first | exact yl_mv rfl rfl | exact yl_ext rfl rfl rfl | exact yl_addn rfl rfl rfl (by omega) | exact yl_subn rfl rfl rfl (by omega) | exact yl_int2 rfl rfl rfl rfl | exact yl_pick_t rfl rfl rfl | exact yl_pick_f rfl rfl rfl | exact yl_not rfl rfl | exact yl_field rfl rfl | exact yl_load rfl rfl (by first | (apply has_at; (repeat (first | exact at0 | apply atS)); done) | (repeat (first | assumption | apply has_cons))) rfl | exact yl_loadN rfl rfl (by first | (apply has_at; (repeat (first | exact at0 | apply atS)); done) | (repeat (first | assumption | apply has_cons))) (by repeat (first | exact nf0 rfl | apply nfS rfl | exact nfR)) (by rfl) | exact yl_nilchk rfl rfl) | refine au_pass ?_ | refine au_alloc (fun _ => ?_) | refine au_box (fun _ => ?_) | refine au_store ?_ | refine tri_seq ?_ | refine tri_then ?_ | refine tri_region ?_ | refine tri_nil ?_ | refine tri_skip ?_ | refine tri_ret ?_ | refine tri_exit ?_ | refine tri_thenr ?_ | refine tri_thene ?_ | refine tri_blkn ?_ | refine tri_blkr ?_ | refine tri_blke ?_ | refine tri_blko (by rfl) ?_ | refine tri_if_t (by rfl) ?_ | refine tri_if_f (by rfl) ?_ | fail))
        refine tri_drawt 6 rfl (by kernel_rfl) ?_; repeat (first | refine tris_pure rfl rfl ?_ | refine tris_pass rfl rfl ?_ | refine tris_nil ?_)
        (repeat (first | refine au_pure ?_ | refine au_pass ?_ | refine au_box (fun _ => ?_) | refine au_alloc (fun _ => ?_) | refine au_store ?_ | refine au_make rfl rfl (fun _ => ?_) | refine au_lit rfl rfl rfl (fun _ => ?_) | refine au_append rfl rfl rfl rfl (fun _ => au_norm ?_) | refine au_storeE rfl rfl rfl rfl ?_ | refine tri_seq ?_ | refine tri_then ?_ | refine tri_region ?_ | refine tri_nil ?_ | refine tri_skip ?_ | refine tri_ret ?_ | refine tri_exit ?_ | refine tri_thenr ?_ | refine tri_thene ?_ | refine tri_blkn ?_ | refine tri_blkr ?_ | refine tri_blke ?_ | refine tri_blko (by rfl) ?_ | refine tri_if_t (by rfl) ?_ | refine tri_if_f (by rfl) ?_ | fail))
        refine au_done1 rfl ?_
        intro w hw
        refine ⟨⟨⟨rl, rw', ri, ra, rb⟩, ⟨ha, hb, by unfold exW; simpa using l2, by unfold exW; simpa using l3⟩⟩, rfl, ?_⟩
        exact hw.sub (by repeat (first | exact List.Sublist.refl _ | assumption | apply List.Sublist.cons_cons | apply List.Sublist.cons))
      · have h2 : kd = 2 := beq_iff_eq.1 hd2
        subst h2
        obtain ⟨hp1, hp2, hp3⟩ := hp (.inr rfl)
        obtain ⟨p, rfl⟩ : ∃ k : Nat, p = (k : Int) := ⟨p.toNat, by omega⟩
        rw [Int.toNat_natCast] at hp2 hp3
        have hdo : doW W ⟨2, s, p, wd⟩ = (umW W s p, false) := rfl
        rw [hdo]
        refine tri_weak (H' := Hp w0 (intS (rb.getD s (Row.nil 0)) (W.ids.getD s default) :: intS (ra.getD s (Row.nil 0)) (W.ws.getD s default) :: wB g rl.v rw'.v ri.v W.nx :: opC g3 ⟨2, s, p, wd⟩ :: boS rl W.lv :: outS rw' (ra.map Row.sv) :: outS ri (rb.map Row.sv) :: (eN ra W.ws s ++ (eN rb W.ids s ++ cs)))) (fun w h => HpM.perm h (focus2 ha hb (by omega) (by omega) [_, _, _, _, _] cs)) ?_
        obtain ⟨rB, hrB⟩ : ∃ rB, rB = rb.getD s (Row.nil 0) := ⟨_, rfl⟩
        obtain ⟨rA, hrA⟩ : ∃ rA, rA = ra.getD s (Row.nil 0) := ⟨_, rfl⟩
        obtain ⟨YS, hYS⟩ : ∃ YS, YS = rb.map Row.sv := ⟨_, rfl⟩
        obtain ⟨XS, hXS⟩ : ∃ XS, XS = ra.map Row.sv := ⟨_, rfl⟩
        obtain ⟨I, hI⟩ : ∃ I, I = W.ids.getD s default := ⟨_, rfl⟩
        obtain ⟨L, hL⟩ : ∃ L, L = W.ws.getD s default := ⟨_, rfl⟩
        rw [← hrB, ← hYS] at hYv
        rw [← hrA, ← hXS] at hXv
        rw [← hYS] at hYl
        rw [← hXS] at hXl
        rw [← hI] at hp2 hri
        rw [← hL] at hp3 hrw
        rw [← hrB, ← hrA, ← hI, ← hL, ← hYS, ← hXS]
        clear hW hW1 hW0
        (repeat (first | refine au_pure ?_ (hy := by first | exact yl_mv rfl rfl | exact yl_ext rfl rfl rfl | exact yl_addn rfl rfl rfl (by omega) | exact yl_subn rfl rfl rfl (by omega) | exact yl_int2 rfl rfl rfl rfl | exact yl_pick_t rfl rfl rfl | exact yl_pick_f rfl rfl rfl | exact yl_not rfl rfl | exact yl_field rfl rfl | exact yl_load rfl rfl (by first | (apply has_at; (repeat (first | exact at0 | apply atS)); done) | (repeat (first | assumption | apply has_cons))) rfl | exact yl_loadN rfl rfl (by first | (apply has_at; (repeat (first | exact at0 | apply atS)); done) | (repeat (first | assumption | apply has_cons))) (by repeat (first | exact nf0 rfl | apply nfS rfl | exact nfR)) (by rfl) | exact yl_nilchk rfl rfl) | refine au_pass ?_ | refine au_alloc (fun _ => ?_) | refine au_box (fun _ => ?_) | refine au_store ?_ | refine tri_seq ?_ | refine tri_then ?_ | refine tri_region ?_ | refine tri_nil ?_ | refine tri_skip ?_ | refine tri_ret ?_ | refine tri_exit ?_ | refine tri_thenr ?_ | refine tri_thene ?_ | refine tri_blkn ?_ | refine tri_blkr ?_ | refine tri_blke ?_ | refine tri_blko (by rfl) ?_ | refine tri_if_t (by rfl) ?_ | refine tri_if_f (by rfl) ?_ | fail))
        refine tri_drawt 10 rfl (by kernel_rfl) ?_; repeat (first | refine tris_pure rfl rfl ?_ | refine tris_pass rfl rfl ?_ | refine tris_nil ?_)
        rw [hXv]
        (repeat (first | refine tris_pure rfl rfl ?_ | refine tris_pass rfl rfl ?_ | refine tris_nil ?_))
        (repeat (first | refine au_pure ?_ | refine au_pass ?_ | refine au_box (fun _ => ?_) | refine au_alloc (fun _ => ?_) | refine au_store ?_ | refine au_make rfl rfl (fun _ => ?_) | refine au_lit rfl rfl rfl (fun _ => ?_) | refine au_append rfl rfl rfl rfl (fun _ => au_norm ?_) | refine au_storeE rfl rfl rfl rfl ?_ | refine tri_seq ?_ | refine tri_then ?_ | refine tri_region ?_ | refine tri_nil ?_ | refine tri_skip ?_ | refine tri_ret ?_ | refine tri_exit ?_ | refine tri_thenr ?_ | refine tri_thene ?_ | refine tri_blkn ?_ | refine tri_blkr ?_ | refine tri_blke ?_ | refine tri_blko (by rfl) ?_ | refine tri_if_t (by rfl) ?_ | refine tri_if_f (by rfl) ?_ | fail))
        refine tri_drawt 10 rfl (by kernel_rfl) ?_; repeat (first | refine tris_pure rfl rfl ?_ | refine tris_pass rfl rfl ?_ | refine tris_nil ?_)
        rw [hYv]
        (repeat (first | refine tris_pure rfl rfl ?_ | refine tris_pass rfl rfl ?_ | refine tris_nil ?_))
        (repeat (first | refine au_pure ?_ | refine au_pass ?_ | refine au_box (fun _ => ?_) | refine au_alloc (fun _ => ?_) | refine au_store ?_ | refine au_make rfl rfl (fun _ => ?_) | refine au_lit rfl rfl rfl (fun _ => ?_) | refine au_append rfl rfl rfl rfl (fun _ => au_norm ?_) | refine au_storeE rfl rfl rfl rfl ?_ | refine tri_seq ?_ | refine tri_then ?_ | refine tri_region ?_ | refine tri_nil ?_ | refine tri_skip ?_ | refine tri_ret ?_ | refine tri_exit ?_ | refine tri_thenr ?_ | refine tri_thene ?_ | refine tri_blkn ?_ | refine tri_blkr ?_ | refine tri_blke ?_ | refine tri_blko (by rfl) ?_ | refine tri_if_t (by rfl) ?_ | refine tri_if_f (by rfl) ?_ | fail))
        refine au_done1 rfl ?_
        intro w hw
        have hwr : umW W s p = ⟨W.lv, W.ws.set s (L.set p 0), W.ids.set s (I.set p 0), W.nx⟩ := by
          unfold umW setIn
          rw [← hI, ← hL]
        rw [hwr]
        refine ⟨⟨⟨rl, rw', ri, ra, rb⟩, ⟨by simpa using ha, by simpa using hb, by simpa using l2, by simpa using l3⟩⟩, rfl, ?_⟩
        rw [hrB, hrA, hYS, hXS] at hw
        have h2 := HpM.perm hw (unfocus2 ha hb (by omega) (by omega) (L.set p 0) (I.set p 0) [_, _, _, _, _] cs)
        exact h2.sub (by repeat (first | exact List.Sublist.refl _ | assumption | apply List.Sublist.cons_cons | apply List.Sublist.cons))
    · have h1 : kd = 1 := beq_iff_eq.1 hd1
      subst h1
      have hdo : doW W ⟨1, s, p, wd⟩ = (fkW W s, false) := rfl
      rw [hdo]
      (repeat (first | refine au_pure ?_ (hy := by first | exact yl_mv rfl rfl | exact yl_ext rfl rfl rfl | exact yl_addn rfl rfl rfl (by omega) | exact yl_subn rfl rfl rfl (by omega) | exact yl_int2 rfl rfl rfl rfl | exact yl_pick_t rfl rfl rfl | exact yl_pick_f rfl rfl rfl | exact yl_not rfl rfl | exact yl_field rfl rfl | exact yl_load rfl rfl (by first | (apply has_at; (repeat (first | exact at0 | apply atS)); done) | (repeat (first | assumption | apply has_cons))) rfl | exact yl_loadN rfl rfl (by first | (apply has_at; (repeat (first | exact at0 | apply atS)); done) | (repeat (first | assumption | apply has_cons))) (by repeat (first | exact nf0 rfl | apply nfS rfl | exact nfR)) (by rfl) | exact yl_nilchk rfl rfl) | refine au_pass ?_ | refine au_alloc (fun _ => ?_) | refine au_box (fun _ => ?_) | refine au_store ?_ | refine tri_seq ?_ | refine tri_then ?_ | refine tri_region ?_ | refine tri_nil ?_ | refine tri_skip ?_ | refine tri_ret ?_ | refine tri_exit ?_ | refine tri_thenr ?_ | refine tri_thene ?_ | refine tri_blkn ?_ | refine tri_blkr ?_ | refine tri_blke ?_ | refine tri_blko (by rfl) ?_ | refine tri_if_t (by rfl) ?_ | refine tri_if_f (by rfl) ?_ | fail))
      refine au_lit (l := ([true] : List Bool)) rfl rfl rfl (fun rt => ?_)
      refine au_append (l2 := ([true] : List Bool)) rfl rfl rfl rfl (fun rl2 => au_norm ?_) (h2 := rd_chunk ⟨0, rfl⟩) (hb := by rw [List.length_singleton]; omega)
      (repeat (first | refine au_pure ?_ (hy := by first | exact yl_mv rfl rfl | exact yl_ext rfl rfl rfl | exact yl_addn rfl rfl rfl (by omega) | exact yl_subn rfl rfl rfl (by omega) | exact yl_int2 rfl rfl rfl rfl | exact yl_pick_t rfl rfl rfl | exact yl_pick_f rfl rfl rfl | exact yl_not rfl rfl | exact yl_field rfl rfl | exact yl_load rfl rfl (by first | (apply has_at; (repeat (first | exact at0 | apply atS)); done) | (repeat (first | assumption | apply has_cons))) rfl | exact yl_loadN rfl rfl (by first | (apply has_at; (repeat (first | exact at0 | apply atS)); done) | (repeat (first | assumption | apply has_cons))) (by repeat (first | exact nf0 rfl | apply nfS rfl | exact nfR)) (by rfl) | exact yl_nilchk rfl rfl) | refine au_pass ?_ | refine au_alloc (fun _ => ?_) | refine au_box (fun _ => ?_) | refine au_store ?_ | refine tri_seq ?_ | refine tri_then ?_ | refine tri_region ?_ | refine tri_nil ?_ | refine tri_skip ?_ | refine tri_ret ?_ | refine tri_exit ?_ | refine tri_thenr ?_ | refine tri_thene ?_ | refine tri_blkn ?_ | refine tri_blkr ?_ | refine tri_blke ?_ | refine tri_blko (by rfl) ?_ | refine tri_if_t (by rfl) ?_ | refine tri_if_f (by rfl) ?_ | fail))
      refine tri_weak (H' := Hp w0 (wB g rl2.v rw'.v ri.v W.nx :: opC g3 ⟨1, s, p, wd⟩ :: boS rl2 (W.lv ++ [true]) :: outS rw' (ra.map Row.sv) :: outS ri (rb.map Row.sv) :: ((nest ra W.ws ++ nest rb W.ids) ++ cs))) (fun w h => h.sub (by repeat (first | exact List.Sublist.refl _ | assumption | apply List.Sublist.cons_cons | apply List.Sublist.cons))) ?_
      have hn1 : RdN (Hp w0 ((nest ra W.ws ++ nest rb W.ids) ++ cs)) (.slice none 0 0) [] [] := RdN.nil
      have hxo : RdH (Hp w0 (wB g rl2.v rw'.v ri.v W.nx :: opC g3 ⟨1, s, p, wd⟩ :: boS rl2 (W.lv ++ [true]) :: outS rw' (ra.map Row.sv) :: outS ri (rb.map Row.sv) :: ((nest ra W.ws ++ nest rb W.ids) ++ cs))) rw'.v (ra.map Row.sv) := rd_chunk ⟨3, rfl⟩
      have hxi : RdH (Hp w0 (wB g rl2.v rw'.v ri.v W.nx :: opC g3 ⟨1, s, p, wd⟩ :: boS rl2 (W.lv ++ [true]) :: outS rw' (ra.map Row.sv) :: outS ri (rb.map Row.sv) :: ((nest ra W.ws ++ nest rb W.ids) ++ cs))) ((ra.map Row.sv).getD s default).v (W.ws.getD s default) := by
        rw [hXv]
        exact rd_chunk (has_mem (List.mem_cons_of_mem _ (List.mem_cons_of_mem _ (List.mem_cons_of_mem _ (List.mem_cons_of_mem _ (List.mem_cons_of_mem _ (List.mem_append_left _ (List.mem_append_left _ (nest_mem ha (by omega))))))))))
      refine ar_held [16, 19] (wB g rl2.v rw'.v ri.v W.nx :: opC g3 ⟨1, s, p, wd⟩ :: boS rl2 (W.lv ++ [true]) :: outS rw' (ra.map Row.sv) :: outS ri (rb.map Row.sv) :: ((nest ra W.ws ++ nest rb W.ids) ++ cs)) rfl ?_
      refine ar_free 0 rfl rfl rfl ?_; refine ar_free 1 rfl rfl rfl ?_; refine ar_free 2 rfl rfl rfl ?_; refine ar_free 3 rfl rfl rfl ?_; refine ar_free 6 rfl rfl rfl ?_; refine ar_free 7 rfl rfl rfl ?_; refine ar_free 8 rfl rfl rfl ?_; refine ar_free 10 rfl rfl rfl ?_
      refine ar_take 4 rfl rfl rfl ?_ (hy := yl_load rfl rfl (by first | (apply has_at; (repeat (first | exact at0 | apply atS)); done) | (repeat (first | assumption | apply has_cons))) rfl)
      refine ar_take 9 rfl rfl rfl ?_ (hy := yl_load rfl rfl (by first | (apply has_at; (repeat (first | exact at0 | apply atS)); done) | (repeat (first | assumption | apply has_cons))) rfl)
      refine ar_take 11 rfl rfl rfl ?_ (hy := yl_load rfl rfl (by first | (apply has_at; (repeat (first | exact at0 | apply atS)); done) | (repeat (first | assumption | apply has_cons))) rfl)
      refine ar_take 12 rfl rfl rfl ?_ (hy := yl_idx (k := s) rfl rfl hxo (ix_nat rfl) (by rfl) (by omega))
      refine ar_take 13 rfl rfl rfl ?_ (hy := yl_loadE rfl rfl hxo (by rfl) (by omega) (by rfl))
      refine ar_op 5 rfl ?_
      refine au_lit (l := ([] : List Int)) rfl rfl rfl (fun r0 => ?_)
      refine tri_nil ?_; refine ar_in ?_
      refine ar_op 14 rfl ?_
      refine au_append (l2 := (W.ws.getD s default)) rfl rfl rfl rfl (fun r1 => au_norm ?_) (h2 := hxi.cons) (hb := by rw [List.length_nil]; omega)
      refine tri_nil ?_; refine ar_in ?_
      refine ar_op 15 rfl ?_
      refine au_lit (l := ([r1.sv] : List SV)) rfl rfl rfl (fun r2 => ?_)
      refine tri_nil ?_; refine ar_in ?_
      refine ar_op 16 rfl ?_
      refine au_append (r := rw') (l2 := ([r1.sv] : List SV)) rfl rfl rfl rfl (fun rw2 => au_norm ?_) (h2 := rd_chunk ⟨0, rfl⟩) (hb := by rw [List.length_map, List.length_singleton]; omega)
      refine tri_nil ?_; refine ar_ink ?_
      refine ar_free 17 rfl rfl rfl ?_; refine ar_free 18 rfl rfl rfl ?_
      refine ar_op 19 rfl ?_
      refine au_store ?_
      refine tri_nil ?_; refine ar_ink ?_
      refine ar_done ?_
      (repeat refine tri_then ?_)
      refine tri_weak (H' := Hp w0 (intS r1 (W.ws.getD s default) :: wB g rl2.v rw2.v ri.v W.nx :: opC g3 ⟨1, s, p, wd⟩ :: boS rl2 (W.lv ++ [true]) :: outS rw2 (ra.map Row.sv ++ [r1.sv]) :: outS ri (rb.map Row.sv) :: ((nest ra W.ws ++ nest rb W.ids) ++ cs))) (fun w h => h.sub (by repeat (first | exact List.Sublist.refl _ | assumption | apply List.Sublist.cons_cons | apply List.Sublist.cons))) ?_
      have hyo : RdH (Hp w0 (intS r1 (W.ws.getD s default) :: wB g rl2.v rw2.v ri.v W.nx :: opC g3 ⟨1, s, p, wd⟩ :: boS rl2 (W.lv ++ [true]) :: outS rw2 (ra.map Row.sv ++ [r1.sv]) :: outS ri (rb.map Row.sv) :: ((nest ra W.ws ++ nest rb W.ids) ++ cs))) ri.v (rb.map Row.sv) := rd_chunk ⟨5, rfl⟩
      have hyi : RdH (Hp w0 (intS r1 (W.ws.getD s default) :: wB g rl2.v rw2.v ri.v W.nx :: opC g3 ⟨1, s, p, wd⟩ :: boS rl2 (W.lv ++ [true]) :: outS rw2 (ra.map Row.sv ++ [r1.sv]) :: outS ri (rb.map Row.sv) :: ((nest ra W.ws ++ nest rb W.ids) ++ cs))) ((rb.map Row.sv).getD s default).v (W.ids.getD s default) := by
        rw [hYv]
        exact rd_chunk (has_mem (List.mem_cons_of_mem _ (List.mem_cons_of_mem _ (List.mem_cons_of_mem _ (List.mem_cons_of_mem _ (List.mem_cons_of_mem _ (List.mem_cons_of_mem _ (List.mem_append_left _ (List.mem_append_right _ (nest_mem hb (by omega)))))))))))
      refine ar_held [16, 19] (intS r1 (W.ws.getD s default) :: wB g rl2.v rw2.v ri.v W.nx :: opC g3 ⟨1, s, p, wd⟩ :: boS rl2 (W.lv ++ [true]) :: outS rw2 (ra.map Row.sv ++ [r1.sv]) :: outS ri (rb.map Row.sv) :: ((nest ra W.ws ++ nest rb W.ids) ++ cs)) rfl ?_
      refine ar_free 0 rfl rfl rfl ?_; refine ar_free 1 rfl rfl rfl ?_; refine ar_free 2 rfl rfl rfl ?_; refine ar_free 3 rfl rfl rfl ?_; refine ar_free 6 rfl rfl rfl ?_; refine ar_free 7 rfl rfl rfl ?_; refine ar_free 8 rfl rfl rfl ?_; refine ar_free 10 rfl rfl rfl ?_
      refine ar_take 4 rfl rfl rfl ?_ (hy := yl_load rfl rfl (by first | (apply has_at; (repeat (first | exact at0 | apply atS)); done) | (repeat (first | assumption | apply has_cons))) rfl)
      refine ar_take 9 rfl rfl rfl ?_ (hy := yl_load rfl rfl (by first | (apply has_at; (repeat (first | exact at0 | apply atS)); done) | (repeat (first | assumption | apply has_cons))) rfl)
      refine ar_take 11 rfl rfl rfl ?_ (hy := yl_load rfl rfl (by first | (apply has_at; (repeat (first | exact at0 | apply atS)); done) | (repeat (first | assumption | apply has_cons))) rfl)
      refine ar_take 12 rfl rfl rfl ?_ (hy := yl_idx (k := s) rfl rfl hyo (ix_nat rfl) (by rfl) (by omega))
      refine ar_take 13 rfl rfl rfl ?_ (hy := yl_loadE rfl rfl hyo (by rfl) (by omega) (by rfl))
      refine ar_op 5 rfl ?_
      refine au_lit (l := ([] : List Int)) rfl rfl rfl (fun r0 => ?_)
      refine tri_nil ?_; refine ar_in ?_
      refine ar_op 14 rfl ?_
      refine au_append (l2 := (W.ids.getD s default)) rfl rfl rfl rfl (fun r3 => au_norm ?_) (h2 := hyi.cons) (hb := by rw [List.length_nil]; omega)
      refine tri_nil ?_; refine ar_in ?_
      refine ar_op 15 rfl ?_
      refine au_lit (l := ([r3.sv] : List SV)) rfl rfl rfl (fun r2 => ?_)
      refine tri_nil ?_; refine ar_in ?_
      refine ar_op 16 rfl ?_
      refine au_append (r := ri) (l2 := ([r3.sv] : List SV)) rfl rfl rfl rfl (fun ri2 => au_norm ?_) (h2 := rd_chunk ⟨0, rfl⟩) (hb := by rw [List.length_map, List.length_singleton]; omega)
      refine tri_nil ?_; refine ar_ink ?_
      refine ar_free 17 rfl rfl rfl ?_; refine ar_free 18 rfl rfl rfl ?_
      refine ar_op 19 rfl ?_
      refine au_store ?_
      refine tri_nil ?_; refine ar_ink ?_
      refine ar_done ?_
      (repeat (first | refine au_pure ?_ (hy := by first | exact yl_mv rfl rfl | exact yl_ext rfl rfl rfl | exact yl_addn rfl rfl rfl (by omega) | exact yl_subn rfl rfl rfl (by omega) | exact yl_int2 rfl rfl rfl rfl | exact yl_pick_t rfl rfl rfl | exact yl_pick_f rfl rfl rfl | exact yl_not rfl rfl | exact yl_field rfl rfl | exact yl_load rfl rfl (by first | (apply has_at; (repeat (first | exact at0 | apply atS)); done) | (repeat (first | assumption | apply has_cons))) rfl | exact yl_loadN rfl rfl (by first | (apply has_at; (repeat (first | exact at0 | apply atS)); done) | (repeat (first | assumption | apply has_cons))) (by repeat (first | exact nf0 rfl | apply nfS rfl | exact nfR)) (by rfl) | exact yl_nilchk rfl rfl) | refine au_pass ?_ | refine au_alloc (fun _ => ?_) | refine au_box (fun _ => ?_) | refine au_store ?_ | refine tri_seq ?_ | refine tri_then ?_ | refine tri_region ?_ | refine tri_nil ?_ | refine tri_skip ?_ | refine tri_ret ?_ | refine tri_exit ?_ | refine tri_thenr ?_ | refine tri_thene ?_ | refine tri_blkn ?_ | refine tri_blkr ?_ | refine tri_blke ?_ | refine tri_blko (by rfl) ?_ | refine tri_if_t (by rfl) ?_ | refine tri_if_f (by rfl) ?_ | fail))
      refine au_done1 rfl ?_
      intro w hw
      refine ⟨⟨⟨rl2, rw2, ri2, ra ++ [r1], rb ++ [r3]⟩, ⟨by unfold fkW; simp [ha], by unfold fkW; simp [hb], by unfold fkW; simp [l2], by unfold fkW; simp [l3]⟩⟩, rfl, ?_⟩
      have h2 : Hp w0 (intS r3 (W.ids.getD s default) :: intS r1 (W.ws.getD s default) :: wB g rl2.v rw2.v ri2.v W.nx :: boS rl2 (W.lv ++ [true]) :: outS rw2 (ra.map Row.sv ++ [r1.sv]) :: outS ri2 (rb.map Row.sv ++ [r3.sv]) :: ((nest ra W.ws ++ nest rb W.ids) ++ cs)) w := hw.sub (by repeat (first | exact List.Sublist.refl _ | assumption | apply List.Sublist.cons_cons | apply List.Sublist.cons))
      show Hp w0 (wB g rl2.v rw2.v ri2.v W.nx :: boS rl2 (W.lv ++ [true]) :: outS rw2 ((ra ++ [r1]).map Row.sv) :: outS ri2 ((rb ++ [r3]).map Row.sv) :: ((nest (ra ++ [r1]) (W.ws ++ [W.ws.getD s default]) ++ nest (rb ++ [r3]) (W.ids ++ [W.ids.getD s default])) ++ cs)) w
      rw [nest_snoc ha, nest_snoc hb, List.map_append, List.map_append]
      exact HpM.perm h2 (fork_perm [_, _, _, _])
  · have h0 : kd = 0 := beq_iff_eq.1 hd0
    subst h0
    obtain ⟨hp1, hp2, hp3⟩ := hp (.inl rfl)
    obtain ⟨p, rfl⟩ : ∃ k : Nat, p = (k : Int) := ⟨p.toNat, by omega⟩
    rw [Int.toNat_natCast] at hp2 hp3
    have hdo : doW W ⟨0, s, p, wd⟩ = (wrW W s p wd, copW W s p) := rfl
    rw [hdo]
    have hNo := hW.ids.out
    have hin := hW.ids.inn s
    (repeat (first | refine au_pure ?_ (hy := by first | exact yl_mv rfl rfl | exact yl_ext rfl rfl rfl | exact yl_addn rfl rfl rfl (by omega) | exact yl_subn rfl rfl rfl (by omega) | exact yl_int2 rfl rfl rfl rfl | exact yl_pick_t rfl rfl rfl | exact yl_pick_f rfl rfl rfl | exact yl_not rfl rfl | exact yl_field rfl rfl | exact yl_load rfl rfl (by first | (apply has_at; (repeat (first | exact at0 | apply atS)); done) | (repeat (first | assumption | apply has_cons))) rfl | exact yl_loadN rfl rfl (by first | (apply has_at; (repeat (first | exact at0 | apply atS)); done) | (repeat (first | assumption | apply has_cons))) (by repeat (first | exact nf0 rfl | apply nfS rfl | exact nfR)) (by rfl) | exact yl_nilchk rfl rfl) | refine au_pass ?_ | refine au_alloc (fun _ => ?_) | refine au_box (fun _ => ?_) | refine au_store ?_ | refine tri_seq ?_ | refine tri_then ?_ | refine tri_region ?_ | refine tri_nil ?_ | refine tri_skip ?_ | refine tri_ret ?_ | refine tri_exit ?_ | refine tri_thenr ?_ | refine tri_thene ?_ | refine tri_blkn ?_ | refine tri_blkr ?_ | refine tri_blke ?_ | refine tri_blko (by rfl) ?_ | refine tri_if_t (by rfl) ?_ | refine tri_if_f (by rfl) ?_ | fail))
    refine au_draw rfl ?_
    (repeat (first | refine au_qpure rfl rfl ?_ (hy := by first | exact yl_mv rfl rfl | exact yl_ext rfl rfl rfl | exact yl_addn rfl rfl rfl (by omega) | exact yl_subn rfl rfl rfl (by omega) | exact yl_int2 rfl rfl rfl rfl | exact yl_pick_t rfl rfl rfl | exact yl_pick_f rfl rfl rfl | exact yl_not rfl rfl | exact yl_field rfl rfl | exact yl_load rfl rfl (by first | (apply has_at; (repeat (first | exact at0 | apply atS)); done) | (repeat (first | assumption | apply has_cons))) rfl | exact yl_loadN rfl rfl (by first | (apply has_at; (repeat (first | exact at0 | apply atS)); done) | (repeat (first | assumption | apply has_cons))) (by repeat (first | exact nf0 rfl | apply nfS rfl | exact nfR)) (by rfl) | exact yl_nilchk rfl rfl) | refine au_qpass rfl rfl ?_ | refine triq_nil ?_))
    refine au_qpure rfl rfl ?_ (hy := yl_idx (k := s) rfl rfl hNo (ix_nat rfl) (by rfl) (by omega))
    refine au_qpure rfl rfl ?_ (hy := yl_loadE rfl rfl hNo (by rfl) (by omega) (by rfl))
    (repeat (first | refine au_qpure rfl rfl ?_ (hy := by first | exact yl_mv rfl rfl | exact yl_ext rfl rfl rfl | exact yl_addn rfl rfl rfl (by omega) | exact yl_subn rfl rfl rfl (by omega) | exact yl_int2 rfl rfl rfl rfl | exact yl_pick_t rfl rfl rfl | exact yl_pick_f rfl rfl rfl | exact yl_not rfl rfl | exact yl_field rfl rfl | exact yl_load rfl rfl (by first | (apply has_at; (repeat (first | exact at0 | apply atS)); done) | (repeat (first | assumption | apply has_cons))) rfl | exact yl_loadN rfl rfl (by first | (apply has_at; (repeat (first | exact at0 | apply atS)); done) | (repeat (first | assumption | apply has_cons))) (by repeat (first | exact nf0 rfl | apply nfS rfl | exact nfR)) (by rfl) | exact yl_nilchk rfl rfl) | refine au_qpass rfl rfl ?_ | refine triq_nil ?_))
    refine au_qpure rfl rfl ?_ (hy := yl_idx (k := p) rfl rfl hin (ix_nat rfl) (by rfl) (by omega))
    refine au_qpure rfl rfl ?_ (hy := yl_loadE rfl rfl hin (by rfl) (by omega) (by rfl))
    (repeat (first | refine au_qpure rfl rfl ?_ (hy := by first | exact yl_mv rfl rfl | exact yl_ext rfl rfl rfl | exact yl_addn rfl rfl rfl (by omega) | exact yl_subn rfl rfl rfl (by omega) | exact yl_int2 rfl rfl rfl rfl | exact yl_pick_t rfl rfl rfl | exact yl_pick_f rfl rfl rfl | exact yl_not rfl rfl | exact yl_field rfl rfl | exact yl_load rfl rfl (by first | (apply has_at; (repeat (first | exact at0 | apply atS)); done) | (repeat (first | assumption | apply has_cons))) rfl | exact yl_loadN rfl rfl (by first | (apply has_at; (repeat (first | exact at0 | apply atS)); done) | (repeat (first | assumption | apply has_cons))) (by repeat (first | exact nf0 rfl | apply nfS rfl | exact nfR)) (by rfl) | exact yl_nilchk rfl rfl) | refine au_qpass rfl rfl ?_ | refine triq_nil ?_))
    rw [show (W.ids.getD s default).getD p default = idAt W s p from rfl]
    obtain ⟨d, hd⟩ : ∃ d, d = idAt W s p := ⟨_, rfl⟩
    rw [← hd]
    have hcop : copW W s p = decide (0 < d ∧ 1 < sharesW W d) := by unfold copW; rw [← hd]
    (repeat (first | refine tri_seq ?_ | refine tri_then ?_))
    refine tri_cut1 (fun b => b = copW W s p) (fun b => [(0, .pointer (some ⟨g, 0, none⟩)), (3, .pointer (some ⟨g3, 0, none⟩)), (5, .int .i64 d), (6, .bool b)]) (fun b => Hp w0 (wB g rl.v rw'.v ri.v W.nx :: opC g3 ⟨0, s, p, wd⟩ :: boS rl W.lv :: outS rw' (ra.map Row.sv) :: outS ri (rb.map Row.sv) :: ((nest ra W.ws ++ nest rb W.ids) ++ cs))) ?_ ?_
    · (repeat (first | refine au_pure ?_ (hy := by first | exact yl_mv rfl rfl | exact yl_ext rfl rfl rfl | exact yl_addn rfl rfl rfl (by omega) | exact yl_subn rfl rfl rfl (by omega) | exact yl_int2 rfl rfl rfl rfl | exact yl_pick_t rfl rfl rfl | exact yl_pick_f rfl rfl rfl | exact yl_not rfl rfl | exact yl_field rfl rfl | exact yl_load rfl rfl (by first | (apply has_at; (repeat (first | exact at0 | apply atS)); done) | (repeat (first | assumption | apply has_cons))) rfl | exact yl_loadN rfl rfl (by first | (apply has_at; (repeat (first | exact at0 | apply atS)); done) | (repeat (first | assumption | apply has_cons))) (by repeat (first | exact nf0 rfl | apply nfS rfl | exact nfR)) (by rfl) | exact yl_nilchk rfl rfl) | refine au_pass ?_ | refine au_alloc (fun _ => ?_) | refine au_box (fun _ => ?_) | refine au_store ?_ | refine tri_seq ?_ | refine tri_then ?_ | refine tri_region ?_ | refine tri_nil ?_ | refine tri_skip ?_ | refine tri_ret ?_ | refine tri_exit ?_ | refine tri_thenr ?_ | refine tri_thene ?_ | refine tri_blkn ?_ | refine tri_blkr ?_ | refine tri_blke ?_ | refine tri_blko (by rfl) ?_ | refine tri_if_t (by rfl) ?_ | refine tri_if_f (by rfl) ?_ | fail))
      cases h1 : decide (d > 0)
      · have h1 := of_decide_eq_false h1
        (repeat (first | refine au_pure ?_ (hy := by first | exact yl_mv rfl rfl | exact yl_ext rfl rfl rfl | exact yl_addn rfl rfl rfl (by omega) | exact yl_subn rfl rfl rfl (by omega) | exact yl_int2 rfl rfl rfl rfl | exact yl_pick_t rfl rfl rfl | exact yl_pick_f rfl rfl rfl | exact yl_not rfl rfl | exact yl_field rfl rfl | exact yl_load rfl rfl (by first | (apply has_at; (repeat (first | exact at0 | apply atS)); done) | (repeat (first | assumption | apply has_cons))) rfl | exact yl_loadN rfl rfl (by first | (apply has_at; (repeat (first | exact at0 | apply atS)); done) | (repeat (first | assumption | apply has_cons))) (by repeat (first | exact nf0 rfl | apply nfS rfl | exact nfR)) (by rfl) | exact yl_nilchk rfl rfl) | refine au_pass ?_ | refine au_alloc (fun _ => ?_) | refine au_box (fun _ => ?_) | refine au_store ?_ | refine tri_seq ?_ | refine tri_then ?_ | refine tri_region ?_ | refine tri_nil ?_ | refine tri_skip ?_ | refine tri_ret ?_ | refine tri_exit ?_ | refine tri_thenr ?_ | refine tri_thene ?_ | refine tri_blkn ?_ | refine tri_blkr ?_ | refine tri_blke ?_ | refine tri_blko (by rfl) ?_ | refine tri_if_t (by rfl) ?_ | refine tri_if_f (by rfl) ?_ | fail))
        exact tri_mt1 false (by rw [hcop, decide_eq_false (by omega)]) (by repeat (first | exact trivial | refine ⟨rfl, ?_⟩)) (fun _ h => h)
      · have h1 := of_decide_eq_true h1
        (repeat (first | refine au_pure ?_ (hy := by first | exact yl_mv rfl rfl | exact yl_ext rfl rfl rfl | exact yl_addn rfl rfl rfl (by omega) | exact yl_subn rfl rfl rfl (by omega) | exact yl_int2 rfl rfl rfl rfl | exact yl_pick_t rfl rfl rfl | exact yl_pick_f rfl rfl rfl | exact yl_not rfl rfl | exact yl_field rfl rfl | exact yl_load rfl rfl (by first | (apply has_at; (repeat (first | exact at0 | apply atS)); done) | (repeat (first | assumption | apply has_cons))) rfl | exact yl_loadN rfl rfl (by first | (apply has_at; (repeat (first | exact at0 | apply atS)); done) | (repeat (first | assumption | apply has_cons))) (by repeat (first | exact nf0 rfl | apply nfS rfl | exact nfR)) (by rfl) | exact yl_nilchk rfl rfl) | refine au_pass ?_ | refine au_alloc (fun _ => ?_) | refine au_box (fun _ => ?_) | refine au_store ?_ | refine tri_seq ?_ | refine tri_then ?_ | refine tri_region ?_ | refine tri_nil ?_ | refine tri_skip ?_ | refine tri_ret ?_ | refine tri_exit ?_ | refine tri_thenr ?_ | refine tri_thene ?_ | refine tri_blkn ?_ | refine tri_blkr ?_ | refine tri_blke ?_ | refine tri_blko (by rfl) ?_ | refine tri_if_t (by rfl) ?_ | refine tri_if_f (by rfl) ?_ | fail))
        refine au_callC rfl rfl rfl rfl rfl (shares_c w0 _ g d hW1 (by omega) hll hr3) (fun _ => ?_)
        (repeat (first | refine au_pure ?_ (hy := by first | exact yl_mv rfl rfl | exact yl_ext rfl rfl rfl | exact yl_addn rfl rfl rfl (by omega) | exact yl_subn rfl rfl rfl (by omega) | exact yl_int2 rfl rfl rfl rfl | exact yl_pick_t rfl rfl rfl | exact yl_pick_f rfl rfl rfl | exact yl_not rfl rfl | exact yl_field rfl rfl | exact yl_load rfl rfl (by first | (apply has_at; (repeat (first | exact at0 | apply atS)); done) | (repeat (first | assumption | apply has_cons))) rfl | exact yl_loadN rfl rfl (by first | (apply has_at; (repeat (first | exact at0 | apply atS)); done) | (repeat (first | assumption | apply has_cons))) (by repeat (first | exact nf0 rfl | apply nfS rfl | exact nfR)) (by rfl) | exact yl_nilchk rfl rfl) | refine au_pass ?_ | refine au_alloc (fun _ => ?_) | refine au_box (fun _ => ?_) | refine au_store ?_ | refine tri_seq ?_ | refine tri_then ?_ | refine tri_region ?_ | refine tri_nil ?_ | refine tri_skip ?_ | refine tri_ret ?_ | refine tri_exit ?_ | refine tri_thenr ?_ | refine tri_thene ?_ | refine tri_blkn ?_ | refine tri_blkr ?_ | refine tri_blke ?_ | refine tri_blko (by rfl) ?_ | refine tri_if_t (by rfl) ?_ | refine tri_if_f (by rfl) ?_ | fail))
        refine tri_mt1 (decide ((sharesW W d : Int) > 1)) ?_ (by repeat (first | exact trivial | refine ⟨rfl, ?_⟩)) (fun _ h => h)
        rw [hcop, decide_eq_decide]
        omega
    intro b hcb
    have hfr : freshW W s p = (d == 0 || b) := by unfold freshW; rw [← hd, hcb]
    refine tri_weak (H' := Hp w0 (intS (rb.getD s (Row.nil 0)) (W.ids.getD s default) :: intS (ra.getD s (Row.nil 0)) (W.ws.getD s default) :: wB g rl.v rw'.v ri.v W.nx :: opC g3 ⟨0, s, p, wd⟩ :: boS rl W.lv :: outS rw' (ra.map Row.sv) :: outS ri (rb.map Row.sv) :: (eN ra W.ws s ++ (eN rb W.ids s ++ cs)))) (fun w h => HpM.perm h (focus2 ha hb (by omega) (by omega) [_, _, _, _, _] cs)) ?_
    obtain ⟨rB, hrB⟩ : ∃ rB, rB = rb.getD s (Row.nil 0) := ⟨_, rfl⟩
    obtain ⟨rA, hrA⟩ : ∃ rA, rA = ra.getD s (Row.nil 0) := ⟨_, rfl⟩
    obtain ⟨YS, hYS⟩ : ∃ YS, YS = rb.map Row.sv := ⟨_, rfl⟩
    obtain ⟨XS, hXS⟩ : ∃ XS, XS = ra.map Row.sv := ⟨_, rfl⟩
    obtain ⟨I, hI⟩ : ∃ I, I = W.ids.getD s default := ⟨_, rfl⟩
    obtain ⟨L, hL⟩ : ∃ L, L = W.ws.getD s default := ⟨_, rfl⟩
    rw [← hrB, ← hYS] at hYv
    rw [← hrA, ← hXS] at hXv
    rw [← hYS] at hYl
    rw [← hXS] at hXl
    rw [← hI] at hp2 hri
    rw [← hL] at hp3 hrw
    rw [← hrB, ← hrA, ← hI, ← hL, ← hYS, ← hXS]
    clear hNo hin hW hW1 hW0
    (repeat (first | refine tri_seq ?_ | refine tri_then ?_))
    refine tri_cut1 (fun c => c = freshW W s p) (fun c => [(0, .pointer (some ⟨g, 0, none⟩)), (3, .pointer (some ⟨g3, 0, none⟩)), (6, .bool b), (35, .bool c)]) (fun _ => Hp w0 (intS rB I :: intS rA L :: wB g rl.v rw'.v ri.v W.nx :: opC g3 ⟨0, s, p, wd⟩ :: boS rl W.lv :: outS rw' XS :: outS ri YS :: (eN ra W.ws s ++ (eN rb W.ids s ++ cs)))) ?_ ?_
    · (repeat (first | refine au_pure ?_ (hy := by first | exact yl_mv rfl rfl | exact yl_ext rfl rfl rfl | exact yl_addn rfl rfl rfl (by omega) | exact yl_subn rfl rfl rfl (by omega) | exact yl_int2 rfl rfl rfl rfl | exact yl_pick_t rfl rfl rfl | exact yl_pick_f rfl rfl rfl | exact yl_not rfl rfl | exact yl_field rfl rfl | exact yl_load rfl rfl (by first | (apply has_at; (repeat (first | exact at0 | apply atS)); done) | (repeat (first | assumption | apply has_cons))) rfl | exact yl_loadN rfl rfl (by first | (apply has_at; (repeat (first | exact at0 | apply atS)); done) | (repeat (first | assumption | apply has_cons))) (by repeat (first | exact nf0 rfl | apply nfS rfl | exact nfR)) (by rfl) | exact yl_nilchk rfl rfl) | refine au_pass ?_ | refine au_alloc (fun _ => ?_) | refine au_box (fun _ => ?_) | refine au_store ?_ | refine tri_seq ?_ | refine tri_then ?_ | refine tri_region ?_ | refine tri_nil ?_ | refine tri_skip ?_ | refine tri_ret ?_ | refine tri_exit ?_ | refine tri_thenr ?_ | refine tri_thene ?_ | refine tri_blkn ?_ | refine tri_blkr ?_ | refine tri_blke ?_ | refine tri_blko (by rfl) ?_ | refine tri_if_t (by rfl) ?_ | refine tri_if_f (by rfl) ?_ | fail))
      cases h2 : (d == 0)
      · rw [h2, Bool.false_or] at hfr
        (repeat (first | refine au_pure ?_ (hy := by first | exact yl_mv rfl rfl | exact yl_ext rfl rfl rfl | exact yl_addn rfl rfl rfl (by omega) | exact yl_subn rfl rfl rfl (by omega) | exact yl_int2 rfl rfl rfl rfl | exact yl_pick_t rfl rfl rfl | exact yl_pick_f rfl rfl rfl | exact yl_not rfl rfl | exact yl_field rfl rfl | exact yl_load rfl rfl (by first | (apply has_at; (repeat (first | exact at0 | apply atS)); done) | (repeat (first | assumption | apply has_cons))) rfl | exact yl_loadN rfl rfl (by first | (apply has_at; (repeat (first | exact at0 | apply atS)); done) | (repeat (first | assumption | apply has_cons))) (by repeat (first | exact nf0 rfl | apply nfS rfl | exact nfR)) (by rfl) | exact yl_nilchk rfl rfl) | refine au_pass ?_ | refine au_alloc (fun _ => ?_) | refine au_box (fun _ => ?_) | refine au_store ?_ | refine tri_seq ?_ | refine tri_then ?_ | refine tri_region ?_ | refine tri_nil ?_ | refine tri_skip ?_ | refine tri_ret ?_ | refine tri_exit ?_ | refine tri_thenr ?_ | refine tri_thene ?_ | refine tri_blkn ?_ | refine tri_blkr ?_ | refine tri_blke ?_ | refine tri_blko (by rfl) ?_ | refine tri_if_t (by rfl) ?_ | refine tri_if_f (by rfl) ?_ | fail))
        exact tri_mt1 b hfr.symm (by repeat (first | exact trivial | refine ⟨rfl, ?_⟩)) (fun _ h => h)
      · rw [h2, Bool.true_or] at hfr
        (repeat (first | refine au_pure ?_ (hy := by first | exact yl_mv rfl rfl | exact yl_ext rfl rfl rfl | exact yl_addn rfl rfl rfl (by omega) | exact yl_subn rfl rfl rfl (by omega) | exact yl_int2 rfl rfl rfl rfl | exact yl_pick_t rfl rfl rfl | exact yl_pick_f rfl rfl rfl | exact yl_not rfl rfl | exact yl_field rfl rfl | exact yl_load rfl rfl (by first | (apply has_at; (repeat (first | exact at0 | apply atS)); done) | (repeat (first | assumption | apply has_cons))) rfl | exact yl_loadN rfl rfl (by first | (apply has_at; (repeat (first | exact at0 | apply atS)); done) | (repeat (first | assumption | apply has_cons))) (by repeat (first | exact nf0 rfl | apply nfS rfl | exact nfR)) (by rfl) | exact yl_nilchk rfl rfl) | refine au_pass ?_ | refine au_alloc (fun _ => ?_) | refine au_box (fun _ => ?_) | refine au_store ?_ | refine tri_seq ?_ | refine tri_then ?_ | refine tri_region ?_ | refine tri_nil ?_ | refine tri_skip ?_ | refine tri_ret ?_ | refine tri_exit ?_ | refine tri_thenr ?_ | refine tri_thene ?_ | refine tri_blkn ?_ | refine tri_blkr ?_ | refine tri_blke ?_ | refine tri_blko (by rfl) ?_ | refine tri_if_t (by rfl) ?_ | refine tri_if_f (by rfl) ?_ | fail))
        exact tri_mt1 true hfr.symm (by repeat (first | exact trivial | refine ⟨rfl, ?_⟩)) (fun _ h => h)
    intro c hc
    refine tri_cut2 (fun I' nx' => I' = (if c = true then I.set p W.nx else I) ∧ nx' = if c = true then W.nx + 1 else W.nx) (fun (I' : List Int) (nx' : Int) => [(0, .pointer (some ⟨g, 0, none⟩)), (3, .pointer (some ⟨g3, 0, none⟩)), (6, .bool b)])
      (fun I' nx' => Hp w0 (intS rB I' :: intS rA L :: wB g rl.v rw'.v ri.v nx' :: opC g3 ⟨0, s, p, wd⟩ :: boS rl W.lv :: outS rw' XS :: outS ri YS :: (eN ra W.ws s ++ (eN rb W.ids s ++ cs)))) ?_ ?_
    · cases c with
      | false =>
        (repeat (first | refine au_pure ?_ (hy := by first | exact yl_mv rfl rfl | exact yl_ext rfl rfl rfl | exact yl_addn rfl rfl rfl (by omega) | exact yl_subn rfl rfl rfl (by omega) | exact yl_int2 rfl rfl rfl rfl | exact yl_pick_t rfl rfl rfl | exact yl_pick_f rfl rfl rfl | exact yl_not rfl rfl | exact yl_field rfl rfl | exact yl_load rfl rfl (by first | (apply has_at; (repeat (first | exact at0 | apply atS)); done) | (repeat (first | assumption | apply has_cons))) rfl | exact yl_loadN rfl rfl (by first | (apply has_at; (repeat (first | exact at0 | apply atS)); done) | (repeat (first | assumption | apply has_cons))) (by repeat (first | exact nf0 rfl | apply nfS rfl | exact nfR)) (by rfl) | exact yl_nilchk rfl rfl) | refine au_pass ?_ | refine au_alloc (fun _ => ?_) | refine au_box (fun _ => ?_) | refine au_store ?_ | refine tri_seq ?_ | refine tri_then ?_ | refine tri_region ?_ | refine tri_nil ?_ | refine tri_skip ?_ | refine tri_ret ?_ | refine tri_exit ?_ | refine tri_thenr ?_ | refine tri_thene ?_ | refine tri_blkn ?_ | refine tri_blkr ?_ | refine tri_blke ?_ | refine tri_blko (by rfl) ?_ | refine tri_if_t (by rfl) ?_ | refine tri_if_f (by rfl) ?_ | fail))
        exact tri_mt2 I W.nx ⟨rfl, rfl⟩ (by repeat (first | exact trivial | refine ⟨rfl, ?_⟩)) (fun _ h => h)
      | true =>
        refine tri_if_t (by rfl) ?_
        (repeat (first | refine tri_seq ?_ | refine tri_then ?_))
        refine tri_drawt 14 rfl (by kernel_rfl) ?_; repeat (first | refine tris_pure rfl rfl ?_ | refine tris_pass rfl rfl ?_ | refine tris_nil ?_)
        rw [hYv]
        (repeat (first | refine tris_pure rfl rfl ?_ | refine tris_pass rfl rfl ?_ | refine tris_nil ?_))
        (repeat (first | refine au_pure ?_ | refine au_pass ?_ | refine au_box (fun _ => ?_) | refine au_alloc (fun _ => ?_) | refine au_store ?_ | refine au_make rfl rfl (fun _ => ?_) | refine au_lit rfl rfl rfl (fun _ => ?_) | refine au_append rfl rfl rfl rfl (fun _ => au_norm ?_) | refine au_storeE rfl rfl rfl rfl ?_ | refine tri_seq ?_ | refine tri_then ?_ | refine tri_region ?_ | refine tri_nil ?_ | refine tri_skip ?_ | refine tri_ret ?_ | refine tri_exit ?_ | refine tri_thenr ?_ | refine tri_thene ?_ | refine tri_blkn ?_ | refine tri_blkr ?_ | refine tri_blke ?_ | refine tri_blko (by rfl) ?_ | refine tri_if_t (by rfl) ?_ | refine tri_if_f (by rfl) ?_ | fail))
        exact tri_mt2 (I.set p W.nx) (W.nx + 1) ⟨rfl, rfl⟩ (by repeat (first | exact trivial | refine ⟨rfl, ?_⟩)) (fun _ h => h)
    · rintro I' nx' ⟨hI', hnx'⟩
      (repeat (first | refine tri_seq ?_ | refine tri_then ?_))
      refine tri_drawt 12 rfl (by kernel_rfl) ?_; repeat (first | refine tris_pure rfl rfl ?_ | refine tris_pass rfl rfl ?_ | refine tris_nil ?_)
      rw [hXv]
      (repeat (first | refine tris_pure rfl rfl ?_ | refine tris_pass rfl rfl ?_ | refine tris_nil ?_))
      (repeat (first | refine au_pure ?_ | refine au_pass ?_ | refine au_box (fun _ => ?_) | refine au_alloc (fun _ => ?_) | refine au_store ?_ | refine au_make rfl rfl (fun _ => ?_) | refine au_lit rfl rfl rfl (fun _ => ?_) | refine au_append rfl rfl rfl rfl (fun _ => au_norm ?_) | refine au_storeE rfl rfl rfl rfl ?_ | refine tri_seq ?_ | refine tri_then ?_ | refine tri_region ?_ | refine tri_nil ?_ | refine tri_skip ?_ | refine tri_ret ?_ | refine tri_exit ?_ | refine tri_thenr ?_ | refine tri_thene ?_ | refine tri_blkn ?_ | refine tri_blkr ?_ | refine tri_blke ?_ | refine tri_blko (by rfl) ?_ | refine tri_if_t (by rfl) ?_ | refine tri_if_f (by rfl) ?_ | fail))
      refine au_done1 rfl ?_
      intro w hw
      have hwr : wrW W s p wd = ⟨W.lv, W.ws.set s (L.set p wd), W.ids.set s I', nx'⟩ := by
        unfold wrW setIn
        rw [← hI, ← hL, hI', hnx', ← hc]
        split
        · rfl
        · rw [hI, set_getD_self (by omega)]
      rw [hwr]
      refine ⟨⟨⟨rl, rw', ri, ra, rb⟩, ⟨by simpa using ha, by simpa using hb, by simpa using l2, by simpa using l3⟩⟩, by rw [hcb], ?_⟩
      rw [hrB, hrA, hYS, hXS] at hw
      have h2 := HpM.perm hw (unfocus2 ha hb (by omega) (by omega) (L.set p wd) I' [_, _, _, _, _] cs)
      exact h2.sub (by repeat (first | exact List.Sublist.refl _ | assumption | apply List.Sublist.cons_cons | apply List.Sublist.cons))
end
end Go.Proofs.Ytinnkclemjognaa
