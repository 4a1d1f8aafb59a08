/- Texts joined: ShArgs. Each part's own remark says what it proves. -/
import Derived.Test.YtojfaelafakemaaGreatM04
import Derived.Test.YtojfaelafakemaaGreatM38
/- From the reading of an argument that is a shootdown machine to its plain form. No conditions. -/
set_option linter.unusedVariables false
set_option maxRecDepth 100000
namespace Go.Proofs.YtojfaelafakemaaGreat
open Go Go.ChangeShapes Go.WideShapes Go.ChangeAt Go.RowKit
instance : Rds Tryz.prog 3 Int I64 := rds_int Tryz.underlying3 (by kernel_rfl)
instance : Rds Tryz.prog 51 W64 (fun s => 0 ≤ s.v ∧ s.v < 18446744073709551616) := ⟨by kernel_rfl, fun h _ => by
  obtain ⟨z, rfl, _, hw⟩ := DataW.trod_int Tryz.underlying51 h
  have hb := bounds_u64 hw
  exact ⟨⟨z⟩, rfl, by show 0 ≤ z ∧ z < _; omega⟩⟩
theorem four_of {α : Type} {l : List α} (h : l.length = 4) : ∃ a b c d, l = [a, b, c, d] := by
  match l, h with
  | [a, b, c, d], _ => exact ⟨a, b, c, d, rfl⟩
section
variable {H : Type} {enc : TypeId × Value → H} {P : Program} {w : World} {base : Nat} {spare : Nat → Bool} {held : Bool}
theorem rd_cellsW {α : Type} [Enc α] {W : α → Prop} {t e fuel : Nat} {v : Value} {x : DataW H × List MemPlace} (hsz : P.cellsOf e = Enc.sz α) (hrd : ∀ {n : Nat} {cs : List Value} {x : DataW H × List MemPlace}, DataW.trod enc P w base spare held n e cs = some x → cs.length = Enc.sz α → ∃ a : α, cs = Enc.enc a ∧ W a)
    (ht : P.underlying t = some (.slice e)) (h : DataW.trod enc P w base spare held fuel t [v] = some x) :
    ∃ l : List α, Rd w v l ∧ ∀ a ∈ l, W a := by
  rcases Deep.open_slice ht h with ⟨h0, _⟩ | ⟨a, len, cap, m, n, D, Pl, h0, hb, hl, hm, hmm, _, hx⟩
  · simp only [List.cons.injEq, and_true] at h0
    subst h0
    exact ⟨[], Rd.nil w, fun a ha => by cases ha⟩
  · simp only [List.cons.injEq, and_true] at h0
    subst h0
    have hlm : len ≤ m := by rw [hmm]; split <;> omega
    have hpos : 0 < Enc.sz α := Enc.pos
    obtain ⟨l, hll, hl2⟩ := choose_list (α := α) (p := fun i y => w.cells? base (a.add (i * Enc.sz α)) (Enc.sz α) = some (Enc.enc y) ∧ W y) len fun i hi => by
      obtain ⟨cs', h1, h2⟩ := hx i (by omega)
      rw [hsz] at h1
      obtain ⟨y, rfl, hw⟩ := hrd h2 (World.cells?_some h1).2.1
      exact ⟨y, h1, hw⟩
    have hspot : l ≠ [] → a.spot = none := fun hne => by
      have h0 : 0 < len := by rw [← hll]; exact List.length_pos_iff.2 hne
      have h1 := (World.cells?_some (hl2 0 h0).1).2.2 0 hpos
      have h2 : (Enc.enc (l.getD 0 default))[0]? = some ((Enc.enc (l.getD 0 default))[0]'(by rw [Enc.len]; exact hpos)) := List.getElem?_eq_getElem _
      rw [h2] at h1
      simpa [Addr.add] using World.cell?_spot h1
    refine ⟨l, ⟨⟨some a, cap, by rw [hll], by omega, hm, fun hne => ?_⟩, fun i j u hi hu => ?_⟩, fun y hy => ?_⟩
    · obtain ⟨b, o, s⟩ := a
      have := hspot hne
      simp only at this
      subst this
      rfl
    · have hne : l ≠ [] := fun e => by rw [e] at hi; simp at hi
      have hj : j < Enc.sz α := by rw [← Enc.len (l.getD i default)]; exact (List.getElem?_eq_some_iff.1 hu).1
      have h1 := (World.cells?_some (hl2 i (by omega)).1).2.2 j hj
      rw [hu] at h1
      have := hspot hne
      obtain ⟨b, o, s⟩ := a
      simp only at this
      subst this
      rw [add_lit, add_lit] at h1
      exact h1
    · obtain ⟨j, hj, rfl⟩ := mem_getD hy
      exact (hl2 j (by omega)).2
end
section
variable {H : Type} {enc : TypeId × Value → H} {P : Program} {w : World} {base : Nat} {spare : Nat → Bool} {held : Bool}
theorem field_u64 {t i : Nat} {fs : Array Field} {f : Field} {cs : List Value} {x : DataW H × List MemPlace} {n : Nat} (hs : P.underlying t = some (.struct fs)) (hf : fs[i]? = some f) (hU : P.underlying f.type = some (.int .u64)) (hc : P.cellsOf f.type = 1)
    (h : DataW.trod enc P w base spare held n t cs = some x) : ∃ z, cs[f.offset]? = some (.int .u64 z) ∧ 0 ≤ z ∧ z < 18446744073709551616 := by
  obtain ⟨xs, k, _, _, _, hlen, hg⟩ := DataW.trod_struct hs h
  have hil : i < xs.length := by rw [hlen]; exact (Array.getElem?_eq_some_iff.1 hf).1
  have := hg i f hf
  rw [List.getElem?_eq_getElem hil, hc] at this
  obtain ⟨z, h1, _, hw⟩ := DataW.trod_int hU this
  have hb := bounds_u64 hw
  refine ⟨z, ?_, by omega, by omega⟩
  have h2 : ((cs.drop f.offset).take 1)[0]? = some (.int .u64 z) := by rw [h1]; rfl
  rw [List.getElem?_take, if_pos (by omega), List.getElem?_drop] at h2
  exact h2
end
instance : Rds Tryz.prog 72 TE Wf := ⟨by kernel_rfl, fun {_ _ _ _ _ _ _ cs _} h hl => by
  obtain ⟨z0, e0, w0⟩ := field_int (i := 0) Tryz.underlying72 rfl Tryz.underlying3 (by kernel_rfl) h
  obtain ⟨z1, e1, w1⟩ := field_int (i := 1) Tryz.underlying72 rfl Tryz.underlying3 (by kernel_rfl) h
  obtain ⟨z2, e2, w2⟩ := field_u64 (i := 2) Tryz.underlying72 rfl Tryz.underlying51 (by kernel_rfl) h
  replace hl : cs.length = 3 := hl
  match cs, hl with
  | [c0, c1, c2], _ =>
    replace e0 : some c0 = some (.int .i64 z0) := e0
    replace e1 : some c1 = some (.int .i64 z1) := e1
    replace e2 : some c2 = some (.int .u64 z2) := e2
    simp only [Option.some.injEq] at e0 e1 e2
    subst e0 e1 e2
    exact ⟨⟨z0, z1, z2⟩, rfl, w0, w1, w2⟩⟩
instance : Rds Tryz.prog 63 IV (fun s => I64 s.s ∧ I64 s.p) := ⟨by kernel_rfl, fun {_ _ _ _ _ _ _ cs _} h hl => by
  obtain ⟨z0, e0, w0⟩ := field_int (i := 0) Tryz.underlying63 rfl Tryz.underlying3 (by kernel_rfl) h
  obtain ⟨z1, e1, w1⟩ := field_int (i := 1) Tryz.underlying63 rfl Tryz.underlying3 (by kernel_rfl) h
  obtain ⟨z2, e2⟩ := field_bool (i := 2) Tryz.underlying63 rfl Tryz.underlying4 (by kernel_rfl) h
  replace hl : cs.length = 3 := hl
  match cs, hl with
  | [c0, c1, c2], _ =>
    replace e0 : some c0 = some (.int .i64 z0) := e0
    simp only [Option.some.injEq] at e0
    subst e0
    replace e1 : some c1 = some (.int .i64 z1) := e1
    simp only [Option.some.injEq] at e1
    subst e1
    replace e2 : some c2 = some (.bool z2) := e2
    simp only [Option.some.injEq] at e2
    subst e2
    exact ⟨⟨z0, z1, z2⟩, rfl, ⟨w0, w1⟩⟩⟩
instance : Rds Tryz.prog 47 LB (fun s => I64 s.f ∧ I64 s.a) := ⟨by kernel_rfl, fun {_ _ _ _ _ _ _ cs _} h hl => by
  obtain ⟨z0, e0, w0⟩ := field_int (i := 0) Tryz.underlying47 rfl Tryz.underlying3 (by kernel_rfl) h
  obtain ⟨z1, e1, w1⟩ := field_int (i := 1) Tryz.underlying47 rfl Tryz.underlying3 (by kernel_rfl) h
  replace hl : cs.length = 2 := hl
  match cs, hl with
  | [c0, c1], _ =>
    replace e0 : some c0 = some (.int .i64 z0) := e0
    simp only [Option.some.injEq] at e0
    subst e0
    replace e1 : some c1 = some (.int .i64 z1) := e1
    simp only [Option.some.injEq] at e1
    subst e1
    exact ⟨⟨z0, z1⟩, rfl, ⟨w0, w1⟩⟩⟩
instance : Rds Tryz.prog 36 SO (fun s => I64 s.k ∧ I64 s.c ∧ I64 s.p ∧ I64 s.f ∧ I64 s.v) := ⟨by kernel_rfl, fun {_ _ _ _ _ _ _ cs _} h hl => by
  obtain ⟨z0, e0, w0⟩ := field_int (i := 0) Tryz.underlying36 rfl Tryz.underlying3 (by kernel_rfl) h
  obtain ⟨z1, e1, w1⟩ := field_int (i := 1) Tryz.underlying36 rfl Tryz.underlying3 (by kernel_rfl) h
  obtain ⟨z2, e2, w2⟩ := field_int (i := 2) Tryz.underlying36 rfl Tryz.underlying3 (by kernel_rfl) h
  obtain ⟨z3, e3, w3⟩ := field_int (i := 3) Tryz.underlying36 rfl Tryz.underlying3 (by kernel_rfl) h
  obtain ⟨z4, e4⟩ := field_bool (i := 4) Tryz.underlying36 rfl Tryz.underlying4 (by kernel_rfl) h
  obtain ⟨z5, e5, w5⟩ := field_int (i := 5) Tryz.underlying36 rfl Tryz.underlying3 (by kernel_rfl) h
  replace hl : cs.length = 6 := hl
  match cs, hl with
  | [c0, c1, c2, c3, c4, c5], _ =>
    replace e0 : some c0 = some (.int .i64 z0) := e0
    simp only [Option.some.injEq] at e0
    subst e0
    replace e1 : some c1 = some (.int .i64 z1) := e1
    simp only [Option.some.injEq] at e1
    subst e1
    replace e2 : some c2 = some (.int .i64 z2) := e2
    simp only [Option.some.injEq] at e2
    subst e2
    replace e3 : some c3 = some (.int .i64 z3) := e3
    simp only [Option.some.injEq] at e3
    subst e3
    replace e4 : some c4 = some (.bool z4) := e4
    simp only [Option.some.injEq] at e4
    subst e4
    replace e5 : some c5 = some (.int .i64 z5) := e5
    simp only [Option.some.injEq] at e5
    subst e5
    exact ⟨⟨z0, z1, z2, z3, z4, z5⟩, rfl, ⟨w0, w1, w2, w3, w5⟩⟩⟩
section
variable {H : Type} {enc : TypeId × Value → H} {w : World} {base : Nat} {spare : Nat → Bool} {held : Bool}
theorem field_at {P : Program} {t i : Nat} {fs : Array Field} {f : Field} {cs : List Value} {x : DataW H × List MemPlace} {n : Nat} (hs : P.underlying t = some (.struct fs)) (hf : fs[i]? = some f)
    (h : DataW.trod enc P w base spare held n t cs = some x) : ∃ k y, DataW.trod enc P w base spare held k f.type ((cs.drop f.offset).take (P.cellsOf f.type)) = some y := by
  obtain ⟨xs, k, _, _, _, hlen, hg⟩ := DataW.trod_struct hs h
  have hil : i < xs.length := by rw [hlen]; exact (Array.getElem?_eq_some_iff.1 hf).1
  have := hg i f hf
  rw [List.getElem?_eq_getElem hil] at this
  exact ⟨_, _, this⟩
theorem tb_key {n : Nat} {cs : List Value} {x : DataW H × List MemPlace} (h : DataW.trod enc Tryz.prog w base spare held n 57 cs = some x) (hl : cs.length = 2) : ∃ y : TB, cs = Enc.enc y ∧ ∃ l : List TE, Rd w y.s.v l ∧ ∀ t ∈ l, Wf t := by
  obtain ⟨k0, y0, h0⟩ := field_at (i := 0) Tryz.underlying57 rfl h
  obtain ⟨k1, y1, h1⟩ := field_at (i := 1) Tryz.underlying57 rfl h
  match cs, hl with
  | [a, b], _ =>
    replace h0 : DataW.trod enc Tryz.prog w base spare held k0 3 (([a, b].drop 0).take (Tryz.prog.cellsOf 3)) = some y0 := h0
    replace h1 : DataW.trod enc Tryz.prog w base spare held k1 55 (([a, b].drop 1).take (Tryz.prog.cellsOf 55)) = some y1 := h1
    rw [show Tryz.prog.cellsOf 3 = 1 by kernel_rfl] at h0
    rw [show Tryz.prog.cellsOf 55 = 1 by kernel_rfl] at h1
    replace h0 : DataW.trod enc Tryz.prog w base spare held k0 3 [a] = some y0 := h0
    replace h1 : DataW.trod enc Tryz.prog w base spare held k1 55 [b] = some y1 := h1
    obtain ⟨z, e, _, _⟩ := DataW.trod_int Tryz.underlying3 h0
    simp only [List.cons.injEq, and_true] at e
    subst e
    obtain ⟨l, hl, hw⟩ := rd_cells (α := TE) Tryz.underlying55 h1
    obtain ⟨A', c', hu, _⟩ := hl.form
    exact ⟨⟨z, ⟨A', l.length, c'⟩⟩, by rw [hu]; rfl, l, by rw [hu] at hl; exact ⟨hl, hw⟩⟩
theorem pd_key {n : Nat} {cs : List Value} {x : DataW H × List MemPlace} (h : DataW.trod enc Tryz.prog w base spare held n 61 cs = some x) (hl : cs.length = 1) : ∃ y : SV, cs = Enc.enc y ∧ ∃ l : List IV, Rd w y.v l := by
  match cs, hl with
  | [b], _ =>
    obtain ⟨l, hl, _⟩ := rd_cells (α := IV) Tryz.underlying61 h
    obtain ⟨A', c', hu, _⟩ := hl.form
    exact ⟨⟨A', l.length, c'⟩, by rw [hu]; rfl, l, by rw [hu] at hl; exact hl⟩
theorem rd_shoot {r : Reach} {b0 : Nat} {v : Value} {d : DataW H} {p : List MemPlace} (hv : Value.okWide Tryz.prog w r b0 31 v) (h : DataW.Trod enc Tryz.prog w base spare held 31 v d p) :
    ∃ (hd : SH) (xb : List TB) (xp : List SV) (m : SM), v = hdV hd ∧ RdS (Hp w []) hd xb xp m ∧ SLe m := by
  obtain ⟨cs, rfl, hl, hf⟩ := open_struct Tryz.underlying31 hv h
  rw [show Tryz.prog.cellsOf 31 = 5 by kernel_rfl] at hl
  obtain ⟨k0, y0, h0⟩ := hf 0 _ rfl
  obtain ⟨k1, y1, h1⟩ := hf 1 _ rfl
  obtain ⟨k2, y2, h2⟩ := hf 2 _ rfl
  obtain ⟨k3, y3, h3⟩ := hf 3 _ rfl
  obtain ⟨k4, y4, h4⟩ := hf 4 _ rfl
  match cs, hl with
  | [c0, c1, c2, c3, c4], _ =>
    replace h0 : DataW.trod enc Tryz.prog w base spare held k0 25 (([c0, c1, c2, c3, c4].drop 0).take (Tryz.prog.cellsOf 25)) = some y0 := h0
    rw [show Tryz.prog.cellsOf 25 = 1 by kernel_rfl] at h0
    replace h0 : DataW.trod enc Tryz.prog w base spare held k0 25 [c0] = some y0 := h0
    replace h1 : DataW.trod enc Tryz.prog w base spare held k1 26 (([c0, c1, c2, c3, c4].drop 1).take (Tryz.prog.cellsOf 26)) = some y1 := h1
    rw [show Tryz.prog.cellsOf 26 = 1 by kernel_rfl] at h1
    replace h1 : DataW.trod enc Tryz.prog w base spare held k1 26 [c1] = some y1 := h1
    replace h2 : DataW.trod enc Tryz.prog w base spare held k2 27 (([c0, c1, c2, c3, c4].drop 2).take (Tryz.prog.cellsOf 27)) = some y2 := h2
    rw [show Tryz.prog.cellsOf 27 = 1 by kernel_rfl] at h2
    replace h2 : DataW.trod enc Tryz.prog w base spare held k2 27 [c2] = some y2 := h2
    replace h3 : DataW.trod enc Tryz.prog w base spare held k3 28 (([c0, c1, c2, c3, c4].drop 3).take (Tryz.prog.cellsOf 28)) = some y3 := h3
    rw [show Tryz.prog.cellsOf 28 = 1 by kernel_rfl] at h3
    replace h3 : DataW.trod enc Tryz.prog w base spare held k3 28 [c3] = some y3 := h3
    replace h4 : DataW.trod enc Tryz.prog w base spare held k4 29 (([c0, c1, c2, c3, c4].drop 4).take (Tryz.prog.cellsOf 29)) = some y4 := h4
    rw [show Tryz.prog.cellsOf 29 = 1 by kernel_rfl] at h4
    replace h4 : DataW.trod enc Tryz.prog w base spare held k4 29 [c4] = some y4 := h4
    obtain ⟨tb, R0, W0⟩ := rd_cells (α := W64) Tryz.underlying25 h0
    obtain ⟨xb, R1, W1⟩ := rd_cellsW (α := TB) (W := fun y => ∃ l : List TE, Rd w y.s.v l ∧ ∀ t ∈ l, Wf t) (by kernel_rfl) (fun h hl => tb_key h hl) Tryz.underlying26 h1
    obtain ⟨xp, R2, W2⟩ := rd_cellsW (α := SV) (W := fun y => ∃ l : List IV, Rd w y.v l) (by kernel_rfl) (fun h hl => pd_key h hl) Tryz.underlying27 h2
    obtain ⟨lm, R3, _⟩ := rd_cells (α := LB) Tryz.underlying28 h3
    obtain ⟨wd, R4, _⟩ := rd_cells (α := Int) Tryz.underlying29 h4
    obtain ⟨A0, c0', e0, _⟩ := R0.form
    obtain ⟨A1, c1', e1, _⟩ := R1.form
    obtain ⟨A2, c2', e2, _⟩ := R2.form
    obtain ⟨A3, c3', e3, _⟩ := R3.form
    obtain ⟨A4, c4', e4, _⟩ := R4.form
    subst e0 e1 e2 e3 e4
    obtain ⟨L, hL, hL2⟩ := choose_list (α := TL) (p := fun i s => s.z = (xb.getD i default).z ∧ Rd w (xb.getD i default).s.v s.l ∧ ∀ t ∈ s.l, Wf t) xb.length fun i hi => by
      obtain ⟨l, hl⟩ := W1 (xb.getD i default) (by rw [List.getD_eq_getElem?_getD, List.getElem?_eq_getElem hi]; exact List.getElem_mem hi)
      exact ⟨⟨(xb.getD i default).z, l⟩, rfl, hl⟩
    obtain ⟨Q, hQ, hQ2⟩ := choose_list (α := List IV) (p := fun i s => Rd w (xp.getD i default).v s) xp.length fun i hi => W2 (xp.getD i default) (by rw [List.getD_eq_getElem?_getD, List.getElem?_eq_getElem hi]; exact List.getElem_mem hi)
    have hin : ∀ i, Rd w (xb.getD i default).s.v (L.getD i default).l ∧ ∀ t ∈ (L.getD i default).l, Wf t := fun i => by
      rcases Nat.lt_or_ge i xb.length with hi | hi
      · exact (hL2 i hi).2
      · rw [getD_none hi, getD_none (l := L) (by omega)]
        exact ⟨Rd.nil w, fun t ht => by cases ht⟩
    have hiq : ∀ i, Rd w (xp.getD i default).v (Q.getD i default) := fun i => by
      rcases Nat.lt_or_ge i xp.length with hi | hi
      · exact hQ2 i hi
      · rw [getD_none hi, getD_none (l := Q) (by omega)]
        exact Rd.nil w
    refine ⟨⟨⟨A0, tb.length, c0'⟩, ⟨A1, xb.length, c1'⟩, ⟨A2, xp.length, c2'⟩, ⟨A3, lm.length, c3'⟩, ⟨A4, wd.length, c4'⟩⟩, xb, xp, ⟨tb, L, Q, lm, wd⟩, rfl, ⟨RdH.of_rd R0, RdH.of_rd R1, hL.symm, fun i => ?_, fun i => RdH.of_rd (hin i).1, RdH.of_rd R2, hQ.symm, fun i => RdH.of_rd (hiq i), RdH.of_rd R3, RdH.of_rd R4⟩, ⟨R0.le, by show L.length ≤ _; rw [hL]; exact R1.le, fun i => (hin i).1.le, by show Q.length ≤ _; rw [hQ]; exact R2.le, fun i => (hiq i).le, R3.le, R4.le, fun i => ?_, fun i => (hin i).2⟩⟩
    · rcases Nat.lt_or_ge i xb.length with hi | hi
      · exact (hL2 i hi).1.symm
      · rw [getD_none hi]
        show (default : TB).z = (L.getD i default).z
        rw [getD_none (l := L) (by omega)]; rfl
    · rcases Nat.lt_or_ge i tb.length with hi | hi
      · exact W0 _ (mem_getD' hi)
      · show 0 ≤ (tb.getD i default).v ∧ (tb.getD i default).v < _
        rw [getD_none hi]; exact ⟨by decide, by decide⟩
end
end Go.Proofs.YtojfaelafakemaaGreat
