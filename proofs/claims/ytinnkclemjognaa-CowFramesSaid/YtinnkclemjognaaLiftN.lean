/- From the reading of an argument that is a slice of slices of numbers to lists of numbers. No conditions. -/
import Derived.Test.YtinnkclemjognaaLiftS
import Derived.Test.YtinnkclemjognaaNest
set_option linter.unusedVariables false
namespace Go.Proofs.Ytinnkclemjognaa
open Go Go.ChangeShapes Go.WideShapes Go.ChangeAt Go.RowKit
section
variable {H : Type} {enc : TypeId × Value → H} {P : Program} {w : World} {base : Nat} {spare : Nat → Bool} {held : Bool}
theorem rd_cellsW {α : Type} [Enc α] {W : α → Prop} {t e fuel : Nat} {v : Value} {x : DataW H × List MemPlace} (hsz : P.cellsOf e = Enc.sz α) (hrd : ∀ {n : Nat} {cs : List Value} {x : DataW H × List MemPlace}, DataW.trod enc P w base spare held n e cs = some x → cs.length = Enc.sz α → ∃ a : α, cs = Enc.enc a ∧ W a)
    (ht : P.underlying t = some (.slice e)) (h : DataW.trod enc P w base spare held fuel t [v] = some x) :
    ∃ l : List α, Rd w v l ∧ ∀ a ∈ l, W a := by
  rcases Deep.open_slice ht h with ⟨h0, _⟩ | ⟨a, len, cap, m, n, D, Pl, h0, hb, hl, hm, hmm, _, hx⟩
  · simp only [List.cons.injEq, and_true] at h0
    subst h0
    exact ⟨[], Rd.nil w, fun a ha => by cases ha⟩
  · simp only [List.cons.injEq, and_true] at h0
    subst h0
    have hlm : len ≤ m := by rw [hmm]; split <;> omega
    have hpos : 0 < Enc.sz α := Enc.pos
    obtain ⟨l, hll, hl2⟩ := choose_list (α := α) (p := fun i y => w.cells? base (a.add (i * Enc.sz α)) (Enc.sz α) = some (Enc.enc y) ∧ W y) len fun i hi => by
      obtain ⟨cs', h1, h2⟩ := hx i (by omega)
      rw [hsz] at h1
      obtain ⟨y, rfl, hw⟩ := hrd h2 (World.cells?_some h1).2.1
      exact ⟨y, h1, hw⟩
    have hspot : l ≠ [] → a.spot = none := fun hne => by
      have h0 : 0 < len := by rw [← hll]; exact List.length_pos_iff.2 hne
      have h1 := (World.cells?_some (hl2 0 h0).1).2.2 0 hpos
      have h2 : (Enc.enc (l.getD 0 default))[0]? = some ((Enc.enc (l.getD 0 default))[0]'(by rw [Enc.len]; exact hpos)) := List.getElem?_eq_getElem _
      rw [h2] at h1
      simpa [Addr.add] using World.cell?_spot h1
    refine ⟨l, ⟨⟨some a, cap, by rw [hll], by omega, hm, fun hne => ?_⟩, fun i j u hi hu => ?_⟩, fun y hy => ?_⟩
    · obtain ⟨b, o, s⟩ := a
      have := hspot hne
      simp only at this
      subst this
      rfl
    · have hne : l ≠ [] := fun e => by rw [e] at hi; simp at hi
      have hj : j < Enc.sz α := by rw [← Enc.len (l.getD i default)]; exact (List.getElem?_eq_some_iff.1 hu).1
      have h1 := (World.cells?_some (hl2 i (by omega)).1).2.2 j hj
      rw [hu] at h1
      have := hspot hne
      obtain ⟨b, o, s⟩ := a
      simp only at this
      subst this
      rw [add_lit, add_lit] at h1
      exact h1
    · obtain ⟨j, hj, rfl⟩ := mem_getD hy
      exact (hl2 j (by omega)).2
theorem rd_argN {r : Reach} {b0 t s e : Nat} {v : Value} {d : DataW H} {p : List MemPlace} [hR : Rds P e Int I64] (ht : P.underlying t = some (.slice s)) (hts : P.underlying s = some (.slice e)) (hc : P.cellsOf s = 1) (hv : Value.okWide P w r b0 t v) (h : DataW.Trod enc P w base spare held t v d p) :
    ∃ (vs : List SV) (L : List (List Int)), RdN (Hp w []) v vs L ∧ L.length ≤ 9223372036854775807 ∧ ∀ i, (L.getD i default).length ≤ 9223372036854775807 := by
  obtain ⟨A, len, cap, rfl⟩ := okWide_slice ht hv
  obtain ⟨fuel, hf⟩ := h
  have key : ∀ {n : Nat} {cs : List Value} {x : DataW H × List MemPlace}, DataW.trod enc P w base spare held n s cs = some x → cs.length = 1 → ∃ y : SV, cs = [y.v] ∧ ∃ l : List Int, Rd w y.v l := fun {n cs x} h hl => by
    obtain ⟨u, rfl⟩ : ∃ u, cs = [u] := by
      match cs, hl with
      | [u], _ => exact ⟨u, rfl⟩
    obtain ⟨l, hl, _⟩ := rd_cells (α := Int) hts h
    obtain ⟨A', c', hu, _⟩ := hl.form
    exact ⟨⟨A', l.length, c'⟩, by rw [hu]; rfl, l, by rw [hu] at hl; exact hl⟩
  obtain ⟨vs, h1, h2⟩ := rd_cellsW (α := SV) (W := fun y => ∃ l : List Int, Rd w y.v l) hc (fun h hl => key h hl) ht (by simpa [Value.cells] using hf)
  obtain ⟨L, hL, hL2⟩ := choose_list (α := List Int) (p := fun i l => Rd w (vs.getD i default).v l) vs.length fun i hi => h2 _ (by rw [List.getD_eq_getElem?_getD, List.getElem?_eq_getElem hi]; exact List.getElem_mem hi)
  have hin : ∀ i, Rd w (vs.getD i default).v (L.getD i default) := fun i => by
    rcases Nat.lt_or_ge i vs.length with hi | hi
    · exact hL2 i hi
    · rw [getD_none hi, getD_none (by omega)]
      exact Rd.nil w
  exact ⟨vs, L, ⟨RdH.of_rd h1, hL.symm, fun i => RdH.of_rd (hin i)⟩, by rw [hL]; exact h1.le, fun i => (hin i).le⟩
end
end Go.Proofs.Ytinnkclemjognaa
