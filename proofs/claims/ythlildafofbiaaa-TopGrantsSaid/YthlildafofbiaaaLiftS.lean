/- From the reading of an argument that is a slice to a list of the elements' own type. No conditions. -/
import Derived.Test.YthlildafofbiaaaLift
import Derived.Test.YthlildafofbiaaaSl
import Derived.Deep.Slices
set_option linter.unusedVariables false
namespace Go.Proofs.Ythlildafofbiaaa
open Go Go.ChangeShapes Go.WideShapes Go.ChangeAt Go.RowKit

def I64 (z : Int) : Prop := -9223372036854775808 ≤ z ∧ z ≤ 9223372036854775807
/-- A type whose readings are values of α. -/
class Rds (P : Program) (t : Nat) (α : outParam Type) [Enc α] (W : outParam (α → Prop)) : Prop where
  sz : P.cellsOf t = Enc.sz α
  rd : ∀ {H : Type} {enc : TypeId × Value → H} {w : World} {base : Nat} {spare : Nat → Bool} {held : Bool} {n : Nat} {cs : List Value} {x : DataW H × List MemPlace}, DataW.trod enc P w base spare held n t cs = some x → cs.length = Enc.sz α → ∃ a : α, cs = Enc.enc a ∧ W a
section
variable {H : Type} {enc : TypeId × Value → H} {P : Program} {w : World} {base : Nat} {spare : Nat → Bool} {held : Bool}
theorem wf_i64 {z : Int} (h : (Lit.int .i64 z).wf = true) : I64 z := bounds_i64 h
theorem rds_int {t : Nat} (hU : P.underlying t = some (.int .i64)) (hc : P.cellsOf t = 1) : Rds P t Int I64 := ⟨hc, fun h _ => by
  obtain ⟨n, rfl, _, hw⟩ := DataW.trod_int hU h
  exact ⟨n, rfl, wf_i64 hw⟩⟩
theorem rds_bool {t : Nat} (hU : P.underlying t = some .bool) (hc : P.cellsOf t = 1) : Rds P t Bool (fun _ => True) := ⟨hc, fun h _ => by
  obtain ⟨b, rfl, _⟩ := DataW.trod_bool hU h
  exact ⟨b, rfl, trivial⟩⟩
/-- A field of one cell. -/
theorem field_int {t i : Nat} {fs : Array Field} {f : Field} {cs : List Value} {x : DataW H × List MemPlace} {n : Nat} (hs : P.underlying t = some (.struct fs)) (hf : fs[i]? = some f) (hU : P.underlying f.type = some (.int .i64)) (hc : P.cellsOf f.type = 1)
    (h : DataW.trod enc P w base spare held n t cs = some x) : ∃ z, cs[f.offset]? = some (.int .i64 z) ∧ I64 z := by
  obtain ⟨xs, k, _, _, _, hlen, hg⟩ := DataW.trod_struct hs h
  have hil : i < xs.length := by rw [hlen]; exact (Array.getElem?_eq_some_iff.1 hf).1
  have := hg i f hf
  rw [List.getElem?_eq_getElem hil, hc] at this
  obtain ⟨z, h1, _, hw⟩ := DataW.trod_int hU this
  refine ⟨z, ?_, wf_i64 hw⟩
  have h2 : ((cs.drop f.offset).take 1)[0]? = some (.int .i64 z) := by rw [h1]; rfl
  rw [List.getElem?_take, if_pos (by omega), List.getElem?_drop] at h2
  exact h2
theorem field_bool {t i : Nat} {fs : Array Field} {f : Field} {cs : List Value} {x : DataW H × List MemPlace} {n : Nat} (hs : P.underlying t = some (.struct fs)) (hf : fs[i]? = some f) (hU : P.underlying f.type = some .bool) (hc : P.cellsOf f.type = 1)
    (h : DataW.trod enc P w base spare held n t cs = some x) : ∃ z, cs[f.offset]? = some (.bool z) := by
  obtain ⟨xs, k, _, _, _, hlen, hg⟩ := DataW.trod_struct hs h
  have hil : i < xs.length := by rw [hlen]; exact (Array.getElem?_eq_some_iff.1 hf).1
  have := hg i f hf
  rw [List.getElem?_eq_getElem hil, hc] at this
  obtain ⟨z, h1, _⟩ := DataW.trod_bool hU this
  refine ⟨z, ?_⟩
  have h2 : ((cs.drop f.offset).take 1)[0]? = some (.bool z) := by rw [h1]; rfl
  rw [List.getElem?_take, if_pos (by omega), List.getElem?_drop] at h2
  exact h2
theorem mem_getD {α : Type} [Inhabited α] {l : List α} {a : α} (h : a ∈ l) : ∃ j, j < l.length ∧ l.getD j default = a := by
  obtain ⟨j, hj, rfl⟩ := List.getElem_of_mem h
  exact ⟨j, hj, by rw [List.getD_eq_getElem?_getD, List.getElem?_eq_getElem hj]; rfl⟩
theorem choose_list {α : Type} [Inhabited α] {p : Nat → α → Prop} : ∀ n, (∀ i, i < n → ∃ a, p i a) → ∃ l : List α, l.length = n ∧ ∀ i, i < n → p i (l.getD i default)
  | 0, _ => ⟨[], rfl, fun i hi => by omega⟩
  | n + 1, h => by
    obtain ⟨l, hl, hp⟩ := choose_list n fun i hi => h i (by omega)
    obtain ⟨a, ha⟩ := h n (by omega)
    refine ⟨l ++ [a], by simp [hl], fun i hi => ?_⟩
    rw [List.getD_eq_getElem?_getD]
    by_cases hin : i < n
    · rw [List.getElem?_append_left (by omega), ← List.getD_eq_getElem?_getD]; exact hp i hin
    · have : i = n := by omega
      subst this
      rw [List.getElem?_append_right (by omega), hl, Nat.sub_self]; exact ha
theorem rd_cells {α : Type} [Enc α] {W : α → Prop} {t e fuel : Nat} {v : Value} {x : DataW H × List MemPlace} [hR : Rds P e α W] (ht : P.underlying t = some (.slice e)) (h : DataW.trod enc P w base spare held fuel t [v] = some x) :
    ∃ l : List α, Rd w v l ∧ ∀ a ∈ l, W a := by
  rcases Deep.open_slice ht h with ⟨h0, _⟩ | ⟨a, len, cap, m, n, D, Pl, h0, hb, hl, hm, hmm, _, hx⟩
  · simp only [List.cons.injEq, and_true] at h0
    subst h0
    exact ⟨[], Rd.nil w, fun a ha => by cases ha⟩
  · simp only [List.cons.injEq, and_true] at h0
    subst h0
    have hlm : len ≤ m := by rw [hmm]; split <;> omega
    have hpos : 0 < Enc.sz α := Enc.pos
    obtain ⟨l, hll, hl2⟩ := choose_list (α := α) (p := fun i y => w.cells? base (a.add (i * Enc.sz α)) (Enc.sz α) = some (Enc.enc y) ∧ W y) len fun i hi => by
      obtain ⟨cs', h1, h2⟩ := hx i (by omega)
      rw [hR.sz] at h1
      obtain ⟨y, rfl, hw⟩ := hR.rd h2 (World.cells?_some h1).2.1
      exact ⟨y, h1, hw⟩
    have hspot : l ≠ [] → a.spot = none := fun hne => by
      have h0 : 0 < len := by rw [← hll]; exact List.length_pos_iff.2 hne
      have h1 := (World.cells?_some (hl2 0 h0).1).2.2 0 hpos
      have h2 : (Enc.enc (l.getD 0 default))[0]? = some ((Enc.enc (l.getD 0 default))[0]'(by rw [Enc.len]; exact hpos)) := List.getElem?_eq_getElem _
      rw [h2] at h1
      simpa [Addr.add] using World.cell?_spot h1
    refine ⟨l, ⟨⟨some a, cap, by rw [hll], by omega, hm, fun hne => ?_⟩, fun i j u hi hu => ?_⟩, fun y hy => ?_⟩
    · obtain ⟨b, o, s⟩ := a
      have := hspot hne
      simp only at this
      subst this
      rfl
    · have hne : l ≠ [] := fun e => by rw [e] at hi; simp at hi
      have hj : j < Enc.sz α := by rw [← Enc.len (l.getD i default)]; exact (List.getElem?_eq_some_iff.1 hu).1
      have h1 := (World.cells?_some (hl2 i (by omega)).1).2.2 j hj
      rw [hu] at h1
      have := hspot hne
      obtain ⟨b, o, s⟩ := a
      simp only at this
      subst this
      rw [add_lit, add_lit] at h1
      exact h1
    · obtain ⟨j, hj, rfl⟩ := mem_getD hy
      exact (hl2 j (by omega)).2
theorem rd_arg {α : Type} [Enc α] {W : α → Prop} {r : Reach} {b0 t e : Nat} {v : Value} {d : DataW H} {p : List MemPlace} [hR : Rds P e α W] (ht : P.underlying t = some (.slice e)) (hv : Value.okWide P w r b0 t v) (h : DataW.Trod enc P w base spare held t v d p) :
    ∃ l : List α, Rd w v l ∧ ∀ a ∈ l, W a := by
  obtain ⟨A, len, cap, rfl⟩ := okWide_slice ht hv
  obtain ⟨fuel, hf⟩ := h
  exact rd_cells ht (by simpa [Value.cells] using hf)
/-- A struct by value. -/
theorem rd_val {α : Type} [Enc α] {W : α → Prop} {r : Reach} {b0 t : Nat} {fs : Array Field} {v : Value} {d : DataW H} {p : List MemPlace} [hR : Rds P t α W] (hs : P.underlying t = some (.struct fs)) (hv : Value.okWide P w r b0 t v) (h : DataW.Trod enc P w base spare held t v d p) :
    ∃ a : α, v = .agg (Enc.enc a).toArray ∧ W a := by
  obtain ⟨cs, rfl, hsz⟩ := okWide_struct hs hv
  obtain ⟨fuel, hf⟩ := h
  obtain ⟨a, ha, hw⟩ := hR.rd hf (by rw [← hR.sz]; simpa [Value.cells] using hsz)
  refine ⟨a, ?_, hw⟩
  rw [← ha]
  simp [Value.cells]
theorem ret_of_cal {f : Nat} {args : List Value} {b : Bool} {W : World} (h : Cal P f args (Hp W []) (fun _ : Unit => .bool b) (fun _ => Hp W [])) : Calls P f args.toArray W (Ret (.bool b) W) :=
  (h W (Hp.init W)).mono fun e w' ⟨_, he, hw⟩ => ⟨he, hw.below⟩
end
end Go.Proofs.Ythlildafofbiaaa
