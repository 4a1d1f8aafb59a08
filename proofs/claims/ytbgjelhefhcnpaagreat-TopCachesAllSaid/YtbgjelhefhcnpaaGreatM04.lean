/- Texts joined: LiftS, LiftA, Cut. Each part's own remark says what it proves. -/
import Derived.Test.YtbgjelhefhcnpaaGreatM02
import Derived.Test.YtbgjelhefhcnpaaGreatM03
import Derived.Deep.Slices
/- From the reading of an argument that is a slice to a list of the elements' own type. No conditions. -/
set_option linter.unusedVariables false
namespace Go.Proofs.YtbgjelhefhcnpaaGreat
open Go Go.ChangeShapes Go.WideShapes Go.ChangeAt Go.RowKit

def I64 (z : Int) : Prop := -9223372036854775808 ≤ z ∧ z ≤ 9223372036854775807
/-- A type whose readings are values of α. -/
class Rds (P : Program) (t : Nat) (α : outParam Type) [Enc α] (W : outParam (α → Prop)) : Prop where
  sz : P.cellsOf t = Enc.sz α
  rd : ∀ {H : Type} {enc : TypeId × Value → H} {w : World} {base : Nat} {spare : Nat → Bool} {held : Bool} {n : Nat} {cs : List Value} {x : DataW H × List MemPlace}, DataW.trod enc P w base spare held n t cs = some x → cs.length = Enc.sz α → ∃ a : α, cs = Enc.enc a ∧ W a
section
variable {H : Type} {enc : TypeId × Value → H} {P : Program} {w : World} {base : Nat} {spare : Nat → Bool} {held : Bool}
theorem wf_i64 {z : Int} (h : (Lit.int .i64 z).wf = true) : I64 z := bounds_i64 h
theorem rds_int {t : Nat} (hU : P.underlying t = some (.int .i64)) (hc : P.cellsOf t = 1) : Rds P t Int I64 := ⟨hc, fun h _ => by
  obtain ⟨n, rfl, _, hw⟩ := DataW.trod_int hU h
  exact ⟨n, rfl, wf_i64 hw⟩⟩
theorem rds_bool {t : Nat} (hU : P.underlying t = some .bool) (hc : P.cellsOf t = 1) : Rds P t Bool (fun _ => True) := ⟨hc, fun h _ => by
  obtain ⟨b, rfl, _⟩ := DataW.trod_bool hU h
  exact ⟨b, rfl, trivial⟩⟩
/-- A field of one cell. -/
theorem field_int {t i : Nat} {fs : Array Field} {f : Field} {cs : List Value} {x : DataW H × List MemPlace} {n : Nat} (hs : P.underlying t = some (.struct fs)) (hf : fs[i]? = some f) (hU : P.underlying f.type = some (.int .i64)) (hc : P.cellsOf f.type = 1)
    (h : DataW.trod enc P w base spare held n t cs = some x) : ∃ z, cs[f.offset]? = some (.int .i64 z) ∧ I64 z := by
  obtain ⟨xs, k, _, _, _, hlen, hg⟩ := DataW.trod_struct hs h
  have hil : i < xs.length := by rw [hlen]; exact (Array.getElem?_eq_some_iff.1 hf).1
  have := hg i f hf
  rw [List.getElem?_eq_getElem hil, hc] at this
  obtain ⟨z, h1, _, hw⟩ := DataW.trod_int hU this
  refine ⟨z, ?_, wf_i64 hw⟩
  have h2 : ((cs.drop f.offset).take 1)[0]? = some (.int .i64 z) := by rw [h1]; rfl
  rw [List.getElem?_take, if_pos (by omega), List.getElem?_drop] at h2
  exact h2
theorem field_bool {t i : Nat} {fs : Array Field} {f : Field} {cs : List Value} {x : DataW H × List MemPlace} {n : Nat} (hs : P.underlying t = some (.struct fs)) (hf : fs[i]? = some f) (hU : P.underlying f.type = some .bool) (hc : P.cellsOf f.type = 1)
    (h : DataW.trod enc P w base spare held n t cs = some x) : ∃ z, cs[f.offset]? = some (.bool z) := by
  obtain ⟨xs, k, _, _, _, hlen, hg⟩ := DataW.trod_struct hs h
  have hil : i < xs.length := by rw [hlen]; exact (Array.getElem?_eq_some_iff.1 hf).1
  have := hg i f hf
  rw [List.getElem?_eq_getElem hil, hc] at this
  obtain ⟨z, h1, _⟩ := DataW.trod_bool hU this
  refine ⟨z, ?_⟩
  have h2 : ((cs.drop f.offset).take 1)[0]? = some (.bool z) := by rw [h1]; rfl
  rw [List.getElem?_take, if_pos (by omega), List.getElem?_drop] at h2
  exact h2
theorem mem_getD {α : Type} [Inhabited α] {l : List α} {a : α} (h : a ∈ l) : ∃ j, j < l.length ∧ l.getD j default = a := by
  obtain ⟨j, hj, rfl⟩ := List.getElem_of_mem h
  exact ⟨j, hj, by rw [List.getD_eq_getElem?_getD, List.getElem?_eq_getElem hj]; rfl⟩
theorem choose_list {α : Type} [Inhabited α] {p : Nat → α → Prop} : ∀ n, (∀ i, i < n → ∃ a, p i a) → ∃ l : List α, l.length = n ∧ ∀ i, i < n → p i (l.getD i default)
  | 0, _ => ⟨[], rfl, fun i hi => by omega⟩
  | n + 1, h => by
    obtain ⟨l, hl, hp⟩ := choose_list n fun i hi => h i (by omega)
    obtain ⟨a, ha⟩ := h n (by omega)
    refine ⟨l ++ [a], by simp [hl], fun i hi => ?_⟩
    rw [List.getD_eq_getElem?_getD]
    by_cases hin : i < n
    · rw [List.getElem?_append_left (by omega), ← List.getD_eq_getElem?_getD]; exact hp i hin
    · have : i = n := by omega
      subst this
      rw [List.getElem?_append_right (by omega), hl, Nat.sub_self]; exact ha
theorem rd_cells {α : Type} [Enc α] {W : α → Prop} {t e fuel : Nat} {v : Value} {x : DataW H × List MemPlace} [hR : Rds P e α W] (ht : P.underlying t = some (.slice e)) (h : DataW.trod enc P w base spare held fuel t [v] = some x) :
    ∃ l : List α, Rd w v l ∧ ∀ a ∈ l, W a := by
  rcases Deep.open_slice ht h with ⟨h0, _⟩ | ⟨a, len, cap, m, n, D, Pl, h0, hb, hl, hm, hmm, _, hx⟩
  · simp only [List.cons.injEq, and_true] at h0
    subst h0
    exact ⟨[], Rd.nil w, fun a ha => by cases ha⟩
  · simp only [List.cons.injEq, and_true] at h0
    subst h0
    have hlm : len ≤ m := by rw [hmm]; split <;> omega
    have hpos : 0 < Enc.sz α := Enc.pos
    obtain ⟨l, hll, hl2⟩ := choose_list (α := α) (p := fun i y => w.cells? base (a.add (i * Enc.sz α)) (Enc.sz α) = some (Enc.enc y) ∧ W y) len fun i hi => by
      obtain ⟨cs', h1, h2⟩ := hx i (by omega)
      rw [hR.sz] at h1
      obtain ⟨y, rfl, hw⟩ := hR.rd h2 (World.cells?_some h1).2.1
      exact ⟨y, h1, hw⟩
    have hspot : l ≠ [] → a.spot = none := fun hne => by
      have h0 : 0 < len := by rw [← hll]; exact List.length_pos_iff.2 hne
      have h1 := (World.cells?_some (hl2 0 h0).1).2.2 0 hpos
      have h2 : (Enc.enc (l.getD 0 default))[0]? = some ((Enc.enc (l.getD 0 default))[0]'(by rw [Enc.len]; exact hpos)) := List.getElem?_eq_getElem _
      rw [h2] at h1
      simpa [Addr.add] using World.cell?_spot h1
    refine ⟨l, ⟨⟨some a, cap, by rw [hll], by omega, hm, fun hne => ?_⟩, fun i j u hi hu => ?_⟩, fun y hy => ?_⟩
    · obtain ⟨b, o, s⟩ := a
      have := hspot hne
      simp only at this
      subst this
      rfl
    · have hne : l ≠ [] := fun e => by rw [e] at hi; simp at hi
      have hj : j < Enc.sz α := by rw [← Enc.len (l.getD i default)]; exact (List.getElem?_eq_some_iff.1 hu).1
      have h1 := (World.cells?_some (hl2 i (by omega)).1).2.2 j hj
      rw [hu] at h1
      have := hspot hne
      obtain ⟨b, o, s⟩ := a
      simp only at this
      subst this
      rw [add_lit, add_lit] at h1
      exact h1
    · obtain ⟨j, hj, rfl⟩ := mem_getD hy
      exact (hl2 j (by omega)).2
theorem rd_arg {α : Type} [Enc α] {W : α → Prop} {r : Reach} {b0 t e : Nat} {v : Value} {d : DataW H} {p : List MemPlace} [hR : Rds P e α W] (ht : P.underlying t = some (.slice e)) (hv : Value.okWide P w r b0 t v) (h : DataW.Trod enc P w base spare held t v d p) :
    ∃ l : List α, Rd w v l ∧ ∀ a ∈ l, W a := by
  obtain ⟨A, len, cap, rfl⟩ := okWide_slice ht hv
  obtain ⟨fuel, hf⟩ := h
  exact rd_cells ht (by simpa [Value.cells] using hf)
/-- A struct by value. -/
theorem rd_val {α : Type} [Enc α] {W : α → Prop} {r : Reach} {b0 t : Nat} {fs : Array Field} {v : Value} {d : DataW H} {p : List MemPlace} [hR : Rds P t α W] (hs : P.underlying t = some (.struct fs)) (hv : Value.okWide P w r b0 t v) (h : DataW.Trod enc P w base spare held t v d p) :
    ∃ a : α, v = .agg (Enc.enc a).toArray ∧ W a := by
  obtain ⟨cs, rfl, hsz⟩ := okWide_struct hs hv
  obtain ⟨fuel, hf⟩ := h
  obtain ⟨a, ha, hw⟩ := hR.rd hf (by rw [← hR.sz]; simpa [Value.cells] using hsz)
  refine ⟨a, ?_, hw⟩
  rw [← ha]
  simp [Value.cells]
theorem ret_of_cal {f : Nat} {args : List Value} {b : Bool} {W : World} (h : Cal P f args (Hp W []) (fun _ : Unit => .bool b) (fun _ => Hp W [])) : Calls P f args.toArray W (Ret (.bool b) W) :=
  (h W (Hp.init W)).mono fun e w' ⟨_, he, hw⟩ => ⟨he, hw.below⟩
end
end Go.Proofs.YtbgjelhefhcnpaaGreat

/- From the reading of an argument that is an array by value to a list of its elements. No conditions. -/
set_option linter.unusedVariables false
namespace Go.Proofs.YtbgjelhefhcnpaaGreat
open Go Go.ChangeShapes Go.WideShapes Go.ChangeAt Go.RowKit
section
variable {H : Type} {enc : TypeId × Value → H} {P : Program} {w : World} {base : Nat} {spare : Nat → Bool} {held : Bool}
theorem okWide_arr {r : Reach} {b0 n e : Nat} {t : TypeId} {v : Value} (ht : P.underlying t = some (.array n e)) (h : Value.okWide P w r b0 t v) : ∃ cs, v = .agg cs ∧ cs.size = P.cellsOf t := by
  simp only [Value.okWide, ht] at h
  obtain ⟨cs, h1, h2, _⟩ := h
  exact ⟨cs, h1, h2⟩
theorem arr_cells {α : Type} [Enc α] {W : α → Prop} {t e n fuel : Nat} {cs : List Value} {x : DataW H × List MemPlace} [hR : Rds P e α W] (ht : P.underlying t = some (.array n e)) (hc : P.cellsOf t = n * P.cellsOf e) (h : DataW.trod enc P w base spare held fuel t cs = some x) :
    ∃ l : List α, cs = encs l ∧ l.length = n ∧ ∀ a ∈ l, W a := by
  obtain ⟨xs, m, _, _, hl, hx, hg⟩ := DataW.trod_array ht h
  rw [hc] at hl
  have hsz := hR.sz
  have hpos : 0 < Enc.sz α := Enc.pos
  obtain ⟨l, hll, hl2⟩ := choose_list (α := α) (p := fun i y => (cs.drop (i * Enc.sz α)).take (Enc.sz α) = Enc.enc y ∧ W y) n fun i hi => by
    have h1 := hg i hi
    rw [List.getElem?_eq_getElem (by omega), hsz] at h1
    have hlen : ((cs.drop (i * Enc.sz α)).take (Enc.sz α)).length = Enc.sz α := by
      have : (i + 1) * Enc.sz α ≤ n * Enc.sz α := Nat.mul_le_mul_right _ hi
      rw [Nat.add_mul] at this
      rw [List.length_take, List.length_drop, hl, hsz]
      omega
    obtain ⟨y, h2, h3⟩ := hR.rd h1 hlen
    exact ⟨y, h2, h3⟩
  refine ⟨l, ?_, hll, fun a ha => ?_⟩
  · apply List.ext_getElem?
    intro j
    by_cases hj : j < n * Enc.sz α
    · have hi : j / Enc.sz α < n := Nat.div_lt_of_lt_mul (by rw [Nat.mul_comm]; exact hj)
      have e1 : j / Enc.sz α * Enc.sz α + j % Enc.sz α = j := by rw [Nat.mul_comm]; exact Nat.div_add_mod j _
      have hm : j % Enc.sz α < Enc.sz α := Nat.mod_lt _ hpos
      have h1 := encs_get (l := l) (i := j / Enc.sz α) (j := j % Enc.sz α) (by omega) hm
      rw [e1, ← (hl2 _ hi).1, List.getElem?_take, if_pos hm, List.getElem?_drop, e1] at h1
      exact h1.symm
    · rw [List.getElem?_eq_none (by rw [hl, hsz]; omega), List.getElem?_eq_none (by rw [length_encs, hll]; omega)]
  · obtain ⟨j, hj, rfl⟩ := mem_getD ha
    exact (hl2 j (by omega)).2
theorem arr_val {α : Type} [Enc α] {W : α → Prop} {r : Reach} {b0 t e n : Nat} {v : Value} {d : DataW H} {p : List MemPlace} [hR : Rds P e α W] (ht : P.underlying t = some (.array n e)) (hc : P.cellsOf t = n * P.cellsOf e) (hv : Value.okWide P w r b0 t v) (h : DataW.Trod enc P w base spare held t v d p) :
    ∃ l : List α, v = .agg (encs l).toArray ∧ l.length = n ∧ ∀ a ∈ l, W a := by
  obtain ⟨cs, rfl, hsz⟩ := okWide_arr ht hv
  obtain ⟨fuel, hf⟩ := h
  obtain ⟨l, h1, h2, h3⟩ := arr_cells ht hc hf
  refine ⟨l, ?_, h2, h3⟩
  rw [← h1]
  simp [Value.cells]
theorem getD_all {α : Type} [Inhabited α] {l : List α} {Q : α → Prop} (h : ∀ a ∈ l, Q a) (hd : Q default) (j : Nat) : Q (l.getD j default) := by
  rcases Nat.lt_or_ge j l.length with hj | hj
  · rw [List.getD_eq_getElem?_getD, List.getElem?_eq_getElem hj]
    exact h _ (List.getElem_mem hj)
  · rw [List.getD_eq_getElem?_getD, List.getElem?_eq_none hj]
    exact hd
end
end Go.Proofs.YtbgjelhefhcnpaaGreat

/- Cuts, with what is known of their numbers. No conditions. -/
set_option linter.unusedSimpArgs false
set_option linter.unusedVariables false
namespace Go.Proofs.YtbgjelhefhcnpaaGreat
open Go Go.RowKit
section
variable {P : Program} {n : Nat} {Q : Exit → Act → World → Prop} {E : Env} {H : World → Prop} {x : Code} {F : Act → World → Prop}
def Mt1 [Dl] {α1 : Type} (n : Nat) (Ψ : α1 → Prop) (I : α1 → Env) (J : α1 → World → Prop) : Act → World → Prop := fun a w => ∃ s1, Ψ s1 ∧ FrOk n (I s1) a ∧ J s1 w
theorem tri_mt1 [Dl] {α1 : Type} {Ψ : α1 → Prop} {I : α1 → Env} {J : α1 → World → Prop} (s1' : α1) (hΨ : Ψ s1') (hE : Sub (I s1') E) (hH : ∀ w, H w → J s1' w) : Tri n (Mt1 n Ψ I J) E H := fun _ w h1 h2 => ⟨s1', hΨ, h1.sub hE, hH w h2⟩
theorem tri_cut1 [Dl] {α1 : Type} (Ψ : α1 → Prop) (I : α1 → Env) (J : α1 → World → Prop) (first : Tri n (x.wp P (Exit.then (Mt1 n Ψ I J) Q)) E H) (rest : ∀ s1, Ψ s1 → Tri n F (I s1) (J s1)) : Tri n (x.wp P (Exit.then F Q)) E H := fun a w h1 h2 =>
  (wp_mono (first a w h1 h2) fun e a' w' q => by
    cases e with
    | normal => obtain ⟨s1', h3, h4, h5⟩ := q; exact rest s1' h3 a' w' h4 h5
    | exit id => exact q
    | goto l => exact q
    | ret => exact q
    | panic ch => exact q
    | outgrown => exact q)
def Mt2 [Dl] {α1 α2 : Type} (n : Nat) (Ψ : α1 → α2 → Prop) (I : α1 → α2 → Env) (J : α1 → α2 → World → Prop) : Act → World → Prop := fun a w => ∃ s1 s2, Ψ s1 s2 ∧ FrOk n (I s1 s2) a ∧ J s1 s2 w
theorem tri_mt2 [Dl] {α1 α2 : Type} {Ψ : α1 → α2 → Prop} {I : α1 → α2 → Env} {J : α1 → α2 → World → Prop} (s1' : α1) (s2' : α2) (hΨ : Ψ s1' s2') (hE : Sub (I s1' s2') E) (hH : ∀ w, H w → J s1' s2' w) : Tri n (Mt2 n Ψ I J) E H := fun _ w h1 h2 => ⟨s1', s2', hΨ, h1.sub hE, hH w h2⟩
theorem tri_cut2 [Dl] {α1 α2 : Type} (Ψ : α1 → α2 → Prop) (I : α1 → α2 → Env) (J : α1 → α2 → World → Prop) (first : Tri n (x.wp P (Exit.then (Mt2 n Ψ I J) Q)) E H) (rest : ∀ s1 s2, Ψ s1 s2 → Tri n F (I s1 s2) (J s1 s2)) : Tri n (x.wp P (Exit.then F Q)) E H := fun a w h1 h2 =>
  (wp_mono (first a w h1 h2) fun e a' w' q => by
    cases e with
    | normal => obtain ⟨s1', s2', h3, h4, h5⟩ := q; exact rest s1' s2' h3 a' w' h4 h5
    | exit id => exact q
    | goto l => exact q
    | ret => exact q
    | panic ch => exact q
    | outgrown => exact q)
def Mt3 [Dl] {α1 α2 α3 : Type} (n : Nat) (Ψ : α1 → α2 → α3 → Prop) (I : α1 → α2 → α3 → Env) (J : α1 → α2 → α3 → World → Prop) : Act → World → Prop := fun a w => ∃ s1 s2 s3, Ψ s1 s2 s3 ∧ FrOk n (I s1 s2 s3) a ∧ J s1 s2 s3 w
theorem tri_mt3 [Dl] {α1 α2 α3 : Type} {Ψ : α1 → α2 → α3 → Prop} {I : α1 → α2 → α3 → Env} {J : α1 → α2 → α3 → World → Prop} (s1' : α1) (s2' : α2) (s3' : α3) (hΨ : Ψ s1' s2' s3') (hE : Sub (I s1' s2' s3') E) (hH : ∀ w, H w → J s1' s2' s3' w) : Tri n (Mt3 n Ψ I J) E H := fun _ w h1 h2 => ⟨s1', s2', s3', hΨ, h1.sub hE, hH w h2⟩
theorem tri_cut3 [Dl] {α1 α2 α3 : Type} (Ψ : α1 → α2 → α3 → Prop) (I : α1 → α2 → α3 → Env) (J : α1 → α2 → α3 → World → Prop) (first : Tri n (x.wp P (Exit.then (Mt3 n Ψ I J) Q)) E H) (rest : ∀ s1 s2 s3, Ψ s1 s2 s3 → Tri n F (I s1 s2 s3) (J s1 s2 s3)) : Tri n (x.wp P (Exit.then F Q)) E H := fun a w h1 h2 =>
  (wp_mono (first a w h1 h2) fun e a' w' q => by
    cases e with
    | normal => obtain ⟨s1', s2', s3', h3, h4, h5⟩ := q; exact rest s1' s2' s3' h3 a' w' h4 h5
    | exit id => exact q
    | goto l => exact q
    | ret => exact q
    | panic ch => exact q
    | outgrown => exact q)
def Mt4 [Dl] {α1 α2 α3 α4 : Type} (n : Nat) (Ψ : α1 → α2 → α3 → α4 → Prop) (I : α1 → α2 → α3 → α4 → Env) (J : α1 → α2 → α3 → α4 → World → Prop) : Act → World → Prop := fun a w => ∃ s1 s2 s3 s4, Ψ s1 s2 s3 s4 ∧ FrOk n (I s1 s2 s3 s4) a ∧ J s1 s2 s3 s4 w
theorem tri_mt4 [Dl] {α1 α2 α3 α4 : Type} {Ψ : α1 → α2 → α3 → α4 → Prop} {I : α1 → α2 → α3 → α4 → Env} {J : α1 → α2 → α3 → α4 → World → Prop} (s1' : α1) (s2' : α2) (s3' : α3) (s4' : α4) (hΨ : Ψ s1' s2' s3' s4') (hE : Sub (I s1' s2' s3' s4') E) (hH : ∀ w, H w → J s1' s2' s3' s4' w) : Tri n (Mt4 n Ψ I J) E H := fun _ w h1 h2 => ⟨s1', s2', s3', s4', hΨ, h1.sub hE, hH w h2⟩
theorem tri_cut4 [Dl] {α1 α2 α3 α4 : Type} (Ψ : α1 → α2 → α3 → α4 → Prop) (I : α1 → α2 → α3 → α4 → Env) (J : α1 → α2 → α3 → α4 → World → Prop) (first : Tri n (x.wp P (Exit.then (Mt4 n Ψ I J) Q)) E H) (rest : ∀ s1 s2 s3 s4, Ψ s1 s2 s3 s4 → Tri n F (I s1 s2 s3 s4) (J s1 s2 s3 s4)) : Tri n (x.wp P (Exit.then F Q)) E H := fun a w h1 h2 =>
  (wp_mono (first a w h1 h2) fun e a' w' q => by
    cases e with
    | normal => obtain ⟨s1', s2', s3', s4', h3, h4, h5⟩ := q; exact rest s1' s2' s3' s4' h3 a' w' h4 h5
    | exit id => exact q
    | goto l => exact q
    | ret => exact q
    | panic ch => exact q
    | outgrown => exact q)
def Mt5 [Dl] {α1 α2 α3 α4 α5 : Type} (n : Nat) (Ψ : α1 → α2 → α3 → α4 → α5 → Prop) (I : α1 → α2 → α3 → α4 → α5 → Env) (J : α1 → α2 → α3 → α4 → α5 → World → Prop) : Act → World → Prop := fun a w => ∃ s1 s2 s3 s4 s5, Ψ s1 s2 s3 s4 s5 ∧ FrOk n (I s1 s2 s3 s4 s5) a ∧ J s1 s2 s3 s4 s5 w
theorem tri_mt5 [Dl] {α1 α2 α3 α4 α5 : Type} {Ψ : α1 → α2 → α3 → α4 → α5 → Prop} {I : α1 → α2 → α3 → α4 → α5 → Env} {J : α1 → α2 → α3 → α4 → α5 → World → Prop} (s1' : α1) (s2' : α2) (s3' : α3) (s4' : α4) (s5' : α5) (hΨ : Ψ s1' s2' s3' s4' s5') (hE : Sub (I s1' s2' s3' s4' s5') E) (hH : ∀ w, H w → J s1' s2' s3' s4' s5' w) : Tri n (Mt5 n Ψ I J) E H := fun _ w h1 h2 => ⟨s1', s2', s3', s4', s5', hΨ, h1.sub hE, hH w h2⟩
theorem tri_cut5 [Dl] {α1 α2 α3 α4 α5 : Type} (Ψ : α1 → α2 → α3 → α4 → α5 → Prop) (I : α1 → α2 → α3 → α4 → α5 → Env) (J : α1 → α2 → α3 → α4 → α5 → World → Prop) (first : Tri n (x.wp P (Exit.then (Mt5 n Ψ I J) Q)) E H) (rest : ∀ s1 s2 s3 s4 s5, Ψ s1 s2 s3 s4 s5 → Tri n F (I s1 s2 s3 s4 s5) (J s1 s2 s3 s4 s5)) : Tri n (x.wp P (Exit.then F Q)) E H := fun a w h1 h2 =>
  (wp_mono (first a w h1 h2) fun e a' w' q => by
    cases e with
    | normal => obtain ⟨s1', s2', s3', s4', s5', h3, h4, h5⟩ := q; exact rest s1' s2' s3' s4' s5' h3 a' w' h4 h5
    | exit id => exact q
    | goto l => exact q
    | ret => exact q
    | panic ch => exact q
    | outgrown => exact q)
def Mt6 [Dl] {α1 α2 α3 α4 α5 α6 : Type} (n : Nat) (Ψ : α1 → α2 → α3 → α4 → α5 → α6 → Prop) (I : α1 → α2 → α3 → α4 → α5 → α6 → Env) (J : α1 → α2 → α3 → α4 → α5 → α6 → World → Prop) : Act → World → Prop := fun a w => ∃ s1 s2 s3 s4 s5 s6, Ψ s1 s2 s3 s4 s5 s6 ∧ FrOk n (I s1 s2 s3 s4 s5 s6) a ∧ J s1 s2 s3 s4 s5 s6 w
theorem tri_mt6 [Dl] {α1 α2 α3 α4 α5 α6 : Type} {Ψ : α1 → α2 → α3 → α4 → α5 → α6 → Prop} {I : α1 → α2 → α3 → α4 → α5 → α6 → Env} {J : α1 → α2 → α3 → α4 → α5 → α6 → World → Prop} (s1' : α1) (s2' : α2) (s3' : α3) (s4' : α4) (s5' : α5) (s6' : α6) (hΨ : Ψ s1' s2' s3' s4' s5' s6') (hE : Sub (I s1' s2' s3' s4' s5' s6') E) (hH : ∀ w, H w → J s1' s2' s3' s4' s5' s6' w) : Tri n (Mt6 n Ψ I J) E H := fun _ w h1 h2 => ⟨s1', s2', s3', s4', s5', s6', hΨ, h1.sub hE, hH w h2⟩
theorem tri_cut6 [Dl] {α1 α2 α3 α4 α5 α6 : Type} (Ψ : α1 → α2 → α3 → α4 → α5 → α6 → Prop) (I : α1 → α2 → α3 → α4 → α5 → α6 → Env) (J : α1 → α2 → α3 → α4 → α5 → α6 → World → Prop) (first : Tri n (x.wp P (Exit.then (Mt6 n Ψ I J) Q)) E H) (rest : ∀ s1 s2 s3 s4 s5 s6, Ψ s1 s2 s3 s4 s5 s6 → Tri n F (I s1 s2 s3 s4 s5 s6) (J s1 s2 s3 s4 s5 s6)) : Tri n (x.wp P (Exit.then F Q)) E H := fun a w h1 h2 =>
  (wp_mono (first a w h1 h2) fun e a' w' q => by
    cases e with
    | normal => obtain ⟨s1', s2', s3', s4', s5', s6', h3, h4, h5⟩ := q; exact rest s1' s2' s3' s4' s5' s6' h3 a' w' h4 h5
    | exit id => exact q
    | goto l => exact q
    | ret => exact q
    | panic ch => exact q
    | outgrown => exact q)
def Mt7 [Dl] {α1 α2 α3 α4 α5 α6 α7 : Type} (n : Nat) (Ψ : α1 → α2 → α3 → α4 → α5 → α6 → α7 → Prop) (I : α1 → α2 → α3 → α4 → α5 → α6 → α7 → Env) (J : α1 → α2 → α3 → α4 → α5 → α6 → α7 → World → Prop) : Act → World → Prop := fun a w => ∃ s1 s2 s3 s4 s5 s6 s7, Ψ s1 s2 s3 s4 s5 s6 s7 ∧ FrOk n (I s1 s2 s3 s4 s5 s6 s7) a ∧ J s1 s2 s3 s4 s5 s6 s7 w
theorem tri_mt7 [Dl] {α1 α2 α3 α4 α5 α6 α7 : Type} {Ψ : α1 → α2 → α3 → α4 → α5 → α6 → α7 → Prop} {I : α1 → α2 → α3 → α4 → α5 → α6 → α7 → Env} {J : α1 → α2 → α3 → α4 → α5 → α6 → α7 → World → Prop} (s1' : α1) (s2' : α2) (s3' : α3) (s4' : α4) (s5' : α5) (s6' : α6) (s7' : α7) (hΨ : Ψ s1' s2' s3' s4' s5' s6' s7') (hE : Sub (I s1' s2' s3' s4' s5' s6' s7') E) (hH : ∀ w, H w → J s1' s2' s3' s4' s5' s6' s7' w) : Tri n (Mt7 n Ψ I J) E H := fun _ w h1 h2 => ⟨s1', s2', s3', s4', s5', s6', s7', hΨ, h1.sub hE, hH w h2⟩
theorem tri_cut7 [Dl] {α1 α2 α3 α4 α5 α6 α7 : Type} (Ψ : α1 → α2 → α3 → α4 → α5 → α6 → α7 → Prop) (I : α1 → α2 → α3 → α4 → α5 → α6 → α7 → Env) (J : α1 → α2 → α3 → α4 → α5 → α6 → α7 → World → Prop) (first : Tri n (x.wp P (Exit.then (Mt7 n Ψ I J) Q)) E H) (rest : ∀ s1 s2 s3 s4 s5 s6 s7, Ψ s1 s2 s3 s4 s5 s6 s7 → Tri n F (I s1 s2 s3 s4 s5 s6 s7) (J s1 s2 s3 s4 s5 s6 s7)) : Tri n (x.wp P (Exit.then F Q)) E H := fun a w h1 h2 =>
  (wp_mono (first a w h1 h2) fun e a' w' q => by
    cases e with
    | normal => obtain ⟨s1', s2', s3', s4', s5', s6', s7', h3, h4, h5⟩ := q; exact rest s1' s2' s3' s4' s5' s6' s7' h3 a' w' h4 h5
    | exit id => exact q
    | goto l => exact q
    | ret => exact q
    | panic ch => exact q
    | outgrown => exact q)
end
end Go.Proofs.YtbgjelhefhcnpaaGreat
