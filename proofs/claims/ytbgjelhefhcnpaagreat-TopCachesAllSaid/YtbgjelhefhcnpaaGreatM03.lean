/- Texts joined: Sl. Each part's own remark says what it proves. -/
import Derived.Test.YtbgjelhefhcnpaaGreatM01
import Derived.Maps.AppendAt
import Derived.Laws.MakeOwn
import Derived.Laws.Cover3
/- Slices over the engine: a slice that reads as a list of a type that goes into cells, rows of the call's own, calls that make rows or turn them. No conditions. -/
set_option linter.unusedSimpArgs false
set_option linter.unusedVariables false
namespace Go.Proofs.YtbgjelhefhcnpaaGreat
open Go Go.RowKit

theorem has_cons {c d : Chunk} {cs : List Chunk} (h : Has cs c) : Has (d :: cs) c := h.elim fun i hi => ⟨i + 1, hi⟩
/-- Values of a type, as cells. -/
class Enc (α : Type) extends Inhabited α where
  sz : Nat
  enc : α → List Value
  dec : List Value → α
  len : ∀ a, (enc a).length = sz
  one : ∀ a, ∀ u ∈ enc a, u.oneCell' = true
  pos : 0 < sz
open Enc (enc dec)
def encs {α : Type} [Enc α] (l : List α) : List Value := l.flatMap enc
section
variable {α : Type} [Enc α]
theorem length_encs (l : List α) : (encs l).length = l.length * Enc.sz α := by
  induction l with
  | nil => simp [encs]
  | cons a l ih =>
    have : encs (a :: l) = enc a ++ encs l := by simp [encs]
    rw [this, List.length_append, ih, Enc.len, List.length_cons, Nat.add_mul]; omega
theorem encs_nil : encs ([] : List α) = [] := rfl
theorem encs_cons (a : α) (l : List α) : encs (a :: l) = enc a ++ encs l := by simp [encs]
theorem encs_append (l r : List α) : encs (l ++ r) = encs l ++ encs r := by simp [encs]
theorem one_encs (l : List α) : ∀ u ∈ encs l, u.oneCell' = true := fun u hu => by
  obtain ⟨a, _, h⟩ := List.mem_flatMap.1 hu
  exact Enc.one a u h
theorem encs_get {l : List α} {i j : Nat} (hi : i < l.length) (hj : j < Enc.sz α) : (encs l)[i * Enc.sz α + j]? = (enc (l.getD i default))[j]? := by
  induction l generalizing i with
  | nil => simp at hi
  | cons a l ih =>
    rw [encs_cons]
    cases i with
    | zero => rw [List.getElem?_append_left (by rw [Enc.len]; omega)]; simp
    | succ i =>
      rw [List.getElem?_append_right (by rw [Enc.len, Nat.add_mul]; omega), Enc.len]
      have e : (i + 1) * Enc.sz α + j - Enc.sz α = i * Enc.sz α + j := by rw [Nat.add_mul]; omega
      rw [e, ih (by simpa using hi)]
      simp
theorem encs_take (l : List α) (i : Nat) : (encs l).take (i * Enc.sz α) = encs (l.take i) := by
  induction l generalizing i with
  | nil => simp [encs_nil]
  | cons a l ih =>
    cases i with
    | zero => simp [encs_nil]
    | succ i =>
      have e : (i + 1) * Enc.sz α = (enc a).length + i * Enc.sz α := by rw [Enc.len, Nat.add_mul]; omega
      rw [encs_cons, e, List.take_append, List.take_of_length_le (by omega), Nat.add_sub_cancel_left, ih, List.take_succ_cons, encs_cons]
theorem encs_drop (l : List α) (i : Nat) : (encs l).drop (i * Enc.sz α) = encs (l.drop i) := by
  induction l generalizing i with
  | nil => simp [encs_nil]
  | cons a l ih =>
    cases i with
    | zero => simp
    | succ i =>
      have e : (i + 1) * Enc.sz α = (enc a).length + i * Enc.sz α := by rw [Enc.len, Nat.add_mul]; omega
      rw [encs_cons, e, List.drop_append, List.drop_of_length_le (by omega), Nat.add_sub_cancel_left, ih]
      simp
theorem setL_append_left : ∀ (vs a b : List Value) (f : Nat), f + vs.length ≤ a.length → setL (a ++ b) f vs = setL a f vs ++ b
  | [], a, b, f, _ => rfl
  | v :: vs, a, b, f, h => by
    simp only [List.length_cons] at h
    rw [setL, setL, List.set_append_left _ _ (by omega)]
    exact setL_append_left vs _ b (f + 1) (by simp; omega)
theorem setL_append_right : ∀ (vs a b : List Value) (f : Nat), setL (a ++ b) (a.length + f) vs = a ++ setL b f vs
  | [], a, b, f => rfl
  | v :: vs, a, b, f => by
    rw [setL, setL, List.set_append_right _ _ (by omega), Nat.add_sub_cancel_left, Nat.add_assoc]
    exact setL_append_right vs a _ (f + 1)
theorem encs_set {l : List α} {i f : Nat} {vs : List Value} {a : α} (hi : i < l.length) (hf : f + vs.length ≤ Enc.sz α) (ha : setL (enc (l.getD i default)) f vs = enc a) : setL (encs l) (i * Enc.sz α + f) vs = encs (l.set i a) := by
  induction l generalizing i with
  | nil => simp at hi
  | cons b l ih =>
    rw [encs_cons]
    cases i with
    | zero =>
      simp only [Nat.zero_mul, Nat.zero_add, List.set_cons_zero, encs_cons]
      rw [setL_append_left _ _ _ _ (by rw [Enc.len]; exact hf)]
      simp only [List.getD_cons_zero] at ha
      rw [ha]
    | succ i =>
      have e : (i + 1) * Enc.sz α + f = (enc b).length + (i * Enc.sz α + f) := by rw [Enc.len, Nat.add_mul]; omega
      rw [e, setL_append_right, ih (by simpa using hi) (by simpa using ha), List.set_cons_succ, encs_cons]
end

instance : Enc Int := ⟨1, fun i => [.int .i64 i], fun cs => match cs with | [.int _ i] => i | _ => 0, fun _ => rfl, fun _ u hu => by simp at hu; subst hu; rfl, by decide⟩
instance : Enc Bool := ⟨1, fun b => [.bool b], fun cs => match cs with | [.bool b] => b | _ => false, fun _ => rfl, fun _ u hu => by simp at hu; subst hu; rfl, by decide⟩

/- A slice that reads as a list. -/
def bk : Value → Nat
  | .slice (some a) _ _ => a.block
  | _ => 0
def of : Value → Nat
  | .slice (some a) _ _ => a.off
  | _ => 0
def isNil : Value → Bool
  | .slice none _ _ => true
  | _ => false
/-- The address of a field of element i. -/
@[irreducible] def eP (v : Value) (i sz f : Nat) : Value := .pointer (some ⟨bk v, of v + i * sz + f, none⟩)
theorem eP_eq (v : Value) (i sz f : Nat) : eP v i sz f = .pointer (some ⟨bk v, of v + i * sz + f, none⟩) := by unfold eP; rfl
structure Rd {α : Type} [Enc α] (w : World) (v : Value) (l : List α) : Prop where
  form : ∃ A c, v = .slice A l.length c ∧ l.length ≤ c ∧ c ≤ maxLen ∧ (l ≠ [] → A = some ⟨bk v, of v, none⟩)
  cell : ∀ i j u, i < l.length → (enc (l.getD i default))[j]? = some u → w.cell? ⟨bk v, of v + i * Enc.sz α + j, none⟩ = some u
def RdH {α : Type} [Enc α] (H : World → Prop) (v : Value) (l : List α) : Prop := ∀ w, H w → Rd w v l
section
variable {α : Type} [Enc α] {w w' : World} {v : Value} {l : List α} {H : World → Prop}
theorem Rd.keep (h : Rd w v l) (hk : ∀ b, b < w.heap.size → w'.heap[b]? = w.heap[b]?) : Rd w' v l :=
  ⟨h.form, fun i j u hi hu => by
    have := h.cell i j u hi hu
    exact (World.cell?_of_block (hk _ (World.block_lt_of_cell? w _ this))).trans this⟩
theorem Rd.below (h : Rd w v l) (hb : Below w.heap.size w w') : Rd w' v l := h.keep fun b hb' => hb.block b hb'
theorem Rd.le (h : Rd w v l) : l.length ≤ 9223372036854775807 := by
  obtain ⟨A, c, _, h1, h2, _⟩ := h.form
  simp only [maxLen] at h2; omega
theorem Rd.nil (w : World) : Rd w (.slice none 0 0) ([] : List α) := ⟨⟨none, 0, rfl, Nat.le_refl _, Nat.zero_le _, fun h => absurd rfl h⟩, fun i j u hi => by simp at hi⟩
theorem Rd.isNil (h : Rd w v l) (hn : isNil v = true) : l = [] := by
  obtain ⟨A, c, rfl, _, _, h1⟩ := h.form
  cases l with
  | nil => rfl
  | cons a l =>
    have := h1 (by simp)
    cases A with
    | none => cases this
    | some a => cases hn
/-- All the cells of a list, one behind the other. -/
theorem Rd.cells (h : Rd w v l) {k : Nat} {u : Value} (hu : (encs l)[k]? = some u) : w.cell? ⟨bk v, of v + k, none⟩ = some u := by
  have hp := Enc.pos (α := α)
  have hk : k < l.length * Enc.sz α := by rw [← length_encs]; exact (List.getElem?_eq_some_iff.1 hu).1
  have hi : k / Enc.sz α < l.length := Nat.div_lt_of_lt_mul (by rw [Nat.mul_comm]; exact hk)
  have e : k / Enc.sz α * Enc.sz α + k % Enc.sz α = k := by rw [Nat.mul_comm]; exact Nat.div_add_mod k _
  have := h.cell (k / Enc.sz α) (k % Enc.sz α) u hi (by rw [← encs_get hi (Nat.mod_lt _ hp), e]; exact hu)
  rw [Nat.add_assoc, e] at this
  exact this
end

/- Rows of the call's own. -/
structure Row where
  A : Option Addr
  len : Nat
  cap : Nat
  lo : Nat
  hi : Nat
def Row.v (r : Row) : Value := .slice r.A r.len r.cap
structure Own {α : Type} [Enc α] (w : World) (r : Row) (e : Nat) (l : List α) : Prop where
  len : r.len = l.length
  lec : r.len ≤ r.cap
  cap : r.cap ≤ maxLen
  row : (r.A = none ∧ r.len = 0 ∧ r.cap = 0) ∨ ∃ g o cur, r.A = some ⟨g, o, none⟩ ∧ r.lo ≤ g ∧ g < r.hi ∧ w.heap[g]? = some (.cells cur e (0, 0)) ∧ o + r.cap * Enc.sz α ≤ cur.size ∧ (cur.toList.drop o).take (r.len * Enc.sz α) = encs l
/-- A row of the call's own. -/
def slC {α : Type} [Enc α] (r : Row) (e : Nat) (l : List α) : Chunk where
  lo := r.lo
  hi := r.hi
  P := fun w => Own w r e l
  st := fun w w' hk h => ⟨h.len, h.lec, h.cap, by
    rcases h.row with h1 | ⟨g, o, cur, h1, h2, h3, h4, h5⟩
    · exact .inl h1
    · exact .inr ⟨g, o, cur, h1, h2, h3, by rw [hk g h2 h3]; exact h4, h5⟩⟩
def Row.nil (n : Nat) : Row := ⟨none, 0, 0, n, n⟩
section
variable {α : Type} [Enc α] {w w' : World} {r : Row} {e : Nat} {l : List α} {M : List Nat} {w0 : World} {cs : List Chunk}
theorem Own.nil (w : World) (n e : Nat) : Own w (Row.nil n) e ([] : List α) := ⟨rfl, Nat.le_refl _, Nat.zero_le _, .inl ⟨rfl, rfl, rfl⟩⟩
theorem Own.rd (h : Own w r e l) : Rd w r.v l := by
  rcases h.row with ⟨h1, h2, h3⟩ | ⟨g, o, cur, h1, _, _, h4, h5, h6⟩
  · have hl : l = [] := List.eq_nil_of_length_eq_zero (by rw [← h.len]; exact h2)
    subst hl
    refine ⟨⟨r.A, r.cap, by rw [Row.v, h2]; rfl, ?_, h.cap, fun hn => absurd rfl hn⟩, fun i j u hi => by simp at hi⟩
    rw [← h.len]; exact h.lec
  · refine ⟨⟨r.A, r.cap, by rw [Row.v, h.len], by rw [← h.len]; exact h.lec, h.cap, fun _ => ?_⟩, fun i j u hi hu => ?_⟩
    · rw [h1, Row.v, h1]; rfl
    · have hj : j < Enc.sz α := by rw [← Enc.len (l.getD i default)]; exact (List.getElem?_eq_some_iff.1 hu).1
      have hb : bk r.v = g := by rw [Row.v, h1]; rfl
      have ho : of r.v = o := by rw [Row.v, h1]; rfl
      rw [hb, ho, cell_of_row w g _ cur e (0, 0) h4, ← hu, ← encs_get hi hj, ← h6, List.getElem?_take, List.getElem?_drop, h.len]
      have hlt : i * Enc.sz α + j < l.length * Enc.sz α := by
        have : (i + 1) * Enc.sz α ≤ l.length * Enc.sz α := Nat.mul_le_mul_right _ hi
        rw [Nat.add_mul] at this; omega
      rw [if_pos hlt]
      simp [Nat.add_assoc]
theorem HpM.own (h : HpM M w0 cs w) (hi : Has cs (slC r e l)) : Own w r e l := by
  obtain ⟨i, hi⟩ := hi
  exact (h.at_ i _ hi).2.2.2
theorem rd_chunk (hi : Has cs (slC r e l)) : RdH (HpM M w0 cs) r.v l := fun w h => (h.own hi).rd
theorem rd_nil {H : World → Prop} : RdH H (.slice none 0 0) ([] : List α) := fun w _ => Rd.nil w
end

/- Lists of chunks. -/
section
variable {M : List Nat} {w0 w w' : World} {cs cs' ds : List Chunk} {c : Chunk}
def Chunk.Apart (c d : Chunk) : Prop := c.hi ≤ d.lo ∨ d.hi ≤ c.lo
structure Chunk.Ok (M : List Nat) (w0 w : World) (c : Chunk) : Prop where
  base : w0.heap.size ≤ c.lo ∨ (c.lo ∈ M ∧ c.hi = c.lo + 1)
  le : c.lo ≤ c.hi
  hi : c.hi ≤ w.heap.size
  p : c.P w
theorem HpM.iff : HpM M w0 cs w ↔ Kept M w0 w ∧ (∀ c ∈ cs, c.Ok M w0 w) ∧ cs.Pairwise Chunk.Apart := by
  constructor
  · intro h
    refine ⟨h.kept, fun c hc => ?_, ?_⟩
    · obtain ⟨i, hi⟩ := List.getElem?_of_mem hc
      obtain ⟨h1, h2, h3, h4⟩ := h.at_ i c hi
      exact ⟨h1, h2, h3, h4⟩
    · rw [List.pairwise_iff_getElem]
      intro i j hi hj hij
      exact h.apart i j _ _ (by omega) (List.getElem?_eq_getElem hi) (List.getElem?_eq_getElem hj)
  · rintro ⟨h1, h2, h3⟩
    refine ⟨h1, fun i c hi => ?_, fun i j c d hij hi hj => ?_⟩
    · obtain ⟨g1, g2, g3, g4⟩ := h2 c (List.mem_of_getElem? hi)
      exact ⟨g1, g2, g3, g4⟩
    · rw [List.pairwise_iff_getElem] at h3
      obtain ⟨hil, rfl⟩ := List.getElem?_eq_some_iff.1 hi
      obtain ⟨hjl, rfl⟩ := List.getElem?_eq_some_iff.1 hj
      rcases Nat.lt_or_gt_of_ne hij with h | h
      · exact h3 i j hil hjl h
      · exact (h3 j i hjl hil h).symm
theorem HpM.sub (h : HpM M w0 cs w) (hs : cs'.Sublist cs) : HpM M w0 cs' w := by
  obtain ⟨h1, h2, h3⟩ := HpM.iff.1 h
  exact HpM.iff.2 ⟨h1, fun c hc => h2 c (hs.subset hc), h3.sublist hs⟩
theorem HpM.tail (h : HpM M w0 (c :: cs) w) : HpM M w0 cs w := h.sub (List.sublist_cons_self _ _)
theorem HpM.perm (h : HpM M w0 cs w) (hp : cs.Perm cs') : HpM M w0 cs' w := by
  obtain ⟨h1, h2, h3⟩ := HpM.iff.1 h
  exact HpM.iff.2 ⟨h1, fun c hc => h2 c (hp.symm.subset hc), h3.perm hp (fun {a b} hab => Or.symm hab)⟩
theorem perm_erase {α : Type} : ∀ (l : List α) (i : Nat) (h : i < l.length), l.Perm (l[i] :: l.eraseIdx i)
  | a :: l, 0, _ => List.Perm.refl _
  | a :: l, i + 1, h => by
    have := perm_erase l i (by simpa using h)
    simp only [List.getElem_cons_succ, List.eraseIdx_cons_succ]
    exact (List.Perm.cons a this).trans (List.Perm.swap _ _ _)
/-- Chunk i in front. -/
theorem HpM.front (h : HpM M w0 cs w) {i : Nat} (hi : At cs i c) (he : Nf (cs.eraseIdx i) ds) : HpM M w0 (c :: ds) w := by
  subst he
  refine h.perm ?_
  obtain ⟨hil, rfl⟩ := List.getElem?_eq_some_iff.1 (show cs[i]? = some c from hi)
  exact perm_erase cs i hil
/-- From one heap into the wider one. -/
theorem HpM.over (h : HpM M w0 cs w) (h' : HpM [] w ds w') : HpM M w0 (ds ++ cs) w' := by
  obtain ⟨h1, h2, h3⟩ := HpM.iff.1 h
  obtain ⟨g1, g2, g3⟩ := HpM.iff.1 h'
  have hb := g1.below
  have hs := h1.size
  refine HpM.iff.2 ⟨h1.then hb, fun c hc => ?_, ?_⟩
  · rcases List.mem_append.1 hc with hc | hc
    · obtain ⟨f1, f2, f3, f4⟩ := g2 c hc
      refine ⟨.inl ?_, f2, f3, f4⟩
      rcases f1 with f1 | ⟨f1, _⟩
      · omega
      · simp at f1
    · obtain ⟨f1, f2, f3, f4⟩ := h2 c hc
      exact ⟨f1, f2, Nat.le_trans f3 hb.size, c.st w w' (fun b _ hb' => hb.block b (by omega)) f4⟩
  · rw [List.pairwise_append]
    refine ⟨g3, h3, fun a ha b hb' => ?_⟩
    obtain ⟨f1, _, _, _⟩ := g2 a ha
    obtain ⟨_, _, f3, _⟩ := h2 b hb'
    rcases f1 with f1 | ⟨f1, _⟩
    · right; omega
    · simp at f1
theorem RdH.cons {α : Type} {_ : Enc α} {v : Value} {l : List α} (h : RdH (HpM M w0 cs) v l) : RdH (HpM M w0 (c :: cs)) v l := fun w hw => h w hw.tail
theorem RdH.app {α : Type} {_ : Enc α} {v : Value} {l : List α} (h : RdH (HpM M w0 cs) v l) : RdH (HpM M w0 (ds ++ cs)) v l := fun w hw => h w (hw.sub (List.sublist_append_right _ _))
theorem RdH.of_rd {α : Type} [Enc α] {v : Value} {l : List α} (h : Rd w0 v l) : RdH (HpM [] w0 cs) v l := fun w hw => h.keep fun b hb => hw.kept.block b hb (by simp)
end
/- The rules. -/
class SlTy (P : Program) (t : Nat) (e sz : outParam Nat) (z : outParam Value) : Prop where
  und : P.underlying t = some (.slice e)
  info : (P.info? e).map (fun i => (i.zero, i.size, decide (i.bytes ≤ 4096))) = some (some z, sz, true)
  zs : z.cells.toList.length = sz
theorem SlTy.get {P : Program} {t e sz : Nat} {z : Value} (h : SlTy P t e sz z) : ∃ i, P.info? e = some i ∧ i.zero = some z ∧ i.size = sz ∧ i.bytes ≤ 4096 ∧ z.cells.size = sz := by
  have hi := h.info
  cases hp : P.info? e with
  | none => rw [hp] at hi; cases hi
  | some i =>
    rw [hp] at hi
    simp only [Option.map_some, Option.some.injEq, Prod.mk.injEq, decide_eq_true_eq] at hi
    exact ⟨i, rfl, hi.1, hi.2.1, hi.2.2, by simpa using h.zs⟩
theorem SlTy.elem {P : Program} {t e sz : Nat} {z : Value} (h : SlTy P t e sz z) : P.elem t = e := by simp [Program.elem, h.und]
theorem SlTy.size {P : Program} {t e sz : Nat} {z : Value} (h : SlTy P t e sz z) (w : World) : (sizeOf e).run P w = .ok sz w := by
  obtain ⟨i, hi, _, rfl, _⟩ := h.get
  simp [sizeOf, typeInfo, hi]
/-- An index. -/
def Ix (E : Env) (x : Operand) (k : Nat) : Prop := ∃ kd i, ev E x = some (.int kd i) ∧ i = (k : Int)
theorem ix_nat {E : Env} {x : Operand} {kd : IntKind} {k : Nat} (h : ev E x = some (.int kd (k : Int))) : Ix E x k := ⟨kd, _, h, rfl⟩
theorem ix_int {E : Env} {x : Operand} {kd : IntKind} {i : Int} (h : ev E x = some (.int kd i)) (h0 : 0 ≤ i) : Ix E x i.toNat := ⟨kd, i, h, by omega⟩
def IxO (d : Nat) (E : Env) : Option Operand → Nat → Prop
  | none, k => k = d
  | some x, k => Ix E x k
theorem ixo_none {E : Env} {d : Nat} : IxO d E none d := rfl
theorem ixo_some {E : Env} {x : Operand} {d k : Nat} (h : Ix E x k) : IxO d E (some x) k := h
def cut (v : Value) (a b sz : Nat) : Value := match v with
  | .slice A _ c => .slice (if c = a then A else A.map (·.add (a * sz))) (b - a) (c - a)
  | v => v
def Row.cut (r : Row) (a b sz : Nat) : Row := { r with A := if r.cap = a then r.A else r.A.map (·.add (a * sz)), len := b - a, cap := r.cap - a }
theorem Row.cut_v (r : Row) (a b sz : Nat) : (r.cut a b sz).v = Go.Proofs.YtbgjelhefhcnpaaGreat.cut r.v a b sz := rfl
section
variable {M : List Nat} {P : Program} {n d : Nat} {Q : Exit → Act → World → Prop} {ops rest : List Oper} {o : Oper} {E : Env} {H : World → Prop} {v : Value} {w0 w : World} {cs : List Chunk} {x y : Operand} {t ty e sz : Nat} {z : Value}
variable {α : Type} [Enc α] {l : List α} {r : Row}
theorem Rd.addr (h : Rd w v l) (hl : l ≠ []) : ∃ g o c, v = .slice (some ⟨g, o, none⟩) l.length c ∧ l.length ≤ c ∧ c ≤ maxLen := by
  obtain ⟨A, c, rfl, h1, h2, h3⟩ := h.form
  have hA := h3 hl
  cases A with
  | none => cases hA
  | some a =>
    obtain ⟨g, o, s⟩ := a
    simp only [Option.some.injEq, Addr.mk.injEq] at hA
    obtain ⟨_, _, rfl⟩ := hA
    exact ⟨g, o, c, rfl, h1, h2⟩
theorem add_lit (g o k : Nat) : (⟨g, o, none⟩ : Addr).add k = ⟨g, o + k, none⟩ := by unfold Addr.add; split <;> simp_all
theorem Rd.cut {a b : Nat} (h : Rd w v l) (hab : a ≤ b) (hb : b ≤ l.length) : Rd w (cut v a b (Enc.sz α)) ((l.take b).drop a) := by
  have hlen : ((l.take b).drop a).length = b - a := by simp; omega
  by_cases he : b - a = 0
  · obtain ⟨A, c, rfl, h1, h2, h3⟩ := h.form
    have hn : (l.take b).drop a = [] := List.eq_nil_of_length_eq_zero (by omega)
    rw [hn]
    exact ⟨⟨_, _, by simp only [Go.Proofs.YtbgjelhefhcnpaaGreat.cut, he]; rfl, by simp, by omega, fun h => absurd rfl h⟩, fun i j u hi => by simp at hi⟩
  · have hl : l ≠ [] := by intro h0; subst h0; simp at hb; omega
    obtain ⟨g, o, c, rfl, h1, h2⟩ := h.addr hl
    have hca : ¬ c = a := by omega
    have hcut : Go.Proofs.YtbgjelhefhcnpaaGreat.cut (.slice (some ⟨g, o, none⟩) l.length c) a b (Enc.sz α) = .slice (some ⟨g, o + a * Enc.sz α, none⟩) (b - a) (c - a) := by
      simp only [Go.Proofs.YtbgjelhefhcnpaaGreat.cut, if_neg hca, Option.map_some, add_lit]
    rw [hcut]
    refine ⟨⟨some ⟨g, o + a * Enc.sz α, none⟩, c - a, by rw [hlen], by omega, by omega, fun _ => rfl⟩, fun i j u hi hu => ?_⟩
    have hi' : a + i < l.length := by omega
    have := h.cell (a + i) j u hi' (by
      rw [← hu]
      congr 2
      simp only [List.getD_eq_getElem?_getD, List.getElem?_drop, List.getElem?_take]
      rw [if_pos (by omega)])
    simp only [bk, of] at this ⊢
    rw [← this]
    congr 2
    rw [Nat.add_mul]; omega
theorem Own.cut {a b : Nat} (h : Own w r e l) (hab : a ≤ b) (hb : b ≤ l.length) : Own w (r.cut a b (Enc.sz α)) e ((l.take b).drop a) := by
  have hlen : ((l.take b).drop a).length = b - a := by simp; omega
  have hl := h.len
  have hc := h.lec
  refine ⟨by rw [hlen]; rfl, by show b - a ≤ r.cap - a; omega, by show r.cap - a ≤ maxLen; have := h.cap; omega, ?_⟩
  rcases h.row with ⟨h1, h2, h3⟩ | ⟨g, o, cur, h1, h2, h3, h4, h5, h6⟩
  · left
    refine ⟨?_, by show b - a = 0; omega, by show r.cap - a = 0; omega⟩
    simp [Row.cut, h1]
  · right
    by_cases he : r.cap = a
    · refine ⟨g, o, cur, ?_, h2, h3, h4, ?_, ?_⟩
      · simp [Row.cut, he, h1]
      · simp only [Row.cut]; rw [he]; simp
        have : r.cap * Enc.sz α ≥ 0 := Nat.zero_le _
        omega
      · have : b - a = 0 := by omega
        have hn : (l.take b).drop a = [] := List.eq_nil_of_length_eq_zero (by omega)
        simp [Row.cut, this, hn, encs_nil]
    · have ham : a * Enc.sz α + (r.cap - a) * Enc.sz α = r.cap * Enc.sz α := by rw [← Nat.add_mul]; congr 1; omega
      refine ⟨g, o + a * Enc.sz α, cur, ?_, h2, h3, h4, ?_, ?_⟩
      · simp [Row.cut, he, h1, add_lit]
      · simp only [Row.cut]; omega
      · simp only [Row.cut]
        have hbm : (b - a) * Enc.sz α = b * Enc.sz α - a * Enc.sz α := Nat.sub_mul _ _ _
        rw [← encs_drop, ← encs_take, ← h6, hbm]
        rw [List.take_take, List.drop_take, List.drop_drop]
        congr 1
        have : b * Enc.sz α ≤ r.len * Enc.sz α := Nat.mul_le_mul_right _ (by omega)
        omega

theorem RdH.cut {a b : Nat} (h : RdH H v l) (hs : Enc.sz α = sz) (hab : a ≤ b) (hb : b ≤ l.length) : RdH H (Go.Proofs.YtbgjelhefhcnpaaGreat.cut v a b sz) ((l.take b).drop a) := by
  subst hs
  exact fun w hw => (h w hw).cut hab hb
theorem yl_len [Dl] [hS : SlTy P t e sz z] (ho : o.op = .call { callee := .builtin .len, args := #[x], argTypes := #[t] }) (hx : ev E x = some v) (hR : RdH H v l) : Yl P n o E H (.int .i64 (l.length : Int)) := fun a w h1 h2 => by
  obtain ⟨A, c, rfl, _, _, _⟩ := (hR w h2).form
  simp only [execOp, ho, resolve]
  simp [invoke, builtin, h1.ev hx, Builtin.len_, run_underlying hS.und, goInt]
theorem yl_idx [Dl] {k : Nat} [hS : SlTy P t e sz z] (ho : o.op = .indexAddr t x y) (hx : ev E x = some v) (hR : RdH H v l) (hy : Ix E y k) (hs : Enc.sz α = sz) (hk : k < l.length) : Yl P n o E H (eP v k sz 0) := fun a w h1 h2 => by
  obtain ⟨g, o', c, rfl, _, _⟩ := (hR w h2).addr (by intro h; subst h; simp at hk)
  obtain ⟨kd, i, hi, rfl⟩ := hy
  simp only [execOp, ho, h1.ev hx, h1.ev hi]
  simp [Instr.indexAt, run_underlying hS.und, asIntOf, hS.size, hk, add_lit, eP_eq, bk, of]
theorem yl_fieldE [Dl] {i off k f : Nat} [hF : Fo P t i off] (ho : o.op = .fieldAddr t x i) (hx : ev E x = some (eP v k sz f)) : Yl P n o E H (eP v k sz (f + off)) := fun _ w h1 _ => by
  rw [eP_eq] at hx
  simp [execOp, ho, h1.ev hx, hF.run, eP_eq, Nat.add_assoc]
theorem yl_loadE [Dl] {k f : Nat} {u : Value} [hA : Ag P t false] (ho : o.op = .load t x) (hx : ev E x = some (eP v k sz f)) (hR : RdH H v l) (hs : Enc.sz α = sz) (hk : k < l.length) (hc : (enc (l.getD k default))[f]? = some u) : Yl P n o E H u := fun _ w h1 h2 => by
  have := run_loadVar1 (P := P) (t := t) (v := u) (a := ⟨bk v, of v + k * sz + f, none⟩) (w := w) (by rw [← hs]; exact (hR w h2).cell k f u hk hc)
  rw [eP_eq] at hx
  simp [execOp, ho, h1.ev hx, Instr.loadAt, Instr.sureAddr, this]
theorem yl_loadEN [Dl] {k f m : Nat} {vs : List Value} [hA : Ag P t true] [hS : Sz P t m] (ho : o.op = .load t x) (hx : ev E x = some (eP v k sz f)) (hR : RdH H v l) (hs : Enc.sz α = sz) (hk : k < l.length)
    (hc : Nf (((enc (l.getD k default)).drop f).take m) vs) (hl : vs.length = m) : Yl P n o E H (.agg vs.toArray) := fun _ w h1 h2 => by
  have := run_loadVarN (P := P) (t := t) (g := bk v) (off := of v + k * sz + f) (vs := vs) (w := w) hl fun j u hj => by
    rw [← hs, Nat.add_assoc]
    refine (hR w h2).cell k (f + j) u hk ?_
    rw [← hj, ← (show ((enc (l.getD k default)).drop f).take m = vs from hc)]
    have : j < vs.length := (List.getElem?_eq_some_iff.1 hj).1
    rw [List.getElem?_take, if_pos (by omega), List.getElem?_drop]
  rw [eP_eq] at hx
  simp [execOp, ho, h1.ev hx, Instr.loadAt, Instr.sureAddr, this]
theorem yl_nilchk [Dl] {a : Addr} (ho : o.op = .nilCheck x) (hx : ev E x = some (.pointer (some a))) : Yl P n o E H (.pointer (some a)) := fun _ w h1 _ => by
  simp [execOp, ho, h1.ev hx]
theorem yl_nilchkE [Dl] {k f : Nat} (ho : o.op = .nilCheck x) (hx : ev E x = some (eP v k sz f)) : Yl P n o E H (eP v k sz f) := fun _ w h1 _ => by
  rw [eP_eq] at hx ⊢
  simp [execOp, ho, h1.ev hx]
theorem yl_cut [Dl] {lo hi : Option Operand} {a b : Nat} [hS : SlTy P t e sz z] (ho : o.op = .slice t x lo hi none) (hx : ev E x = some v) (hR : RdH H v l) (hlo : IxO 0 E lo a) (hhi : IxO l.length E hi b) (hab : a ≤ b) (hb : b ≤ l.length) :
    Yl P n o E H (cut v a b sz) := fun f w h1 h2 => by
  obtain ⟨A, c, rfl, h3, h4, _⟩ := (hR w h2).form
  have hel := hS.elem
  have hu : P.underlying t = some (.slice (P.elem t)) := by rw [hel]; exact hS.und
  cases lo with
  | none =>
    cases hlo
    cases hi with
    | none =>
      cases hhi
      simp only [execOp, ho, h1.ev hx, Option.map_none]
      simp [go_sem, hS.und, hel, hS.size, Go.Proofs.YtbgjelhefhcnpaaGreat.cut, sliced]
    | some y =>
      obtain ⟨kd, i, hi, rfl⟩ := hhi
      simp only [execOp, ho, h1.ev hx, Option.map_none, Option.map_some, h1.ev hi]
      rw [Sem.run_bind, run_sliceAt_slice _ _ _ _ _ _ hu, run_slice_h _ _ _ _ _ hu _ _ (by omega) (by omega)]
      simp [hel, hS.size, Go.Proofs.YtbgjelhefhcnpaaGreat.cut, sliced]
  | some x' =>
    obtain ⟨kd', i', hi', rfl⟩ := hlo
    cases hi with
    | none =>
      cases hhi
      simp only [execOp, ho, h1.ev hx, Option.map_none, Option.map_some, h1.ev hi']
      rw [Sem.run_bind, run_sliceAt_slice _ _ _ _ _ _ hu, run_slice_l _ _ _ _ _ hu _ _ (by omega) (by omega)]
      simp [hel, hS.size, Go.Proofs.YtbgjelhefhcnpaaGreat.cut, sliced]
    | some y =>
      obtain ⟨kd, i, hi, rfl⟩ := hhi
      simp only [execOp, ho, h1.ev hx, Option.map_some, Option.map_none, h1.ev hi, h1.ev hi']
      rw [Sem.run_bind, run_sliceAt_slice _ _ _ _ _ _ hu, run_slice_lh _ _ _ _ _ hu _ _ _ _ (by omega) (by omega) (by omega)]
      simp [hel, hS.size, Go.Proofs.YtbgjelhefhcnpaaGreat.cut, sliced]
theorem yl_eqnil [Dl] [hS : SlTy P t e sz z] (ho : o.op = .binOp .eql t x y ty) (hx : ev E x = some v) (hy : ev E y = some (.slice none 0 0)) (hR : RdH H v l) : Yl P n o E H (.bool (isNil v)) := fun _ w h1 h2 => by
  obtain ⟨A, c, rfl, _, _, _⟩ := (hR w h2).form
  simp only [execOp, ho, h1.ev hx, h1.ev hy, binOp]
  cases A <;> simp [go_sem, run_equal_slice_nil w t e _ _ _ hS.und, isNil]
theorem yl_neqnil [Dl] [hS : SlTy P t e sz z] (ho : o.op = .binOp .neq t x y ty) (hx : ev E x = some v) (hy : ev E y = some (.slice none 0 0)) (hR : RdH H v l) : Yl P n o E H (.bool (!isNil v)) := fun _ w h1 h2 => by
  obtain ⟨A, c, rfl, _, _, _⟩ := (hR w h2).form
  simp only [execOp, ho, h1.ev hx, h1.ev hy, binOp]
  cases A <;> simp [go_sem, run_equal_slice_nil w t e _ _ _ hS.und, isNil]
/-- The type of the elements of the program's type e. -/
class ElT (P : Program) (e : Nat) (α : outParam Type) : Prop where
  is : True
theorem tri_nilrow [Dl] {F : Act → World → Prop} (α : Type) [Enc α] (e : Nat) (k : Tri n F E (HpM M w0 (slC (Row.nil w0.heap.size) e ([] : List α) :: cs))) : Tri n F E (HpM M w0 cs) :=
  fun a w h1 h2 => k a w h1 (h2.push0 rfl rfl (Own.nil w _ e))
/-- The rest of a row, cut. -/
theorem tri_recut [Dl] {F : Act → World → Prop} {i a b : Nat} {cs' : List Chunk} (hi : At cs i (slC r e l)) (hab : a ≤ b) (hb : b ≤ l.length) (hcs : Nf (cs.set i (slC (r.cut a b (Enc.sz α)) e ((l.take b).drop a))) cs')
    (k : Tri n F E (HpM M w0 cs')) : Tri n F E (HpM M w0 cs) := fun f w h1 h2 => by
  subst hcs
  obtain ⟨g1, g2, g3, g4⟩ := h2.at_ i _ hi
  exact k f w h1 (h2.set hi ⟨rfl, rfl, rfl, Nat.le_refl _⟩ (fun _ _ _ => rfl) (.inl ⟨rfl, rfl⟩) g3 (Own.cut g4 hab hb))

theorem run_first (h : Rd w v l) : (Builtin.firstCells (Enc.sz α) l.length v).run P w = .ok (encs l).toArray w := by
  obtain ⟨A, c, rfl, _, _, h3⟩ := h.form
  cases A with
  | none =>
    have : l = [] := h.isNil rfl
    subst this
    exact run_firstCells_none w _ _ _ _
  | some a =>
    refine run_firstCells_some w _ _ _ _ _ _ (length_encs l) fun j u hu => ?_
    have hl : l ≠ [] := by intro h0; subst h0; simp [encs_nil] at hu
    have ha : a = ⟨bk (.slice (some a) l.length c), of (.slice (some a) l.length c), none⟩ := by simpa using h3 hl
    have := h.cells hu
    rw [ha, add_lit]
    exact this
/-- What an operation on row r leaves of the rest. -/
structure Turned (w w' : World) (r r' : Row) : Prop where
  os : w'.os = w.os
  tape : w'.tape = w.tape
  output : w'.output = w.output
  size : w.heap.size ≤ w'.heap.size
  block : ∀ b, b < w.heap.size → (b < r.lo ∨ r.hi ≤ b) → w'.heap[b]? = w.heap[b]?
  at_ : (r'.lo = r.lo ∧ r'.hi = r.hi) ∨ (w.heap.size ≤ r'.lo ∧ r'.lo ≤ r'.hi)
  hi : r'.hi ≤ w'.heap.size
theorem run_append {t2 e2 : Nat} {v2 : Value} {l2 : List α} (hS : SlTy P t e sz z) (hS2 : P.underlying t2 = some (.slice e2)) (hs : Enc.sz α = sz) (h : Own w r e l) (h2 : Rd w v2 l2) (hhi : r.hi ≤ w.heap.size)
    (hb : l.length + l2.length ≤ 34359738368) :
    ∃ r' w', (Builtin.append_ #[t, t2] ty #[r.v, v2]).run P w = .ok r'.v w' ∧ Own w' r' e (l ++ l2) ∧ Turned w w' r r' := by
  obtain ⟨i, hi, hz, hsz, hby, hzs⟩ := hS.get
  have hp := Enc.pos (α := α)
  subst hs
  have hf := run_first (P := P) h2
  obtain ⟨A2, c2, rfl, _, _, _⟩ := h2.form
  have hl := h.len
  have hc := h.lec
  have hcm := h.cap
  simp only [maxLen] at hcm
  by_cases hroom : r.len + l2.length ≤ r.cap
  · rcases h.row with ⟨h3, h4, h5⟩ | ⟨g, o', cur, h3, h4, h5, h6, h7, h8⟩
    · have hn : l = [] := List.eq_nil_of_length_eq_zero (by omega)
      have hn2 : l2 = [] := List.eq_nil_of_length_eq_zero (by omega)
      subst hn hn2
      refine ⟨r, w, ?_, h, ⟨rfl, rfl, rfl, Nat.le_refl _, fun _ _ _ => rfl, .inl ⟨rfl, rfl⟩, hhi⟩⟩
      simp only [List.length_nil] at hf
      simp [Builtin.append_, run_underlying hS.und, run_underlying hS2, sizeOf, typeInfo, hi, hsz, Builtin.lenOf, Row.v, h3, h4, h5, hf]
    · have hfit : o' + r.len * Enc.sz α + 0 + (encs l2).length ≤ cur.size := by
        have : (r.len + l2.length) * Enc.sz α ≤ r.cap * Enc.sz α := Nat.mul_le_mul_right _ hroom
        rw [Nat.add_mul] at this
        rw [length_encs]; omega
      have hst := run_storeCells_at P g (o' + r.len * Enc.sz α) e (encs l2) 0 cur w h6 hfit (one_encs l2)
      simp only [Nat.add_zero] at hst
      have hfit' : o' + r.len * Enc.sz α + (encs l2).length ≤ cur.toList.length := by simpa using hfit
      refine ⟨{ r with len := r.len + l2.length }, w.setRow g (cur.toList.take (o' + r.len * Enc.sz α) ++ encs l2 ++ cur.toList.drop (o' + r.len * Enc.sz α + (encs l2).length)).toArray, ?_, ⟨by simp [hl], hroom, h.cap, .inr ⟨g, o', _, h3, h4, h5, setRow_heap w g cur _ e _ h6, ?_, ?_⟩⟩,
        ⟨rfl, rfl, rfl, by simp [World.setRow], fun b _ hb' => setRow_other w g b _ (by omega), .inl ⟨rfl, rfl⟩, by simpa [World.setRow] using hhi⟩⟩
      · simp [Builtin.append_, run_underlying hS.und, run_underlying hS2, sizeOf, typeInfo, hi, hsz, Builtin.lenOf, Row.v, h3, hroom, hf, add_lit, hst]
      · simp only [List.size_toArray, List.length_append, List.length_take, List.length_drop]
        show o' + r.cap * Enc.sz α ≤ _
        have : cur.toList.length = cur.size := by simp
        omega
      · show List.take ((r.len + l2.length) * Enc.sz α) (List.drop o' _) = _
        rw [encs_append, ← h8, Nat.add_mul, ← length_encs l2]
        simp only [List.append_assoc]
        have hlen : (List.take (o' + r.len * Enc.sz α) cur.toList).length = o' + r.len * Enc.sz α := by simp; simp at hfit'; omega
        rw [List.drop_append_of_le_length (by omega), List.drop_take, Nat.add_sub_cancel_left]
        have hlen2 : (List.take (r.len * Enc.sz α) (List.drop o' cur.toList)).length = r.len * Enc.sz α := by simp; simp at hfit'; omega
        rw [List.take_append, hlen2, Nat.add_sub_cancel_left, List.take_of_length_le (by omega), List.take_append_of_le_length (Nat.le_refl _), List.take_length]
  · have hg : r.cap < r.len + l2.length := by omega
    have hne : 0 < l2.length := by omega
    have hfit : Builtin.nextslicecap (r.len + l2.length) r.cap * i.bytes ≤ 281474976710656 := growslice_fits (by omega) (by
      have : (r.len + l2.length) * i.bytes ≤ 34359738368 * 4096 := Nat.mul_le_mul (by omega) hby
      omega)
    have hfirst : (Builtin.firstCells (Enc.sz α) r.len r.v).run P w = .ok (encs l).toArray w := by rw [hl]; exact run_first h.rd
    have hge := grownCap_ge w (r.len + l2.length) r.cap e
    have hcm' : grownCap w (r.len + l2.length) r.cap e ≤ maxLen := grownCap_le_maxLen w (r.len + l2.length) r.cap e (by simp only [maxLen]; omega)
    have hlen : (encs l ++ encs l2).length = (r.len + l2.length) * Enc.sz α := by rw [List.length_append, length_encs, length_encs, ← hl, Nat.add_mul]
    refine ⟨⟨some ⟨w.heap.size, 0, none⟩, r.len + l2.length, grownCap w (r.len + l2.length) r.cap e, w.heap.size, w.heap.size + 1⟩,
      w.drew.alloc (.cells ((encs l).toArray ++ (encs l2).toArray ++ Builtin.zeroCells z.cells (grownCap w (r.len + l2.length) r.cap e - (r.len + l2.length))) e), ?_,
      ⟨by simp [hl], hge, hcm', .inr ⟨w.heap.size, 0, _, rfl, Nat.le_refl _, Nat.lt_succ_self _, heap_alloc_new w.drew _, ?_, ?_⟩⟩,
      ⟨rfl, rfl, rfl, by simp, fun b hb' _ => by show (w.heap.push _)[b]? = _; rw [Array.getElem?_push, if_neg (Nat.ne_of_lt hb')], .inr ⟨Nat.le_refl _, Nat.le_succ _⟩, by simp⟩⟩
    · have h63' : ¬ (9223372036854775807 < ((r.len : Int) + (l2.length : Int))) := by omega
      have hnot : ¬ r.len + l2.length ≤ r.cap := by omega
      have hnot' : ¬ (281474976710656 < Builtin.nextslicecap (r.len + l2.length) r.cap * i.bytes) := by omega
      have hfd := run_first (P := P) (h2.keep (w' := w.drew) (fun _ _ => rfl))
      have hfo : (Builtin.firstCells (Enc.sz α) r.len r.v).run P w.drew = .ok (encs l).toArray w.drew := by rw [hl]; exact run_first (h.rd.keep (fun _ _ => rfl))
      simp only [Row.v] at hfo ⊢
      simp [Builtin.append_, run_underlying hS.und, run_underlying hS2, sizeOf, typeInfo, zeroValue, hi, hz, hsz, Builtin.lenOf, hnot, h63', hnot', Question.forced, hfd, hfo, newRow, grownCap]
      congr 2
      apply Array.ext'
      simp [List.append_assoc]
    · simp only [Array.size_append, List.size_toArray, size_zeroCells, hzs, Nat.zero_add]
      show grownCap w (r.len + l2.length) r.cap e * Enc.sz α ≤ _
      have hlen' : (encs l).length + (encs l2).length = (r.len + l2.length) * Enc.sz α := by rw [← hlen, List.length_append]
      rw [hlen', ← Nat.add_mul]
      exact Nat.mul_le_mul_right _ (by omega)
    · simp only [Array.toList_append, List.drop_zero, encs_append]
      rw [← hlen]
      exact List.take_left
theorem HpM.turned {i : Nat} {r' : Row} {l' : List α} {w' : World} (h : HpM M w0 cs w) (hi : At cs i (slC r e l)) (ht : Turned w w' r r') (hp : Own w' r' e l') : HpM M w0 (cs.set i (slC r' e l')) w' :=
  h.set hi ⟨ht.os, ht.tape, ht.output, ht.size⟩ ht.block ht.at_ ht.hi hp
theorem tri_norm [Dl] {F : Act → World → Prop} {cs' : List Chunk} (h : Nf cs cs') (k : Tri n F E (HpM M w0 cs')) : Tri n F E (HpM M w0 cs) := by subst h; exact k
theorem tri_append [Dl] {i t2 e2 sz2 : Nat} {z2 v2 : Value} {l2 : List α} [hS : SlTy P t e sz z] [hS2 : SlTy P t2 e2 sz2 z2] (hd : o.dst = some d) (hn : Nat.blt d n = true) (hw : Wan ops n o E true) (ho : o.op = .call { callee := .builtin .append, args := #[x, y], argTypes := #[t, t2] })
    (hx : ev E x = some r.v) (hy : ev E y = some v2) (hi : At cs i (slC r e l)) (h2 : RdH (HpM M w0 cs) v2 l2) (hs : Enc.sz α = sz) (hb : l.length + l2.length ≤ 34359738368)
    (k : ∀ r', Tri n (wpList P ops.toArray Q rest) ((d, r'.v) :: E) (HpM M w0 (cs.set i (slC r' e (l ++ l2))))) : Tri n (wpList P ops.toArray Q (o :: rest)) E (HpM M w0 cs) := by
  intro a w h1 hh
  refine wpList_want (hw a h1) ?_
  unfold Oper.wp
  obtain ⟨_, _, g3, g4⟩ := hh.at_ i _ hi
  obtain ⟨r', w', hr, hown, hto⟩ := run_append (P := P) (ty := o.type) hS hS2.und hs g4 (h2 w hh) g3 hb
  have : (execOp a.eval o).run P w = .ok (.value r'.v) w' := by
    simp only [execOp, ho, resolve, invoke, builtin, Sem.run_bind, Sem.run_pure, Result.andThen_ok, List.map_toArray, List.map_cons, List.map_nil, h1.ev hx, h1.ev hy, hr]
  rw [this, Oper.upon_value, hd]
  exact k r' _ _ (h1.put hn _) (hh.turned hi hto hown)
/-- A new row. -/
theorem HpM.fresh {r' : Row} {l' : List α} {cells : Array Value} (h : HpM M w0 cs w) (hr : r'.lo = w.heap.size ∧ r'.hi = w.heap.size + 1) (hp : Own (w.alloc (.cells cells e)) r' e l') : HpM M w0 (slC r' e l' :: cs) (w.alloc (.cells cells e)) :=
  h.push ((Below.refl _ _).alloc (Nat.le_refl _) _) (by show w.heap.size ≤ r'.lo; omega) (by show r'.lo ≤ r'.hi; omega) (by show r'.hi ≤ _; simp; omega) hp
theorem encs_replicate (a : α) (k : Nat) : encs (List.replicate k a) = (List.replicate k (enc a)).flatten := by
  induction k with
  | zero => rfl
  | succ k ih => rw [List.replicate_succ, encs_cons, ih]; rfl
theorem made_cells (a : α) (zc : List Value) (ha : enc a = zc) : ∀ k, (madeCells zc.toArray (k * Enc.sz α)).toList = encs (List.replicate k a) := by
  intro k
  have hl : zc.length = Enc.sz α := by rw [← ha]; exact Enc.len a
  have hp := Enc.pos (α := α)
  apply List.ext_getElem?
  intro j
  by_cases hj : j < k * Enc.sz α
  · have hi : j / Enc.sz α < (List.replicate k a).length := by rw [List.length_replicate]; exact Nat.div_lt_of_lt_mul (by rw [Nat.mul_comm]; exact hj)
    have e : j / Enc.sz α * Enc.sz α + j % Enc.sz α = j := by rw [Nat.mul_comm]; exact Nat.div_add_mod j _
    have := encs_get (l := List.replicate k a) hi (Nat.mod_lt j hp)
    rw [e] at this
    rw [this]
    have hg : (List.replicate k a).getD (j / Enc.sz α) default = a := by
      rw [List.length_replicate] at hi
      rw [List.getD_eq_getElem?_getD, List.getElem?_replicate, if_pos hi]; rfl
    have hjm : j % Enc.sz α < zc.length := by rw [hl]; exact Nat.mod_lt j hp
    rw [hg, ha, List.getElem?_eq_getElem hjm]
    simp [madeCells, hj, hl, List.getElem?_eq_getElem hjm]
  · rw [List.getElem?_eq_none (by simp [madeCells]; omega), List.getElem?_eq_none (by rw [length_encs, List.length_replicate]; omega)]
theorem own_made {kl kc : IntKind} {k c : Nat} {a : α} (hS : SlTy P t e sz z) (hs : Enc.sz α = sz) (ha : enc a = z.cells.toList) (hk : k ≤ c) (hc : c ≤ 34359738368) :
    ∃ cells, (Instr.makeSlice t (.int kl (k : Int)) (.int kc (c : Int))).run P w = .ok (Row.v ⟨some ⟨w.heap.size, 0, none⟩, k, c, w.heap.size, w.heap.size + 1⟩) (w.alloc (.cells cells e)) ∧
      Own (w.alloc (.cells cells e)) ⟨some ⟨w.heap.size, 0, none⟩, k, c, w.heap.size, w.heap.size + 1⟩ e (List.replicate k a) := by
  obtain ⟨i, hi, hz, hsz, hby, hzs⟩ := hS.get
  subst hs
  have hr := run_make (P := P) w t e i z hS.und hi hz kl kc (k : Int) (c : Int) (by omega) (by omega) (by
    have : i.bytes * c ≤ 4096 * 34359738368 := Nat.mul_le_mul hby hc
    have h2 : ((i.bytes * c : Nat) : Int) ≤ 4096 * 34359738368 := by omega
    rw [Int.natCast_mul] at h2
    omega) (by omega)
  simp only [Int.toNat_natCast, hsz] at hr
  have hmc := made_cells a z.cells.toList ha c
  refine ⟨_, hr, ⟨by simp, hk, by simp only [maxLen]; omega, .inr ⟨w.heap.size, 0, _, rfl, Nat.le_refl _, Nat.lt_succ_self _, heap_alloc_new w _, ?_, ?_⟩⟩⟩
  · simp [size_madeCells]
  · simp only [List.drop_zero]
    have : z.cells.toList.toArray = z.cells := by simp
    rw [this] at hmc
    rw [hmc, encs_take, List.take_replicate, Nat.min_eq_left hk]
theorem tri_make [Dl] {k c : Nat} {ops : Array Oper} [hS : SlTy P t e sz z] [ElT P e α] (hd : o.dst = some d) (hn : Nat.blt d n = true) (hg : o.guard = none) (ho : o.op = .makeSlice t x y) (hx : Ix E x k) (hy : Ix E y c) (hs : Enc.sz α = sz) (ha : enc (default : α) = z.cells.toList) (hk : k ≤ c) (hc : c ≤ 34359738368)
    (kk : ∀ r', Tri n (wpList P ops Q rest) ((d, r'.v) :: E) (HpM M w0 (slC r' e (List.replicate k (default : α)) :: cs))) : Tri n (wpList P ops Q (o :: rest)) E (HpM M w0 cs) := by
  intro f w h1 h2
  obtain ⟨kl, _, hx, rfl⟩ := hx
  obtain ⟨kc, _, hy, rfl⟩ := hy
  unfold wpList
  rw [if_pos (want_plain hg f)]
  refine .inl ?_
  unfold Oper.wp
  obtain ⟨cells, hr, hown⟩ := own_made (P := P) (w := w) (kl := kl) (kc := kc) hS hs ha hk hc
  have : (execOp f.eval o).run P w = .ok (.value (Row.v ⟨some ⟨w.heap.size, 0, none⟩, k, c, w.heap.size, w.heap.size + 1⟩)) (w.alloc (.cells cells e)) := by
    simp only [execOp, ho, h1.ev hx, h1.ev hy]
    rw [Sem.run_bind, hr]
    simp
  rw [this, Oper.upon_value, hd]
  exact kk _ _ _ (h1.put hn _) (h2.fresh ⟨rfl, rfl⟩ hown)
/-- A slice built of its elements. -/
def decL (α : Type) [Enc α] : Nat → List Value → List α
  | 0, _ => []
  | k + 1, cs => dec (cs.take (Enc.sz α)) :: decL α k (cs.drop (Enc.sz α))
def placesL (sz : Nat) : Nat → Nat → List (Nat × Nat)
  | 0, _ => []
  | k + 1, i => (i * sz, sz) :: placesL sz k (i + 1)
theorem places_get (sz : Nat) : ∀ (k i j : Nat), (placesL sz k i)[j]? = if j < k then some ((i + j) * sz, sz) else none
  | 0, i, j => by simp [placesL]
  | k + 1, i, j => by
    cases j with
    | zero => simp [placesL]
    | succ j =>
      simp only [placesL, List.getElem?_cons_succ, places_get sz k (i + 1) j]
      by_cases h : j < k
      · rw [if_pos h, if_pos (by omega)]; congr 3; omega
      · rw [if_neg h, if_neg (by omega)]
theorem fill_more {p q : Nat → Option (Nat × Nat)} : ∀ (parts : List (Nat × Value)) (arr : Array Value) (r : Array Value), (∀ i x, p i = some x → q i = some x) → Instr.fill p arr parts = some r → Instr.fill q arr parts = some r
  | [], _, _, _, h => h
  | (i, v) :: rest, arr, r, hpq, h => by
    unfold Instr.fill at h ⊢
    cases hp : p i with
    | none => rw [hp] at h; cases h
    | some x =>
      obtain ⟨off, size⟩ := x
      rw [hp] at h
      rw [hpq i _ hp]
      simp only at h ⊢
      split at h
      · cases h
      · rename_i hc
        rw [if_neg hc]
        exact fill_more rest _ r hpq h
def repL : Nat → List Value → List Value
  | 0, _ => []
  | k + 1, l => l ++ repL k l
theorem length_repL (l : List Value) : ∀ k, (repL k l).length = k * l.length
  | 0 => by simp [repL]
  | k + 1 => by rw [repL, List.length_append, length_repL l k, Nat.add_mul]; omega
theorem repL_get (l : List Value) : ∀ (k j : Nat), j < k * l.length → (repL k l)[j]? = l[j % l.length]?
  | 0, j, h => by omega
  | k + 1, j, h => by
    rw [repL]
    by_cases hj : j < l.length
    · rw [List.getElem?_append_left hj, Nat.mod_eq_of_lt hj]
    · rw [List.getElem?_append_right (by omega), repL_get l k (j - l.length) (by rw [Nat.add_mul] at h; omega), Nat.mod_eq_sub_mod (by omega : j ≥ l.length)]
theorem made_repL (zc : Array Value) (k sz : Nat) (h : zc.toList.length = sz) : (madeCells zc (k * sz)).toList = repL k zc.toList := by
  subst h
  apply List.ext_getElem?
  intro j
  by_cases hj : j < k * zc.toList.length
  · have hp : 0 < zc.toList.length := by
      rcases Nat.eq_zero_or_pos zc.toList.length with h0 | h0
      · rw [h0] at hj; omega
      · exact h0
    have hm := Nat.mod_lt j hp
    rw [repL_get _ _ _ hj, List.getElem?_eq_getElem hm]
    simp at hj hm
    simp [madeCells, hj, hm]
  · rw [List.getElem?_eq_none (by simp [madeCells]; simpa using hj), List.getElem?_eq_none (by rw [length_repL]; omega)]
theorem tri_lit [Dl] {k : Nat} {parts : Array (Nat × Operand)} {vs : List (Nat × Value)} {l0 : List Value} [hS : SlTy P t e sz z] [ElT P e α] (hd : o.dst = some d) (hn : Nat.blt d n = true) (hw : Wan ops n o E true) (ho : o.op = .buildSlice t k parts) (hv : evp E parts.toList = some vs)
    (hs : Enc.sz α = sz) (hk : Nat.ble k 1000000 = true) (hk2 : Nat.ble sz 16 = true) (hf : fillL (placesL sz k 0) (repL k z.cells.toList) vs = some l0) (hl : Nf (decL α k l0) l) (he : encs l = l0) (hlen : l.length = k)
    (kk : ∀ r', Tri n (wpList P ops.toArray Q rest) ((d, r'.v) :: E) (HpM M w0 (slC r' e l :: cs))) : Tri n (wpList P ops.toArray Q (o :: rest)) E (HpM M w0 cs) := by
  subst he
  intro a w h1 h2
  refine wpList_want (hw a h1) ?_
  unfold Oper.wp
  obtain ⟨i, hi, hz, hsz, hby, hzs⟩ := hS.get
  have hk' : k ≤ 1000000 := by simpa using hk
  have hk2' : sz ≤ 16 := by simpa using hk2
  rw [← made_repL z.cells k sz (by simpa using hzs)] at hf
  have hfl := fill_of _ _ _ _ hf
  have hfl2 := fill_more (q := fun i => some (i * sz, sz)) _ _ _ (fun j x hx => by
    simp only [places_get, Nat.zero_add] at hx
    split at hx
    · exact hx
    · cases hx) hfl
  have hks : ¬ (16777216 < k * sz) := by have : k * sz ≤ 1000000 * 16 := Nat.mul_le_mul hk' hk2'; omega
  have ev1 : parts.map (fun (i, x) => (i, a.eval x)) = vs.toArray := by
    apply Array.toList_inj.1; simpa using h1.evp hv
  have hr : (execOp a.eval o).run P w = .ok (.value (Row.v ⟨some ⟨w.heap.size, 0, none⟩, k, k, w.heap.size, w.heap.size + 1⟩)) (w.alloc (.cells (encs l).toArray e)) := by
    simp only [execOp, ho, ev1]
    by_cases h0 : k * sz = 0
    · simp only [madeCells, h0, Array.range_zero', Array.map_empty] at hfl2
      simp [Instr.buildSlice, run_underlying hS.und, sizeOf, typeInfo, hi, hsz, h0, Array.range_zero', hfl2, newRow, Row.v]
    · simp only [madeCells] at hfl2
      simp [Instr.buildSlice, run_underlying hS.und, sizeOf, typeInfo, hi, hsz, h0, hks, zeroValue, hz, hfl2, newRow, Row.v]
  rw [hr, Oper.upon_value, hd]
  refine kk _ _ _ (h1.put hn _) (h2.fresh ⟨rfl, rfl⟩ ⟨by simp [hlen], Nat.le_refl _, by simp only [maxLen]; omega, .inr ⟨w.heap.size, 0, _, rfl, Nat.le_refl _, Nat.lt_succ_self _, heap_alloc_new w _, ?_, ?_⟩⟩)
  · simp [length_encs, hlen]
  · simp only [List.drop_zero, ← hlen, ← length_encs, List.take_length]
/-- A store into a row. -/
theorem tri_storeE [Dl] {i k f m : Nat} {u : Value} {a : α} {cs' : List Chunk} [hS : Sz P t m] (hd : o.dst = none) (hw : Wan ops n o E true) (ho : o.op = .store t x y) (hx : ev E x = some (eP r.v k sz f)) (hy : ev E y = some u) (hi : At cs i (slC r e l)) (hs : Enc.sz α = sz) (hk : k < l.length)
    (hl : u.cells.toList.length = m) (h1 : u.cells.toList.all Value.oneCell' = true) (hf : Nat.ble (f + m) sz = true) (ha0 : dec (setL (enc (l.getD k default)) f u.cells.toList) = a) (ha : setL (enc (l.getD k default)) f u.cells.toList = enc a) (hcs : Nf (cs.set i (slC r e (l.set k a))) cs')
    (kk : Tri n (wpList P ops.toArray Q rest) E (HpM M w0 cs')) : Tri n (wpList P ops.toArray Q (o :: rest)) E (HpM M w0 cs) := by
  subst hcs
  subst hs
  intro b w hb h2
  refine wpList_want (hw b hb) ?_
  unfold Oper.wp
  obtain ⟨q1, q2, q3, g4⟩ := h2.at_ i _ hi
  have hfm : f + m ≤ Enc.sz α := by simpa using hf
  have hlen := Own.len g4
  rcases g4.row with ⟨_, h4, _⟩ | ⟨g, o', cur, h3, h4, h5, h6, h7, h8⟩
  · omega
  · rw [eP_eq] at hx
    have hbk : bk r.v = g := by rw [Row.v, h3]; rfl
    have hof : of r.v = o' := by rw [Row.v, h3]; rfl
    rw [hbk, hof] at hx
    have hkl : (k + 1) * Enc.sz α ≤ r.len * Enc.sz α := Nat.mul_le_mul_right _ (by omega)
    have hlc : r.len * Enc.sz α ≤ r.cap * Enc.sz α := Nat.mul_le_mul_right _ g4.lec
    rw [Nat.add_mul] at hkl
    have hbound : o' + k * Enc.sz α + f + m ≤ cur.toList.length := by simp; omega
    have hst := run_storeVar (P := P) (t := t) (m := m) (g := g) (p := o' + k * Enc.sz α + f) (t' := e) (cells := cur.toList) (v := u) (w := w) hl h1 (by simpa using h6) hbound
    have hr : (execOp b.eval o).run P w = .ok .skip (w.setRow g (setL cur.toList (o' + k * Enc.sz α + f) u.cells.toList).toArray) := by
      simp only [execOp, ho, hb.ev hx, hb.ev hy]
      simp [Instr.storeAt, Instr.sureAddr, hst]
    rw [hr, Oper.upon_skip, hd]
    refine kk _ _ hb (h2.set hi ⟨rfl, rfl, rfl, by simp [World.setRow]⟩ (fun b' _ hb' => setRow_other w g b' _ ?_) (.inl ⟨rfl, rfl⟩) (by have q3' : r.hi ≤ w.heap.size := q3; show r.hi ≤ _; simpa [World.setRow] using q3') ?_)
    · have : b' < r.lo ∨ r.hi ≤ b' := hb'
      omega
    · refine ⟨by simp [hlen], g4.lec, g4.cap, .inr ⟨g, o', _, h3, h4, h5, setRow_heap w g _ _ e _ h6, ?_, ?_⟩⟩
      · simp only [List.size_toArray, length_setL, Array.length_toList]; exact h7
      · simp only
        have hall : cur.toList = cur.toList.take o' ++ (encs l ++ (cur.toList.drop o').drop (r.len * Enc.sz α)) := by
          rw [← h8, List.take_append_drop, List.take_append_drop]
        have ht : (cur.toList.take o').length = o' := by simp; simp at hbound; omega
        have hset := encs_set (f := f) hk (by rw [hl]; exact hfm) ha
        have hstep : setL cur.toList (o' + k * Enc.sz α + f) u.cells.toList = cur.toList.take o' ++ (encs (l.set k a) ++ (cur.toList.drop o').drop (r.len * Enc.sz α)) := by
          conv => lhs; rw [hall]
          have e1 : o' + k * Enc.sz α + f = (cur.toList.take o').length + (k * Enc.sz α + f) := by rw [ht]; omega
          rw [e1, setL_append_right, setL_append_left _ _ _ _ (by rw [length_encs, hl, ← hlen]; omega), hset]
        rw [hstep, List.drop_append_of_le_length (by omega), List.drop_of_length_le (by omega)]
        simp only [List.nil_append]
        have hlen2 : (encs (l.set k a)).length = r.len * Enc.sz α := by rw [length_encs, List.length_set, hlen]
        rw [← hlen2, List.take_left]
/-- A call that turns and makes. -/
def Cal {σ : Type} (P : Program) (f : Nat) (args : List Value) (H : World → Prop) (V : σ → Value) (H' : σ → World → Prop) : Prop := ∀ w, H w → Calls P f args.toArray w fun e w' => ∃ s, e = .returned (V s) ∧ H' s w'
theorem tri_callC [Dl] {σ : Type} {f : Nat} {fx : Operand} {xs : Array Operand} {ts : Array Nat} {vs capd : List Value} {V : σ → Value} {H1 : World → Prop} {H' : σ → World → Prop} [hF : Fun_ P f] (hd : o.dst = some d) (hn : Nat.blt d n = true) (hw : Wan ops n o E true) (ho : o.op = .call { callee := .value fx, args := xs, argTypes := ts })
    (hf : ev E fx = some (.func (.func f) #[] capd.toArray)) (hv : evs E xs.toList = some vs) (hc : Cal P f (vs ++ capd) H1 V H') (hH : ∀ w, H w → H1 w)
    (k : ∀ s, Tri n (wpList P ops.toArray Q rest) ((d, V s) :: E) (H' s)) : Tri n (wpList P ops.toArray Q (o :: rest)) E H := by
  intro a w h1 h2
  refine wpList_want (hw a h1) ?_
  unfold Oper.wp
  have e : xs.map a.eval = vs.toArray := by apply Array.toList_inj.1; simpa using h1.evs hv
  have hr : (execOp a.eval o).run P w = .ok (.enter f (vs ++ capd).toArray) w := by
    simp only [execOp, ho, resolve, h1.ev hf, e, Deferred.ofValue]
    simp [invoke, hF.run]
  rw [hr, Oper.upon_enter]
  refine (hc w (hH w h2)).mono fun e w' ⟨s, he, hH'⟩ => ?_
  subst he
  show wpList P ops.toArray Q rest (a.put o.dst (V s)) w'
  rw [hd]
  exact k s _ _ (h1.put hn _) hH'
theorem tri_callC0 [Dl] {σ : Type} {f : Nat} {fx : Operand} {xs : Array Operand} {ts : Array Nat} {vs capd : List Value} {V : σ → Value} {H1 : World → Prop} {H' : σ → World → Prop} [hF : Fun_ P f] (hd : o.dst = none) (hw : Wan ops n o E true) (ho : o.op = .call { callee := .value fx, args := xs, argTypes := ts })
    (hf : ev E fx = some (.func (.func f) #[] capd.toArray)) (hv : evs E xs.toList = some vs) (hc : Cal P f (vs ++ capd) H1 V H') (hH : ∀ w, H w → H1 w)
    (k : ∀ s, Tri n (wpList P ops.toArray Q rest) E (H' s)) : Tri n (wpList P ops.toArray Q (o :: rest)) E H := by
  intro a w h1 h2
  refine wpList_want (hw a h1) ?_
  unfold Oper.wp
  have e : xs.map a.eval = vs.toArray := by apply Array.toList_inj.1; simpa using h1.evs hv
  have hr : (execOp a.eval o).run P w = .ok (.enter f (vs ++ capd).toArray) w := by
    simp only [execOp, ho, resolve, h1.ev hf, e, Deferred.ofValue]
    simp [invoke, hF.run]
  rw [hr, Oper.upon_enter]
  refine (hc w (hH w h2)).mono fun e w' ⟨s, he, hH'⟩ => ?_
  subst he
  show wpList P ops.toArray Q rest (a.put o.dst (V s)) w'
  rw [hd]
  exact k s _ _ h1 hH'
theorem cal_of_tri {σ : Type} {H : World → Prop} {f : Nat} {fn : Func} {c : Code} {args : List Value} {V : σ → Value} {H' : σ → World → Prop} (hf : P.funcs[f]? = some fn) (hb : fn.body = some c) (hn : fn.ntmps = n)
    (hle : Nat.ble args.length n = true) (h : Tri n (c.wp P (bodyPost P fn fun e w' => ∃ s, e = .returned (V s) ∧ H' s w')) (envOf 0 args) H)   : Cal P f args H V H' := fun w hw => by
  refine calls_of_wp hf hb (h _ _ ⟨rfl, ?_, fun i v hv => ?_⟩ hw)
  · have : args.length ≤ n := by simpa using hle
    simp [hn]; omega
  · obtain ⟨_, h2⟩ := look_envOf args 0 i v hv
    simp only [Nat.sub_zero] at h2
    have hi : i < args.length := (List.getElem?_eq_some_iff.1 h2).1
    have h3 : args[i] = v := by rw [List.getElem?_eq_getElem hi] at h2; simpa using h2
    simp [Array.getD_eq_getD_getElem?, Array.getElem?_append, hi, h3]
theorem yl_func [Dl] {f : Nat} {cap : Array Operand} {cv : List Value} (ho : o.op = .makeFunc (.func f) #[] cap) (hc : evs E cap.toList = some cv) : Yl P n o E H (.func (.func f) #[] cv.toArray) := fun a w h1 _ => by
  have e : cap.map a.eval = cv.toArray := by apply Array.toList_inj.1; simpa using h1.evs hc
  simp only [execOp, ho, e]
  simp [Instr.makeFunc]
end
section
variable {P : Program} {n : Nat} {o : Oper} {E : Env} {H : World → Prop} {x y : Operand} {t t' ty : Nat} {i j : Int} {k k' : IntKind}
theorem yl_convn [Dl] [hU : Und P t (.int k)] [hV : Und P t' (.int .i64)] (ho : o.op = .convert t t' x) (hx : ev E x = some (.int k i)) (h : -9223372036854775808 ≤ i ∧ i ≤ 9223372036854775807) : Yl P n o E H (.int .i64 i) := by
  have := yl_conv (P := P) (n := n) (H := H) ho hx
  rwa [wrap_i64 h] at this
theorem yl_remn [Dl] (ho : o.op = .binOp .rem t x y ty) (hx : ev E x = some (.int k i)) (hy : ev E y = some (.int k j)) (h : 0 ≤ i ∧ 0 < j) : Yl P n o E H (.int k (i % j)) := yl_bin ho hx hy (guard_int _ _ _) fun w => by
  have h1 : ¬ j = 0 := by omega
  have h2 : i.tmod j = i % j := Int.tmod_eq_emod_of_nonneg h.1
  simp [binOp, Op.intDiv, h1, h2]
theorem yl_quon [Dl] (ho : o.op = .binOp .quo t x y ty) (hx : ev E x = some (.int .i64 i)) (hy : ev E y = some (.int .i64 j)) (h : 0 ≤ i ∧ i ≤ 9223372036854775807 ∧ 0 < j) : Yl P n o E H (.int .i64 (i / j)) := yl_bin ho hx hy (guard_int _ _ _) fun w => by
  have h1 : ¬ j = 0 := by omega
  have h2 : i.tdiv j = i / j := Int.tdiv_eq_ediv_of_nonneg h.1
  have h3 : IntKind.i64.wrap (i / j) = i / j := wrap_i64 ⟨by have := Int.ediv_nonneg h.1 (Int.le_of_lt h.2.2); omega, by have := Int.ediv_le_self j h.1; omega⟩
  simp [binOp, Op.intDiv, h1, h2, h3]
end
/- Loops, with what is known of their numbers. -/
section
variable {P : Program} {n : Nat} {Q : Exit → Act → World → Prop} {E : Env} {H : World → Prop} {x : Code}
def Nx1 [Dl] {α1 : Type} (n : Nat) (Ψ : α1 → Prop) (I : α1 → Env) (J : α1 → World → Prop) (μ : α1 → Nat) (s1 : α1) : Act → World → Prop := fun a w => ∃ s1', μ s1' < μ s1 ∧ Ψ s1' ∧ FrOk n (I s1') a ∧ J s1' w
theorem tri_nx1 [Dl] {α1 : Type} {Ψ : α1 → Prop} {I : α1 → Env} {J : α1 → World → Prop} {μ : α1 → Nat} {s1 : α1} (s1' : α1) (hμ : μ s1' < μ s1) (hΨ : Ψ s1') (hE : Sub (I s1') E) (hH : ∀ w, H w → J s1' w) : Tri n (Nx1 n Ψ I J μ s1) E H := fun _ w h1 h2 => ⟨s1', hμ, hΨ, h1.sub hE, hH w h2⟩
theorem tri_loop1 [Dl] {α1 : Type} (Ψ : α1 → Prop) (I : α1 → Env) (J : α1 → World → Prop) (μ : α1 → Nat) (z1 : α1) (h0 : Ψ z1) (hE : Sub (I z1) E) (hH : ∀ w, H w → J z1 w)
    (round : ∀ s1, Ψ s1 → Tri n (x.wp P (Exit.then (Nx1 n Ψ I J μ s1) Q)) (I s1) (J s1)) : Tri n ((Code.loop x).wp P Q) E H := by
  refine tri_loop (α := α1) (fun s => I s) (fun s w => Ψ s ∧ J s w) (fun s => μ s) z1 hE (fun w h => ⟨h0, hH w h⟩) ?_
  intro s a w h1 h2
  refine wp_mono (round s h2.1 a w h1 h2.2) fun e a' w' q => ?_
  cases e with
  | normal => obtain ⟨s1', h3, h4, h5, h6⟩ := q; exact ⟨s1', h3, h5, h4, h6⟩
  | exit id => exact q
  | goto l => exact q
  | ret => exact q
  | panic ch => exact q
  | outgrown => exact q
def Nx2 [Dl] {α1 α2 : Type} (n : Nat) (Ψ : α1 → α2 → Prop) (I : α1 → α2 → Env) (J : α1 → α2 → World → Prop) (μ : α1 → α2 → Nat) (s1 : α1) (s2 : α2) : Act → World → Prop := fun a w => ∃ s1' s2', μ s1' s2' < μ s1 s2 ∧ Ψ s1' s2' ∧ FrOk n (I s1' s2') a ∧ J s1' s2' w
theorem tri_nx2 [Dl] {α1 α2 : Type} {Ψ : α1 → α2 → Prop} {I : α1 → α2 → Env} {J : α1 → α2 → World → Prop} {μ : α1 → α2 → Nat} {s1 : α1} {s2 : α2} (s1' : α1) (s2' : α2) (hμ : μ s1' s2' < μ s1 s2) (hΨ : Ψ s1' s2') (hE : Sub (I s1' s2') E) (hH : ∀ w, H w → J s1' s2' w) : Tri n (Nx2 n Ψ I J μ s1 s2) E H := fun _ w h1 h2 => ⟨s1', s2', hμ, hΨ, h1.sub hE, hH w h2⟩
theorem tri_loop2 [Dl] {α1 α2 : Type} (Ψ : α1 → α2 → Prop) (I : α1 → α2 → Env) (J : α1 → α2 → World → Prop) (μ : α1 → α2 → Nat) (z1 : α1) (z2 : α2) (h0 : Ψ z1 z2) (hE : Sub (I z1 z2) E) (hH : ∀ w, H w → J z1 z2 w)
    (round : ∀ s1 s2, Ψ s1 s2 → Tri n (x.wp P (Exit.then (Nx2 n Ψ I J μ s1 s2) Q)) (I s1 s2) (J s1 s2)) : Tri n ((Code.loop x).wp P Q) E H := by
  refine tri_loop (α := α1 × α2) (fun s => I s.1 s.2) (fun s w => Ψ s.1 s.2 ∧ J s.1 s.2 w) (fun s => μ s.1 s.2) (z1, z2) hE (fun w h => ⟨h0, hH w h⟩) ?_
  intro s a w h1 h2
  refine wp_mono (round s.1 s.2 h2.1 a w h1 h2.2) fun e a' w' q => ?_
  cases e with
  | normal => obtain ⟨s1', s2', h3, h4, h5, h6⟩ := q; exact ⟨(s1', s2'), h3, h5, h4, h6⟩
  | exit id => exact q
  | goto l => exact q
  | ret => exact q
  | panic ch => exact q
  | outgrown => exact q
def Nx3 [Dl] {α1 α2 α3 : Type} (n : Nat) (Ψ : α1 → α2 → α3 → Prop) (I : α1 → α2 → α3 → Env) (J : α1 → α2 → α3 → World → Prop) (μ : α1 → α2 → α3 → Nat) (s1 : α1) (s2 : α2) (s3 : α3) : Act → World → Prop := fun a w => ∃ s1' s2' s3', μ s1' s2' s3' < μ s1 s2 s3 ∧ Ψ s1' s2' s3' ∧ FrOk n (I s1' s2' s3') a ∧ J s1' s2' s3' w
theorem tri_nx3 [Dl] {α1 α2 α3 : Type} {Ψ : α1 → α2 → α3 → Prop} {I : α1 → α2 → α3 → Env} {J : α1 → α2 → α3 → World → Prop} {μ : α1 → α2 → α3 → Nat} {s1 : α1} {s2 : α2} {s3 : α3} (s1' : α1) (s2' : α2) (s3' : α3) (hμ : μ s1' s2' s3' < μ s1 s2 s3) (hΨ : Ψ s1' s2' s3') (hE : Sub (I s1' s2' s3') E) (hH : ∀ w, H w → J s1' s2' s3' w) : Tri n (Nx3 n Ψ I J μ s1 s2 s3) E H := fun _ w h1 h2 => ⟨s1', s2', s3', hμ, hΨ, h1.sub hE, hH w h2⟩
theorem tri_loop3 [Dl] {α1 α2 α3 : Type} (Ψ : α1 → α2 → α3 → Prop) (I : α1 → α2 → α3 → Env) (J : α1 → α2 → α3 → World → Prop) (μ : α1 → α2 → α3 → Nat) (z1 : α1) (z2 : α2) (z3 : α3) (h0 : Ψ z1 z2 z3) (hE : Sub (I z1 z2 z3) E) (hH : ∀ w, H w → J z1 z2 z3 w)
    (round : ∀ s1 s2 s3, Ψ s1 s2 s3 → Tri n (x.wp P (Exit.then (Nx3 n Ψ I J μ s1 s2 s3) Q)) (I s1 s2 s3) (J s1 s2 s3)) : Tri n ((Code.loop x).wp P Q) E H := by
  refine tri_loop (α := α1 × α2 × α3) (fun s => I s.1 s.2.1 s.2.2) (fun s w => Ψ s.1 s.2.1 s.2.2 ∧ J s.1 s.2.1 s.2.2 w) (fun s => μ s.1 s.2.1 s.2.2) (z1, z2, z3) hE (fun w h => ⟨h0, hH w h⟩) ?_
  intro s a w h1 h2
  refine wp_mono (round s.1 s.2.1 s.2.2 h2.1 a w h1 h2.2) fun e a' w' q => ?_
  cases e with
  | normal => obtain ⟨s1', s2', s3', h3, h4, h5, h6⟩ := q; exact ⟨(s1', s2', s3'), h3, h5, h4, h6⟩
  | exit id => exact q
  | goto l => exact q
  | ret => exact q
  | panic ch => exact q
  | outgrown => exact q
def Nx4 [Dl] {α1 α2 α3 α4 : Type} (n : Nat) (Ψ : α1 → α2 → α3 → α4 → Prop) (I : α1 → α2 → α3 → α4 → Env) (J : α1 → α2 → α3 → α4 → World → Prop) (μ : α1 → α2 → α3 → α4 → Nat) (s1 : α1) (s2 : α2) (s3 : α3) (s4 : α4) : Act → World → Prop := fun a w => ∃ s1' s2' s3' s4', μ s1' s2' s3' s4' < μ s1 s2 s3 s4 ∧ Ψ s1' s2' s3' s4' ∧ FrOk n (I s1' s2' s3' s4') a ∧ J s1' s2' s3' s4' w
theorem tri_nx4 [Dl] {α1 α2 α3 α4 : Type} {Ψ : α1 → α2 → α3 → α4 → Prop} {I : α1 → α2 → α3 → α4 → Env} {J : α1 → α2 → α3 → α4 → World → Prop} {μ : α1 → α2 → α3 → α4 → Nat} {s1 : α1} {s2 : α2} {s3 : α3} {s4 : α4} (s1' : α1) (s2' : α2) (s3' : α3) (s4' : α4) (hμ : μ s1' s2' s3' s4' < μ s1 s2 s3 s4) (hΨ : Ψ s1' s2' s3' s4') (hE : Sub (I s1' s2' s3' s4') E) (hH : ∀ w, H w → J s1' s2' s3' s4' w) : Tri n (Nx4 n Ψ I J μ s1 s2 s3 s4) E H := fun _ w h1 h2 => ⟨s1', s2', s3', s4', hμ, hΨ, h1.sub hE, hH w h2⟩
theorem tri_loop4 [Dl] {α1 α2 α3 α4 : Type} (Ψ : α1 → α2 → α3 → α4 → Prop) (I : α1 → α2 → α3 → α4 → Env) (J : α1 → α2 → α3 → α4 → World → Prop) (μ : α1 → α2 → α3 → α4 → Nat) (z1 : α1) (z2 : α2) (z3 : α3) (z4 : α4) (h0 : Ψ z1 z2 z3 z4) (hE : Sub (I z1 z2 z3 z4) E) (hH : ∀ w, H w → J z1 z2 z3 z4 w)
    (round : ∀ s1 s2 s3 s4, Ψ s1 s2 s3 s4 → Tri n (x.wp P (Exit.then (Nx4 n Ψ I J μ s1 s2 s3 s4) Q)) (I s1 s2 s3 s4) (J s1 s2 s3 s4)) : Tri n ((Code.loop x).wp P Q) E H := by
  refine tri_loop (α := α1 × α2 × α3 × α4) (fun s => I s.1 s.2.1 s.2.2.1 s.2.2.2) (fun s w => Ψ s.1 s.2.1 s.2.2.1 s.2.2.2 ∧ J s.1 s.2.1 s.2.2.1 s.2.2.2 w) (fun s => μ s.1 s.2.1 s.2.2.1 s.2.2.2) (z1, z2, z3, z4) hE (fun w h => ⟨h0, hH w h⟩) ?_
  intro s a w h1 h2
  refine wp_mono (round s.1 s.2.1 s.2.2.1 s.2.2.2 h2.1 a w h1 h2.2) fun e a' w' q => ?_
  cases e with
  | normal => obtain ⟨s1', s2', s3', s4', h3, h4, h5, h6⟩ := q; exact ⟨(s1', s2', s3', s4'), h3, h5, h4, h6⟩
  | exit id => exact q
  | goto l => exact q
  | ret => exact q
  | panic ch => exact q
  | outgrown => exact q
def Nx5 [Dl] {α1 α2 α3 α4 α5 : Type} (n : Nat) (Ψ : α1 → α2 → α3 → α4 → α5 → Prop) (I : α1 → α2 → α3 → α4 → α5 → Env) (J : α1 → α2 → α3 → α4 → α5 → World → Prop) (μ : α1 → α2 → α3 → α4 → α5 → Nat) (s1 : α1) (s2 : α2) (s3 : α3) (s4 : α4) (s5 : α5) : Act → World → Prop := fun a w => ∃ s1' s2' s3' s4' s5', μ s1' s2' s3' s4' s5' < μ s1 s2 s3 s4 s5 ∧ Ψ s1' s2' s3' s4' s5' ∧ FrOk n (I s1' s2' s3' s4' s5') a ∧ J s1' s2' s3' s4' s5' w
theorem tri_nx5 [Dl] {α1 α2 α3 α4 α5 : Type} {Ψ : α1 → α2 → α3 → α4 → α5 → Prop} {I : α1 → α2 → α3 → α4 → α5 → Env} {J : α1 → α2 → α3 → α4 → α5 → World → Prop} {μ : α1 → α2 → α3 → α4 → α5 → Nat} {s1 : α1} {s2 : α2} {s3 : α3} {s4 : α4} {s5 : α5} (s1' : α1) (s2' : α2) (s3' : α3) (s4' : α4) (s5' : α5) (hμ : μ s1' s2' s3' s4' s5' < μ s1 s2 s3 s4 s5) (hΨ : Ψ s1' s2' s3' s4' s5') (hE : Sub (I s1' s2' s3' s4' s5') E) (hH : ∀ w, H w → J s1' s2' s3' s4' s5' w) : Tri n (Nx5 n Ψ I J μ s1 s2 s3 s4 s5) E H := fun _ w h1 h2 => ⟨s1', s2', s3', s4', s5', hμ, hΨ, h1.sub hE, hH w h2⟩
theorem tri_loop5 [Dl] {α1 α2 α3 α4 α5 : Type} (Ψ : α1 → α2 → α3 → α4 → α5 → Prop) (I : α1 → α2 → α3 → α4 → α5 → Env) (J : α1 → α2 → α3 → α4 → α5 → World → Prop) (μ : α1 → α2 → α3 → α4 → α5 → Nat) (z1 : α1) (z2 : α2) (z3 : α3) (z4 : α4) (z5 : α5) (h0 : Ψ z1 z2 z3 z4 z5) (hE : Sub (I z1 z2 z3 z4 z5) E) (hH : ∀ w, H w → J z1 z2 z3 z4 z5 w)
    (round : ∀ s1 s2 s3 s4 s5, Ψ s1 s2 s3 s4 s5 → Tri n (x.wp P (Exit.then (Nx5 n Ψ I J μ s1 s2 s3 s4 s5) Q)) (I s1 s2 s3 s4 s5) (J s1 s2 s3 s4 s5)) : Tri n ((Code.loop x).wp P Q) E H := by
  refine tri_loop (α := α1 × α2 × α3 × α4 × α5) (fun s => I s.1 s.2.1 s.2.2.1 s.2.2.2.1 s.2.2.2.2) (fun s w => Ψ s.1 s.2.1 s.2.2.1 s.2.2.2.1 s.2.2.2.2 ∧ J s.1 s.2.1 s.2.2.1 s.2.2.2.1 s.2.2.2.2 w) (fun s => μ s.1 s.2.1 s.2.2.1 s.2.2.2.1 s.2.2.2.2) (z1, z2, z3, z4, z5) hE (fun w h => ⟨h0, hH w h⟩) ?_
  intro s a w h1 h2
  refine wp_mono (round s.1 s.2.1 s.2.2.1 s.2.2.2.1 s.2.2.2.2 h2.1 a w h1 h2.2) fun e a' w' q => ?_
  cases e with
  | normal => obtain ⟨s1', s2', s3', s4', s5', h3, h4, h5, h6⟩ := q; exact ⟨(s1', s2', s3', s4', s5'), h3, h5, h4, h6⟩
  | exit id => exact q
  | goto l => exact q
  | ret => exact q
  | panic ch => exact q
  | outgrown => exact q
end
end Go.Proofs.YtbgjelhefhcnpaaGreat
