/- Slices of slices of numbers: what reads so, and rows of the call's own. No conditions. -/
import Derived.Test.YtinnkclemjognaaFacts
import Derived.Test.YtinnkclemjognaaLst
import Derived.Test.YtinnkclemjognaaSeqK
set_option linter.unusedSimpArgs false
set_option linter.unusedVariables false
namespace Go.Proofs.Ytinnkclemjognaa
open Go Go.RowKit
/-- A slice value, as an element. -/
structure SV where
  A : Option Addr
  len : Nat
  cap : Nat
def SV.v (s : SV) : Value := .slice s.A s.len s.cap
instance : Enc SV where
  default := ⟨none, 0, 0⟩
  sz := 1
  enc := fun s => [s.v]
  dec := fun cs => match cs with | [.slice A l c] => ⟨A, l, c⟩ | _ => ⟨none, 0, 0⟩
  len := fun _ => rfl
  one := fun _ u hu => by simp at hu; subst hu; rfl
  pos := by decide
instance : ElT Try.prog 22 SV := ⟨trivial⟩
instance : ElT Try.prog 3 Int := ⟨trivial⟩
abbrev intS (r : Row) (l : List Int) : Chunk := slC r 3 l
abbrev outS (r : Row) (l : List SV) : Chunk := slC r 22 l
def Row.sv (r : Row) : SV := ⟨r.A, r.len, r.cap⟩
theorem Row.sv_v (r : Row) : r.sv.v = r.v := rfl
structure RdN (H : World → Prop) (v : Value) (vs : List SV) (L : List (List Int)) : Prop where
  out : RdH H v vs
  len : vs.length = L.length
  inn : ∀ i, RdH H (vs.getD i default).v (L.getD i default)
section
variable {M : List Nat} {w0 : World} {cs ds : List Chunk} {H : World → Prop} {v : Value} {vs : List SV} {L : List (List Int)} {r : Row} {rs : List Row}
theorem RdN.cons {c : Chunk} (h : RdN (HpM M w0 cs) v vs L) : RdN (HpM M w0 (c :: cs)) v vs L := ⟨h.out.cons, h.len, fun i => (h.inn i).cons⟩
theorem RdN.app (h : RdN (HpM M w0 cs) v vs L) : RdN (HpM M w0 (ds ++ cs)) v vs L := ⟨h.out.app, h.len, fun i => (h.inn i).app⟩
theorem RdN.sub (h : RdN (HpM M w0 cs) v vs L) (hs : cs.Sublist ds) : RdN (HpM M w0 ds) v vs L := ⟨fun w hw => h.out w (hw.sub hs), h.len, fun i w hw => h.inn i w (hw.sub hs)⟩
theorem RdN.nil : RdN H (.slice none 0 0) [] [] := ⟨rd_nil, rfl, fun i => rd_nil⟩
/-- Rows of the call's own, one for each list. -/
def nest (rs : List Row) (L : List (List Int)) : List Chunk := List.zipWith intS rs L
def NC (r : Row) (rs : List Row) (L : List (List Int)) : List Chunk := outS r (rs.map Row.sv) :: nest rs L
theorem nest_get (hl : rs.length = L.length) {i : Nat} (hi : i < L.length) : (nest rs L)[i]? = some (intS (rs.getD i (Row.nil 0)) (L.getD i default)) := by
  unfold nest
  rw [List.getElem?_zipWith, List.getElem?_eq_getElem hi, List.getElem?_eq_getElem (by omega)]
  simp [List.getD_eq_getElem?_getD, List.getElem?_eq_getElem hi, List.getElem?_eq_getElem (show i < rs.length by omega)]
theorem nest_len (hl : rs.length = L.length) : (nest rs L).length = L.length := by unfold nest; simp [hl]
theorem nest_set (rs : List Row) (L : List (List Int)) (i : Nat) (r' : Row) (l' : List Int) : (nest rs L).set i (intS r' l') = nest (rs.set i r') (L.set i l') := by
  unfold nest
  apply List.ext_getElem?
  intro j
  rw [List.getElem?_set, List.getElem?_zipWith, List.getElem?_zipWith, List.getElem?_set, List.getElem?_set, List.length_zipWith]
  by_cases h : i = j
  · subst h
    simp only [if_true]
    by_cases h1 : i < rs.length <;> by_cases h2 : i < L.length <;> first | (simp [h1, h2]; done) | (simp [h1, h2]; omega)
  · simp [h]
theorem map_getD_sv (rs : List Row) {i : Nat} (hi : i < rs.length) : (rs.map Row.sv).getD i default = (rs.getD i (Row.nil 0)).sv := by
  rw [List.getD_eq_getElem?_getD, List.getD_eq_getElem?_getD, List.getElem?_map, List.getElem?_eq_getElem hi]
  rfl
theorem getD_none {α : Type} [Inhabited α] {l : List α} {i : Nat} (h : l.length ≤ i) : l.getD i default = default := by
  rw [List.getD_eq_getElem?_getD, List.getElem?_eq_none h]; rfl
theorem rdN_own (hl : rs.length = L.length) : RdN (HpM M w0 (NC r rs L ++ cs)) r.v (rs.map Row.sv) L := ⟨rd_chunk ⟨0, rfl⟩, by rw [List.length_map, hl], fun i => by
  rcases Nat.lt_or_ge i L.length with hi | hi
  · rw [map_getD_sv rs (by omega)]
    refine rd_chunk (r := rs.getD i (Row.nil 0)) (e := 3) ⟨i + 1, ?_⟩
    show (nest rs L ++ cs)[i]? = _
    rw [List.getElem?_append_left (by rw [nest_len hl]; exact hi), nest_get hl hi]
  · rw [getD_none (by rw [List.length_map]; omega), getD_none hi]
    exact rd_nil⟩
theorem nc_at (hl : rs.length = L.length) {i : Nat} (hi : i < L.length) : At (NC r rs L ++ cs) (i + 1) (intS (rs.getD i (Row.nil 0)) (L.getD i default)) := by
  show (nest rs L ++ cs)[i]? = _
  rw [List.getElem?_append_left (by rw [nest_len hl]; exact hi), nest_get hl hi]
theorem nc_set (hl : rs.length = L.length) {i : Nat} (hi : i < L.length) (r' : Row) (l' : List Int) : (NC r rs L ++ cs).set (i + 1) (intS r' l') = outS r (rs.map Row.sv) :: (nest (rs.set i r') (L.set i l') ++ cs) := by
  show outS r (rs.map Row.sv) :: (nest rs L ++ cs).set i (intS r' l') = _
  rw [List.set_append_left _ _ (by rw [nest_len hl]; exact hi), nest_set]
theorem nest_snoc (hl : rs.length = L.length) (r' : Row) (l' : List Int) : nest (rs ++ [r']) (L ++ [l']) = nest rs L ++ [intS r' l'] := by
  unfold nest
  rw [List.zipWith_append hl]
  rfl
end
end Go.Proofs.Ytinnkclemjognaa
