/- Maps from integers, in a block of the call's own: an association list in the order of the entries. No conditions. -/
import Derived.Test.YthlildafofbiaaaAuto
import Derived.Test.YthlildafofbiaaaLst
import Derived.Maps.RangeRun
import Derived.MapKept
import Derived.Carry
import Derived.ChangeMaps4
set_option linter.unusedSimpArgs false
set_option linter.unusedVariables false
namespace Go.Proofs.Ythlildafofbiaaa
open Go Go.RowKit
class MV (β : Type) where
  val : β → Value
  dflt : β
instance : MV Int := ⟨.int .i64, 0⟩
instance : MV Bool := ⟨.bool, false⟩
/-- The program's type t is a map from int to a type of values of β. -/
class MpTy (P : Program) (t : Nat) (β : outParam Type) [MV β] : Prop where
  ex : ∃ k e, P.underlying t = some (.map k e) ∧ P.underlying k = some (.int .i64) ∧ ∀ w, (zeroValue e).run P w = .ok (MV.val (MV.dflt : β)) w
section
variable {β : Type}
def aFind : List (Int × β) → Int → Option (Nat × β)
  | [], _ => none
  | p :: r, k => if k = p.1 then some (0, p.2) else (aFind r k).map fun q => (q.1 + 1, q.2)
def aGet (l : List (Int × β)) (k : Int) : Option β := (aFind l k).map (·.2)
def aSet (l : List (Int × β)) (k : Int) (v : β) : List (Int × β) := match aFind l k with | some (j, _) => l.set j (k, v) | none => l ++ [(k, v)]
def aDel (l : List (Int × β)) (k : Int) : List (Int × β) := match aFind l k with | some (j, _) => l.eraseIdx j | none => l
theorem aFind_some : ∀ {l : List (Int × β)} {k : Int} {j : Nat} {v : β}, aFind l k = some (j, v) → l[j]? = some (k, v)
  | [], _, _, _, h => by simp [aFind] at h
  | p :: r, k, j, v, h => by
    rw [aFind] at h
    split at h
    · rename_i e
      simp only [Option.some.injEq, Prod.mk.injEq] at h
      obtain ⟨rfl, rfl⟩ := h
      subst e
      rfl
    · cases hr : aFind r k with
      | none => rw [hr] at h; cases h
      | some q =>
        rw [hr] at h
        simp only [Option.map_some, Option.some.injEq, Prod.mk.injEq] at h
        obtain ⟨rfl, rfl⟩ := h
        rw [List.getElem?_cons_succ]
        exact aFind_some hr
end
section
variable {β : Type} [MV β]
/-- The entries of a map's block. -/
structure Ents (es : Array MapEntry) (clock : Nat) (l : List (Int × β)) : Prop where
  list : es.toList.map (fun e => (e.key, e.val)) = l.map fun p => (Value.int .i64 p.1, MV.val p.2)
  born : (es.toList.map (·.born)).Nodup
  lt : ∀ e ∈ es.toList, e.born < clock
theorem Ents.len {es : Array MapEntry} {clock : Nat} {l : List (Int × β)} (h : Ents es clock l) : es.size = l.length := by
  have := congrArg List.length h.list
  simpa using this
theorem find_ents {k : Int} : ∀ {l : List (Int × β)} {es : List MapEntry} (i : Nat), es.map (fun e => (e.key, e.val)) = l.map (fun p => (Value.int .i64 p.1, MV.val p.2)) →
    Instr.findNow (.int .i64) (.int .i64 k) es i = some ((aFind l k).map fun q => (i + q.1, MV.val q.2))
  | [], es, i, h => by
    simp at h
    subst h
    rfl
  | p :: r, es, i, h => by
    cases es with
    | nil => simp at h
    | cons e es =>
      simp only [List.map_cons, List.cons.injEq, Prod.mk.injEq] at h
      obtain ⟨⟨h1, h2⟩, h3⟩ := h
      rw [Instr.findNow, h1]
      simp only [Instr.sameNow, if_pos]
      rw [aFind]
      by_cases e1 : k = p.1
      · rw [if_pos e1]
        subst e1
        simp [h2]
      · rw [if_neg e1]
        have : (k == p.1) = false := by simpa using e1
        rw [this]
        simp only
        rw [find_ents (i + 1) h3]
        cases aFind r k with
        | none => rfl
        | some q => simp; omega
/-- A map of the call's own. -/
def mapC (b : Nat) (l : List (Int × β)) : Chunk where
  lo := b
  hi := b + 1
  P := fun w => ∃ es clock, w.heap[b]? = some (.map es clock) ∧ Ents es clock l
  st := fun w w' h hp => by
    obtain ⟨es, clock, h1, h2⟩ := hp
    exact ⟨es, clock, by rw [h b (Nat.le_refl _) (by omega)]; exact h1, h2⟩
end
/-- A block of the call's own, whole. -/
def objC (b : Nat) (o : Obj) : Chunk where
  lo := b
  hi := b + 1
  P := fun w => w.heap[b]? = some o
  st := fun w w' h hp => by rw [h b (Nat.le_refl _) (by omega)]; exact hp
section
variable {β : Type} [MV β] {P : Program} {w : World} {t b clock : Nat} {es : Array MapEntry} {l : List (Int × β)} {k : Int}
theorem run_look [hM : MpTy P t β] (hb : w.heap[b]? = some (.map es clock)) (he : Ents es clock l) (ok : Bool) :
    (Instr.lookup t (.map (some b)) (.int .i64 k) ok).run P w = .ok (if ok then .tuple #[MV.val ((aGet l k).getD MV.dflt), .bool (aGet l k).isSome] else MV.val ((aGet l k).getD MV.dflt)) w := by
  obtain ⟨kt, et, h1, h2, h3⟩ := hM.ex
  have hk := fun e => MapKept.run_checkKey (P := P) (w := w) (kt := kt) (d := .int .i64) (k := .int .i64 k) h2 (by simp [MapKept.IsKey]) e 9999
  have hf := find_ents (k := k) 0 he.list
  simp only [Instr.lookup, Sem.run_bind, run_underlying h1, Result.andThen, MapKept.run_getObj_map hb, Sem.run_pure, hk, Instr.findKey, run_underlying h2, hf]
  cases h : aFind l k with
  | none => cases ok <;> simp [aGet, h, h3]
  | some q => cases ok <;> simp [aGet, h]
theorem run_upd [hM : MpTy P t β] (hb : w.heap[b]? = some (.map es clock)) (he : Ents es clock l) (v : β) :
    ∃ es' clock', (Instr.mapUpdate t (.map (some b)) (.int .i64 k) (MV.val v)).run P w = .ok () { w with heap := w.heap.setIfInBounds b (.map es' clock') } ∧ Ents es' clock' (aSet l k v) := by
  obtain ⟨kt, et, h1, h2, h3⟩ := hM.ex
  have hk := fun e => MapKept.run_checkKey (P := P) (w := w) (kt := kt) (d := .int .i64) (k := .int .i64 k) h2 (by simp [MapKept.IsKey]) e 9999
  have hf := find_ents (k := k) 0 he.list
  cases h : aFind l k with
  | none =>
    refine ⟨es.push { key := .int .i64 k, val := MV.val v, born := clock }, clock + 1, ?_, ?_⟩
    · rw [h] at hf
      simp [Instr.mapUpdate, run_underlying h1, MapKept.run_getObj_map hb, hk, Instr.findKey, run_underlying h2, hf, Result.andThen, MapKept.run_setObj_map _ hb]
    · have hs : aSet l k v = l ++ [(k, v)] := by unfold aSet; rw [h]
      rw [hs]
      refine ⟨by simp [he.list], ?_, fun e hm => ?_⟩
      · simp only [Array.toList_push, List.map_append, List.map_cons, List.map_nil]
        rw [List.nodup_append]
        refine ⟨he.born, by simp, fun a ha b' hb' hab => ?_⟩
        obtain ⟨e, he1, rfl⟩ := List.mem_map.1 ha
        have := he.lt e he1
        simp at hb'
        omega
      · simp only [Array.toList_push, List.mem_append, List.mem_singleton] at hm
        rcases hm with hm | rfl
        · have := he.lt e hm; omega
        · simp
  | some q =>
    obtain ⟨j, v0⟩ := q
    have hlj := aFind_some h
    have hej : ∃ e, es.toList[j]? = some e ∧ e.key = .int .i64 k := by
      have := congrArg (·[j]?) he.list
      simp only [List.getElem?_map, hlj, Option.map_some] at this
      cases hx : es.toList[j]? with
      | none => rw [hx] at this; cases this
      | some e =>
        rw [hx] at this
        simp only [Option.map_some, Option.some.injEq, Prod.mk.injEq] at this
        exact ⟨e, rfl, this.1⟩
    obtain ⟨e, hej, hek⟩ := hej
    have hej' : es[j]? = some e := by simpa using hej
    refine ⟨es.modify j fun e => { e with key := .int .i64 k, val := MV.val v }, clock, ?_, ?_⟩
    · rw [h] at hf
      simp [Instr.mapUpdate, run_underlying h1, MapKept.run_getObj_map hb, hk, Instr.findKey, run_underlying h2, hf, Result.andThen, hej', hek, Instr.keyThatStays, Instr.sameBits, MapKept.run_setObj_map _ hb]
    · have hs : aSet l k v = l.set j (k, v) := by unfold aSet; rw [h]
      rw [hs]
      have hbn : (es.modify j fun e => { e with key := .int .i64 k, val := MV.val v }).toList.map (·.born) = es.toList.map (·.born) := by
        apply List.ext_getElem?
        intro i
        simp only [Array.toList_modify, List.getElem?_map, List.getElem?_modify]
        cases es.toList[i]? with
        | none => rfl
        | some e => simp only [Option.map_some, Option.some.injEq, Option.map_eq_map]; split <;> rfl
      refine ⟨?_, by rw [hbn]; exact he.born, fun e hm => ?_⟩
      · apply List.ext_getElem?
        intro i
        have hl := congrArg (·[i]?) he.list
        simp only [List.getElem?_map] at hl
        simp only [Array.toList_modify, List.getElem?_map, List.getElem?_modify, List.getElem?_set]
        by_cases hij : j = i
        · subst hij
          have : j < l.length := (List.getElem?_eq_some_iff.1 hlj).1
          rw [hej, if_pos rfl, if_pos this]
          simp
        · rw [if_neg hij]
          cases hx : es.toList[i]? with
          | none => rw [hx] at hl; simpa [hij] using hl
          | some e => rw [hx] at hl; simpa [hij] using hl
      · have : e.born ∈ es.toList.map (·.born) := by rw [← hbn]; exact List.mem_map.2 ⟨e, hm, rfl⟩
        obtain ⟨e', h1, h2⟩ := List.mem_map.1 this
        rw [← h2]
        exact he.lt e' h1
theorem run_del [hM : MpTy P t β] (hb : w.heap[b]? = some (.map es clock)) (he : Ents es clock l) (ty t2 : Nat) :
    ∃ es', (Builtin.delete_ #[t, t2] ty #[.map (some b), .int .i64 k]).run P w = .ok (.tuple #[]) { w with heap := w.heap.setIfInBounds b (.map es' clock) } ∧ Ents es' clock (aDel l k) := by
  obtain ⟨kt, et, h1, h2, h3⟩ := hM.ex
  have hk := fun e => MapKept.run_checkKey (P := P) (w := w) (kt := kt) (d := .int .i64) (k := .int .i64 k) h2 (by simp [MapKept.IsKey]) e 9999
  have hf := find_ents (k := k) 0 he.list
  cases h : aFind l k with
  | none =>
    refine ⟨es, ?_, ?_⟩
    · rw [h] at hf
      simp [Builtin.delete_, run_underlying h1, MapKept.run_getObj_map hb, hk, Instr.findKey, run_underlying h2, hf, Result.andThen, MapKept.run_setObj_map _ hb]
    · unfold aDel; rw [h]; exact he
  | some q =>
    obtain ⟨j, v0⟩ := q
    have hlj := aFind_some h
    have hjl : j < l.length := (List.getElem?_eq_some_iff.1 hlj).1
    have hje : j < es.size := by rw [he.len]; exact hjl
    refine ⟨es.eraseIdxIfInBounds j, ?_, ?_⟩
    · rw [h] at hf
      simp [Builtin.delete_, run_underlying h1, MapKept.run_getObj_map hb, hk, Instr.findKey, run_underlying h2, hf, Result.andThen, MapKept.run_setObj_map _ hb]
    · have ht : (es.eraseIdxIfInBounds j).toList = es.toList.eraseIdx j := by
        unfold Array.eraseIdxIfInBounds
        rw [dif_pos hje]
        exact Array.toList_eraseIdx ..
      have hs : aDel l k = l.eraseIdx j := by unfold aDel; rw [h]
      rw [hs]
      refine ⟨?_, ?_, fun e hm => ?_⟩
      · rw [ht, Go.ChangeMaps.map_eraseIdx, he.list, ← Go.ChangeMaps.map_eraseIdx]
      · rw [ht, Go.ChangeMaps.map_eraseIdx]
        exact he.born.sublist (List.eraseIdx_sublist ..)
      · rw [ht] at hm
        exact he.lt e (List.mem_of_mem_eraseIdx hm)
end
end Go.Proofs.Ythlildafofbiaaa
