/- Texts joined: Map, ALst, ShOps. Each part's own remark says what it proves. -/
import Derived.Test.YtojfaelafakemaaGreatM05
import Derived.Test.YtojfaelafakemaaGreatM07
import Derived.Maps.RangeRun
import Derived.MapKept
import Derived.Carry
import Derived.ChangeMaps4
import Derived.Test.YtojfaelafakemaaGreatM21
/- Maps from integers, in a block of the call's own: an association list in the order of the entries. No conditions. -/
set_option linter.unusedSimpArgs false
set_option linter.unusedVariables false
namespace Go.Proofs.YtojfaelafakemaaGreat
open Go Go.RowKit
class MV (β : Type) where
  val : β → Value
  dflt : β
instance : MV Int := ⟨.int .i64, 0⟩
instance : MV Bool := ⟨.bool, false⟩
/-- The program's type t is a map from int to a type of values of β. -/
class MpTy (P : Program) (t : Nat) (β : outParam Type) [MV β] : Prop where
  ex : ∃ k e, P.underlying t = some (.map k e) ∧ P.underlying k = some (.int .i64) ∧ ∀ w, (zeroValue e).run P w = .ok (MV.val (MV.dflt : β)) w
section
variable {β : Type}
def aFind : List (Int × β) → Int → Option (Nat × β)
  | [], _ => none
  | p :: r, k => if k = p.1 then some (0, p.2) else (aFind r k).map fun q => (q.1 + 1, q.2)
def aGet (l : List (Int × β)) (k : Int) : Option β := (aFind l k).map (·.2)
def aSet (l : List (Int × β)) (k : Int) (v : β) : List (Int × β) := match aFind l k with | some (j, _) => l.set j (k, v) | none => l ++ [(k, v)]
def aDel (l : List (Int × β)) (k : Int) : List (Int × β) := match aFind l k with | some (j, _) => l.eraseIdx j | none => l
theorem aFind_some : ∀ {l : List (Int × β)} {k : Int} {j : Nat} {v : β}, aFind l k = some (j, v) → l[j]? = some (k, v)
  | [], _, _, _, h => by simp [aFind] at h
  | p :: r, k, j, v, h => by
    rw [aFind] at h
    split at h
    · rename_i e
      simp only [Option.some.injEq, Prod.mk.injEq] at h
      obtain ⟨rfl, rfl⟩ := h
      subst e
      rfl
    · cases hr : aFind r k with
      | none => rw [hr] at h; cases h
      | some q =>
        rw [hr] at h
        simp only [Option.map_some, Option.some.injEq, Prod.mk.injEq] at h
        obtain ⟨rfl, rfl⟩ := h
        rw [List.getElem?_cons_succ]
        exact aFind_some hr
end
section
variable {β : Type} [MV β]
/-- The entries of a map's block. -/
structure Ents (es : Array MapEntry) (clock : Nat) (l : List (Int × β)) : Prop where
  list : es.toList.map (fun e => (e.key, e.val)) = l.map fun p => (Value.int .i64 p.1, MV.val p.2)
  born : (es.toList.map (·.born)).Nodup
  lt : ∀ e ∈ es.toList, e.born < clock
theorem Ents.len {es : Array MapEntry} {clock : Nat} {l : List (Int × β)} (h : Ents es clock l) : es.size = l.length := by
  have := congrArg List.length h.list
  simpa using this
theorem find_ents {k : Int} : ∀ {l : List (Int × β)} {es : List MapEntry} (i : Nat), es.map (fun e => (e.key, e.val)) = l.map (fun p => (Value.int .i64 p.1, MV.val p.2)) →
    Instr.findNow (.int .i64) (.int .i64 k) es i = some ((aFind l k).map fun q => (i + q.1, MV.val q.2))
  | [], es, i, h => by
    simp at h
    subst h
    rfl
  | p :: r, es, i, h => by
    cases es with
    | nil => simp at h
    | cons e es =>
      simp only [List.map_cons, List.cons.injEq, Prod.mk.injEq] at h
      obtain ⟨⟨h1, h2⟩, h3⟩ := h
      rw [Instr.findNow, h1]
      simp only [Instr.sameNow, if_pos]
      rw [aFind]
      by_cases e1 : k = p.1
      · rw [if_pos e1]
        subst e1
        simp [h2]
      · rw [if_neg e1]
        have : (k == p.1) = false := by simpa using e1
        rw [this]
        simp only
        rw [find_ents (i + 1) h3]
        cases aFind r k with
        | none => rfl
        | some q => simp; omega
/-- A map of the call's own. -/
def mapC (b : Nat) (l : List (Int × β)) : Chunk where
  lo := b
  hi := b + 1
  P := fun w => ∃ es clock, w.heap[b]? = some (.map es clock) ∧ Ents es clock l
  st := fun w w' h hp => by
    obtain ⟨es, clock, h1, h2⟩ := hp
    exact ⟨es, clock, by rw [h b (Nat.le_refl _) (by omega)]; exact h1, h2⟩
end
/-- A block of the call's own, whole. -/
def objC (b : Nat) (o : Obj) : Chunk where
  lo := b
  hi := b + 1
  P := fun w => w.heap[b]? = some o
  st := fun w w' h hp => by rw [h b (Nat.le_refl _) (by omega)]; exact hp
section
variable {β : Type} [MV β] {P : Program} {w : World} {t b clock : Nat} {es : Array MapEntry} {l : List (Int × β)} {k : Int}
theorem run_look [hM : MpTy P t β] (hb : w.heap[b]? = some (.map es clock)) (he : Ents es clock l) (ok : Bool) :
    (Instr.lookup t (.map (some b)) (.int .i64 k) ok).run P w = .ok (if ok then .tuple #[MV.val ((aGet l k).getD MV.dflt), .bool (aGet l k).isSome] else MV.val ((aGet l k).getD MV.dflt)) w := by
  obtain ⟨kt, et, h1, h2, h3⟩ := hM.ex
  have hk := fun e => MapKept.run_checkKey (P := P) (w := w) (kt := kt) (d := .int .i64) (k := .int .i64 k) h2 (by simp [MapKept.IsKey]) e 9999
  have hf := find_ents (k := k) 0 he.list
  simp only [Instr.lookup, Sem.run_bind, run_underlying h1, Result.andThen, MapKept.run_getObj_map hb, Sem.run_pure, hk, Instr.findKey, run_underlying h2, hf]
  cases h : aFind l k with
  | none => cases ok <;> simp [aGet, h, h3]
  | some q => cases ok <;> simp [aGet, h]
theorem run_upd [hM : MpTy P t β] (hb : w.heap[b]? = some (.map es clock)) (he : Ents es clock l) (v : β) :
    ∃ es' clock', (Instr.mapUpdate t (.map (some b)) (.int .i64 k) (MV.val v)).run P w = .ok () { w with heap := w.heap.setIfInBounds b (.map es' clock') } ∧ Ents es' clock' (aSet l k v) := by
  obtain ⟨kt, et, h1, h2, h3⟩ := hM.ex
  have hk := fun e => MapKept.run_checkKey (P := P) (w := w) (kt := kt) (d := .int .i64) (k := .int .i64 k) h2 (by simp [MapKept.IsKey]) e 9999
  have hf := find_ents (k := k) 0 he.list
  cases h : aFind l k with
  | none =>
    refine ⟨es.push { key := .int .i64 k, val := MV.val v, born := clock }, clock + 1, ?_, ?_⟩
    · rw [h] at hf
      simp [Instr.mapUpdate, run_underlying h1, MapKept.run_getObj_map hb, hk, Instr.findKey, run_underlying h2, hf, Result.andThen, MapKept.run_setObj_map _ hb]
    · have hs : aSet l k v = l ++ [(k, v)] := by unfold aSet; rw [h]
      rw [hs]
      refine ⟨by simp [he.list], ?_, fun e hm => ?_⟩
      · simp only [Array.toList_push, List.map_append, List.map_cons, List.map_nil]
        rw [List.nodup_append]
        refine ⟨he.born, by simp, fun a ha b' hb' hab => ?_⟩
        obtain ⟨e, he1, rfl⟩ := List.mem_map.1 ha
        have := he.lt e he1
        simp at hb'
        omega
      · simp only [Array.toList_push, List.mem_append, List.mem_singleton] at hm
        rcases hm with hm | rfl
        · have := he.lt e hm; omega
        · simp
  | some q =>
    obtain ⟨j, v0⟩ := q
    have hlj := aFind_some h
    have hej : ∃ e, es.toList[j]? = some e ∧ e.key = .int .i64 k := by
      have := congrArg (·[j]?) he.list
      simp only [List.getElem?_map, hlj, Option.map_some] at this
      cases hx : es.toList[j]? with
      | none => rw [hx] at this; cases this
      | some e =>
        rw [hx] at this
        simp only [Option.map_some, Option.some.injEq, Prod.mk.injEq] at this
        exact ⟨e, rfl, this.1⟩
    obtain ⟨e, hej, hek⟩ := hej
    have hej' : es[j]? = some e := by simpa using hej
    refine ⟨es.modify j fun e => { e with key := .int .i64 k, val := MV.val v }, clock, ?_, ?_⟩
    · rw [h] at hf
      simp [Instr.mapUpdate, run_underlying h1, MapKept.run_getObj_map hb, hk, Instr.findKey, run_underlying h2, hf, Result.andThen, hej', hek, Instr.keyThatStays, Instr.sameBits, MapKept.run_setObj_map _ hb]
    · have hs : aSet l k v = l.set j (k, v) := by unfold aSet; rw [h]
      rw [hs]
      have hbn : (es.modify j fun e => { e with key := .int .i64 k, val := MV.val v }).toList.map (·.born) = es.toList.map (·.born) := by
        apply List.ext_getElem?
        intro i
        simp only [Array.toList_modify, List.getElem?_map, List.getElem?_modify]
        cases es.toList[i]? with
        | none => rfl
        | some e => simp only [Option.map_some, Option.some.injEq, Option.map_eq_map]; split <;> rfl
      refine ⟨?_, by rw [hbn]; exact he.born, fun e hm => ?_⟩
      · apply List.ext_getElem?
        intro i
        have hl := congrArg (·[i]?) he.list
        simp only [List.getElem?_map] at hl
        simp only [Array.toList_modify, List.getElem?_map, List.getElem?_modify, List.getElem?_set]
        by_cases hij : j = i
        · subst hij
          have : j < l.length := (List.getElem?_eq_some_iff.1 hlj).1
          rw [hej, if_pos rfl, if_pos this]
          simp
        · rw [if_neg hij]
          cases hx : es.toList[i]? with
          | none => rw [hx] at hl; simpa [hij] using hl
          | some e => rw [hx] at hl; simpa [hij] using hl
      · have : e.born ∈ es.toList.map (·.born) := by rw [← hbn]; exact List.mem_map.2 ⟨e, hm, rfl⟩
        obtain ⟨e', h1, h2⟩ := List.mem_map.1 this
        rw [← h2]
        exact he.lt e' h1
theorem run_del [hM : MpTy P t β] (hb : w.heap[b]? = some (.map es clock)) (he : Ents es clock l) (ty t2 : Nat) :
    ∃ es', (Builtin.delete_ #[t, t2] ty #[.map (some b), .int .i64 k]).run P w = .ok (.tuple #[]) { w with heap := w.heap.setIfInBounds b (.map es' clock) } ∧ Ents es' clock (aDel l k) := by
  obtain ⟨kt, et, h1, h2, h3⟩ := hM.ex
  have hk := fun e => MapKept.run_checkKey (P := P) (w := w) (kt := kt) (d := .int .i64) (k := .int .i64 k) h2 (by simp [MapKept.IsKey]) e 9999
  have hf := find_ents (k := k) 0 he.list
  cases h : aFind l k with
  | none =>
    refine ⟨es, ?_, ?_⟩
    · rw [h] at hf
      simp [Builtin.delete_, run_underlying h1, MapKept.run_getObj_map hb, hk, Instr.findKey, run_underlying h2, hf, Result.andThen, MapKept.run_setObj_map _ hb]
    · unfold aDel; rw [h]; exact he
  | some q =>
    obtain ⟨j, v0⟩ := q
    have hlj := aFind_some h
    have hjl : j < l.length := (List.getElem?_eq_some_iff.1 hlj).1
    have hje : j < es.size := by rw [he.len]; exact hjl
    refine ⟨es.eraseIdxIfInBounds j, ?_, ?_⟩
    · rw [h] at hf
      simp [Builtin.delete_, run_underlying h1, MapKept.run_getObj_map hb, hk, Instr.findKey, run_underlying h2, hf, Result.andThen, MapKept.run_setObj_map _ hb]
    · have ht : (es.eraseIdxIfInBounds j).toList = es.toList.eraseIdx j := by
        unfold Array.eraseIdxIfInBounds
        rw [dif_pos hje]
        exact Array.toList_eraseIdx ..
      have hs : aDel l k = l.eraseIdx j := by unfold aDel; rw [h]
      rw [hs]
      refine ⟨?_, ?_, fun e hm => ?_⟩
      · rw [ht, Go.ChangeMaps.map_eraseIdx, he.list, ← Go.ChangeMaps.map_eraseIdx]
      · rw [ht, Go.ChangeMaps.map_eraseIdx]
        exact he.born.sublist (List.eraseIdx_sublist ..)
      · rw [ht] at hm
        exact he.lt e (List.mem_of_mem_eraseIdx hm)
end
end Go.Proofs.YtojfaelafakemaaGreat

/- Association lists in plain terms. No conditions. -/
set_option linter.unusedSimpArgs false
set_option linter.unusedVariables false
namespace Go.Proofs.YtojfaelafakemaaGreat
section
variable {β : Type}
def keysL (l : List (Int × β)) : List Int := l.map (·.1)
theorem find_none : ∀ {l : List (Int × β)} {k : Int}, aFind l k = none ↔ k ∉ keysL l
  | [], k => by simp [aFind, keysL]
  | p :: r, k => by
    rw [aFind]
    have ih := find_none (l := r) (k := k)
    by_cases e : k = p.1
    · rw [if_pos e]; simp [keysL, e]
    · rw [if_neg e]
      have : (aFind r k).map (fun q => (q.1 + 1, q.2)) = none ↔ aFind r k = none := by cases aFind r k <;> simp
      rw [this, ih]
      simp [keysL, e]
theorem get_none {l : List (Int × β)} {k : Int} : aGet l k = none ↔ k ∉ keysL l := by
  unfold aGet
  rw [← find_none]
  cases aFind l k <;> simp
theorem get_cons (p : Int × β) (r : List (Int × β)) (k : Int) : aGet (p :: r) k = if k = p.1 then some p.2 else aGet r k := by
  unfold aGet
  rw [aFind]
  split
  · rfl
  · cases aFind r k <;> rfl
theorem set_none {l : List (Int × β)} {k : Int} (h : aGet l k = none) (v : β) : aSet l k v = l ++ [(k, v)] := by
  have : aFind l k = none := by rw [find_none]; exact get_none.1 h
  unfold aSet; rw [this]
theorem find_cons_ne {p : Int × β} {r : List (Int × β)} {k : Int} (e : ¬ k = p.1) : aFind (p :: r) k = (aFind r k).map fun q => (q.1 + 1, q.2) := by rw [aFind, if_neg e]
theorem set_cons (p : Int × β) (r : List (Int × β)) (k : Int) (v : β) : aSet (p :: r) k v = if k = p.1 then (k, v) :: r else p :: aSet r k v := by
  by_cases e : k = p.1
  · rw [if_pos e]; unfold aSet; rw [aFind, if_pos e]; rfl
  · rw [if_neg e]; unfold aSet; rw [find_cons_ne e]
    cases aFind r k <;> rfl
theorem del_cons (p : Int × β) (r : List (Int × β)) (k : Int) : aDel (p :: r) k = if k = p.1 then r else p :: aDel r k := by
  by_cases e : k = p.1
  · rw [if_pos e]; unfold aDel; rw [aFind, if_pos e]; rfl
  · rw [if_neg e]; unfold aDel; rw [find_cons_ne e]
    cases aFind r k <;> rfl
theorem get_set : ∀ (l : List (Int × β)) (k k' : Int) (v : β), aGet (aSet l k v) k' = if k' = k then some v else aGet l k'
  | [], k, k', v => by
    have : aSet ([] : List (Int × β)) k v = [(k, v)] := rfl
    rw [this, get_cons]
  | p :: r, k, k', v => by
    rw [set_cons]
    by_cases e : k = p.1
    · rw [if_pos e, get_cons, get_cons]
      by_cases e' : k' = k
      · simp [e']
      · simp [e', ← e]
    · rw [if_neg e, get_cons, get_cons, get_set r k k' v]
      by_cases e' : k' = p.1
      · rw [if_pos e', if_pos e', if_neg]
        omega
      · rw [if_neg e', if_neg e']
theorem get_del : ∀ {l : List (Int × β)} (k k' : Int), (keysL l).Nodup → aGet (aDel l k) k' = if k' = k then none else aGet l k'
  | [], k, k', _ => by
    have : aDel ([] : List (Int × β)) k = [] := rfl
    rw [this]
    split <;> rfl
  | p :: r, k, k', h => by
    have h' := List.nodup_cons.1 h
    rw [del_cons]
    by_cases e : k = p.1
    · rw [if_pos e, get_cons]
      by_cases e' : k' = k
      · rw [if_pos e', get_none, e', e]; exact h'.1
      · rw [if_neg e', if_neg (by omega)]
    · rw [if_neg e, get_cons, get_cons, get_del k k' h'.2]
      by_cases e' : k' = p.1
      · rw [if_pos e', if_pos e', if_neg]; omega
      · rw [if_neg e', if_neg e']
theorem keys_set : ∀ (l : List (Int × β)) (k : Int) (v : β), keysL (aSet l k v) = if k ∈ keysL l then keysL l else keysL l ++ [k]
  | [], k, v => rfl
  | p :: r, k, v => by
    rw [set_cons]
    by_cases e : k = p.1
    · rw [if_pos e, if_pos (by simp [keysL, e])]
      simp [keysL, e]
    · rw [if_neg e]
      have ih := keys_set r k v
      show p.1 :: keysL (aSet r k v) = _
      rw [ih, show keysL (p :: r) = p.1 :: keysL r from rfl]
      by_cases hm : k ∈ keysL r
      · rw [if_pos hm, if_pos (List.mem_cons_of_mem _ hm)]
      · rw [if_neg hm, if_neg (by rw [List.mem_cons, not_or]; exact ⟨e, hm⟩)]; rfl
theorem nodup_set {l : List (Int × β)} (h : (keysL l).Nodup) (k : Int) (v : β) : (keysL (aSet l k v)).Nodup := by
  rw [keys_set]
  split
  · exact h
  · rename_i hm
    rw [List.nodup_append]
    exact ⟨h, by simp, fun a ha b hb => by rw [List.mem_singleton.1 hb]; exact fun e => hm (e ▸ ha)⟩
theorem keys_del : ∀ (l : List (Int × β)) (k : Int), keysL (aDel l k) = (keysL l).erase k
  | [], k => rfl
  | p :: r, k => by
    rw [del_cons]
    by_cases e : k = p.1
    · rw [if_pos e]; simp [keysL, e]
    · rw [if_neg e]
      show p.1 :: keysL (aDel r k) = (p.1 :: keysL r).erase k
      rw [keys_del r k, List.erase_cons_tail (by simpa using fun h => e h.symm)]
theorem nodup_del {l : List (Int × β)} (h : (keysL l).Nodup) (k : Int) : (keysL (aDel l k)).Nodup := by
  rw [keys_del]
  exact h.sublist (List.erase_sublist ..)
theorem len_keys (l : List (Int × β)) : (keysL l).length = l.length := List.length_map ..
theorem len_set (l : List (Int × β)) (k : Int) (v : β) : (aSet l k v).length = if k ∈ keysL l then l.length else l.length + 1 := by
  have := congrArg List.length (keys_set l k v)
  rw [len_keys] at this
  rw [this]
  split
  · exact len_keys l
  · rw [List.length_append, len_keys]; rfl
theorem mem_get {l : List (Int × β)} (h : (keysL l).Nodup) {p : Int × β} (hm : p ∈ l) : aGet l p.1 = some p.2 := by
  induction l with
  | nil => cases hm
  | cons q r ih =>
    have h' := List.nodup_cons.1 h
    rw [get_cons]
    rcases List.mem_cons.1 hm with rfl | hm
    · rw [if_pos rfl]
    · rw [if_neg, ih h'.2 hm]
      intro e
      exact h'.1 (List.mem_map.2 ⟨p, hm, e⟩)
theorem get_mem {l : List (Int × β)} {k : Int} {v : β} (h : aGet l k = some v) : (k, v) ∈ l := by
  unfold aGet at h
  cases hf : aFind l k with
  | none => rw [hf] at h; cases h
  | some q =>
    rw [hf] at h
    obtain ⟨j, v'⟩ := q
    simp only [Option.map_some, Option.some.injEq] at h
    subst h
    exact List.mem_of_getElem? (aFind_some hf)
end
/-- A list without repetitions is no longer than one that has all its elements. -/
theorem nodup_le : ∀ {K L : List Int}, K.Nodup → (∀ x ∈ K, x ∈ L) → K.length ≤ L.length
  | [], _, _, _ => Nat.zero_le _
  | x :: K, L, h, hs => by
    have h' := List.nodup_cons.1 h
    have hx := hs x (List.mem_cons_self ..)
    have := nodup_le (K := K) (L := L.erase x) h'.2 fun y hy => by
      have hne : y ≠ x := fun e => h'.1 (e ▸ hy)
      exact (List.mem_erase_of_ne hne).2 (hs y (List.mem_cons_of_mem _ hy))
    rw [List.length_erase_of_mem hx] at this
    have := List.length_pos_of_mem hx
    simp only [List.length_cons]
    omega
/-- The number of different elements: of those that do not come again. -/
def dcN : List Int → Nat
  | [] => 0
  | x :: r => (if x ∈ r then 0 else 1) + dcN r
def ddL : List Int → List Int
  | [] => []
  | x :: r => if x ∈ r then ddL r else x :: ddL r
theorem dd_spec : ∀ l : List Int, (ddL l).length = dcN l ∧ (ddL l).Nodup ∧ ∀ x, x ∈ ddL l ↔ x ∈ l
  | [] => by simp [ddL, dcN]
  | x :: r => by
    obtain ⟨h1, h2, h3⟩ := dd_spec r
    unfold ddL dcN
    by_cases e : x ∈ r
    · rw [if_pos e, if_pos e]
      refine ⟨by omega, h2, fun y => ?_⟩
      rw [h3, List.mem_cons]
      constructor
      · exact .inr
      · rintro (rfl | h)
        · exact e
        · exact h
    · rw [if_neg e, if_neg e]
      refine ⟨by simp [h1]; omega, List.nodup_cons.2 ⟨fun h => e ((h3 x).1 h), h2⟩, fun y => ?_⟩
      rw [List.mem_cons, List.mem_cons, h3]
theorem dc_of {K W : List Int} (h : K.Nodup) (hm : ∀ x, x ∈ K ↔ x ∈ W) : K.length = dcN W := by
  obtain ⟨h1, h2, h3⟩ := dd_spec W
  rw [← h1]
  exact Nat.le_antisymm (nodup_le h fun x hx => (h3 x).2 ((hm x).1 hx)) (nodup_le h2 fun x hx => (hm x).2 ((h3 x).1 hx))
end Go.Proofs.YtojfaelafakemaaGreat

/- The walks of the shootdown machine's parts: word, is, target, use, notify. No conditions. -/
set_option linter.unusedSimpArgs false
set_option linter.unusedVariables false
namespace Go.Proofs.YtojfaelafakemaaGreat
open Go Go.RowKit
/-- A valid machine. -/
structure Vl (m : SM) : Prop where
  rng : rangeM m = true
  frm : formM m = true
  lim : limM m = true
  cov : coversM m = true
theorem schk_zero {m : SM} : schk m = 0 ↔ Vl m := by
  unfold schk
  constructor
  · intro h
    split at h
    · cases h
    split at h
    · cases h
    split at h
    · cases h
    split at h
    · cases h
    exact ⟨by simp_all, by simp_all, by simp_all, by simp_all⟩
  · rintro ⟨a, b, c, d⟩
    rw [if_neg (by rw [a]; simp), if_neg (by rw [b]; simp), if_neg (by rw [c]; simp), if_neg (by rw [d]; simp)]
section
variable {m : SM} (h : Vl m)
include h
theorem Vl.r : 1 ≤ m.tl.length ∧ m.tl.length ≤ 4 ∧ m.pd.length = m.tl.length ∧ 1 ≤ m.wd.length ∧ m.wd.length ≤ 256 ∧ 1 ≤ m.tb.length ∧ m.tb.length ≤ 512 := by
  have := h.rng
  unfold rangeM at this
  exact of_decide_eq_true this
theorem Vl.tlb {c : Nat} (hc : c < m.tl.length) : Ok (m.tl.getD c default).z (m.tl.getD c default).l ∧ ∀ t ∈ (m.tl.getD c default).l, pgOk m.wd.length t.w = true ∧ t.s = 0 ∧ 0 ≤ t.p ∧ t.p < m.tb.length := form_tl' h.frm hc
theorem Vl.lb {i : Nat} (hi : i < m.lm.length) : lbOk m i (m.lm.getD i default) = true := by
  have := h.lim
  unfold limM at this
  rw [Bool.and_eq_true] at this
  exact List.all_eq_true.1 this.2 i (List.mem_range.2 hi)
theorem Vl.lb' {i : Nat} (hi : i < m.lm.length) : (0 ≤ (m.lm.getD i default).f ∧ (m.lm.getD i default).f < m.wd.length) ∧ usedT m m.tb.length (m.lm.getD i default).f = false ∧ usedL m i (m.lm.getD i default).f = false ∧ (1 ≤ (m.lm.getD i default).a ∧ (m.lm.getD i default).a < 2 ^ m.tl.length) := by
  have := h.lb hi
  rw [lbOk_eq] at this
  simp only [Bool.and_eq_true, decide_eq_true_eq, Bool.not_eq_true', Bool.or_eq_false_iff] at this
  exact ⟨this.1, this.2.1.1, this.2.1.2, this.2.2.1⟩
theorem Vl.nd : (m.lm.map (·.f)).Nodup := by
  rw [List.nodup_iff_pairwise_ne, List.pairwise_iff_getElem]
  intro i j hi hj hij e
  rw [List.length_map] at hi hj
  rw [List.getElem_map, List.getElem_map] at e
  have := (h.lb' hj).2.2.1
  unfold usedL at this
  rw [List.any_eq_false] at this
  refine this m.lm[i] (by rw [List.mem_take_iff_getElem]; exact ⟨i, by omega, rfl⟩) ?_
  rw [getD_get hj, e]; simp
theorem Vl.lml : m.lm.length ≤ m.wd.length := by
  have := nodup_le (K := m.lm.map (·.f)) (L := (List.range m.wd.length).map fun (i : Nat) => (i : Int)) h.nd fun x hx => by
    obtain ⟨y, hy, rfl⟩ := List.mem_map.1 hx
    obtain ⟨i, hi, rfl⟩ := List.getElem_of_mem hy
    have h2 := (h.lb' hi).1
    rw [getD_get hi] at h2
    refine List.mem_map.2 ⟨m.lm[i].f.toNat, List.mem_range.2 (by omega), ?_⟩
    show ((m.lm[i].f.toNat : Nat) : Int) = m.lm[i].f
    omega
  simpa using this
theorem Vl.tel (i : Nat) : (m.tl.getD i default).l.length ≤ 16 := by
  rcases Nat.lt_or_ge i m.tl.length with hi | hi
  · have := (h.tlb hi).1
    have := this.n
    have := (h.tlb hi).1.z
    omega
  · rw [getD_none hi]; exact Nat.zero_le _
theorem Vl.sle (hp : ∀ i, (m.pd.getD i default).length ≤ 1000000) (hw : ∀ i, 0 ≤ (m.tb.getD i default).v ∧ (m.tb.getD i default).v < 18446744073709551616) (he : ∀ i, ∀ t ∈ (m.tl.getD i default).l, Wf t) : SLe m := by
  have := h.r
  have := h.lml
  exact ⟨by omega, by omega, fun i => by have := h.tel i; omega, by omega, fun i => by have := hp i; omega, by omega, by omega, hw, he⟩
end
attribute [local irreducible] decR enOk pgOk teOk ivOk tlOk checkM lbOk formM limM schk
abbrev hdN : SH := ⟨⟨none, 0, 0⟩, ⟨none, 0, 0⟩, ⟨none, 0, 0⟩, ⟨none, 0, 0⟩, ⟨none, 0, 0⟩⟩
theorem zero_rows {w0 w : World} {cs cs' : List Chunk} (hw : Hp w0 cs' w) (hs : cs.Sublist cs') : ∃ q : {q : SR // SOk q SM.zero}, hdV (hd q.1) = hdV hdN ∧ Hp w0 (SC q.1 SM.zero ++ cs) w :=
  ⟨⟨⟨Row.nil w0.heap.size, Row.nil w0.heap.size, Row.nil w0.heap.size, Row.nil w0.heap.size, Row.nil w0.heap.size, [], []⟩, ⟨rfl, rfl⟩⟩, rfl, (((((hw.sub hs).push0 rfl rfl (Own.nil w _ _)).push0 rfl rfl (Own.nil w _ _)).push0 rfl rfl (Own.nil w _ _)).push0 rfl rfl (Own.nil w _ _)).push0 rfl rfl (Own.nil w _ _)⟩
attribute [local irreducible] Code.wp wpList bodyPost Exit.then Exit.inBlock Calls wpQuiet Tri TriQ
section
variable (w0 : World) (cs : List Chunk)
theorem word_c (k n : Int) (a b c d : Bool) : Cal Tryz.prog 23 [entV k n a b c d] (Hp w0 cs) (fun _ : Unit => .int .u64 (encS k n a b c d).1) (fun _ => Hp w0 cs) := by
  refine cal_of_tri Tryz.func23 rfl Tryz.ntmps23 rfl ?_
  (repeat (first | refine tri_seq ?_ | refine tri_then ?_)); refine tri_region ?_; (repeat (first | refine au_pure ?_ | refine au_pass ?_ | refine au_box (fun _ => ?_) | refine au_alloc (fun _ => ?_) | refine au_store ?_ | refine au_make rfl rfl (fun _ => ?_) | refine au_lit rfl rfl rfl (fun _ => ?_) | refine au_append rfl rfl rfl rfl (fun _ => au_norm ?_) | refine au_storeE rfl rfl rfl rfl ?_)); refine tri_nil ?_; (repeat refine tri_then ?_)
  (repeat (first | refine zz ?_ | refine zv fun _ => ?_))
  refine au_call rfl rfl (cl_of rfl rfl rfl (fun _ h => Ret.hp (encode_any _ _ _ _ _ _ _) h)) ?_
  (repeat (first | refine zz ?_ | refine zv fun _ => ?_))
  refine au_done1 rfl ?_
  exact fun w hw => ⟨(), rfl, hw.sub (by repeat (first | exact List.Sublist.refl _ | assumption | apply List.Sublist.cons_cons | apply List.Sublist.cons))⟩
theorem is_c {vB vP vL vW vT : Value} {m : SM} (p : Int) (hT : RdH (Hp w0 cs) vT m.tb) (hl : m.tb.length ≤ 9223372036854775807) :
    Cal Tryz.prog 51 [shV vT vB vP vL vW, .int .i64 p] (Hp w0 cs) (fun _ : Unit => .bool (isP m p)) (fun _ => Hp w0 cs) := by
  refine cal_of_tri Tryz.func51 rfl Tryz.ntmps51 rfl ?_
  (repeat (first | refine tri_seq ?_ | refine tri_then ?_)); refine tri_region ?_; (repeat (first | refine au_pure ?_ | refine au_pass ?_ | refine au_box (fun _ => ?_) | refine au_alloc (fun _ => ?_) | refine au_store ?_ | refine au_make rfl rfl (fun _ => ?_) | refine au_lit rfl rfl rfl (fun _ => ?_) | refine au_append rfl rfl rfl rfl (fun _ => au_norm ?_) | refine au_storeE rfl rfl rfl rfl ?_)); refine tri_nil ?_; (repeat refine tri_then ?_)
  rename_i g2
  (repeat (first | refine zz ?_ | refine zv fun _ => ?_))
  cases h1 : decide (p ≥ 0)
  · have h1 := of_decide_eq_false h1
    (repeat (first | refine zz ?_ | refine zv fun _ => ?_))
    refine au_done1 rfl ?_
    exact fun w hw => ⟨(), by unfold isP; rw [decide_eq_false (by omega)], hw.sub (by repeat (first | exact List.Sublist.refl _ | assumption | apply List.Sublist.cons_cons | apply List.Sublist.cons))⟩
  · have h1 := of_decide_eq_true h1
    (repeat (first | refine zz ?_ | refine zv fun _ => ?_))
    refine au_pure ?_ (hy := yl_len rfl rfl hT.cons)
    (repeat (first | refine zz ?_ | refine zv fun _ => ?_))
    refine au_done1 rfl ?_
    refine fun w hw => ⟨(), ?_, hw.sub (by repeat (first | exact List.Sublist.refl _ | assumption | apply List.Sublist.cons_cons | apply List.Sublist.cons))⟩
    unfold isP
    rw [show decide (p < (m.tb.length : Int)) = decide (0 ≤ p ∧ p < (m.tb.length : Int)) by rw [decide_eq_decide]; omega]
theorem isP_iff {m : SM} {p : Int} : isP m p = true ↔ 0 ≤ p ∧ p < m.tb.length := by unfold isP; rw [decide_eq_true_eq]
set_option maxHeartbeats 1000000 in
theorem target_c {h : SH} {xb : List TB} {xp : List SV} {m : SM} (p : Int) (hC : RdS (Hp w0 cs) h xb xp m) (hL : SLe m) :
    Cal Tryz.prog 62 [hdV h, .int .i64 p] (Hp w0 cs) (fun _ : Unit => .tuple #[entE (if tgtE m p = 0 then tgtX m p else noEnt), .int .i64 (tgtE m p)]) (fun _ => Hp w0 cs) := by
  have hno : ∀ (w : World) (cs' : List Chunk) (e : Int), tgtE m p = e → ¬ e = 0 → Hp w0 cs' w → cs.Sublist cs' → ∃ s : Unit, Ending.returned (.tuple #[.agg #[.int .i64 0, .int .i64 0, .bool false, .bool false, .bool false, .bool false], .int .i64 e]) = .returned (.tuple #[entE (if tgtE m p = 0 then tgtX m p else noEnt), .int .i64 (tgtE m p)]) ∧ Hp w0 cs w := fun w cs' e he h0 hw hs => ⟨(), by rw [he, if_neg h0]; rfl, hw.sub hs⟩
  refine cal_of_tri Tryz.func62 rfl Tryz.ntmps62 rfl ?_
  (repeat (first | refine tri_seq ?_ | refine tri_then ?_)); refine tri_region ?_; (repeat (first | refine au_pure ?_ | refine au_pass ?_ | refine au_box (fun _ => ?_) | refine au_alloc (fun _ => ?_) | refine au_store ?_ | refine au_make rfl rfl (fun _ => ?_) | refine au_lit rfl rfl rfl (fun _ => ?_) | refine au_append rfl rfl rfl rfl (fun _ => au_norm ?_) | refine au_storeE rfl rfl rfl rfl ?_)); refine tri_nil ?_; (repeat refine tri_then ?_)
  rename_i g2 g4
  have hC1 := hC.cons (c := hdC g2 h) |>.cons (c := enC g4 0 0 false false false false)
  (repeat (first | refine zz ?_ | refine zv fun _ => ?_))
  refine au_callC rfl rfl rfl rfl rfl (scheck_c w0 _ hC1 hL) (fun _ => ?_)
  (repeat (first | refine zz ?_ | refine zv fun _ => ?_))
  cases h1 : (schk m != 0)
  case true =>
    have h1 := bne_iff_ne.1 h1
    (repeat (first | refine zz ?_ | refine zv fun _ => ?_))
    refine au_done2 rfl ?_
    exact fun w hw => hno w _ _ (by unfold tgtE; rw [if_pos h1]) h1 hw (by repeat (first | exact List.Sublist.refl _ | assumption | apply List.Sublist.cons_cons | apply List.Sublist.cons))
  have h1 : schk m = 0 := by simpa using h1
  have e1 : tgtE m p = if isP m p = false then 2 else if pgOk m.wd.length (tbW m p.toNat) = false then 6 else 0 := by unfold tgtE; rw [if_neg fun x => x h1]
  (repeat (first | refine zz ?_ | refine zv fun _ => ?_))
  refine au_callC rfl rfl rfl rfl rfl (is_c w0 _ p hC1.tb hL.tb) (fun _ => ?_)
  cases h2 : isP m p
  case false =>
    (repeat (first | refine zz ?_ | refine zv fun _ => ?_))
    refine au_done2 rfl ?_
    exact fun w hw => hno w _ 2 (by rw [e1, if_pos h2]) (by decide) hw (by repeat (first | exact List.Sublist.refl _ | assumption | apply List.Sublist.cons_cons | apply List.Sublist.cons))
  rw [if_neg (by rw [h2]; simp)] at e1
  (repeat (first | refine zz ?_ | refine zv fun _ => ?_))
  refine au_callC rfl rfl rfl rfl rfl (mapped_c w0 _ p hC1 hL (isP_iff.1 h2)) (fun _ => ?_)
  have e2 : tgtX m p = (decR (tbW m p.toNat)).1 := rfl
  rw [← e2]
  cases h3 : pgOk m.wd.length (tbW m p.toNat)
  case false =>
    (repeat (first | refine zz ?_ | refine zv fun _ => ?_))
    refine au_done2 rfl ?_
    exact fun w hw => hno w _ 6 (by rw [e1, if_pos h3]) (by decide) hw (by repeat (first | exact List.Sublist.refl _ | assumption | apply List.Sublist.cons_cons | apply List.Sublist.cons))
  rw [if_neg (by rw [h3]; simp)] at e1
  (repeat (first | refine zz ?_ | refine zv fun _ => ?_))
  refine au_done2 rfl ?_
  exact fun w hw => ⟨(), by rw [e1, if_pos rfl], hw.sub (by repeat (first | exact List.Sublist.refl _ | assumption | apply List.Sublist.cons_cons | apply List.Sublist.cons))⟩
end
end Go.Proofs.YtojfaelafakemaaGreat
