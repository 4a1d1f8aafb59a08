/- Texts joined: Map, Map2, Arr, PtEng, ALst. Each part's own remark says what it proves. -/
import Derived.Test.YtbgjelhefhcnpaaGreatM05
import Derived.Test.YtbgjelhefhcnpaaGreatM08
import Derived.Maps.RangeRun
import Derived.MapKept
import Derived.Carry
import Derived.ChangeMaps4
/- Maps from integers, in a block of the call's own: an association list in the order of the entries. No conditions. -/
set_option linter.unusedSimpArgs false
set_option linter.unusedVariables false
namespace Go.Proofs.YtbgjelhefhcnpaaGreat
open Go Go.RowKit
class MV (β : Type) where
  val : β → Value
  dflt : β
instance : MV Int := ⟨.int .i64, 0⟩
instance : MV Bool := ⟨.bool, false⟩
/-- The program's type t is a map from int to a type of values of β. -/
class MpTy (P : Program) (t : Nat) (β : outParam Type) [MV β] : Prop where
  ex : ∃ k e, P.underlying t = some (.map k e) ∧ P.underlying k = some (.int .i64) ∧ ∀ w, (zeroValue e).run P w = .ok (MV.val (MV.dflt : β)) w
section
variable {β : Type}
def aFind : List (Int × β) → Int → Option (Nat × β)
  | [], _ => none
  | p :: r, k => if k = p.1 then some (0, p.2) else (aFind r k).map fun q => (q.1 + 1, q.2)
def aGet (l : List (Int × β)) (k : Int) : Option β := (aFind l k).map (·.2)
def aSet (l : List (Int × β)) (k : Int) (v : β) : List (Int × β) := match aFind l k with | some (j, _) => l.set j (k, v) | none => l ++ [(k, v)]
def aDel (l : List (Int × β)) (k : Int) : List (Int × β) := match aFind l k with | some (j, _) => l.eraseIdx j | none => l
theorem aFind_some : ∀ {l : List (Int × β)} {k : Int} {j : Nat} {v : β}, aFind l k = some (j, v) → l[j]? = some (k, v)
  | [], _, _, _, h => by simp [aFind] at h
  | p :: r, k, j, v, h => by
    rw [aFind] at h
    split at h
    · rename_i e
      simp only [Option.some.injEq, Prod.mk.injEq] at h
      obtain ⟨rfl, rfl⟩ := h
      subst e
      rfl
    · cases hr : aFind r k with
      | none => rw [hr] at h; cases h
      | some q =>
        rw [hr] at h
        simp only [Option.map_some, Option.some.injEq, Prod.mk.injEq] at h
        obtain ⟨rfl, rfl⟩ := h
        rw [List.getElem?_cons_succ]
        exact aFind_some hr
end
section
variable {β : Type} [MV β]
/-- The entries of a map's block. -/
structure Ents (es : Array MapEntry) (clock : Nat) (l : List (Int × β)) : Prop where
  list : es.toList.map (fun e => (e.key, e.val)) = l.map fun p => (Value.int .i64 p.1, MV.val p.2)
  born : (es.toList.map (·.born)).Nodup
  lt : ∀ e ∈ es.toList, e.born < clock
theorem Ents.len {es : Array MapEntry} {clock : Nat} {l : List (Int × β)} (h : Ents es clock l) : es.size = l.length := by
  have := congrArg List.length h.list
  simpa using this
theorem find_ents {k : Int} : ∀ {l : List (Int × β)} {es : List MapEntry} (i : Nat), es.map (fun e => (e.key, e.val)) = l.map (fun p => (Value.int .i64 p.1, MV.val p.2)) →
    Instr.findNow (.int .i64) (.int .i64 k) es i = some ((aFind l k).map fun q => (i + q.1, MV.val q.2))
  | [], es, i, h => by
    simp at h
    subst h
    rfl
  | p :: r, es, i, h => by
    cases es with
    | nil => simp at h
    | cons e es =>
      simp only [List.map_cons, List.cons.injEq, Prod.mk.injEq] at h
      obtain ⟨⟨h1, h2⟩, h3⟩ := h
      rw [Instr.findNow, h1]
      simp only [Instr.sameNow, if_pos]
      rw [aFind]
      by_cases e1 : k = p.1
      · rw [if_pos e1]
        subst e1
        simp [h2]
      · rw [if_neg e1]
        have : (k == p.1) = false := by simpa using e1
        rw [this]
        simp only
        rw [find_ents (i + 1) h3]
        cases aFind r k with
        | none => rfl
        | some q => simp; omega
/-- A map of the call's own. -/
def mapC (b : Nat) (l : List (Int × β)) : Chunk where
  lo := b
  hi := b + 1
  P := fun w => ∃ es clock, w.heap[b]? = some (.map es clock) ∧ Ents es clock l
  st := fun w w' h hp => by
    obtain ⟨es, clock, h1, h2⟩ := hp
    exact ⟨es, clock, by rw [h b (Nat.le_refl _) (by omega)]; exact h1, h2⟩
end
/-- A block of the call's own, whole. -/
def objC (b : Nat) (o : Obj) : Chunk where
  lo := b
  hi := b + 1
  P := fun w => w.heap[b]? = some o
  st := fun w w' h hp => by rw [h b (Nat.le_refl _) (by omega)]; exact hp
section
variable {β : Type} [MV β] {P : Program} {w : World} {t b clock : Nat} {es : Array MapEntry} {l : List (Int × β)} {k : Int}
theorem run_look [hM : MpTy P t β] (hb : w.heap[b]? = some (.map es clock)) (he : Ents es clock l) (ok : Bool) :
    (Instr.lookup t (.map (some b)) (.int .i64 k) ok).run P w = .ok (if ok then .tuple #[MV.val ((aGet l k).getD MV.dflt), .bool (aGet l k).isSome] else MV.val ((aGet l k).getD MV.dflt)) w := by
  obtain ⟨kt, et, h1, h2, h3⟩ := hM.ex
  have hk := fun e => MapKept.run_checkKey (P := P) (w := w) (kt := kt) (d := .int .i64) (k := .int .i64 k) h2 (by simp [MapKept.IsKey]) e 9999
  have hf := find_ents (k := k) 0 he.list
  simp only [Instr.lookup, Sem.run_bind, run_underlying h1, Result.andThen, MapKept.run_getObj_map hb, Sem.run_pure, hk, Instr.findKey, run_underlying h2, hf]
  cases h : aFind l k with
  | none => cases ok <;> simp [aGet, h, h3]
  | some q => cases ok <;> simp [aGet, h]
theorem run_upd [hM : MpTy P t β] (hb : w.heap[b]? = some (.map es clock)) (he : Ents es clock l) (v : β) :
    ∃ es' clock', (Instr.mapUpdate t (.map (some b)) (.int .i64 k) (MV.val v)).run P w = .ok () { w with heap := w.heap.setIfInBounds b (.map es' clock') } ∧ Ents es' clock' (aSet l k v) := by
  obtain ⟨kt, et, h1, h2, h3⟩ := hM.ex
  have hk := fun e => MapKept.run_checkKey (P := P) (w := w) (kt := kt) (d := .int .i64) (k := .int .i64 k) h2 (by simp [MapKept.IsKey]) e 9999
  have hf := find_ents (k := k) 0 he.list
  cases h : aFind l k with
  | none =>
    refine ⟨es.push { key := .int .i64 k, val := MV.val v, born := clock }, clock + 1, ?_, ?_⟩
    · rw [h] at hf
      simp [Instr.mapUpdate, run_underlying h1, MapKept.run_getObj_map hb, hk, Instr.findKey, run_underlying h2, hf, Result.andThen, MapKept.run_setObj_map _ hb]
    · have hs : aSet l k v = l ++ [(k, v)] := by unfold aSet; rw [h]
      rw [hs]
      refine ⟨by simp [he.list], ?_, fun e hm => ?_⟩
      · simp only [Array.toList_push, List.map_append, List.map_cons, List.map_nil]
        rw [List.nodup_append]
        refine ⟨he.born, by simp, fun a ha b' hb' hab => ?_⟩
        obtain ⟨e, he1, rfl⟩ := List.mem_map.1 ha
        have := he.lt e he1
        simp at hb'
        omega
      · simp only [Array.toList_push, List.mem_append, List.mem_singleton] at hm
        rcases hm with hm | rfl
        · have := he.lt e hm; omega
        · simp
  | some q =>
    obtain ⟨j, v0⟩ := q
    have hlj := aFind_some h
    have hej : ∃ e, es.toList[j]? = some e ∧ e.key = .int .i64 k := by
      have := congrArg (·[j]?) he.list
      simp only [List.getElem?_map, hlj, Option.map_some] at this
      cases hx : es.toList[j]? with
      | none => rw [hx] at this; cases this
      | some e =>
        rw [hx] at this
        simp only [Option.map_some, Option.some.injEq, Prod.mk.injEq] at this
        exact ⟨e, rfl, this.1⟩
    obtain ⟨e, hej, hek⟩ := hej
    have hej' : es[j]? = some e := by simpa using hej
    refine ⟨es.modify j fun e => { e with key := .int .i64 k, val := MV.val v }, clock, ?_, ?_⟩
    · rw [h] at hf
      simp [Instr.mapUpdate, run_underlying h1, MapKept.run_getObj_map hb, hk, Instr.findKey, run_underlying h2, hf, Result.andThen, hej', hek, Instr.keyThatStays, Instr.sameBits, MapKept.run_setObj_map _ hb]
    · have hs : aSet l k v = l.set j (k, v) := by unfold aSet; rw [h]
      rw [hs]
      have hbn : (es.modify j fun e => { e with key := .int .i64 k, val := MV.val v }).toList.map (·.born) = es.toList.map (·.born) := by
        apply List.ext_getElem?
        intro i
        simp only [Array.toList_modify, List.getElem?_map, List.getElem?_modify]
        cases es.toList[i]? with
        | none => rfl
        | some e => simp only [Option.map_some, Option.some.injEq, Option.map_eq_map]; split <;> rfl
      refine ⟨?_, by rw [hbn]; exact he.born, fun e hm => ?_⟩
      · apply List.ext_getElem?
        intro i
        have hl := congrArg (·[i]?) he.list
        simp only [List.getElem?_map] at hl
        simp only [Array.toList_modify, List.getElem?_map, List.getElem?_modify, List.getElem?_set]
        by_cases hij : j = i
        · subst hij
          have : j < l.length := (List.getElem?_eq_some_iff.1 hlj).1
          rw [hej, if_pos rfl, if_pos this]
          simp
        · rw [if_neg hij]
          cases hx : es.toList[i]? with
          | none => rw [hx] at hl; simpa [hij] using hl
          | some e => rw [hx] at hl; simpa [hij] using hl
      · have : e.born ∈ es.toList.map (·.born) := by rw [← hbn]; exact List.mem_map.2 ⟨e, hm, rfl⟩
        obtain ⟨e', h1, h2⟩ := List.mem_map.1 this
        rw [← h2]
        exact he.lt e' h1
theorem run_del [hM : MpTy P t β] (hb : w.heap[b]? = some (.map es clock)) (he : Ents es clock l) (ty t2 : Nat) :
    ∃ es', (Builtin.delete_ #[t, t2] ty #[.map (some b), .int .i64 k]).run P w = .ok (.tuple #[]) { w with heap := w.heap.setIfInBounds b (.map es' clock) } ∧ Ents es' clock (aDel l k) := by
  obtain ⟨kt, et, h1, h2, h3⟩ := hM.ex
  have hk := fun e => MapKept.run_checkKey (P := P) (w := w) (kt := kt) (d := .int .i64) (k := .int .i64 k) h2 (by simp [MapKept.IsKey]) e 9999
  have hf := find_ents (k := k) 0 he.list
  cases h : aFind l k with
  | none =>
    refine ⟨es, ?_, ?_⟩
    · rw [h] at hf
      simp [Builtin.delete_, run_underlying h1, MapKept.run_getObj_map hb, hk, Instr.findKey, run_underlying h2, hf, Result.andThen, MapKept.run_setObj_map _ hb]
    · unfold aDel; rw [h]; exact he
  | some q =>
    obtain ⟨j, v0⟩ := q
    have hlj := aFind_some h
    have hjl : j < l.length := (List.getElem?_eq_some_iff.1 hlj).1
    have hje : j < es.size := by rw [he.len]; exact hjl
    refine ⟨es.eraseIdxIfInBounds j, ?_, ?_⟩
    · rw [h] at hf
      simp [Builtin.delete_, run_underlying h1, MapKept.run_getObj_map hb, hk, Instr.findKey, run_underlying h2, hf, Result.andThen, MapKept.run_setObj_map _ hb]
    · have ht : (es.eraseIdxIfInBounds j).toList = es.toList.eraseIdx j := by
        unfold Array.eraseIdxIfInBounds
        rw [dif_pos hje]
        exact Array.toList_eraseIdx ..
      have hs : aDel l k = l.eraseIdx j := by unfold aDel; rw [h]
      rw [hs]
      refine ⟨?_, ?_, fun e hm => ?_⟩
      · rw [ht, Go.ChangeMaps.map_eraseIdx, he.list, ← Go.ChangeMaps.map_eraseIdx]
      · rw [ht, Go.ChangeMaps.map_eraseIdx]
        exact he.born.sublist (List.eraseIdx_sublist ..)
      · rw [ht] at hm
        exact he.lt e (List.mem_of_mem_eraseIdx hm)
end
end Go.Proofs.YtbgjelhefhcnpaaGreat

/- Maps of the call's own: the rules. No conditions. -/
set_option linter.unusedSimpArgs false
set_option linter.unusedVariables false
namespace Go.Proofs.YtbgjelhefhcnpaaGreat
open Go Go.RowKit
section
variable {M : List Nat} {P : Program} {n d : Nat} {Q : Exit → Act → World → Prop} {F : Act → World → Prop} {ops rest : List Oper} {o : Oper} {E : Env} {w0 : World} {cs cs' : List Chunk} {x y z : Operand} {t t2 b r clock i : Nat} {β : Type} [MV β] {l : List (Int × β)} {k : Int} {kd : IntKind} {es : Array MapEntry}
theorem mapC_get (w : World) (h : HpM M w0 cs w) (hi : Has cs (mapC b l)) : ∃ es clock, w.heap[b]? = some (.map es clock) ∧ Ents es clock l := by
  obtain ⟨i, hi⟩ := hi
  exact (h.at_ i _ hi).2.2.2
theorem objC_get {ob : Obj} (w : World) (h : HpM M w0 cs w) (hi : Has cs (objC b ob)) : w.heap[b]? = some ob := by
  obtain ⟨i, hi⟩ := hi
  exact (h.at_ i _ hi).2.2.2
theorem yl_look [Dl] [hM : MpTy P t β] (ho : o.op = .lookup t x y false) (hx : ev E x = some (.map (some b))) (hy : ev E y = some (.int .i64 k)) (hi : Has cs (mapC b l)) : Yl P n o E (HpM M w0 cs) (MV.val ((aGet l k).getD MV.dflt)) := fun a w h1 h2 => by
  obtain ⟨es, clock, hb, he⟩ := mapC_get w h2 hi
  have := run_look (P := P) (t := t) (k := k) hb he false
  simp only [execOp, ho, h1.ev hx, h1.ev hy, Sem.run_bind, this, Result.andThen]
  rfl
theorem yl_look2 [Dl] [hM : MpTy P t β] (ho : o.op = .lookup t x y true) (hx : ev E x = some (.map (some b))) (hy : ev E y = some (.int .i64 k)) (hi : Has cs (mapC b l)) : Yl P n o E (HpM M w0 cs) (.tuple #[MV.val ((aGet l k).getD MV.dflt), .bool (aGet l k).isSome]) := fun a w h1 h2 => by
  obtain ⟨es, clock, hb, he⟩ := mapC_get w h2 hi
  have := run_look (P := P) (t := t) (k := k) hb he true
  simp only [execOp, ho, h1.ev hx, h1.ev hy, Sem.run_bind, this, Result.andThen]
  rfl
theorem yl_maplen [Dl] [hM : MpTy P t β] (ho : o.op = .call { callee := .builtin .len, args := #[x], argTypes := #[t] }) (hx : ev E x = some (.map (some b))) (hi : Has cs (mapC b l)) : Yl P n o E (HpM M w0 cs) (.int .i64 (l.length : Int)) := fun a w h1 h2 => by
  obtain ⟨es, clock, hb, he⟩ := mapC_get w h2 hi
  obtain ⟨kt, et, u1, u2, u3⟩ := hM.ex
  simp only [execOp, ho, resolve]
  simp [invoke, builtin, h1.ev hx, Builtin.len_, run_underlying u1, MapKept.run_getObj_map hb, goInt, he.len]
theorem tri_makeMap [Dl] {ops : Array Oper} (β : Type) [MV β] [hM : MpTy P t β] (hd : o.dst = some d) (hn : Nat.blt d n = true) (hg : o.guard = none) (ho : o.op = .makeMap t none)
    (k : ∀ g, Tri n (wpList P ops Q rest) ((d, .map (some g)) :: E) (HpM M w0 (mapC g ([] : List (Int × β)) :: cs))) : Tri n (wpList P ops Q (o :: rest)) E (HpM M w0 cs) := by
  intro a w h1 h2
  unfold wpList
  rw [if_pos (want_plain hg a)]
  refine .inl ?_
  unfold Oper.wp
  have hr : (execOp a.eval o).run P w = .ok (.value (.map (some w.heap.size))) (w.alloc (.map #[] 0)) := by
    simp only [execOp, ho, Option.map_none, run_makeMap, Sem.run_bind, Result.andThen]
    rfl
  rw [hr, Oper.upon_value, hd]
  refine k w.heap.size _ _ (h1.put hn _) (h2.push (w' := w.alloc (.map #[] 0)) ((Below.refl _ _).alloc (Nat.le_refl _) _) (Nat.le_refl _) ?_ ?_ ?_)
  · show w.heap.size ≤ w.heap.size + 1; omega
  · show w.heap.size + 1 ≤ _; simp
  · exact ⟨#[], 0, heap_alloc_new w _, ⟨rfl, by simp, by simp⟩⟩
theorem heap_set_same {w : World} {b : Nat} {o o' : Obj} (h : w.heap[b]? = some o) : ({ w with heap := w.heap.setIfInBounds b o' } : World).heap[b]? = some o' := by
  have := (Array.getElem?_eq_some_iff.1 h).1
  simp [this]
theorem heap_set_other {w : World} {b i : Nat} {o' : Obj} (h : ¬ i = b) : ({ w with heap := w.heap.setIfInBounds b o' } : World).heap[i]? = w.heap[i]? := by
  show (w.heap.setIfInBounds b o')[i]? = _
  rw [Array.getElem?_setIfInBounds_ne (by omega)]
theorem HpM.setObj {w : World} {c c' : Chunk} {o o' : Obj} (h : HpM M w0 cs w) (hi : At cs i c) (hl : c.lo = b) (hh : c.hi = b + 1) (hl' : c'.lo = b) (hh' : c'.hi = b + 1) (hb : w.heap[b]? = some o) (h4 : c'.P { w with heap := w.heap.setIfInBounds b o' }) : HpM M w0 (cs.set i c') { w with heap := w.heap.setIfInBounds b o' } := by
  have hlt := (Array.getElem?_eq_some_iff.1 hb).1
  refine h.set hi ⟨rfl, rfl, rfl, by simp⟩ (fun k hk hor => heap_set_other (by omega)) (.inl ⟨by omega, by omega⟩) (by rw [hh']; simp; omega) h4
theorem tri_update [Dl] [hM : MpTy P t β] {v : β} (hd : o.dst = none) (hw : Wan ops n o E true) (ho : o.op = .mapUpdate t x y z) (hx : ev E x = some (.map (some b))) (hy : ev E y = some (.int .i64 k)) (hz : ev E z = some (MV.val v)) (hi : At cs i (mapC b l)) (hcs : Nf (cs.set i (mapC b (aSet l k v))) cs')
    (kk : Tri n (wpList P ops.toArray Q rest) E (HpM M w0 cs')) : Tri n (wpList P ops.toArray Q (o :: rest)) E (HpM M w0 cs) := by
  subst hcs
  intro a w h1 h2
  refine wpList_want (hw a h1) ?_
  unfold Oper.wp
  obtain ⟨es, clock, hb, he⟩ := mapC_get w h2 ⟨i, hi⟩
  obtain ⟨es', clock', hr, he'⟩ := run_upd (P := P) (t := t) (k := k) hb he v
  have : (execOp a.eval o).run P w = .ok .skip { w with heap := w.heap.setIfInBounds b (.map es' clock') } := by
    simp only [execOp, ho, h1.ev hx, h1.ev hy, h1.ev hz, Sem.run_bind, hr, Result.andThen]
    rfl
  rw [this, Oper.upon_skip, hd]
  exact kk _ _ h1 (h2.setObj hi rfl rfl rfl rfl hb ⟨es', clock', heap_set_same hb, he'⟩)
theorem tri_delete [Dl] [hM : MpTy P t β] (hd : o.dst = none) (hw : Wan ops n o E true) (ho : o.op = .call { callee := .builtin .delete, args := #[x, y], argTypes := #[t, t2] }) (hx : ev E x = some (.map (some b))) (hy : ev E y = some (.int .i64 k)) (hi : At cs i (mapC b l)) (hcs : Nf (cs.set i (mapC b (aDel l k))) cs')
    (kk : Tri n (wpList P ops.toArray Q rest) E (HpM M w0 cs')) : Tri n (wpList P ops.toArray Q (o :: rest)) E (HpM M w0 cs) := by
  subst hcs
  intro a w h1 h2
  refine wpList_want (hw a h1) ?_
  unfold Oper.wp
  obtain ⟨es, clock, hb, he⟩ := mapC_get w h2 ⟨i, hi⟩
  obtain ⟨es', hr, he'⟩ := run_del (P := P) (t := t) (k := k) hb he o.type t2
  have : (execOp a.eval o).run P w = .ok (.value (.tuple #[])) { w with heap := w.heap.setIfInBounds b (.map es' clock) } := by
    simp only [execOp, ho, resolve, invoke, builtin, Sem.run_bind, Sem.run_pure, Result.andThen_ok, List.map_toArray, List.map_cons, List.map_nil, h1.ev hx, h1.ev hy, hr]
  rw [this, Oper.upon_value, hd]
  exact kk _ _ h1 (h2.setObj hi rfl rfl rfl rfl hb ⟨es', clock, heap_set_same hb, he'⟩)
/- Ranging. -/
def bornOf (es : Array MapEntry) (j : Nat) : Nat := (es.toList.map (·.born)).getD j 0
theorem Ents.at_ (he : Ents es clock l) {e : MapEntry} (h : e ∈ es.toList) : ∃ j, j < l.length ∧ e.born = bornOf es j ∧ ∃ p, l[j]? = some p ∧ e.key = .int .i64 p.1 ∧ e.val = MV.val p.2 := by
  obtain ⟨j, hj, rfl⟩ := List.getElem_of_mem h
  have hjl : j < l.length := by rw [← he.len]; simpa using hj
  refine ⟨j, hjl, ?_, l[j], List.getElem?_eq_getElem hjl, ?_⟩
  · unfold bornOf
    rw [List.getD_eq_getElem?_getD, List.getElem?_map, List.getElem?_eq_getElem hj]; rfl
  · have := congrArg (·[j]?) he.list
    simp only [List.getElem?_map, List.getElem?_eq_getElem hj, List.getElem?_eq_getElem hjl, Option.map_some, Option.some.injEq, Prod.mk.injEq] at this
    exact this
theorem Ents.born_inj (he : Ents es clock l) {j j' : Nat} (h : j < l.length) (h' : j' < l.length) (e : bornOf es j = bornOf es j') : j = j' := by
  have hlen : (es.toList.map (·.born)).length = l.length := by rw [List.length_map, ← he.len]; simp
  unfold bornOf at e
  rw [List.getD_eq_getElem?_getD, List.getD_eq_getElem?_getD, List.getElem?_eq_getElem (by omega), List.getElem?_eq_getElem (by omega)] at e
  exact (List.getElem_inj he.born).1 e
theorem Ents.left (he : Ents es clock l) {seen : Array Nat} (h : (leftOf es seen).size = 0) {j : Nat} (hj : j < l.length) : seen.contains (bornOf es j) = true := by
  have hsz : j < es.toList.length := by simp [he.len, hj]
  have hem : leftOf es seen = #[] := Array.eq_empty_of_size_eq_zero h
  unfold leftOf at hem
  rw [Array.filter_eq_empty_iff] at hem
  have := hem es.toList[j] (by simp)
  have hb : bornOf es j = es.toList[j].born := by
    unfold bornOf
    rw [List.getD_eq_getElem?_getD, List.getElem?_map, List.getElem?_eq_getElem hsz]; rfl
  rw [hb]
  simpa using this
/-- How many places have not been seen. -/
def leftN (es : Array MapEntry) (n : Nat) (seen : Array Nat) : Nat := ((List.range n).filter fun j => !seen.contains (bornOf es j)).length
theorem leftN_lt {n j : Nat} {seen : Array Nat} (hj : j < n) (h : seen.contains (bornOf es j) = false) : leftN es n (seen.push (bornOf es j)) < leftN es n seen := by
  have hs : ((List.range n).filter fun i => !(seen.push (bornOf es j)).contains (bornOf es i)).Sublist ((List.range n).filter fun i => !seen.contains (bornOf es i)) := by
    have : ((List.range n).filter fun i => !(seen.push (bornOf es j)).contains (bornOf es i)) = ((List.range n).filter fun i => !seen.contains (bornOf es i)).filter fun i => !(bornOf es i == bornOf es j) := by
      rw [List.filter_filter]
      congr 1
      funext i
      rw [Array.contains_push, Bool.not_or, Bool.and_comm]
    rw [this]
    exact List.filter_sublist ..
  have hle := hs.length_le
  refine Nat.lt_of_le_of_ne hle fun e => ?_
  have heq := hs.eq_of_length e
  have hm : j ∈ (List.range n).filter fun i => !seen.contains (bornOf es i) := List.mem_filter.2 ⟨List.mem_range.2 hj, by rw [h]; rfl⟩
  rw [← heq] at hm
  have := (List.mem_filter.1 hm).2
  simp at this
theorem tri_openmap [Dl] {ob : Nat} (hi : At cs i (mapC b l)) (k : ∀ es clock, Ents es clock l → Tri n F E (HpM M w0 (cs.set i (objC b (.map es clock))))) : Tri n F E (HpM M w0 cs) := fun a w h1 h2 => by
  obtain ⟨q1, q2, q3, es, clock, hb, he⟩ := h2.at_ i _ hi
  exact k es clock he a w h1 (h2.set hi ⟨rfl, rfl, rfl, Nat.le_refl _⟩ (fun _ _ _ => rfl) (.inl ⟨rfl, rfl⟩) q3 hb)
theorem tri_shutmap [Dl] (he : Ents es clock l) (hi : At cs i (objC b (.map es clock))) (hcs : Nf (cs.set i (mapC b l)) cs') (k : Tri n F E (HpM M w0 cs')) : Tri n F E (HpM M w0 cs) := fun a w h1 h2 => by
  subst hcs
  obtain ⟨q1, q2, q3, q4⟩ := h2.at_ i _ hi
  exact k a w h1 (h2.set hi ⟨rfl, rfl, rfl, Nat.le_refl _⟩ (fun _ _ _ => rfl) (.inl ⟨rfl, rfl⟩) q3 ⟨es, clock, q4, he⟩)
theorem tri_range [Dl] {ops : Array Oper} [hM : MpTy P t β] (hd : o.dst = some d) (hn : Nat.blt d n = true) (hg : o.guard = none) (ho : o.op = .range t x) (hx : ev E x = some (.map (some b))) (hi : Has cs (objC b (.map es clock)))
    (k : ∀ g, Tri n (wpList P ops Q rest) ((d, .pointer (some ⟨g, 0, none⟩)) :: E) (HpM M w0 (objC g (.mapIter (some b) clock #[] clock) :: cs))) : Tri n (wpList P ops Q (o :: rest)) E (HpM M w0 cs) := by
  intro a w h1 h2
  unfold wpList
  rw [if_pos (want_plain hg a)]
  refine .inl ?_
  unfold Oper.wp
  obtain ⟨kt, et, u1, u2, u3⟩ := hM.ex
  have hb := objC_get w h2 hi
  have hr : (execOp a.eval o).run P w = .ok (.value (.pointer (some ⟨w.heap.size, 0, none⟩))) (w.alloc (.mapIter (some b) clock #[] clock)) := by
    simp only [execOp, ho, h1.ev hx, Sem.run_bind, run_range_map w t kt et b es clock u1 hb, Result.andThen]
    rfl
  rw [hr, Oper.upon_value, hd]
  refine k w.heap.size _ _ (h1.put hn _) (h2.push (w' := w.alloc (.mapIter (some b) clock #[] clock)) ((Below.refl _ _).alloc (Nat.le_refl _) _) (Nat.le_refl _) ?_ ?_ ?_)
  · show w.heap.size ≤ w.heap.size + 1; omega
  · show w.heap.size + 1 ≤ _; simp
  · exact heap_alloc_new w _
theorem tri_next [Dl] {ops : Array Oper} {seen : Array Nat} {c0 : Nat} (hd : o.dst = some d) (hn : Nat.blt d n = true) (hg : o.guard = none) (ho : o.op = .next x false) (hx : ev E x = some (.pointer (some ⟨r, 0, none⟩))) (he : Ents es clock l) (hc : clock ≤ c0)
    (hi : At cs i (objC r (.mapIter (some b) clock seen c0))) (hb : Has cs (objC b (.map es clock)))
    (kd : (∀ j, j < l.length → seen.contains (bornOf es j) = true) → Tri n (wpList P ops Q rest) ((d, .tuple #[.bool false]) :: E) (HpM M w0 cs))
    (km : ∀ j p, j < l.length → l[j]? = some p → seen.contains (bornOf es j) = false → Tri n (wpList P ops Q rest) ((d, .tuple #[.bool true, .int .i64 p.1, MV.val p.2]) :: E) (HpM M w0 (cs.set i (objC r (.mapIter (some b) clock (seen.push (bornOf es j)) clock))))) : Tri n (wpList P ops Q (o :: rest)) E (HpM M w0 cs) := by
  intro a w h1 h2
  unfold wpList
  rw [if_pos (want_plain hg a)]
  refine .inl ?_
  unfold Oper.wp
  have hr := objC_get w h2 ⟨i, hi⟩
  have hbb := objC_get w h2 hb
  rcases run_next_at (P := P) w o.type r b clock c0 seen es clock hr hbb he.lt hc with ⟨h0, hrun⟩ | ⟨e, hem, w1, hw1, hrun⟩
  · have hx' : (execOp a.eval o).run P w = .ok (.value (.tuple #[.bool false])) w := by
      simp only [execOp, ho, h1.ev hx, Sem.run_bind, hrun, Result.andThen]
      rfl
    rw [hx', Oper.upon_value, hd]
    exact kd (fun j hj => he.left h0 hj) _ _ (h1.put hn _) h2
  · have hem' : e ∈ es.toList ∧ seen.contains e.born = false := by
      unfold leftOf at hem
      simp at hem
      simp [hem]
    obtain ⟨j, hj, hbj, p, hp, hk, hv⟩ := he.at_ hem'.1
    have hx' : (execOp a.eval o).run P w = .ok (.value (.tuple #[.bool true, .int .i64 p.1, MV.val p.2])) { w1 with heap := w1.heap.setIfInBounds r (.mapIter (some b) clock (seen.push (bornOf es j)) clock) } := by
      simp only [execOp, ho, h1.ev hx, Sem.run_bind, hrun, Result.andThen, hk, hv, hbj]
      rfl
    rw [hx', Oper.upon_value, hd]
    have h2' : HpM M w0 cs w1 := by
      rcases hw1 with rfl | rfl
      · exact h2
      · exact h2.drawn
    have hr' : w1.heap[r]? = some (.mapIter (some b) clock seen c0) := objC_get w1 h2' ⟨i, hi⟩
    exact km j p hj hp (by rw [← hbj]; exact hem'.2) _ _ (h1.put hn _) (h2'.setObj hi rfl rfl rfl rfl hr' (heap_set_same hr'))
theorem yl_entry [Dl] {seen : Array Nat} {j : Nat} {p : Int × β} (ho : o.op = .entry x) (hx : ev E x = some (.pointer (some ⟨r, 0, none⟩))) (he : Ents es clock l) (hp : l[j]? = some p) (hi : Has cs (objC r (.mapIter (some b) clock (seen.push (bornOf es j)) clock))) (hb : Has cs (objC b (.map es clock))) :
    Yl P n o E (HpM M w0 cs) (.tuple #[.int .i64 p.1, MV.val p.2]) := fun a w h1 h2 => by
  have hjl : j < l.length := (List.getElem?_eq_some_iff.1 hp).1
  have hsz : j < es.toList.length := by simp [he.len, hjl]
  have hbj : bornOf es j = es.toList[j].born := by
    unfold bornOf
    rw [List.getD_eq_getElem?_getD, List.getElem?_map, List.getElem?_eq_getElem hsz]; rfl
  have hr := objC_get w h2 hi
  rw [hbj] at hr
  have := run_entry_at (P := P) w r b clock seen es clock es.toList[j] hr (objC_get w h2 hb) (List.getElem_mem hsz) he.born
  have hkv := congrArg (·[j]?) he.list
  simp only [List.getElem?_map, List.getElem?_eq_getElem hsz, hp, Option.map_some, Option.some.injEq, Prod.mk.injEq] at hkv
  rw [hkv.1, hkv.2] at this
  simp only [execOp, ho, h1.ev hx, Sem.run_bind, this, Result.andThen]
  rfl
end
end Go.Proofs.YtbgjelhefhcnpaaGreat

/- Arrays that lie in a block: a constant index; a block seen as a row, for an index that is not known. No conditions. -/
set_option linter.unusedSimpArgs false
set_option linter.unusedVariables false
namespace Go.Proofs.YtbgjelhefhcnpaaGreat
open Go Go.RowKit
class ArTy (P : Program) (t : Nat) (n e sz : outParam Nat) : Prop where
  und : P.underlying t = some (.array n e)
  size : ∀ w, (sizeOf e).run P w = .ok sz w
section
variable {P : Program} {n : Nat} {o : Oper} {E : Env} {H : World → Prop} {x y : Operand} {t m e sz g p k : Nat}
theorem yl_idxA [Dl] [hS : ArTy P t m e sz] (ho : o.op = .indexAddr t x y) (hx : ev E x = some (.pointer (some ⟨g, p, none⟩))) (hy : Ix E y k) (hk : k < m) : Yl P n o E H (.pointer (some ⟨g, p + k * sz, none⟩)) := fun a w h1 h2 => by
  obtain ⟨kd, i, hi, rfl⟩ := hy
  simp only [execOp, ho, h1.ev hx, h1.ev hi]
  simp [Instr.indexAt, run_underlying hS.und, asIntOf, Instr.sureAddr, hS.size, hk, add_lit]
/-- The row of a whole array. -/
def arR (g k : Nat) : Row := ⟨some ⟨g, 0, none⟩, k, k, g, g + 1⟩
theorem yl_idxR [Dl] [hS : ArTy P t m e sz] (ho : o.op = .indexAddr t x y) (hx : ev E x = some (.pointer (some ⟨g, 0, none⟩))) (hy : Ix E y k) (hk : k < m) : Yl P n o E H (eP (arR g m).v k sz 0) := fun a w h1 h2 => by
  obtain ⟨kd, i, hi, rfl⟩ := hy
  simp only [execOp, ho, h1.ev hx, h1.ev hi]
  simp [Instr.indexAt, run_underlying hS.und, asIntOf, Instr.sureAddr, hS.size, hk, add_lit, eP_eq, bk, of, arR, Row.v]
end
section
variable {M : List Nat} {P : Program} {n : Nat} {Q : Exit → Act → World → Prop} {F : Act → World → Prop} {ops rest : List Oper} {o : Oper} {E : Env} {w0 w : World} {cs cs' : List Chunk} {x y : Operand} {t t' g k m i : Nat} {cells : List Value} {α : Type} [Enc α] {l : List α}
theorem own_arr (h : w.heap[g]? = some (.cells (encs l).toArray t (0, 0))) (hk : l.length = k) (hl : Nat.ble k 1000000 = true) : Own w (arR g k) t l := by
  subst hk
  have hl' : l.length ≤ 1000000 := by simpa using hl
  refine ⟨rfl, Nat.le_refl _, by show l.length ≤ maxLen; simp only [maxLen]; omega, .inr ⟨g, 0, (encs l).toArray, rfl, Nat.le_refl _, Nat.lt_succ_self _, h, ?_, ?_⟩⟩
  · show 0 + l.length * Enc.sz α ≤ (encs l).toArray.size
    rw [List.size_toArray, length_encs]; omega
  · show ((encs l).drop 0).take (l.length * Enc.sz α) = encs l
    rw [List.drop_zero, ← length_encs, List.take_length]
/-- A block seen as the row of the array that it holds. -/
theorem tri_asrow [Dl] (l : List α) (hi : At cs i (blkC g t cells)) (hc : cells = encs l) (hk : l.length = k) (hl : Nat.ble k 1000000 = true) (hcs : Nf (cs.set i (slC (arR g k) t l)) cs') (kk : Tri n F E (HpM M w0 cs')) : Tri n F E (HpM M w0 cs) := by
  subst hcs
  intro a w h1 h2
  obtain ⟨q1, q2, q3, q4⟩ := h2.at_ i _ hi
  refine kk a w h1 (h2.set hi ⟨rfl, rfl, rfl, Nat.le_refl _⟩ (fun _ _ _ => rfl) (.inl ⟨rfl, rfl⟩) q3 (own_arr ?_ hk hl))
  rw [← hc]; exact q4
/-- A whole array, read. -/
theorem yl_loadA [Dl] [hA : Ag P t true] [hS : Sz P t m] (ho : o.op = .load t x) (hx : ev E x = some (.pointer (some ⟨g, 0, none⟩))) (hi : Has cs (slC (arR g k) t' l)) (hl : (encs l).length = m) : Yl P n o E (HpM M w0 cs) (.agg (encs l).toArray) := fun _ w h1 h2 => by
  have hrd := (h2.own hi).rd
  have := run_loadVarN (P := P) (t := t) (g := g) (off := 0) (vs := encs l) (w := w) hl fun j u hj => by
    have := hrd.cells hj
    have hb : bk (arR g k).v = g := rfl
    have ho : of (arR g k).v = 0 := rfl
    rw [hb, ho] at this
    exact this
  simp [execOp, ho, h1.ev hx, Instr.loadAt, Instr.sureAddr, this]
theorem encs_part {k : Nat} (hk : k < l.length) : ((encs l).drop (k * Enc.sz α)).take (Enc.sz α) = Enc.enc (l.getD k default) := by
  apply List.ext_getElem?
  intro j
  rw [List.getElem?_take]
  split
  · rename_i hj
    rw [List.getElem?_drop, encs_get hk hj]
  · rename_i hj
    rw [List.getElem?_eq_none (by rw [Enc.len]; omega)]
/-- An element of an array that is at hand. -/
theorem yl_indexV [Dl] {e sz : Nat} {vs : List Value} [hS : ArTy P t m e sz] [hA : Ag P e true] {H : World → Prop} (ho : o.op = .index t x y) (hx : ev E x = some (.agg (encs l).toArray)) (hy : Ix E y k) (hs : Enc.sz α = sz) (hl : l.length = m) (hk : k < m) (hn : Nf (Enc.enc (l.getD k default)) vs) : Yl P n o E H (.agg vs.toArray) := fun a w h1 h2 => by
  subst hs
  have hn' : Enc.enc (l.getD k default) = vs := hn
  subst hn'
  obtain ⟨kd, i, hi, rfl⟩ := hy
  simp only [execOp, ho, h1.ev hx, h1.ev hi]
  simp [Instr.index, run_underlying hS.und, asIntOf, hS.size, hk, part, hA.run]
  have := encs_part (l := l) (k := k) (by omega)
  rwa [List.getD_eq_getElem?_getD] at this
/-- A whole array, laid into a new block. -/
theorem tri_storeA [Dl] [hS : Sz P t m] (hd : o.dst = none) (ho : o.op = .store t x y) (hx : ev E x = some (.pointer (some ⟨g, 0, none⟩))) (hy : ev E y = some (.agg (encs l).toArray)) (hw : Wan ops n o E true) (hi : At cs i (blkC g t' cells)) (hl : (encs l).length = m) (hcl : cells.length = m) (hk : l.length = k) (hk' : Nat.ble k 1000000 = true) (hcs : Nf (cs.set i (slC (arR g k) t' l)) cs')
    (kk : Tri n (wpList P ops.toArray Q rest) E (HpM M w0 cs')) : Tri n (wpList P ops.toArray Q (o :: rest)) E (HpM M w0 cs) := by
  have hset : setL cells 0 (encs l) = encs l := by
    apply List.ext_getElem?
    intro j
    have hs : ∀ (vs : List Value) (f : Nat) (c : List Value), f + vs.length ≤ c.length → (setL c f vs)[j]? = if f ≤ j ∧ j < f + vs.length then vs[j - f]? else c[j]? := by
      intro vs
      induction vs with
      | nil => intro f c h; rw [setL, if_neg (by rintro ⟨h1, h2⟩; simp only [List.length_nil] at h2; omega)]
      | cons u vs ih =>
        intro f c h
        rw [setL, ih (f + 1) (c.set f u) (by simp at h ⊢; omega)]
        simp only [List.length_cons] at h ⊢
        by_cases h1 : j = f
        · subst h1
          rw [if_neg (by omega), if_pos ⟨Nat.le_refl _, by omega⟩, Nat.sub_self]
          simp [List.getElem?_set] <;> omega
        · by_cases h2 : f + 1 ≤ j ∧ j < f + 1 + vs.length
          · rw [if_pos h2, if_pos (by omega), show j - f = (j - (f + 1)) + 1 by omega, List.getElem?_cons_succ]
          · rw [if_neg h2, if_neg (by omega), List.getElem?_set_ne (by omega)]
    rw [hs (encs l) 0 cells (by omega)]
    split
    · rfl
    · rename_i h
      rw [List.getElem?_eq_none (by omega), List.getElem?_eq_none (by omega)]
  refine tri_store (t' := t') hd hw ho hx hy hi hl (List.all_eq_true.2 (one_encs l)) (by simp; omega) rfl rfl ?_
  refine tri_asrow l (i := i) (g := g) (t := t') (cells := setL cells 0 (encs l)) ?_ hset hk hk' (by rw [List.set_set]; exact hcs) kk
  have hil : i < cs.length := (List.getElem?_eq_some_iff.1 (show cs[i]? = some _ from hi)).1
  show (cs.set i _)[i]? = _
  rw [List.getElem?_set_self hil]
  rfl
end
end Go.Proofs.YtbgjelhefhcnpaaGreat

/- More rules of the engine, for page tables: an array inside an element of a slice, a map with a size hint. No conditions. -/
set_option linter.unusedSimpArgs false
set_option linter.unusedVariables false
namespace Go.Proofs.YtbgjelhefhcnpaaGreat
open Go Go.RowKit
section
variable {M : List Nat} {P : Program} {n d : Nat} {Q : Exit → Act → World → Prop} {rest : List Oper} {o : Oper} {E : Env} {H : World → Prop} {w0 : World} {cs : List Chunk} {x y : Operand} {v u : Value} {t m e sz k f g : Nat}
/-- The address of cell j of an array that stands at cell f of element k. -/
theorem yl_idxE [Dl] {j : Nat} [hS : ArTy P t m e 1] (ho : o.op = .indexAddr t x y) (hx : ev E x = some (eP v k sz f)) (hy : Ix E y j) (hj : j < m) : Yl P n o E H (eP v k sz (f + j)) := fun a w h1 h2 => by
  obtain ⟨kd, i, hi, rfl⟩ := hy
  rw [eP_eq] at hx
  simp only [execOp, ho, h1.ev hx, h1.ev hi]
  simp [Instr.indexAt, run_underlying hS.und, asIntOf, Instr.sureAddr, hS.size, hj, add_lit, eP_eq, Nat.add_assoc]
theorem tri_makeMapN [Dl] {ops : Array Oper} (β : Type) [MV β] [hM : MpTy P t β] {kd : IntKind} {i : Int} (hd : o.dst = some d) (hn : Nat.blt d n = true) (hg : o.guard = none) (ho : o.op = .makeMap t (some x)) (hx : ev E x = some (.int kd i))
    (k : ∀ g, Tri n (wpList P ops Q rest) ((d, .map (some g)) :: E) (HpM M w0 (mapC g ([] : List (Int × β)) :: cs))) : Tri n (wpList P ops Q (o :: rest)) E (HpM M w0 cs) := by
  intro a w h1 h2
  unfold wpList
  rw [if_pos (want_plain hg a)]
  refine .inl ?_
  unfold Oper.wp
  obtain ⟨kt, et, hu, _, _⟩ := hM.ex
  have hr : (execOp a.eval o).run P w = .ok (.value (.map (some w.heap.size))) (w.alloc (.map #[] 0)) := by
    simp only [execOp, ho, Option.map_some, h1.ev hx]
    simp [Instr.makeMap, run_underlying hu, asInt, asIntOf]
  rw [hr, Oper.upon_value, hd]
  refine k w.heap.size _ _ (h1.put hn _) (h2.push (w' := w.alloc (.map #[] 0)) ((Below.refl _ _).alloc (Nat.le_refl _) _) (Nat.le_refl _) ?_ ?_ ?_)
  · show w.heap.size ≤ w.heap.size + 1; omega
  · show w.heap.size + 1 ≤ _; simp
  · exact ⟨#[], 0, heap_alloc_new w _, ⟨rfl, by simp, by simp⟩⟩
end
end Go.Proofs.YtbgjelhefhcnpaaGreat

/- Association lists in plain terms. No conditions. -/
set_option linter.unusedSimpArgs false
set_option linter.unusedVariables false
namespace Go.Proofs.YtbgjelhefhcnpaaGreat
section
variable {β : Type}
def keysL (l : List (Int × β)) : List Int := l.map (·.1)
theorem find_none : ∀ {l : List (Int × β)} {k : Int}, aFind l k = none ↔ k ∉ keysL l
  | [], k => by simp [aFind, keysL]
  | p :: r, k => by
    rw [aFind]
    have ih := find_none (l := r) (k := k)
    by_cases e : k = p.1
    · rw [if_pos e]; simp [keysL, e]
    · rw [if_neg e]
      have : (aFind r k).map (fun q => (q.1 + 1, q.2)) = none ↔ aFind r k = none := by cases aFind r k <;> simp
      rw [this, ih]
      simp [keysL, e]
theorem get_none {l : List (Int × β)} {k : Int} : aGet l k = none ↔ k ∉ keysL l := by
  unfold aGet
  rw [← find_none]
  cases aFind l k <;> simp
theorem get_cons (p : Int × β) (r : List (Int × β)) (k : Int) : aGet (p :: r) k = if k = p.1 then some p.2 else aGet r k := by
  unfold aGet
  rw [aFind]
  split
  · rfl
  · cases aFind r k <;> rfl
theorem set_none {l : List (Int × β)} {k : Int} (h : aGet l k = none) (v : β) : aSet l k v = l ++ [(k, v)] := by
  have : aFind l k = none := by rw [find_none]; exact get_none.1 h
  unfold aSet; rw [this]
theorem find_cons_ne {p : Int × β} {r : List (Int × β)} {k : Int} (e : ¬ k = p.1) : aFind (p :: r) k = (aFind r k).map fun q => (q.1 + 1, q.2) := by rw [aFind, if_neg e]
theorem set_cons (p : Int × β) (r : List (Int × β)) (k : Int) (v : β) : aSet (p :: r) k v = if k = p.1 then (k, v) :: r else p :: aSet r k v := by
  by_cases e : k = p.1
  · rw [if_pos e]; unfold aSet; rw [aFind, if_pos e]; rfl
  · rw [if_neg e]; unfold aSet; rw [find_cons_ne e]
    cases aFind r k <;> rfl
theorem del_cons (p : Int × β) (r : List (Int × β)) (k : Int) : aDel (p :: r) k = if k = p.1 then r else p :: aDel r k := by
  by_cases e : k = p.1
  · rw [if_pos e]; unfold aDel; rw [aFind, if_pos e]; rfl
  · rw [if_neg e]; unfold aDel; rw [find_cons_ne e]
    cases aFind r k <;> rfl
theorem get_set : ∀ (l : List (Int × β)) (k k' : Int) (v : β), aGet (aSet l k v) k' = if k' = k then some v else aGet l k'
  | [], k, k', v => by
    have : aSet ([] : List (Int × β)) k v = [(k, v)] := rfl
    rw [this, get_cons]
  | p :: r, k, k', v => by
    rw [set_cons]
    by_cases e : k = p.1
    · rw [if_pos e, get_cons, get_cons]
      by_cases e' : k' = k
      · simp [e']
      · simp [e', ← e]
    · rw [if_neg e, get_cons, get_cons, get_set r k k' v]
      by_cases e' : k' = p.1
      · rw [if_pos e', if_pos e', if_neg]
        omega
      · rw [if_neg e', if_neg e']
theorem get_del : ∀ {l : List (Int × β)} (k k' : Int), (keysL l).Nodup → aGet (aDel l k) k' = if k' = k then none else aGet l k'
  | [], k, k', _ => by
    have : aDel ([] : List (Int × β)) k = [] := rfl
    rw [this]
    split <;> rfl
  | p :: r, k, k', h => by
    have h' := List.nodup_cons.1 h
    rw [del_cons]
    by_cases e : k = p.1
    · rw [if_pos e, get_cons]
      by_cases e' : k' = k
      · rw [if_pos e', get_none, e', e]; exact h'.1
      · rw [if_neg e', if_neg (by omega)]
    · rw [if_neg e, get_cons, get_cons, get_del k k' h'.2]
      by_cases e' : k' = p.1
      · rw [if_pos e', if_pos e', if_neg]; omega
      · rw [if_neg e', if_neg e']
theorem keys_set : ∀ (l : List (Int × β)) (k : Int) (v : β), keysL (aSet l k v) = if k ∈ keysL l then keysL l else keysL l ++ [k]
  | [], k, v => rfl
  | p :: r, k, v => by
    rw [set_cons]
    by_cases e : k = p.1
    · rw [if_pos e, if_pos (by simp [keysL, e])]
      simp [keysL, e]
    · rw [if_neg e]
      have ih := keys_set r k v
      show p.1 :: keysL (aSet r k v) = _
      rw [ih, show keysL (p :: r) = p.1 :: keysL r from rfl]
      by_cases hm : k ∈ keysL r
      · rw [if_pos hm, if_pos (List.mem_cons_of_mem _ hm)]
      · rw [if_neg hm, if_neg (by rw [List.mem_cons, not_or]; exact ⟨e, hm⟩)]; rfl
theorem nodup_set {l : List (Int × β)} (h : (keysL l).Nodup) (k : Int) (v : β) : (keysL (aSet l k v)).Nodup := by
  rw [keys_set]
  split
  · exact h
  · rename_i hm
    rw [List.nodup_append]
    exact ⟨h, by simp, fun a ha b hb => by rw [List.mem_singleton.1 hb]; exact fun e => hm (e ▸ ha)⟩
theorem keys_del : ∀ (l : List (Int × β)) (k : Int), keysL (aDel l k) = (keysL l).erase k
  | [], k => rfl
  | p :: r, k => by
    rw [del_cons]
    by_cases e : k = p.1
    · rw [if_pos e]; simp [keysL, e]
    · rw [if_neg e]
      show p.1 :: keysL (aDel r k) = (p.1 :: keysL r).erase k
      rw [keys_del r k, List.erase_cons_tail (by simpa using fun h => e h.symm)]
theorem nodup_del {l : List (Int × β)} (h : (keysL l).Nodup) (k : Int) : (keysL (aDel l k)).Nodup := by
  rw [keys_del]
  exact h.sublist (List.erase_sublist ..)
theorem len_keys (l : List (Int × β)) : (keysL l).length = l.length := List.length_map ..
theorem len_set (l : List (Int × β)) (k : Int) (v : β) : (aSet l k v).length = if k ∈ keysL l then l.length else l.length + 1 := by
  have := congrArg List.length (keys_set l k v)
  rw [len_keys] at this
  rw [this]
  split
  · exact len_keys l
  · rw [List.length_append, len_keys]; rfl
theorem mem_get {l : List (Int × β)} (h : (keysL l).Nodup) {p : Int × β} (hm : p ∈ l) : aGet l p.1 = some p.2 := by
  induction l with
  | nil => cases hm
  | cons q r ih =>
    have h' := List.nodup_cons.1 h
    rw [get_cons]
    rcases List.mem_cons.1 hm with rfl | hm
    · rw [if_pos rfl]
    · rw [if_neg, ih h'.2 hm]
      intro e
      exact h'.1 (List.mem_map.2 ⟨p, hm, e⟩)
theorem get_mem {l : List (Int × β)} {k : Int} {v : β} (h : aGet l k = some v) : (k, v) ∈ l := by
  unfold aGet at h
  cases hf : aFind l k with
  | none => rw [hf] at h; cases h
  | some q =>
    rw [hf] at h
    obtain ⟨j, v'⟩ := q
    simp only [Option.map_some, Option.some.injEq] at h
    subst h
    exact List.mem_of_getElem? (aFind_some hf)
end
/-- A list without repetitions is no longer than one that has all its elements. -/
theorem nodup_le : ∀ {K L : List Int}, K.Nodup → (∀ x ∈ K, x ∈ L) → K.length ≤ L.length
  | [], _, _, _ => Nat.zero_le _
  | x :: K, L, h, hs => by
    have h' := List.nodup_cons.1 h
    have hx := hs x (List.mem_cons_self ..)
    have := nodup_le (K := K) (L := L.erase x) h'.2 fun y hy => by
      have hne : y ≠ x := fun e => h'.1 (e ▸ hy)
      exact (List.mem_erase_of_ne hne).2 (hs y (List.mem_cons_of_mem _ hy))
    rw [List.length_erase_of_mem hx] at this
    have := List.length_pos_of_mem hx
    simp only [List.length_cons]
    omega
/-- The number of different elements: of those that do not come again. -/
def dcN : List Int → Nat
  | [] => 0
  | x :: r => (if x ∈ r then 0 else 1) + dcN r
def ddL : List Int → List Int
  | [] => []
  | x :: r => if x ∈ r then ddL r else x :: ddL r
theorem dd_spec : ∀ l : List Int, (ddL l).length = dcN l ∧ (ddL l).Nodup ∧ ∀ x, x ∈ ddL l ↔ x ∈ l
  | [] => by simp [ddL, dcN]
  | x :: r => by
    obtain ⟨h1, h2, h3⟩ := dd_spec r
    unfold ddL dcN
    by_cases e : x ∈ r
    · rw [if_pos e, if_pos e]
      refine ⟨by omega, h2, fun y => ?_⟩
      rw [h3, List.mem_cons]
      constructor
      · exact .inr
      · rintro (rfl | h)
        · exact e
        · exact h
    · rw [if_neg e, if_neg e]
      refine ⟨by simp [h1]; omega, List.nodup_cons.2 ⟨fun h => e ((h3 x).1 h), h2⟩, fun y => ?_⟩
      rw [List.mem_cons, List.mem_cons, h3]
theorem dc_of {K W : List Int} (h : K.Nodup) (hm : ∀ x, x ∈ K ↔ x ∈ W) : K.length = dcN W := by
  obtain ⟨h1, h2, h3⟩ := dd_spec W
  rw [← h1]
  exact Nat.le_antisymm (nodup_le h fun x hx => (h3 x).2 ((hm x).1 hx)) (nodup_le h2 fun x hx => (hm x).2 ((h3 x).1 hx))
end Go.Proofs.YtbgjelhefhcnpaaGreat
