/- Texts joined: Map2. Each part's own remark says what it proves. -/
import Derived.Test.YtojfaelafakemaaM17
/- Maps of the call's own: the rules. No conditions. -/
set_option linter.unusedSimpArgs false
set_option linter.unusedVariables false
namespace Go.Proofs.Ytojfaelafakemaa
open Go Go.RowKit
section
variable {M : List Nat} {P : Program} {n d : Nat} {Q : Exit → Act → World → Prop} {F : Act → World → Prop} {ops rest : List Oper} {o : Oper} {E : Env} {w0 : World} {cs cs' : List Chunk} {x y z : Operand} {t t2 b r clock i : Nat} {β : Type} [MV β] {l : List (Int × β)} {k : Int} {kd : IntKind} {es : Array MapEntry}
theorem mapC_get (w : World) (h : HpM M w0 cs w) (hi : Has cs (mapC b l)) : ∃ es clock, w.heap[b]? = some (.map es clock) ∧ Ents es clock l := by
  obtain ⟨i, hi⟩ := hi
  exact (h.at_ i _ hi).2.2.2
theorem objC_get {ob : Obj} (w : World) (h : HpM M w0 cs w) (hi : Has cs (objC b ob)) : w.heap[b]? = some ob := by
  obtain ⟨i, hi⟩ := hi
  exact (h.at_ i _ hi).2.2.2
theorem yl_look [Dl] [hM : MpTy P t β] (ho : o.op = .lookup t x y false) (hx : ev E x = some (.map (some b))) (hy : ev E y = some (.int .i64 k)) (hi : Has cs (mapC b l)) : Yl P n o E (HpM M w0 cs) (MV.val ((aGet l k).getD MV.dflt)) := fun a w h1 h2 => by
  obtain ⟨es, clock, hb, he⟩ := mapC_get w h2 hi
  have := run_look (P := P) (t := t) (k := k) hb he false
  simp only [execOp, ho, h1.ev hx, h1.ev hy, Sem.run_bind, this, Result.andThen]
  rfl
theorem yl_look2 [Dl] [hM : MpTy P t β] (ho : o.op = .lookup t x y true) (hx : ev E x = some (.map (some b))) (hy : ev E y = some (.int .i64 k)) (hi : Has cs (mapC b l)) : Yl P n o E (HpM M w0 cs) (.tuple #[MV.val ((aGet l k).getD MV.dflt), .bool (aGet l k).isSome]) := fun a w h1 h2 => by
  obtain ⟨es, clock, hb, he⟩ := mapC_get w h2 hi
  have := run_look (P := P) (t := t) (k := k) hb he true
  simp only [execOp, ho, h1.ev hx, h1.ev hy, Sem.run_bind, this, Result.andThen]
  rfl
theorem yl_maplen [Dl] [hM : MpTy P t β] (ho : o.op = .call { callee := .builtin .len, args := #[x], argTypes := #[t] }) (hx : ev E x = some (.map (some b))) (hi : Has cs (mapC b l)) : Yl P n o E (HpM M w0 cs) (.int .i64 (l.length : Int)) := fun a w h1 h2 => by
  obtain ⟨es, clock, hb, he⟩ := mapC_get w h2 hi
  obtain ⟨kt, et, u1, u2, u3⟩ := hM.ex
  simp only [execOp, ho, resolve]
  simp [invoke, builtin, h1.ev hx, Builtin.len_, run_underlying u1, MapKept.run_getObj_map hb, goInt, he.len]
theorem tri_makeMap [Dl] {ops : Array Oper} (β : Type) [MV β] [hM : MpTy P t β] (hd : o.dst = some d) (hn : Nat.blt d n = true) (hg : o.guard = none) (ho : o.op = .makeMap t none)
    (k : ∀ g, Tri n (wpList P ops Q rest) ((d, .map (some g)) :: E) (HpM M w0 (mapC g ([] : List (Int × β)) :: cs))) : Tri n (wpList P ops Q (o :: rest)) E (HpM M w0 cs) := by
  intro a w h1 h2
  unfold wpList
  rw [if_pos (want_plain hg a)]
  refine .inl ?_
  unfold Oper.wp
  have hr : (execOp a.eval o).run P w = .ok (.value (.map (some w.heap.size))) (w.alloc (.map #[] 0)) := by
    simp only [execOp, ho, Option.map_none, run_makeMap, Sem.run_bind, Result.andThen]
    rfl
  rw [hr, Oper.upon_value, hd]
  refine k w.heap.size _ _ (h1.put hn _) (h2.push (w' := w.alloc (.map #[] 0)) ((Below.refl _ _).alloc (Nat.le_refl _) _) (Nat.le_refl _) ?_ ?_ ?_)
  · show w.heap.size ≤ w.heap.size + 1; omega
  · show w.heap.size + 1 ≤ _; simp
  · exact ⟨#[], 0, heap_alloc_new w _, ⟨rfl, by simp, by simp⟩⟩
theorem heap_set_same {w : World} {b : Nat} {o o' : Obj} (h : w.heap[b]? = some o) : ({ w with heap := w.heap.setIfInBounds b o' } : World).heap[b]? = some o' := by
  have := (Array.getElem?_eq_some_iff.1 h).1
  simp [this]
theorem heap_set_other {w : World} {b i : Nat} {o' : Obj} (h : ¬ i = b) : ({ w with heap := w.heap.setIfInBounds b o' } : World).heap[i]? = w.heap[i]? := by
  show (w.heap.setIfInBounds b o')[i]? = _
  rw [Array.getElem?_setIfInBounds_ne (by omega)]
theorem HpM.setObj {w : World} {c c' : Chunk} {o o' : Obj} (h : HpM M w0 cs w) (hi : At cs i c) (hl : c.lo = b) (hh : c.hi = b + 1) (hl' : c'.lo = b) (hh' : c'.hi = b + 1) (hb : w.heap[b]? = some o) (h4 : c'.P { w with heap := w.heap.setIfInBounds b o' }) : HpM M w0 (cs.set i c') { w with heap := w.heap.setIfInBounds b o' } := by
  have hlt := (Array.getElem?_eq_some_iff.1 hb).1
  refine h.set hi ⟨rfl, rfl, rfl, by simp⟩ (fun k hk hor => heap_set_other (by omega)) (.inl ⟨by omega, by omega⟩) (by rw [hh']; simp; omega) h4
theorem tri_update [Dl] [hM : MpTy P t β] {v : β} (hd : o.dst = none) (hw : Wan ops n o E true) (ho : o.op = .mapUpdate t x y z) (hx : ev E x = some (.map (some b))) (hy : ev E y = some (.int .i64 k)) (hz : ev E z = some (MV.val v)) (hi : At cs i (mapC b l)) (hcs : Nf (cs.set i (mapC b (aSet l k v))) cs')
    (kk : Tri n (wpList P ops.toArray Q rest) E (HpM M w0 cs')) : Tri n (wpList P ops.toArray Q (o :: rest)) E (HpM M w0 cs) := by
  subst hcs
  intro a w h1 h2
  refine wpList_want (hw a h1) ?_
  unfold Oper.wp
  obtain ⟨es, clock, hb, he⟩ := mapC_get w h2 ⟨i, hi⟩
  obtain ⟨es', clock', hr, he'⟩ := run_upd (P := P) (t := t) (k := k) hb he v
  have : (execOp a.eval o).run P w = .ok .skip { w with heap := w.heap.setIfInBounds b (.map es' clock') } := by
    simp only [execOp, ho, h1.ev hx, h1.ev hy, h1.ev hz, Sem.run_bind, hr, Result.andThen]
    rfl
  rw [this, Oper.upon_skip, hd]
  exact kk _ _ h1 (h2.setObj hi rfl rfl rfl rfl hb ⟨es', clock', heap_set_same hb, he'⟩)
theorem tri_delete [Dl] [hM : MpTy P t β] (hd : o.dst = none) (hw : Wan ops n o E true) (ho : o.op = .call { callee := .builtin .delete, args := #[x, y], argTypes := #[t, t2] }) (hx : ev E x = some (.map (some b))) (hy : ev E y = some (.int .i64 k)) (hi : At cs i (mapC b l)) (hcs : Nf (cs.set i (mapC b (aDel l k))) cs')
    (kk : Tri n (wpList P ops.toArray Q rest) E (HpM M w0 cs')) : Tri n (wpList P ops.toArray Q (o :: rest)) E (HpM M w0 cs) := by
  subst hcs
  intro a w h1 h2
  refine wpList_want (hw a h1) ?_
  unfold Oper.wp
  obtain ⟨es, clock, hb, he⟩ := mapC_get w h2 ⟨i, hi⟩
  obtain ⟨es', hr, he'⟩ := run_del (P := P) (t := t) (k := k) hb he o.type t2
  have : (execOp a.eval o).run P w = .ok (.value (.tuple #[])) { w with heap := w.heap.setIfInBounds b (.map es' clock) } := by
    simp only [execOp, ho, resolve, invoke, builtin, Sem.run_bind, Sem.run_pure, Result.andThen_ok, List.map_toArray, List.map_cons, List.map_nil, h1.ev hx, h1.ev hy, hr]
  rw [this, Oper.upon_value, hd]
  exact kk _ _ h1 (h2.setObj hi rfl rfl rfl rfl hb ⟨es', clock, heap_set_same hb, he'⟩)
/- Ranging. -/
def bornOf (es : Array MapEntry) (j : Nat) : Nat := (es.toList.map (·.born)).getD j 0
theorem Ents.at_ (he : Ents es clock l) {e : MapEntry} (h : e ∈ es.toList) : ∃ j, j < l.length ∧ e.born = bornOf es j ∧ ∃ p, l[j]? = some p ∧ e.key = .int .i64 p.1 ∧ e.val = MV.val p.2 := by
  obtain ⟨j, hj, rfl⟩ := List.getElem_of_mem h
  have hjl : j < l.length := by rw [← he.len]; simpa using hj
  refine ⟨j, hjl, ?_, l[j], List.getElem?_eq_getElem hjl, ?_⟩
  · unfold bornOf
    rw [List.getD_eq_getElem?_getD, List.getElem?_map, List.getElem?_eq_getElem hj]; rfl
  · have := congrArg (·[j]?) he.list
    simp only [List.getElem?_map, List.getElem?_eq_getElem hj, List.getElem?_eq_getElem hjl, Option.map_some, Option.some.injEq, Prod.mk.injEq] at this
    exact this
theorem Ents.born_inj (he : Ents es clock l) {j j' : Nat} (h : j < l.length) (h' : j' < l.length) (e : bornOf es j = bornOf es j') : j = j' := by
  have hlen : (es.toList.map (·.born)).length = l.length := by rw [List.length_map, ← he.len]; simp
  unfold bornOf at e
  rw [List.getD_eq_getElem?_getD, List.getD_eq_getElem?_getD, List.getElem?_eq_getElem (by omega), List.getElem?_eq_getElem (by omega)] at e
  exact (List.getElem_inj he.born).1 e
theorem Ents.left (he : Ents es clock l) {seen : Array Nat} (h : (leftOf es seen).size = 0) {j : Nat} (hj : j < l.length) : seen.contains (bornOf es j) = true := by
  have hsz : j < es.toList.length := by simp [he.len, hj]
  have hem : leftOf es seen = #[] := Array.eq_empty_of_size_eq_zero h
  unfold leftOf at hem
  rw [Array.filter_eq_empty_iff] at hem
  have := hem es.toList[j] (by simp)
  have hb : bornOf es j = es.toList[j].born := by
    unfold bornOf
    rw [List.getD_eq_getElem?_getD, List.getElem?_map, List.getElem?_eq_getElem hsz]; rfl
  rw [hb]
  simpa using this
/-- How many places have not been seen. -/
def leftN (es : Array MapEntry) (n : Nat) (seen : Array Nat) : Nat := ((List.range n).filter fun j => !seen.contains (bornOf es j)).length
theorem leftN_lt {n j : Nat} {seen : Array Nat} (hj : j < n) (h : seen.contains (bornOf es j) = false) : leftN es n (seen.push (bornOf es j)) < leftN es n seen := by
  have hs : ((List.range n).filter fun i => !(seen.push (bornOf es j)).contains (bornOf es i)).Sublist ((List.range n).filter fun i => !seen.contains (bornOf es i)) := by
    have : ((List.range n).filter fun i => !(seen.push (bornOf es j)).contains (bornOf es i)) = ((List.range n).filter fun i => !seen.contains (bornOf es i)).filter fun i => !(bornOf es i == bornOf es j) := by
      rw [List.filter_filter]
      congr 1
      funext i
      rw [Array.contains_push, Bool.not_or, Bool.and_comm]
    rw [this]
    exact List.filter_sublist ..
  have hle := hs.length_le
  refine Nat.lt_of_le_of_ne hle fun e => ?_
  have heq := hs.eq_of_length e
  have hm : j ∈ (List.range n).filter fun i => !seen.contains (bornOf es i) := List.mem_filter.2 ⟨List.mem_range.2 hj, by rw [h]; rfl⟩
  rw [← heq] at hm
  have := (List.mem_filter.1 hm).2
  simp at this
theorem tri_openmap [Dl] {ob : Nat} (hi : At cs i (mapC b l)) (k : ∀ es clock, Ents es clock l → Tri n F E (HpM M w0 (cs.set i (objC b (.map es clock))))) : Tri n F E (HpM M w0 cs) := fun a w h1 h2 => by
  obtain ⟨q1, q2, q3, es, clock, hb, he⟩ := h2.at_ i _ hi
  exact k es clock he a w h1 (h2.set hi ⟨rfl, rfl, rfl, Nat.le_refl _⟩ (fun _ _ _ => rfl) (.inl ⟨rfl, rfl⟩) q3 hb)
theorem tri_shutmap [Dl] (he : Ents es clock l) (hi : At cs i (objC b (.map es clock))) (hcs : Nf (cs.set i (mapC b l)) cs') (k : Tri n F E (HpM M w0 cs')) : Tri n F E (HpM M w0 cs) := fun a w h1 h2 => by
  subst hcs
  obtain ⟨q1, q2, q3, q4⟩ := h2.at_ i _ hi
  exact k a w h1 (h2.set hi ⟨rfl, rfl, rfl, Nat.le_refl _⟩ (fun _ _ _ => rfl) (.inl ⟨rfl, rfl⟩) q3 ⟨es, clock, q4, he⟩)
theorem tri_range [Dl] {ops : Array Oper} [hM : MpTy P t β] (hd : o.dst = some d) (hn : Nat.blt d n = true) (hg : o.guard = none) (ho : o.op = .range t x) (hx : ev E x = some (.map (some b))) (hi : Has cs (objC b (.map es clock)))
    (k : ∀ g, Tri n (wpList P ops Q rest) ((d, .pointer (some ⟨g, 0, none⟩)) :: E) (HpM M w0 (objC g (.mapIter (some b) clock #[] clock) :: cs))) : Tri n (wpList P ops Q (o :: rest)) E (HpM M w0 cs) := by
  intro a w h1 h2
  unfold wpList
  rw [if_pos (want_plain hg a)]
  refine .inl ?_
  unfold Oper.wp
  obtain ⟨kt, et, u1, u2, u3⟩ := hM.ex
  have hb := objC_get w h2 hi
  have hr : (execOp a.eval o).run P w = .ok (.value (.pointer (some ⟨w.heap.size, 0, none⟩))) (w.alloc (.mapIter (some b) clock #[] clock)) := by
    simp only [execOp, ho, h1.ev hx, Sem.run_bind, run_range_map w t kt et b es clock u1 hb, Result.andThen]
    rfl
  rw [hr, Oper.upon_value, hd]
  refine k w.heap.size _ _ (h1.put hn _) (h2.push (w' := w.alloc (.mapIter (some b) clock #[] clock)) ((Below.refl _ _).alloc (Nat.le_refl _) _) (Nat.le_refl _) ?_ ?_ ?_)
  · show w.heap.size ≤ w.heap.size + 1; omega
  · show w.heap.size + 1 ≤ _; simp
  · exact heap_alloc_new w _
theorem tri_next [Dl] {ops : Array Oper} {seen : Array Nat} {c0 : Nat} (hd : o.dst = some d) (hn : Nat.blt d n = true) (hg : o.guard = none) (ho : o.op = .next x false) (hx : ev E x = some (.pointer (some ⟨r, 0, none⟩))) (he : Ents es clock l) (hc : clock ≤ c0)
    (hi : At cs i (objC r (.mapIter (some b) clock seen c0))) (hb : Has cs (objC b (.map es clock)))
    (kd : (∀ j, j < l.length → seen.contains (bornOf es j) = true) → Tri n (wpList P ops Q rest) ((d, .tuple #[.bool false]) :: E) (HpM M w0 cs))
    (km : ∀ j p, j < l.length → l[j]? = some p → seen.contains (bornOf es j) = false → Tri n (wpList P ops Q rest) ((d, .tuple #[.bool true, .int .i64 p.1, MV.val p.2]) :: E) (HpM M w0 (cs.set i (objC r (.mapIter (some b) clock (seen.push (bornOf es j)) clock))))) : Tri n (wpList P ops Q (o :: rest)) E (HpM M w0 cs) := by
  intro a w h1 h2
  unfold wpList
  rw [if_pos (want_plain hg a)]
  refine .inl ?_
  unfold Oper.wp
  have hr := objC_get w h2 ⟨i, hi⟩
  have hbb := objC_get w h2 hb
  rcases run_next_at (P := P) w o.type r b clock c0 seen es clock hr hbb he.lt hc with ⟨h0, hrun⟩ | ⟨e, hem, w1, hw1, hrun⟩
  · have hx' : (execOp a.eval o).run P w = .ok (.value (.tuple #[.bool false])) w := by
      simp only [execOp, ho, h1.ev hx, Sem.run_bind, hrun, Result.andThen]
      rfl
    rw [hx', Oper.upon_value, hd]
    exact kd (fun j hj => he.left h0 hj) _ _ (h1.put hn _) h2
  · have hem' : e ∈ es.toList ∧ seen.contains e.born = false := by
      unfold leftOf at hem
      simp at hem
      simp [hem]
    obtain ⟨j, hj, hbj, p, hp, hk, hv⟩ := he.at_ hem'.1
    have hx' : (execOp a.eval o).run P w = .ok (.value (.tuple #[.bool true, .int .i64 p.1, MV.val p.2])) { w1 with heap := w1.heap.setIfInBounds r (.mapIter (some b) clock (seen.push (bornOf es j)) clock) } := by
      simp only [execOp, ho, h1.ev hx, Sem.run_bind, hrun, Result.andThen, hk, hv, hbj]
      rfl
    rw [hx', Oper.upon_value, hd]
    have h2' : HpM M w0 cs w1 := by
      rcases hw1 with rfl | rfl
      · exact h2
      · exact h2.drawn
    have hr' : w1.heap[r]? = some (.mapIter (some b) clock seen c0) := objC_get w1 h2' ⟨i, hi⟩
    exact km j p hj hp (by rw [← hbj]; exact hem'.2) _ _ (h1.put hn _) (h2'.setObj hi rfl rfl rfl rfl hr' (heap_set_same hr'))
theorem yl_entry [Dl] {seen : Array Nat} {j : Nat} {p : Int × β} (ho : o.op = .entry x) (hx : ev E x = some (.pointer (some ⟨r, 0, none⟩))) (he : Ents es clock l) (hp : l[j]? = some p) (hi : Has cs (objC r (.mapIter (some b) clock (seen.push (bornOf es j)) clock))) (hb : Has cs (objC b (.map es clock))) :
    Yl P n o E (HpM M w0 cs) (.tuple #[.int .i64 p.1, MV.val p.2]) := fun a w h1 h2 => by
  have hjl : j < l.length := (List.getElem?_eq_some_iff.1 hp).1
  have hsz : j < es.toList.length := by simp [he.len, hjl]
  have hbj : bornOf es j = es.toList[j].born := by
    unfold bornOf
    rw [List.getD_eq_getElem?_getD, List.getElem?_map, List.getElem?_eq_getElem hsz]; rfl
  have hr := objC_get w h2 hi
  rw [hbj] at hr
  have := run_entry_at (P := P) w r b clock seen es clock es.toList[j] hr (objC_get w h2 hb) (List.getElem_mem hsz) he.born
  have hkv := congrArg (·[j]?) he.list
  simp only [List.getElem?_map, List.getElem?_eq_getElem hsz, hp, Option.map_some, Option.some.injEq, Prod.mk.injEq] at hkv
  rw [hkv.1, hkv.2] at this
  simp only [execOp, ho, h1.ev hx, Sem.run_bind, this, Result.andThen]
  rfl
end
end Go.Proofs.Ytojfaelafakemaa
