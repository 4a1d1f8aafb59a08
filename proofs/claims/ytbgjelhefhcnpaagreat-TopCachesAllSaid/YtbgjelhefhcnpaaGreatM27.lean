/- Texts joined: Ins, PtIns, PtAsmP. Each part's own remark says what it proves. -/
import Derived.Test.YtbgjelhefhcnpaaGreatM26
import Derived.Lib.Overlaps
import Derived.Test.YtbgjelhefhcnpaaGreatM23
import Derived.Test.YtbgjelhefhcnpaaGreatM25
/- Inserting into a row: slices of what lies behind its end, shifting, appending room, overlaps. No conditions. -/
set_option linter.unusedSimpArgs false
set_option linter.unusedVariables false
namespace Go.Proofs.YtbgjelhefhcnpaaGreat
open Go Go.RowKit
section
variable {M : List Nat} {P : Program} {n d : Nat} {Q : Exit → Act → World → Prop} {ops rest : List Oper} {o : Oper} {E : Env} {H : World → Prop} {v : Value} {w0 w : World} {cs : List Chunk} {x y : Operand} {t t2 ty e sz : Nat} {z : Value} {α : Type} [Enc α] {l : List α} {r : Row}
theorem tri_fact [Dl] {F : Act → World → Prop} {p : Prop} (h : ∀ w, H w → p) (k : p → Tri n F E H) : Tri n F E H := fun a w h1 h2 => k (h w h2) a w h1 h2
theorem yl_cutlA [Dl] {lo : Operand} {g f a m c : Nat} [hS : SlTy P t e sz z] (ho : o.op = .slice t x (some lo) none none) (hx : ev E x = some (.slice (some ⟨g, f, none⟩) m c)) (hlo : Ix E lo a) (ham : a ≤ m) (hmc : m ≤ c) (hac : a < c) :
    Yl P n o E H (.slice (some ⟨g, f + a * sz, none⟩) (m - a) (c - a)) := fun b w h1 _ => by
  have hel := hS.elem
  have hu : P.underlying t = some (.slice (P.elem t)) := by rw [hel]; exact hS.und
  obtain ⟨kd', i', hi', rfl⟩ := hlo
  simp only [execOp, ho, h1.ev hx, Option.map_none, Option.map_some, h1.ev hi']
  rw [Sem.run_bind, run_sliceAt_slice _ _ _ _ _ _ hu, run_slice_l _ _ _ _ _ hu _ _ (by omega) (by omega)]
  have hne : ¬ c = a := by omega
  simp [hel, hS.size, sliced, hne, add_lit]
theorem yl_cuthA [Dl] {hi : Operand} {g f b m c : Nat} [hS : SlTy P t e sz z] (ho : o.op = .slice t x none (some hi) none) (hx : ev E x = some (.slice (some ⟨g, f, none⟩) m c)) (hhi : Ix E hi b) (hbc : b ≤ c) (hc : 0 < c) :
    Yl P n o E H (.slice (some ⟨g, f, none⟩) b c) := fun a w h1 _ => by
  have hel := hS.elem
  have hu : P.underlying t = some (.slice (P.elem t)) := by rw [hel]; exact hS.und
  obtain ⟨kd', i', hi', rfl⟩ := hhi
  simp only [execOp, ho, h1.ev hx, Option.map_none, Option.map_some, h1.ev hi']
  rw [Sem.run_bind, run_sliceAt_slice _ _ _ _ _ _ hu, run_slice_h _ _ _ _ _ hu _ _ (by omega) (by omega)]
  have hne : ¬ c = 0 := by omega
  simp [hel, hS.size, sliced, hne, add_lit]
/-- The rest of a row is moved up by one place, into what lies behind its end. -/
theorem tri_shift [Dl] {i k g f c1 c2 : Nat} [hS : SlTy P t e sz z] (hd : o.dst = some d) (hn : Nat.blt d n = true) (hw : Wan ops n o E true) (ho : o.op = .call { callee := .builtin .copy, args := #[x, y], argTypes := #[t, t2] })
    (hx : ev E x = some (.slice (some ⟨g, f + (k + 1) * sz, none⟩) (l.length - k) c1)) (hy : ev E y = some (.slice (some ⟨g, f + k * sz, none⟩) (l.length + 1 - k) c2)) (hA : r.A = some ⟨g, f, none⟩) (hi : At cs i (slC r e l)) (hs : Enc.sz α = sz) (hk : k < l.length) (hcap : l.length + 1 ≤ r.cap)
    (kk : Tri n (wpList P ops.toArray Q rest) ((d, .int .i64 ((l.length - k : Nat) : Int)) :: E) (HpM M w0 (cs.set i (slC { r with len := l.length + 1 } e (l.take (k + 1) ++ l.drop k))))) : Tri n (wpList P ops.toArray Q (o :: rest)) E (HpM M w0 cs) := by
  subst hs
  intro b w hb hH
  refine wpList_want (hw b hb) ?_
  unfold Oper.wp
  obtain ⟨q1, q2, q3, g4⟩ := hH.at_ i _ hi
  have hlen := Own.len g4
  have hcm := g4.cap
  obtain ⟨ti, hti, hz, hsz, _, hzs⟩ := hS.get
  rcases g4.row with ⟨h3, _, _⟩ | ⟨g', f', cur, h3, h4, h5, h6, h7, h8⟩
  · rw [h3] at hA; cases hA
  rw [h3] at hA
  cases hA
  have hkl : (encs (l.drop k)).length = (l.length - k) * Enc.sz α := by rw [length_encs, List.length_drop]
  have hc1 : (l.length + 1) * Enc.sz α ≤ r.cap * Enc.sz α := Nat.mul_le_mul_right _ hcap
  have hal3 : cur.toList.length = cur.size := by simp
  have e1 : (l.length + 1) * Enc.sz α = (k + 1) * Enc.sz α + (l.length - k) * Enc.sz α := by rw [← Nat.add_mul]; congr 1; omega
  have e2 : l.length * Enc.sz α = k * Enc.sz α + (l.length - k) * Enc.sz α := by rw [← Nat.add_mul]; congr 1; omega
  have e3 : (k + 1) * Enc.sz α = k * Enc.sz α + Enc.sz α := by rw [Nat.add_mul, Nat.one_mul]
  have hel : (encs l).length = l.length * Enc.sz α := length_encs l
  rw [hlen] at h8
  have hsrc : ∀ j v, (encs (l.drop k))[j]? = some v → w.cell? ((⟨g, f + k * Enc.sz α, none⟩ : Addr).add j) = some v := fun j v hj => by
    have hjl : j < (l.length - k) * Enc.sz α := by rw [← hkl]; exact (List.getElem?_eq_some_iff.1 hj).1
    rw [add_lit, cell_of_row w g _ cur e (0, 0) h6]
    rw [← encs_drop, List.getElem?_drop, ← h8, List.getElem?_take, if_pos (by omega), List.getElem?_drop] at hj
    rw [show f + k * Enc.sz α + j = f + (k * Enc.sz α + j) by omega]
    simpa using hj
  have hld := run_loadCells_list (P := P) w _ _ hsrc
  rw [hkl] at hld
  have hst := run_storeCells_at (P := P) g (f + (k + 1) * Enc.sz α) e (encs (l.drop k)) 0 cur w h6 (by rw [hkl]; omega) (one_encs _)
  have hr : (execOp b.eval o).run P w = .ok (.value (.int .i64 ((l.length - k : Nat) : Int))) (w.setRow g (cur.toList.take (f + (k + 1) * Enc.sz α + 0) ++ encs (l.drop k) ++ cur.toList.drop (f + (k + 1) * Enc.sz α + 0 + (encs (l.drop k)).length)).toArray) := by
    simp only [execOp, ho, resolve, invoke, builtin, Sem.run_bind, Sem.run_pure, Result.andThen_ok, List.map_toArray, List.map_cons, List.map_nil, hb.ev hx, hb.ev hy]
    have hmin : Nat.min (l.length + 1 - k) (l.length - k) = l.length - k := Nat.min_eq_right (by omega)
    simp [Builtin.copy_, run_underlying hS.und, Builtin.lenOf, Builtin.firstCells, sizeOf, typeInfo, hti, hmin, hsz, hld, hst, goInt]
  rw [hr, Oper.upon_value, hd]
  refine kk _ _ (hb.put hn _) ((show HpM M w0 cs w from hH).set hi ⟨rfl, rfl, rfl, by simp [World.setRow]⟩ (fun b' _ hb' => setRow_other w g b' _ ?_) (.inl ⟨rfl, rfl⟩) (by have q3' : r.hi ≤ w.heap.size := q3; show r.hi ≤ _; simpa [World.setRow] using q3') ?_)
  · have : b' < r.lo ∨ r.hi ≤ b' := hb'
    omega
  · have hnl : (l.take (k + 1) ++ l.drop k).length = l.length + 1 := by simp; omega
    refine ⟨by rw [hnl], hcap, hcm, .inr ⟨g, f, _, h3, h4, h5, setRow_heap w g _ _ e _ h6, ?_, ?_⟩⟩
    · simp only [List.size_toArray, List.length_append, List.length_take, List.length_drop, hkl]
      show f + r.cap * Enc.sz α ≤ _
      omega
    · show List.take ((l.length + 1) * Enc.sz α) (List.drop f _) = _
      simp only [List.append_assoc, Nat.add_zero]
      have htl : (List.take (f + (k + 1) * Enc.sz α) cur.toList).length = f + (k + 1) * Enc.sz α := by rw [List.length_take]; omega
      rw [List.drop_append_of_le_length (by omega), List.drop_take, Nat.add_sub_cancel_left, encs_append, ← encs_take, ← h8, List.take_take, Nat.min_eq_left (Nat.mul_le_mul_right _ (by omega)), e1]
      have hl1 : (List.take ((k + 1) * Enc.sz α) (List.drop f cur.toList)).length = (k + 1) * Enc.sz α := by rw [List.length_take, List.length_drop]; omega
      have key : ∀ (A B C : List Value) (p q : Nat), A.length = p → B.length = q → (A ++ (B ++ C)).take (p + q) = A ++ B := fun A B C p q x1 x2 => by
        rw [← x1, ← x2, ← List.length_append, ← List.append_assoc, List.take_left]
      exact key _ _ _ _ _ hl1 hkl
/-- A row's beginning, and places behind it, in a new row. -/
theorem tri_extA [Dl] {i j k g f : Nat} [hS : SlTy P t e sz z] [hU : Und P t2 (.int .i64)] [ElT P e α] (hd : o.dst = some d) (hn : Nat.blt d n = true) (hw : Wan ops n o E true) (ho : o.op = .call { callee := .builtin .append, args := #[x, y], argTypes := #[t, t2] })
    (hx : ev E x = some (.slice (some ⟨g, f, none⟩) j r.cap)) (hA : r.A = some ⟨g, f, none⟩) (hy : ev E y = some (.int .i64 (k : Int))) (hi : At cs i (slC r e l)) (hs : Enc.sz α = sz) (ha : Enc.enc (default : α) = z.cells.toList) (h0 : 0 < k) (hc0 : 0 < r.cap) (hj : j ≤ l.length) (hjk : r.cap < j + k) (hk : j + k ≤ 1000000)
    (kk : ∀ r', Tri n (wpList P ops.toArray Q rest) ((d, r'.v) :: E) (HpM M w0 (slC r' e (l.take j ++ List.replicate k (default : α)) :: cs))) : Tri n (wpList P ops.toArray Q (o :: rest)) E (HpM M w0 cs) := by
  subst hs
  intro a w h1 hh
  refine wpList_want (hw a h1) ?_
  unfold Oper.wp
  obtain ⟨_, _, _, g4⟩ := hh.at_ i _ hi
  have hlen := Own.len g4
  have hlec := g4.lec
  have hp := Enc.pos (α := α)
  obtain ⟨ii, hii, hz, hsz, hby, hzs⟩ := hS.get
  have hcut := g4.rd.cut (a := 0) (b := j) (Nat.zero_le _) hj
  rw [List.drop_zero] at hcut
  have hcv : Go.Proofs.YtbgjelhefhcnpaaGreat.cut r.v 0 j (Enc.sz α) = .slice (some ⟨g, f, none⟩) j r.cap := by
    have hc0 : ¬ r.cap = 0 := by omega
    rw [Row.v, hA]
    simp only [Go.Proofs.YtbgjelhefhcnpaaGreat.cut, Option.map_some, add_lit, Nat.zero_mul, Nat.add_zero, Nat.sub_zero, if_neg hc0]
  rw [hcv] at hcut
  have hfirst : (Builtin.firstCells (Enc.sz α) j (.slice (some ⟨g, f, none⟩) j r.cap)).run P w.drew = .ok (encs (l.take j)).toArray w.drew := by
    have := run_first (P := P) (hcut.keep (w' := w.drew) (fun _ _ => rfl))
    rwa [List.length_take, Nat.min_eq_left hj] at this
  have hfit : Builtin.nextslicecap (j + k) r.cap * ii.bytes ≤ 281474976710656 := growslice_fits (by omega) (by
    have : (j + k) * ii.bytes ≤ 1000000 * 4096 := Nat.mul_le_mul (by omega) hby
    omega)
  have hge := grownCap_ge w (j + k) r.cap e
  have hcm' : grownCap w (j + k) r.cap e ≤ maxLen := grownCap_le_maxLen w (j + k) r.cap e (by simp only [maxLen]; omega)
  have hz0 : ¬ Enc.sz α = 0 := by omega
  have hmc : (Builtin.zeroCells z.cells k).toList = encs (List.replicate k (default : α)) := by
    have := made_cells (default : α) z.cells.toList ha k
    rw [← this]
    have e1 : z.cells.toList.toArray = z.cells := by simp
    rw [e1, ← hzs]
    rfl
  have hrl : (encs (List.replicate k (default : α))).length = k * Enc.sz α := by rw [length_encs, List.length_replicate]
  have htl : (encs (l.take j)).length = j * Enc.sz α := by rw [length_encs, List.length_take, Nat.min_eq_left hj]
  obtain ⟨r', hr'⟩ : ∃ r' : Row, r' = ⟨some ⟨w.heap.size, 0, none⟩, j + k, grownCap w (j + k) r.cap e, w.heap.size, w.heap.size + 1⟩ := ⟨_, rfl⟩
  obtain ⟨w', hw'⟩ : ∃ w', w' = w.drew.alloc (.cells ((encs (l.take j)).toArray ++ Builtin.zeroCells z.cells k ++ Builtin.zeroCells z.cells (grownCap w (j + k) r.cap e - (j + k))) e) := ⟨_, rfl⟩
  have hr : (Builtin.append_ #[t, t2] o.type #[.slice (some ⟨g, f, none⟩) j r.cap, .int .i64 (k : Int)]).run P w = .ok r'.v w' := by
    subst hr' hw'
    have hw1 : IntKind.i64.wrap (k : Int) = (k : Int) := wrap_i64 (by omega)
    have hb1 : ¬ (281474976710656 < (k : Int) * (ii.bytes : Int)) := by
      have : k * ii.bytes ≤ 1000000 * 4096 := Nat.mul_le_mul (by omega) hby
      have h2 : ((k * ii.bytes : Nat) : Int) ≤ 1000000 * 4096 := by omega
      rw [Int.natCast_mul] at h2
      omega
    have hne : ¬ k = 0 := by omega
    have h63 : ¬ (9223372036854775807 < (j : Int) + (k : Int)) := by omega
    have hnot : ¬ j + k ≤ r.cap := by omega
    have hnot' : ¬ (281474976710656 < Builtin.nextslicecap (j + k) r.cap * ii.bytes) := by omega
    have hneg : ¬ ((k : Int) < 0) := by omega
    have hks : ¬ (k = 0 ∨ Enc.sz α = 0) := by omega
    simp [Builtin.append_, run_underlying hS.und, run_underlying hU.eq, sizeOf, typeInfo, zeroValue, hii, hz, hsz, asInt, asIntOf, hw1, hb1, hneg, hne, hz0, h63, hnot, hnot', Question.forced, hfirst, newRow, grownCap, Row.v]
    intro h
    rcases Nat.mul_eq_zero.1 h with h | h <;> omega
  have hown : Own w' r' e (l.take j ++ List.replicate k (default : α)) := by
    subst hr' hw'
    refine ⟨by simp [Nat.min_eq_left hj], hge, hcm', .inr ⟨w.heap.size, 0, _, rfl, Nat.le_refl _, Nat.lt_succ_self _, heap_alloc_new w.drew _, ?_, ?_⟩⟩
    · simp only [Array.size_append, List.size_toArray, size_zeroCells, hzs, Nat.zero_add, htl]
      rw [← Nat.add_mul, ← Nat.add_mul]
      exact Nat.mul_le_mul_right _ (by show grownCap w (j + k) r.cap e ≤ _; omega)
    · simp only [Array.toList_append, List.drop_zero, hmc, encs_append]
      rw [show (j + k) * Enc.sz α = (encs (l.take j) ++ encs (List.replicate k (default : α))).length by rw [List.length_append, htl, hrl, Nat.add_mul]]
      exact List.take_left
  have hex : (execOp a.eval o).run P w = .ok (.value r'.v) w' := by
    simp only [execOp, ho, resolve, invoke, builtin, Sem.run_bind, Sem.run_pure, Result.andThen_ok, List.map_toArray, List.map_cons, List.map_nil, h1.ev hx, h1.ev hy, hr]
  rw [hex, Oper.upon_value, hd]
  refine kk r' _ _ (h1.put hn _) (hh.push ?_ ?_ ?_ ?_ hown)
  · subst hw'
    exact ⟨rfl, rfl, rfl, by simp, fun b hb' => by show (w.heap.push _)[b]? = _; rw [Array.getElem?_push, if_neg (Nat.ne_of_lt hb')]⟩
  · subst hr'; exact Nat.le_refl _
  · subst hr'; exact Nat.le_succ _
  · subst hr' hw'; show w.heap.size + 1 ≤ _; simp
end
/-- A call of a function of the model's own. -/
theorem yl_extern [Dl] {P : Program} {n f : Nat} {o : Oper} {E : Env} {H : World → Prop} {fx : Operand} {xs : Array Operand} {ts : Array Nat} {vs : List Value} {v : Value} (ho : o.op = .call { callee := .value fx, args := xs, argTypes := ts })
    (hf : ev E fx = some (.func (.func f) #[] #[])) (hv : evs E xs.toList = some vs) (hr : ∀ w, H w → (callFunc f vs.toArray).run P w = .ok (.value v) w) : Yl P n o E H v := fun a w h1 h2 => by
  have e : xs.map a.eval = vs.toArray := by apply Array.toList_inj.1; simpa using h1.evs hv
  simp only [execOp, ho, resolve, h1.ev hf, e, Deferred.ofValue]
  simp [invoke, hr w h2]
/-- The two slices of an insertion do not overlap. -/
theorem run_ov {P : Program} {M : List Nat} {t tR e sz : Nat} {z : Value} {α : Type} [Enc α] (hS : SlTy P t e sz z) {w0 w : World} {cs : List Chunk} (hH : HpM M w0 cs w) {i1 i2 : Nat} {r r1 : Row} {l l1 : List α} (h1 : At cs i1 (slC r1 e l1)) (h2 : At cs i2 (slC r e l)) (hne : i1 ≠ i2) {g f o k c : Nat} (hl : 0 < l.length) (hl1 : 0 < l1.length)
    (hA : r.A = some ⟨g, f, none⟩) : (Extern.SlicesOverlaps.overlaps #[t, t] #[tR] #[r1.v, .slice (some ⟨g, o, none⟩) k c]).run P w = .ok (.bool false) w := by
  have o1 := hH.own (has_at h1)
  have o2 := hH.own (has_at h2)
  have hlen := Own.len o2
  have hlen1 := Own.len o1
  have hlec := o2.lec
  have hp := Enc.pos (α := α)
  rcases o1.row with ⟨_, h4, _⟩ | ⟨g1, f1, cur1, a3, a4, a5, a6, a7, _⟩
  · omega
  rcases o2.row with ⟨b3, _⟩ | ⟨g', f', cur, b3, b4, b5, b6, b7, _⟩
  · rw [b3] at hA; cases hA
  rw [b3] at hA
  cases hA
  have hap := hH.apart i1 i2 _ _ hne h1 h2
  have hgne : g1 ≠ g := by
    intro e; subst e
    rcases hap with x | x
    · have x : r1.hi ≤ r.lo := x; omega
    · have x : r.hi ≤ r1.lo := x; omega
  have hcs : cur.size ≠ 0 := by
    have : 1 * 1 ≤ r.cap * Enc.sz α := Nat.mul_le_mul (by omega) hp
    omega
  rw [Row.v, a3]
  exact Lib.run_overlaps_apart w t tR e hS.und sz hS.size ⟨g1, f1, none⟩ ⟨g, o, none⟩ _ _ _ _ hgne e e cur1.size cur.size (by simp [World.shape?, a6]) (by simp [World.shape?, b6]) hcs (by simp [World.frozen?, a6]) (by simp [World.frozen?, a6])
end Go.Proofs.YtbgjelhefhcnpaaGreat

/- The walks of slices.Insert and of a page table's deposit. No conditions. -/
set_option linter.unusedSimpArgs false
set_option linter.unusedVariables false
namespace Go.Proofs.YtbgjelhefhcnpaaGreat
open Go Go.RowKit
/-- What a row of the call's own has. -/
theorem own_known {α : Type} [Enc α] {w0 : World} {cs : List Chunk} {r : Row} {e : Nat} {l : List α} (hi : Has cs (slC r e l)) : ∀ w, Hp w0 cs w → r.len = l.length ∧ r.len ≤ r.cap ∧ r.cap ≤ 9223372036854775807 ∧ (0 < l.length → ∃ g f, r.A = some ⟨g, f, none⟩) := fun w hw => by
  have ho := hw.own hi
  have hcap := ho.cap
  simp only [maxLen] at hcap
  refine ⟨ho.len, ho.lec, hcap, fun hl => ?_⟩
  rcases ho.row with ⟨_, h4, _⟩ | ⟨g, f, cur, h3, _⟩
  · have := ho.len; omega
  · exact ⟨g, f, h3⟩
theorem ins_grow {α : Type} (l : List α) (x d : α) {i : Nat} (hi : i < l.length) {L : List α} (hL : L = l.take i ++ List.replicate (l.length + 1 - i) d) {L2 : List α} (h2 : L2 = L.take i ++ ([x].take 1 ++ L.drop (i + 1))) :
    L2.take (i + 1) ++ (((l.take l.length).drop i).take (l.length - i) ++ L2.drop (i + 1 + (l.length - i))) = l.take i ++ x :: l.drop i := by
  have hll : L.length = l.length + 1 := by rw [hL]; simp; omega
  have ht : L.take i = l.take i := by rw [hL, List.take_append_of_le_length (by simp; omega), List.take_take, Nat.min_self]
  have hl2 : L2.length = l.length + 1 := by rw [h2]; simp; omega
  rw [show L2.drop (i + 1 + (l.length - i)) = [] from List.drop_eq_nil_of_le (by omega), List.append_nil, List.take_length, List.take_of_length_le (l := l.drop i) (by simp)]
  have : L2.take (i + 1) = l.take i ++ [x] := by
    rw [h2, ht, ← List.append_assoc, List.take_append_of_le_length (by simp; omega), List.take_of_length_le (by simp; omega)]
    rfl
  rw [this, List.append_assoc]
  rfl
theorem ins_shift {α : Type} (l : List α) (x : α) {i : Nat} (hi : i < l.length) : (l.take (i + 1) ++ l.drop i).take i ++ ([x].take 1 ++ (l.take (i + 1) ++ l.drop i).drop (i + 1)) = l.take i ++ x :: l.drop i := by
  have h1 : (l.take (i + 1) ++ l.drop i).take i = l.take i := by rw [List.take_append_of_le_length (by simp; omega), List.take_take, Nat.min_eq_left (by omega)]
  have h2 : (l.take (i + 1) ++ l.drop i).drop (i + 1) = l.drop i := by
    have : (l.take (i + 1)).length = i + 1 := by simp; omega
    conv => lhs; rw [← this]
    simp
  rw [h1, h2]
  rfl
theorem ov_run {w0 : World} {cs : List Chunk} {r r1 : Row} {l l1 : List DP} {i1 i2 g f o k c : Nat} (h1 : At cs i1 (dpS r1 l1)) (h2 : At cs i2 (dpS r l)) (hne : i1 ≠ i2) (hl : 0 < l.length) (hl1 : 0 < l1.length) (hA : r.A = some ⟨g, f, none⟩) :
    ∀ w, Hp w0 cs w → (callFunc 97 ([r1.v, .slice (some ⟨g, o, none⟩) k c] : List Value).toArray).run Tryz.prog w = .ok (.value (.bool false)) w := fun w hw => by
  rw [run_callFunc_extern Tryz.func97 (by kernel_rfl) (by kernel_rfl) (by kernel_rfl) (e := Extern.SlicesOverlaps.overlaps #[37, 37] #[4]) (by kernel_rfl)]
  rw [run_ov (t := 37) (tR := 4) inferInstance hw h1 h2 hne hl hl1 hA]
  rfl
attribute [local irreducible] Code.wp wpList bodyPost Exit.then Exit.inBlock Calls wpQuiet Tri TriQ
section
variable (w0 : World) (cs : List Chunk)
set_option maxHeartbeats 2000000 in
theorem insertD_c {r r1 : Row} {l : List DP} {x : DP} {i : Nat} (hi : i ≤ l.length) (hl : l.length ≤ 1000) :
    Cal Tryz.prog 86 [r.v, .int .i64 (i : Int), r1.v] (Hp w0 (dpS r l :: dpS r1 [x] :: cs)) (fun r' : Row => r'.v) (fun r' => Hp w0 (dpS r' (l.take i ++ x :: l.drop i) :: cs)) := by
  have hR : RdH (Hp w0 (dpS r l :: dpS r1 [x] :: cs)) r.v l := rd_chunk ⟨0, rfl⟩
  have hR1 : RdH (Hp w0 (dpS r l :: dpS r1 [x] :: cs)) r1.v [x] := rd_chunk ⟨1, rfl⟩
  refine cal_of_tri Tryz.func86 rfl Tryz.ntmps86 rfl ?_
  (repeat (first | refine tri_seq ?_ | refine tri_then ?_)); refine tri_region ?_; (repeat (first | refine au_pure ?_ | refine au_pass ?_ | refine au_box (fun _ => ?_) | refine au_alloc (fun _ => ?_) | refine au_store ?_ | refine au_make rfl rfl (fun _ => ?_) | refine au_lit rfl rfl rfl (fun _ => ?_) | refine au_append rfl rfl rfl rfl (fun _ => au_norm ?_) | refine au_storeE rfl rfl rfl rfl ?_)); refine tri_nil ?_; (repeat refine tri_then ?_)
  refine tri_fact (own_known (has_at at0)) ?_
  rintro ⟨f1, f2, f3, f4⟩
  (repeat (first | refine zz ?_ | refine zv fun _ => ?_))
  refine au_pure ?_ (hy := yl_cut (a := i) (b := l.length) rfl rfl hR (ixo_some (ix_nat rfl)) ixo_none hi (Nat.le_refl _))
  (repeat (first | refine zz ?_ | refine zv fun _ => ?_))
  refine au_pure ?_ (hy := yl_len rfl rfl hR1)
  rw [show (([x] : List DP).length : Int) = 1 from rfl]
  (repeat (first | refine zz ?_ | refine zv fun _ => ?_))
  refine au_pure ?_ (hy := yl_len rfl rfl hR)
  (repeat (first | refine zz ?_ | refine zv fun _ => ?_))
  by_cases hin : i = l.length
  · subst hin
    rw [show ((l.length : Int) == (l.length : Int)) = true by simp]
    (repeat (first | refine zz ?_ | refine zv fun _ => ?_))
    refine au_append (i := 0) (l := l) (l2 := [x]) rfl rfl rfl rfl (fun r2 => ?_) (hi := rfl) (h2 := hR1) (hb := by simp only [List.length_cons, List.length_nil]; omega)
    refine tri_weak (H' := Hp w0 (dpS r2 (l ++ [x]) :: dpS r1 [x] :: cs)) (fun w h => h) ?_
    (repeat (first | refine zz ?_ | refine zv fun _ => ?_))
    refine au_done1 rfl ?_
    refine fun w hw => ⟨r2, rfl, ?_⟩
    rw [List.take_length, List.drop_length]
    exact hw.sub (List.Sublist.cons_cons _ (List.Sublist.cons _ (List.Sublist.refl _)))
  have hil : i < l.length := by omega
  obtain ⟨g, f, hA⟩ := f4 (by omega)
  rw [show ((i : Int) == (l.length : Int)) = false by simp; omega]
  (repeat (first | refine zz ?_ | refine zv fun _ => ?_))
  refine au_pure ?_ (hy := yl_cap (A := r.A) (k := r.len) (c := r.cap) rfl rfl)
  (repeat (first | refine zz ?_ | refine zv fun _ => ?_))
  obtain ⟨A, ln, cp, lo, hi2⟩ := r
  simp only at f1 f2 f3 hA
  subst f1 hA
  have hRc : ∀ cs', RdH (Hp w0 (dpS ⟨some ⟨g, f, none⟩, l.length, cp, lo, hi2⟩ l :: cs')) (.slice (some ⟨g, f, none⟩) l.length cp) l := fun cs' => rd_chunk (r := ⟨some ⟨g, f, none⟩, l.length, cp, lo, hi2⟩) ⟨0, rfl⟩
  by_cases hcp : cp < l.length + 1
  · rw [show decide ((l.length : Int) + 1 > (cp : Int)) = true from decide_eq_true (by omega)]
    (repeat (first | refine zz ?_ | refine zv fun _ => ?_))
    refine au_pure ?_ (hy := yl_cuthA (g := g) (f := f) (b := i) (m := l.length) (c := cp) rfl rfl (ix_nat rfl) (by omega) (by omega))
    (repeat (first | refine zz ?_ | refine zv fun _ => ?_))
    rw [show (l.length : Int) + 1 - (i : Int) = ((l.length + 1 - i : Nat) : Int) by omega]
    refine tri_extA (i := 0) (j := i) (k := l.length + 1 - i) (g := g) (f := f) (r := ⟨some ⟨g, f, none⟩, l.length, cp, lo, hi2⟩) (l := l) rfl rfl (by first | exact wan_plain rfl | exact wan_yes rfl rfl rfl) rfl rfl rfl rfl rfl rfl rfl (by omega) (by show 0 < cp; omega) hi (by show cp < _; omega) (by omega) (fun r2 => ?_)
    obtain ⟨L, hL⟩ : ∃ L, L = l.take i ++ List.replicate (l.length + 1 - i) (default : DP) := ⟨_, rfl⟩
    have hLl : L.length = l.length + 1 := by rw [hL]; simp; omega
    refine tri_weak (H' := Hp w0 (dpS r2 L :: dpS ⟨some ⟨g, f, none⟩, l.length, cp, lo, hi2⟩ l :: dpS r1 [x] :: cs)) (fun w h => by rw [hL]; exact h) ?_
    (repeat (first | refine zz ?_ | refine zv fun _ => ?_))
    refine au_pure ?_ (hy := yl_cut (a := i) (b := L.length) rfl rfl (rd_chunk (r := r2) (l := L) ⟨0, rfl⟩) (ixo_some (ix_nat rfl)) ixo_none (by omega) (Nat.le_refl _))
    (repeat (first | refine zz ?_ | refine zv fun _ => ?_))
    obtain ⟨L2, hL2⟩ : ∃ L2, L2 = L.take i ++ ([x].take 1 ++ L.drop (i + 1)) := ⟨_, rfl⟩
    have hL2l : L2.length = l.length + 1 := by rw [hL2]; simp; omega
    refine tri_copy (i := 0) (a := i) (k := 1) (r := r2) (l := L) (l2 := [x]) rfl rfl (by first | exact wan_plain rfl | exact wan_yes rfl rfl rfl) rfl rfl shows_cut rfl (rd_chunk (r := r1) (l := [x]) ⟨2, rfl⟩) rfl rfl (by omega) (by simp; omega) (by repeat (first | exact nf0 rfl | apply nfS rfl | exact nfR)) ?_
    rw [← hL2]
    (repeat (first | refine zz ?_ | refine zv fun _ => ?_))
    (repeat (first | refine tri_seq ?_ | refine tri_then ?_))
    refine ar_held [8] (dpS r2 L2 :: dpS ⟨some ⟨g, f, none⟩, l.length, cp, lo, hi2⟩ l :: dpS r1 [x] :: cs) rfl ?_
    refine ar_take 0 rfl rfl rfl ?_; refine ar_take 1 rfl rfl rfl ?_; refine ar_take 2 rfl rfl rfl ?_; refine ar_take 3 rfl rfl rfl ?_
    refine ar_take 4 rfl rfl rfl ?_ (hy := yl_cut (a := i + 1) (b := L2.length) rfl rfl (rd_chunk (r := r2) (l := L2) ⟨0, rfl⟩) (ixo_some (ix_eq rfl (by omega))) ixo_none (by omega) (Nat.le_refl _))
    refine ar_take 5 rfl rfl rfl ?_; refine ar_take 6 rfl rfl rfl ?_
    refine ar_take 7 rfl rfl rfl ?_ (hy := yl_cut (a := i) (b := l.length) (l := l) rfl rfl ((hRc _).cons) (ixo_some (ix_nat rfl)) ixo_none (by omega) (Nat.le_refl _))
    refine ar_op 8 rfl ?_
    refine tri_copy (i := 0) (a := i + 1) (k := l.length - i) (r := r2) (l := L2) (l2 := (l.take l.length).drop i) rfl rfl (by first | exact wan_plain rfl | exact wan_yes rfl rfl rfl) rfl rfl shows_cut rfl ((hRc _).cons.cut rfl hi (Nat.le_refl _)) rfl rfl (by omega) (by rw [hL2l]; simp <;> omega) (by repeat (first | exact nf0 rfl | apply nfS rfl | exact nfR)) ?_
    rw [ins_grow l x default hil hL hL2]
    refine tri_nil ?_; refine ar_ink ?_
    refine ar_done ?_
    (repeat (first | refine zz ?_ | refine zv fun _ => ?_))
    refine au_done1 rfl ?_
    exact fun w hw => ⟨r2, rfl, hw.sub (List.Sublist.cons_cons _ (List.Sublist.cons _ (List.Sublist.cons _ (List.Sublist.refl _))))⟩
  · rw [show decide ((l.length : Int) + 1 > (cp : Int)) = false from decide_eq_false (by omega)]
    (repeat (first | refine zz ?_ | refine zv fun _ => ?_))
    refine au_pure ?_ (hy := yl_cuthA (g := g) (f := f) (b := l.length + 1) (m := l.length) (c := cp) rfl rfl (ix_eq rfl (by omega)) (by omega) (by omega))
    (repeat (first | refine zz ?_ | refine zv fun _ => ?_))
    refine au_pure ?_ (hy := yl_cutlA (g := g) (f := f) (a := i + 1) (m := l.length + 1) (c := cp) rfl rfl (ix_eq rfl (by omega)) (by omega) (by omega) (by omega))
    refine au_pure ?_ (hy := yl_extern (vs := [r1.v, .slice (some ⟨g, f + (i + 1) * 2, none⟩) (l.length + 1 - (i + 1)) (cp - (i + 1))]) rfl rfl rfl (ov_run (i1 := 1) (i2 := 0) (r := ⟨some ⟨g, f, none⟩, l.length, cp, lo, hi2⟩) (l := l) (l1 := [x]) rfl rfl (by decide) (by omega) (by simp) rfl))
    (repeat (first | refine zz ?_ | refine zv fun _ => ?_))
    (repeat (first | refine tri_seq ?_ | refine tri_then ?_))
    refine ar_held [8] (dpS ⟨some ⟨g, f, none⟩, l.length, cp, lo, hi2⟩ l :: dpS r1 [x] :: cs) rfl ?_
    refine ar_take 0 rfl rfl rfl ?_; refine ar_take 1 rfl rfl rfl ?_; refine ar_take 2 rfl rfl rfl ?_; refine ar_take 3 rfl rfl rfl ?_
    refine ar_take 4 rfl rfl rfl ?_ (hy := yl_cutlA (g := g) (f := f) (a := i + 1) (m := l.length + 1) (c := cp) rfl rfl (ix_eq rfl (by omega)) (by omega) (by omega) (by omega))
    refine ar_take 5 rfl rfl rfl ?_; refine ar_take 6 rfl rfl rfl ?_
    refine ar_take 7 rfl rfl rfl ?_ (hy := yl_cutlA (g := g) (f := f) (a := i) (m := l.length + 1) (c := cp) rfl rfl (ix_eq rfl (by omega)) (by omega) (by omega) (by omega))
    rw [show l.length + 1 - (i + 1) = l.length - i by omega]
    refine ar_op 8 rfl ?_
    refine tri_shift (i := 0) (k := i) (g := g) (f := f) (r := ⟨some ⟨g, f, none⟩, l.length, cp, lo, hi2⟩) (l := l) rfl rfl (by first | exact wan_plain rfl | exact wan_yes rfl rfl rfl) rfl rfl rfl rfl rfl rfl hil (by show _ ≤ cp; omega) ?_
    obtain ⟨L, hL⟩ : ∃ L, L = l.take (i + 1) ++ l.drop i := ⟨_, rfl⟩
    have hLl : L.length = l.length + 1 := by rw [hL]; simp; omega
    refine tri_weak (H' := Hp w0 (dpS ⟨some ⟨g, f, none⟩, l.length + 1, cp, lo, hi2⟩ L :: dpS r1 [x] :: cs)) (fun w h => by rw [hL]; exact h) ?_
    refine tri_nil ?_; refine ar_ink ?_
    refine ar_done ?_
    (repeat (first | refine zz ?_ | refine zv fun _ => ?_))
    refine au_pure ?_ (hy := yl_cut (a := i) (b := L.length) rfl rfl (rd_chunk (r := ⟨some ⟨g, f, none⟩, l.length + 1, cp, lo, hi2⟩) (l := L) ⟨0, rfl⟩) (ixo_some (ix_nat rfl)) ixo_none (by omega) (Nat.le_refl _))
    (repeat (first | refine zz ?_ | refine zv fun _ => ?_))
    refine tri_copy (i := 0) (a := i) (k := 1) (r := ⟨some ⟨g, f, none⟩, l.length + 1, cp, lo, hi2⟩) (l := L) (l2 := [x]) rfl rfl (by first | exact wan_plain rfl | exact wan_yes rfl rfl rfl) rfl rfl shows_cut rfl (rd_chunk (r := r1) (l := [x]) ⟨1, rfl⟩) rfl rfl (by omega) (by simp; omega) (by repeat (first | exact nf0 rfl | apply nfS rfl | exact nfR)) ?_
    rw [show L.take i ++ ([x].take 1 ++ L.drop (i + 1)) = l.take i ++ x :: l.drop i by rw [hL]; exact ins_shift l x hil]
    (repeat (first | refine zz ?_ | refine zv fun _ => ?_))
    refine au_done1 rfl ?_
    exact fun w hw => ⟨⟨some ⟨g, f, none⟩, l.length + 1, cp, lo, hi2⟩, rfl, hw.sub (List.Sublist.cons_cons _ (List.Sublist.cons _ (List.Sublist.refl _)))⟩
set_option maxHeartbeats 2000000 in
theorem deposit_c {root : Int} {ds : List DP} (ho : ds.Pairwise fun a b => a.g < b.g) (hl : ds.length ≤ 900) {vn : Value} {rd : Row} {gt : Nat} {g f : Int} :
    Cal Tryz.prog 54 [pR gt, .int .i64 g, .int .i64 f] (Hp w0 (ptC gt root vn rd.v :: dpS rd ds :: cs)) (fun _ : Row × {k // Fnd ds.length (geG ds g) k} => .tuple #[]) (fun y => Hp w0 (ptC gt root vn y.1.v :: dpS y.1 (ds.take y.2.1 ++ ⟨g, f⟩ :: ds.drop y.2.1) :: cs)) := by
  have hmono := geG_mono ho g
  refine cal_of_tri Tryz.func54 rfl Tryz.ntmps54 rfl ?_
  (repeat (first | refine tri_seq ?_ | refine tri_then ?_)); refine tri_region ?_; (repeat (first | refine au_pure ?_ | refine au_pass ?_ | refine au_box (fun _ => ?_) | refine au_alloc (fun _ => ?_) | refine au_store ?_ | refine au_make rfl rfl (fun _ => ?_) | refine au_lit rfl rfl rfl (fun _ => ?_) | refine au_append rfl rfl rfl rfl (fun _ => au_norm ?_) | refine au_storeE rfl rfl rfl rfl ?_)); refine tri_nil ?_; (repeat refine tri_then ?_)
  rename_i g2 g3
  refine tri_weak (H' := Hp w0 (sgC g3 g2 gt g root vn rd ds cs)) (fun w h => HpM.perm h (List.Perm.cons _ (List.Perm.cons _ (List.Perm.swap _ _ _)))) ?_
  have hD : RdH (Hp w0 (sgC g3 g2 gt g root vn rd ds cs)) rd.v ds := rd_chunk ⟨2, rfl⟩
  (repeat (first | refine zz ?_ | refine zv fun _ => ?_))
  refine au_pure ?_ (hy := yl_len rfl rfl hD)
  (repeat (first | refine zz ?_ | refine zv fun _ => ?_))
  refine au_pure ?_ (hy := yl_func rfl rfl)
  (repeat (first | refine zz ?_ | refine zv fun _ => ?_))
  refine au_callC rfl rfl rfl rfl rfl (search_c w0 _ (n := ds.length) (by omega) (capd := [pR g2, pR g3]) (p := geG ds g) hmono (dtest_c w0 cs (by omega))) ?_
  intro kk
  have hkl := kk.2.le
  (repeat (first | refine zz ?_ | refine zv fun _ => ?_))
  (repeat (first | refine tri_seq ?_ | refine tri_then ?_))
  refine ar_held [13] (blkC g3 3 [.int .i64 g] :: blkC g2 99 [pR gt] :: ptC gt root vn rd.v :: cs) rfl ?_
  refine ar_take 0 rfl rfl rfl ?_; refine ar_take 1 rfl rfl rfl ?_; refine ar_take 2 rfl rfl rfl ?_; refine ar_take 3 rfl rfl rfl ?_; refine ar_take 4 rfl rfl rfl ?_; refine ar_take 5 rfl rfl rfl ?_; refine ar_take 6 rfl rfl rfl ?_; refine ar_take 7 rfl rfl rfl ?_; refine ar_take 8 rfl rfl rfl ?_
  refine ar_op 9 rfl ?_
  refine au_lit (l := [(⟨g, f⟩ : DP)]) rfl rfl rfl (fun r1 => ?_)
  refine tri_nil ?_; refine ar_in ?_
  refine ar_op 10 rfl ?_
  refine tri_weak (H' := Hp w0 (dpS rd ds :: dpS r1 [(⟨g, f⟩ : DP)] :: blkC g3 3 [.int .i64 g] :: blkC g2 99 [pR gt] :: ptC gt root vn rd.v :: cs)) (fun w h => HpM.perm h (((List.Perm.cons _ ((List.Perm.cons _ (List.Perm.swap _ _ _)).trans (List.Perm.swap _ _ _)))).trans (List.Perm.swap _ _ _))) ?_
  refine au_callC rfl rfl rfl rfl rfl (insertD_c w0 _ (r := rd) (r1 := r1) (l := ds) (x := (⟨g, f⟩ : DP)) (i := kk.1) hkl (by omega)) ?_
  intro r2
  refine tri_nil ?_; refine ar_in ?_
  refine ar_take 11 rfl rfl rfl ?_; refine ar_take 12 rfl rfl rfl ?_
  refine ar_op 13 rfl ?_
  refine au_store ?_
  refine tri_nil ?_; refine ar_ink ?_
  refine ar_done ?_
  refine tri_weak (H' := Hp w0 (dpS r2 (ds.take kk.1 ++ ⟨g, f⟩ :: ds.drop kk.1) :: blkC g3 3 [.int .i64 g] :: blkC g2 99 [pR gt] :: ptC gt root vn r2.v :: cs)) (fun w h => h) ?_
  (repeat (first | refine zz ?_ | refine zv fun _ => ?_))
  refine tri_done0 (by first | exact .inl rfl | exact .inr rfl) rfl ?_
  exact fun w hw => ⟨⟨r2, kk⟩, rfl, (hw.sub (List.Sublist.cons_cons _ (List.Sublist.cons _ (List.Sublist.cons _ (List.Sublist.refl _))))).perm (List.Perm.swap _ _ _)⟩
end
end Go.Proofs.YtbgjelhefhcnpaaGreat

/- Page tables in plain Lean: a table of pages that becomes a huge page. No conditions. -/
set_option linter.unusedSimpArgs false
set_option linter.unusedVariables false
namespace Go.Proofs.YtbgjelhefhcnpaaGreat
open Go Go.RowKit
/-- The words of a group. -/
def grpW (T : Tr) (g : Nat) : List W64 := (List.range 8).map fun i => ⟨(pgT T (8 * g + i)).2⟩
/-- What Assemble finds: the huge page's word, or the error. -/
def asmE (T : Tr) (g : Nat) : Int × Int := if (pgT T (8 * g)).1 = 0 then joinM (grpW T g) else (0, 6)
theorem grp_len (T : Tr) (g : Nat) : (grpW T g).length = 8 := by unfold grpW; rw [List.length_map, List.length_range]
theorem grp_at (T : Tr) (g : Nat) {i : Nat} (hi : i < 8) : (grpW T g).getD i default = ⟨(pgT T (8 * g + i)).2⟩ := by
  rw [getD_get (by rw [grp_len]; exact hi)]
  unfold grpW
  rw [List.getElem_map, List.getElem_range]
theorem dg0 (g : Nat) {i : Nat} (hi : i < 8) : dgF (8 * g + i) 0 = ⟨i, hi⟩ := by
  simp only [dgF, Fin.mk.injEq, digM]
  omega
theorem grp_leaf {T : Tr} {g : Nat} (hg : g < 64) {m : Mid} {f : Int} {e : Fin 8 → Int} (hT : T (dgF (8 * g) 2) = some m) (hs : m.s (dgF (8 * g) 1) = .leaf f e) : grpW T g = [⟨e 0⟩, ⟨e 1⟩, ⟨e 2⟩, ⟨e 3⟩, ⟨e 4⟩, ⟨e 5⟩, ⟨e 6⟩, ⟨e 7⟩] := by
  have key : ∀ i (hi : i < 8), (pgT T (8 * g + i)).2 = e ⟨i, hi⟩ := fun i hi => by
    obtain ⟨h1, h2⟩ := (dg_eq (p := 8 * g + i) (q := 8 * g) (by omega) (by omega)).2 (by omega)
    unfold pgT lvT
    rw [h1, hT]
    dsimp only
    rw [h2, hs, dg0 g hi]
    rfl
  have h : grpW T g = [⟨(pgT T (8 * g + 0)).2⟩, ⟨(pgT T (8 * g + 1)).2⟩, ⟨(pgT T (8 * g + 2)).2⟩, ⟨(pgT T (8 * g + 3)).2⟩, ⟨(pgT T (8 * g + 4)).2⟩, ⟨(pgT T (8 * g + 5)).2⟩, ⟨(pgT T (8 * g + 6)).2⟩, ⟨(pgT T (8 * g + 7)).2⟩] := rfl
  rw [h, key 0 (by decide), key 1 (by decide), key 2 (by decide), key 3 (by decide), key 4 (by decide), key 5 (by decide), key 6 (by decide), key 7 (by decide)]
  rfl
/-- What a word is that Join makes. -/
structure JoinOk (ws : List W64) (w n : Int) (a b c : Bool) : Prop where
  dw : decR w = (⟨1, n, a, b, c, true⟩, 0)
  rg : 0 ≤ w ∧ w < 18446744073709551616
  pt : ∀ i, i < 8 → (decR (ws.getD i default).v).2 = 0 ∧ (decR (ws.getD i default).v).1.k = 1 ∧ (decR (ws.getD i default).v).1.d = false ∧ (decR (ws.getD i default).v).1.n = n + (i : Int) ∧ (decR (ws.getD i default).v).1.a = a
theorem err_no : ∀ (ws : List W64) (f k : Nat), errF ws f k = 0 → ∀ j, k ≤ j → j < k + f → (decAt ws j).2 = 0
  | ws, 0, k, _, j, h1, h2 => by omega
  | ws, f + 1, k, h, j, h1, h2 => by
    rw [errF] at h
    by_cases e : (decAt ws k).2 = 0
    · rw [if_pos e] at h
      by_cases e2 : j = k
      · rw [e2]; exact e
      · exact err_no ws f (k + 1) h j (by omega) (by omega)
    · rw [if_neg e] at h
      exact absurd h e
theorem join_info {ws : List W64} (hl : ws.length = 8) {w : Int} (h : joinM ws = (w, 0)) : ∃ n a b c, JoinOk ws w n a b c := by
  unfold joinM at h
  by_cases he : errF ws 8 0 = 0
  · rw [if_pos he] at h
    have h2 := err_no ws 8 0 he
    obtain ⟨es, hes⟩ : ∃ es, es = ws.map fun x => (decR x.v).1 := ⟨_, rfl⟩
    have hel : es.length = 8 := by rw [hes, List.length_map, hl]
    have hea : ∀ i, i < 8 → es.getD i default = (decR (ws.getD i default).v).1 := fun i hi => by
      rw [getD_get (by omega), getD_get (by omega)]
      simp only [hes, List.getElem_map]
    rw [← hes] at h
    unfold joinE at h
    split at h
    · simp at h
    rename_i c1
    split at h
    · simp at h
    rename_i c2
    split at h
    · simp at h
    rename_i c3
    have d1 : ∀ i, i < 8 → badE (es.getD i default) = false := fun i hi => by
      have := (List.any_eq_false.1 (Bool.eq_false_iff.2 c1)) (es.getD i default) (by rw [getD_get (by omega)]; exact List.getElem_mem _)
      simpa using this
    have d2 : ∀ i, i < 8 → (es.getD i default).n = (es.getD 0 default).n + (i : Int) := fun i hi => by
      have := (List.any_eq_false.1 (Bool.eq_false_iff.2 c2)) i (List.mem_range.2 hi)
      simpa using this
    have d3 : ∀ i, i < 8 → (es.getD i default).a = (es.getD 0 default).a := fun i hi => by
      have := (List.any_eq_false.1 (Bool.eq_false_iff.2 c3)) (es.getD i default) (by rw [getD_get (by omega)]; exact List.getElem_mem _)
      simpa using this
    have hk : ∀ i, i < 8 → (es.getD i default).k = 1 ∧ (es.getD i default).d = false := fun i hi => by
      have := d1 i hi
      unfold badE at this
      simpa using this
    have h0k := (hk 0 (by omega)).1
    rw [h0k] at h
    obtain ⟨i1, i2, i3⟩ := inv_enc h
    refine ⟨_, _, _, _, i1, ⟨i2, i3⟩, fun i hi => ?_⟩
    have e1 := hk i hi
    have e2 := d2 i hi
    have e3 := d3 i hi
    rw [hea i hi] at e1 e2 e3
    exact ⟨h2 i (by omega) (by omega), e1.1, e1.2, e2, e3⟩
  · rw [if_neg he] at h
    have := congrArg Prod.snd h
    exact absurd this he
/-- What Assemble leaves. -/
structure AsmOk (root : Int) (T T' : Tr) (ns' : List ND) (ds' : List DP) (g : Nat) (w : Int) : Prop where
  ok : PtOk root T' ns' ds'
  at_ : ∀ q, q < 512 → pgT T' q = if q / 8 = g then (1, w) else pgT T q
  fr : (frT root T').Perm (frT root T)
theorem ins_asc {ds : List DP} (h : ds.Pairwise fun a b => a.g < b.g) {x : DP} (hn : ∀ y ∈ ds, y.g ≠ x.g) {k : Nat} (hk : Fnd ds.length (geG ds x.g) k) : (ds.take k ++ x :: ds.drop k).Pairwise fun a b => a.g < b.g := by
  have h1 : ∀ y ∈ ds.take k, y.g < x.g := fun y hy => by
    obtain ⟨j, hj, e⟩ := List.getElem_of_mem hy
    rw [List.length_take] at hj
    have h2 := hk.lo j (by omega)
    unfold geG at h2
    have h2 := of_decide_eq_false h2
    rw [getD_get (by omega)] at h2
    rw [List.getElem_take] at e
    rw [e] at h2
    omega
  have h2 : ∀ y ∈ ds.drop k, x.g < y.g := fun y hy => by
    obtain ⟨j, hj, e⟩ := List.getElem_of_mem hy
    rw [List.length_drop] at hj
    have h3 := hk.hi (k + j) (by omega) (by omega)
    unfold geG at h3
    have h3 := of_decide_eq_true h3
    rw [getD_get (by omega)] at h3
    rw [List.getElem_drop] at e
    rw [e] at h3
    have := hn y (List.mem_of_mem_drop hy)
    omega
  have h3 : (ds.take k ++ ds.drop k).Pairwise fun a b => a.g < b.g := by rw [List.take_append_drop]; exact h
  rw [List.pairwise_append] at h3 ⊢
  refine ⟨h3.1, List.pairwise_cons.2 ⟨h2, h3.2.1⟩, fun a ha b hb => ?_⟩
  rcases List.mem_cons.1 hb with e | e
  · rw [e]; exact h1 a ha
  · exact h3.2.2 a ha b e
theorem asm_ok {root : Int} {T : Tr} {ns : List ND} {ds : List DP} (h : PtOk root T ns ds) {p : Nat} (hp : p < 512) {m : Mid} {f w : Int} {e : Fin 8 → Int} (hT : T (dgF p 2) = some m) (hs : m.s (dgF p 1) = .leaf f e) (hw : huW w) {k2 : Nat} (hk2 : plI ns f = (k2 : Int)) {i : Nat} (hi : Fnd ds.length (geG ds ((p / 8 : Nat) : Int)) i) :
    ∃ T', AsmOk root T T' ((putL ns m.f (dgF p 1) w).take k2 ++ (putL ns m.f (dgF p 1) w).drop (k2 + 1)) (ds.take i ++ ⟨((p / 8 : Nat) : Int), f⟩ :: ds.drop i) (p / 8) w := by
  obtain ⟨k, h1, h2, h3, _⟩ := h.pl (mid_mem (root := root) hT)
  have h1 : plI ns m.f = (k : Int) := h1
  obtain ⟨k', j1, j2, j3, _⟩ := h.pl (leaf_mem (root := root) hT hs)
  have j1 : plI ns f = (k' : Int) := j1
  have hkk : k' = k2 := by omega
  subst hkk
  rw [putL_nodes h1 h3]
  have n1 := nodes_T (root := root) hT (dgF p 1)
  have n2 := nodes_legT root T (dgF p 2) (dgF p 1) m (.huge w f)
  have f1 := fr_T (root := root) hT (dgF p 1)
  have f2 := fr_legT root T (dgF p 2) (dgF p 1) m (.huge w f)
  have d1 := deps_T hT (dgF p 1)
  have d2 := deps_legT T (dgF p 2) (dgF p 1) m (.huge w f)
  rw [hs] at n1 f1 d1
  rw [rootE_some hT] at n2
  simp only [subN, subE, legF, subD, List.nil_append, List.cons_append] at n1 n2 f1 f2 d1 d2
  rw [grp_eq hp] at d2
  have hfr : (frT root (legT T (dgF p 2) (dgF p 1) m (.huge w f))).Perm (frT root T) := f2.trans f1.symm
  have hok := h.t.s _ m hT
  have hlg := legs_legT h.t.s (a := dgF p 2) (b := dgF p 1) hok (s := Leg.huge w f) (legok_huge hw)
  have htr : TrOk root (legT T (dgF p 2) (dgF p 1) m (.huge w f)) := h.t.same (L := []) hlg hfr.symm
  have hfne : m.f ≠ f := by
    have := f1.nodup_iff.1 h.t.d
    exact fun x => (List.nodup_cons.1 (List.nodup_cons.1 this).2).1 (by rw [x]; exact List.mem_cons_self ..)
  have hkne : k ≠ k' := fun x => by
    subst x
    rw [h3] at j3
    exact hfne (congrArg ND.f j3)
  have hset := perm_set h2 h3 (h.n.trans (n1.trans (List.Perm.swap _ _ _))) (⟨m.f, updA (midE m) (dgF p 1) w⟩ : ND)
  have hget : (ns.set k ⟨m.f, updA (midE m) (dgF p 1) w⟩).getD k' default = ⟨f, e⟩ := by rw [getD_set k' h2, if_neg (fun x => hkne x.symm), j3]
  have hrot : ∀ A B C : ND, ∀ R : List ND, (A :: B :: C :: R).Perm (C :: A :: B :: R) := fun A B C R => (List.Perm.cons A (List.Perm.swap _ _ _)).trans (List.Perm.swap _ _ _)
  have hdel := perm_erase_at (by rw [List.length_set]; exact j2) hget (hset.trans (hrot _ _ _ _))
  have hasc : ((ns.set k ⟨m.f, updA (midE m) (dgF p 1) w⟩).take k' ++ (ns.set k ⟨m.f, updA (midE m) (dgF p 1) w⟩).drop (k' + 1)).Pairwise fun a b => a.f < b.f := by
    refine List.Pairwise.sublist ?_ (asc_set h2 (y := ⟨m.f, updA (midE m) (dgF p 1) w⟩) (by rw [h3]) h.o)
    conv => rhs; rw [← List.take_append_drop k' (ns.set k ⟨m.f, updA (midE m) (dgF p 1) w⟩)]
    exact List.Sublist.append_left (List.drop_sublist_drop_left _ (Nat.le_succ k')) _
  have hnew : ∀ y ∈ ds, y.g ≠ ((p / 8 : Nat) : Int) := fun y hy e2 => by
    have hin : y ∈ depR T (dgF p 2) (dgF p 1) m := by rw [h.d] at hy; exact d1.mem_iff.1 hy
    have hasc2 := deps_asc (legT T (dgF p 2) (dgF p 1) m (.huge w f))
    have hmem1 : y ∈ depsT (legT T (dgF p 2) (dgF p 1) m (.huge w f)) := d2.mem_iff.2 (List.mem_cons_of_mem _ hin)
    have hmp : ((depsT (legT T (dgF p 2) (dgF p 1) m (.huge w f))).map DP.g).Nodup := by
      rw [List.nodup_iff_pairwise_ne, List.pairwise_map]
      exact hasc2.imp fun {a b} hab => by omega
    have hmq := (d2.map DP.g).nodup_iff.1 hmp
    rw [List.map_cons] at hmq
    exact (List.nodup_cons.1 hmq).1 (List.mem_map.2 ⟨y, hin, e2⟩)
  refine ⟨_, ⟨htr, ?_, hasc, ?_⟩, fun q hq => ?_, hfr⟩
  · refine hdel.trans (List.Perm.trans ?_ n2.symm)
    exact List.Perm.swap _ _ _
  · refine dps_eq (ins_asc (by rw [h.d]; exact deps_asc _) hnew hi) (deps_asc _) ?_
    refine List.Perm.trans ?_ d2.symm
    refine List.perm_middle.trans (List.Perm.cons _ ?_)
    rw [List.take_append_drop, h.d]
    exact d1
  · have hde := dg_eq hq hp
    unfold pgT
    rw [lv_legT hT]
    by_cases c1 : q / 8 = p / 8
    · rw [if_pos (hde.2 c1), if_pos c1]; rfl
    · rw [if_neg (fun x => c1 (hde.1 x)), if_neg c1]
end Go.Proofs.YtbgjelhefhcnpaaGreat
