/- Taking elements out of a row of the call's own in place: append of its rest to its beginning, clear behind its end. No conditions. -/
import Derived.Test.YthlildafofbiaaaAuto
import Derived.Test.YthlildafofbiaaaLst
set_option linter.unusedSimpArgs false
set_option linter.unusedVariables false
namespace Go.Proofs.Ythlildafofbiaaa
open Go Go.RowKit
section
variable {M : List Nat} {P : Program} {n d : Nat} {Q : Exit → Act → World → Prop} {ops rest : List Oper} {o : Oper} {E : Env} {H : World → Prop} {v : Value} {w0 w : World} {cs : List Chunk} {x y : Operand} {t ty e sz : Nat} {z : Value} {α : Type} [Enc α] {l : List α} {r : Row}
def cut3 (v : Value) (a b m sz : Nat) : Value := match v with
  | .slice A _ _ => .slice (if m = a then A else A.map (·.add (a * sz))) (b - a) (m - a)
  | v => v
theorem yl_cut3 [Dl] {lo hi mx : Operand} {a b m : Nat} [hS : SlTy P t e sz z] (ho : o.op = .slice t x (some lo) (some hi) (some mx)) (hx : ev E x = some v) (hR : RdH H v l) (hlo : Ix E lo a) (hhi : Ix E hi b) (hmx : Ix E mx m) (hab : a ≤ b) (hb : b ≤ m) (hm : m ≤ l.length) :
    Yl P n o E H (cut3 v a b m sz) := fun f w h1 h2 => by
  obtain ⟨A, c, rfl, h3, h4, _⟩ := (hR w h2).form
  have hel := hS.elem
  have hu : P.underlying t = some (.slice (P.elem t)) := by rw [hel]; exact hS.und
  obtain ⟨kd, i, hi, rfl⟩ := hhi
  obtain ⟨kd', i', hi', rfl⟩ := hlo
  obtain ⟨kd2, i2, hi2, rfl⟩ := hmx
  simp only [execOp, ho, h1.ev hx, Option.map_some, Option.map_none, h1.ev hi, h1.ev hi', h1.ev hi2]
  rw [Sem.run_bind, run_sliceAt_slice _ _ _ _ _ _ hu, run_slice_lhm _ _ _ _ _ hu _ _ _ _ _ _ (by omega) (by omega) (by omega) (by omega)]
  simp [hel, hS.size, Go.Proofs.Ythlildafofbiaaa.cut3, sliced]
theorem yl_cutup [Dl] {lo hi : Operand} {a b : Nat} [hS : SlTy P t e sz z] (ho : o.op = .slice t x (some lo) (some hi) none) (hx : ev E x = some r.v) (hlo : Ix E lo a) (hhi : Ix E hi b) (hab : a ≤ b) (hb : b ≤ r.cap) :
    Yl P n o E H (cut r.v a b sz) := fun f w h1 h2 => by
  have hel := hS.elem
  have hu : P.underlying t = some (.slice (P.elem t)) := by rw [hel]; exact hS.und
  obtain ⟨kd, i, hi, rfl⟩ := hhi
  obtain ⟨kd', i', hi', rfl⟩ := hlo
  rw [Row.v] at hx
  simp only [execOp, ho, h1.ev hx, Option.map_some, Option.map_none, h1.ev hi, h1.ev hi']
  rw [Sem.run_bind, run_sliceAt_slice _ _ _ _ _ _ hu, run_slice_lh _ _ _ _ _ hu _ _ _ _ (by omega) (by omega) (by omega)]
  simp [hel, hS.size, Go.Proofs.Ythlildafofbiaaa.cut, sliced, Row.v]
theorem run_append_room {t2 e2 : Nat} {v2 : Value} {l2 : List α} (hS : SlTy P t e sz z) (hS2 : P.underlying t2 = some (.slice e2)) (hs : Enc.sz α = sz) (h : Own w r e l) (h2 : Rd w v2 l2) (hhi : r.hi ≤ w.heap.size)
    (hroom : r.len + l2.length ≤ r.cap) :
    ∃ r' w', (Builtin.append_ #[t, t2] ty #[r.v, v2]).run P w = .ok r'.v w' ∧ Own w' r' e (l ++ l2) ∧ Turned w w' r r' ∧ r'.cap = r.cap := by
  obtain ⟨i, hi, hz, hsz, hby, hzs⟩ := hS.get
  have hp := Enc.pos (α := α)
  subst hs
  have hf := run_first (P := P) h2
  obtain ⟨A2, c2, rfl, _, _, _⟩ := h2.form
  have hl := h.len
  have hc := h.lec
  have hcm := h.cap
  simp only [maxLen] at hcm
  rcases h.row with ⟨h3, h4, h5⟩ | ⟨g, o', cur, h3, h4, h5, h6, h7, h8⟩
  · have hn : l = [] := List.eq_nil_of_length_eq_zero (by omega)
    have hn2 : l2 = [] := List.eq_nil_of_length_eq_zero (by omega)
    subst hn hn2
    refine ⟨r, w, ?_, h, ⟨rfl, rfl, rfl, Nat.le_refl _, fun _ _ _ => rfl, .inl ⟨rfl, rfl⟩, hhi⟩, rfl⟩
    simp only [List.length_nil] at hf
    simp [Builtin.append_, run_underlying hS.und, run_underlying hS2, sizeOf, typeInfo, hi, hsz, Builtin.lenOf, Row.v, h3, h4, h5, hf]
  · have hfit : o' + r.len * Enc.sz α + 0 + (encs l2).length ≤ cur.size := by
      have : (r.len + l2.length) * Enc.sz α ≤ r.cap * Enc.sz α := Nat.mul_le_mul_right _ hroom
      rw [Nat.add_mul] at this
      rw [length_encs]; omega
    have hst := run_storeCells_at P g (o' + r.len * Enc.sz α) e (encs l2) 0 cur w h6 hfit (one_encs l2)
    simp only [Nat.add_zero] at hst
    have hfit' : o' + r.len * Enc.sz α + (encs l2).length ≤ cur.toList.length := by simpa using hfit
    refine ⟨{ r with len := r.len + l2.length }, w.setRow g (cur.toList.take (o' + r.len * Enc.sz α) ++ encs l2 ++ cur.toList.drop (o' + r.len * Enc.sz α + (encs l2).length)).toArray, ?_, ⟨by simp [hl], hroom, h.cap, .inr ⟨g, o', _, h3, h4, h5, setRow_heap w g cur _ e _ h6, ?_, ?_⟩⟩,
      ⟨rfl, rfl, rfl, by simp [World.setRow], fun b _ hb' => setRow_other w g b _ (by omega), .inl ⟨rfl, rfl⟩, by simpa [World.setRow] using hhi⟩, rfl⟩
    · simp [Builtin.append_, run_underlying hS.und, run_underlying hS2, sizeOf, typeInfo, hi, hsz, Builtin.lenOf, Row.v, h3, hroom, hf, add_lit, hst]
    · simp only [List.size_toArray, List.length_append, List.length_take, List.length_drop]
      show o' + r.cap * Enc.sz α ≤ _
      have : cur.toList.length = cur.size := by simp
      omega
    · show List.take ((r.len + l2.length) * Enc.sz α) (List.drop o' _) = _
      rw [encs_append, ← h8, Nat.add_mul, ← length_encs l2]
      simp only [List.append_assoc]
      have hlen : (List.take (o' + r.len * Enc.sz α) cur.toList).length = o' + r.len * Enc.sz α := by simp; simp at hfit'; omega
      rw [List.drop_append_of_le_length (by omega), List.drop_take, Nat.add_sub_cancel_left]
      have hlen2 : (List.take (r.len * Enc.sz α) (List.drop o' cur.toList)).length = r.len * Enc.sz α := by simp; simp at hfit'; omega
      rw [List.take_append, hlen2, Nat.add_sub_cancel_left, List.take_of_length_le (by omega), List.take_append_of_le_length (Nat.le_refl _), List.take_length]
/-- append(s[:a], s[b:]...) in place. -/
theorem tri_append_cut [Dl] {i a b : Nat} [hS : SlTy P t e sz z] (hd : o.dst = some d) (hn : Nat.blt d n = true) (hw : Wan ops n o E true) (ho : o.op = .call { callee := .builtin .append, args := #[x, y], argTypes := #[t, t] })
    (hx : ev E x = some (cut r.v 0 a sz)) (hy : ev E y = some (cut r.v b l.length sz)) (hi : At cs i (slC r e l)) (hs : Enc.sz α = sz) (hab : a ≤ b) (hb : b ≤ l.length)
    (k : ∀ r' : Row, l.length ≤ r'.cap → Tri n (wpList P ops.toArray Q rest) ((d, r'.v) :: E) (HpM M w0 (cs.set i (slC r' e (l.take a ++ l.drop b))))) : Tri n (wpList P ops.toArray Q (o :: rest)) E (HpM M w0 cs) := by
  subst hs
  intro f w h1 hh
  refine wpList_want (hw f h1) ?_
  unfold Oper.wp
  obtain ⟨_, _, g3, g4⟩ := hh.at_ i _ hi
  have hlen := g4.len
  have hlec := g4.lec
  have ho1 := g4.cut (a := 0) (b := a) (Nat.zero_le _) (by omega)
  have hr2 := g4.rd.cut (a := b) (b := l.length) hb (Nat.le_refl _)
  rw [List.drop_zero] at ho1
  rw [List.take_length] at hr2
  have hcap : (r.cut 0 a (Enc.sz α)).cap = r.cap := by simp [Row.cut]
  have hrl : (r.cut 0 a (Enc.sz α)).len = a := by simp [Row.cut]
  obtain ⟨r', w', hr, hown, hto, hrc⟩ := run_append_room (P := P) (ty := o.type) hS hS.und rfl ho1 hr2 g3 (by rw [hrl, hcap, List.length_drop]; omega)
  have : (execOp f.eval o).run P w = .ok (.value r'.v) w' := by
    rw [Row.cut_v] at hr
    simp only [execOp, ho, resolve, invoke, builtin, Sem.run_bind, Sem.run_pure, Result.andThen_ok, List.map_toArray, List.map_cons, List.map_nil, h1.ev hx, h1.ev hy, hr]
  rw [this, Oper.upon_value, hd]
  exact k r' (by rw [hrc, hcap]; omega) _ _ (h1.put hn _) (hh.turned hi ⟨hto.os, hto.tape, hto.output, hto.size, hto.block, hto.at_, hto.hi⟩ hown)
/-- clear behind the end of a row. -/
theorem tri_clear_up [Dl] {i m : Nat} [hS : SlTy P t e sz z] (hd : o.dst = none) (hw : Wan ops n o E true) (ho : o.op = .call { callee := .builtin .clear, args := #[x], argTypes := #[t] })
    (hx : ev E x = some (cut r.v l.length m sz)) (hi : At cs i (slC r e l)) (hs : Enc.sz α = sz) (ha : Enc.enc (default : α) = z.cells.toList) (hlm : l.length < m) (hmc : m ≤ r.cap)
    (kk : Tri n (wpList P ops.toArray Q rest) E (HpM M w0 cs)) : Tri n (wpList P ops.toArray Q (o :: rest)) E (HpM M w0 cs) := by
  subst hs
  intro b w hb h2
  refine wpList_want (hw b hb) ?_
  unfold Oper.wp
  obtain ⟨q1, q2, q3, g4⟩ := h2.at_ i _ hi
  have hlen := Own.len g4
  rcases g4.row with ⟨_, h4, h5⟩ | ⟨g, o', cur, h3, h4, h5, h6, h7, h8⟩
  · omega
  · obtain ⟨ti, hti, hz, hsz, _, hzs⟩ := hS.get
    have hkl : m * Enc.sz α ≤ r.cap * Enc.sz α := Nat.mul_le_mul_right _ hmc
    have hsub : (m - l.length) * Enc.sz α = m * Enc.sz α - l.length * Enc.sz α := Nat.sub_mul _ _ _
    have hal2 : l.length * Enc.sz α ≤ m * Enc.sz α := Nat.mul_le_mul_right _ (by omega)
    have hvs : (Builtin.zeroCells z.cells (m - l.length)).toList = encs (List.replicate (m - l.length) (default : α)) := by
      have := made_cells (default : α) z.cells.toList ha (m - l.length)
      rw [← this]
      have e1 : z.cells.toList.toArray = z.cells := by simp
      rw [e1, ← hzs]
      rfl
    have hvl : (encs (List.replicate (m - l.length) (default : α))).length = m * Enc.sz α - l.length * Enc.sz α := by rw [length_encs, List.length_replicate, hsub]
    have hst := run_storeCells_at (P := P) g (o' + l.length * Enc.sz α) e (encs (List.replicate (m - l.length) (default : α))) 0 cur w h6 (by rw [hvl]; omega) (one_encs _)
    have hr : (execOp b.eval o).run P w = .ok (.value (.tuple #[])) (w.setRow g (cur.toList.take (o' + l.length * Enc.sz α + 0) ++ encs (List.replicate (m - l.length) (default : α)) ++ cur.toList.drop (o' + l.length * Enc.sz α + 0 + (encs (List.replicate (m - l.length) (default : α))).length)).toArray) := by
      have hca : ¬ r.cap = l.length := by omega
      have hcut : Go.Proofs.Ythlildafofbiaaa.cut r.v l.length m (Enc.sz α) = .slice (some ⟨g, o' + l.length * Enc.sz α, none⟩) (m - l.length) (r.cap - l.length) := by
        rw [Row.v, h3]
        simp only [Go.Proofs.Ythlildafofbiaaa.cut, if_neg hca, Option.map_some, add_lit]
      rw [hcut] at hx
      obtain ⟨k, hk⟩ : ∃ k, m - l.length = k + 1 := ⟨m - l.length - 1, by omega⟩
      simp only [execOp, ho, resolve, invoke, builtin, Sem.run_bind, Sem.run_pure, Result.andThen_ok, List.map_toArray, List.map_cons, List.map_nil, hb.ev hx]
      rw [hk] at hvs hst ⊢
      simp [Builtin.clear_, run_underlying hS.und, zeroValue, typeInfo, hti, hz, hvs, hst]
    rw [hr, Oper.upon_value, hd]
    have hcs : cs.set i (slC r e l) = cs := by
      apply List.ext_getElem?
      intro j
      by_cases h : i = j
      · subst h
        have : cs[i]? = some (slC r e l) := hi
        rw [List.getElem?_set_self (List.getElem?_eq_some_iff.1 this).1, this]
      · rw [List.getElem?_set_ne h]
    rw [← hcs] at kk
    refine kk _ _ hb (h2.set hi ⟨rfl, rfl, rfl, by simp [World.setRow]⟩ (fun b' _ hb' => setRow_other w g b' _ ?_) (.inl ⟨rfl, rfl⟩) (by have q3' : r.hi ≤ w.heap.size := q3; show r.hi ≤ _; simpa [World.setRow] using q3') ?_)
    · have : b' < r.lo ∨ r.hi ≤ b' := hb'
      omega
    · have hal3 : cur.toList.length = cur.size := by simp
      have hel : (encs l).length = l.length * Enc.sz α := length_encs l
      refine ⟨hlen, g4.lec, g4.cap, .inr ⟨g, o', _, h3, h4, h5, setRow_heap w g _ _ e _ h6, ?_, ?_⟩⟩
      · simp only [List.size_toArray, List.length_append, List.length_take, List.length_drop, hvl]
        omega
      · simp only [List.append_assoc, Nat.add_zero]
        rw [List.drop_append_of_le_length (by rw [List.length_take]; omega), List.drop_take, Nat.add_sub_cancel_left, hlen]
        rw [hlen] at h8
        rw [h8, ← hel, List.take_left]
end
end Go.Proofs.Ythlildafofbiaaa
