/- Arrays that lie in a block: a constant index; a block seen as a row, for an index that is not known. No conditions. -/
import Derived.Test.YthlildafofbiaaaAuto
set_option linter.unusedSimpArgs false
set_option linter.unusedVariables false
namespace Go.Proofs.Ythlildafofbiaaa
open Go Go.RowKit
class ArTy (P : Program) (t : Nat) (n e sz : outParam Nat) : Prop where
  und : P.underlying t = some (.array n e)
  size : ∀ w, (sizeOf e).run P w = .ok sz w
section
variable {P : Program} {n : Nat} {o : Oper} {E : Env} {H : World → Prop} {x y : Operand} {t m e sz g p k : Nat}
theorem yl_idxA [Dl] [hS : ArTy P t m e sz] (ho : o.op = .indexAddr t x y) (hx : ev E x = some (.pointer (some ⟨g, p, none⟩))) (hy : Ix E y k) (hk : k < m) : Yl P n o E H (.pointer (some ⟨g, p + k * sz, none⟩)) := fun a w h1 h2 => by
  obtain ⟨kd, i, hi, rfl⟩ := hy
  simp only [execOp, ho, h1.ev hx, h1.ev hi]
  simp [Instr.indexAt, run_underlying hS.und, asIntOf, Instr.sureAddr, hS.size, hk, add_lit]
/-- The row of a whole array. -/
def arR (g k : Nat) : Row := ⟨some ⟨g, 0, none⟩, k, k, g, g + 1⟩
theorem yl_idxR [Dl] [hS : ArTy P t m e sz] (ho : o.op = .indexAddr t x y) (hx : ev E x = some (.pointer (some ⟨g, 0, none⟩))) (hy : Ix E y k) (hk : k < m) : Yl P n o E H (eP (arR g m).v k sz 0) := fun a w h1 h2 => by
  obtain ⟨kd, i, hi, rfl⟩ := hy
  simp only [execOp, ho, h1.ev hx, h1.ev hi]
  simp [Instr.indexAt, run_underlying hS.und, asIntOf, Instr.sureAddr, hS.size, hk, add_lit, eP_eq, bk, of, arR, Row.v]
end
section
variable {M : List Nat} {P : Program} {n : Nat} {Q : Exit → Act → World → Prop} {F : Act → World → Prop} {ops rest : List Oper} {o : Oper} {E : Env} {w0 w : World} {cs cs' : List Chunk} {x y : Operand} {t t' g k m i : Nat} {cells : List Value} {α : Type} [Enc α] {l : List α}
theorem own_arr (h : w.heap[g]? = some (.cells (encs l).toArray t (0, 0))) (hk : l.length = k) (hl : Nat.ble k 1000000 = true) : Own w (arR g k) t l := by
  subst hk
  have hl' : l.length ≤ 1000000 := by simpa using hl
  refine ⟨rfl, Nat.le_refl _, by show l.length ≤ maxLen; simp only [maxLen]; omega, .inr ⟨g, 0, (encs l).toArray, rfl, Nat.le_refl _, Nat.lt_succ_self _, h, ?_, ?_⟩⟩
  · show 0 + l.length * Enc.sz α ≤ (encs l).toArray.size
    rw [List.size_toArray, length_encs]; omega
  · show ((encs l).drop 0).take (l.length * Enc.sz α) = encs l
    rw [List.drop_zero, ← length_encs, List.take_length]
/-- A block seen as the row of the array that it holds. -/
theorem tri_asrow [Dl] (l : List α) (hi : At cs i (blkC g t cells)) (hc : cells = encs l) (hk : l.length = k) (hl : Nat.ble k 1000000 = true) (hcs : Nf (cs.set i (slC (arR g k) t l)) cs') (kk : Tri n F E (HpM M w0 cs')) : Tri n F E (HpM M w0 cs) := by
  subst hcs
  intro a w h1 h2
  obtain ⟨q1, q2, q3, q4⟩ := h2.at_ i _ hi
  refine kk a w h1 (h2.set hi ⟨rfl, rfl, rfl, Nat.le_refl _⟩ (fun _ _ _ => rfl) (.inl ⟨rfl, rfl⟩) q3 (own_arr ?_ hk hl))
  rw [← hc]; exact q4
/-- A whole array, read. -/
theorem yl_loadA [Dl] [hA : Ag P t true] [hS : Sz P t m] (ho : o.op = .load t x) (hx : ev E x = some (.pointer (some ⟨g, 0, none⟩))) (hi : Has cs (slC (arR g k) t' l)) (hl : (encs l).length = m) : Yl P n o E (HpM M w0 cs) (.agg (encs l).toArray) := fun _ w h1 h2 => by
  have hrd := (h2.own hi).rd
  have := run_loadVarN (P := P) (t := t) (g := g) (off := 0) (vs := encs l) (w := w) hl fun j u hj => by
    have := hrd.cells hj
    have hb : bk (arR g k).v = g := rfl
    have ho : of (arR g k).v = 0 := rfl
    rw [hb, ho] at this
    exact this
  simp [execOp, ho, h1.ev hx, Instr.loadAt, Instr.sureAddr, this]
theorem encs_part {k : Nat} (hk : k < l.length) : ((encs l).drop (k * Enc.sz α)).take (Enc.sz α) = Enc.enc (l.getD k default) := by
  apply List.ext_getElem?
  intro j
  rw [List.getElem?_take]
  split
  · rename_i hj
    rw [List.getElem?_drop, encs_get hk hj]
  · rename_i hj
    rw [List.getElem?_eq_none (by rw [Enc.len]; omega)]
/-- An element of an array that is at hand. -/
theorem yl_indexV [Dl] {e sz : Nat} {vs : List Value} [hS : ArTy P t m e sz] [hA : Ag P e true] {H : World → Prop} (ho : o.op = .index t x y) (hx : ev E x = some (.agg (encs l).toArray)) (hy : Ix E y k) (hs : Enc.sz α = sz) (hl : l.length = m) (hk : k < m) (hn : Nf (Enc.enc (l.getD k default)) vs) : Yl P n o E H (.agg vs.toArray) := fun a w h1 h2 => by
  subst hs
  have hn' : Enc.enc (l.getD k default) = vs := hn
  subst hn'
  obtain ⟨kd, i, hi, rfl⟩ := hy
  simp only [execOp, ho, h1.ev hx, h1.ev hi]
  simp [Instr.index, run_underlying hS.und, asIntOf, hS.size, hk, part, hA.run]
  have := encs_part (l := l) (k := k) (by omega)
  rwa [List.getD_eq_getElem?_getD] at this
/-- A whole array, laid into a new block. -/
theorem tri_storeA [Dl] [hS : Sz P t m] (hd : o.dst = none) (ho : o.op = .store t x y) (hx : ev E x = some (.pointer (some ⟨g, 0, none⟩))) (hy : ev E y = some (.agg (encs l).toArray)) (hw : Wan ops n o E true) (hi : At cs i (blkC g t' cells)) (hl : (encs l).length = m) (hcl : cells.length = m) (hk : l.length = k) (hk' : Nat.ble k 1000000 = true) (hcs : Nf (cs.set i (slC (arR g k) t' l)) cs')
    (kk : Tri n (wpList P ops.toArray Q rest) E (HpM M w0 cs')) : Tri n (wpList P ops.toArray Q (o :: rest)) E (HpM M w0 cs) := by
  have hset : setL cells 0 (encs l) = encs l := by
    apply List.ext_getElem?
    intro j
    have hs : ∀ (vs : List Value) (f : Nat) (c : List Value), f + vs.length ≤ c.length → (setL c f vs)[j]? = if f ≤ j ∧ j < f + vs.length then vs[j - f]? else c[j]? := by
      intro vs
      induction vs with
      | nil => intro f c h; rw [setL, if_neg (by rintro ⟨h1, h2⟩; simp only [List.length_nil] at h2; omega)]
      | cons u vs ih =>
        intro f c h
        rw [setL, ih (f + 1) (c.set f u) (by simp at h ⊢; omega)]
        simp only [List.length_cons] at h ⊢
        by_cases h1 : j = f
        · subst h1
          rw [if_neg (by omega), if_pos ⟨Nat.le_refl _, by omega⟩, Nat.sub_self]
          simp [List.getElem?_set] <;> omega
        · by_cases h2 : f + 1 ≤ j ∧ j < f + 1 + vs.length
          · rw [if_pos h2, if_pos (by omega), show j - f = (j - (f + 1)) + 1 by omega, List.getElem?_cons_succ]
          · rw [if_neg h2, if_neg (by omega), List.getElem?_set_ne (by omega)]
    rw [hs (encs l) 0 cells (by omega)]
    split
    · rfl
    · rename_i h
      rw [List.getElem?_eq_none (by omega), List.getElem?_eq_none (by omega)]
  refine tri_store (t' := t') hd hw ho hx hy hi hl (List.all_eq_true.2 (one_encs l)) (by simp; omega) rfl rfl ?_
  refine tri_asrow l (i := i) (g := g) (t := t') (cells := setL cells 0 (encs l)) ?_ hset hk hk' (by rw [List.set_set]; exact hcs) kk
  have hil : i < cs.length := (List.getElem?_eq_some_iff.1 (show cs[i]? = some _ from hi)).1
  show (cs.set i _)[i]? = _
  rw [List.getElem?_set_self hil]
  rfl
end
end Go.Proofs.Ythlildafofbiaaa
