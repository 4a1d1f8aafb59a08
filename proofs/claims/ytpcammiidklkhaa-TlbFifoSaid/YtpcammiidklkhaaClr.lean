/- The built-in clear on the rest of a row of the call's own. No conditions. -/
import Derived.Test.YtpcammiidklkhaaAuto
import Derived.Test.YtpcammiidklkhaaLst
set_option linter.unusedSimpArgs false
set_option linter.unusedVariables false
namespace Go.Proofs.Ytpcammiidklkhaa
open Go Go.RowKit
section
variable {M : List Nat} {P : Program} {n : Nat} {Q : Exit → Act → World → Prop} {ops rest : List Oper} {o : Oper} {E : Env} {w0 w : World} {cs : List Chunk} {x : Operand} {t e sz : Nat} {z : Value} {α : Type} [Enc α] {l : List α} {r : Row}
theorem tri_clear {i a : Nat} {cs' : List Chunk} [hS : SlTy P t e sz z] (hd : o.dst = none) (hw : Wan ops n o E true) (ho : o.op = .call { callee := .builtin .clear, args := #[x], argTypes := #[t] })
    (hx : ev E x = some (cut r.v a l.length sz)) (hi : At cs i (slC r e l)) (hs : Enc.sz α = sz) (ha : Enc.enc (default : α) = z.cells.toList) (hal : a ≤ l.length) (hcs : Nf (cs.set i (slC r e (l.take a ++ List.replicate (l.length - a) default))) cs')
    (kk : Tri n (wpList P ops.toArray Q rest) E (HpM M w0 cs')) : Tri n (wpList P ops.toArray Q (o :: rest)) E (HpM M w0 cs) := by
  subst hcs
  subst hs
  intro b w hb h2
  refine wpList_want (hw b hb) ?_
  unfold Oper.wp
  obtain ⟨q1, q2, q3, g4⟩ := h2.at_ i _ hi
  have hlen := Own.len g4
  by_cases hae : a = l.length
  · have hr : (execOp b.eval o).run P w = .ok (.value (.tuple #[])) w := by
      have hz : l.length - a = 0 := by omega
      simp only [execOp, ho, resolve, invoke, builtin, Sem.run_bind, Sem.run_pure, Result.andThen_ok, List.map_toArray, List.map_cons, List.map_nil, hb.ev hx]
      simp only [Go.Proofs.Ytpcammiidklkhaa.cut, Row.v, hz]
      generalize (if r.cap = a then r.A else Option.map (fun x => x.add (a * Enc.sz α)) r.A) = A
      cases A <;> simp [Builtin.clear_, run_underlying hS.und]
    rw [hr, Oper.upon_value, hd]
    have hl : l.take a ++ List.replicate (l.length - a) (default : α) = l := by rw [hae, List.take_length, Nat.sub_self]; simp
    rw [hl] at kk
    have hcs : cs.set i (slC r e l) = cs := by
      apply List.ext_getElem?
      intro j
      by_cases h : i = j
      · subst h
        have : cs[i]? = some (slC r e l) := hi
        rw [List.getElem?_set_self (List.getElem?_eq_some_iff.1 this).1, this]
      · rw [List.getElem?_set_ne h]
    rw [hcs] at kk
    exact kk _ _ hb h2
  · rcases g4.row with ⟨_, h4, _⟩ | ⟨g, o', cur, h3, h4, h5, h6, h7, h8⟩
    · omega
    · obtain ⟨ti, hti, hz, hsz, _, hzs⟩ := hS.get
      have hal' : a < l.length := by omega
      have hkl : l.length * Enc.sz α ≤ r.cap * Enc.sz α := Nat.mul_le_mul_right _ (by rw [← hlen]; exact g4.lec)
      have hsub : (l.length - a) * Enc.sz α = l.length * Enc.sz α - a * Enc.sz α := Nat.sub_mul _ _ _
      have hal2 : a * Enc.sz α ≤ l.length * Enc.sz α := Nat.mul_le_mul_right _ hal
      have hvs : (Builtin.zeroCells z.cells (l.length - a)).toList = encs (List.replicate (l.length - a) (default : α)) := by
        have := made_cells (default : α) z.cells.toList ha (l.length - a)
        rw [← this]
        have e1 : z.cells.toList.toArray = z.cells := by simp
        rw [e1, ← hzs]
        rfl
      have hvl : (encs (List.replicate (l.length - a) (default : α))).length = l.length * Enc.sz α - a * Enc.sz α := by rw [length_encs, List.length_replicate, hsub]
      have hst := run_storeCells_at (P := P) g (o' + a * Enc.sz α) e (encs (List.replicate (l.length - a) (default : α))) 0 cur w h6 (by rw [hvl]; omega) (one_encs _)
      have hr : (execOp b.eval o).run P w = .ok (.value (.tuple #[])) (w.setRow g (cur.toList.take (o' + a * Enc.sz α + 0) ++ encs (List.replicate (l.length - a) (default : α)) ++ cur.toList.drop (o' + a * Enc.sz α + 0 + (encs (List.replicate (l.length - a) (default : α))).length)).toArray) := by
        have hca : ¬ r.cap = a := by have := g4.lec; omega
        have hcut : Go.Proofs.Ytpcammiidklkhaa.cut r.v a l.length (Enc.sz α) = .slice (some ⟨g, o' + a * Enc.sz α, none⟩) (l.length - a) (r.cap - a) := by
          rw [Row.v, h3]
          simp only [Go.Proofs.Ytpcammiidklkhaa.cut, if_neg hca, Option.map_some, add_lit]
        rw [hcut] at hx
        obtain ⟨m, hm⟩ : ∃ m, l.length - a = m + 1 := ⟨l.length - a - 1, by omega⟩
        simp only [execOp, ho, resolve, invoke, builtin, Sem.run_bind, Sem.run_pure, Result.andThen_ok, List.map_toArray, List.map_cons, List.map_nil, hb.ev hx]
        rw [hm] at hvs hst ⊢
        simp [Builtin.clear_, run_underlying hS.und, zeroValue, typeInfo, hti, hz, hvs, hst]
      rw [hr, Oper.upon_value, hd]
      refine kk _ _ hb (h2.set hi ⟨rfl, rfl, rfl, by simp [World.setRow]⟩ (fun b' _ hb' => setRow_other w g b' _ ?_) (.inl ⟨rfl, rfl⟩) (by have q3' : r.hi ≤ w.heap.size := q3; show r.hi ≤ _; simpa [World.setRow] using q3') ?_)
      · have : b' < r.lo ∨ r.hi ≤ b' := hb'
        omega
      · have hnl : (l.take a ++ List.replicate (l.length - a) (default : α)).length = l.length := by simp; omega
        have hal3 : cur.toList.length = cur.size := by simp
        have hall : cur.toList = cur.toList.take o' ++ (encs l ++ (cur.toList.drop o').drop (r.len * Enc.sz α)) := by
          rw [← h8, List.take_append_drop, List.take_append_drop]
        have ht : (cur.toList.take o').length = o' := by rw [List.length_take]; omega
        have hel : (encs l).length = l.length * Enc.sz α := length_encs l
        have ht1 : cur.toList.take (o' + a * Enc.sz α + 0) = cur.toList.take o' ++ encs (l.take a) := by
          conv => lhs; rw [hall]
          rw [List.take_append, ht, List.take_of_length_le (by rw [ht]; omega), show o' + a * Enc.sz α + 0 - o' = a * Enc.sz α by omega, List.take_append_of_le_length (by omega), encs_take]
        have hd1 : cur.toList.drop (o' + a * Enc.sz α + 0 + (encs (List.replicate (l.length - a) (default : α))).length) = (cur.toList.drop o').drop (r.len * Enc.sz α) := by
          rw [List.drop_drop, hvl, hlen]
          congr 1
          omega
        have hnew : cur.toList.take (o' + a * Enc.sz α + 0) ++ encs (List.replicate (l.length - a) (default : α)) ++ cur.toList.drop (o' + a * Enc.sz α + 0 + (encs (List.replicate (l.length - a) (default : α))).length)
            = cur.toList.take o' ++ (encs (l.take a ++ List.replicate (l.length - a) (default : α)) ++ (cur.toList.drop o').drop (r.len * Enc.sz α)) := by
          rw [ht1, hd1, encs_append]; simp only [List.append_assoc]
        refine ⟨by rw [hnl]; exact hlen, g4.lec, g4.cap, .inr ⟨g, o', _, h3, h4, h5, setRow_heap w g _ _ e _ h6, ?_, ?_⟩⟩
        · simp only [List.size_toArray, List.length_append, List.length_take, List.length_drop, hvl]
          omega
        · simp only
          rw [hnew, List.drop_append_of_le_length (by omega), List.drop_of_length_le (by omega)]
          simp only [List.nil_append]
          have hlen2 : (encs (l.take a ++ List.replicate (l.length - a) (default : α))).length = r.len * Enc.sz α := by rw [length_encs, hnl, hlen]
          rw [← hlen2, List.take_left]
end
end Go.Proofs.Ytpcammiidklkhaa
