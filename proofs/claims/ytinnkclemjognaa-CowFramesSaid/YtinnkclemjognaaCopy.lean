/- The built-in copy into a row of the call's own. No conditions. -/
import Derived.Test.YtinnkclemjognaaAuto
import Derived.Test.YtinnkclemjognaaLst
import Derived.Laws.CopyRow
set_option linter.unusedSimpArgs false
set_option linter.unusedVariables false
namespace Go.Proofs.Ytinnkclemjognaa
open Go Go.RowKit
section
variable {M : List Nat} {P : Program} {n d : Nat} {Q : Exit → Act → World → Prop} {ops rest : List Oper} {o : Oper} {E : Env} {w0 w : World} {cs : List Chunk} {x y : Operand} {t e sz : Nat} {z : Value} {α : Type} [Enc α] {l : List α} {r : Row}
/-- A value that shows the row from element a on. -/
def Shows (r : Row) (N a sz : Nat) (v : Value) : Prop := r.len = N → ∃ A c, v = .slice A (N - a) c ∧ ∀ g o, r.A = some ⟨g, o, none⟩ → a < r.cap → A = some ⟨g, o + a * sz, none⟩
theorem shows_row {N : Nat} : Shows r N 0 sz r.v := fun h => ⟨r.A, r.cap, by rw [Row.v, h]; rfl, fun g o hA _ => by rw [hA]; simp⟩
theorem shows_cut {N a : Nat} : Shows r N a sz (cut r.v a N sz) := fun h => ⟨_, _, rfl, fun g o hA ha => by
  rw [if_neg (by omega), hA]
  simp only [Option.map_some, add_lit]⟩
omit [Enc α] in
theorem take_drop_set {l l2 : List α} {a : Nat} (h : a ≤ l.length) : l.take a ++ (l2.take 0 ++ l.drop (a + 0)) = l := by simp
theorem tri_copy [Dl] {i a k t2 : Nat} {v1 v2 : Value} {l2 : List α} {cs' : List Chunk} [hS : SlTy P t e sz z] (hd : o.dst = some d) (hn : Nat.blt d n = true) (hw : Wan ops n o E true) (ho : o.op = .call { callee := .builtin .copy, args := #[x, y], argTypes := #[t, t2] })
    (hx : ev E x = some v1) (hv1 : Shows r l.length a sz v1) (hy : ev E y = some v2) (h2 : RdH (HpM M w0 cs) v2 l2) (hi : At cs i (slC r e l)) (hs : Enc.sz α = sz) (hal : a ≤ l.length) (hk : k = min l2.length (l.length - a)) (hcs : Nf (cs.set i (slC r e (l.take a ++ (l2.take k ++ l.drop (a + k))))) cs')
    (kk : Tri n (wpList P ops.toArray Q rest) ((d, .int .i64 (k : Int)) :: E) (HpM M w0 cs')) : Tri n (wpList P ops.toArray Q (o :: rest)) E (HpM M w0 cs) := by
  subst hcs
  subst hs
  intro b w hb hH
  refine wpList_want (hw b hb) ?_
  unfold Oper.wp
  obtain ⟨q1, q2, q3, g4⟩ := hH.at_ i _ hi
  have hlen := Own.len g4
  obtain ⟨A, c, rfl, hA⟩ := hv1 hlen
  have hR := h2 w hH
  obtain ⟨A2, c2, rfl, f1, f2, f3⟩ := hR.form
  obtain ⟨ti, hti, hz, hsz, _, hzs⟩ := hS.get
  have hkl : (encs (l2.take k)).length = k * Enc.sz α := by rw [length_encs, List.length_take]; congr 1; omega
  by_cases hk0 : k = 0
  · subst hk0
    have hld : ∀ a2, (loadCells a2 0).run P w = .ok #[] w := fun a2 => by
      have := run_loadCells_list (P := P) w a2 ([] : List Value) (fun j v hj => by simp at hj)
      simpa using this
    have hr : (execOp b.eval o).run P w = .ok (.value (.int .i64 0)) w := by
      simp only [execOp, ho, resolve, invoke, builtin, Sem.run_bind, Sem.run_pure, Result.andThen_ok, List.map_toArray, List.map_cons, List.map_nil, hb.ev hx, hb.ev hy]
      have hmin : Nat.min l2.length (l.length - a) = 0 := hk.symm
      cases A2 <;> cases A <;> simp [Builtin.copy_, run_underlying hS.und, Builtin.lenOf, Builtin.firstCells, sizeOf, typeInfo, hti, hmin, hld, storeCells, goInt]
    rw [hr, Oper.upon_value, hd]
    rw [take_drop_set hal] at kk
    have hcs : cs.set i (slC r e l) = cs := by
      apply List.ext_getElem?
      intro j
      by_cases h : i = j
      · subst h
        have : cs[i]? = some (slC r e l) := hi
        rw [List.getElem?_set_self (List.getElem?_eq_some_iff.1 this).1, this]
      · rw [List.getElem?_set_ne h]
    rw [hcs] at kk
    exact kk _ _ (hb.put hn _) hH
  · rcases g4.row with ⟨_, h4, _⟩ | ⟨g, o', cur, h3, h4, h5, h6, h7, h8⟩
    · omega
    · have hne : l2 ≠ [] := fun e => by rw [e] at hk; simp at hk; omega
      have hA2 := f3 hne
      have hA1 := hA g o' h3 (by have := g4.lec; omega)
      subst hA1
      have hcap : l.length * Enc.sz α ≤ r.cap * Enc.sz α := Nat.mul_le_mul_right _ (by rw [← hlen]; exact g4.lec)
      have hak : (a + k) * Enc.sz α ≤ l.length * Enc.sz α := Nat.mul_le_mul_right _ (by omega)
      rw [Nat.add_mul] at hak
      obtain ⟨ad, had⟩ : ∃ ad, ad = (⟨bk (.slice A2 l2.length c2), of (.slice A2 l2.length c2), none⟩ : Addr) := ⟨_, rfl⟩
      rw [← had] at hA2
      have hsrc : ∀ j v, (encs (l2.take k))[j]? = some v → w.cell? (ad.add j) = some v := fun j v hj => by
        rw [had, add_lit]
        refine hR.cells ?_
        rw [← encs_take, List.getElem?_take] at hj
        split at hj
        · exact hj
        · cases hj
      have hld := run_loadCells_list (P := P) w _ _ hsrc
      clear had f3
      subst hA2
      rw [hkl] at hld
      have hst := run_storeCells_at (P := P) g (o' + a * Enc.sz α) e (encs (l2.take k)) 0 cur w h6 (by rw [hkl]; omega) (one_encs _)
      have hr : (execOp b.eval o).run P w = .ok (.value (.int .i64 (k : Int))) (w.setRow g (cur.toList.take (o' + a * Enc.sz α + 0) ++ encs (l2.take k) ++ cur.toList.drop (o' + a * Enc.sz α + 0 + (encs (l2.take k)).length)).toArray) := by
        simp only [execOp, ho, resolve, invoke, builtin, Sem.run_bind, Sem.run_pure, Result.andThen_ok, List.map_toArray, List.map_cons, List.map_nil, hb.ev hx, hb.ev hy]
        have hmin : Nat.min l2.length (l.length - a) = k := hk.symm
        simp [Builtin.copy_, run_underlying hS.und, Builtin.lenOf, Builtin.firstCells, sizeOf, typeInfo, hti, hmin, hsz, hld, hst, goInt]
      rw [hr, Oper.upon_value, hd]
      refine kk _ _ (hb.put hn _) ((show HpM M w0 cs w from hH).set hi ⟨rfl, rfl, rfl, by simp [World.setRow]⟩ (fun b' _ hb' => setRow_other w g b' _ ?_) (.inl ⟨rfl, rfl⟩) (by have q3' : r.hi ≤ w.heap.size := q3; show r.hi ≤ _; simpa [World.setRow] using q3') ?_)
      · have : b' < r.lo ∨ r.hi ≤ b' := hb'
        omega
      · have hnl : (l.take a ++ (l2.take k ++ l.drop (a + k))).length = l.length := by simp; omega
        have hal3 : cur.toList.length = cur.size := by simp
        have hall : cur.toList = cur.toList.take o' ++ (encs l ++ (cur.toList.drop o').drop (r.len * Enc.sz α)) := by
          rw [← h8, List.take_append_drop, List.take_append_drop]
        have ht : (cur.toList.take o').length = o' := by rw [List.length_take]; omega
        have hel : (encs l).length = l.length * Enc.sz α := length_encs l
        have ht1 : cur.toList.take (o' + a * Enc.sz α + 0) = cur.toList.take o' ++ encs (l.take a) := by
          conv => lhs; rw [hall]
          rw [List.take_append, ht, List.take_of_length_le (by rw [ht]; omega), show o' + a * Enc.sz α + 0 - o' = a * Enc.sz α by omega, List.take_append_of_le_length (by omega), encs_take]
        have hd1 : cur.toList.drop (o' + a * Enc.sz α + 0 + (encs (l2.take k)).length) = encs (l.drop (a + k)) ++ (cur.toList.drop o').drop (r.len * Enc.sz α) := by
          conv => lhs; rw [hall]
          rw [hkl, List.drop_append, ht, List.drop_of_length_le (by rw [ht]; omega), List.nil_append, show o' + a * Enc.sz α + 0 + k * Enc.sz α - o' = (a + k) * Enc.sz α by rw [Nat.add_mul]; omega,
            List.drop_append_of_le_length (by rw [hel, Nat.add_mul]; omega), encs_drop]
        have hnew : cur.toList.take (o' + a * Enc.sz α + 0) ++ encs (l2.take k) ++ cur.toList.drop (o' + a * Enc.sz α + 0 + (encs (l2.take k)).length)
            = cur.toList.take o' ++ (encs (l.take a ++ (l2.take k ++ l.drop (a + k))) ++ (cur.toList.drop o').drop (r.len * Enc.sz α)) := by
          rw [ht1, hd1, encs_append, encs_append]; simp only [List.append_assoc]
        refine ⟨by rw [hnl]; exact hlen, g4.lec, g4.cap, .inr ⟨g, o', _, h3, h4, h5, setRow_heap w g _ _ e _ h6, ?_, ?_⟩⟩
        · simp only [List.size_toArray, List.length_append, List.length_take, List.length_drop, hkl]
          omega
        · simp only
          rw [hnew, List.drop_append_of_le_length (by omega), List.drop_of_length_le (by omega)]
          simp only [List.nil_append]
          have hlen2 : (encs (l.take a ++ (l2.take k ++ l.drop (a + k)))).length = r.len * Enc.sz α := by rw [length_encs, hnl, hlen]
          rw [← hlen2, List.take_left]
end
end Go.Proofs.Ytinnkclemjognaa
