/- append of a made slice to a nil one, cap. No conditions. -/
import Derived.Test.YtongcjepmidamaaAuto
import Derived.Test.YtongcjepmidamaaLst
set_option linter.unusedSimpArgs false
set_option linter.unusedVariables false
namespace Go.Proofs.Ytongcjepmidamaa
open Go Go.RowKit
section
variable {M : List Nat} {P : Program} {n d : Nat} {Q : Exit → Act → World → Prop} {ops rest : List Oper} {o : Oper} {E : Env} {H : World → Prop} {v : Value} {w0 w : World} {cs : List Chunk} {x y : Operand} {t t2 ty e sz : Nat} {z : Value} {α : Type} [Enc α] {l : List α} {r : Row}
theorem yl_cap [Dl] [hS : SlTy P t e sz z] {A : Option Addr} {k c : Nat} (ho : o.op = .call { callee := .builtin .cap, args := #[x], argTypes := #[t] }) (hx : ev E x = some (.slice A k c)) : Yl P n o E H (.int .i64 (c : Int)) := fun a w h1 h2 => by
  simp only [execOp, ho, resolve]
  simp [invoke, builtin, h1.ev hx, Builtin.cap_, run_underlying hS.und, goInt]
theorem own_ext {k : Nat} (hS : SlTy P t e sz z) (hU : P.underlying t2 = some (.int .i64)) (hs : Enc.sz α = sz) (ha : Enc.enc (default : α) = z.cells.toList) (h0 : 0 < k) (hk : k ≤ 34359738368) :
    ∃ r' w', (Builtin.append_ #[t, t2] ty #[.slice none 0 0, .int .i64 (k : Int)]).run P w = .ok r'.v w' ∧ Own w' r' e (List.replicate k (default : α)) ∧ w'.os = w.os ∧ w'.tape = w.tape ∧ w'.output = w.output ∧ r'.lo = w.heap.size ∧ r'.hi = w.heap.size + 1 ∧ w'.heap.size = w.heap.size + 1 ∧ (∀ b, b < w.heap.size → w'.heap[b]? = w.heap[b]?) := by
  obtain ⟨i, hi, hz, hsz, hby, hzs⟩ := hS.get
  have hp := Enc.pos (α := α)
  subst hs
  have hfit : Builtin.nextslicecap k 0 * i.bytes ≤ 281474976710656 := growslice_fits (by omega) (by
    have : k * i.bytes ≤ 34359738368 * 4096 := Nat.mul_le_mul (by omega) hby
    omega)
  have hge := grownCap_ge w k 0 e
  have hcm' : grownCap w k 0 e ≤ maxLen := grownCap_le_maxLen w k 0 e (by simp only [maxLen]; omega)
  have hz0 : ¬ Enc.sz α = 0 := by omega
  have hmc : (Builtin.zeroCells z.cells k).toList = encs (List.replicate k (default : α)) := by
    have := made_cells (default : α) z.cells.toList ha k
    rw [← this]
    have e1 : z.cells.toList.toArray = z.cells := by simp
    rw [e1, ← hzs]
    rfl
  have hlen : (encs (List.replicate k (default : α))).length = k * Enc.sz α := by rw [length_encs, List.length_replicate]
  refine ⟨⟨some ⟨w.heap.size, 0, none⟩, k, grownCap w k 0 e, w.heap.size, w.heap.size + 1⟩,
    w.drew.alloc (.cells (Builtin.zeroCells z.cells k ++ Builtin.zeroCells z.cells (grownCap w k 0 e - k)) e), ?_,
    ⟨by simp, hge, hcm', .inr ⟨w.heap.size, 0, _, rfl, Nat.le_refl _, Nat.lt_succ_self _, heap_alloc_new w.drew _, ?_, ?_⟩⟩, rfl, rfl, rfl, rfl, rfl, by simp, fun b hb' => by show (w.heap.push _)[b]? = _; rw [Array.getElem?_push, if_neg (Nat.ne_of_lt hb')]⟩
  · have hw1 : IntKind.i64.wrap (k : Int) = (k : Int) := wrap_i64 (by omega)
    have hb1 : ¬ (281474976710656 < (k : Int) * (i.bytes : Int)) := by
      have : k * i.bytes ≤ 34359738368 * 4096 := Nat.mul_le_mul (by omega) hby
      have h2 : ((k * i.bytes : Nat) : Int) ≤ 34359738368 * 4096 := by omega
      rw [Int.natCast_mul] at h2
      omega
    have hne : ¬ k = 0 := by omega
    have h63 : ¬ (9223372036854775807 < (k : Int)) := by omega
    have hnot' : ¬ (281474976710656 < Builtin.nextslicecap k 0 * i.bytes) := by omega
    have hneg : ¬ ((k : Int) < 0) := by omega
    simp [Builtin.append_, run_underlying hS.und, run_underlying hU, sizeOf, typeInfo, zeroValue, hi, hz, hsz, asInt, asIntOf, hw1, hb1, hneg, hne, hz0, h63, hnot', Question.forced, Builtin.firstCells, newRow, grownCap, Row.v]
    intro h
    rcases Nat.mul_eq_zero.1 h with h | h <;> omega
  · simp only [Array.size_append, size_zeroCells, hzs, Nat.zero_add]
    rw [← Nat.add_mul]
    exact Nat.mul_le_mul_right _ (by show grownCap w k 0 e ≤ _; omega)
  · simp only [Array.toList_append, List.drop_zero, hmc]
    rw [← hlen]
    exact List.take_left
theorem tri_ext [Dl] {k : Nat} [hS : SlTy P t e sz z] [hU : Und P t2 (.int .i64)] [ElT P e α] (hd : o.dst = some d) (hn : Nat.blt d n = true) (hw : Wan ops n o E true) (ho : o.op = .call { callee := .builtin .append, args := #[x, y], argTypes := #[t, t2] })
    (hx : ev E x = some (.slice none 0 0)) (hy : ev E y = some (.int .i64 (k : Int))) (hs : Enc.sz α = sz) (ha : Enc.enc (default : α) = z.cells.toList) (h0 : 0 < k) (hk : k ≤ 34359738368)
    (kk : ∀ r', Tri n (wpList P ops.toArray Q rest) ((d, r'.v) :: E) (HpM M w0 (slC r' e (List.replicate k (default : α)) :: cs))) : Tri n (wpList P ops.toArray Q (o :: rest)) E (HpM M w0 cs) := by
  intro a w h1 hh
  refine wpList_want (hw a h1) ?_
  unfold Oper.wp
  obtain ⟨r', w', hr, hown, g1, g2, g3, g4, g5, g6, g7⟩ := own_ext (P := P) (w := w) (ty := o.type) hS hU.eq hs ha h0 hk
  have : (execOp a.eval o).run P w = .ok (.value r'.v) w' := by
    simp only [execOp, ho, resolve, invoke, builtin, Sem.run_bind, Sem.run_pure, Result.andThen_ok, List.map_toArray, List.map_cons, List.map_nil, h1.ev hx, h1.ev hy, hr]
  rw [this, Oper.upon_value, hd]
  refine kk r' _ _ (h1.put hn _) (hh.push ⟨g1, g2, g3, by omega, g7⟩ ?_ ?_ ?_ hown)
  · show w.heap.size ≤ r'.lo; omega
  · show r'.lo ≤ r'.hi; omega
  · show r'.hi ≤ _; omega
end
end Go.Proofs.Ytongcjepmidamaa
