/- Arrays that lie in a block. No conditions. -/
import Derived.Test.YtgajefdhmpgecaaAuto
set_option linter.unusedSimpArgs false
set_option linter.unusedVariables false
namespace Go.Proofs.Ytgajefdhmpgecaa
open Go Go.RowKit
class ArTy (P : Program) (t : Nat) (n e sz : outParam Nat) : Prop where
  und : P.underlying t = some (.array n e)
  size : ∀ w, (sizeOf e).run P w = .ok sz w
section
variable {P : Program} {n : Nat} {o : Oper} {E : Env} {H : World → Prop} {x y : Operand} {t m e sz g p k : Nat}
theorem yl_idxA [hS : ArTy P t m e sz] (ho : o.op = .indexAddr t x y) (hx : ev E x = some (.pointer (some ⟨g, p, none⟩))) (hy : Ix E y k) (hk : k < m) : Yl P n o E H (.pointer (some ⟨g, p + k * sz, none⟩)) := fun a w h1 h2 => by
  obtain ⟨kd, i, hi, rfl⟩ := hy
  simp only [execOp, ho, h1.ev hx, h1.ev hi]
  simp [Instr.indexAt, run_underlying hS.und, asIntOf, Instr.sureAddr, hS.size, hk, add_lit]
end
end Go.Proofs.Ytgajefdhmpgecaa
