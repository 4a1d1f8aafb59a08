/- The built-in max of two integers. No conditions. -/
import Derived.Test.YthlildafofbiaaaAuto
import Derived.Laws.Small
set_option linter.unusedSimpArgs false
set_option linter.unusedVariables false
namespace Go.Proofs.Ythlildafofbiaaa
open Go Go.RowKit
theorem yl_max2 [Dl] {P : Program} {n : Nat} {o : Oper} {E : Env} {H : World → Prop} {x y : Operand} {ts : Array Nat} {k k' : IntKind} {a b : Int} (ho : o.op = .call { callee := .builtin .max, args := #[x, y], argTypes := ts }) (hx : ev E x = some (.int k a)) (hy : ev E y = some (.int k' b)) : Yl P n o E H (.int k (if b > a then b else a)) := fun f w h1 h2 => by
  simp only [execOp, ho, resolve, invoke, builtin, Sem.run_bind, Sem.run_pure, Result.andThen_ok, List.map_toArray, List.map_cons, List.map_nil, h1.ev hx, h1.ev hy, run_max_int2]
theorem yl_min2 [Dl] {P : Program} {n : Nat} {o : Oper} {E : Env} {H : World → Prop} {x y : Operand} {ts : Array Nat} {k k' : IntKind} {a b : Int} (ho : o.op = .call { callee := .builtin .min, args := #[x, y], argTypes := ts }) (hx : ev E x = some (.int k a)) (hy : ev E y = some (.int k' b)) : Yl P n o E H (.int k (if b < a then b else a)) := fun f w h1 h2 => by
  simp only [execOp, ho, resolve, invoke, builtin, Sem.run_bind, Sem.run_pure, Result.andThen_ok, List.map_toArray, List.map_cons, List.map_nil, h1.ev hx, h1.ev hy, run_min_int2]
end Go.Proofs.Ythlildafofbiaaa
