/-
  No cell of these rows narrows 'for every input' (looked for: loops, veiled, ifaces, maps, wideKeys, modest, calm, conditions, laid).
  DERIVED. THE GIVEN ROWS OF THIS SEAT. 3 by the template 'for every input the law returns true; each argument reads behind the call as it read before'; 0 by the template 'total and deterministic' (their statements: YtdmphjphcdcdkaaTotals.lean).
  GIVEN WITH THE SEED: the statements are not yours to turn. If you find one false, say at which input.
  Laid BY PROGRAM, IN A SANDBOX (cutbox-rows.mjs): the forced cells as the released guide's own fill.sh prints them over the translation 48dab5f0274b57a7… (all of the seat's roots in one cut). By AI agents, Wed Nov 11 2026. No macro, syntax, notation, axiom, sorry.
-/
import Derived.Test.YtdmphjphcdcdkaaChecked
import GoSem.Claim
import GoSem.ClaimJoined
import GoSem.ClaimMapViews
import Derived.JoinedTies
import Derived.KernelRfl
namespace Go.Proofs.Ytdmphjphcdcdkaa
/- THE CELL 'sum', in the pinned program and in every row, IS THE sha256 OF THE DUMP (.gsa) THAT YtdmphjphcdcdkaaProg.lean LOADS. Nothing in Lean hashes anything: it is a label: what it is worth is what the hold of that sum in a sandbox is worth. -/
noncomputable def Try.pinned : Pinned := { name := "ytdmphjphcdcdkaa", sum := "48dab5f0274b57a75bfffdd9c529b39f6f565d6ee824839c2c39317ecbf07267", checked := Try.checked }
namespace Rows
def none {H : Type} : Left H := { results := [], args := [] }

/-- 'estoverstop.TopFifoFaults': WHATEVER THE INPUT: true; the input reads as it did. -/
def topFifoFaultsSpec : ChangeSpec := { name := "topFifoFaults", fn := fun _ => fun
  | [d1, d2] => { results := [.lit (.bool true)], args := [d1, d2] }
  | _ => none }
def topFifoFaultsRow : OpenClaim := { program := "ytdmphjphcdcdkaa", sum := "48dab5f0274b57a75bfffdd9c529b39f6f565d6ee824839c2c39317ecbf07267", func := "estovers/estoverstop.TopFifoFaults", spec := "topFifoFaults", apart := false }
def TopFifoFaultsSaid : Prop := topFifoFaultsRow.holds Try.pinned (OpenSpec.ofChange topFifoFaultsSpec)

/-- ITS FALSE NEIGHBOUR: 'it returns false'. Refute it at one input. -/
def topFifoFaultsWrong : ChangeSpec := { name := "topFifoFaults", fn := fun _ => fun
  | [d1, d2] => { results := [.lit (.bool false)], args := [d1, d2] }
  | _ => none }
def TopFifoFaultsWrongFalsely : Prop := topFifoFaultsRow.holds Try.pinned (OpenSpec.ofChange topFifoFaultsWrong)

/-- 'estoverstop.TopRefaultReach': WHATEVER THE INPUT: true; the input reads as it did. -/
def topRefaultReachSpec : ChangeSpec := { name := "topRefaultReach", fn := fun _ => fun
  | [d1, d2] => { results := [.lit (.bool true)], args := [d1, d2] }
  | _ => none }
def topRefaultReachRow : OpenClaim := { program := "ytdmphjphcdcdkaa", sum := "48dab5f0274b57a75bfffdd9c529b39f6f565d6ee824839c2c39317ecbf07267", func := "estovers/estoverstop.TopRefaultReach", spec := "topRefaultReach", apart := false }
def TopRefaultReachSaid : Prop := topRefaultReachRow.holds Try.pinned (OpenSpec.ofChange topRefaultReachSpec)

/-- ITS FALSE NEIGHBOUR: 'it returns false'. Refute it at one input. -/
def topRefaultReachWrong : ChangeSpec := { name := "topRefaultReach", fn := fun _ => fun
  | [d1, d2] => { results := [.lit (.bool false)], args := [d1, d2] }
  | _ => none }
def TopRefaultReachWrongFalsely : Prop := topRefaultReachRow.holds Try.pinned (OpenSpec.ofChange topRefaultReachWrong)

/-- 'estoverstop.TopLruLists': WHATEVER THE INPUT: true; the input reads as it did. -/
def topLruListsSpec : ChangeSpec := { name := "topLruLists", fn := fun _ => fun
  | [d1, d2] => { results := [.lit (.bool true)], args := [d1, d2] }
  | _ => none }
def topLruListsRow : OpenClaim := { program := "ytdmphjphcdcdkaa", sum := "48dab5f0274b57a75bfffdd9c529b39f6f565d6ee824839c2c39317ecbf07267", func := "estovers/estoverstop.TopLruLists", spec := "topLruLists", apart := false }
def TopLruListsSaid : Prop := topLruListsRow.holds Try.pinned (OpenSpec.ofChange topLruListsSpec)

/-- ITS FALSE NEIGHBOUR: 'it returns false'. Refute it at one input. -/
def topLruListsWrong : ChangeSpec := { name := "topLruLists", fn := fun _ => fun
  | [d1, d2] => { results := [.lit (.bool false)], args := [d1, d2] }
  | _ => none }
def TopLruListsWrongFalsely : Prop := topLruListsRow.holds Try.pinned (OpenSpec.ofChange topLruListsWrong)

/- THE SECOND FORM. 'bulk': how many values and letters a reading holds, each counted each time it is reached (what is shared counts as often as it is met; a slice's spare places count too). A statement '..UptoSaid' is the law's where the arguments, and the package variables that the reading takes, are together of bulk at most 1048576: NARROWER than '..Said'. Prove '..Said' where nothing that the law and all that it calls make is longer than what came in: it says more and counts as full. Else prove '..UptoSaid'. A law counts once. -/
mutual
def uptoBulk {H : Type} : DataW H → Nat
  | .lit (.string bytes) => bytes.length + 1
  | .lit _ => 1
  | .nil => 1
  | .ptr d => uptoBulk d + 1
  | .slice elems spare => uptoBulkAll elems + uptoBulkAll spare + 1
  | .agg parts => uptoBulkAll parts + 1
  | .iface _ d => uptoBulk d + 1
  | .map entries => uptoBulkEntries entries + 1
  | .held _ => 1
def uptoBulkAll {H : Type} : List (DataW H) → Nat
  | [] => 0
  | d :: r => uptoBulk d + uptoBulkAll r
def uptoBulkEntries {H : Type} : List (Lit × DataW H) → Nat
  | [] => 0
  | x :: r => uptoBulkEntry x + uptoBulkEntries r
def uptoBulkEntry {H : Type} : Lit × DataW H → Nat
  | (.string bytes, d) => bytes.length + uptoBulk d + 1
  | (_, d) => uptoBulk d + 1
 end
def uptoSmall : (H : Type) → List (DataW H) → Bool := fun _ ds => decide (uptoBulkAll ds ≤ 1048576)
def OpenSpec.upto (s : _root_.Go.ChangeSpec) : _root_.Go.OpenSpec := { _root_.Go.OpenSpec.ofChange s with cond := some uptoSmall }

/-- 'estoverstop.TopFifoFaults', WHERE WHAT IT READS IS OF BULK AT MOST 1048576: true; the input reads as it did. -/
def topFifoFaultsUptoRow : OpenClaim := { program := "ytdmphjphcdcdkaa", sum := "48dab5f0274b57a75bfffdd9c529b39f6f565d6ee824839c2c39317ecbf07267", func := "estovers/estoverstop.TopFifoFaults", spec := "topFifoFaults", apart := false, narrowed := true }
def TopFifoFaultsUptoSaid : Prop := topFifoFaultsUptoRow.holds Try.pinned (OpenSpec.upto topFifoFaultsSpec)

/-- 'estoverstop.TopRefaultReach', WHERE WHAT IT READS IS OF BULK AT MOST 1048576: true; the input reads as it did. -/
def topRefaultReachUptoRow : OpenClaim := { program := "ytdmphjphcdcdkaa", sum := "48dab5f0274b57a75bfffdd9c529b39f6f565d6ee824839c2c39317ecbf07267", func := "estovers/estoverstop.TopRefaultReach", spec := "topRefaultReach", apart := false, narrowed := true }
def TopRefaultReachUptoSaid : Prop := topRefaultReachUptoRow.holds Try.pinned (OpenSpec.upto topRefaultReachSpec)

/-- 'estoverstop.TopLruLists', WHERE WHAT IT READS IS OF BULK AT MOST 1048576: true; the input reads as it did. -/
def topLruListsUptoRow : OpenClaim := { program := "ytdmphjphcdcdkaa", sum := "48dab5f0274b57a75bfffdd9c529b39f6f565d6ee824839c2c39317ecbf07267", func := "estovers/estoverstop.TopLruLists", spec := "topLruLists", apart := false, narrowed := true }
def TopLruListsUptoSaid : Prop := topLruListsUptoRow.holds Try.pinned (OpenSpec.upto topLruListsSpec)

end Rows
end Go.Proofs.Ytdmphjphcdcdkaa
