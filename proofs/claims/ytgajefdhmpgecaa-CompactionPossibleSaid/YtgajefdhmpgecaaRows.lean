/-
  No cell of these rows narrows 'for every input' (looked for: loops, veiled, ifaces, maps, wideKeys, modest, calm, conditions, laid).
  DERIVED. THE GIVEN ROWS OF THIS SEAT. 7 by the template 'for every input the law returns true; each argument reads behind the call as it read before'; 0 by the template 'total and deterministic' (their statements: YtgajefdhmpgecaaTotals.lean).
  GIVEN WITH THE SEED: the statements are not yours to turn. If you find one false, say at which input.
  Laid BY PROGRAM, IN A SANDBOX (cutbox-rows.mjs): the forced cells as the released guide's own fill.sh prints them over the translation 81a5c8e365d70185… (all of the seat's roots in one cut). By AI agents, Wed Nov 11 2026. No macro, syntax, notation, axiom, sorry.
-/
import Derived.Test.YtgajefdhmpgecaaChecked
import GoSem.Claim
import GoSem.ClaimJoined
import GoSem.ClaimMapViews
import Derived.JoinedTies
import Derived.KernelRfl
namespace Go.Proofs.Ytgajefdhmpgecaa
/- THE CELL 'sum', in the pinned program and in every row, IS THE sha256 OF THE DUMP (.gsa) THAT YtgajefdhmpgecaaProg.lean LOADS. Nothing in Lean hashes anything: it is a label: what it is worth is what the hold of that sum in a sandbox is worth. -/
noncomputable def Try.pinned : Pinned := { name := "ytgajefdhmpgecaa", sum := "81a5c8e365d70185cbef6b9bcaa083bd483d5a4cacb39ac93828213fe3e7a9ef", checked := Try.checked }
namespace Rows
def none {H : Type} : Left H := { results := [], args := [] }

/-- 'estoverslaw40.CompactionPlans': WHATEVER THE INPUT: true; the input reads as it did. -/
def compactionPlansSpec : ChangeSpec := { name := "compactionPlans", fn := fun _ => fun
  | [d] => { results := [.lit (.bool true)], args := [d] }
  | _ => none }
def compactionPlansRow : OpenClaim := { program := "ytgajefdhmpgecaa", sum := "81a5c8e365d70185cbef6b9bcaa083bd483d5a4cacb39ac93828213fe3e7a9ef", func := "estovers/estoverslaw40.CompactionPlans", spec := "compactionPlans", unfollowed := true, recurses := true, apart := false }
def CompactionPlansSaid : Prop := compactionPlansRow.holds Try.pinned (OpenSpec.ofChange compactionPlansSpec)

/-- ITS FALSE NEIGHBOUR: 'it returns false'. Refute it at one input. -/
def compactionPlansWrong : ChangeSpec := { name := "compactionPlans", fn := fun _ => fun
  | [d] => { results := [.lit (.bool false)], args := [d] }
  | _ => none }
def CompactionPlansWrongFalsely : Prop := compactionPlansRow.holds Try.pinned (OpenSpec.ofChange compactionPlansWrong)

/-- 'estoverslaw40.CompactionApplies': WHATEVER THE INPUT: true; the input reads as it did. -/
def compactionAppliesSpec : ChangeSpec := { name := "compactionApplies", fn := fun _ => fun
  | [d1, d2] => { results := [.lit (.bool true)], args := [d1, d2] }
  | _ => none }
def compactionAppliesRow : OpenClaim := { program := "ytgajefdhmpgecaa", sum := "81a5c8e365d70185cbef6b9bcaa083bd483d5a4cacb39ac93828213fe3e7a9ef", func := "estovers/estoverslaw40.CompactionApplies", spec := "compactionApplies", unfollowed := true, recurses := true, apart := false }
def CompactionAppliesSaid : Prop := compactionAppliesRow.holds Try.pinned (OpenSpec.ofChange compactionAppliesSpec)

/-- ITS FALSE NEIGHBOUR: 'it returns false'. Refute it at one input. -/
def compactionAppliesWrong : ChangeSpec := { name := "compactionApplies", fn := fun _ => fun
  | [d1, d2] => { results := [.lit (.bool false)], args := [d1, d2] }
  | _ => none }
def CompactionAppliesWrongFalsely : Prop := compactionAppliesRow.holds Try.pinned (OpenSpec.ofChange compactionAppliesWrong)

/-- 'estoverslaw40.CompactionBlocks': WHATEVER THE INPUT: true; the input reads as it did. -/
def compactionBlocksSpec : ChangeSpec := { name := "compactionBlocks", fn := fun _ => fun
  | [d1, d2] => { results := [.lit (.bool true)], args := [d1, d2] }
  | _ => none }
def compactionBlocksRow : OpenClaim := { program := "ytgajefdhmpgecaa", sum := "81a5c8e365d70185cbef6b9bcaa083bd483d5a4cacb39ac93828213fe3e7a9ef", func := "estovers/estoverslaw40.CompactionBlocks", spec := "compactionBlocks", unfollowed := true, recurses := true, apart := false }
def CompactionBlocksSaid : Prop := compactionBlocksRow.holds Try.pinned (OpenSpec.ofChange compactionBlocksSpec)

/-- ITS FALSE NEIGHBOUR: 'it returns false'. Refute it at one input. -/
def compactionBlocksWrong : ChangeSpec := { name := "compactionBlocks", fn := fun _ => fun
  | [d1, d2] => { results := [.lit (.bool false)], args := [d1, d2] }
  | _ => none }
def CompactionBlocksWrongFalsely : Prop := compactionBlocksRow.holds Try.pinned (OpenSpec.ofChange compactionBlocksWrong)

/-- 'estoverslaw40.CompactionClears': WHATEVER THE INPUT: true; the input reads as it did. -/
def compactionClearsSpec : ChangeSpec := { name := "compactionClears", fn := fun _ => fun
  | [d1, d2, d3] => { results := [.lit (.bool true)], args := [d1, d2, d3] }
  | _ => none }
def compactionClearsRow : OpenClaim := { program := "ytgajefdhmpgecaa", sum := "81a5c8e365d70185cbef6b9bcaa083bd483d5a4cacb39ac93828213fe3e7a9ef", func := "estovers/estoverslaw40.CompactionClears", spec := "compactionClears", unfollowed := true, recurses := true, apart := false }
def CompactionClearsSaid : Prop := compactionClearsRow.holds Try.pinned (OpenSpec.ofChange compactionClearsSpec)

/-- ITS FALSE NEIGHBOUR: 'it returns false'. Refute it at one input. -/
def compactionClearsWrong : ChangeSpec := { name := "compactionClears", fn := fun _ => fun
  | [d1, d2, d3] => { results := [.lit (.bool false)], args := [d1, d2, d3] }
  | _ => none }
def CompactionClearsWrongFalsely : Prop := compactionClearsRow.holds Try.pinned (OpenSpec.ofChange compactionClearsWrong)

/-- 'estoverslaw40.CompactionPacks': WHATEVER THE INPUT: true; the input reads as it did. -/
def compactionPacksSpec : ChangeSpec := { name := "compactionPacks", fn := fun _ => fun
  | [d] => { results := [.lit (.bool true)], args := [d] }
  | _ => none }
def compactionPacksRow : OpenClaim := { program := "ytgajefdhmpgecaa", sum := "81a5c8e365d70185cbef6b9bcaa083bd483d5a4cacb39ac93828213fe3e7a9ef", func := "estovers/estoverslaw40.CompactionPacks", spec := "compactionPacks", unfollowed := true, recurses := true, apart := false }
def CompactionPacksSaid : Prop := compactionPacksRow.holds Try.pinned (OpenSpec.ofChange compactionPacksSpec)

/-- ITS FALSE NEIGHBOUR: 'it returns false'. Refute it at one input. -/
def compactionPacksWrong : ChangeSpec := { name := "compactionPacks", fn := fun _ => fun
  | [d] => { results := [.lit (.bool false)], args := [d] }
  | _ => none }
def CompactionPacksWrongFalsely : Prop := compactionPacksRow.holds Try.pinned (OpenSpec.ofChange compactionPacksWrong)

/-- 'estoverslaw40.CompactionFrees': WHATEVER THE INPUT: true; the input reads as it did. -/
def compactionFreesSpec : ChangeSpec := { name := "compactionFrees", fn := fun _ => fun
  | [d1, d2, d3] => { results := [.lit (.bool true)], args := [d1, d2, d3] }
  | _ => none }
def compactionFreesRow : OpenClaim := { program := "ytgajefdhmpgecaa", sum := "81a5c8e365d70185cbef6b9bcaa083bd483d5a4cacb39ac93828213fe3e7a9ef", func := "estovers/estoverslaw40.CompactionFrees", spec := "compactionFrees", unfollowed := true, recurses := true, apart := false }
def CompactionFreesSaid : Prop := compactionFreesRow.holds Try.pinned (OpenSpec.ofChange compactionFreesSpec)

/-- ITS FALSE NEIGHBOUR: 'it returns false'. Refute it at one input. -/
def compactionFreesWrong : ChangeSpec := { name := "compactionFrees", fn := fun _ => fun
  | [d1, d2, d3] => { results := [.lit (.bool false)], args := [d1, d2, d3] }
  | _ => none }
def CompactionFreesWrongFalsely : Prop := compactionFreesRow.holds Try.pinned (OpenSpec.ofChange compactionFreesWrong)

/-- 'estoverslaw40.CompactionPossible': WHATEVER THE INPUT: true; the input reads as it did. -/
def compactionPossibleSpec : ChangeSpec := { name := "compactionPossible", fn := fun _ => fun
  | [d1, d2] => { results := [.lit (.bool true)], args := [d1, d2] }
  | _ => none }
def compactionPossibleRow : OpenClaim := { program := "ytgajefdhmpgecaa", sum := "81a5c8e365d70185cbef6b9bcaa083bd483d5a4cacb39ac93828213fe3e7a9ef", func := "estovers/estoverslaw40.CompactionPossible", spec := "compactionPossible", unfollowed := true, recurses := true, apart := false }
def CompactionPossibleSaid : Prop := compactionPossibleRow.holds Try.pinned (OpenSpec.ofChange compactionPossibleSpec)

/-- ITS FALSE NEIGHBOUR: 'it returns false'. Refute it at one input. -/
def compactionPossibleWrong : ChangeSpec := { name := "compactionPossible", fn := fun _ => fun
  | [d1, d2] => { results := [.lit (.bool false)], args := [d1, d2] }
  | _ => none }
def CompactionPossibleWrongFalsely : Prop := compactionPossibleRow.holds Try.pinned (OpenSpec.ofChange compactionPossibleWrong)

/- THE SECOND FORM. 'bulk': how many values and letters a reading holds, each counted each time it is reached (what is shared counts as often as it is met; a slice's spare places count too). A statement '..UptoSaid' is the law's where the arguments, and the package variables that the reading takes, are together of bulk at most 1048576: NARROWER than '..Said'. Prove '..Said' where nothing that the law and all that it calls make is longer than what came in: it says more and counts as full. Else prove '..UptoSaid'. A law counts once. -/
mutual
def uptoBulk {H : Type} : DataW H → Nat
  | .lit (.string bytes) => bytes.length + 1
  | .lit _ => 1
  | .nil => 1
  | .ptr d => uptoBulk d + 1
  | .slice elems spare => uptoBulkAll elems + uptoBulkAll spare + 1
  | .agg parts => uptoBulkAll parts + 1
  | .iface _ d => uptoBulk d + 1
  | .map entries => uptoBulkEntries entries + 1
  | .held _ => 1
def uptoBulkAll {H : Type} : List (DataW H) → Nat
  | [] => 0
  | d :: r => uptoBulk d + uptoBulkAll r
def uptoBulkEntries {H : Type} : List (Lit × DataW H) → Nat
  | [] => 0
  | x :: r => uptoBulkEntry x + uptoBulkEntries r
def uptoBulkEntry {H : Type} : Lit × DataW H → Nat
  | (.string bytes, d) => bytes.length + uptoBulk d + 1
  | (_, d) => uptoBulk d + 1
 end
def uptoSmall : (H : Type) → List (DataW H) → Bool := fun _ ds => decide (uptoBulkAll ds ≤ 1048576)
def OpenSpec.upto (s : _root_.Go.ChangeSpec) : _root_.Go.OpenSpec := { _root_.Go.OpenSpec.ofChange s with cond := some uptoSmall }

/-- 'estoverslaw40.CompactionPlans', WHERE WHAT IT READS IS OF BULK AT MOST 1048576: true; the input reads as it did. -/
def compactionPlansUptoRow : OpenClaim := { program := "ytgajefdhmpgecaa", sum := "81a5c8e365d70185cbef6b9bcaa083bd483d5a4cacb39ac93828213fe3e7a9ef", func := "estovers/estoverslaw40.CompactionPlans", spec := "compactionPlans", unfollowed := true, recurses := true, apart := false, narrowed := true }
def CompactionPlansUptoSaid : Prop := compactionPlansUptoRow.holds Try.pinned (OpenSpec.upto compactionPlansSpec)

/-- 'estoverslaw40.CompactionApplies', WHERE WHAT IT READS IS OF BULK AT MOST 1048576: true; the input reads as it did. -/
def compactionAppliesUptoRow : OpenClaim := { program := "ytgajefdhmpgecaa", sum := "81a5c8e365d70185cbef6b9bcaa083bd483d5a4cacb39ac93828213fe3e7a9ef", func := "estovers/estoverslaw40.CompactionApplies", spec := "compactionApplies", unfollowed := true, recurses := true, apart := false, narrowed := true }
def CompactionAppliesUptoSaid : Prop := compactionAppliesUptoRow.holds Try.pinned (OpenSpec.upto compactionAppliesSpec)

/-- 'estoverslaw40.CompactionBlocks', WHERE WHAT IT READS IS OF BULK AT MOST 1048576: true; the input reads as it did. -/
def compactionBlocksUptoRow : OpenClaim := { program := "ytgajefdhmpgecaa", sum := "81a5c8e365d70185cbef6b9bcaa083bd483d5a4cacb39ac93828213fe3e7a9ef", func := "estovers/estoverslaw40.CompactionBlocks", spec := "compactionBlocks", unfollowed := true, recurses := true, apart := false, narrowed := true }
def CompactionBlocksUptoSaid : Prop := compactionBlocksUptoRow.holds Try.pinned (OpenSpec.upto compactionBlocksSpec)

/-- 'estoverslaw40.CompactionClears', WHERE WHAT IT READS IS OF BULK AT MOST 1048576: true; the input reads as it did. -/
def compactionClearsUptoRow : OpenClaim := { program := "ytgajefdhmpgecaa", sum := "81a5c8e365d70185cbef6b9bcaa083bd483d5a4cacb39ac93828213fe3e7a9ef", func := "estovers/estoverslaw40.CompactionClears", spec := "compactionClears", unfollowed := true, recurses := true, apart := false, narrowed := true }
def CompactionClearsUptoSaid : Prop := compactionClearsUptoRow.holds Try.pinned (OpenSpec.upto compactionClearsSpec)

/-- 'estoverslaw40.CompactionPacks', WHERE WHAT IT READS IS OF BULK AT MOST 1048576: true; the input reads as it did. -/
def compactionPacksUptoRow : OpenClaim := { program := "ytgajefdhmpgecaa", sum := "81a5c8e365d70185cbef6b9bcaa083bd483d5a4cacb39ac93828213fe3e7a9ef", func := "estovers/estoverslaw40.CompactionPacks", spec := "compactionPacks", unfollowed := true, recurses := true, apart := false, narrowed := true }
def CompactionPacksUptoSaid : Prop := compactionPacksUptoRow.holds Try.pinned (OpenSpec.upto compactionPacksSpec)

/-- 'estoverslaw40.CompactionFrees', WHERE WHAT IT READS IS OF BULK AT MOST 1048576: true; the input reads as it did. -/
def compactionFreesUptoRow : OpenClaim := { program := "ytgajefdhmpgecaa", sum := "81a5c8e365d70185cbef6b9bcaa083bd483d5a4cacb39ac93828213fe3e7a9ef", func := "estovers/estoverslaw40.CompactionFrees", spec := "compactionFrees", unfollowed := true, recurses := true, apart := false, narrowed := true }
def CompactionFreesUptoSaid : Prop := compactionFreesUptoRow.holds Try.pinned (OpenSpec.upto compactionFreesSpec)

/-- 'estoverslaw40.CompactionPossible', WHERE WHAT IT READS IS OF BULK AT MOST 1048576: true; the input reads as it did. -/
def compactionPossibleUptoRow : OpenClaim := { program := "ytgajefdhmpgecaa", sum := "81a5c8e365d70185cbef6b9bcaa083bd483d5a4cacb39ac93828213fe3e7a9ef", func := "estovers/estoverslaw40.CompactionPossible", spec := "compactionPossible", unfollowed := true, recurses := true, apart := false, narrowed := true }
def CompactionPossibleUptoSaid : Prop := compactionPossibleUptoRow.holds Try.pinned (OpenSpec.upto compactionPossibleSpec)

end Rows
end Go.Proofs.Ytgajefdhmpgecaa
