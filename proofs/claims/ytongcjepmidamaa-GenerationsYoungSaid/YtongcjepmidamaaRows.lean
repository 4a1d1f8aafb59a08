/-
  No cell of these rows narrows 'for every input' (looked for: loops, veiled, ifaces, maps, wideKeys, modest, calm, conditions, laid).
  DERIVED. THE GIVEN ROWS OF THIS SEAT. 6 by the template 'for every input the law returns true; each argument reads behind the call as it read before'; 0 by the template 'total and deterministic' (their statements: YtongcjepmidamaaTotals.lean).
  GIVEN WITH THE SEED: the statements are not yours to turn. If you find one false, say at which input.
  Laid BY PROGRAM, IN A SANDBOX (cutbox-rows.mjs): the forced cells as the released guide's own fill.sh prints them over the translation ae4f082eb800a7ac… (all of the seat's roots in one cut). By AI agents, Wed Nov 11 2026. No macro, syntax, notation, axiom, sorry.
-/
import Derived.Test.YtongcjepmidamaaChecked
import GoSem.Claim
import GoSem.ClaimJoined
import GoSem.ClaimMapViews
import Derived.JoinedTies
import Derived.KernelRfl
namespace Go.Proofs.Ytongcjepmidamaa
/- THE CELL 'sum', in the pinned program and in every row, IS THE sha256 OF THE DUMP (.gsa) THAT YtongcjepmidamaaProg.lean LOADS. Nothing in Lean hashes anything: it is a label: what it is worth is what the hold of that sum in a sandbox is worth. -/
noncomputable def Try.pinned : Pinned := { name := "ytongcjepmidamaa", sum := "ae4f082eb800a7ac88b67c5c0a72e1b5f9f0f1cdcba44debcd3350afbe815d79", checked := Try.checked }
namespace Rows
def none {H : Type} : Left H := { results := [], args := [] }

/-- 'estoverslaw36.GenerationsAsks': WHATEVER THE INPUT: true; the input reads as it did. -/
def generationsAsksSpec : ChangeSpec := { name := "generationsAsks", fn := fun _ => fun
  | [d1, d2] => { results := [.lit (.bool true)], args := [d1, d2] }
  | _ => none }
def generationsAsksRow : OpenClaim := { program := "ytongcjepmidamaa", sum := "ae4f082eb800a7ac88b67c5c0a72e1b5f9f0f1cdcba44debcd3350afbe815d79", func := "estovers/estoverslaw36.GenerationsAsks", spec := "generationsAsks", unfollowed := true, recurses := true, apart := false }
def GenerationsAsksSaid : Prop := generationsAsksRow.holds Try.pinned (OpenSpec.ofChange generationsAsksSpec)

/-- ITS FALSE NEIGHBOUR: 'it returns false'. Refute it at one input. -/
def generationsAsksWrong : ChangeSpec := { name := "generationsAsks", fn := fun _ => fun
  | [d1, d2] => { results := [.lit (.bool false)], args := [d1, d2] }
  | _ => none }
def GenerationsAsksWrongFalsely : Prop := generationsAsksRow.holds Try.pinned (OpenSpec.ofChange generationsAsksWrong)

/-- 'estoverslaw36.GenerationsChanges': WHATEVER THE INPUT: true; the input reads as it did. -/
def generationsChangesSpec : ChangeSpec := { name := "generationsChanges", fn := fun _ => fun
  | [d1, d2, d3] => { results := [.lit (.bool true)], args := [d1, d2, d3] }
  | _ => none }
def generationsChangesRow : OpenClaim := { program := "ytongcjepmidamaa", sum := "ae4f082eb800a7ac88b67c5c0a72e1b5f9f0f1cdcba44debcd3350afbe815d79", func := "estovers/estoverslaw36.GenerationsChanges", spec := "generationsChanges", unfollowed := true, recurses := true, apart := false }
def GenerationsChangesSaid : Prop := generationsChangesRow.holds Try.pinned (OpenSpec.ofChange generationsChangesSpec)

/-- ITS FALSE NEIGHBOUR: 'it returns false'. Refute it at one input. -/
def generationsChangesWrong : ChangeSpec := { name := "generationsChanges", fn := fun _ => fun
  | [d1, d2, d3] => { results := [.lit (.bool false)], args := [d1, d2, d3] }
  | _ => none }
def GenerationsChangesWrongFalsely : Prop := generationsChangesRow.holds Try.pinned (OpenSpec.ofChange generationsChangesWrong)

/-- 'estoverslaw36.GenerationsAges': WHATEVER THE INPUT: true; the input reads as it did. -/
def generationsAgesSpec : ChangeSpec := { name := "generationsAges", fn := fun _ => fun
  | [d1, d2] => { results := [.lit (.bool true)], args := [d1, d2] }
  | _ => none }
def generationsAgesRow : OpenClaim := { program := "ytongcjepmidamaa", sum := "ae4f082eb800a7ac88b67c5c0a72e1b5f9f0f1cdcba44debcd3350afbe815d79", func := "estovers/estoverslaw36.GenerationsAges", spec := "generationsAges", unfollowed := true, recurses := true, apart := false }
def GenerationsAgesSaid : Prop := generationsAgesRow.holds Try.pinned (OpenSpec.ofChange generationsAgesSpec)

/-- ITS FALSE NEIGHBOUR: 'it returns false'. Refute it at one input. -/
def generationsAgesWrong : ChangeSpec := { name := "generationsAges", fn := fun _ => fun
  | [d1, d2] => { results := [.lit (.bool false)], args := [d1, d2] }
  | _ => none }
def GenerationsAgesWrongFalsely : Prop := generationsAgesRow.holds Try.pinned (OpenSpec.ofChange generationsAgesWrong)

/-- 'estoverslaw36.GenerationsSettle': WHATEVER THE INPUT: true; the input reads as it did. -/
def generationsSettleSpec : ChangeSpec := { name := "generationsSettle", fn := fun _ => fun
  | [d] => { results := [.lit (.bool true)], args := [d] }
  | _ => none }
def generationsSettleRow : OpenClaim := { program := "ytongcjepmidamaa", sum := "ae4f082eb800a7ac88b67c5c0a72e1b5f9f0f1cdcba44debcd3350afbe815d79", func := "estovers/estoverslaw36.GenerationsSettle", spec := "generationsSettle", unfollowed := true, recurses := true, apart := false }
def GenerationsSettleSaid : Prop := generationsSettleRow.holds Try.pinned (OpenSpec.ofChange generationsSettleSpec)

/-- ITS FALSE NEIGHBOUR: 'it returns false'. Refute it at one input. -/
def generationsSettleWrong : ChangeSpec := { name := "generationsSettle", fn := fun _ => fun
  | [d] => { results := [.lit (.bool false)], args := [d] }
  | _ => none }
def GenerationsSettleWrongFalsely : Prop := generationsSettleRow.holds Try.pinned (OpenSpec.ofChange generationsSettleWrong)

/-- 'estoverslaw36.GenerationsUndo': WHATEVER THE INPUT: true; the input reads as it did. -/
def generationsUndoSpec : ChangeSpec := { name := "generationsUndo", fn := fun _ => fun
  | [d1, d2, d3] => { results := [.lit (.bool true)], args := [d1, d2, d3] }
  | _ => none }
def generationsUndoRow : OpenClaim := { program := "ytongcjepmidamaa", sum := "ae4f082eb800a7ac88b67c5c0a72e1b5f9f0f1cdcba44debcd3350afbe815d79", func := "estovers/estoverslaw36.GenerationsUndo", spec := "generationsUndo", unfollowed := true, recurses := true, apart := false }
def GenerationsUndoSaid : Prop := generationsUndoRow.holds Try.pinned (OpenSpec.ofChange generationsUndoSpec)

/-- ITS FALSE NEIGHBOUR: 'it returns false'. Refute it at one input. -/
def generationsUndoWrong : ChangeSpec := { name := "generationsUndo", fn := fun _ => fun
  | [d1, d2, d3] => { results := [.lit (.bool false)], args := [d1, d2, d3] }
  | _ => none }
def GenerationsUndoWrongFalsely : Prop := generationsUndoRow.holds Try.pinned (OpenSpec.ofChange generationsUndoWrong)

/-- 'estoverslaw36.GenerationsYoung': WHATEVER THE INPUT: true; the input reads as it did. -/
def generationsYoungSpec : ChangeSpec := { name := "generationsYoung", fn := fun _ => fun
  | [d1, d2] => { results := [.lit (.bool true)], args := [d1, d2] }
  | _ => none }
def generationsYoungRow : OpenClaim := { program := "ytongcjepmidamaa", sum := "ae4f082eb800a7ac88b67c5c0a72e1b5f9f0f1cdcba44debcd3350afbe815d79", func := "estovers/estoverslaw36.GenerationsYoung", spec := "generationsYoung", unfollowed := true, recurses := true, apart := false }
def GenerationsYoungSaid : Prop := generationsYoungRow.holds Try.pinned (OpenSpec.ofChange generationsYoungSpec)

/-- ITS FALSE NEIGHBOUR: 'it returns false'. Refute it at one input. -/
def generationsYoungWrong : ChangeSpec := { name := "generationsYoung", fn := fun _ => fun
  | [d1, d2] => { results := [.lit (.bool false)], args := [d1, d2] }
  | _ => none }
def GenerationsYoungWrongFalsely : Prop := generationsYoungRow.holds Try.pinned (OpenSpec.ofChange generationsYoungWrong)

/- THE SECOND FORM. 'bulk': how many values and letters a reading holds, each counted each time it is reached (what is shared counts as often as it is met; a slice's spare places count too). A statement '..UptoSaid' is the law's where the arguments, and the package variables that the reading takes, are together of bulk at most 1048576: NARROWER than '..Said'. Prove '..Said' where nothing that the law and all that it calls make is longer than what came in: it says more and counts as full. Else prove '..UptoSaid'. A law counts once. -/
mutual
def uptoBulk {H : Type} : DataW H → Nat
  | .lit (.string bytes) => bytes.length + 1
  | .lit _ => 1
  | .nil => 1
  | .ptr d => uptoBulk d + 1
  | .slice elems spare => uptoBulkAll elems + uptoBulkAll spare + 1
  | .agg parts => uptoBulkAll parts + 1
  | .iface _ d => uptoBulk d + 1
  | .map entries => uptoBulkEntries entries + 1
  | .held _ => 1
def uptoBulkAll {H : Type} : List (DataW H) → Nat
  | [] => 0
  | d :: r => uptoBulk d + uptoBulkAll r
def uptoBulkEntries {H : Type} : List (Lit × DataW H) → Nat
  | [] => 0
  | x :: r => uptoBulkEntry x + uptoBulkEntries r
def uptoBulkEntry {H : Type} : Lit × DataW H → Nat
  | (.string bytes, d) => bytes.length + uptoBulk d + 1
  | (_, d) => uptoBulk d + 1
 end
def uptoSmall : (H : Type) → List (DataW H) → Bool := fun _ ds => decide (uptoBulkAll ds ≤ 1048576)
def OpenSpec.upto (s : _root_.Go.ChangeSpec) : _root_.Go.OpenSpec := { _root_.Go.OpenSpec.ofChange s with cond := some uptoSmall }

/-- 'estoverslaw36.GenerationsAsks', WHERE WHAT IT READS IS OF BULK AT MOST 1048576: true; the input reads as it did. -/
def generationsAsksUptoRow : OpenClaim := { program := "ytongcjepmidamaa", sum := "ae4f082eb800a7ac88b67c5c0a72e1b5f9f0f1cdcba44debcd3350afbe815d79", func := "estovers/estoverslaw36.GenerationsAsks", spec := "generationsAsks", unfollowed := true, recurses := true, apart := false, narrowed := true }
def GenerationsAsksUptoSaid : Prop := generationsAsksUptoRow.holds Try.pinned (OpenSpec.upto generationsAsksSpec)

/-- 'estoverslaw36.GenerationsChanges', WHERE WHAT IT READS IS OF BULK AT MOST 1048576: true; the input reads as it did. -/
def generationsChangesUptoRow : OpenClaim := { program := "ytongcjepmidamaa", sum := "ae4f082eb800a7ac88b67c5c0a72e1b5f9f0f1cdcba44debcd3350afbe815d79", func := "estovers/estoverslaw36.GenerationsChanges", spec := "generationsChanges", unfollowed := true, recurses := true, apart := false, narrowed := true }
def GenerationsChangesUptoSaid : Prop := generationsChangesUptoRow.holds Try.pinned (OpenSpec.upto generationsChangesSpec)

/-- 'estoverslaw36.GenerationsAges', WHERE WHAT IT READS IS OF BULK AT MOST 1048576: true; the input reads as it did. -/
def generationsAgesUptoRow : OpenClaim := { program := "ytongcjepmidamaa", sum := "ae4f082eb800a7ac88b67c5c0a72e1b5f9f0f1cdcba44debcd3350afbe815d79", func := "estovers/estoverslaw36.GenerationsAges", spec := "generationsAges", unfollowed := true, recurses := true, apart := false, narrowed := true }
def GenerationsAgesUptoSaid : Prop := generationsAgesUptoRow.holds Try.pinned (OpenSpec.upto generationsAgesSpec)

/-- 'estoverslaw36.GenerationsSettle', WHERE WHAT IT READS IS OF BULK AT MOST 1048576: true; the input reads as it did. -/
def generationsSettleUptoRow : OpenClaim := { program := "ytongcjepmidamaa", sum := "ae4f082eb800a7ac88b67c5c0a72e1b5f9f0f1cdcba44debcd3350afbe815d79", func := "estovers/estoverslaw36.GenerationsSettle", spec := "generationsSettle", unfollowed := true, recurses := true, apart := false, narrowed := true }
def GenerationsSettleUptoSaid : Prop := generationsSettleUptoRow.holds Try.pinned (OpenSpec.upto generationsSettleSpec)

/-- 'estoverslaw36.GenerationsUndo', WHERE WHAT IT READS IS OF BULK AT MOST 1048576: true; the input reads as it did. -/
def generationsUndoUptoRow : OpenClaim := { program := "ytongcjepmidamaa", sum := "ae4f082eb800a7ac88b67c5c0a72e1b5f9f0f1cdcba44debcd3350afbe815d79", func := "estovers/estoverslaw36.GenerationsUndo", spec := "generationsUndo", unfollowed := true, recurses := true, apart := false, narrowed := true }
def GenerationsUndoUptoSaid : Prop := generationsUndoUptoRow.holds Try.pinned (OpenSpec.upto generationsUndoSpec)

/-- 'estoverslaw36.GenerationsYoung', WHERE WHAT IT READS IS OF BULK AT MOST 1048576: true; the input reads as it did. -/
def generationsYoungUptoRow : OpenClaim := { program := "ytongcjepmidamaa", sum := "ae4f082eb800a7ac88b67c5c0a72e1b5f9f0f1cdcba44debcd3350afbe815d79", func := "estovers/estoverslaw36.GenerationsYoung", spec := "generationsYoung", unfollowed := true, recurses := true, apart := false, narrowed := true }
def GenerationsYoungUptoSaid : Prop := generationsYoungUptoRow.holds Try.pinned (OpenSpec.upto generationsYoungSpec)

end Rows
end Go.Proofs.Ytongcjepmidamaa
