/-
  No cell of these rows narrows 'for every input' (looked for: loops, veiled, ifaces, maps, wideKeys, modest, calm, conditions, laid).
  DERIVED. THE GIVEN ROWS OF THIS SEAT. 9 by the template 'for every input the law returns true; each argument reads behind the call as it read before'; 0 by the template 'total and deterministic' (their statements: YthdnjkgolcpbjaaTotals.lean).
  GIVEN WITH THE SEED: the statements are not yours to turn. If you find one false, say at which input.
  Laid BY PROGRAM, IN A SANDBOX (cutbox-rows.mjs): the forced cells as the released guide's own fill.sh prints them over the translation 79a7897536bafd7b… (all of the seat's roots in one cut). By AI agents, Wed Nov 11 2026. No macro, syntax, notation, axiom, sorry.
-/
import Derived.Test.YthdnjkgolcpbjaaChecked
import GoSem.Claim
import GoSem.ClaimJoined
import GoSem.ClaimMapViews
import Derived.JoinedTies
import Derived.KernelRfl
namespace Go.Proofs.Ythdnjkgolcpbjaa
/- THE CELL 'sum', in the pinned program and in every row, IS THE sha256 OF THE DUMP (.gsa) THAT YthdnjkgolcpbjaaProg.lean LOADS. Nothing in Lean hashes anything: it is a label: what it is worth is what the hold of that sum in a sandbox is worth. -/
noncomputable def Try.pinned : Pinned := { name := "ythdnjkgolcpbjaa", sum := "79a7897536bafd7b9bcaca032154f8e7eea447fab5d7d029eb907c19d91a568e", checked := Try.checked }
namespace Rows
def none {H : Type} : Left H := { results := [], args := [] }

/-- 'estoverslaw05.PteEncodes': WHATEVER THE INPUT: true; the input reads as it did. -/
def pteEncodesSpec : ChangeSpec := { name := "pteEncodes", fn := fun _ => fun
  | [d] => { results := [.lit (.bool true)], args := [d] }
  | _ => none }
def pteEncodesRow : OpenClaim := { program := "ythdnjkgolcpbjaa", sum := "79a7897536bafd7b9bcaca032154f8e7eea447fab5d7d029eb907c19d91a568e", func := "estovers/estoverslaw05.PteEncodes", spec := "pteEncodes", apart := false }
def PteEncodesSaid : Prop := pteEncodesRow.holds Try.pinned (OpenSpec.ofChange pteEncodesSpec)

/-- ITS FALSE NEIGHBOUR: 'it returns false'. Refute it at one input. -/
def pteEncodesWrong : ChangeSpec := { name := "pteEncodes", fn := fun _ => fun
  | [d] => { results := [.lit (.bool false)], args := [d] }
  | _ => none }
def PteEncodesWrongFalsely : Prop := pteEncodesRow.holds Try.pinned (OpenSpec.ofChange pteEncodesWrong)

/-- 'estoverslaw05.PteDecodes': WHATEVER THE INPUT: true; the input reads as it did. -/
def pteDecodesSpec : ChangeSpec := { name := "pteDecodes", fn := fun _ => fun
  | [d] => { results := [.lit (.bool true)], args := [d] }
  | _ => none }
def pteDecodesRow : OpenClaim := { program := "ythdnjkgolcpbjaa", sum := "79a7897536bafd7b9bcaca032154f8e7eea447fab5d7d029eb907c19d91a568e", func := "estovers/estoverslaw05.PteDecodes", spec := "pteDecodes", apart := false }
def PteDecodesSaid : Prop := pteDecodesRow.holds Try.pinned (OpenSpec.ofChange pteDecodesSpec)

/-- ITS FALSE NEIGHBOUR: 'it returns false'. Refute it at one input. -/
def pteDecodesWrong : ChangeSpec := { name := "pteDecodes", fn := fun _ => fun
  | [d] => { results := [.lit (.bool false)], args := [d] }
  | _ => none }
def PteDecodesWrongFalsely : Prop := pteDecodesRow.holds Try.pinned (OpenSpec.ofChange pteDecodesWrong)

/-- 'estoverslaw05.PteParts': WHATEVER THE INPUT: true; the input reads as it did. -/
def ptePartsSpec : ChangeSpec := { name := "pteParts", fn := fun _ => fun
  | [d1, d2] => { results := [.lit (.bool true)], args := [d1, d2] }
  | _ => none }
def ptePartsRow : OpenClaim := { program := "ythdnjkgolcpbjaa", sum := "79a7897536bafd7b9bcaca032154f8e7eea447fab5d7d029eb907c19d91a568e", func := "estovers/estoverslaw05.PteParts", spec := "pteParts", apart := false }
def PtePartsSaid : Prop := ptePartsRow.holds Try.pinned (OpenSpec.ofChange ptePartsSpec)

/-- ITS FALSE NEIGHBOUR: 'it returns false'. Refute it at one input. -/
def ptePartsWrong : ChangeSpec := { name := "pteParts", fn := fun _ => fun
  | [d1, d2] => { results := [.lit (.bool false)], args := [d1, d2] }
  | _ => none }
def PtePartsWrongFalsely : Prop := ptePartsRow.holds Try.pinned (OpenSpec.ofChange ptePartsWrong)

/-- 'estoverslaw05.PteInverse': WHATEVER THE INPUT: true; the input reads as it did. -/
def pteInverseSpec : ChangeSpec := { name := "pteInverse", fn := fun _ => fun
  | [d1, d2] => { results := [.lit (.bool true)], args := [d1, d2] }
  | _ => none }
def pteInverseRow : OpenClaim := { program := "ythdnjkgolcpbjaa", sum := "79a7897536bafd7b9bcaca032154f8e7eea447fab5d7d029eb907c19d91a568e", func := "estovers/estoverslaw05.PteInverse", spec := "pteInverse", apart := false }
def PteInverseSaid : Prop := pteInverseRow.holds Try.pinned (OpenSpec.ofChange pteInverseSpec)

/-- ITS FALSE NEIGHBOUR: 'it returns false'. Refute it at one input. -/
def pteInverseWrong : ChangeSpec := { name := "pteInverse", fn := fun _ => fun
  | [d1, d2] => { results := [.lit (.bool false)], args := [d1, d2] }
  | _ => none }
def PteInverseWrongFalsely : Prop := pteInverseRow.holds Try.pinned (OpenSpec.ofChange pteInverseWrong)

/-- 'estoverslaw05.PteDistinct': WHATEVER THE INPUT: true; the input reads as it did. -/
def pteDistinctSpec : ChangeSpec := { name := "pteDistinct", fn := fun _ => fun
  | [d1, d2] => { results := [.lit (.bool true)], args := [d1, d2] }
  | _ => none }
def pteDistinctRow : OpenClaim := { program := "ythdnjkgolcpbjaa", sum := "79a7897536bafd7b9bcaca032154f8e7eea447fab5d7d029eb907c19d91a568e", func := "estovers/estoverslaw05.PteDistinct", spec := "pteDistinct", apart := false }
def PteDistinctSaid : Prop := pteDistinctRow.holds Try.pinned (OpenSpec.ofChange pteDistinctSpec)

/-- ITS FALSE NEIGHBOUR: 'it returns false'. Refute it at one input. -/
def pteDistinctWrong : ChangeSpec := { name := "pteDistinct", fn := fun _ => fun
  | [d1, d2] => { results := [.lit (.bool false)], args := [d1, d2] }
  | _ => none }
def PteDistinctWrongFalsely : Prop := pteDistinctRow.holds Try.pinned (OpenSpec.ofChange pteDistinctWrong)

/-- 'estoverslaw05.PteMarks': WHATEVER THE INPUT: true; the input reads as it did. -/
def pteMarksSpec : ChangeSpec := { name := "pteMarks", fn := fun _ => fun
  | [d1, d2] => { results := [.lit (.bool true)], args := [d1, d2] }
  | _ => none }
def pteMarksRow : OpenClaim := { program := "ythdnjkgolcpbjaa", sum := "79a7897536bafd7b9bcaca032154f8e7eea447fab5d7d029eb907c19d91a568e", func := "estovers/estoverslaw05.PteMarks", spec := "pteMarks", apart := false }
def PteMarksSaid : Prop := pteMarksRow.holds Try.pinned (OpenSpec.ofChange pteMarksSpec)

/-- ITS FALSE NEIGHBOUR: 'it returns false'. Refute it at one input. -/
def pteMarksWrong : ChangeSpec := { name := "pteMarks", fn := fun _ => fun
  | [d1, d2] => { results := [.lit (.bool false)], args := [d1, d2] }
  | _ => none }
def PteMarksWrongFalsely : Prop := pteMarksRow.holds Try.pinned (OpenSpec.ofChange pteMarksWrong)

/-- 'estoverslaw05.PteBits': WHATEVER THE INPUT: true; the input reads as it did. -/
def pteBitsSpec : ChangeSpec := { name := "pteBits", fn := fun _ => fun
  | [d1, d2] => { results := [.lit (.bool true)], args := [d1, d2] }
  | _ => none }
def pteBitsRow : OpenClaim := { program := "ythdnjkgolcpbjaa", sum := "79a7897536bafd7b9bcaca032154f8e7eea447fab5d7d029eb907c19d91a568e", func := "estovers/estoverslaw05.PteBits", spec := "pteBits", apart := false }
def PteBitsSaid : Prop := pteBitsRow.holds Try.pinned (OpenSpec.ofChange pteBitsSpec)

/-- ITS FALSE NEIGHBOUR: 'it returns false'. Refute it at one input. -/
def pteBitsWrong : ChangeSpec := { name := "pteBits", fn := fun _ => fun
  | [d1, d2] => { results := [.lit (.bool false)], args := [d1, d2] }
  | _ => none }
def PteBitsWrongFalsely : Prop := pteBitsRow.holds Try.pinned (OpenSpec.ofChange pteBitsWrong)

/-- 'estoverslaw05.PteJoins': WHATEVER THE INPUT: true; the input reads as it did. -/
def pteJoinsSpec : ChangeSpec := { name := "pteJoins", fn := fun _ => fun
  | [d] => { results := [.lit (.bool true)], args := [d] }
  | _ => none }
def pteJoinsRow : OpenClaim := { program := "ythdnjkgolcpbjaa", sum := "79a7897536bafd7b9bcaca032154f8e7eea447fab5d7d029eb907c19d91a568e", func := "estovers/estoverslaw05.PteJoins", spec := "pteJoins", apart := false }
def PteJoinsSaid : Prop := pteJoinsRow.holds Try.pinned (OpenSpec.ofChange pteJoinsSpec)

/-- ITS FALSE NEIGHBOUR: 'it returns false'. Refute it at one input. -/
def pteJoinsWrong : ChangeSpec := { name := "pteJoins", fn := fun _ => fun
  | [d] => { results := [.lit (.bool false)], args := [d] }
  | _ => none }
def PteJoinsWrongFalsely : Prop := pteJoinsRow.holds Try.pinned (OpenSpec.ofChange pteJoinsWrong)

/-- 'estoverslaw05.PteHuge': WHATEVER THE INPUT: true; the input reads as it did. -/
def pteHugeSpec : ChangeSpec := { name := "pteHuge", fn := fun _ => fun
  | [d] => { results := [.lit (.bool true)], args := [d] }
  | _ => none }
def pteHugeRow : OpenClaim := { program := "ythdnjkgolcpbjaa", sum := "79a7897536bafd7b9bcaca032154f8e7eea447fab5d7d029eb907c19d91a568e", func := "estovers/estoverslaw05.PteHuge", spec := "pteHuge", apart := false }
def PteHugeSaid : Prop := pteHugeRow.holds Try.pinned (OpenSpec.ofChange pteHugeSpec)

/-- ITS FALSE NEIGHBOUR: 'it returns false'. Refute it at one input. -/
def pteHugeWrong : ChangeSpec := { name := "pteHuge", fn := fun _ => fun
  | [d] => { results := [.lit (.bool false)], args := [d] }
  | _ => none }
def PteHugeWrongFalsely : Prop := pteHugeRow.holds Try.pinned (OpenSpec.ofChange pteHugeWrong)

/- THE SECOND FORM. 'bulk': how many values and letters a reading holds, each counted each time it is reached (what is shared counts as often as it is met; a slice's spare places count too). A statement '..UptoSaid' is the law's where the arguments, and the package variables that the reading takes, are together of bulk at most 1048576: NARROWER than '..Said'. Prove '..Said' where nothing that the law and all that it calls make is longer than what came in: it says more and counts as full. Else prove '..UptoSaid'. A law counts once. -/
mutual
def uptoBulk {H : Type} : DataW H → Nat
  | .lit (.string bytes) => bytes.length + 1
  | .lit _ => 1
  | .nil => 1
  | .ptr d => uptoBulk d + 1
  | .slice elems spare => uptoBulkAll elems + uptoBulkAll spare + 1
  | .agg parts => uptoBulkAll parts + 1
  | .iface _ d => uptoBulk d + 1
  | .map entries => uptoBulkEntries entries + 1
  | .held _ => 1
def uptoBulkAll {H : Type} : List (DataW H) → Nat
  | [] => 0
  | d :: r => uptoBulk d + uptoBulkAll r
def uptoBulkEntries {H : Type} : List (Lit × DataW H) → Nat
  | [] => 0
  | x :: r => uptoBulkEntry x + uptoBulkEntries r
def uptoBulkEntry {H : Type} : Lit × DataW H → Nat
  | (.string bytes, d) => bytes.length + uptoBulk d + 1
  | (_, d) => uptoBulk d + 1
 end
def uptoSmall : (H : Type) → List (DataW H) → Bool := fun _ ds => decide (uptoBulkAll ds ≤ 1048576)
def OpenSpec.upto (s : _root_.Go.ChangeSpec) : _root_.Go.OpenSpec := { _root_.Go.OpenSpec.ofChange s with cond := some uptoSmall }

/-- 'estoverslaw05.PteEncodes', WHERE WHAT IT READS IS OF BULK AT MOST 1048576: true; the input reads as it did. -/
def pteEncodesUptoRow : OpenClaim := { program := "ythdnjkgolcpbjaa", sum := "79a7897536bafd7b9bcaca032154f8e7eea447fab5d7d029eb907c19d91a568e", func := "estovers/estoverslaw05.PteEncodes", spec := "pteEncodes", apart := false, narrowed := true }
def PteEncodesUptoSaid : Prop := pteEncodesUptoRow.holds Try.pinned (OpenSpec.upto pteEncodesSpec)

/-- 'estoverslaw05.PteDecodes', WHERE WHAT IT READS IS OF BULK AT MOST 1048576: true; the input reads as it did. -/
def pteDecodesUptoRow : OpenClaim := { program := "ythdnjkgolcpbjaa", sum := "79a7897536bafd7b9bcaca032154f8e7eea447fab5d7d029eb907c19d91a568e", func := "estovers/estoverslaw05.PteDecodes", spec := "pteDecodes", apart := false, narrowed := true }
def PteDecodesUptoSaid : Prop := pteDecodesUptoRow.holds Try.pinned (OpenSpec.upto pteDecodesSpec)

/-- 'estoverslaw05.PteParts', WHERE WHAT IT READS IS OF BULK AT MOST 1048576: true; the input reads as it did. -/
def ptePartsUptoRow : OpenClaim := { program := "ythdnjkgolcpbjaa", sum := "79a7897536bafd7b9bcaca032154f8e7eea447fab5d7d029eb907c19d91a568e", func := "estovers/estoverslaw05.PteParts", spec := "pteParts", apart := false, narrowed := true }
def PtePartsUptoSaid : Prop := ptePartsUptoRow.holds Try.pinned (OpenSpec.upto ptePartsSpec)

/-- 'estoverslaw05.PteInverse', WHERE WHAT IT READS IS OF BULK AT MOST 1048576: true; the input reads as it did. -/
def pteInverseUptoRow : OpenClaim := { program := "ythdnjkgolcpbjaa", sum := "79a7897536bafd7b9bcaca032154f8e7eea447fab5d7d029eb907c19d91a568e", func := "estovers/estoverslaw05.PteInverse", spec := "pteInverse", apart := false, narrowed := true }
def PteInverseUptoSaid : Prop := pteInverseUptoRow.holds Try.pinned (OpenSpec.upto pteInverseSpec)

/-- 'estoverslaw05.PteDistinct', WHERE WHAT IT READS IS OF BULK AT MOST 1048576: true; the input reads as it did. -/
def pteDistinctUptoRow : OpenClaim := { program := "ythdnjkgolcpbjaa", sum := "79a7897536bafd7b9bcaca032154f8e7eea447fab5d7d029eb907c19d91a568e", func := "estovers/estoverslaw05.PteDistinct", spec := "pteDistinct", apart := false, narrowed := true }
def PteDistinctUptoSaid : Prop := pteDistinctUptoRow.holds Try.pinned (OpenSpec.upto pteDistinctSpec)

/-- 'estoverslaw05.PteMarks', WHERE WHAT IT READS IS OF BULK AT MOST 1048576: true; the input reads as it did. -/
def pteMarksUptoRow : OpenClaim := { program := "ythdnjkgolcpbjaa", sum := "79a7897536bafd7b9bcaca032154f8e7eea447fab5d7d029eb907c19d91a568e", func := "estovers/estoverslaw05.PteMarks", spec := "pteMarks", apart := false, narrowed := true }
def PteMarksUptoSaid : Prop := pteMarksUptoRow.holds Try.pinned (OpenSpec.upto pteMarksSpec)

/-- 'estoverslaw05.PteBits', WHERE WHAT IT READS IS OF BULK AT MOST 1048576: true; the input reads as it did. -/
def pteBitsUptoRow : OpenClaim := { program := "ythdnjkgolcpbjaa", sum := "79a7897536bafd7b9bcaca032154f8e7eea447fab5d7d029eb907c19d91a568e", func := "estovers/estoverslaw05.PteBits", spec := "pteBits", apart := false, narrowed := true }
def PteBitsUptoSaid : Prop := pteBitsUptoRow.holds Try.pinned (OpenSpec.upto pteBitsSpec)

/-- 'estoverslaw05.PteJoins', WHERE WHAT IT READS IS OF BULK AT MOST 1048576: true; the input reads as it did. -/
def pteJoinsUptoRow : OpenClaim := { program := "ythdnjkgolcpbjaa", sum := "79a7897536bafd7b9bcaca032154f8e7eea447fab5d7d029eb907c19d91a568e", func := "estovers/estoverslaw05.PteJoins", spec := "pteJoins", apart := false, narrowed := true }
def PteJoinsUptoSaid : Prop := pteJoinsUptoRow.holds Try.pinned (OpenSpec.upto pteJoinsSpec)

/-- 'estoverslaw05.PteHuge', WHERE WHAT IT READS IS OF BULK AT MOST 1048576: true; the input reads as it did. -/
def pteHugeUptoRow : OpenClaim := { program := "ythdnjkgolcpbjaa", sum := "79a7897536bafd7b9bcaca032154f8e7eea447fab5d7d029eb907c19d91a568e", func := "estovers/estoverslaw05.PteHuge", spec := "pteHuge", apart := false, narrowed := true }
def PteHugeUptoSaid : Prop := pteHugeUptoRow.holds Try.pinned (OpenSpec.upto pteHugeSpec)

end Rows
end Go.Proofs.Ythdnjkgolcpbjaa
