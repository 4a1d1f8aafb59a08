/-
  No cell of these rows narrows 'for every input' (looked for: loops, veiled, ifaces, maps, wideKeys, modest, calm, conditions, laid).
  DERIVED. THE GIVEN ROWS OF THIS SEAT. 7 by the template 'for every input the law returns true; each argument reads behind the call as it read before'; 0 by the template 'total and deterministic' (their statements: YtinnkclemjognaaTotals.lean).
  GIVEN WITH THE SEED: the statements are not yours to turn. If you find one false, say at which input.
  Laid BY PROGRAM, IN A SANDBOX (cutbox-rows.mjs): the forced cells as the released guide's own fill.sh prints them over the translation bc841c2ad61ba373… (all of the seat's roots in one cut). By AI agents, Wed Nov 11 2026. No macro, syntax, notation, axiom, sorry.
-/
import Derived.Test.YtinnkclemjognaaChecked
import GoSem.Claim
import GoSem.ClaimJoined
import GoSem.ClaimMapViews
import Derived.JoinedTies
import Derived.KernelRfl
namespace Go.Proofs.Ytinnkclemjognaa
/- THE CELL 'sum', in the pinned program and in every row, IS THE sha256 OF THE DUMP (.gsa) THAT YtinnkclemjognaaProg.lean LOADS. Nothing in Lean hashes anything: it is a label: what it is worth is what the hold of that sum in a sandbox is worth. -/
noncomputable def Try.pinned : Pinned := { name := "ytinnkclemjognaa", sum := "bc841c2ad61ba37379f655edccae6f9ea74d598fb180329027d83edae616f634", checked := Try.checked }
namespace Rows
def none {H : Type} : Left H := { results := [], args := [] }

/-- 'estoverslaw25.CowAlone': WHATEVER THE INPUT: true; the input reads as it did. -/
def cowAloneSpec : ChangeSpec := { name := "cowAlone", fn := fun _ => fun
  | [d1, d2] => { results := [.lit (.bool true)], args := [d1, d2] }
  | _ => none }
def cowAloneRow : OpenClaim := { program := "ytinnkclemjognaa", sum := "bc841c2ad61ba37379f655edccae6f9ea74d598fb180329027d83edae616f634", func := "estovers/estoverslaw25.CowAlone", spec := "cowAlone", unfollowed := true, recurses := true, apart := false }
def CowAloneSaid : Prop := cowAloneRow.holds Try.pinned (OpenSpec.ofChange cowAloneSpec)

/-- ITS FALSE NEIGHBOUR: 'it returns false'. Refute it at one input. -/
def cowAloneWrong : ChangeSpec := { name := "cowAlone", fn := fun _ => fun
  | [d1, d2] => { results := [.lit (.bool false)], args := [d1, d2] }
  | _ => none }
def CowAloneWrongFalsely : Prop := cowAloneRow.holds Try.pinned (OpenSpec.ofChange cowAloneWrong)

/-- 'estoverslaw25.CowSteps': WHATEVER THE INPUT: true; the input reads as it did. -/
def cowStepsSpec : ChangeSpec := { name := "cowSteps", fn := fun _ => fun
  | [d1, d2] => { results := [.lit (.bool true)], args := [d1, d2] }
  | _ => none }
def cowStepsRow : OpenClaim := { program := "ytinnkclemjognaa", sum := "bc841c2ad61ba37379f655edccae6f9ea74d598fb180329027d83edae616f634", func := "estovers/estoverslaw25.CowSteps", spec := "cowSteps", unfollowed := true, recurses := true, apart := false }
def CowStepsSaid : Prop := cowStepsRow.holds Try.pinned (OpenSpec.ofChange cowStepsSpec)

/-- ITS FALSE NEIGHBOUR: 'it returns false'. Refute it at one input. -/
def cowStepsWrong : ChangeSpec := { name := "cowSteps", fn := fun _ => fun
  | [d1, d2] => { results := [.lit (.bool false)], args := [d1, d2] }
  | _ => none }
def CowStepsWrongFalsely : Prop := cowStepsRow.holds Try.pinned (OpenSpec.ofChange cowStepsWrong)

/-- 'estoverslaw25.CowChecks': WHATEVER THE INPUT: true; the input reads as it did. -/
def cowChecksSpec : ChangeSpec := { name := "cowChecks", fn := fun _ => fun
  | [d1, d2] => { results := [.lit (.bool true)], args := [d1, d2] }
  | _ => none }
def cowChecksRow : OpenClaim := { program := "ytinnkclemjognaa", sum := "bc841c2ad61ba37379f655edccae6f9ea74d598fb180329027d83edae616f634", func := "estovers/estoverslaw25.CowChecks", spec := "cowChecks", unfollowed := true, recurses := true, apart := false }
def CowChecksSaid : Prop := cowChecksRow.holds Try.pinned (OpenSpec.ofChange cowChecksSpec)

/-- ITS FALSE NEIGHBOUR: 'it returns false'. Refute it at one input. -/
def cowChecksWrong : ChangeSpec := { name := "cowChecks", fn := fun _ => fun
  | [d1, d2] => { results := [.lit (.bool false)], args := [d1, d2] }
  | _ => none }
def CowChecksWrongFalsely : Prop := cowChecksRow.holds Try.pinned (OpenSpec.ofChange cowChecksWrong)

/-- 'estoverslaw25.CowMemory': WHATEVER THE INPUT: true; the input reads as it did. -/
def cowMemorySpec : ChangeSpec := { name := "cowMemory", fn := fun _ => fun
  | [d1, d2] => { results := [.lit (.bool true)], args := [d1, d2] }
  | _ => none }
def cowMemoryRow : OpenClaim := { program := "ytinnkclemjognaa", sum := "bc841c2ad61ba37379f655edccae6f9ea74d598fb180329027d83edae616f634", func := "estovers/estoverslaw25.CowMemory", spec := "cowMemory", unfollowed := true, recurses := true, apart := false }
def CowMemorySaid : Prop := cowMemoryRow.holds Try.pinned (OpenSpec.ofChange cowMemorySpec)

/-- ITS FALSE NEIGHBOUR: 'it returns false'. Refute it at one input. -/
def cowMemoryWrong : ChangeSpec := { name := "cowMemory", fn := fun _ => fun
  | [d1, d2] => { results := [.lit (.bool false)], args := [d1, d2] }
  | _ => none }
def CowMemoryWrongFalsely : Prop := cowMemoryRow.holds Try.pinned (OpenSpec.ofChange cowMemoryWrong)

/-- 'estoverslaw25.CowCopies': WHATEVER THE INPUT: true; the input reads as it did. -/
def cowCopiesSpec : ChangeSpec := { name := "cowCopies", fn := fun _ => fun
  | [d1, d2] => { results := [.lit (.bool true)], args := [d1, d2] }
  | _ => none }
def cowCopiesRow : OpenClaim := { program := "ytinnkclemjognaa", sum := "bc841c2ad61ba37379f655edccae6f9ea74d598fb180329027d83edae616f634", func := "estovers/estoverslaw25.CowCopies", spec := "cowCopies", unfollowed := true, recurses := true, apart := false }
def CowCopiesSaid : Prop := cowCopiesRow.holds Try.pinned (OpenSpec.ofChange cowCopiesSpec)

/-- ITS FALSE NEIGHBOUR: 'it returns false'. Refute it at one input. -/
def cowCopiesWrong : ChangeSpec := { name := "cowCopies", fn := fun _ => fun
  | [d1, d2] => { results := [.lit (.bool false)], args := [d1, d2] }
  | _ => none }
def CowCopiesWrongFalsely : Prop := cowCopiesRow.holds Try.pinned (OpenSpec.ofChange cowCopiesWrong)

/-- 'estoverslaw25.CowFrames': WHATEVER THE INPUT: true; the input reads as it did. -/
def cowFramesSpec : ChangeSpec := { name := "cowFrames", fn := fun _ => fun
  | [d1, d2] => { results := [.lit (.bool true)], args := [d1, d2] }
  | _ => none }
def cowFramesRow : OpenClaim := { program := "ytinnkclemjognaa", sum := "bc841c2ad61ba37379f655edccae6f9ea74d598fb180329027d83edae616f634", func := "estovers/estoverslaw25.CowFrames", spec := "cowFrames", unfollowed := true, recurses := true, apart := false }
def CowFramesSaid : Prop := cowFramesRow.holds Try.pinned (OpenSpec.ofChange cowFramesSpec)

/-- ITS FALSE NEIGHBOUR: 'it returns false'. Refute it at one input. -/
def cowFramesWrong : ChangeSpec := { name := "cowFrames", fn := fun _ => fun
  | [d1, d2] => { results := [.lit (.bool false)], args := [d1, d2] }
  | _ => none }
def CowFramesWrongFalsely : Prop := cowFramesRow.holds Try.pinned (OpenSpec.ofChange cowFramesWrong)

/-- 'estoverslaw25.CowRoom': WHATEVER THE INPUT: true; the input reads as it did. -/
def cowRoomSpec : ChangeSpec := { name := "cowRoom", fn := fun _ => fun
  | [d1, d2] => { results := [.lit (.bool true)], args := [d1, d2] }
  | _ => none }
def cowRoomRow : OpenClaim := { program := "ytinnkclemjognaa", sum := "bc841c2ad61ba37379f655edccae6f9ea74d598fb180329027d83edae616f634", func := "estovers/estoverslaw25.CowRoom", spec := "cowRoom", unfollowed := true, recurses := true, apart := false }
def CowRoomSaid : Prop := cowRoomRow.holds Try.pinned (OpenSpec.ofChange cowRoomSpec)

/-- ITS FALSE NEIGHBOUR: 'it returns false'. Refute it at one input. -/
def cowRoomWrong : ChangeSpec := { name := "cowRoom", fn := fun _ => fun
  | [d1, d2] => { results := [.lit (.bool false)], args := [d1, d2] }
  | _ => none }
def CowRoomWrongFalsely : Prop := cowRoomRow.holds Try.pinned (OpenSpec.ofChange cowRoomWrong)

/- THE SECOND FORM. 'bulk': how many values and letters a reading holds, each counted each time it is reached (what is shared counts as often as it is met; a slice's spare places count too). A statement '..UptoSaid' is the law's where the arguments, and the package variables that the reading takes, are together of bulk at most 1048576: NARROWER than '..Said'. Prove '..Said' where nothing that the law and all that it calls make is longer than what came in: it says more and counts as full. Else prove '..UptoSaid'. A law counts once. -/
mutual
def uptoBulk {H : Type} : DataW H → Nat
  | .lit (.string bytes) => bytes.length + 1
  | .lit _ => 1
  | .nil => 1
  | .ptr d => uptoBulk d + 1
  | .slice elems spare => uptoBulkAll elems + uptoBulkAll spare + 1
  | .agg parts => uptoBulkAll parts + 1
  | .iface _ d => uptoBulk d + 1
  | .map entries => uptoBulkEntries entries + 1
  | .held _ => 1
def uptoBulkAll {H : Type} : List (DataW H) → Nat
  | [] => 0
  | d :: r => uptoBulk d + uptoBulkAll r
def uptoBulkEntries {H : Type} : List (Lit × DataW H) → Nat
  | [] => 0
  | x :: r => uptoBulkEntry x + uptoBulkEntries r
def uptoBulkEntry {H : Type} : Lit × DataW H → Nat
  | (.string bytes, d) => bytes.length + uptoBulk d + 1
  | (_, d) => uptoBulk d + 1
 end
def uptoSmall : (H : Type) → List (DataW H) → Bool := fun _ ds => decide (uptoBulkAll ds ≤ 1048576)
def OpenSpec.upto (s : _root_.Go.ChangeSpec) : _root_.Go.OpenSpec := { _root_.Go.OpenSpec.ofChange s with cond := some uptoSmall }

/-- 'estoverslaw25.CowAlone', WHERE WHAT IT READS IS OF BULK AT MOST 1048576: true; the input reads as it did. -/
def cowAloneUptoRow : OpenClaim := { program := "ytinnkclemjognaa", sum := "bc841c2ad61ba37379f655edccae6f9ea74d598fb180329027d83edae616f634", func := "estovers/estoverslaw25.CowAlone", spec := "cowAlone", unfollowed := true, recurses := true, apart := false, narrowed := true }
def CowAloneUptoSaid : Prop := cowAloneUptoRow.holds Try.pinned (OpenSpec.upto cowAloneSpec)

/-- 'estoverslaw25.CowSteps', WHERE WHAT IT READS IS OF BULK AT MOST 1048576: true; the input reads as it did. -/
def cowStepsUptoRow : OpenClaim := { program := "ytinnkclemjognaa", sum := "bc841c2ad61ba37379f655edccae6f9ea74d598fb180329027d83edae616f634", func := "estovers/estoverslaw25.CowSteps", spec := "cowSteps", unfollowed := true, recurses := true, apart := false, narrowed := true }
def CowStepsUptoSaid : Prop := cowStepsUptoRow.holds Try.pinned (OpenSpec.upto cowStepsSpec)

/-- 'estoverslaw25.CowChecks', WHERE WHAT IT READS IS OF BULK AT MOST 1048576: true; the input reads as it did. -/
def cowChecksUptoRow : OpenClaim := { program := "ytinnkclemjognaa", sum := "bc841c2ad61ba37379f655edccae6f9ea74d598fb180329027d83edae616f634", func := "estovers/estoverslaw25.CowChecks", spec := "cowChecks", unfollowed := true, recurses := true, apart := false, narrowed := true }
def CowChecksUptoSaid : Prop := cowChecksUptoRow.holds Try.pinned (OpenSpec.upto cowChecksSpec)

/-- 'estoverslaw25.CowMemory', WHERE WHAT IT READS IS OF BULK AT MOST 1048576: true; the input reads as it did. -/
def cowMemoryUptoRow : OpenClaim := { program := "ytinnkclemjognaa", sum := "bc841c2ad61ba37379f655edccae6f9ea74d598fb180329027d83edae616f634", func := "estovers/estoverslaw25.CowMemory", spec := "cowMemory", unfollowed := true, recurses := true, apart := false, narrowed := true }
def CowMemoryUptoSaid : Prop := cowMemoryUptoRow.holds Try.pinned (OpenSpec.upto cowMemorySpec)

/-- 'estoverslaw25.CowCopies', WHERE WHAT IT READS IS OF BULK AT MOST 1048576: true; the input reads as it did. -/
def cowCopiesUptoRow : OpenClaim := { program := "ytinnkclemjognaa", sum := "bc841c2ad61ba37379f655edccae6f9ea74d598fb180329027d83edae616f634", func := "estovers/estoverslaw25.CowCopies", spec := "cowCopies", unfollowed := true, recurses := true, apart := false, narrowed := true }
def CowCopiesUptoSaid : Prop := cowCopiesUptoRow.holds Try.pinned (OpenSpec.upto cowCopiesSpec)

/-- 'estoverslaw25.CowFrames', WHERE WHAT IT READS IS OF BULK AT MOST 1048576: true; the input reads as it did. -/
def cowFramesUptoRow : OpenClaim := { program := "ytinnkclemjognaa", sum := "bc841c2ad61ba37379f655edccae6f9ea74d598fb180329027d83edae616f634", func := "estovers/estoverslaw25.CowFrames", spec := "cowFrames", unfollowed := true, recurses := true, apart := false, narrowed := true }
def CowFramesUptoSaid : Prop := cowFramesUptoRow.holds Try.pinned (OpenSpec.upto cowFramesSpec)

/-- 'estoverslaw25.CowRoom', WHERE WHAT IT READS IS OF BULK AT MOST 1048576: true; the input reads as it did. -/
def cowRoomUptoRow : OpenClaim := { program := "ytinnkclemjognaa", sum := "bc841c2ad61ba37379f655edccae6f9ea74d598fb180329027d83edae616f634", func := "estovers/estoverslaw25.CowRoom", spec := "cowRoom", unfollowed := true, recurses := true, apart := false, narrowed := true }
def CowRoomUptoSaid : Prop := cowRoomUptoRow.holds Try.pinned (OpenSpec.upto cowRoomSpec)

end Rows
end Go.Proofs.Ytinnkclemjognaa
