/-
  No cell of these rows narrows 'for every input' (looked for: loops, veiled, ifaces, maps, wideKeys, modest, calm, conditions, laid).
  DERIVED. THE GIVEN ROWS OF THIS SEAT. 9 by the template 'for every input the law returns true; each argument reads behind the call as it read before'; 0 by the template 'total and deterministic' (their statements: YtpcammiidklkhaaTotals.lean).
  GIVEN WITH THE SEED: the statements are not yours to turn. If you find one false, say at which input.
  Laid BY PROGRAM, IN A SANDBOX (cutbox-rows.mjs): the forced cells as the released guide's own fill.sh prints them over the translation d7fccbc6e19979c3… (all of the seat's roots in one cut). By AI agents, Wed Nov 11 2026. No macro, syntax, notation, axiom, sorry.
-/
import Derived.Test.YtpcammiidklkhaaChecked
import GoSem.Claim
import GoSem.ClaimJoined
import GoSem.ClaimMapViews
import Derived.JoinedTies
import Derived.KernelRfl
namespace Go.Proofs.Ytpcammiidklkhaa
/- THE CELL 'sum', in the pinned program and in every row, IS THE sha256 OF THE DUMP (.gsa) THAT YtpcammiidklkhaaProg.lean LOADS. Nothing in Lean hashes anything: it is a label: what it is worth is what the hold of that sum in a sandbox is worth. -/
noncomputable def Try.pinned : Pinned := { name := "ytpcammiidklkhaa", sum := "d7fccbc6e19979c3daa8d94f6b8da3f08189131bf36b89190ba792cdae2f651f", checked := Try.checked }
namespace Rows
def none {H : Type} : Left H := { results := [], args := [] }

/-- 'estoverslaw07.TlbChecks': WHATEVER THE INPUT: true; the input reads as it did. -/
def tlbChecksSpec : ChangeSpec := { name := "tlbChecks", fn := fun _ => fun
  | [d1, d2] => { results := [.lit (.bool true)], args := [d1, d2] }
  | _ => none }
def tlbChecksRow : OpenClaim := { program := "ytpcammiidklkhaa", sum := "d7fccbc6e19979c3daa8d94f6b8da3f08189131bf36b89190ba792cdae2f651f", func := "estovers/estoverslaw07.TlbChecks", spec := "tlbChecks", unfollowed := true, recurses := true, apart := false }
def TlbChecksSaid : Prop := tlbChecksRow.holds Try.pinned (OpenSpec.ofChange tlbChecksSpec)

/-- ITS FALSE NEIGHBOUR: 'it returns false'. Refute it at one input. -/
def tlbChecksWrong : ChangeSpec := { name := "tlbChecks", fn := fun _ => fun
  | [d1, d2] => { results := [.lit (.bool false)], args := [d1, d2] }
  | _ => none }
def TlbChecksWrongFalsely : Prop := tlbChecksRow.holds Try.pinned (OpenSpec.ofChange tlbChecksWrong)

/-- 'estoverslaw07.TlbLooks': WHATEVER THE INPUT: true; the input reads as it did. -/
def tlbLooksSpec : ChangeSpec := { name := "tlbLooks", fn := fun _ => fun
  | [d1, d2, d3] => { results := [.lit (.bool true)], args := [d1, d2, d3] }
  | _ => none }
def tlbLooksRow : OpenClaim := { program := "ytpcammiidklkhaa", sum := "d7fccbc6e19979c3daa8d94f6b8da3f08189131bf36b89190ba792cdae2f651f", func := "estovers/estoverslaw07.TlbLooks", spec := "tlbLooks", unfollowed := true, recurses := true, apart := false }
def TlbLooksSaid : Prop := tlbLooksRow.holds Try.pinned (OpenSpec.ofChange tlbLooksSpec)

/-- ITS FALSE NEIGHBOUR: 'it returns false'. Refute it at one input. -/
def tlbLooksWrong : ChangeSpec := { name := "tlbLooks", fn := fun _ => fun
  | [d1, d2, d3] => { results := [.lit (.bool false)], args := [d1, d2, d3] }
  | _ => none }
def TlbLooksWrongFalsely : Prop := tlbLooksRow.holds Try.pinned (OpenSpec.ofChange tlbLooksWrong)

/-- 'estoverslaw07.TlbFills': WHATEVER THE INPUT: true; the input reads as it did. -/
def tlbFillsSpec : ChangeSpec := { name := "tlbFills", fn := fun _ => fun
  | [d1, d2, d3] => { results := [.lit (.bool true)], args := [d1, d2, d3] }
  | _ => none }
def tlbFillsRow : OpenClaim := { program := "ytpcammiidklkhaa", sum := "d7fccbc6e19979c3daa8d94f6b8da3f08189131bf36b89190ba792cdae2f651f", func := "estovers/estoverslaw07.TlbFills", spec := "tlbFills", unfollowed := true, recurses := true, apart := false }
def TlbFillsSaid : Prop := tlbFillsRow.holds Try.pinned (OpenSpec.ofChange tlbFillsSpec)

/-- ITS FALSE NEIGHBOUR: 'it returns false'. Refute it at one input. -/
def tlbFillsWrong : ChangeSpec := { name := "tlbFills", fn := fun _ => fun
  | [d1, d2, d3] => { results := [.lit (.bool false)], args := [d1, d2, d3] }
  | _ => none }
def TlbFillsWrongFalsely : Prop := tlbFillsRow.holds Try.pinned (OpenSpec.ofChange tlbFillsWrong)

/-- 'estoverslaw07.TlbFifo': WHATEVER THE INPUT: true; the input reads as it did. -/
def tlbFifoSpec : ChangeSpec := { name := "tlbFifo", fn := fun _ => fun
  | [d1, d2] => { results := [.lit (.bool true)], args := [d1, d2] }
  | _ => none }
def tlbFifoRow : OpenClaim := { program := "ytpcammiidklkhaa", sum := "d7fccbc6e19979c3daa8d94f6b8da3f08189131bf36b89190ba792cdae2f651f", func := "estovers/estoverslaw07.TlbFifo", spec := "tlbFifo", unfollowed := true, recurses := true, apart := false }
def TlbFifoSaid : Prop := tlbFifoRow.holds Try.pinned (OpenSpec.ofChange tlbFifoSpec)

/-- ITS FALSE NEIGHBOUR: 'it returns false'. Refute it at one input. -/
def tlbFifoWrong : ChangeSpec := { name := "tlbFifo", fn := fun _ => fun
  | [d1, d2] => { results := [.lit (.bool false)], args := [d1, d2] }
  | _ => none }
def TlbFifoWrongFalsely : Prop := tlbFifoRow.holds Try.pinned (OpenSpec.ofChange tlbFifoWrong)

/-- 'estoverslaw07.TlbRemoves': WHATEVER THE INPUT: true; the input reads as it did. -/
def tlbRemovesSpec : ChangeSpec := { name := "tlbRemoves", fn := fun _ => fun
  | [d1, d2, d3] => { results := [.lit (.bool true)], args := [d1, d2, d3] }
  | _ => none }
def tlbRemovesRow : OpenClaim := { program := "ytpcammiidklkhaa", sum := "d7fccbc6e19979c3daa8d94f6b8da3f08189131bf36b89190ba792cdae2f651f", func := "estovers/estoverslaw07.TlbRemoves", spec := "tlbRemoves", unfollowed := true, recurses := true, apart := false }
def TlbRemovesSaid : Prop := tlbRemovesRow.holds Try.pinned (OpenSpec.ofChange tlbRemovesSpec)

/-- ITS FALSE NEIGHBOUR: 'it returns false'. Refute it at one input. -/
def tlbRemovesWrong : ChangeSpec := { name := "tlbRemoves", fn := fun _ => fun
  | [d1, d2, d3] => { results := [.lit (.bool false)], args := [d1, d2, d3] }
  | _ => none }
def TlbRemovesWrongFalsely : Prop := tlbRemovesRow.holds Try.pinned (OpenSpec.ofChange tlbRemovesWrong)

/-- 'estoverslaw07.TlbPlays': WHATEVER THE INPUT: true; the input reads as it did. -/
def tlbPlaysSpec : ChangeSpec := { name := "tlbPlays", fn := fun _ => fun
  | [d1, d2] => { results := [.lit (.bool true)], args := [d1, d2] }
  | _ => none }
def tlbPlaysRow : OpenClaim := { program := "ytpcammiidklkhaa", sum := "d7fccbc6e19979c3daa8d94f6b8da3f08189131bf36b89190ba792cdae2f651f", func := "estovers/estoverslaw07.TlbPlays", spec := "tlbPlays", unfollowed := true, recurses := true, apart := false }
def TlbPlaysSaid : Prop := tlbPlaysRow.holds Try.pinned (OpenSpec.ofChange tlbPlaysSpec)

/-- ITS FALSE NEIGHBOUR: 'it returns false'. Refute it at one input. -/
def tlbPlaysWrong : ChangeSpec := { name := "tlbPlays", fn := fun _ => fun
  | [d1, d2] => { results := [.lit (.bool false)], args := [d1, d2] }
  | _ => none }
def TlbPlaysWrongFalsely : Prop := tlbPlaysRow.holds Try.pinned (OpenSpec.ofChange tlbPlaysWrong)

/-- 'estoverslaw07.TlbOnce': WHATEVER THE INPUT: true; the input reads as it did. -/
def tlbOnceSpec : ChangeSpec := { name := "tlbOnce", fn := fun _ => fun
  | [d1, d2, d3] => { results := [.lit (.bool true)], args := [d1, d2, d3] }
  | _ => none }
def tlbOnceRow : OpenClaim := { program := "ytpcammiidklkhaa", sum := "d7fccbc6e19979c3daa8d94f6b8da3f08189131bf36b89190ba792cdae2f651f", func := "estovers/estoverslaw07.TlbOnce", spec := "tlbOnce", unfollowed := true, recurses := true, apart := false }
def TlbOnceSaid : Prop := tlbOnceRow.holds Try.pinned (OpenSpec.ofChange tlbOnceSpec)

/-- ITS FALSE NEIGHBOUR: 'it returns false'. Refute it at one input. -/
def tlbOnceWrong : ChangeSpec := { name := "tlbOnce", fn := fun _ => fun
  | [d1, d2, d3] => { results := [.lit (.bool false)], args := [d1, d2, d3] }
  | _ => none }
def TlbOnceWrongFalsely : Prop := tlbOnceRow.holds Try.pinned (OpenSpec.ofChange tlbOnceWrong)

/-- 'estoverslaw07.TlbGone': WHATEVER THE INPUT: true; the input reads as it did. -/
def tlbGoneSpec : ChangeSpec := { name := "tlbGone", fn := fun _ => fun
  | [d1, d2, d3] => { results := [.lit (.bool true)], args := [d1, d2, d3] }
  | _ => none }
def tlbGoneRow : OpenClaim := { program := "ytpcammiidklkhaa", sum := "d7fccbc6e19979c3daa8d94f6b8da3f08189131bf36b89190ba792cdae2f651f", func := "estovers/estoverslaw07.TlbGone", spec := "tlbGone", unfollowed := true, recurses := true, apart := false }
def TlbGoneSaid : Prop := tlbGoneRow.holds Try.pinned (OpenSpec.ofChange tlbGoneSpec)

/-- ITS FALSE NEIGHBOUR: 'it returns false'. Refute it at one input. -/
def tlbGoneWrong : ChangeSpec := { name := "tlbGone", fn := fun _ => fun
  | [d1, d2, d3] => { results := [.lit (.bool false)], args := [d1, d2, d3] }
  | _ => none }
def TlbGoneWrongFalsely : Prop := tlbGoneRow.holds Try.pinned (OpenSpec.ofChange tlbGoneWrong)

/-- 'estoverslaw07.TlbKeeps': WHATEVER THE INPUT: true; the input reads as it did. -/
def tlbKeepsSpec : ChangeSpec := { name := "tlbKeeps", fn := fun _ => fun
  | [d1, d2, d3] => { results := [.lit (.bool true)], args := [d1, d2, d3] }
  | _ => none }
def tlbKeepsRow : OpenClaim := { program := "ytpcammiidklkhaa", sum := "d7fccbc6e19979c3daa8d94f6b8da3f08189131bf36b89190ba792cdae2f651f", func := "estovers/estoverslaw07.TlbKeeps", spec := "tlbKeeps", unfollowed := true, recurses := true, apart := false }
def TlbKeepsSaid : Prop := tlbKeepsRow.holds Try.pinned (OpenSpec.ofChange tlbKeepsSpec)

/-- ITS FALSE NEIGHBOUR: 'it returns false'. Refute it at one input. -/
def tlbKeepsWrong : ChangeSpec := { name := "tlbKeeps", fn := fun _ => fun
  | [d1, d2, d3] => { results := [.lit (.bool false)], args := [d1, d2, d3] }
  | _ => none }
def TlbKeepsWrongFalsely : Prop := tlbKeepsRow.holds Try.pinned (OpenSpec.ofChange tlbKeepsWrong)

/- THE SECOND FORM. 'bulk': how many values and letters a reading holds, each counted each time it is reached (what is shared counts as often as it is met; a slice's spare places count too). A statement '..UptoSaid' is the law's where the arguments, and the package variables that the reading takes, are together of bulk at most 1048576: NARROWER than '..Said'. Prove '..Said' where nothing that the law and all that it calls make is longer than what came in: it says more and counts as full. Else prove '..UptoSaid'. A law counts once. -/
mutual
def uptoBulk {H : Type} : DataW H → Nat
  | .lit (.string bytes) => bytes.length + 1
  | .lit _ => 1
  | .nil => 1
  | .ptr d => uptoBulk d + 1
  | .slice elems spare => uptoBulkAll elems + uptoBulkAll spare + 1
  | .agg parts => uptoBulkAll parts + 1
  | .iface _ d => uptoBulk d + 1
  | .map entries => uptoBulkEntries entries + 1
  | .held _ => 1
def uptoBulkAll {H : Type} : List (DataW H) → Nat
  | [] => 0
  | d :: r => uptoBulk d + uptoBulkAll r
def uptoBulkEntries {H : Type} : List (Lit × DataW H) → Nat
  | [] => 0
  | x :: r => uptoBulkEntry x + uptoBulkEntries r
def uptoBulkEntry {H : Type} : Lit × DataW H → Nat
  | (.string bytes, d) => bytes.length + uptoBulk d + 1
  | (_, d) => uptoBulk d + 1
 end
def uptoSmall : (H : Type) → List (DataW H) → Bool := fun _ ds => decide (uptoBulkAll ds ≤ 1048576)
def OpenSpec.upto (s : _root_.Go.ChangeSpec) : _root_.Go.OpenSpec := { _root_.Go.OpenSpec.ofChange s with cond := some uptoSmall }

/-- 'estoverslaw07.TlbChecks', WHERE WHAT IT READS IS OF BULK AT MOST 1048576: true; the input reads as it did. -/
def tlbChecksUptoRow : OpenClaim := { program := "ytpcammiidklkhaa", sum := "d7fccbc6e19979c3daa8d94f6b8da3f08189131bf36b89190ba792cdae2f651f", func := "estovers/estoverslaw07.TlbChecks", spec := "tlbChecks", unfollowed := true, recurses := true, apart := false, narrowed := true }
def TlbChecksUptoSaid : Prop := tlbChecksUptoRow.holds Try.pinned (OpenSpec.upto tlbChecksSpec)

/-- 'estoverslaw07.TlbLooks', WHERE WHAT IT READS IS OF BULK AT MOST 1048576: true; the input reads as it did. -/
def tlbLooksUptoRow : OpenClaim := { program := "ytpcammiidklkhaa", sum := "d7fccbc6e19979c3daa8d94f6b8da3f08189131bf36b89190ba792cdae2f651f", func := "estovers/estoverslaw07.TlbLooks", spec := "tlbLooks", unfollowed := true, recurses := true, apart := false, narrowed := true }
def TlbLooksUptoSaid : Prop := tlbLooksUptoRow.holds Try.pinned (OpenSpec.upto tlbLooksSpec)

/-- 'estoverslaw07.TlbFills', WHERE WHAT IT READS IS OF BULK AT MOST 1048576: true; the input reads as it did. -/
def tlbFillsUptoRow : OpenClaim := { program := "ytpcammiidklkhaa", sum := "d7fccbc6e19979c3daa8d94f6b8da3f08189131bf36b89190ba792cdae2f651f", func := "estovers/estoverslaw07.TlbFills", spec := "tlbFills", unfollowed := true, recurses := true, apart := false, narrowed := true }
def TlbFillsUptoSaid : Prop := tlbFillsUptoRow.holds Try.pinned (OpenSpec.upto tlbFillsSpec)

/-- 'estoverslaw07.TlbFifo', WHERE WHAT IT READS IS OF BULK AT MOST 1048576: true; the input reads as it did. -/
def tlbFifoUptoRow : OpenClaim := { program := "ytpcammiidklkhaa", sum := "d7fccbc6e19979c3daa8d94f6b8da3f08189131bf36b89190ba792cdae2f651f", func := "estovers/estoverslaw07.TlbFifo", spec := "tlbFifo", unfollowed := true, recurses := true, apart := false, narrowed := true }
def TlbFifoUptoSaid : Prop := tlbFifoUptoRow.holds Try.pinned (OpenSpec.upto tlbFifoSpec)

/-- 'estoverslaw07.TlbRemoves', WHERE WHAT IT READS IS OF BULK AT MOST 1048576: true; the input reads as it did. -/
def tlbRemovesUptoRow : OpenClaim := { program := "ytpcammiidklkhaa", sum := "d7fccbc6e19979c3daa8d94f6b8da3f08189131bf36b89190ba792cdae2f651f", func := "estovers/estoverslaw07.TlbRemoves", spec := "tlbRemoves", unfollowed := true, recurses := true, apart := false, narrowed := true }
def TlbRemovesUptoSaid : Prop := tlbRemovesUptoRow.holds Try.pinned (OpenSpec.upto tlbRemovesSpec)

/-- 'estoverslaw07.TlbPlays', WHERE WHAT IT READS IS OF BULK AT MOST 1048576: true; the input reads as it did. -/
def tlbPlaysUptoRow : OpenClaim := { program := "ytpcammiidklkhaa", sum := "d7fccbc6e19979c3daa8d94f6b8da3f08189131bf36b89190ba792cdae2f651f", func := "estovers/estoverslaw07.TlbPlays", spec := "tlbPlays", unfollowed := true, recurses := true, apart := false, narrowed := true }
def TlbPlaysUptoSaid : Prop := tlbPlaysUptoRow.holds Try.pinned (OpenSpec.upto tlbPlaysSpec)

/-- 'estoverslaw07.TlbOnce', WHERE WHAT IT READS IS OF BULK AT MOST 1048576: true; the input reads as it did. -/
def tlbOnceUptoRow : OpenClaim := { program := "ytpcammiidklkhaa", sum := "d7fccbc6e19979c3daa8d94f6b8da3f08189131bf36b89190ba792cdae2f651f", func := "estovers/estoverslaw07.TlbOnce", spec := "tlbOnce", unfollowed := true, recurses := true, apart := false, narrowed := true }
def TlbOnceUptoSaid : Prop := tlbOnceUptoRow.holds Try.pinned (OpenSpec.upto tlbOnceSpec)

/-- 'estoverslaw07.TlbGone', WHERE WHAT IT READS IS OF BULK AT MOST 1048576: true; the input reads as it did. -/
def tlbGoneUptoRow : OpenClaim := { program := "ytpcammiidklkhaa", sum := "d7fccbc6e19979c3daa8d94f6b8da3f08189131bf36b89190ba792cdae2f651f", func := "estovers/estoverslaw07.TlbGone", spec := "tlbGone", unfollowed := true, recurses := true, apart := false, narrowed := true }
def TlbGoneUptoSaid : Prop := tlbGoneUptoRow.holds Try.pinned (OpenSpec.upto tlbGoneSpec)

/-- 'estoverslaw07.TlbKeeps', WHERE WHAT IT READS IS OF BULK AT MOST 1048576: true; the input reads as it did. -/
def tlbKeepsUptoRow : OpenClaim := { program := "ytpcammiidklkhaa", sum := "d7fccbc6e19979c3daa8d94f6b8da3f08189131bf36b89190ba792cdae2f651f", func := "estovers/estoverslaw07.TlbKeeps", spec := "tlbKeeps", unfollowed := true, recurses := true, apart := false, narrowed := true }
def TlbKeepsUptoSaid : Prop := tlbKeepsUptoRow.holds Try.pinned (OpenSpec.upto tlbKeepsSpec)

end Rows
end Go.Proofs.Ytpcammiidklkhaa
