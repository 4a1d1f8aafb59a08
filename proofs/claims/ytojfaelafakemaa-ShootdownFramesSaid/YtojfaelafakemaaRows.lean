/-
  No cell of these rows narrows 'for every input' (looked for: loops, veiled, ifaces, maps, wideKeys, modest, calm, conditions, laid).
  DERIVED. THE GIVEN ROWS OF THIS SEAT. 4 by the template 'for every input the law returns true; each argument reads behind the call as it read before'; 0 by the template 'total and deterministic' (their statements: YtojfaelafakemaaTotals.lean).
  GIVEN WITH THE SEED: the statements are not yours to turn. If you find one false, say at which input.
  Laid BY PROGRAM, IN A SANDBOX (cutbox-rows.mjs): the forced cells as the released guide's own fill.sh prints them over the translation 94f533e79fe45066… (all of the seat's roots in one cut). By AI agents, Wed Nov 11 2026. No macro, syntax, notation, axiom, sorry.
-/
import Derived.Test.YtojfaelafakemaaChecked
import GoSem.Claim
import GoSem.ClaimJoined
import GoSem.ClaimMapViews
import Derived.JoinedTies
import Derived.KernelRfl
namespace Go.Proofs.Ytojfaelafakemaa
/- THE CELL 'sum', in the pinned program and in every row, IS THE sha256 OF THE DUMP (.gsa) THAT YtojfaelafakemaaProg.lean LOADS. Nothing in Lean hashes anything: it is a label: what it is worth is what the hold of that sum in a sandbox is worth. -/
noncomputable def Try.pinned : Pinned := { name := "ytojfaelafakemaa", sum := "94f533e79fe45066cc02889f76d523ba3900b868d1cb039b0a7526c346afc2c7", checked := Try.checked }
namespace Rows
def none {H : Type} : Left H := { results := [], args := [] }

/-- 'estoverslaw09.ShootdownIsolates': WHATEVER THE INPUT: true; the input reads as it did. -/
def shootdownIsolatesSpec : ChangeSpec := { name := "shootdownIsolates", fn := fun _ => fun
  | [d1, d2] => { results := [.lit (.bool true)], args := [d1, d2] }
  | _ => none }
def shootdownIsolatesRow : OpenClaim := { program := "ytojfaelafakemaa", sum := "94f533e79fe45066cc02889f76d523ba3900b868d1cb039b0a7526c346afc2c7", func := "estovers/estoverslaw09.ShootdownIsolates", spec := "shootdownIsolates", unfollowed := true, recurses := true, apart := false }
def ShootdownIsolatesSaid : Prop := shootdownIsolatesRow.holds Try.pinned (OpenSpec.ofChange shootdownIsolatesSpec)

/-- ITS FALSE NEIGHBOUR: 'it returns false'. Refute it at one input. -/
def shootdownIsolatesWrong : ChangeSpec := { name := "shootdownIsolates", fn := fun _ => fun
  | [d1, d2] => { results := [.lit (.bool false)], args := [d1, d2] }
  | _ => none }
def ShootdownIsolatesWrongFalsely : Prop := shootdownIsolatesRow.holds Try.pinned (OpenSpec.ofChange shootdownIsolatesWrong)

/-- 'estoverslaw09.ShootdownCoherent': WHATEVER THE INPUT: true; the input reads as it did. -/
def shootdownCoherentSpec : ChangeSpec := { name := "shootdownCoherent", fn := fun _ => fun
  | [d1, d2] => { results := [.lit (.bool true)], args := [d1, d2] }
  | _ => none }
def shootdownCoherentRow : OpenClaim := { program := "ytojfaelafakemaa", sum := "94f533e79fe45066cc02889f76d523ba3900b868d1cb039b0a7526c346afc2c7", func := "estovers/estoverslaw09.ShootdownCoherent", spec := "shootdownCoherent", unfollowed := true, recurses := true, apart := false }
def ShootdownCoherentSaid : Prop := shootdownCoherentRow.holds Try.pinned (OpenSpec.ofChange shootdownCoherentSpec)

/-- ITS FALSE NEIGHBOUR: 'it returns false'. Refute it at one input. -/
def shootdownCoherentWrong : ChangeSpec := { name := "shootdownCoherent", fn := fun _ => fun
  | [d1, d2] => { results := [.lit (.bool false)], args := [d1, d2] }
  | _ => none }
def ShootdownCoherentWrongFalsely : Prop := shootdownCoherentRow.holds Try.pinned (OpenSpec.ofChange shootdownCoherentWrong)

/-- 'estoverslaw09.ShootdownReads': WHATEVER THE INPUT: true; the input reads as it did. -/
def shootdownReadsSpec : ChangeSpec := { name := "shootdownReads", fn := fun _ => fun
  | [d1, d2] => { results := [.lit (.bool true)], args := [d1, d2] }
  | _ => none }
def shootdownReadsRow : OpenClaim := { program := "ytojfaelafakemaa", sum := "94f533e79fe45066cc02889f76d523ba3900b868d1cb039b0a7526c346afc2c7", func := "estovers/estoverslaw09.ShootdownReads", spec := "shootdownReads", unfollowed := true, recurses := true, apart := false }
def ShootdownReadsSaid : Prop := shootdownReadsRow.holds Try.pinned (OpenSpec.ofChange shootdownReadsSpec)

/-- ITS FALSE NEIGHBOUR: 'it returns false'. Refute it at one input. -/
def shootdownReadsWrong : ChangeSpec := { name := "shootdownReads", fn := fun _ => fun
  | [d1, d2] => { results := [.lit (.bool false)], args := [d1, d2] }
  | _ => none }
def ShootdownReadsWrongFalsely : Prop := shootdownReadsRow.holds Try.pinned (OpenSpec.ofChange shootdownReadsWrong)

/-- 'estoverslaw09.ShootdownFrames': WHATEVER THE INPUT: true; the input reads as it did. -/
def shootdownFramesSpec : ChangeSpec := { name := "shootdownFrames", fn := fun _ => fun
  | [d1, d2] => { results := [.lit (.bool true)], args := [d1, d2] }
  | _ => none }
def shootdownFramesRow : OpenClaim := { program := "ytojfaelafakemaa", sum := "94f533e79fe45066cc02889f76d523ba3900b868d1cb039b0a7526c346afc2c7", func := "estovers/estoverslaw09.ShootdownFrames", spec := "shootdownFrames", unfollowed := true, recurses := true, apart := false }
def ShootdownFramesSaid : Prop := shootdownFramesRow.holds Try.pinned (OpenSpec.ofChange shootdownFramesSpec)

/-- ITS FALSE NEIGHBOUR: 'it returns false'. Refute it at one input. -/
def shootdownFramesWrong : ChangeSpec := { name := "shootdownFrames", fn := fun _ => fun
  | [d1, d2] => { results := [.lit (.bool false)], args := [d1, d2] }
  | _ => none }
def ShootdownFramesWrongFalsely : Prop := shootdownFramesRow.holds Try.pinned (OpenSpec.ofChange shootdownFramesWrong)

/- THE SECOND FORM. 'bulk': how many values and letters a reading holds, each counted each time it is reached (what is shared counts as often as it is met; a slice's spare places count too). A statement '..UptoSaid' is the law's where the arguments, and the package variables that the reading takes, are together of bulk at most 1048576: NARROWER than '..Said'. Prove '..Said' where nothing that the law and all that it calls make is longer than what came in: it says more and counts as full. Else prove '..UptoSaid'. A law counts once. -/
mutual
def uptoBulk {H : Type} : DataW H → Nat
  | .lit (.string bytes) => bytes.length + 1
  | .lit _ => 1
  | .nil => 1
  | .ptr d => uptoBulk d + 1
  | .slice elems spare => uptoBulkAll elems + uptoBulkAll spare + 1
  | .agg parts => uptoBulkAll parts + 1
  | .iface _ d => uptoBulk d + 1
  | .map entries => uptoBulkEntries entries + 1
  | .held _ => 1
def uptoBulkAll {H : Type} : List (DataW H) → Nat
  | [] => 0
  | d :: r => uptoBulk d + uptoBulkAll r
def uptoBulkEntries {H : Type} : List (Lit × DataW H) → Nat
  | [] => 0
  | x :: r => uptoBulkEntry x + uptoBulkEntries r
def uptoBulkEntry {H : Type} : Lit × DataW H → Nat
  | (.string bytes, d) => bytes.length + uptoBulk d + 1
  | (_, d) => uptoBulk d + 1
 end
def uptoSmall : (H : Type) → List (DataW H) → Bool := fun _ ds => decide (uptoBulkAll ds ≤ 1048576)
def OpenSpec.upto (s : _root_.Go.ChangeSpec) : _root_.Go.OpenSpec := { _root_.Go.OpenSpec.ofChange s with cond := some uptoSmall }

/-- 'estoverslaw09.ShootdownIsolates', WHERE WHAT IT READS IS OF BULK AT MOST 1048576: true; the input reads as it did. -/
def shootdownIsolatesUptoRow : OpenClaim := { program := "ytojfaelafakemaa", sum := "94f533e79fe45066cc02889f76d523ba3900b868d1cb039b0a7526c346afc2c7", func := "estovers/estoverslaw09.ShootdownIsolates", spec := "shootdownIsolates", unfollowed := true, recurses := true, apart := false, narrowed := true }
def ShootdownIsolatesUptoSaid : Prop := shootdownIsolatesUptoRow.holds Try.pinned (OpenSpec.upto shootdownIsolatesSpec)

/-- 'estoverslaw09.ShootdownCoherent', WHERE WHAT IT READS IS OF BULK AT MOST 1048576: true; the input reads as it did. -/
def shootdownCoherentUptoRow : OpenClaim := { program := "ytojfaelafakemaa", sum := "94f533e79fe45066cc02889f76d523ba3900b868d1cb039b0a7526c346afc2c7", func := "estovers/estoverslaw09.ShootdownCoherent", spec := "shootdownCoherent", unfollowed := true, recurses := true, apart := false, narrowed := true }
def ShootdownCoherentUptoSaid : Prop := shootdownCoherentUptoRow.holds Try.pinned (OpenSpec.upto shootdownCoherentSpec)

/-- 'estoverslaw09.ShootdownReads', WHERE WHAT IT READS IS OF BULK AT MOST 1048576: true; the input reads as it did. -/
def shootdownReadsUptoRow : OpenClaim := { program := "ytojfaelafakemaa", sum := "94f533e79fe45066cc02889f76d523ba3900b868d1cb039b0a7526c346afc2c7", func := "estovers/estoverslaw09.ShootdownReads", spec := "shootdownReads", unfollowed := true, recurses := true, apart := false, narrowed := true }
def ShootdownReadsUptoSaid : Prop := shootdownReadsUptoRow.holds Try.pinned (OpenSpec.upto shootdownReadsSpec)

/-- 'estoverslaw09.ShootdownFrames', WHERE WHAT IT READS IS OF BULK AT MOST 1048576: true; the input reads as it did. -/
def shootdownFramesUptoRow : OpenClaim := { program := "ytojfaelafakemaa", sum := "94f533e79fe45066cc02889f76d523ba3900b868d1cb039b0a7526c346afc2c7", func := "estovers/estoverslaw09.ShootdownFrames", spec := "shootdownFrames", unfollowed := true, recurses := true, apart := false, narrowed := true }
def ShootdownFramesUptoSaid : Prop := shootdownFramesUptoRow.holds Try.pinned (OpenSpec.upto shootdownFramesSpec)

end Rows
end Go.Proofs.Ytojfaelafakemaa
