/-
  No cell of these rows narrows 'for every input' (looked for: loops, veiled, ifaces, maps, wideKeys, modest, calm, conditions, laid).
  DERIVED. THE GIVEN ROWS OF THIS SEAT. 2 by the template 'for every input the law returns true; each argument reads behind the call as it read before'; 0 by the template 'total and deterministic' (their statements: YtojfaelafakemaaGreatTotals.lean).
  GIVEN WITH THE SEED: the statements are not yours to turn. If you find one false, say at which input.
  Laid BY PROGRAM, IN A SANDBOX (cutbox-rows.mjs): the forced cells as the released guide's own fill.sh prints them over the translation 69df484e7d6840b7… (all of the seat's roots in one cut). By AI agents, Wed Nov 11 2026. No macro, syntax, notation, axiom, sorry.
-/
import Derived.Test.YtojfaelafakemaaGreatChecked
import GoSem.Claim
import GoSem.ClaimJoined
import GoSem.ClaimMapViews
import Derived.JoinedTies
import Derived.KernelRfl
namespace Go.Proofs.YtojfaelafakemaaGreat
/- THE CELL 'sum', in the pinned program and in every row, IS THE sha256 OF THE DUMP (.gsa) THAT YtojfaelafakemaaGreatProg.lean LOADS. Nothing in Lean hashes anything: it is a label: what it is worth is what the hold of that sum in a sandbox is worth. -/
noncomputable def Tryz.pinned : Pinned := { name := "ytojfaelafakemaagreat", sum := "69df484e7d6840b7a35638796a9c3a4eefb2b7cf1eb6a765227e46eec736ac72", checked := Tryz.checked }
namespace Rows
def none {H : Type} : Left H := { results := [], args := [] }

/-- 'estoverslaw09.ShootdownSteps': WHATEVER THE INPUT: true; the input reads as it did. -/
def shootdownStepsSpec : ChangeSpec := { name := "shootdownSteps", fn := fun _ => fun
  | [d1, d2] => { results := [.lit (.bool true)], args := [d1, d2] }
  | _ => none }
def shootdownStepsRow : OpenClaim := { program := "ytojfaelafakemaagreat", sum := "69df484e7d6840b7a35638796a9c3a4eefb2b7cf1eb6a765227e46eec736ac72", func := "estovers/estoverslaw09.ShootdownSteps", spec := "shootdownSteps", unfollowed := true, recurses := true, apart := false }
def ShootdownStepsSaid : Prop := shootdownStepsRow.holds Tryz.pinned (OpenSpec.ofChange shootdownStepsSpec)

/-- ITS FALSE NEIGHBOUR: 'it returns false'. Refute it at one input. -/
def shootdownStepsWrong : ChangeSpec := { name := "shootdownSteps", fn := fun _ => fun
  | [d1, d2] => { results := [.lit (.bool false)], args := [d1, d2] }
  | _ => none }
def ShootdownStepsWrongFalsely : Prop := shootdownStepsRow.holds Tryz.pinned (OpenSpec.ofChange shootdownStepsWrong)

/-- 'estoverslaw09.ShootdownChecks': WHATEVER THE INPUT: true; the input reads as it did. -/
def shootdownChecksSpec : ChangeSpec := { name := "shootdownChecks", fn := fun _ => fun
  | [d1, d2] => { results := [.lit (.bool true)], args := [d1, d2] }
  | _ => none }
def shootdownChecksRow : OpenClaim := { program := "ytojfaelafakemaagreat", sum := "69df484e7d6840b7a35638796a9c3a4eefb2b7cf1eb6a765227e46eec736ac72", func := "estovers/estoverslaw09.ShootdownChecks", spec := "shootdownChecks", unfollowed := true, recurses := true, apart := false }
def ShootdownChecksSaid : Prop := shootdownChecksRow.holds Tryz.pinned (OpenSpec.ofChange shootdownChecksSpec)

/-- ITS FALSE NEIGHBOUR: 'it returns false'. Refute it at one input. -/
def shootdownChecksWrong : ChangeSpec := { name := "shootdownChecks", fn := fun _ => fun
  | [d1, d2] => { results := [.lit (.bool false)], args := [d1, d2] }
  | _ => none }
def ShootdownChecksWrongFalsely : Prop := shootdownChecksRow.holds Tryz.pinned (OpenSpec.ofChange shootdownChecksWrong)

/- THE SECOND FORM. 'bulk': how many values and letters a reading holds, each counted each time it is reached (what is shared counts as often as it is met; a slice's spare places count too). A statement '..UptoSaid' is the law's where the arguments, and the package variables that the reading takes, are together of bulk at most 1048576: NARROWER than '..Said'. Prove '..Said' where nothing that the law and all that it calls make is longer than what came in: it says more and counts as full. Else prove '..UptoSaid'. A law counts once. -/
mutual
def uptoBulk {H : Type} : DataW H → Nat
  | .lit (.string bytes) => bytes.length + 1
  | .lit _ => 1
  | .nil => 1
  | .ptr d => uptoBulk d + 1
  | .slice elems spare => uptoBulkAll elems + uptoBulkAll spare + 1
  | .agg parts => uptoBulkAll parts + 1
  | .iface _ d => uptoBulk d + 1
  | .map entries => uptoBulkEntries entries + 1
  | .held _ => 1
def uptoBulkAll {H : Type} : List (DataW H) → Nat
  | [] => 0
  | d :: r => uptoBulk d + uptoBulkAll r
def uptoBulkEntries {H : Type} : List (Lit × DataW H) → Nat
  | [] => 0
  | x :: r => uptoBulkEntry x + uptoBulkEntries r
def uptoBulkEntry {H : Type} : Lit × DataW H → Nat
  | (.string bytes, d) => bytes.length + uptoBulk d + 1
  | (_, d) => uptoBulk d + 1
 end
def uptoSmall : (H : Type) → List (DataW H) → Bool := fun _ ds => decide (uptoBulkAll ds ≤ 1048576)
def OpenSpec.upto (s : _root_.Go.ChangeSpec) : _root_.Go.OpenSpec := { _root_.Go.OpenSpec.ofChange s with cond := some uptoSmall }

/-- 'estoverslaw09.ShootdownSteps', WHERE WHAT IT READS IS OF BULK AT MOST 1048576: true; the input reads as it did. -/
def shootdownStepsUptoRow : OpenClaim := { program := "ytojfaelafakemaagreat", sum := "69df484e7d6840b7a35638796a9c3a4eefb2b7cf1eb6a765227e46eec736ac72", func := "estovers/estoverslaw09.ShootdownSteps", spec := "shootdownSteps", unfollowed := true, recurses := true, apart := false, narrowed := true }
def ShootdownStepsUptoSaid : Prop := shootdownStepsUptoRow.holds Tryz.pinned (OpenSpec.upto shootdownStepsSpec)

/-- 'estoverslaw09.ShootdownChecks', WHERE WHAT IT READS IS OF BULK AT MOST 1048576: true; the input reads as it did. -/
def shootdownChecksUptoRow : OpenClaim := { program := "ytojfaelafakemaagreat", sum := "69df484e7d6840b7a35638796a9c3a4eefb2b7cf1eb6a765227e46eec736ac72", func := "estovers/estoverslaw09.ShootdownChecks", spec := "shootdownChecks", unfollowed := true, recurses := true, apart := false, narrowed := true }
def ShootdownChecksUptoSaid : Prop := shootdownChecksUptoRow.holds Tryz.pinned (OpenSpec.upto shootdownChecksSpec)

end Rows
end Go.Proofs.YtojfaelafakemaaGreat
