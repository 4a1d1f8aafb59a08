/-
  No cell of these rows narrows 'for every input' (looked for: loops, veiled, ifaces, maps, wideKeys, modest, calm, conditions, laid).
  DERIVED. THE GIVEN ROWS OF THIS SEAT. 8 by the template 'for every input the law returns true; each argument reads behind the call as it read before'; 0 by the template 'total and deterministic' (their statements: YthfdmcjnodlikaaTotals.lean).
  GIVEN WITH THE SEED: the statements are not yours to turn. If you find one false, say at which input.
  Laid BY PROGRAM, IN A SANDBOX (cutbox-rows.mjs): the forced cells as the released guide's own fill.sh prints them over the translation ffc79af0eac3206e… (all of the seat's roots in one cut). By AI agents, Wed Nov 11 2026. No macro, syntax, notation, axiom, sorry.
-/
import Derived.Test.YthfdmcjnodlikaaChecked
import GoSem.Claim
import GoSem.ClaimJoined
import GoSem.ClaimMapViews
import Derived.JoinedTies
import Derived.KernelRfl
namespace Go.Proofs.Ythfdmcjnodlikaa
/- THE CELL 'sum', in the pinned program and in every row, IS THE sha256 OF THE DUMP (.gsa) THAT YthfdmcjnodlikaaProg.lean LOADS. Nothing in Lean hashes anything: it is a label: what it is worth is what the hold of that sum in a sandbox is worth. -/
noncomputable def Try.pinned : Pinned := { name := "ythfdmcjnodlikaa", sum := "ffc79af0eac3206e2b417fbd8bf1102a6c177d5b92ec88bccf78295be403269c", checked := Try.checked }
namespace Rows
def none {H : Type} : Left H := { results := [], args := [] }

/-- 'estoverslaw37.StackdistTouches': WHATEVER THE INPUT: true; the input reads as it did. -/
def stackdistTouchesSpec : ChangeSpec := { name := "stackdistTouches", fn := fun _ => fun
  | [d1, d2, d3] => { results := [.lit (.bool true)], args := [d1, d2, d3] }
  | _ => none }
def stackdistTouchesRow : OpenClaim := { program := "ythfdmcjnodlikaa", sum := "ffc79af0eac3206e2b417fbd8bf1102a6c177d5b92ec88bccf78295be403269c", func := "estovers/estoverslaw37.StackdistTouches", spec := "stackdistTouches", apart := false }
def StackdistTouchesSaid : Prop := stackdistTouchesRow.holds Try.pinned (OpenSpec.ofChange stackdistTouchesSpec)

/-- ITS FALSE NEIGHBOUR: 'it returns false'. Refute it at one input. -/
def stackdistTouchesWrong : ChangeSpec := { name := "stackdistTouches", fn := fun _ => fun
  | [d1, d2, d3] => { results := [.lit (.bool false)], args := [d1, d2, d3] }
  | _ => none }
def StackdistTouchesWrongFalsely : Prop := stackdistTouchesRow.holds Try.pinned (OpenSpec.ofChange stackdistTouchesWrong)

/-- 'estoverslaw37.StackdistFaults': WHATEVER THE INPUT: true; the input reads as it did. -/
def stackdistFaultsSpec : ChangeSpec := { name := "stackdistFaults", fn := fun _ => fun
  | [d1, d2] => { results := [.lit (.bool true)], args := [d1, d2] }
  | _ => none }
def stackdistFaultsRow : OpenClaim := { program := "ythfdmcjnodlikaa", sum := "ffc79af0eac3206e2b417fbd8bf1102a6c177d5b92ec88bccf78295be403269c", func := "estovers/estoverslaw37.StackdistFaults", spec := "stackdistFaults", apart := false }
def StackdistFaultsSaid : Prop := stackdistFaultsRow.holds Try.pinned (OpenSpec.ofChange stackdistFaultsSpec)

/-- ITS FALSE NEIGHBOUR: 'it returns false'. Refute it at one input. -/
def stackdistFaultsWrong : ChangeSpec := { name := "stackdistFaults", fn := fun _ => fun
  | [d1, d2] => { results := [.lit (.bool false)], args := [d1, d2] }
  | _ => none }
def StackdistFaultsWrongFalsely : Prop := stackdistFaultsRow.holds Try.pinned (OpenSpec.ofChange stackdistFaultsWrong)

/-- 'estoverslaw37.StackdistCurves': WHATEVER THE INPUT: true; the input reads as it did. -/
def stackdistCurvesSpec : ChangeSpec := { name := "stackdistCurves", fn := fun _ => fun
  | [d1, d2, d3] => { results := [.lit (.bool true)], args := [d1, d2, d3] }
  | _ => none }
def stackdistCurvesRow : OpenClaim := { program := "ythfdmcjnodlikaa", sum := "ffc79af0eac3206e2b417fbd8bf1102a6c177d5b92ec88bccf78295be403269c", func := "estovers/estoverslaw37.StackdistCurves", spec := "stackdistCurves", apart := false }
def StackdistCurvesSaid : Prop := stackdistCurvesRow.holds Try.pinned (OpenSpec.ofChange stackdistCurvesSpec)

/-- ITS FALSE NEIGHBOUR: 'it returns false'. Refute it at one input. -/
def stackdistCurvesWrong : ChangeSpec := { name := "stackdistCurves", fn := fun _ => fun
  | [d1, d2, d3] => { results := [.lit (.bool false)], args := [d1, d2, d3] }
  | _ => none }
def StackdistCurvesWrongFalsely : Prop := stackdistCurvesRow.holds Try.pinned (OpenSpec.ofChange stackdistCurvesWrong)

/-- 'estoverslaw37.StackdistMattson': WHATEVER THE INPUT: true; the input reads as it did. -/
def stackdistMattsonSpec : ChangeSpec := { name := "stackdistMattson", fn := fun _ => fun
  | [d1, d2] => { results := [.lit (.bool true)], args := [d1, d2] }
  | _ => none }
def stackdistMattsonRow : OpenClaim := { program := "ythfdmcjnodlikaa", sum := "ffc79af0eac3206e2b417fbd8bf1102a6c177d5b92ec88bccf78295be403269c", func := "estovers/estoverslaw37.StackdistMattson", spec := "stackdistMattson", apart := false }
def StackdistMattsonSaid : Prop := stackdistMattsonRow.holds Try.pinned (OpenSpec.ofChange stackdistMattsonSpec)

/-- ITS FALSE NEIGHBOUR: 'it returns false'. Refute it at one input. -/
def stackdistMattsonWrong : ChangeSpec := { name := "stackdistMattson", fn := fun _ => fun
  | [d1, d2] => { results := [.lit (.bool false)], args := [d1, d2] }
  | _ => none }
def StackdistMattsonWrongFalsely : Prop := stackdistMattsonRow.holds Try.pinned (OpenSpec.ofChange stackdistMattsonWrong)

/-- 'estoverslaw37.StackdistInclusion': WHATEVER THE INPUT: true; the input reads as it did. -/
def stackdistInclusionSpec : ChangeSpec := { name := "stackdistInclusion", fn := fun _ => fun
  | [d1, d2] => { results := [.lit (.bool true)], args := [d1, d2] }
  | _ => none }
def stackdistInclusionRow : OpenClaim := { program := "ythfdmcjnodlikaa", sum := "ffc79af0eac3206e2b417fbd8bf1102a6c177d5b92ec88bccf78295be403269c", func := "estovers/estoverslaw37.StackdistInclusion", spec := "stackdistInclusion", apart := false }
def StackdistInclusionSaid : Prop := stackdistInclusionRow.holds Try.pinned (OpenSpec.ofChange stackdistInclusionSpec)

/-- ITS FALSE NEIGHBOUR: 'it returns false'. Refute it at one input. -/
def stackdistInclusionWrong : ChangeSpec := { name := "stackdistInclusion", fn := fun _ => fun
  | [d1, d2] => { results := [.lit (.bool false)], args := [d1, d2] }
  | _ => none }
def StackdistInclusionWrongFalsely : Prop := stackdistInclusionRow.holds Try.pinned (OpenSpec.ofChange stackdistInclusionWrong)

/-- 'estoverslaw37.StackdistOptimal': WHATEVER THE INPUT: true; the input reads as it did. -/
def stackdistOptimalSpec : ChangeSpec := { name := "stackdistOptimal", fn := fun _ => fun
  | [d1, d2] => { results := [.lit (.bool true)], args := [d1, d2] }
  | _ => none }
def stackdistOptimalRow : OpenClaim := { program := "ythfdmcjnodlikaa", sum := "ffc79af0eac3206e2b417fbd8bf1102a6c177d5b92ec88bccf78295be403269c", func := "estovers/estoverslaw37.StackdistOptimal", spec := "stackdistOptimal", recurses := true, apart := false }
def StackdistOptimalSaid : Prop := stackdistOptimalRow.holds Try.pinned (OpenSpec.ofChange stackdistOptimalSpec)

/-- ITS FALSE NEIGHBOUR: 'it returns false'. Refute it at one input. -/
def stackdistOptimalWrong : ChangeSpec := { name := "stackdistOptimal", fn := fun _ => fun
  | [d1, d2] => { results := [.lit (.bool false)], args := [d1, d2] }
  | _ => none }
def StackdistOptimalWrongFalsely : Prop := stackdistOptimalRow.holds Try.pinned (OpenSpec.ofChange stackdistOptimalWrong)

/-- 'estoverslaw37.StackdistOrder': WHATEVER THE INPUT: true; the input reads as it did. -/
def stackdistOrderSpec : ChangeSpec := { name := "stackdistOrder", fn := fun _ => fun
  | [d1, d2] => { results := [.lit (.bool true)], args := [d1, d2] }
  | _ => none }
def stackdistOrderRow : OpenClaim := { program := "ythfdmcjnodlikaa", sum := "ffc79af0eac3206e2b417fbd8bf1102a6c177d5b92ec88bccf78295be403269c", func := "estovers/estoverslaw37.StackdistOrder", spec := "stackdistOrder", apart := false }
def StackdistOrderSaid : Prop := stackdistOrderRow.holds Try.pinned (OpenSpec.ofChange stackdistOrderSpec)

/-- ITS FALSE NEIGHBOUR: 'it returns false'. Refute it at one input. -/
def stackdistOrderWrong : ChangeSpec := { name := "stackdistOrder", fn := fun _ => fun
  | [d1, d2] => { results := [.lit (.bool false)], args := [d1, d2] }
  | _ => none }
def StackdistOrderWrongFalsely : Prop := stackdistOrderRow.holds Try.pinned (OpenSpec.ofChange stackdistOrderWrong)

/-- 'estoverslaw37.StackdistWindows': WHATEVER THE INPUT: true; the input reads as it did. -/
def stackdistWindowsSpec : ChangeSpec := { name := "stackdistWindows", fn := fun _ => fun
  | [d1, d2] => { results := [.lit (.bool true)], args := [d1, d2] }
  | _ => none }
def stackdistWindowsRow : OpenClaim := { program := "ythfdmcjnodlikaa", sum := "ffc79af0eac3206e2b417fbd8bf1102a6c177d5b92ec88bccf78295be403269c", func := "estovers/estoverslaw37.StackdistWindows", spec := "stackdistWindows", apart := false }
def StackdistWindowsSaid : Prop := stackdistWindowsRow.holds Try.pinned (OpenSpec.ofChange stackdistWindowsSpec)

/-- ITS FALSE NEIGHBOUR: 'it returns false'. Refute it at one input. -/
def stackdistWindowsWrong : ChangeSpec := { name := "stackdistWindows", fn := fun _ => fun
  | [d1, d2] => { results := [.lit (.bool false)], args := [d1, d2] }
  | _ => none }
def StackdistWindowsWrongFalsely : Prop := stackdistWindowsRow.holds Try.pinned (OpenSpec.ofChange stackdistWindowsWrong)

/- THE SECOND FORM. 'bulk': how many values and letters a reading holds, each counted each time it is reached (what is shared counts as often as it is met; a slice's spare places count too). A statement '..UptoSaid' is the law's where the arguments, and the package variables that the reading takes, are together of bulk at most 1048576: NARROWER than '..Said'. Prove '..Said' where nothing that the law and all that it calls make is longer than what came in: it says more and counts as full. Else prove '..UptoSaid'. A law counts once. -/
mutual
def uptoBulk {H : Type} : DataW H → Nat
  | .lit (.string bytes) => bytes.length + 1
  | .lit _ => 1
  | .nil => 1
  | .ptr d => uptoBulk d + 1
  | .slice elems spare => uptoBulkAll elems + uptoBulkAll spare + 1
  | .agg parts => uptoBulkAll parts + 1
  | .iface _ d => uptoBulk d + 1
  | .map entries => uptoBulkEntries entries + 1
  | .held _ => 1
def uptoBulkAll {H : Type} : List (DataW H) → Nat
  | [] => 0
  | d :: r => uptoBulk d + uptoBulkAll r
def uptoBulkEntries {H : Type} : List (Lit × DataW H) → Nat
  | [] => 0
  | x :: r => uptoBulkEntry x + uptoBulkEntries r
def uptoBulkEntry {H : Type} : Lit × DataW H → Nat
  | (.string bytes, d) => bytes.length + uptoBulk d + 1
  | (_, d) => uptoBulk d + 1
 end
def uptoSmall : (H : Type) → List (DataW H) → Bool := fun _ ds => decide (uptoBulkAll ds ≤ 1048576)
def OpenSpec.upto (s : _root_.Go.ChangeSpec) : _root_.Go.OpenSpec := { _root_.Go.OpenSpec.ofChange s with cond := some uptoSmall }

/-- 'estoverslaw37.StackdistTouches', WHERE WHAT IT READS IS OF BULK AT MOST 1048576: true; the input reads as it did. -/
def stackdistTouchesUptoRow : OpenClaim := { program := "ythfdmcjnodlikaa", sum := "ffc79af0eac3206e2b417fbd8bf1102a6c177d5b92ec88bccf78295be403269c", func := "estovers/estoverslaw37.StackdistTouches", spec := "stackdistTouches", apart := false, narrowed := true }
def StackdistTouchesUptoSaid : Prop := stackdistTouchesUptoRow.holds Try.pinned (OpenSpec.upto stackdistTouchesSpec)

/-- 'estoverslaw37.StackdistFaults', WHERE WHAT IT READS IS OF BULK AT MOST 1048576: true; the input reads as it did. -/
def stackdistFaultsUptoRow : OpenClaim := { program := "ythfdmcjnodlikaa", sum := "ffc79af0eac3206e2b417fbd8bf1102a6c177d5b92ec88bccf78295be403269c", func := "estovers/estoverslaw37.StackdistFaults", spec := "stackdistFaults", apart := false, narrowed := true }
def StackdistFaultsUptoSaid : Prop := stackdistFaultsUptoRow.holds Try.pinned (OpenSpec.upto stackdistFaultsSpec)

/-- 'estoverslaw37.StackdistCurves', WHERE WHAT IT READS IS OF BULK AT MOST 1048576: true; the input reads as it did. -/
def stackdistCurvesUptoRow : OpenClaim := { program := "ythfdmcjnodlikaa", sum := "ffc79af0eac3206e2b417fbd8bf1102a6c177d5b92ec88bccf78295be403269c", func := "estovers/estoverslaw37.StackdistCurves", spec := "stackdistCurves", apart := false, narrowed := true }
def StackdistCurvesUptoSaid : Prop := stackdistCurvesUptoRow.holds Try.pinned (OpenSpec.upto stackdistCurvesSpec)

/-- 'estoverslaw37.StackdistMattson', WHERE WHAT IT READS IS OF BULK AT MOST 1048576: true; the input reads as it did. -/
def stackdistMattsonUptoRow : OpenClaim := { program := "ythfdmcjnodlikaa", sum := "ffc79af0eac3206e2b417fbd8bf1102a6c177d5b92ec88bccf78295be403269c", func := "estovers/estoverslaw37.StackdistMattson", spec := "stackdistMattson", apart := false, narrowed := true }
def StackdistMattsonUptoSaid : Prop := stackdistMattsonUptoRow.holds Try.pinned (OpenSpec.upto stackdistMattsonSpec)

/-- 'estoverslaw37.StackdistInclusion', WHERE WHAT IT READS IS OF BULK AT MOST 1048576: true; the input reads as it did. -/
def stackdistInclusionUptoRow : OpenClaim := { program := "ythfdmcjnodlikaa", sum := "ffc79af0eac3206e2b417fbd8bf1102a6c177d5b92ec88bccf78295be403269c", func := "estovers/estoverslaw37.StackdistInclusion", spec := "stackdistInclusion", apart := false, narrowed := true }
def StackdistInclusionUptoSaid : Prop := stackdistInclusionUptoRow.holds Try.pinned (OpenSpec.upto stackdistInclusionSpec)

/-- 'estoverslaw37.StackdistOptimal', WHERE WHAT IT READS IS OF BULK AT MOST 1048576: true; the input reads as it did. -/
def stackdistOptimalUptoRow : OpenClaim := { program := "ythfdmcjnodlikaa", sum := "ffc79af0eac3206e2b417fbd8bf1102a6c177d5b92ec88bccf78295be403269c", func := "estovers/estoverslaw37.StackdistOptimal", spec := "stackdistOptimal", recurses := true, apart := false, narrowed := true }
def StackdistOptimalUptoSaid : Prop := stackdistOptimalUptoRow.holds Try.pinned (OpenSpec.upto stackdistOptimalSpec)

/-- 'estoverslaw37.StackdistOrder', WHERE WHAT IT READS IS OF BULK AT MOST 1048576: true; the input reads as it did. -/
def stackdistOrderUptoRow : OpenClaim := { program := "ythfdmcjnodlikaa", sum := "ffc79af0eac3206e2b417fbd8bf1102a6c177d5b92ec88bccf78295be403269c", func := "estovers/estoverslaw37.StackdistOrder", spec := "stackdistOrder", apart := false, narrowed := true }
def StackdistOrderUptoSaid : Prop := stackdistOrderUptoRow.holds Try.pinned (OpenSpec.upto stackdistOrderSpec)

/-- 'estoverslaw37.StackdistWindows', WHERE WHAT IT READS IS OF BULK AT MOST 1048576: true; the input reads as it did. -/
def stackdistWindowsUptoRow : OpenClaim := { program := "ythfdmcjnodlikaa", sum := "ffc79af0eac3206e2b417fbd8bf1102a6c177d5b92ec88bccf78295be403269c", func := "estovers/estoverslaw37.StackdistWindows", spec := "stackdistWindows", apart := false, narrowed := true }
def StackdistWindowsUptoSaid : Prop := stackdistWindowsUptoRow.holds Try.pinned (OpenSpec.upto stackdistWindowsSpec)

end Rows
end Go.Proofs.Ythfdmcjnodlikaa
