/- The walks of stackdist: maps from numbers to numbers. No conditions. -/
import Derived.Test.YtdmphjphcdcdkaaStkWalks
import Derived.Test.YtdmphjphcdcdkaaStkSpec3
import Derived.Test.YtdmphjphcdcdkaaMap2
set_option linter.unusedSimpArgs false
set_option linter.unusedVariables false
namespace Go.Proofs.Ytdmphjphcdcdkaa
open Go Go.RowKit
attribute [local irreducible] Code.wp wpList bodyPost Exit.then Exit.inBlock Calls wpQuiet Tri TriQ
instance : MpTy Try.prog 37 Int := ⟨_, _, Try.underlying37, Try.underlying3, fun w => Zr.run w⟩
theorem getD_map_range {g : Nat → Int} {n j : Nat} (h : j < n) : ((List.range n).map g).getD j default = g j := by
  rw [getD_get (by simpa using h)]; simp
end Go.Proofs.Ytdmphjphcdcdkaa
