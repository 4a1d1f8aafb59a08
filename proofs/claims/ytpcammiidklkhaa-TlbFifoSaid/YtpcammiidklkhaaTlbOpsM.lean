/- What Lookup, Fill, Invalidate and Flush compute, in plain Lean. No conditions. -/
import Derived.Test.YtpcammiidklkhaaTlbSpec
set_option linter.unusedSimpArgs false
set_option linter.unusedVariables false
namespace Go.Proofs.Ytpcammiidklkhaa
open Go Go.RowKit
def lookL (l : List TE) (s p : Int) : Int × Bool := match l.find? (fun x => covM x s p) with | some x => (x.w, true) | none => (0, false)
def lookM (z : Int) (l : List TE) (s p : Int) : Int × Bool := if checkM z l = 0 then lookL l s p else (0, false)
theorem look_at {l : List TE} {s p : Int} {k : Nat} (hk : k < l.length) (h : covM (l.getD k default) s p = true) (hn : ∀ j, j < k → covM (l.getD j default) s p = false) : lookL l s p = ((l.getD k default).w, true) := by
  have : l.find? (fun x => covM x s p) = some (l.getD k default) := by
    rw [List.find?_eq_some_iff_getElem]
    refine ⟨h, k, hk, (getD_get hk).symm, fun j hj => ?_⟩
    have := hn j hj
    rw [getD_get (by omega)] at this
    simp [this]
  unfold lookL; rw [this]
theorem look_no {l : List TE} {s p : Int} (hn : ∀ j, j < l.length → covM (l.getD j default) s p = false) : lookL l s p = (0, false) := by
  have : l.find? (fun x => covM x s p) = none := by
    rw [List.find?_eq_none]
    intro x hx
    obtain ⟨j, hj, rfl⟩ := List.getElem_of_mem hx
    have := hn j hj
    rw [getD_get hj] at this
    simp [this]
  unfold lookL; rw [this]
def mkX (s p w : Int) : TE := ⟨s, if hu w then grp p else p, w⟩
def mkE (z : Int) (l : List TE) (s p w : Int) : Int := if checkM z l = 0 then (if plcM s p = 0 then (if tr w then 0 else 3) else 2) else checkM z l
def mkK (l : List TE) (x : TE) : List TE := l.filter fun y => !ovM x y
def dropK (z : Int) (k : List TE) : List TE := if (k.length : Int) = z then k.drop 1 else k
def mkL (z : Int) (l : List TE) (x : TE) : List TE := dropK z (mkK l x) ++ [x]
def resZ (e z : Int) : Int := if e = 0 then z else 0
def resL (e : Int) (l : List TE) : List TE := if e = 0 then l else []
def invE (z : Int) (l : List TE) (s p : Int) : Int := if checkM z l = 0 then plcM s p else checkM z l
def invL (l : List TE) (s p : Int) : List TE := l.filter fun y => !covM y s p
def flE (z : Int) (l : List TE) (s : Int) : Int := if checkM z l = 0 then plcM s 0 else checkM z l
def flL (l : List TE) (s : Int) : List TE := l.filter fun y => !(y.s == s)
theorem plc_two {s p : Int} : plcM s p = 0 ∨ plcM s p = 2 := by unfold plcM; split <;> simp
theorem plc_ne {s p : Int} (h : ¬ plcM s p = 0) : plcM s p = 2 := by rcases plc_two (s := s) (p := p) with h' | h' <;> simp_all
theorem dropK_le {z : Int} {l : List TE} (hz : 1 ≤ z) (hl : (l.length : Int) ≤ z) : ((dropK z l).length : Int) + 1 ≤ z := by
  unfold dropK
  split
  · rw [List.length_drop]; omega
  · omega
theorem mkX_vd {s p w : Int} (h : plcM s p = 0) (ht : tr w = true) : Vd (mkX s p w) := by
  obtain ⟨h1, h2⟩ := plc_ok h
  refine ⟨h1, ?_, ht, fun hh => ?_⟩
  · show 0 ≤ (if hu w then grp p else p) ∧ (if hu w then grp p else p) < 512
    unfold grp
    split <;> omega
  · show (if hu w then grp p else p) % 8 = 0
    have : hu w = true := hh
    rw [if_pos this]
    unfold grp; omega
end Go.Proofs.Ytpcammiidklkhaa
