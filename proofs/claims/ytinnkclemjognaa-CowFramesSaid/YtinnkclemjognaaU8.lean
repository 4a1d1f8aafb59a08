/- Arrays of bytes, by value, as arguments. No conditions. -/
import Derived.Test.YtinnkclemjognaaLiftA
import Derived.Test.YtinnkclemjognaaFacts
set_option linter.unusedVariables false
namespace Go.Proofs.Ytinnkclemjognaa
open Go Go.ChangeShapes Go.WideShapes Go.ChangeAt Go.RowKit
structure U8 where
  v : Int
  deriving DecidableEq
instance : Enc U8 where
  default := ⟨0⟩
  sz := 1
  enc := fun s => [.int .u8 s.v]
  dec := fun cs => match cs with | [.int _ i] => ⟨i⟩ | _ => ⟨0⟩
  len := fun _ => rfl
  one := fun _ u hu => by simp at hu; subst hu; rfl
  pos := by decide
instance : Rds Try.prog 5 U8 (fun s => 0 ≤ s.v ∧ s.v ≤ 255) := ⟨by kernel_rfl, fun h _ => by
  obtain ⟨n, rfl, _, hw⟩ := DataW.trod_int Try.underlying5 h
  have hb : 0 ≤ n ∧ n ≤ 255 := by
    simp [Lit.wf, IntKind.min, IntKind.max, IntKind.signed, IntKind.bits] at hw
    omega
  exact ⟨⟨n⟩, rfl, hb⟩⟩
theorem two_u8 {l : List U8} (h : l.length = 2) (hw : ∀ a ∈ l, 0 ≤ a.v ∧ a.v ≤ 255) : ∃ a b, l = [⟨a⟩, ⟨b⟩] ∧ (0 ≤ a ∧ a ≤ 255) ∧ (0 ≤ b ∧ b ≤ 255) := by
  match l, h with
  | [x, y], _ => exact ⟨x.v, y.v, rfl, hw x (by simp), hw y (by simp)⟩
theorem four_u8 {l : List U8} (h : l.length = 4) (hw : ∀ a ∈ l, 0 ≤ a.v ∧ a.v ≤ 255) : ∃ a b c d, l = [⟨a⟩, ⟨b⟩, ⟨c⟩, ⟨d⟩] ∧ (0 ≤ a ∧ a ≤ 255) ∧ (0 ≤ b ∧ b ≤ 255) ∧ (0 ≤ c ∧ c ≤ 255) ∧ (0 ≤ d ∧ d ≤ 255) := by
  match l, h with
  | [x, y, z, u], _ => exact ⟨x.v, y.v, z.v, u.v, rfl, hw x (by simp), hw y (by simp), hw z (by simp), hw u (by simp)⟩
end Go.Proofs.Ytinnkclemjognaa
