/- A region that draws its order, when two of its operations may come up. No conditions. -/
import Derived.Test.YthlildafofbiaaaSeq
set_option linter.unusedSimpArgs false
set_option linter.unusedVariables false
namespace Go.Proofs.Ythlildafofbiaaa
open Go Go.RowKit
section
variable {M : List Nat} {P : Program} {n d : Nat} {Q : Exit → Act → World → Prop} {F : Act → World → Prop} {l : List Oper} {E : Env} {w0 : World} {cs cs0 : List Chunk} {fuel : Nat} {listed : Array Bool} {S : World → Prop}
theorem wpop_of {i : Nat} {o : Oper} (hi : l[i]? = some o) {a : Act} {w : World} (h : wpList P l.toArray (Exit.then (fun a w => S w ∧ wpAnyH P .any l.toArray (Exit.then F NoQ) S fuel (listed.setIfInBounds i true) a w) NoQ) [o] a w) :
    wpOp P l.toArray (Exit.then F NoQ) i (fun a' w' => S w' ∧ wpAnyH P .any l.toArray (Exit.then F NoQ) S fuel (listed.setIfInBounds i true) a' w') a w := by
  have hi' : l.toArray[i]? = some o := by simpa using hi
  unfold wpList at h
  unfold wpOp
  rw [hi']
  simp only
  by_cases hw : Region.wanted o (yielded l.toArray a.tmps) = true
  · rw [if_pos hw] at h ⊢
    rcases h with h | ⟨_, a', w', h⟩
    · left
      have e : wpList P l.toArray (Exit.then (fun a w => S w ∧ wpAnyH P .any l.toArray (Exit.then F NoQ) S fuel (listed.setIfInBounds i true) a w) NoQ) [] = fun a w => S w ∧ wpAnyH P .any l.toArray (Exit.then F NoQ) S fuel (listed.setIfInBounds i true) a w := by
        funext a w; rfl
      rw [e] at h
      unfold Oper.wp at h ⊢
      unfold Oper.upon at h ⊢
      split at h <;> exact h
    · exact h.elim
  · rw [if_neg hw] at h ⊢
    exact h
theorem ap_op2 [Dl] (i j : Nat) {oi oj : Oper} (hi : l[i]? = some oi) (hj : l[j]? = some oj)
    (ki : Tri n (wpList P l.toArray (Exit.then (fun a w => HpM M w0 cs0 w ∧ wpAnyH P .any l.toArray (Exit.then F NoQ) (HpM M w0 cs0) fuel (listed.setIfInBounds i true) a w) NoQ) [oi]) E (HpM M w0 cs))
    (kj : Tri n (wpList P l.toArray (Exit.then (fun a w => HpM M w0 cs0 w ∧ wpAnyH P .any l.toArray (Exit.then F NoQ) (HpM M w0 cs0) fuel (listed.setIfInBounds j true) a w) NoQ) [oj]) E (HpM M w0 cs))
    (hr : Region.ready .any l.toArray listed = [i, j] := by kernel_rfl) : TH P n l (HpM M w0 cs0) (fuel + 1) listed F E (HpM M w0 cs) := fun a w h1 h2 => by
  refine wpAnyH_all hr (by simp) fun k hk => ?_
  have : k = i ∨ k = j := by simpa using hk
  rcases this with rfl | rfl
  · exact wpop_of hi (ki a w h1 h2)
  · exact wpop_of hj (kj a w h1 h2)
end
end Go.Proofs.Ythlildafofbiaaa
