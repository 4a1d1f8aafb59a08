/- A region that draws its order, when several operations may come up at a time: one lemma for each set of done operations. No conditions. -/
import Derived.Test.YtinnkclemjognaaSeqR
set_option linter.unusedSimpArgs false
set_option linter.unusedVariables false
namespace Go.Proofs.Ytinnkclemjognaa
open Go Go.RowKit
def TN [Dl] (P : Program) (n : Nat) (l : List Oper) (fuel : Nat) (bs : List Bool) (F : Act → World → Prop) (E : Env) (H : World → Prop) : Prop := ∀ a w, FrOk n E a → H w → wpAny P .any l.toArray (Exit.then F NoQ) fuel bs.toArray a w
section
variable {M : List Nat} {P : Program} {n d : Nat} {Q : Exit → Act → World → Prop} {F : Act → World → Prop} {l : List Oper} {o : Oper} {E : Env} {H S : World → Prop} {w0 : World} {cs cs0 : List Chunk} {v : Value} {fuel : Nat} {bs : List Bool} {listed : Array Bool}
theorem wpAnyR_of : ∀ (fuel : Nat) (listed : Array Bool) (a : Act) (w : World), wpAny P .any l.toArray Q fuel listed a w → wpAnyR P .any l.toArray Q (fun _ => True) [] fuel listed a w
  | 0, _, _, _, h => h
  | fuel + 1, _, _, _, h => ⟨h.1, fun i hi => wpOp_mono (fun a' w' h' => ⟨fun _ _ => trivial, wpAnyR_of fuel _ a' w' h'⟩) (h.2 i hi)⟩
/-- The region, what reads no memory ahead (ar_free). -/
theorem an_held [Dl] {id : Nat} (hm : P.follows .mixedOrders = true) (k : TR P n l (fun _ => True) [] l.length (Array.replicate l.length false) (Q .normal) E (HpM M w0 cs)) : Tri n ((Code.region id l.toArray true).wp P Q) E (HpM M w0 cs) := fun a w h1 h2 => by
  refine wp_mono (Q := Exit.then (Q .normal) NoQ) (wp_region_any hm (wpAny_of_r _ _ _ _ (k a _ h1 h2.drawn))) fun e a' w' q => ?_
  cases e with
  | normal => exact q
  | exit id => exact q.elim
  | goto l => exact q.elim
  | ret => exact q.elim
  | panic ch => exact q.elim
  | outgrown => exact q.elim
theorem an_start [Dl] (bs : List Bool) (hl : listed = bs.toArray) (k : TN P n l fuel bs F E H) : TR P n l (fun _ => True) [] fuel listed F E H := fun a w h1 h2 => by
  subst hl
  exact wpAnyR_of _ _ _ _ (k a w h1 h2)
/-- What holds of a set of done operations, for use in the others. -/
theorem tn_have [Dl] {V : Type} (f' : Nat) (bs' : List Bool) (E' : V → Env) (C' : V → List Chunk) (h1 : ∀ v, TN P n l f' bs' F (E' v) (HpM M w0 (C' v)))
    (h2 : (∀ v, TN P n l f' bs' F (E' v) (HpM M w0 (C' v))) → TN P n l fuel bs F E (HpM M w0 cs)) : TN P n l fuel bs F E (HpM M w0 cs) := h2 h1
theorem tn_all [Dl] {is : List Nat} (hr : Region.ready .any l.toArray bs.toArray = is) (hne : is ≠ []) (k : ∀ i ∈ is, ∃ o, l[i]? = some o ∧ Tri n (wpList P l.toArray (Exit.then (fun a w => wpAny P .any l.toArray (Exit.then F NoQ) fuel (bs.set i true).toArray a w) NoQ) [o]) E H) : TN P n l (fuel + 1) bs F E H := fun a w h1 h2 => by
  refine ⟨fun h0 => absurd (hr ▸ h0) hne, fun i hi => ?_⟩
  obtain ⟨o, ho, hk⟩ := k i (hr ▸ hi)
  have := wpop_ofk (F := F) ho (hk a w h1 h2)
  rw [List.setIfInBounds_toArray]
  exact this
theorem tn_op1 [Dl] {i : Nat} {o : Oper} (hi : l[i]? = some o) (k : Tri n (wpList P l.toArray (Exit.then (fun a w => wpAny P .any l.toArray (Exit.then F NoQ) fuel (bs.set i true).toArray a w) NoQ) [o]) E H) (hr : Region.ready .any l.toArray bs.toArray = [i] := by kernel_rfl) : TN P n l (fuel + 1) bs F E H :=
  tn_all hr (by simp) fun j hj => by
    have : j = i := by simpa using hj
    subst this
    exact ⟨o, hi, k⟩
theorem tn_op2 [Dl] {i j : Nat} {o o2 : Oper} (hi : l[i]? = some o) (hj : l[j]? = some o2) (k : Tri n (wpList P l.toArray (Exit.then (fun a w => wpAny P .any l.toArray (Exit.then F NoQ) fuel (bs.set i true).toArray a w) NoQ) [o]) E H)
    (k2 : Tri n (wpList P l.toArray (Exit.then (fun a w => wpAny P .any l.toArray (Exit.then F NoQ) fuel (bs.set j true).toArray a w) NoQ) [o2]) E H) (hr : Region.ready .any l.toArray bs.toArray = [i, j] := by kernel_rfl) : TN P n l (fuel + 1) bs F E H :=
  tn_all hr (by simp) fun x hx => by
    have : x = i ∨ x = j := by simpa using hx
    rcases this with rfl | rfl
    · exact ⟨o, hi, k⟩
    · exact ⟨o2, hj, k2⟩
theorem tn_op3 [Dl] {i j m : Nat} {o o2 o3 : Oper} (hi : l[i]? = some o) (hj : l[j]? = some o2) (hm : l[m]? = some o3) (k : Tri n (wpList P l.toArray (Exit.then (fun a w => wpAny P .any l.toArray (Exit.then F NoQ) fuel (bs.set i true).toArray a w) NoQ) [o]) E H)
    (k2 : Tri n (wpList P l.toArray (Exit.then (fun a w => wpAny P .any l.toArray (Exit.then F NoQ) fuel (bs.set j true).toArray a w) NoQ) [o2]) E H)
    (k3 : Tri n (wpList P l.toArray (Exit.then (fun a w => wpAny P .any l.toArray (Exit.then F NoQ) fuel (bs.set m true).toArray a w) NoQ) [o3]) E H) (hr : Region.ready .any l.toArray bs.toArray = [i, j, m] := by kernel_rfl) : TN P n l (fuel + 1) bs F E H :=
  tn_all hr (by simp) fun x hx => by
    have : x = i ∨ x = j ∨ x = m := by simpa using hx
    rcases this with rfl | rfl | rfl
    · exact ⟨o, hi, k⟩
    · exact ⟨o2, hj, k2⟩
    · exact ⟨o3, hm, k3⟩
theorem tn_in [Dl] {E' : Env} {H' : World → Prop} (k : TN P n l fuel bs F E' H') (hs : Sub E' E) (hH : ∀ w, H w → H' w) : Tri n (Exit.then (fun a w => wpAny P .any l.toArray (Exit.then F NoQ) fuel bs.toArray a w) NoQ .normal) E H := fun a w h1 h2 => k a w (h1.sub hs) (hH w h2)
theorem tn_next [Dl] (k : TN P n l fuel bs F E H) : Tri n (Exit.then (fun a w => wpAny P .any l.toArray (Exit.then F NoQ) fuel bs.toArray a w) NoQ .normal) E H := k
theorem tn_meet [Dl] {E' : Env} {H' : World → Prop} (k : TN P n l fuel bs F E' H') (hs : Sub E' E) (hH : ∀ w, H w → H' w) : TN P n l fuel bs F E H := fun a w h1 h2 => k a w (h1.sub hs) (hH w h2)
theorem tn_done [Dl] (k : Tri n F E H) (hr : Region.ready .any l.toArray bs.toArray = [] := by kernel_rfl) : TN P n l fuel bs F E H := fun a w h1 h2 => by
  cases fuel with
  | zero => exact ⟨hr, k a w h1 h2⟩
  | succ f => exact ⟨fun _ => k a w h1 h2, by rw [hr]; simp⟩
end
end Go.Proofs.Ytinnkclemjognaa
