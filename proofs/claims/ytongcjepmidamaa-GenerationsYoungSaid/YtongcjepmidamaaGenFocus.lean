/- One list of the lists taken in front, and put back. No conditions. -/
import Derived.Test.YtongcjepmidamaaGenClone
set_option linter.unusedSimpArgs false
set_option linter.unusedVariables false
namespace Go.Proofs.Ytongcjepmidamaa
open Go Go.RowKit
theorem eraseIdx_set {α : Type} : ∀ (l : List α) (i : Nat) (a : α), (l.set i a).eraseIdx i = l.eraseIdx i
  | [], _, _ => rfl
  | _ :: _, 0, _ => rfl
  | x :: l, i + 1, a => by rw [List.set_cons_succ, List.eraseIdx_cons_succ, List.eraseIdx_cons_succ, eraseIdx_set l i a]
def nx (rs : List Row) (L : GL) (i : Nat) : List Chunk := (nest rs L).eraseIdx i
theorem nest_focus {rs : List Row} {L : GL} {i : Nat} {o : Chunk} {cs : List Chunk} (hl : rs.length = L.length) (hi : i < L.length) :
    (o :: (nest rs L ++ cs)).Perm (intS (rs.getD i (Row.nil 0)) (L.getD i default) :: o :: (nx rs L i ++ cs)) := by
  have h1 := nest_get hl hi
  have h2 : i < (nest rs L).length := by rw [nest_len hl]; exact hi
  rw [List.getElem?_eq_getElem h2] at h1
  have h3 := perm_erase (nest rs L) i h2
  rw [Option.some.inj h1] at h3
  refine (List.Perm.cons o (List.Perm.append_right cs h3)).trans ?_
  exact List.Perm.swap _ _ _
theorem nest_unfocus {rs : List Row} {L : GL} {i : Nat} {o : Chunk} {cs : List Chunk} {r' : Row} {l' : List Int} (hl : rs.length = L.length) (hi : i < L.length) :
    (intS r' l' :: o :: (nx rs L i ++ cs)).Perm (o :: (nest (rs.set i r') (L.set i l') ++ cs)) := by
  have h0 : (nest (rs.set i r') (L.set i l')).eraseIdx i = nx rs L i := by rw [← nest_set, eraseIdx_set]; rfl
  have h1 := nest_focus (rs := rs.set i r') (L := L.set i l') (i := i) (o := o) (cs := cs) (by simp [hl]) (by simpa using hi)
  unfold nx at h1
  rw [h0] at h1
  have e1 : (rs.set i r').getD i (Row.nil 0) = r' := by rw [List.getD_eq_getElem?_getD, List.getElem?_set_self (by omega)]; rfl
  have e2 : (L.set i l').getD i default = l' := by rw [List.getD_eq_getElem?_getD, List.getElem?_set_self (by omega)]; rfl
  rw [e1, e2] at h1
  exact h1.symm
theorem map_set_sv (rs : List Row) (i : Nat) (r' : Row) : (rs.set i r').map Row.sv = (rs.map Row.sv).set i r'.sv := by rw [List.map_set]
section
variable {n : Nat} {F : Act → World → Prop} {E : Env} {w0 : World} {cs : List Chunk}
theorem tri_focus [Dl] {rs : List Row} {L : GL} {o : Chunk} (i : Nat) (hl : rs.length = L.length) (hi : i < L.length) (k : Tri n F E (Hp w0 (intS (rs.getD i (Row.nil 0)) (L.getD i default) :: o :: (nx rs L i ++ cs)))) : Tri n F E (Hp w0 (o :: (nest rs L ++ cs))) :=
  fun a w h1 h2 => k a w h1 (h2.perm (nest_focus hl hi))
theorem tri_unfocus [Dl] {rs : List Row} {L : GL} {o : Chunk} {i : Nat} {r' : Row} {l' : List Int} (hl : rs.length = L.length) (hi : i < L.length) (k : Tri n F E (Hp w0 (o :: (nest (rs.set i r') (L.set i l') ++ cs)))) : Tri n F E (Hp w0 (intS r' l' :: o :: (nx rs L i ++ cs))) :=
  fun a w h1 h2 => k a w h1 (h2.perm (nest_unfocus hl hi))
end
end Go.Proofs.Ytongcjepmidamaa
