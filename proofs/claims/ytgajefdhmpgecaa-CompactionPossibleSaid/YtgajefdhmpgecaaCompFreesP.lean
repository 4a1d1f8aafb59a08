/- What clearing a range leaves, in plain terms. No conditions. -/
import Derived.Test.YtgajefdhmpgecaaCompPacksP
set_option linter.unusedSimpArgs false
set_option linter.unusedVariables false
namespace Go.Proofs.Ytgajefdhmpgecaa
open Go Go.RowKit
/-- The moves so far: the range is clear up to i, the free cells outside are taken up to t. -/
structure Cinv (now l : List Int) (a b i t : Nat) : Prop where
  chk : checkM now = 0
  same : Same2 now l
  todo : ∀ j, i ≤ j → j < b → now.getD j default = l.getD j default
  rest : ∀ j, t ≤ j → ¬ (a ≤ j ∧ j < b) → now.getD j default = l.getD j default
  done_ : ∀ j, a ≤ j → j < i → now.getD j default = 0
  out : ∀ j, ¬ (a ≤ j ∧ j < b) → now.getD j default = l.getD j default ∨ (l.getD j default = 0 ∧ now.getD j default = 1)
theorem Cinv.fin {l : List Int} {a b : Nat} (hb : b ≤ l.length) (hnp : ∀ j, a ≤ j → j < b → ¬ l.getD j default = 2) (hl : checkM l = 0) : ∀ k i t (now : List Int) ms, clrM l a b k i t = some ms → a ≤ i → i + k = b → t ≤ l.length → Cinv now l a b i t →
    ∃ g t', appE now ms = 0 ∧ appL now ms = g ∧ Cinv g l a b b t' ∧ ms.length + S (iE l 1) i = S (iE l 1) b
  | 0, i, t, now, ms, h, hai, hik, ht, hI => by
    rw [clrM] at h
    cases h
    have : i = b := by omega
    subst this
    exact ⟨now, t, rfl, rfl, hI, by simp⟩
  | k + 1, i, t, now, ms, h, hai, hik, ht, hI => by
    have hlen := hI.same.len
    have hil : i < l.length := by omega
    rw [clrM] at h
    by_cases hm : l.getD i default = 1
    · rw [if_pos hm] at h
      obtain ⟨s1, s2, s3, s4⟩ := seek_spec (l := l) (a := a) (b := b) ht
      by_cases hj : seekM l a b t < l.length
      · rw [if_pos hj] at h
        generalize seekM l a b t = q at *
        cases hx : clrM l a b k (i + 1) (q + 1) with
        | none => rw [hx] at h; cases h
        | some x =>
          rw [hx] at h
          simp only [Option.map_some, Option.some.injEq] at h
          subst h
          obtain ⟨q0, qo⟩ := s3 hj
          have hiq : ¬ i = q := fun e => qo (by omega)
          have ni : now.getD i default = 1 := by rw [hI.todo i (by omega) (by omega)]; exact hm
          have nq : now.getD q default = 0 := by rw [hI.rest q s1 qo]; exact q0
          have hst : stepE now ⟨(i : Int), (q : Int)⟩ = 0 := by
            rw [stepE, if_pos ⟨inR_iff.2 ⟨by dsimp only; omega, by dsimp only; omega⟩, inR_iff.2 ⟨by dsimp only; omega, by dsimp only; omega⟩⟩, if_pos]
            dsimp only
            rw [Int.toNat_natCast, Int.toNat_natCast]
            exact ⟨ni, nq⟩
          have hsl : stepL now ⟨(i : Int), (q : Int)⟩ = (now.set i 0).set q 1 := by
            rw [stepL]
            dsimp only
            rw [Int.toNat_natCast, Int.toNat_natCast]
          have hgs : ∀ j, ((now.set i 0).set q 1).getD j default = if j = q then 1 else if j = i then 0 else now.getD j default := fun j => by
            rw [getD_set j (by rw [List.length_set]; omega), getD_set j (by omega)]
          have hI2 : Cinv ((now.set i 0).set q 1) l a b (i + 1) (q + 1) := by
            refine ⟨check_set (check_set hI.chk (.inl rfl)) (.inr rfl), ⟨by simpa using hlen, fun j hjl => ?_, fun c => ?_⟩, fun j h1 h2 => ?_, fun j h1 h2 => ?_, fun j h1 h2 => ?_, fun j h1 => ?_⟩
            · rw [hgs]
              split
              · rename_i e; rw [e, q0]; decide
              · split
                · rename_i e; rw [e, hm]; decide
                · exact hI.same.pin j hjl
            · have k1 := knd_set (l := now.set i 0) (j := q) (x := 1) (k := c) (by rw [List.length_set]; omega)
              have k2 := knd_set (l := now) (j := i) (x := 0) (k := c) (by omega)
              rw [getD_set _ (by omega), if_neg (show ¬ q = i from fun e => hiq e.symm), nq] at k1
              rw [ni] at k2
              rw [← hI.same.cnt c]; omega
            · rw [hgs, if_neg (by omega), if_neg (by omega)]; exact hI.todo j (by omega) h2
            · rw [hgs, if_neg (by omega), if_neg (by omega)]; exact hI.rest j (by omega) h2
            · rw [hgs, if_neg (by omega)]
              split
              · rfl
              · exact hI.done_ j h1 (by omega)
            · rw [hgs]
              split
              · rename_i e; rw [e]; exact .inr ⟨q0, rfl⟩
              · rw [if_neg (by omega)]; exact hI.out j h1
          obtain ⟨g, t', e1, e2, e3, e4⟩ := Cinv.fin hb hnp hl k (i + 1) (q + 1) _ x hx (by omega) (by omega) (by omega) hI2
          refine ⟨g, t', ?_, ?_, e3, ?_⟩
          · rw [appE, if_pos hst, hsl]; exact e1
          · rw [appL, if_pos hst, hsl]; exact e2
          · rw [S] at e4
            have : iE l 1 i = 1 := if_pos hm
            rw [List.length_cons]; omega
      · rw [if_neg hj] at h; cases h
    · rw [if_neg hm] at h
      have h0 : l.getD i default = 0 := by
        have := check_at hl hil
        have := hnp i hai (by omega)
        omega
      have hI2 : Cinv now l a b (i + 1) t := ⟨hI.chk, hI.same, fun j h1 h2 => hI.todo j (by omega) h2, hI.rest, fun j h1 h2 => by
        by_cases e : j = i
        · rw [e, hI.todo i (by omega) (by omega)]; exact h0
        · exact hI.done_ j h1 (by omega), hI.out⟩
      obtain ⟨g, t', e1, e2, e3, e4⟩ := Cinv.fin hb hnp hl k (i + 1) t now ms h (by omega) (by omega) ht hI2
      refine ⟨g, t', e1, e2, e3, ?_⟩
      rw [S] at e4
      have : iE l 1 i = 0 := if_neg hm
      omega
theorem cnt_zero {l : List Int} {a b : Nat} {k : Int} (hb : b ≤ l.length) (h : ¬ 0 < cntM l a b k) : ∀ j, a ≤ j → j < b → ¬ l.getD j default = k := fun j h1 h2 e => by
  refine h ?_
  unfold cntM
  rw [List.countP_pos_iff]
  refine ⟨l.getD j default, ?_, by rw [e]; exact decide_eq_true rfl⟩
  rw [getD_get (show j < l.length by omega)]
  have hlen : j - a < ((l.take b).drop a).length := by rw [List.length_drop, List.length_take]; omega
  have := List.getElem_mem hlen
  simpa [show a + (j - a) = j by omega] using this
/-- What clearing a range leaves. -/
theorem cleared {l : List Int} {a n : Nat} (h : clearE l a n = 0) : checkM l = 0 ∧ a + n ≤ l.length ∧ applyE l (clearL l a n) = 0 ∧ Same2 (applyL l (clearL l a n)) l ∧ checkM (applyL l (clearL l a n)) = 0 ∧
    (∀ j, a ≤ j → j < a + n → (applyL l (clearL l a n)).getD j default = 0 ∧ ¬ l.getD j default = 2) ∧
    (∀ j, ¬ (a ≤ j ∧ j < a + n) → (applyL l (clearL l a n)).getD j default = l.getD j default ∨ (l.getD j default = 0 ∧ (applyL l (clearL l a n)).getD j default = 1)) ∧
    (clearL l a n).length + S (iE l 1) a = S (iE l 1) (a + n) := by
  have h' := h
  unfold clearE at h
  split at h
  · rename_i hc
    split at h
    · rename_i hr
      have hb : a + n ≤ l.length := by have := hr.2.2.2; omega
      simp only [Int.toNat_natCast] at h
      split at h
      · exact absurd h (by decide)
      · rename_i hp
        have hnp := cnt_zero hb hp
        split at h
        · rename_i hs
          cases hx : clr0 l a n with
          | none => rw [hx] at hs; cases hs
          | some ms =>
            have hL : clearL l a n = ms := by rw [clearL, if_pos h', hx]; rfl
            have hx' : clrM l a (a + n) n a 0 = some ms := by
              rw [clr0] at hx
              simpa using hx
            obtain ⟨g, t', e1, e2, e3, e4⟩ := Cinv.fin hb hnp hc n a 0 l ms hx' (by omega) rfl (by omega) ⟨hc, ⟨rfl, fun j _ => Iff.rfl, fun k => rfl⟩, fun j _ _ => rfl, fun j _ _ => rfl, fun j h1 h2 => by omega, fun j _ => .inl rfl⟩
            have hg : applyL l ms = g := by rw [applyL, if_pos hc]; exact e2
            rw [hL, hg]
            exact ⟨hc, hb, by rw [applyE, if_pos hc]; exact e1, e3.same, e3.chk, fun j h1 h2 => ⟨e3.done_ j h1 h2, hnp j h1 h2⟩, e3.out, e4⟩
        · exact absurd h (by decide)
    · exact absurd h (by decide)
  · contradiction
end Go.Proofs.Ytgajefdhmpgecaa
