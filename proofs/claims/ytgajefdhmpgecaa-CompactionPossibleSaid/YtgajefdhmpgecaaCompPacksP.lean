/- What a plan leaves, in plain terms. No conditions. -/
import Derived.Test.YtgajefdhmpgecaaCompKinds
set_option linter.unusedSimpArgs false
set_option linter.unusedVariables false
namespace Go.Proofs.Ytgajefdhmpgecaa
open Go Go.RowKit
/-- Sums. -/
def S (f : Nat → Nat) : Nat → Nat
  | 0 => 0
  | n + 1 => S f n + f n
theorem S_congr {f f' : Nat → Nat} : ∀ n, (∀ i, i < n → f i = f' i) → S f n = S f' n
  | 0, _ => rfl
  | n + 1, h => by rw [S, S, S_congr n (fun i hi => h i (by omega)), h n (by omega)]
theorem S_mono {f f' : Nat → Nat} : ∀ n, (∀ i, i < n → f i ≤ f' i) → S f n ≤ S f' n
  | 0, _ => Nat.le_refl _
  | n + 1, h => by
    have := S_mono n (fun i hi => h i (by omega))
    have := h n (by omega)
    rw [S, S]; omega
theorem S_le {f : Nat → Nat} {n : Nat} : ∀ m, n ≤ m → S f n ≤ S f m
  | 0, h => by have : n = 0 := by omega
               rw [this]; exact Nat.le_refl _
  | m + 1, h => by
    by_cases e : n = m + 1
    · rw [e]; exact Nat.le_refl _
    · have := S_le (f := f) (n := n) m (by omega)
      rw [S]; omega
theorem S_tail {f : Nat → Nat} {n : Nat} : ∀ m, n ≤ m → (∀ j, n ≤ j → j < m → f j = 0) → S f m = S f n
  | 0, h, _ => by have : n = 0 := by omega
                  rw [this]
  | m + 1, h, hz => by
    by_cases e : n = m + 1
    · rw [e]
    · rw [S, S_tail m (by omega) (fun j h1 h2 => hz j h1 (by omega)), hz m (by omega) (by omega)]; omega
theorem S_upd {f f' : Nat → Nat} {j : Nat} : ∀ n, j < n → (∀ i, i < n → i ≠ j → f' i = f i) → S f' n + f j = S f n + f' j
  | 0, h, _ => by omega
  | n + 1, h, hf => by
    by_cases e : j = n
    · subst e
      rw [S, S, S_congr j (fun i hi => hf i (by omega) (by omega))]; omega
    · have := S_upd n (by omega) (fun i hi hne => hf i (by omega) hne)
      rw [S, S, hf n (by omega) (by omega)]; omega
def iE (l : List Int) (k : Int) (j : Nat) : Nat := if l.getD j default = k then 1 else 0
theorem knd_S {l : List Int} {k : Int} : ∀ n, n ≤ l.length → knd (l.take n) k = S (iE l k) n
  | 0, _ => by rw [List.take_zero]; rfl
  | n + 1, h => by rw [knd_step (by omega), knd_S n (by omega), S]; rfl
theorem knd_all (l : List Int) (k : Int) : knd l k = S (iE l k) l.length := by
  have := knd_S (l := l) (k := k) l.length (Nat.le_refl _)
  rwa [List.take_length] at this
theorem knd_set {l : List Int} {j : Nat} {x k : Int} (hj : j < l.length) : knd (l.set j x) k + (if l.getD j default = k then 1 else 0) = knd l k + if x = k then 1 else 0 := by
  rw [knd_all, knd_all, List.length_set]
  have := S_upd (f := iE l k) (f' := iE (l.set j x) k) l.length hj fun i hi hne => by
    unfold iE
    rw [getD_set i hj, if_neg hne]
  unfold iE at this ⊢
  rw [getD_set_self hj] at this
  exact this
/-- Where a movable cell was moved away for good. -/
def iO (g l : List Int) (j : Nat) : Nat := if g.getD j default = 0 ∧ l.getD j default = 1 then 1 else 0
structure Same2 (g l : List Int) : Prop where
  len : g.length = l.length
  pin : ∀ j, j < l.length → (g.getD j default = 2 ↔ l.getD j default = 2)
  cnt : ∀ k, knd g k = knd l k
theorem Inv.fin {l : List Int} : ∀ f (now : List Int) (a n : Nat), Inv now l a n → Same2 now l → highM l n ≤ f →
    ∃ g a' n', appE now (planR l f (lowM l a) (highM l n)) = 0 ∧ appL now (planR l f (lowM l a) (highM l n)) = g ∧ Inv g l a' n' ∧ Same2 g l ∧ ¬ (lowM l a' : Int) < (highM l n' : Int) - 1 ∧
      (planR l f (lowM l a) (highM l n)).length + S (iO now l) l.length = S (iO g l) l.length
  | 0, now, a, n, hI, hS, hf => ⟨now, a, n, rfl, rfl, hI, hS, by omega, by simp [planR]⟩
  | f + 1, now, a, n, hI, hS, hf => by
    by_cases hlt : (lowM l a : Int) < (highM l n : Int) - 1
    · rw [planR, if_pos hlt]
      obtain ⟨a1, a2, a3, a4⟩ := lowM_spec hI.ale
      obtain ⟨b1, b2⟩ := highM_spec l n
      have b3 := highM_le l n
      have hn := hI.nle
      have hlen := hI.len
      have b4 := highM_le l (highM l n - 1)
      have l0 := a4 (by omega)
      have l1 := b2 (by omega)
      have n0 : now.getD (lowM l a) default = 0 := by rw [hI.mid _ a1 (by omega)]; exact l0
      have n1 : now.getD (highM l n - 1) default = 1 := by rw [hI.mid _ (by omega) (by omega)]; exact l1
      have hst : stepE now ⟨(highM l n : Int) - 1, (lowM l a : Int)⟩ = 0 := by
        rw [stepE, if_pos ⟨inR_iff.2 ⟨by dsimp only; omega, by dsimp only; omega⟩, inR_iff.2 ⟨by dsimp only; omega, by dsimp only; omega⟩⟩, if_pos]
        dsimp only
        rw [show ((highM l n : Int) - 1).toNat = highM l n - 1 by omega, Int.toNat_natCast]
        exact ⟨n1, n0⟩
      have hsl : stepL now ⟨(highM l n : Int) - 1, (lowM l a : Int)⟩ = (now.set (highM l n - 1) 0).set (lowM l a) 1 := by
        rw [stepL]
        dsimp only
        rw [show ((highM l n : Int) - 1).toNat = highM l n - 1 by omega, Int.toNat_natCast]
      have hI2 := hI.move hlt
      have hgs : ∀ j, ((now.set (highM l n - 1) 0).set (lowM l a) 1).getD j default = if j = lowM l a then 1 else if j = highM l n - 1 then 0 else now.getD j default := fun j => by
        rw [getD_set j (by rw [List.length_set]; omega), getD_set j (by omega)]
      have hS2 : Same2 ((now.set (highM l n - 1) 0).set (lowM l a) 1) l := by
        refine ⟨by simpa using hlen, fun j hj => ?_, fun k => ?_⟩
        · rw [hgs]
          split
          · rename_i e; rw [e, l0]; decide
          · split
            · rename_i e; rw [e, l1]; decide
            · exact hS.pin j hj
        · have k1 := knd_set (l := now.set (highM l n - 1) 0) (j := lowM l a) (x := 1) (k := k) (by rw [List.length_set]; omega)
          have k2 := knd_set (l := now) (j := highM l n - 1) (x := 0) (k := k) (by omega)
          rw [getD_set _ (by omega), if_neg (show ¬ lowM l a = highM l n - 1 by omega), n0] at k1
          rw [n1] at k2
          rw [← hS.cnt k]; omega
      have hout : S (iO now l) l.length + 1 = S (iO ((now.set (highM l n - 1) 0).set (lowM l a) 1) l) l.length := by
        have := S_upd (f := iO now l) (f' := iO ((now.set (highM l n - 1) 0).set (lowM l a) 1) l) (j := highM l n - 1) l.length (by omega) fun i hi hne => by
          unfold iO
          rw [hgs, if_neg hne]
          by_cases e : i = lowM l a
          · rw [e, l0, if_neg (fun h => by cases h.2), if_neg (fun h => by cases h.2)]
          · rw [if_neg e]
        have e1 : iO now l (highM l n - 1) = 0 := by unfold iO; rw [n1, if_neg (fun h => by cases h.1)]
        have e2 : iO ((now.set (highM l n - 1) 0).set (lowM l a) 1) l (highM l n - 1) = 1 := by
          unfold iO
          rw [hgs, if_neg (show ¬ highM l n - 1 = lowM l a by omega), if_pos rfl, if_pos ⟨rfl, l1⟩]
        rw [e1, e2] at this; omega
      obtain ⟨g, a', n', h1, h2, h3, h4, h5, h6⟩ := Inv.fin f _ _ _ hI2 hS2 (by omega)
      refine ⟨g, a', n', ?_, ?_, h3, h4, h5, ?_⟩
      · rw [appE, if_pos hst, hsl]; exact h1
      · rw [appL, if_pos hst, hsl]; exact h2
      · rw [List.length_cons]; omega
    · rw [planR, if_neg hlt]
      exact ⟨now, a, n, rfl, rfl, hI, hS, hlt, by simp⟩
theorem Inv.order {g l : List Int} {a n : Nat} (h : Inv g l a n) (hno : ¬ (lowM l a : Int) < (highM l n : Int) - 1) {x y : Nat} (hxy : x < y) (hy : y < l.length) (x0 : g.getD x default = 0) : ¬ g.getD y default = 1 := fun y1 => by
  obtain ⟨a1, a2, a3, a4⟩ := lowM_spec h.ale
  obtain ⟨b1, b2⟩ := highM_spec l n
  have xa : a ≤ x := Decidable.byContradiction fun e => h.below x (by omega) x0
  have yn : y < n := Decidable.byContradiction fun e => h.above y (by omega) hy y1
  rw [h.mid x xa (by omega)] at x0
  rw [h.mid y (by omega) yn] at y1
  have g1 : lowM l a ≤ x := Decidable.byContradiction fun e => a3 x xa (by omega) x0
  have g2 : y < highM l n := Decidable.byContradiction fun e => b1 y (by omega) yn y1
  omega
/-- What a whole plan leaves. -/
theorem packed {l : List Int} (hc : checkM l = 0) : applyE l (planL l) = 0 ∧ (applyL l (planL l)).length = l.length ∧ checkM (applyL l (planL l)) = 0 ∧ Same2 (applyL l (planL l)) l ∧
    (∀ x y, x < y → y < l.length → (applyL l (planL l)).getD x default = 0 → ¬ (applyL l (planL l)).getD y default = 1) ∧ (planL l).length = S (iO (applyL l (planL l)) l) l.length := by
  have hI : Inv l l 0 l.length := ⟨hc, rfl, by omega, by omega, fun j hj => by omega, fun j h1 h2 => by omega, fun j _ _ => rfl⟩
  obtain ⟨g, a', n', h1, h2, h3, h4, h5, h6⟩ := Inv.fin l.length l 0 l.length hI ⟨rfl, fun j _ => Iff.rfl, fun k => rfl⟩ (highM_le _ _)
  have hp : planL l = planR l l.length (lowM l 0) (highM l l.length) := by rw [planL, if_pos hc]
  have hg : applyL l (planL l) = g := by rw [applyL, if_pos hc, hp]; exact h2
  have h0 : S (iO l l) l.length = 0 := by
    have := S_tail (f := iO l l) (n := 0) l.length (by omega) fun j _ _ => by
      unfold iO
      rw [if_neg]
      rintro ⟨e1, e2⟩
      rw [e1] at e2; cases e2
    rw [this]; rfl
  rw [hg]
  refine ⟨by rw [applyE, if_pos hc, hp]; exact h1, h4.len, h3.chk, h4, fun x y hxy hy hx => h3.order h5 hxy hy hx, ?_⟩
  rw [hp]; omega
def iN (l : List Int) (j : Nat) : Nat := if l.getD j default = 2 then 0 else 1
theorem check_at {l : List Int} (h : checkM l = 0) {j : Nat} (hj : j < l.length) : l.getD j default = 0 ∨ l.getD j default = 1 ∨ l.getD j default = 2 := by
  have hle := checkM_le h
  have hb : l.any badC = false := by
    unfold checkM at h
    rw [if_neg (by omega)] at h
    cases hx : l.any badC with
    | false => rfl
    | true => rw [hx] at h; exact absurd h (by decide)
  have := getD_any.1 hb j hj
  have := of_decide_eq_false this
  omega
/-- Among the cells that are not pinned the lowest are movable, as many as there are movable ones. -/
theorem rank_iff {g l : List Int} (hs : Same2 g l) (hg : checkM g = 0) (hord : ∀ x y, x < y → y < l.length → g.getD x default = 0 → ¬ g.getD y default = 1) {i : Nat} (hi : i < l.length) (hn : ¬ l.getD i default = 2) :
    knd l 1 < S (iN l) (i + 1) ↔ g.getD i default = 0 := by
  have hlen := hs.len
  have hk : knd l 1 = S (iE g 1) l.length := by rw [← hs.cnt 1, knd_all, hlen]
  have hgi := check_at hg (show i < g.length by omega)
  have hng : ¬ g.getD i default = 2 := fun e => hn ((hs.pin i hi).1 e)
  rw [hk]
  have hle : ∀ j, j < l.length → iE g 1 j ≤ iN l j := fun j hj => by
    unfold iE iN
    have := hs.pin j hj
    split <;> split <;> omega
  by_cases h0 : g.getD i default = 0
  · refine ⟨fun _ => h0, fun _ => ?_⟩
    rw [S_tail (n := i + 1) (f := iE g 1) l.length (by omega) fun j h1 h2 => by unfold iE; rw [if_neg (hord i j (by omega) h2 h0)]]
    rw [S, S]
    have := S_mono (f := iE g 1) (f' := iN l) i (fun j hj => hle j (by omega))
    have e1 : iE g 1 i = 0 := by unfold iE; rw [h0]; rfl
    have e2 : iN l i = 1 := by unfold iN; rw [if_neg hn]
    omega
  · refine ⟨fun h => ?_, fun h => absurd h h0⟩
    exfalso
    have h1 : g.getD i default = 1 := by omega
    have : S (iN l) (i + 1) = S (iE g 1) (i + 1) := S_congr _ fun j hj => by
      have hjl : j < l.length := by omega
      have := check_at hg (show j < g.length by omega)
      have hpj := hs.pin j hjl
      have hj0 : ¬ g.getD j default = 0 := fun e => by
        by_cases e2 : j = i
        · rw [e2] at e; exact h0 e
        · exact hord j i (by omega) hi e h1
      unfold iN iE
      split <;> split <;> omega
    have := S_le (f := iE g 1) (n := i + 1) l.length (by omega)
    omega
end Go.Proofs.Ytgajefdhmpgecaa
