/- What package tlb computes, in plain Lean. No conditions. -/
import Derived.Test.YtpcammiidklkhaaPteLaws
import Derived.Test.YtpcammiidklkhaaFacts
import Derived.Test.YtpcammiidklkhaaLst
set_option linter.unusedSimpArgs false
set_option linter.unusedVariables false
namespace Go.Proofs.Ytpcammiidklkhaa
open Go Go.RowKit
structure TE where
  s : Int
  p : Int
  w : Int
  deriving DecidableEq
instance : Enc TE where
  default := ⟨0, 0, 0⟩
  sz := 3
  enc := fun x => [.int .i64 x.s, .int .i64 x.p, .int .u64 x.w]
  dec := fun cs => match cs with | [.int _ a, .int _ b, .int _ c] => ⟨a, b, c⟩ | _ => ⟨0, 0, 0⟩
  len := fun _ => rfl
  one := fun _ u hu => by simp at hu; rcases hu with rfl | rfl | rfl <;> rfl
  pos := by decide
instance : ElT Try.prog 42 TE := ⟨trivial⟩
/-- The fields are of their types. -/
def Wf (x : TE) : Prop := (-9223372036854775808 ≤ x.s ∧ x.s ≤ 9223372036854775807) ∧ (-9223372036854775808 ≤ x.p ∧ x.p ≤ 9223372036854775807) ∧ 0 ≤ x.w ∧ x.w < 18446744073709551616
theorem wf_default : Wf default := by unfold Wf; decide
theorem wf_at {l : List TE} (h : ∀ x ∈ l, Wf x) (j : Nat) : Wf (l.getD j default) := by
  rcases Nat.lt_or_ge j l.length with hj | hj
  · rw [getD_get hj]; exact h _ (List.getElem_mem hj)
  · rw [List.getD_eq_getElem?_getD, List.getElem?_eq_none hj]; exact wf_default
def tr (w : Int) : Bool := decide ((decR w).2 = 0 ∧ (decR w).1.k = 1)
def hu (w : Int) : Bool := decide ((decR w).2 = 0) && (decR w).1.d
theorem hu_tr {w : Int} (h : hu w = true) : tr w = true := by
  unfold hu at h
  unfold tr
  rw [Bool.and_eq_true, decide_eq_true_eq] at h
  rcases decR_cases w with ⟨⟨k, n, a, b, c, d⟩, hp⟩ | hp
  · rw [hp] at h ⊢
    obtain ⟨h1, h2, h3, h4⟩ := (decR_zero hp).1
    obtain ⟨_, rfl⟩ : True ∧ d = true := ⟨trivial, h.2⟩
    simp only [formS] at h4
    simp only [true_and, decide_eq_true_eq]
    have h1' : 0 ≤ k := h1
    have h2' : k ≤ 4 := h2
    have : k = 0 ∨ k = 1 ∨ k = 2 ∨ k = 3 ∨ k = 4 := by omega
    rcases this with rfl | rfl | rfl | rfl | rfl <;> simp_all
  · rw [hp] at h
    exact absurd h.1 (by decide)
def spanM (w : Int) : Int := if hu w then 8 else 1
theorem span_bd (w : Int) : 1 ≤ spanM w ∧ spanM w ≤ 8 := by unfold spanM; split <;> omega
def covM (x : TE) (s p : Int) : Bool := decide (x.s = s ∧ x.p ≤ p ∧ p < x.p + spanM x.w)
def ovM (a b : TE) : Bool := decide (a.s = b.s ∧ a.p < b.p + spanM b.w ∧ b.p < a.p + spanM a.w)
def spR (s : Int) : Bool := decide (0 ≤ s ∧ s < 8)
def pgR (p : Int) : Bool := decide (0 ≤ p ∧ p < 512)
def plcM (s p : Int) : Int := if spR s = true ∧ pgR p = true then 0 else 2
theorem plc_ok {s p : Int} (h : plcM s p = 0) : (0 ≤ s ∧ s < 8) ∧ 0 ≤ p ∧ p < 512 := by
  unfold plcM spR pgR at h
  split at h
  · simp_all
  · cases h
theorem plc_of {s p : Int} (h : 0 ≤ s ∧ s < 8) (h' : 0 ≤ p ∧ p < 512) : plcM s p = 0 := if_pos ⟨decide_eq_true h, decide_eq_true h'⟩
def formT (x : TE) : Bool := tr x.w && !(hu x.w && decide (¬ x.p % 8 = 0))
def okT (x : TE) : Int := if plcM x.s x.p = 0 then (if formT x then 0 else 3) else 2
/-- An entry that is valid by itself. -/
structure Vd (x : TE) : Prop where
  s : 0 ≤ x.s ∧ x.s < 8
  p : 0 ≤ x.p ∧ x.p < 512
  t : tr x.w = true
  h : hu x.w = true → x.p % 8 = 0
theorem okT_vd {x : TE} : okT x = 0 ↔ Vd x := by
  unfold okT
  constructor
  · intro h
    split at h
    · rename_i h1
      split at h
      · rename_i h2
        obtain ⟨a, b⟩ := plc_ok h1
        unfold formT at h2
        simp only [Bool.and_eq_true, Bool.not_eq_true', Bool.and_eq_false_iff, decide_eq_false_iff_not, Decidable.not_not] at h2
        refine ⟨a, b, h2.1, fun hh => ?_⟩
        rcases h2.2 with h3 | h3
        · rw [hh] at h3; cases h3
        · exact h3
      · cases h
    · cases h
  · rintro ⟨a, b, c, d⟩
    rw [if_pos (plc_of a b), if_pos]
    unfold formT
    simp only [Bool.and_eq_true, Bool.not_eq_true', Bool.and_eq_false_iff, decide_eq_false_iff_not, Decidable.not_not]
    refine ⟨c, ?_⟩
    cases hh : hu x.w
    · exact .inl rfl
    · exact .inr (d hh)
def badAt (l : List TE) (i : Nat) : Int := if okT (l.getD i default) = 0 then (if (l.take i).any (ovM (l.getD i default)) then 7 else 0) else okT (l.getD i default)
/-- The first of the numbers from i on that is not 0, or 0. -/
def errG (g : Nat → Int) : Nat → Nat → Int
  | 0, _ => 0
  | f + 1, i => if g i = 0 then errG g f (i + 1) else g i
theorem errG_at {g : Nat → Int} {c : Int} (hc : ¬ c = 0) {i : Nat} (hi : g i = c) : ∀ f k, k ≤ i → i < k + f → (∀ j, k ≤ j → j < i → g j = 0) → errG g f k = c
  | 0, k, h1, h2, _ => by omega
  | f + 1, k, h1, h2, h3 => by
    rw [errG]
    by_cases e : k = i
    · rw [e, hi, if_neg hc]
    · rw [if_pos (h3 k (Nat.le_refl _) (by omega))]
      exact errG_at hc hi f (k + 1) (by omega) (by omega) fun j h4 h5 => h3 j (by omega) h5
theorem errG_no {g : Nat → Int} : ∀ f k, (∀ j, k ≤ j → j < k + f → g j = 0) → errG g f k = 0
  | 0, _, _ => rfl
  | f + 1, k, h => by
    rw [errG, if_pos (h k (Nat.le_refl _) (by omega))]
    exact errG_no f (k + 1) fun j h1 h2 => h j (by omega) (by omega)
theorem errG_zero {g : Nat → Int} : ∀ f k, errG g f k = 0 → ∀ j, k ≤ j → j < k + f → g j = 0
  | 0, k, _, j, h1, h2 => by omega
  | f + 1, k, h, j, h1, h2 => by
    rw [errG] at h
    split at h
    · by_cases e : j = k
      · rw [e]; assumption
      · exact errG_zero f (k + 1) h j (by omega) (by omega)
    · rename_i hn; exact absurd h hn
def checkM (z : Int) (l : List TE) : Int := if z < 1 ∨ 16 < z then 1 else if z < (l.length : Int) then 8 else errG (badAt l) l.length 0
/-- A valid cache. -/
structure Ok (size : Int) (l : List TE) : Prop where
  z : 1 ≤ size ∧ size ≤ 16
  n : (l.length : Int) ≤ size
  v : ∀ x ∈ l, Vd x
  d : l.Pairwise fun a b => ovM a b = false
theorem ov_comm (a b : TE) : ovM a b = ovM b a := by
  unfold ovM
  congr 1
  apply propext
  constructor <;> (rintro ⟨h1, h2, h3⟩; exact ⟨h1.symm, h3, h2⟩)
theorem bad_zero {l : List TE} {i : Nat} : badAt l i = 0 ↔ Vd (l.getD i default) ∧ (l.take i).any (ovM (l.getD i default)) = false := by
  unfold badAt
  constructor
  · intro h
    split at h
    · rename_i h1
      split at h
      · cases h
      · exact ⟨okT_vd.1 h1, by simp_all⟩
    · exact absurd h (by assumption)
  · rintro ⟨h1, h2⟩
    rw [if_pos (okT_vd.2 h1), h2]; rfl
theorem check_ok {z : Int} {l : List TE} : checkM z l = 0 ↔ Ok z l := by
  unfold checkM
  constructor
  · intro h
    split at h
    · cases h
    · split at h
      · cases h
      · have hz := errG_zero _ _ h
        refine ⟨by omega, by omega, fun x hx => ?_, ?_⟩
        · obtain ⟨j, hj, rfl⟩ := List.getElem_of_mem hx
          have := (bad_zero.1 (hz j (Nat.zero_le _) (by omega))).1
          rwa [getD_get hj] at this
        · rw [List.pairwise_iff_getElem]
          intro i j hi hj hij
          have h2 := (bad_zero.1 (hz j (Nat.zero_le _) (by omega))).2
          rw [List.any_eq_false] at h2
          have h3 := h2 l[i] (by rw [List.mem_take_iff_getElem]; exact ⟨i, by omega, rfl⟩)
          rw [getD_get hj] at h3
          rw [ov_comm]
          simpa using h3
  · rintro ⟨a, b, c, d⟩
    rw [if_neg (by omega), if_neg (by omega)]
    refine errG_no _ _ fun j _ hj => bad_zero.2 ?_
    have hj' : j < l.length := by omega
    rw [getD_get hj']
    refine ⟨c _ (List.getElem_mem hj'), ?_⟩
    rw [List.any_eq_false]
    intro x hx
    rw [List.mem_take_iff_getElem] at hx
    obtain ⟨i, hi, rfl⟩ := hx
    have := List.pairwise_iff_getElem.1 d i j (by omega) hj' (by omega)
    rw [ov_comm] at this
    simp [this]
/- As the reference says it. -/
def grp (p : Int) : Int := p - p % 8
def hitM (x : TE) (s p : Int) : Bool := if x.s = s then (if hu x.w then decide (0 ≤ p ∧ x.p = grp p) else decide (x.p = p)) else false
def hit2 (a b : TE) (i : Nat) : Bool := hitM a b.s (grp b.p + (i : Int)) && hitM b b.s (grp b.p + (i : Int))
def ovR (a b : TE) : Bool := (List.range 8).any (hit2 a b)
theorem hit_cov {x : TE} (h : Vd x) (s p : Int) : hitM x s p = covM x s p := by
  obtain ⟨h1, h2, h3, h4⟩ := h
  unfold hitM covM spanM grp
  rw [Bool.eq_iff_iff]
  by_cases e : x.s = s
  · rw [if_pos e]
    cases hh : hu x.w
    · simp only [Bool.false_eq_true, if_false, decide_eq_true_eq]
      omega
    · have := h4 hh
      simp only [if_true, decide_eq_true_eq]
      omega
  · rw [if_neg e]
    simp only [Bool.false_eq_true, decide_eq_true_eq, false_iff]
    omega
theorem ov_ref {a b : TE} (ha : Vd a) (hb : Vd b) : ovR a b = ovM b a := by
  have ga := ha.p
  have gb := hb.p
  have g1 := ha.h
  have g2 := hb.h
  have s1 := span_bd a.w
  have s2 := span_bd b.w
  unfold ovR hit2
  simp only [hit_cov ha, hit_cov hb]
  unfold covM ovM
  rw [Bool.eq_iff_iff, List.any_eq_true]
  simp only [Bool.and_eq_true, decide_eq_true_eq, eq_self, true_and]
  constructor
  · rintro ⟨i, hi, h1, h2⟩
    omega
  · rintro ⟨h1, h2, h3⟩
    have hg : grp b.p = b.p - b.p % 8 := rfl
    by_cases hh : hu b.w = true
    · have e1 := g2 hh
      have e2 : spanM b.w = 8 := by unfold spanM; rw [if_pos hh]
      by_cases hq : a.p ≤ b.p
      · exact ⟨0, List.mem_range.2 (by omega), by omega, by omega⟩
      · exact ⟨(a.p - b.p).toNat, List.mem_range.2 (by omega), by omega, by omega⟩
    · have e2 : spanM b.w = 1 := by unfold spanM; rw [if_neg hh]
      exact ⟨(b.p % 8).toNat, List.mem_range.2 (by omega), by omega, by omega⟩
end Go.Proofs.Ytpcammiidklkhaa
