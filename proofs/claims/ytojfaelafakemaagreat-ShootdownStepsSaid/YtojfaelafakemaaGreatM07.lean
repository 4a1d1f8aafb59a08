/- Texts joined: Lst, TlbSpec, TlbOpsM, SeqK, NestE. Each part's own remark says what it proves. -/
import Derived.Test.YtojfaelafakemaaGreatM05
import Derived.Test.YtojfaelafakemaaGreatM04
import Derived.Test.YtojfaelafakemaaGreatM06
/- Lists in plain terms. No conditions. -/
set_option linter.unusedSimpArgs false
set_option linter.unusedVariables false
namespace Go.Proofs.YtojfaelafakemaaGreat
def eqB {α : Type} [DecidableEq α] (s x : α) : Bool := decide (s = x)
section
variable {α : Type} [Inhabited α] {p : α → Bool} {l m : List α} {k : Nat} {a : α}
theorem getD_get {j : Nat} (hj : j < l.length) : l.getD j default = l[j] := by
  rw [List.getD_eq_getElem?_getD, List.getElem?_eq_getElem hj]; rfl
theorem getD_any : l.any p = false ↔ ∀ j, j < l.length → p (l.getD j default) = false := by
  rw [List.any_eq_false]
  constructor
  · intro h j hj
    have := h _ (List.getElem_mem hj)
    rw [getD_get hj]
    simpa using this
  · intro h x hx
    obtain ⟨j, hj, rfl⟩ := List.getElem_of_mem hx
    have := h j hj
    rw [getD_get hj] at this
    simpa using this
/-- The first place of what p accepts, or -1. -/
def idxM {α : Type} (p : α → Bool) (l : List α) : Int := if l.any p then (l.findIdx p : Int) else -1
theorem idxM_some (hk : k < l.length) (hp : p (l.getD k default) = true) (hn : ∀ j, j < k → p (l.getD j default) = false) : idxM p l = (k : Int) := by
  have ha : l.any p = true := by
    rw [List.any_eq_true]
    exact ⟨l[k], List.getElem_mem hk, by rw [← getD_get hk]; exact hp⟩
  have : l.findIdx p = k := by
    rw [List.findIdx_eq hk]
    exact ⟨by rw [← getD_get hk]; exact hp, fun j hj => by rw [← getD_get (by omega)]; exact hn j hj⟩
  simp [idxM, ha, this]
theorem idxM_none (hn : ∀ j, j < l.length → p (l.getD j default) = false) : idxM p l = -1 := by
  simp [idxM, getD_any.2 hn]
theorem idxM_ge {α : Type} (p : α → Bool) (l : List α) : decide (idxM p l ≥ 0) = l.any p := by
  unfold idxM
  split <;> rename_i h <;> simp_all
theorem any_some (hk : k < l.length) (hp : p (l.getD k default) = true) : l.any p = true := by
  rw [List.any_eq_true]
  exact ⟨l[k], List.getElem_mem hk, by rw [← getD_get hk]; exact hp⟩
theorem idxM_lt {α : Type} {p : α → Bool} {l : List α} (h : l.any p = true) : 0 ≤ idxM p l ∧ (idxM p l).toNat < l.length := by
  rw [idxM, if_pos h]
  have : l.findIdx p < l.length := by
    rw [List.findIdx_lt_length]
    simpa using h
  omega
theorem idxM_at (h : l.any p = true) : p (l.getD (idxM p l).toNat default) = true := by
  have hlt := (idxM_lt h).2
  rw [getD_get hlt]
  rw [idxM, if_pos h] at hlt
  have := List.findIdx_getElem (p := p) (w := hlt)
  simpa [idxM, h] using this
theorem take_step (hk : k < l.length) : l.take (k + 1) = l.take k ++ [l.getD k default] := by
  rw [List.take_add_one, List.getD_eq_getElem?_getD, List.getElem?_eq_getElem hk]; rfl
theorem count_step (p : α → Bool) {l : List α} (hk : k < l.length) : (l.take (k + 1)).countP p = (l.take k).countP p + if p (l.getD k default) then 1 else 0 := by
  rw [take_step hk, List.countP_append, List.countP_singleton]
theorem count_le {α : Type} (p : α → Bool) (l : List α) (k : Nat) : (l.take k).countP p ≤ k :=
  Nat.le_trans List.countP_le_length (List.length_take_le _ _)
theorem all_step (hp : ∀ j, j < k → p (l.getD j default) = false) (h : p (l.getD k default) = false) : ∀ j, j < k + 1 → p (l.getD j default) = false := fun j hj => by
  rcases Nat.lt_or_eq_of_le (Nat.le_of_lt_succ hj) with h' | rfl
  · exact hp j h'
  · exact h
theorem all_next {q : Nat → Prop} (hp : ∀ j, j < k → q j) (h : q k) : ∀ j, j < k + 1 → q j := fun j hj => by
  rcases Nat.lt_or_eq_of_le (Nat.le_of_lt_succ hj) with h' | rfl
  · exact hp j h'
  · exact h
theorem set_self (hk : k < l.length) : l.set k (l.getD k default) = l := by
  rw [getD_get hk]; simp
theorem getD_set_self (hk : k < l.length) : (l.set k a).getD k default = a := by
  rw [getD_get (by simpa using hk)]; simp
theorem getD_set (j : Nat) (hk : k < l.length) : (l.set k a).getD j default = if j = k then a else l.getD j default := by
  by_cases h : j = k
  · subst h; rw [if_pos rfl, getD_set_self hk]
  · rw [if_neg h, List.getD_eq_getElem?_getD, List.getD_eq_getElem?_getD, List.getElem?_set_ne (fun e => h e.symm)]
theorem ext_getD (h : l.length = m.length) (h' : ∀ j, j < l.length → l.getD j default = m.getD j default) : l = m := by
  apply List.ext_getElem h
  intro j h1 h2
  rw [← getD_get h1, ← getD_get h2]
  exact h' j h1
theorem getD_app (j : Nat) : (l ++ m).getD j default = if j < l.length then l.getD j default else m.getD (j - l.length) default := by
  simp only [List.getD_eq_getElem?_getD]
  split
  · rw [List.getElem?_append_left (by assumption)]
  · rw [List.getElem?_append_right (by omega)]
theorem getD_take {j : Nat} (h : j < k) : (l.take k).getD j default = l.getD j default := by
  simp only [List.getD_eq_getElem?_getD]
  rw [List.getElem?_take, if_pos h]
theorem getD_drop (j : Nat) : (l.drop k).getD j default = l.getD (k + j) default := by
  simp only [List.getD_eq_getElem?_getD, List.getElem?_drop]
theorem getD_rep {j n : Nat} (h : j < n) : (List.replicate n a).getD j default = a := by
  rw [getD_get (by simpa using h), List.getElem_replicate]
end
end Go.Proofs.YtojfaelafakemaaGreat

/- What package tlb computes, in plain Lean. No conditions. -/
set_option linter.unusedSimpArgs false
set_option linter.unusedVariables false
namespace Go.Proofs.YtojfaelafakemaaGreat
open Go Go.RowKit
structure TE where
  s : Int
  p : Int
  w : Int
  deriving DecidableEq
instance : Enc TE where
  default := ⟨0, 0, 0⟩
  sz := 3
  enc := fun x => [.int .i64 x.s, .int .i64 x.p, .int .u64 x.w]
  dec := fun cs => match cs with | [.int _ a, .int _ b, .int _ c] => ⟨a, b, c⟩ | _ => ⟨0, 0, 0⟩
  len := fun _ => rfl
  one := fun _ u hu => by simp at hu; rcases hu with rfl | rfl | rfl <;> rfl
  pos := by decide
instance : ElT Tryz.prog 72 TE := ⟨trivial⟩
/-- The fields are of their types. -/
def Wf (x : TE) : Prop := (-9223372036854775808 ≤ x.s ∧ x.s ≤ 9223372036854775807) ∧ (-9223372036854775808 ≤ x.p ∧ x.p ≤ 9223372036854775807) ∧ 0 ≤ x.w ∧ x.w < 18446744073709551616
theorem wf_default : Wf default := by unfold Wf; decide
theorem wf_at {l : List TE} (h : ∀ x ∈ l, Wf x) (j : Nat) : Wf (l.getD j default) := by
  rcases Nat.lt_or_ge j l.length with hj | hj
  · rw [getD_get hj]; exact h _ (List.getElem_mem hj)
  · rw [List.getD_eq_getElem?_getD, List.getElem?_eq_none hj]; exact wf_default
def tr (w : Int) : Bool := decide ((decR w).2 = 0 ∧ (decR w).1.k = 1)
def hu (w : Int) : Bool := decide ((decR w).2 = 0) && (decR w).1.d
theorem hu_tr {w : Int} (h : hu w = true) : tr w = true := by
  unfold hu at h
  unfold tr
  rw [Bool.and_eq_true, decide_eq_true_eq] at h
  rcases decR_cases w with ⟨⟨k, n, a, b, c, d⟩, hp⟩ | hp
  · rw [hp] at h ⊢
    obtain ⟨h1, h2, h3, h4⟩ := (decR_zero hp).1
    obtain ⟨_, rfl⟩ : True ∧ d = true := ⟨trivial, h.2⟩
    simp only [formS] at h4
    simp only [true_and, decide_eq_true_eq]
    have h1' : 0 ≤ k := h1
    have h2' : k ≤ 4 := h2
    have : k = 0 ∨ k = 1 ∨ k = 2 ∨ k = 3 ∨ k = 4 := by omega
    rcases this with rfl | rfl | rfl | rfl | rfl <;> simp_all
  · rw [hp] at h
    exact absurd h.1 (by decide)
def spanM (w : Int) : Int := if hu w then 8 else 1
theorem span_bd (w : Int) : 1 ≤ spanM w ∧ spanM w ≤ 8 := by unfold spanM; split <;> omega
def covM (x : TE) (s p : Int) : Bool := decide (x.s = s ∧ x.p ≤ p ∧ p < x.p + spanM x.w)
def ovM (a b : TE) : Bool := decide (a.s = b.s ∧ a.p < b.p + spanM b.w ∧ b.p < a.p + spanM a.w)
def spR (s : Int) : Bool := decide (0 ≤ s ∧ s < 8)
def pgR (p : Int) : Bool := decide (0 ≤ p ∧ p < 512)
def plcM (s p : Int) : Int := if spR s = true ∧ pgR p = true then 0 else 2
theorem plc_ok {s p : Int} (h : plcM s p = 0) : (0 ≤ s ∧ s < 8) ∧ 0 ≤ p ∧ p < 512 := by
  unfold plcM spR pgR at h
  split at h
  · simp_all
  · cases h
theorem plc_of {s p : Int} (h : 0 ≤ s ∧ s < 8) (h' : 0 ≤ p ∧ p < 512) : plcM s p = 0 := if_pos ⟨decide_eq_true h, decide_eq_true h'⟩
def formT (x : TE) : Bool := tr x.w && !(hu x.w && decide (¬ x.p % 8 = 0))
def okT (x : TE) : Int := if plcM x.s x.p = 0 then (if formT x then 0 else 3) else 2
/-- An entry that is valid by itself. -/
structure Vd (x : TE) : Prop where
  s : 0 ≤ x.s ∧ x.s < 8
  p : 0 ≤ x.p ∧ x.p < 512
  t : tr x.w = true
  h : hu x.w = true → x.p % 8 = 0
theorem okT_vd {x : TE} : okT x = 0 ↔ Vd x := by
  unfold okT
  constructor
  · intro h
    split at h
    · rename_i h1
      split at h
      · rename_i h2
        obtain ⟨a, b⟩ := plc_ok h1
        unfold formT at h2
        simp only [Bool.and_eq_true, Bool.not_eq_true', Bool.and_eq_false_iff, decide_eq_false_iff_not, Decidable.not_not] at h2
        refine ⟨a, b, h2.1, fun hh => ?_⟩
        rcases h2.2 with h3 | h3
        · rw [hh] at h3; cases h3
        · exact h3
      · cases h
    · cases h
  · rintro ⟨a, b, c, d⟩
    rw [if_pos (plc_of a b), if_pos]
    unfold formT
    simp only [Bool.and_eq_true, Bool.not_eq_true', Bool.and_eq_false_iff, decide_eq_false_iff_not, Decidable.not_not]
    refine ⟨c, ?_⟩
    cases hh : hu x.w
    · exact .inl rfl
    · exact .inr (d hh)
def badAt (l : List TE) (i : Nat) : Int := if okT (l.getD i default) = 0 then (if (l.take i).any (ovM (l.getD i default)) then 7 else 0) else okT (l.getD i default)
/-- The first of the numbers from i on that is not 0, or 0. -/
def errG (g : Nat → Int) : Nat → Nat → Int
  | 0, _ => 0
  | f + 1, i => if g i = 0 then errG g f (i + 1) else g i
theorem errG_at {g : Nat → Int} {c : Int} (hc : ¬ c = 0) {i : Nat} (hi : g i = c) : ∀ f k, k ≤ i → i < k + f → (∀ j, k ≤ j → j < i → g j = 0) → errG g f k = c
  | 0, k, h1, h2, _ => by omega
  | f + 1, k, h1, h2, h3 => by
    rw [errG]
    by_cases e : k = i
    · rw [e, hi, if_neg hc]
    · rw [if_pos (h3 k (Nat.le_refl _) (by omega))]
      exact errG_at hc hi f (k + 1) (by omega) (by omega) fun j h4 h5 => h3 j (by omega) h5
theorem errG_no {g : Nat → Int} : ∀ f k, (∀ j, k ≤ j → j < k + f → g j = 0) → errG g f k = 0
  | 0, _, _ => rfl
  | f + 1, k, h => by
    rw [errG, if_pos (h k (Nat.le_refl _) (by omega))]
    exact errG_no f (k + 1) fun j h1 h2 => h j (by omega) (by omega)
theorem errG_zero {g : Nat → Int} : ∀ f k, errG g f k = 0 → ∀ j, k ≤ j → j < k + f → g j = 0
  | 0, k, _, j, h1, h2 => by omega
  | f + 1, k, h, j, h1, h2 => by
    rw [errG] at h
    split at h
    · by_cases e : j = k
      · rw [e]; assumption
      · exact errG_zero f (k + 1) h j (by omega) (by omega)
    · rename_i hn; exact absurd h hn
def checkM (z : Int) (l : List TE) : Int := if z < 1 ∨ 16 < z then 1 else if z < (l.length : Int) then 8 else errG (badAt l) l.length 0
/-- A valid cache. -/
structure Ok (size : Int) (l : List TE) : Prop where
  z : 1 ≤ size ∧ size ≤ 16
  n : (l.length : Int) ≤ size
  v : ∀ x ∈ l, Vd x
  d : l.Pairwise fun a b => ovM a b = false
theorem ov_comm (a b : TE) : ovM a b = ovM b a := by
  unfold ovM
  congr 1
  apply propext
  constructor <;> (rintro ⟨h1, h2, h3⟩; exact ⟨h1.symm, h3, h2⟩)
theorem bad_zero {l : List TE} {i : Nat} : badAt l i = 0 ↔ Vd (l.getD i default) ∧ (l.take i).any (ovM (l.getD i default)) = false := by
  unfold badAt
  constructor
  · intro h
    split at h
    · rename_i h1
      split at h
      · cases h
      · exact ⟨okT_vd.1 h1, by simp_all⟩
    · exact absurd h (by assumption)
  · rintro ⟨h1, h2⟩
    rw [if_pos (okT_vd.2 h1), h2]; rfl
theorem check_ok {z : Int} {l : List TE} : checkM z l = 0 ↔ Ok z l := by
  unfold checkM
  constructor
  · intro h
    split at h
    · cases h
    · split at h
      · cases h
      · have hz := errG_zero _ _ h
        refine ⟨by omega, by omega, fun x hx => ?_, ?_⟩
        · obtain ⟨j, hj, rfl⟩ := List.getElem_of_mem hx
          have := (bad_zero.1 (hz j (Nat.zero_le _) (by omega))).1
          rwa [getD_get hj] at this
        · rw [List.pairwise_iff_getElem]
          intro i j hi hj hij
          have h2 := (bad_zero.1 (hz j (Nat.zero_le _) (by omega))).2
          rw [List.any_eq_false] at h2
          have h3 := h2 l[i] (by rw [List.mem_take_iff_getElem]; exact ⟨i, by omega, rfl⟩)
          rw [getD_get hj] at h3
          rw [ov_comm]
          simpa using h3
  · rintro ⟨a, b, c, d⟩
    rw [if_neg (by omega), if_neg (by omega)]
    refine errG_no _ _ fun j _ hj => bad_zero.2 ?_
    have hj' : j < l.length := by omega
    rw [getD_get hj']
    refine ⟨c _ (List.getElem_mem hj'), ?_⟩
    rw [List.any_eq_false]
    intro x hx
    rw [List.mem_take_iff_getElem] at hx
    obtain ⟨i, hi, rfl⟩ := hx
    have := List.pairwise_iff_getElem.1 d i j (by omega) hj' (by omega)
    rw [ov_comm] at this
    simp [this]
/- As the reference says it. -/
def grp (p : Int) : Int := p - p % 8
def hitM (x : TE) (s p : Int) : Bool := if x.s = s then (if hu x.w then decide (0 ≤ p ∧ x.p = grp p) else decide (x.p = p)) else false
def hit2 (a b : TE) (i : Nat) : Bool := hitM a b.s (grp b.p + (i : Int)) && hitM b b.s (grp b.p + (i : Int))
def ovR (a b : TE) : Bool := (List.range 8).any (hit2 a b)
theorem hit_cov {x : TE} (h : Vd x) (s p : Int) : hitM x s p = covM x s p := by
  obtain ⟨h1, h2, h3, h4⟩ := h
  unfold hitM covM spanM grp
  rw [Bool.eq_iff_iff]
  by_cases e : x.s = s
  · rw [if_pos e]
    cases hh : hu x.w
    · simp only [Bool.false_eq_true, if_false, decide_eq_true_eq]
      omega
    · have := h4 hh
      simp only [if_true, decide_eq_true_eq]
      omega
  · rw [if_neg e]
    simp only [Bool.false_eq_true, decide_eq_true_eq, false_iff]
    omega
theorem ov_ref {a b : TE} (ha : Vd a) (hb : Vd b) : ovR a b = ovM b a := by
  have ga := ha.p
  have gb := hb.p
  have g1 := ha.h
  have g2 := hb.h
  have s1 := span_bd a.w
  have s2 := span_bd b.w
  unfold ovR hit2
  simp only [hit_cov ha, hit_cov hb]
  unfold covM ovM
  rw [Bool.eq_iff_iff, List.any_eq_true]
  simp only [Bool.and_eq_true, decide_eq_true_eq, eq_self, true_and]
  constructor
  · rintro ⟨i, hi, h1, h2⟩
    omega
  · rintro ⟨h1, h2, h3⟩
    have hg : grp b.p = b.p - b.p % 8 := rfl
    by_cases hh : hu b.w = true
    · have e1 := g2 hh
      have e2 : spanM b.w = 8 := by unfold spanM; rw [if_pos hh]
      by_cases hq : a.p ≤ b.p
      · exact ⟨0, List.mem_range.2 (by omega), by omega, by omega⟩
      · exact ⟨(a.p - b.p).toNat, List.mem_range.2 (by omega), by omega, by omega⟩
    · have e2 : spanM b.w = 1 := by unfold spanM; rw [if_neg hh]
      exact ⟨(b.p % 8).toNat, List.mem_range.2 (by omega), by omega, by omega⟩
end Go.Proofs.YtojfaelafakemaaGreat

/- What Lookup, Fill, Invalidate and Flush compute, in plain Lean. No conditions. -/
set_option linter.unusedSimpArgs false
set_option linter.unusedVariables false
namespace Go.Proofs.YtojfaelafakemaaGreat
open Go Go.RowKit
def lookL (l : List TE) (s p : Int) : Int × Bool := match l.find? (fun x => covM x s p) with | some x => (x.w, true) | none => (0, false)
def lookM (z : Int) (l : List TE) (s p : Int) : Int × Bool := if checkM z l = 0 then lookL l s p else (0, false)
theorem look_at {l : List TE} {s p : Int} {k : Nat} (hk : k < l.length) (h : covM (l.getD k default) s p = true) (hn : ∀ j, j < k → covM (l.getD j default) s p = false) : lookL l s p = ((l.getD k default).w, true) := by
  have : l.find? (fun x => covM x s p) = some (l.getD k default) := by
    rw [List.find?_eq_some_iff_getElem]
    refine ⟨h, k, hk, (getD_get hk).symm, fun j hj => ?_⟩
    have := hn j hj
    rw [getD_get (by omega)] at this
    simp [this]
  unfold lookL; rw [this]
theorem look_no {l : List TE} {s p : Int} (hn : ∀ j, j < l.length → covM (l.getD j default) s p = false) : lookL l s p = (0, false) := by
  have : l.find? (fun x => covM x s p) = none := by
    rw [List.find?_eq_none]
    intro x hx
    obtain ⟨j, hj, rfl⟩ := List.getElem_of_mem hx
    have := hn j hj
    rw [getD_get hj] at this
    simp [this]
  unfold lookL; rw [this]
def mkX (s p w : Int) : TE := ⟨s, if hu w then grp p else p, w⟩
def mkE (z : Int) (l : List TE) (s p w : Int) : Int := if checkM z l = 0 then (if plcM s p = 0 then (if tr w then 0 else 3) else 2) else checkM z l
def mkK (l : List TE) (x : TE) : List TE := l.filter fun y => !ovM x y
def dropK (z : Int) (k : List TE) : List TE := if (k.length : Int) = z then k.drop 1 else k
def mkL (z : Int) (l : List TE) (x : TE) : List TE := dropK z (mkK l x) ++ [x]
def resZ (e z : Int) : Int := if e = 0 then z else 0
def resL (e : Int) (l : List TE) : List TE := if e = 0 then l else []
def invE (z : Int) (l : List TE) (s p : Int) : Int := if checkM z l = 0 then plcM s p else checkM z l
def invL (l : List TE) (s p : Int) : List TE := l.filter fun y => !covM y s p
def flE (z : Int) (l : List TE) (s : Int) : Int := if checkM z l = 0 then plcM s 0 else checkM z l
def flL (l : List TE) (s : Int) : List TE := l.filter fun y => !(y.s == s)
theorem plc_two {s p : Int} : plcM s p = 0 ∨ plcM s p = 2 := by unfold plcM; split <;> simp
theorem plc_ne {s p : Int} (h : ¬ plcM s p = 0) : plcM s p = 2 := by rcases plc_two (s := s) (p := p) with h' | h' <;> simp_all
theorem dropK_le {z : Int} {l : List TE} (hz : 1 ≤ z) (hl : (l.length : Int) ≤ z) : ((dropK z l).length : Int) + 1 ≤ z := by
  unfold dropK
  split
  · rw [List.length_drop]; omega
  · omega
theorem mkX_vd {s p w : Int} (h : plcM s p = 0) (ht : tr w = true) : Vd (mkX s p w) := by
  obtain ⟨h1, h2⟩ := plc_ok h
  refine ⟨h1, ?_, ht, fun hh => ?_⟩
  · show 0 ≤ (if hu w then grp p else p) ∧ (if hu w then grp p else p) < 512
    unfold grp
    split <;> omega
  · show (if hu w then grp p else p) % 8 = 0
    have : hu w = true := hh
    rw [if_pos this]
    unfold grp; omega
end Go.Proofs.YtojfaelafakemaaGreat

/- A region that draws its order and whose last operations change what its first ones read: behind those (the list Ks) nothing is asked of the world. No conditions. -/
set_option linter.unusedSimpArgs false
set_option linter.unusedVariables false
namespace Go.Proofs.YtojfaelafakemaaGreat
open Go Go.RowKit
section
variable {P : Program} {ops : Array Oper} {Q : Exit → Act → World → Prop} {md : Region.Mode} {S : World → Prop} {Ks : List Nat}
def wpAnyK (P : Program) (md : Region.Mode) (ops : Array Oper) (Q : Exit → Act → World → Prop) (S : World → Prop) (Ks : List Nat) : Nat → Array Bool → Act → World → Prop
  | 0, listed, a, w => Region.ready md ops listed = [] ∧ Q .normal a w
  | fuel + 1, listed, a, w => (Region.ready md ops listed = [] → Q .normal a w) ∧
    ∀ i ∈ Region.ready md ops listed, wpOp P ops Q i (fun a' w' => (Ks.contains i = false → S w') ∧ wpAnyK P md ops Q S Ks fuel (listed.setIfInBounds i true) a' w') a w
/-- Operation k comes behind operation i. -/
def waitsT (md : Region.Mode) (ops : Array Oper) (i : Nat) : Nat → Nat → Bool
  | 0, _ => false
  | f + 1, k => match ops[k]? with
    | some o => o.after.any fun e => Region.binds md e && (e.on == i || waitsT md ops i f e.on)
    | none => false
def closedB (md : Region.Mode) (ops : Array Oper) (listed : Array Bool) : Bool := (List.range listed.size).all fun j => !(listed.getD j false) || match ops[j]? with
  | some o => o.after.all fun e => !(Region.binds md e) || listed.getD e.on false
  | none => true
def Closed (md : Region.Mode) (ops : Array Oper) (listed : Array Bool) : Prop := ∀ j o, listed.getD j false = true → ops[j]? = some o → ∀ e ∈ o.after, Region.binds md e = true → listed.getD e.on false = true
theorem closed_of {listed : Array Bool} (h : closedB md ops listed = true) : Closed md ops listed := fun j o hj ho e he hb => by
  have hlt : j < listed.size := by
    rcases Nat.lt_or_ge j listed.size with h' | h'
    · exact h'
    · simp [Array.getElem?_eq_none h'] at hj
  have := List.all_eq_true.1 h j (List.mem_range.2 hlt)
  rw [hj, ho] at this
  simp only [Bool.not_true, Bool.false_or] at this
  have h2 := Array.all_eq_true'.1 this e he
  rw [hb] at h2
  simpa using h2
theorem waitsT_in {i : Nat} {listed : Array Bool} (hc : Closed md ops listed) : ∀ (f k : Nat) (o : Oper), ops[k]? = some o → (∀ e ∈ o.after, Region.binds md e = true → listed.getD e.on false = true) → waitsT md ops i f k = true → listed.getD i false = true
  | 0, _, _, _, _, h => by cases h
  | f + 1, k, o, ho, hall, h => by
    unfold waitsT at h
    rw [ho] at h
    simp only at h
    obtain ⟨e, he, heq⟩ := Array.any_eq_true'.1 h
    rw [Bool.and_eq_true, Bool.or_eq_true, beq_iff_eq] at heq
    have hl := hall e he heq.1
    rcases heq.2 with h' | h'
    · rw [← h']; exact hl
    · cases hk : ops[e.on]? with
      | none => cases f <;> simp [waitsT, hk] at h'
      | some o' => exact waitsT_in hc f e.on o' hk (fun e' he' hb' => hc e.on o' hl hk e' he' hb') h'
theorem wpAny_of_k : ∀ (fuel : Nat) (listed : Array Bool) (a : Act) (w : World), wpAnyK P md ops Q S Ks fuel listed a w → wpAny P md ops Q fuel listed a w
  | 0, _, _, _, h => h
  | fuel + 1, _, _, _, h => ⟨h.1, fun i hi => wpOp_mono (fun a' w' h' => wpAny_of_k fuel _ a' w' h'.2) (h.2 i hi)⟩
theorem wpAnyK_first {i : Nat} {oi : Oper} {v : Value} (hi : ops[i]? = some oi) (hsel : ∀ (j : Nat) (o : Oper) cs b, ops[j]? = some o → o.op ≠ .select cs b)
    (hQ : ∀ c a w, Q (.panic c) (a.put oi.dst v) w → Q (.panic c) a w) (hK : ∀ k, Ks.contains k = true → waitsT md ops i ops.size k = true) (hiK : Ks.contains i = false) :
    ∀ (fuel : Nat) (listed : Array Bool) (a : Act) (w : World), Closed md ops listed →
      (∀ j oj, ops[j]? = some oj → j ≠ i → listed.getD j true = false → (∀ e ∈ oj.after, Region.binds md e = true → e.on ≠ i) → oi.apart ops oj = true) →
      i ∈ Region.ready md ops listed → YieldsIf P ops S oi v a → S w →
      wpAnyK P md ops Q S Ks fuel (listed.setIfInBounds i true) (a.put oi.dst v) w → wpAnyK P md ops Q S Ks (fuel + 1) listed a w := by
  intro fuel
  induction fuel with
  | zero =>
    intro listed a w _ _ hr hy hS H
    refine ⟨fun h => (by rw [h] at hr; cases hr), fun j hj => ?_⟩
    by_cases hji : j = i
    · subst hji; exact hy.wpOp hi hS ⟨fun _ => hS, H⟩
    · have := ready_mono hj hji
      rw [H.1] at this
      cases this
  | succ fuel ih =>
    intro listed a w hcl hfree hr hy hS H
    refine ⟨fun h => (by rw [h] at hr; cases hr), fun j hj => ?_⟩
    by_cases hji : j = i
    · subst hji; exact hy.wpOp hi hS ⟨fun _ => hS, H⟩
    · have h1 := H.2 j (ready_mono hj hji)
      obtain ⟨hjun, oj, hoj, hall⟩ := mem_ready.1 hj
      have hnot : ∀ e ∈ oj.after, Region.binds md e = true → e.on ≠ i := fun e he hb heq => by
        have h1 := hall e he hb
        have h0 := (mem_ready.1 hr).1
        rw [heq] at h1
        rcases Nat.lt_or_ge i listed.size with h' | h'
        · simp [h'] at h0 h1; rw [h0] at h1; cases h1
        · simp [Array.getElem?_eq_none h'] at h1
      have hjK : Ks.contains j = false := by
        cases hc : Ks.contains j
        · rfl
        · have hw := waitsT_in hcl _ j oj hoj hall (hK j hc)
          have h0 := (mem_ready.1 hr).1
          rcases Nat.lt_or_ge i listed.size with h' | h'
          · simp [h'] at h0 hw; rw [h0] at hw; cases hw
          · simp [Array.getElem?_eq_none h'] at hw
      have hcl' : Closed md ops (listed.setIfInBounds j true) := fun k ok hk hok e he hb => by
        by_cases hjk : j = k
        · subst hjk
          rw [hoj] at hok
          cases hok
          exact getD_set_true (hall e he hb)
        · rw [getD_set_ne false hjk] at hk
          exact getD_set_true (hcl k ok hk hok e he hb)
      have h2 := wpOp_putIf hoj (hfree j oj hoj hji hjun hnot) (fun cs b => hsel i oi cs b hi) (fun cs b => hsel j oj cs b hoj) hQ hy h1
      have hfree' : ∀ k ok, ops[k]? = some ok → k ≠ i → (listed.setIfInBounds j true).getD k true = false →
          (∀ e ∈ ok.after, Region.binds md e = true → e.on ≠ i) → oi.apart ops ok = true := fun k ok hk hki hun hno => by
        refine hfree k ok hk hki ?_ hno
        by_cases hjk : j = k
        · subst hjk; exact hjun
        · rw [getD_set_ne true hjk] at hun; exact hun
      refine wpOp_mono (fun a' w' h3 => ⟨fun _ => h3.2.1 hjK, ih (listed.setIfInBounds j true) a' w' hcl' hfree' (ready_mono hr (Ne.symm hji)) h3.1 (h3.2.1 hjK) ?_⟩) h2
      rw [Array.setIfInBounds_comm _ _ hji]
      exact h3.2.2
end
def TK [Dl] (P : Program) (n : Nat) (l : List Oper) (S : World → Prop) (Ks : List Nat) (fuel : Nat) (listed : Array Bool) (F : Act → World → Prop) (E : Env) (H : World → Prop) : Prop := ∀ a w, FrOk n E a → H w → wpAnyK P .any l.toArray (Exit.then F NoQ) S Ks fuel listed a w
section
variable {M : List Nat} {P : Program} {n d : Nat} {Q : Exit → Act → World → Prop} {F : Act → World → Prop} {l : List Oper} {o : Oper} {E : Env} {H S : World → Prop} {w0 : World} {cs cs0 : List Chunk} {v : Value} {fuel : Nat} {listed : Array Bool} {Ks : List Nat}
theorem ak_held [Dl] (Ks : List Nat) (cs0 : List Chunk) {id : Nat} (hm : P.follows .mixedOrders = true) (k : TK P n l (HpM M w0 cs0) Ks l.length (Array.replicate l.length false) (Q .normal) E (HpM M w0 cs)) : Tri n ((Code.region id l.toArray true).wp P Q) E (HpM M w0 cs) := fun a w h1 h2 => by
  refine wp_mono (Q := Exit.then (Q .normal) NoQ) (wp_region_any hm (wpAny_of_k _ _ _ _ (k a _ h1 h2.drawn))) fun e a' w' q => ?_
  cases e with
  | normal => exact q
  | exit id => exact q.elim
  | goto l => exact q.elim
  | ret => exact q.elim
  | panic ch => exact q.elim
  | outgrown => exact q.elim
theorem tk_take [Dl] (i : Nat) (hi : l[i]? = some o) (hns : Region.noSelect l.toArray = true) (hf : Region.free .any l.toArray listed i = true) (hr : (Region.ready .any l.toArray listed).contains i = true)
    (hK : (Ks.all fun k => waitsT .any l.toArray i l.toArray.size k) = true) (hcl : closedB .any l.toArray listed = true) (hiK : Ks.contains i = false) (hS : ∀ w, H w → S w) (hy : ∀ a, FrOk n E a → YieldsIf P l.toArray S o v a) (k : ∀ a, FrOk n E a → ∀ w, H w → wpAnyK P .any l.toArray (Exit.then F NoQ) S Ks fuel (listed.setIfInBounds i true) (a.put o.dst v) w) :
    TK P n l S Ks (fuel + 1) listed F E H := fun a w h1 h2 =>
  wpAnyK_first (by simpa using hi) (Region.noSelect_spec hns) (fun _ _ _ h => h.elim) (fun k hk => List.all_eq_true.1 hK k (List.contains_iff_mem.1 hk)) hiK fuel listed a w (closed_of hcl) (Region.free_spec (by simpa using hi) hf) (by simpa using hr) (hy a h1) (hS w h2) (k a h1 w h2)
theorem ak_take [Dl] (i : Nat) (hi : l[i]? = some o) (hd : o.dst = some d) (hn : Nat.blt d n = true) (k : TK P n l (HpM M w0 cs0) Ks fuel (listed.setIfInBounds i true) F ((d, v) :: E) (HpM M w0 cs)) (hns : Region.noSelect l.toArray = true := by kernel_rfl) (hf : Region.free .any l.toArray listed i = true := by kernel_rfl) (hr : (Region.ready .any l.toArray listed).contains i = true := by kernel_rfl)
    (hK : (Ks.all fun k => waitsT .any l.toArray i l.toArray.size k) = true := by kernel_rfl) (hcl : closedB .any l.toArray listed = true := by kernel_rfl) (hiK : Ks.contains i = false := by rfl) (hs : cs0.Sublist cs := by repeat (first | exact List.Sublist.refl _ | assumption | apply List.Sublist.cons_cons | apply List.Sublist.cons)) (hw : Wan l n o E true := by first | exact wan_plain rfl | exact wan_yes rfl rfl rfl) (hy : Yl P n o E (HpM M w0 cs0) v := by first | exact yl_mv rfl rfl | exact yl_field rfl rfl | exact yl_load rfl rfl (by first | (apply has_at; (repeat (first | exact at0 | apply atS)); done) | (repeat (first | assumption | apply has_cons))) rfl | exact yl_addn rfl rfl rfl (by omega) | exact yl_subn rfl rfl rfl (by omega) | exact yl_int2 rfl rfl rfl rfl | exact yl_pick_t rfl rfl rfl | exact yl_pick_f rfl rfl rfl | exact yl_not rfl rfl | exact yl_ext rfl rfl rfl | exact yl_loadN rfl rfl (by first | (apply has_at; (repeat (first | exact at0 | apply atS)); done) | (repeat (first | assumption | apply has_cons))) (by repeat (first | exact nf0 rfl | apply nfS rfl | exact nfR)) (by rfl) | exact yl_build rfl rfl rfl (by repeat (first | exact nf0 rfl | apply nfS rfl | exact nfR)) | exact yl_shl rfl rfl rfl (by decide) | exact yl_shr rfl rfl rfl (by decide) | exact yl_convn rfl rfl (by omega) | exact yl_conv rfl rfl | exact yl_remn rfl rfl rfl (by omega) | exact yl_quon rfl rfl rfl (by omega) | exact yl_eqs rfl rfl rfl | exact yl_neqs rfl rfl rfl | exact yl_eqlb rfl rfl rfl | exact yl_neqb rfl rfl rfl | exact yl_neg rfl rfl | exact yl_len rfl rfl (by repeat (first | assumption | exact rd_chunk (by first | (apply has_at; (repeat (first | exact at0 | apply atS)); done) | (repeat (first | assumption | apply has_cons))) | apply RdH.cons | refine RdH.cut ?_ rfl (by omega) (by omega))) | exact yl_idx rfl rfl (by repeat (first | assumption | exact rd_chunk (by first | (apply has_at; (repeat (first | exact at0 | apply atS)); done) | (repeat (first | assumption | apply has_cons))) | apply RdH.cons | refine RdH.cut ?_ rfl (by omega) (by omega))) (by first | exact ix_nat rfl | exact ix_int rfl (by omega)) (by rfl) (by first | assumption | omega | decide | (simp only [List.length_set, List.length_append, List.length_replicate, List.length_cons, List.length_nil, List.length_drop, List.length_take] at *; omega)) | exact yl_fieldE rfl rfl | exact yl_loadE rfl rfl (by repeat (first | assumption | exact rd_chunk (by first | (apply has_at; (repeat (first | exact at0 | apply atS)); done) | (repeat (first | assumption | apply has_cons))) | apply RdH.cons | refine RdH.cut ?_ rfl (by omega) (by omega))) (by rfl) (by first | assumption | omega | decide | (simp only [List.length_set, List.length_append, List.length_replicate, List.length_cons, List.length_nil, List.length_drop, List.length_take] at *; omega)) (by rfl) | exact yl_loadEN rfl rfl (by repeat (first | assumption | exact rd_chunk (by first | (apply has_at; (repeat (first | exact at0 | apply atS)); done) | (repeat (first | assumption | apply has_cons))) | apply RdH.cons | refine RdH.cut ?_ rfl (by omega) (by omega))) (by rfl) (by first | assumption | omega | decide | (simp only [List.length_set, List.length_append, List.length_replicate, List.length_cons, List.length_nil, List.length_drop, List.length_take] at *; omega)) (by repeat (first | exact nf0 rfl | apply nfS rfl | exact nfR)) (by rfl) | exact yl_nilchk rfl rfl | exact yl_nilchkE rfl rfl | exact yl_eqnil rfl rfl rfl (by repeat (first | assumption | exact rd_chunk (by first | (apply has_at; (repeat (first | exact at0 | apply atS)); done) | (repeat (first | assumption | apply has_cons))) | apply RdH.cons | refine RdH.cut ?_ rfl (by omega) (by omega))) | exact yl_neqnil rfl rfl rfl (by repeat (first | assumption | exact rd_chunk (by first | (apply has_at; (repeat (first | exact at0 | apply atS)); done) | (repeat (first | assumption | apply has_cons))) | apply RdH.cons | refine RdH.cut ?_ rfl (by omega) (by omega))) | exact yl_cut rfl rfl (by repeat (first | assumption | exact rd_chunk (by first | (apply has_at; (repeat (first | exact at0 | apply atS)); done) | (repeat (first | assumption | apply has_cons))) | apply RdH.cons | refine RdH.cut ?_ rfl (by omega) (by omega))) (by first | exact ixo_none | exact ixo_some (by first | exact ix_nat rfl | exact ix_int rfl (by omega))) (by first | exact ixo_none | exact ixo_some (by first | exact ix_nat rfl | exact ix_int rfl (by omega))) (by omega) (by omega) | exact yl_func rfl rfl) : TK P n l (HpM M w0 cs0) Ks (fuel + 1) listed F E (HpM M w0 cs) :=
  tk_take i hi hns hf hr hK hcl hiK (fun _ h => h.sub hs) (fun a h1 => .inl ⟨hw a h1, fun w' hw' => hy a w' h1 hw'⟩) fun a h1 w h2 => by rw [hd]; exact k _ _ (h1.put hn v) h2
theorem ak_pass [Dl] (i : Nat) (hi : l[i]? = some o) (hd : o.dst = some d) (hn : Nat.blt d n = true) (k : TK P n l (HpM M w0 cs0) Ks fuel (listed.setIfInBounds i true) F ((d, undef) :: E) (HpM M w0 cs)) (hns : Region.noSelect l.toArray = true := by kernel_rfl) (hf : Region.free .any l.toArray listed i = true := by kernel_rfl) (hr : (Region.ready .any l.toArray listed).contains i = true := by kernel_rfl)
    (hK : (Ks.all fun k => waitsT .any l.toArray i l.toArray.size k) = true := by kernel_rfl) (hcl : closedB .any l.toArray listed = true := by kernel_rfl) (hiK : Ks.contains i = false := by rfl) (hs : cs0.Sublist cs := by repeat (first | exact List.Sublist.refl _ | assumption | apply List.Sublist.cons_cons | apply List.Sublist.cons)) (hw : Wan l n o E false := by first | exact wan_no rfl rfl rfl | exact wan_un rfl rfl rfl) : TK P n l (HpM M w0 cs0) Ks (fuel + 1) listed F E (HpM M w0 cs) :=
  tk_take (v := undef) i hi hns hf hr hK hcl hiK (fun _ h => h.sub hs) (fun a h1 => .inr ⟨hw a h1, rfl⟩) fun a h1 w h2 => by rw [hd]; exact k _ _ (h1.put hn undef) h2
theorem wpop_ofk {i : Nat} {o : Oper} {K : Act → World → Prop} (hi : l[i]? = some o) {a : Act} {w : World} (h : wpList P l.toArray (Exit.then K NoQ) [o] a w) : wpOp P l.toArray (Exit.then F NoQ) i K a w := by
  have hi' : l.toArray[i]? = some o := by simpa using hi
  unfold wpList at h
  unfold wpOp
  rw [hi']
  simp only
  by_cases hw : Region.wanted o (yielded l.toArray a.tmps) = true
  · rw [if_pos hw] at h ⊢
    rcases h with h | ⟨_, a', w', h⟩
    · left
      have e : wpList P l.toArray (Exit.then K NoQ) [] = K := by
        funext a w; rfl
      rw [e] at h
      unfold Oper.wp at h ⊢
      unfold Oper.upon at h ⊢
      split at h <;> exact h
    · exact h.elim
  · rw [if_neg hw] at h ⊢
    exact h
theorem wpAnyK_all {rs : List Nat} {md : Region.Mode} {ops : Array Oper} {a : Act} {w : World} (hr : Region.ready md ops listed = rs) (hne : rs ≠ [])
    (h : ∀ i ∈ rs, wpOp P ops Q i (fun a' w' => (Ks.contains i = false → S w') ∧ wpAnyK P md ops Q S Ks fuel (listed.setIfInBounds i true) a' w') a w) : wpAnyK P md ops Q S Ks (fuel + 1) listed a w :=
  ⟨fun h0 => absurd (hr ▸ h0) hne, hr ▸ h⟩
theorem ak_op [Dl] (i : Nat) (hi : l[i]? = some o) (k : Tri n (wpList P l.toArray (Exit.then (fun a w => (Ks.contains i = false → HpM M w0 cs0 w) ∧ wpAnyK P .any l.toArray (Exit.then F NoQ) (HpM M w0 cs0) Ks fuel (listed.setIfInBounds i true) a w) NoQ) [o]) E (HpM M w0 cs)) (hr : Region.ready .any l.toArray listed = [i] := by kernel_rfl) :
    TK P n l (HpM M w0 cs0) Ks (fuel + 1) listed F E (HpM M w0 cs) := fun a w h1 h2 => wpAnyK_all hr (by simp) fun j hj => by
  have : j = i := by simpa using hj
  subst this
  exact wpop_ofk hi (k a w h1 h2)
theorem ak_op2 [Dl] (i j : Nat) {oi oj : Oper} (hi : l[i]? = some oi) (hj : l[j]? = some oj)
    (ki : Tri n (wpList P l.toArray (Exit.then (fun a w => (Ks.contains i = false → HpM M w0 cs0 w) ∧ wpAnyK P .any l.toArray (Exit.then F NoQ) (HpM M w0 cs0) Ks fuel (listed.setIfInBounds i true) a w) NoQ) [oi]) E (HpM M w0 cs))
    (kj : Tri n (wpList P l.toArray (Exit.then (fun a w => (Ks.contains j = false → HpM M w0 cs0 w) ∧ wpAnyK P .any l.toArray (Exit.then F NoQ) (HpM M w0 cs0) Ks fuel (listed.setIfInBounds j true) a w) NoQ) [oj]) E (HpM M w0 cs))
    (hr : Region.ready .any l.toArray listed = [i, j] := by kernel_rfl) : TK P n l (HpM M w0 cs0) Ks (fuel + 1) listed F E (HpM M w0 cs) := fun a w h1 h2 => wpAnyK_all hr (by simp) fun k hk => by
  have : k = i ∨ k = j := by simpa using hk
  rcases this with rfl | rfl
  · exact wpop_ofk hi (ki a w h1 h2)
  · exact wpop_ofk hj (kj a w h1 h2)
theorem ak_in [Dl] {i : Nat} (k : TK P n l (HpM M w0 cs0) Ks fuel listed F E (HpM M w0 cs)) (hs : cs0.Sublist cs := by repeat (first | exact List.Sublist.refl _ | assumption | apply List.Sublist.cons_cons | apply List.Sublist.cons)) :
    Tri n (Exit.then (fun a w => (Ks.contains i = false → HpM M w0 cs0 w) ∧ wpAnyK P .any l.toArray (Exit.then F NoQ) (HpM M w0 cs0) Ks fuel listed a w) NoQ .normal) E (HpM M w0 cs) := fun a w h1 h2 => ⟨fun _ => h2.sub hs, k a w h1 h2⟩
theorem ak_ink [Dl] {i : Nat} (k : TK P n l (HpM M w0 cs0) Ks fuel listed F E (HpM M w0 cs)) (hs : Ks.contains i = true := by rfl) :
    Tri n (Exit.then (fun a w => (Ks.contains i = false → HpM M w0 cs0 w) ∧ wpAnyK P .any l.toArray (Exit.then F NoQ) (HpM M w0 cs0) Ks fuel listed a w) NoQ .normal) E (HpM M w0 cs) := fun a w h1 h2 => ⟨fun h => (by rw [hs] at h; cases h), k a w h1 h2⟩
theorem ak_weak [Dl] (cs' : List Chunk) (hs : cs'.Sublist cs) (k : TK P n l S Ks fuel listed F E (HpM M w0 cs')) : TK P n l S Ks fuel listed F E (HpM M w0 cs) := fun a w h1 h2 => k a w h1 (h2.sub hs)
theorem ak_done [Dl] (k : Tri n F E (HpM M w0 cs)) (hr : Region.ready .any l.toArray listed = [] := by kernel_rfl) : TK P n l (HpM M w0 cs0) Ks fuel listed F E (HpM M w0 cs) := fun a w h1 h2 => by
  cases fuel with
  | zero => exact ⟨hr, k a w h1 h2⟩
  | succ f => exact ⟨fun _ => k a w h1 h2, by rw [hr]; simp⟩
theorem tri_front [Dl] {c : Chunk} {ds : List Chunk} (i : Nat) (hi : At cs i c) (he : Nf (cs.eraseIdx i) ds) (k : Tri n F E (HpM M w0 (c :: ds))) : Tri n F E (HpM M w0 cs) := fun a w h1 h2 => k a w h1 (h2.front hi he)
end
end Go.Proofs.YtojfaelafakemaaGreat

/- Slices of slices of elements of any kind: rows of the call's own for them. No conditions. -/
set_option linter.unusedSimpArgs false
set_option linter.unusedVariables false
namespace Go.Proofs.YtojfaelafakemaaGreat
open Go Go.RowKit
/-- A slice value, as an element. -/
structure SV where
  A : Option Addr
  len : Nat
  cap : Nat
def SV.v (s : SV) : Value := .slice s.A s.len s.cap
instance : Enc SV where
  default := ⟨none, 0, 0⟩
  sz := 1
  enc := fun s => [s.v]
  dec := fun cs => match cs with | [.slice A l c] => ⟨A, l, c⟩ | _ => ⟨none, 0, 0⟩
  len := fun _ => rfl
  one := fun _ u hu => by simp at hu; subst hu; rfl
  pos := by decide
def Row.sv (r : Row) : SV := ⟨r.A, r.len, r.cap⟩
theorem Row.sv_v (r : Row) : r.sv.v = r.v := rfl
/-- Slice values that read as lists. -/
structure RdL {α : Type} [Enc α] (H : World → Prop) (vs : List SV) (L : List (List α)) : Prop where
  len : vs.length = L.length
  inn : ∀ i, RdH H (vs.getD i default).v (L.getD i default)
/-- Rows of the call's own, one for each list. -/
def nestE {α : Type} [Enc α] (e : Nat) (rs : List Row) (L : List (List α)) : List Chunk := List.zipWith (fun r l => slC r e l) rs L
def nxE {α : Type} [Enc α] (e : Nat) (rs : List Row) (L : List (List α)) (i : Nat) : List Chunk := (nestE e rs L).eraseIdx i
theorem eraseIdx_set {α : Type} : ∀ (l : List α) (i : Nat) (a : α), (l.set i a).eraseIdx i = l.eraseIdx i
  | [], _, _ => rfl
  | _ :: _, 0, _ => rfl
  | x :: l, i + 1, a => by rw [List.set_cons_succ, List.eraseIdx_cons_succ, List.eraseIdx_cons_succ, eraseIdx_set l i a]
theorem set_getD_self {α : Type} [Inhabited α] {l : List α} {i : Nat} (hi : i < l.length) (d : α) : l.set i (l.getD i d) = l := by
  rw [List.getD_eq_getElem?_getD, List.getElem?_eq_getElem hi, Option.getD_some, List.set_getElem_self]
theorem getD_none {α : Type} [Inhabited α] {l : List α} {i : Nat} (h : l.length ≤ i) : l.getD i default = default := by
  rw [List.getD_eq_getElem?_getD, List.getElem?_eq_none h]; rfl
theorem gd_set {α : Type} [Inhabited α] {l : List α} {i j : Nat} {a : α} (hi : i < l.length) : (l.set i a).getD j default = if i = j then a else l.getD j default := by
  rw [List.getD_eq_getElem?_getD, List.getElem?_set]
  by_cases h : i = j
  · rw [if_pos h, if_pos h, if_pos (by omega)]; rfl
  · rw [if_neg h, if_neg h, List.getD_eq_getElem?_getD]
theorem map_getD_sv (rs : List Row) {i : Nat} (hi : i < rs.length) : (rs.map Row.sv).getD i default = (rs.getD i (Row.nil 0)).sv := by
  rw [List.getD_eq_getElem?_getD, List.getD_eq_getElem?_getD, List.getElem?_map, List.getElem?_eq_getElem hi]
  rfl
theorem rs_self {rs : List Row} {i : Nat} (hi : i < rs.length) : rs.set i (rs.getD i (Row.nil 0)) = rs := by rw [List.getD_eq_getElem?_getD, List.getElem?_eq_getElem hi, Option.getD_some, List.set_getElem_self]
theorem has_mem {cs : List Chunk} {c : Chunk} (h : c ∈ cs) : Has cs c := by
  obtain ⟨i, hi, he⟩ := List.getElem_of_mem h
  exact ⟨i, by rw [← he]; exact List.getElem?_eq_getElem hi⟩
theorem lit_perm {p q : List Nat} (h : p.Perm q) (f : Nat → Chunk) (X : List Chunk) : (p.map f ++ X).Perm (q.map f ++ X) := (h.map f).append_right X
section
variable {α : Type} [Enc α] {M : List Nat} {w0 : World} {cs ds : List Chunk} {H H' : World → Prop} {vs : List SV} {L : List (List α)} {e : Nat} {r : Row} {rs : List Row}
theorem RdL.cons {c : Chunk} (h : RdL (HpM M w0 cs) vs L) : RdL (HpM M w0 (c :: cs)) vs L := ⟨h.len, fun i => (h.inn i).cons⟩
theorem RdL.app (h : RdL (HpM M w0 cs) vs L) : RdL (HpM M w0 (ds ++ cs)) vs L := ⟨h.len, fun i => (h.inn i).app⟩
theorem RdL.imp (h : RdL H vs L) (hs : ∀ w, H' w → H w) : RdL H' vs L := ⟨h.len, fun i w hw => h.inn i w (hs w hw)⟩
theorem nestE_get (hl : rs.length = L.length) {i : Nat} (hi : i < L.length) : (nestE e rs L)[i]? = some (slC (rs.getD i (Row.nil 0)) e (L.getD i default)) := by
  unfold nestE
  rw [List.getElem?_zipWith, List.getElem?_eq_getElem hi, List.getElem?_eq_getElem (by omega)]
  simp [List.getD_eq_getElem?_getD, List.getElem?_eq_getElem hi, List.getElem?_eq_getElem (show i < rs.length by omega)]
theorem nestE_len (hl : rs.length = L.length) : (nestE e rs L).length = L.length := by unfold nestE; simp [hl]
theorem nestE_mem (hl : rs.length = L.length) {i : Nat} (hi : i < L.length) : slC (rs.getD i (Row.nil 0)) e (L.getD i default) ∈ nestE e rs L := List.mem_of_getElem? (nestE_get hl hi)
theorem nestE_set (rs : List Row) (L : List (List α)) (i : Nat) (r' : Row) (l' : List α) : (nestE e rs L).set i (slC r' e l') = nestE e (rs.set i r') (L.set i l') := by
  unfold nestE
  apply List.ext_getElem?
  intro j
  rw [List.getElem?_set, List.getElem?_zipWith, List.getElem?_zipWith, List.getElem?_set, List.getElem?_set, List.length_zipWith]
  by_cases h : i = j
  · subst h
    simp only [if_true]
    by_cases h1 : i < rs.length <;> by_cases h2 : i < L.length <;> first | (simp [h1, h2]; done) | (simp [h1, h2]; omega)
  · simp [h]
theorem nestE_snoc (hl : rs.length = L.length) (r' : Row) (l' : List α) : nestE e (rs ++ [r']) (L ++ [l']) = nestE e rs L ++ [slC r' e l'] := by
  unfold nestE
  rw [List.zipWith_append hl]
  rfl
/-- A row of a nest in front. -/
theorem nestE_focus (hl : rs.length = L.length) {i : Nat} (hi : i < L.length) (A B : List Chunk) : (A ++ (nestE e rs L ++ B)).Perm (slC (rs.getD i (Row.nil 0)) e (L.getD i default) :: (A ++ (nxE e rs L i ++ B))) := by
  have h1 := nestE_get (e := e) hl hi
  have h2 : i < (nestE e rs L).length := by rw [nestE_len hl]; exact hi
  rw [List.getElem?_eq_getElem h2] at h1
  have h3 := perm_erase (nestE e rs L) i h2
  rw [Option.some.inj h1] at h3
  exact (List.Perm.append_left A (List.Perm.append_right B h3)).trans List.perm_middle
theorem nestE_unfocus (hl : rs.length = L.length) {i : Nat} (hi : i < L.length) (r' : Row) (l' : List α) (A B : List Chunk) : (slC r' e l' :: (A ++ (nxE e rs L i ++ B))).Perm (A ++ (nestE e (rs.set i r') (L.set i l') ++ B)) := by
  have h0 : (nestE e (rs.set i r') (L.set i l')).eraseIdx i = nxE e rs L i := by rw [← nestE_set, eraseIdx_set]; rfl
  have h1 := nestE_focus (e := e) (rs := rs.set i r') (L := L.set i l') (i := i) (by simp [hl]) (by simpa using hi) A B
  unfold nxE at h1
  rw [h0] at h1
  have e1 : (rs.set i r').getD i (Row.nil 0) = r' := by rw [List.getD_eq_getElem?_getD, List.getElem?_set_self (by omega)]; rfl
  have e2 : (L.set i l').getD i default = l' := by rw [List.getD_eq_getElem?_getD, List.getElem?_set_self (by omega)]; rfl
  rw [e1, e2] at h1
  exact h1.symm
theorem rdL_own (hl : rs.length = L.length) (hm : ∀ i, i < L.length → Has cs (slC (rs.getD i (Row.nil 0)) e (L.getD i default))) : RdL (HpM M w0 cs) (rs.map Row.sv) L := ⟨by rw [List.length_map, hl], fun i => by
  rcases Nat.lt_or_ge i L.length with h | h
  · rw [map_getD_sv rs (by omega)]
    exact rd_chunk (hm i h)
  · rw [getD_none (by rw [List.length_map]; omega), getD_none h]
    exact rd_nil⟩
end
end Go.Proofs.YtojfaelafakemaaGreat
