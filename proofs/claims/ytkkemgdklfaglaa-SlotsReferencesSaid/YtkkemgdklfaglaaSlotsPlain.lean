/- The laws of slots in plain terms. No conditions. -/
import Derived.Test.YtkkemgdklfaglaaSlotsLaws
set_option linter.unusedSimpArgs false
set_option linter.unusedVariables false
namespace Go.Proofs.Ytkkemgdklfaglaa
open Go Go.RowKit
def goodS (s : Slot) : Prop := 0 ≤ s.place ∧ s.place ≤ 3 ∧ 0 ≤ s.count ∧ s.count ≤ 1048576 ∧ (s.place = 0 → s.count = 0)
instance (s : Slot) : Decidable (goodS s) := by unfold goodS; infer_instance
theorem checkM_zero {l : List Slot} : checkM l = 0 ↔ l.length ≤ 64 ∧ ∀ k, k < l.length → goodS (l.getD k default) := by
  constructor
  · exact fun h => ⟨checkM_le h, fun k hk => checkM_at h hk⟩
  · rintro ⟨h1, h2⟩
    have hb : l.any badS = false := getD_any.2 fun j hj => by
      have := h2 j hj
      unfold goodS at this
      simp only [badS, Bool.or_eq_false_iff, decide_eq_false_iff_not]
      omega
    have hg : l.any ghostB = false := getD_any.2 fun j hj => by
      have := (h2 j hj).2.2.2.2
      simp only [ghostB, Bool.and_eq_false_iff, beq_eq_false_iff_ne, bne_eq_false_iff_eq]
      by_cases hp : (l.getD j default).place = 0
      · exact .inr (this hp)
      · exact .inl hp
    rw [checkM, if_neg (by omega), hb, hg]; rfl
theorem getD_set {α : Type} [Inhabited α] {l : List α} {k : Nat} {a : α} (j : Nat) (hk : k < l.length) : (l.set k a).getD j default = if j = k then a else l.getD j default := by
  by_cases h : j = k
  · subst h; rw [if_pos rfl, getD_set_self hk]
  · rw [if_neg h, List.getD_eq_getElem?_getD, List.getD_eq_getElem?_getD, List.getElem?_set_ne (fun e => h e.symm)]
theorem checkM_set {l : List Slot} {k : Nat} {a : Slot} (h : checkM l = 0) (ha : goodS a) (hk : k < l.length) : checkM (l.set k a) = 0 := by
  rw [checkM_zero] at h ⊢
  refine ⟨by simpa using h.1, fun j hj => ?_⟩
  rw [getD_set j hk]
  split
  · exact ha
  · exact h.2 j (by simpa using hj)
theorem alloc_ok {l : List Slot} (h : allocE l = 0) : checkM l = 0 ∧ l.any freeB = true := by
  unfold allocE at h
  split at h
  · split at h
    · exact ⟨by assumption, by assumption⟩
    · cases h
  · contradiction
theorem idxM_at {α : Type} [Inhabited α] {p : α → Bool} {l : List α} (h : l.any p = true) : p (l.getD (idxM p l).toNat default) = true := by
  have hlt := (idxM_lt h).2
  rw [getD_get hlt]
  rw [idxM, if_pos h] at hlt
  have := List.findIdx_getElem (p := p) (w := hlt)
  simpa [idxM, h] using this
theorem back_alloc {l : List Slot} (h : allocE l = 0) : withE (allocL l) (allocI l) relE = 0 ∧ withL (allocL l) (allocI l) relE relG = l := by
  obtain ⟨h1, h2⟩ := alloc_ok h
  have hi := idxM_lt h2
  have hf := idxM_at h2
  have hI : allocI l = idxM freeB l := by rw [allocI, if_pos ⟨h1, h2⟩]
  have hL : allocL l = l.set (idxM freeB l).toNat ⟨1, 0⟩ := by rw [allocL, if_pos ⟨h1, h2⟩]
  have hg : (l.set (idxM freeB l).toNat (⟨1, 0⟩ : Slot)).getD (idxM freeB l).toNat default = ⟨1, 0⟩ := getD_set_self hi.2
  have hu : checkM (allocL l) = 0 ∧ inUse (allocL l) (allocI l) = true := by
    rw [hL, hI]
    refine ⟨checkM_set h1 (by decide) hi.2, inUse_iff.2 ⟨hi.1, ?_, ?_⟩⟩
    · rw [List.length_set]; omega
    · rw [hg]; decide
  refine ⟨by rw [withE_at hu, hL, hI, hg]; rfl, ?_⟩
  rw [withL_at hu (by rw [hL, hI, hg]; rfl), hL, hI, hg, List.set_set]
  have : l.getD (idxM freeB l).toNat default = (⟨0, 0⟩ : Slot) := by
    have hp : (l.getD (idxM freeB l).toNat default).place = 0 := by simpa [freeB] using hf
    exact slot_ext hp ((checkM_at h1 hi.2).2.2.2.2 hp)
  have h3 := set_self hi.2
  rw [this] at h3
  exact h3
theorem withE_ok {l : List Slot} {i : Int} {e : Slot → Int} (h : withE l i e = 0) : (checkM l = 0 ∧ inUse l i = true) ∧ e (l.getD i.toNat default) = 0 := by
  unfold withE at h
  split at h
  · split at h
    · exact ⟨⟨by assumption, by assumption⟩, h⟩
    · cases h
  · contradiction
theorem back_dup {l : List Slot} {i : Int} {held : Bool} (h : withE l i dupE = 0) (hc : ¬ (l.getD i.toNat default).count = 0) :
    withE (withL l i dupE dupG) i dropE = 0 ∧ dropF (withL l i dupE dupG) i held = false ∧ withL (withL l i dupE dupG) i dropE (dropG held) = l := by
  obtain ⟨hu, he⟩ := withE_ok h
  have hi := inUse_iff.1 hu.2
  have hlt : i.toNat < l.length := by omega
  have hb := checkM_at hu.1 hlt
  have hn : ¬ (l.getD i.toNat default).count = 1048576 := fun e => by rw [dupE, if_pos e] at he; cases he
  have hG : dupG (l.getD i.toNat default) = ⟨(l.getD i.toNat default).place, (l.getD i.toNat default).count + 1⟩ := by rw [dupG, if_neg hn]
  have hL := withL_at (G := dupG) hu he
  rw [hG] at hL
  rw [hL]
  generalize hm : l.set i.toNat (⟨(l.getD i.toNat default).place, (l.getD i.toNat default).count + 1⟩ : Slot) = m
  have hg : m.getD i.toNat default = ⟨(l.getD i.toNat default).place, (l.getD i.toNat default).count + 1⟩ := by rw [← hm]; exact getD_set_self hlt
  have hu' : checkM m = 0 ∧ inUse m i = true := by
    refine ⟨?_, inUse_iff.2 ⟨hi.1, ?_, ?_⟩⟩
    · rw [← hm]
      refine checkM_set hu.1 ?_ hlt
      refine ⟨by dsimp only; omega, by dsimp only; omega, by dsimp only; omega, by dsimp only; omega, fun h => absurd h hi.2.2⟩
    · rw [← hm, List.length_set]; exact hi.2.1
    · rw [hg]; exact hi.2.2
  have he' : dropE (m.getD i.toNat default) = 0 := by rw [dropE, if_neg]; rw [hg]; dsimp only; omega
  have hB : dropB held (m.getD i.toNat default) = false := by
    unfold dropB
    rw [hg, Bool.and_eq_false_iff, beq_eq_false_iff_ne]
    left; dsimp only; omega
  refine ⟨by rw [withE_at hu', he'], by rw [dropF, hu'.1, hu'.2, hB]; rfl, ?_⟩
  rw [withL_at hu' he', dropG, if_neg (by rw [hg]; dsimp only; omega), hB, if_neg Bool.false_ne_true, hg, ← hm, List.set_set]
  have h3 := set_self hlt
  have e : (⟨(l.getD i.toNat default).place, (l.getD i.toNat default).count + 1 - 1⟩ : Slot) = l.getD i.toNat default := slot_ext rfl (by dsimp only; omega)
  exact (congrArg _ e).trans h3
/-- k slots of which the first i are in use. -/
def fullL (k i : Nat) : List Slot := List.replicate i ⟨1, 0⟩ ++ List.replicate (k - i) ⟨0, 0⟩
theorem full_len {k i : Nat} (h : i ≤ k) : (fullL k i).length = k := by simp [fullL]; omega
theorem full_get {k i j : Nat} (hi : i ≤ k) (h : j < k) : (fullL k i).getD j default = if j < i then ⟨1, 0⟩ else ⟨0, 0⟩ := by
  rw [getD_get (by rw [full_len hi]; exact h)]
  simp only [fullL, List.getElem_append, List.length_replicate, List.getElem_replicate]
  split <;> rfl
theorem full_check {k i : Nat} (hi : i ≤ k) (hk : k ≤ 64) : checkM (fullL k i) = 0 := by
  rw [checkM_zero, full_len hi]
  refine ⟨hk, fun j hj => ?_⟩
  rw [full_get hi hj]
  split <;> decide
theorem full_used {k i : Nat} (hi : i ≤ k) (hk : k ≤ 64) : usedM (fullL k i) = (i : Int) := by
  rw [usedM, if_pos (full_check hi hk)]
  simp [fullL, List.countP_replicate, usedB]
theorem full_idx {k i : Nat} (hi : i < k) : idxM freeB (fullL k i) = (i : Int) := by
  refine idxM_some (by rw [full_len (by omega)]; exact hi) ?_ fun j hj => ?_
  · rw [full_get (by omega) hi, if_neg (by omega)]; rfl
  · rw [full_get (by omega) (by omega), if_pos hj]; rfl
theorem full_any {k i : Nat} (hi : i < k) : (fullL k i).any freeB = true := by
  rw [← idxM_ge, full_idx hi]; simp
theorem full_none (k : Nat) : (fullL k k).any freeB = false := getD_any.2 fun j hj => by
  rw [full_len (Nat.le_refl _)] at hj
  rw [full_get (Nat.le_refl _) hj, if_pos hj]; rfl
theorem full_alloc {k i : Nat} (hi : i < k) (hk : k ≤ 64) : allocE (fullL k i) = 0 ∧ allocI (fullL k i) = (i : Int) ∧ allocL (fullL k i) = fullL k (i + 1) := by
  have h1 := full_check (Nat.le_of_lt hi) hk
  have h2 := full_any hi
  refine ⟨by rw [allocE, if_pos h1, if_pos h2], by rw [allocI, if_pos ⟨h1, h2⟩, full_idx hi], ?_⟩
  rw [allocL, if_pos ⟨h1, h2⟩, full_idx hi]
  apply List.ext_getElem
  · rw [List.length_set, full_len (by omega), full_len (by omega)]
  intro j h3 h4
  have hjk : j < k := by rw [full_len (by omega)] at h4; exact h4
  rw [← getD_get h3, ← getD_get h4, getD_set _ (by rw [full_len (by omega)]; simp; omega), full_get (by omega) hjk, full_get (by omega) hjk]
  simp only [Int.toNat_natCast]
  by_cases h5 : j = i
  · rw [if_pos h5, if_pos (by omega)]
  · rw [if_neg h5]
    by_cases h6 : j < i
    · rw [if_pos h6, if_pos (by omega)]
    · rw [if_neg h6, if_neg (by omega)]
theorem full_full {k : Nat} (hk : k ≤ 64) : allocE (fullL k k) = 8 := by
  rw [allocE, if_pos (full_check (Nat.le_refl _) hk), full_none, if_neg Bool.false_ne_true]
theorem full_new {k : Nat} (hk : k ≤ 64) : newE (k : Int) = 0 ∧ newL (k : Int) = fullL k 0 := by
  refine ⟨by rw [newE, if_neg (by omega)], ?_⟩
  rw [newL, if_neg (by omega)]
  simp only [fullL, List.replicate_zero, List.nil_append, Nat.sub_zero, Int.toNat_natCast]; rfl
end Go.Proofs.Ytkkemgdklfaglaa
