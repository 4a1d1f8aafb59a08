/- When a machine is well-formed, in plain terms. No conditions. -/
import Derived.Test.YtinnkclemjognaaCowSpec
set_option linter.unusedSimpArgs false
set_option linter.unusedVariables false
namespace Go.Proofs.Ytinnkclemjognaa
open Go Go.RowKit
structure OkM (m : CW) : Prop where
  z1 : 1 ≤ m.z
  z2 : m.z ≤ 512
  s1 : 1 ≤ m.sp.length
  s2 : m.sp.length ≤ 8
  f1 : 1 ≤ m.fm.length
  f2 : m.fm.length ≤ 256
  c1 : 0 ≤ m.cp
  c2 : m.cp ≤ 1048576
  dead : ∀ i, (m.sp.getD i default).lv = false → (m.sp.getD i default).pg = []
  live : ∀ i, (m.sp.getD i default).lv = true → ((m.sp.getD i default).pg.length : Int) = m.z
  pg : ∀ x ∈ allPg m, -1 ≤ x.fr ∧ x.fr < m.fm.length ∧ (x.fr = -1 → x.wr = false)
  ct : ∀ i, i < m.fm.length → (m.fm.getD i default).ct = shC (allPg m) i
  wd : ∀ i, i < m.fm.length → (m.fm.getD i default).ct = 0 → (m.fm.getD i default).wd = 0
  wr : ∀ x ∈ allPg m, x.wr = true → shC (allPg m) x.fr.toNat = 1
theorem mem_getD' {α : Type} [Inhabited α] {l : List α} {i : Nat} (hi : i < l.length) : l.getD i default ∈ l := by
  rw [List.getD_eq_getElem?_getD, List.getElem?_eq_getElem hi]; exact List.getElem_mem hi
theorem mem_ex {α : Type} [Inhabited α] {l : List α} {a : α} (h : a ∈ l) : ∃ i, i < l.length ∧ l.getD i default = a := by
  obtain ⟨i, hi, rfl⟩ := List.getElem_of_mem h
  exact ⟨i, hi, by rw [List.getD_eq_getElem?_getD, List.getElem?_eq_getElem hi]; rfl⟩
theorem pgOk_iff {n : Nat} {x : PG} : pgOk n x = true ↔ -1 ≤ x.fr ∧ x.fr < n ∧ (x.fr = -1 → x.wr = false) := by
  unfold pgOk
  by_cases h1 : x.fr < -1
  · simp [h1]; omega
  · by_cases h2 : (n : Int) ≤ x.fr
    · simp [h2]; omega
    · by_cases h3 : x.fr = -1
      · simp [h3] <;> omega
      · simp [h1, h3] <;> omega
theorem spOk_iff {m : CW} {s : CS} : spOk m s = true ↔ (s.lv = false → s.pg = []) ∧ (s.lv = true → (s.pg.length : Int) = m.z) ∧ ∀ x ∈ s.pg, pgOk m.fm.length x = true := by
  unfold spOk
  rw [Bool.and_eq_true, List.all_eq_true]
  cases s.lv
  · simp only [Bool.not_false, Bool.true_and, Bool.false_and, Bool.or_false, Bool.not_eq_true', decide_eq_false_iff_not, true_implies, reduceCtorEq, false_implies, true_and]
    refine and_congr_left' ?_
    rw [← List.length_eq_zero_iff]
    omega
  · simp
theorem range_any {n : Nat} {p : Nat → Bool} : (List.range n).any p = true ↔ ∃ i, i < n ∧ p i = true := by
  rw [List.any_eq_true]
  constructor
  · rintro ⟨i, hi, hp⟩; exact ⟨i, List.mem_range.1 hi, hp⟩
  · rintro ⟨i, hi, hp⟩; exact ⟨i, List.mem_range.2 hi, hp⟩
theorem range_any_false {n : Nat} {p : Nat → Bool} : (List.range n).any p = false ↔ ∀ i, i < n → p i = false := by
  rw [← Bool.not_eq_true, range_any]
  constructor
  · intro h i hi
    cases hp : p i
    · rfl
    · exact absurd ⟨i, hi, hp⟩ h
  · rintro h ⟨i, hi, hp⟩
    rw [h i hi] at hp; cases hp
theorem wrC_iff {q : List PG} {i : Nat} : wrC q i = true ↔ ∃ x ∈ q, x.fr = i ∧ x.wr = true := by
  unfold wrC
  rw [List.any_eq_true]
  simp
theorem mem_allPg {m : CW} {x : PG} : x ∈ allPg m ↔ ∃ i, i < m.sp.length ∧ x ∈ (m.sp.getD i default).pg := by
  unfold allPg
  rw [List.mem_flatMap]
  constructor
  · rintro ⟨s, hs, hx⟩
    obtain ⟨i, hi, rfl⟩ := mem_ex hs
    exact ⟨i, hi, hx⟩
  · rintro ⟨i, hi, hx⟩
    exact ⟨_, mem_getD' hi, hx⟩
theorem chk_ok {m : CW} : chkC m = 0 ↔ OkM m := by
  unfold chkC
  constructor
  · intro h
    split at h
    · cases h
    rename_i hrg
    split at h
    · cases h
    rename_i hsp
    split at h
    · cases h
    rename_i hfm
    split at h
    · cases h
    rename_i hwr
    simp only [Bool.not_eq_false, Bool.not_eq_true] at hrg hsp hfm hwr
    have hr := of_decide_eq_true hrg
    have hs : ∀ i, i < m.sp.length → _ := fun i hi => spOk_iff.1 (List.all_eq_true.1 hsp _ (mem_getD' hi))
    have hpg : ∀ x ∈ allPg m, -1 ≤ x.fr ∧ x.fr < m.fm.length ∧ (x.fr = -1 → x.wr = false) := fun x hx => by
      obtain ⟨i, hi, hx⟩ := mem_allPg.1 hx
      exact pgOk_iff.1 ((hs i hi).2.2 x hx)
    rw [range_any_false] at hfm hwr
    refine ⟨hr.1, hr.2.1, hr.2.2.1, hr.2.2.2.1, hr.2.2.2.2.1, hr.2.2.2.2.2.1, hr.2.2.2.2.2.2.1, hr.2.2.2.2.2.2.2, fun i h => ?_, fun i h => ?_, hpg, fun i hi => ?_, fun i hi h => ?_, fun x hx h => ?_⟩
    · rcases Nat.lt_or_ge i m.sp.length with hi | hi
      · exact (hs i hi).1 h
      · rw [getD_none hi]; rfl
    · rcases Nat.lt_or_ge i m.sp.length with hi | hi
      · exact (hs i hi).2.1 h
      · rw [getD_none hi] at h; cases h
    · have := hfm i hi
      unfold fmBad at this
      rw [Bool.or_eq_false_iff] at this
      simpa using this.1
    · have := hfm i hi
      unfold fmBad at this
      rw [Bool.or_eq_false_iff] at this
      rcases Bool.and_eq_false_iff.1 this.2 with h' | h'
      · exact absurd h (beq_eq_false_iff_ne.1 h')
      · exact bne_eq_false_iff_eq.1 h'
    · have h1 := hpg x hx
      have h2 : ¬ x.fr = -1 := fun e => by rw [h1.2.2 e] at h; cases h
      have := hwr x.fr.toNat (by omega)
      unfold wrBad at this
      rw [wrC_iff.2 ⟨x, hx, by omega, h⟩] at this
      simp at this
      omega
  · intro h
    rw [if_neg, if_neg, if_neg, if_neg]
    · rw [Bool.not_eq_true, range_any_false]
      intro i hi
      unfold wrBad
      cases hw : wrC (allPg m) i
      · rfl
      · obtain ⟨x, hx, h1, h2⟩ := wrC_iff.1 hw
        have := h.wr x hx h2
        rw [h1] at this
        simp at this
        simp [this]
    · rw [Bool.not_eq_true, range_any_false]
      intro i hi
      unfold fmBad
      rw [Bool.or_eq_false_iff]
      refine ⟨bne_eq_false_iff_eq.2 (h.ct i hi), Bool.and_eq_false_iff.2 ?_⟩
      by_cases hc : (m.fm.getD i default).ct = 0
      · exact .inr (bne_eq_false_iff_eq.2 (h.wd i hi hc))
      · exact .inl (beq_eq_false_iff_ne.2 hc)
    · rw [Bool.not_eq_false, List.all_eq_true]
      intro s hs
      obtain ⟨i, hi, rfl⟩ := mem_ex hs
      exact spOk_iff.2 ⟨h.dead i, h.live i, fun x hx => pgOk_iff.2 (h.pg x (mem_allPg.2 ⟨i, hi, hx⟩))⟩
    · rw [Bool.not_eq_false]
      exact decide_eq_true ⟨h.z1, h.z2, h.s1, h.s2, h.f1, h.f2, h.c1, h.c2⟩
theorem flat_len {sp : List CS} {n : Nat} (h : ∀ s ∈ sp, s.pg.length ≤ n) : (sp.flatMap (·.pg)).length ≤ sp.length * n := by
  induction sp with
  | nil => simp
  | cons a l ih =>
    rw [List.flatMap_cons, List.length_append, List.length_cons, Nat.add_mul]
    have := ih fun s hs => h s (List.mem_cons_of_mem _ hs)
    have := h a List.mem_cons_self
    omega
section
variable {m : CW} (h : OkM m)
include h
theorem OkM.plen (i : Nat) : (m.sp.getD i default).pg.length ≤ 512 := by
  have h1 := h.dead i
  have h2 := h.live i
  have h3 := h.z2
  cases hl : (m.sp.getD i default).lv
  · rw [h1 hl]; simp
  · have := h2 hl; omega
theorem OkM.alen : (allPg m).length ≤ 4096 := by
  have := flat_len (sp := m.sp) (n := 512) fun s hs => by
    obtain ⟨i, _, rfl⟩ := mem_ex hs
    exact h.plen i
  have h2 := h.s2
  have : m.sp.length * 512 ≤ 8 * 512 := Nat.mul_le_mul_right _ h2
  unfold allPg
  omega
theorem OkM.ctb {i : Nat} (hi : i < m.fm.length) : 0 ≤ (m.fm.getD i default).ct ∧ (m.fm.getD i default).ct ≤ 4096 := by
  rw [h.ct i hi]
  have : shC (allPg m) i ≤ (allPg m).length := List.countP_le_length
  have := h.alen
  omega
theorem OkM.ctb' (i : Nat) : 0 ≤ (m.fm.getD i default).ct ∧ (m.fm.getD i default).ct ≤ 4096 := by
  rcases Nat.lt_or_ge i m.fm.length with hi | hi
  · exact h.ctb hi
  · rw [getD_none hi]; decide
/-- A page of a space. -/
theorem OkM.at_ {i j : Nat} (hj : j < (m.sp.getD i default).pg.length) : -1 ≤ (pgAt m i j).fr ∧ (pgAt m i j).fr < m.fm.length ∧ ((pgAt m i j).fr = -1 → (pgAt m i j).wr = false) := by
  refine h.pg _ (mem_allPg.2 ⟨i, ?_, mem_getD' hj⟩)
  rcases Nat.lt_or_ge i m.sp.length with hi | hi
  · exact hi
  · rw [getD_none hi] at hj; cases hj
theorem OkM.shown {x : PG} (hx : x ∈ allPg m) (h0 : 0 ≤ x.fr) : 1 ≤ (frAt m.fm x.fr).ct := by
  have h1 := h.pg x hx
  unfold frAt
  rw [h.ct _ (by omega)]
  have : 0 < shC (allPg m) x.fr.toNat := by
    unfold shC
    exact List.countP_pos_iff.2 ⟨x, hx, by simp; omega⟩
  omega
end
theorem live_ok {m : CW} {s : Int} (h : liveE m s = 0) : OkM m ∧ 0 ≤ s ∧ s.toNat < m.sp.length ∧ (m.sp.getD s.toNat default).lv = true ∧ ((m.sp.getD s.toNat default).pg.length : Int) = m.z := by
  unfold liveE at h
  split at h
  · rename_i hc; exact absurd h hc
  · rename_i hc
    split at h
    · cases h
    · rename_i hd
      have ho := chk_ok.1 (Decidable.not_not.1 hc)
      have hl : (m.sp.getD s.toNat default).lv = true := by
        cases hb : (m.sp.getD s.toNat default).lv
        · exact absurd (.inr (.inr hb)) hd
        · rfl
      exact ⟨ho, by omega, by omega, hl, ho.live _ hl⟩
theorem at_ok {m : CW} {s p : Int} (h : atE m s p = 0) : liveE m s = 0 ∧ OkM m ∧ 0 ≤ s ∧ s.toNat < m.sp.length ∧ (m.sp.getD s.toNat default).lv = true ∧ ((m.sp.getD s.toNat default).pg.length : Int) = m.z ∧ 0 ≤ p ∧ p < m.z ∧ p.toNat < (m.sp.getD s.toNat default).pg.length := by
  unfold atE at h
  split at h
  · rename_i hc; exact absurd h hc
  · rename_i hc
    split at h
    · cases h
    · have hc := Decidable.not_not.1 hc
      obtain ⟨h1, h2, h3, h4, h5⟩ := live_ok hc
      exact ⟨hc, h1, h2, h3, h4, h5, by omega, by omega, by omega⟩
end Go.Proofs.Ytinnkclemjognaa
