/- Counts of all frames; with enough frames no write is refused; a space whose children are gone. No conditions. -/
import Derived.Test.YtinnkclemjognaaCowLaws2
set_option linter.unusedSimpArgs false
set_option linter.unusedVariables false
namespace Go.Proofs.Ytinnkclemjognaa
open Go Go.RowKit
def sumN (f : Nat → Nat) : Nat → Nat
  | 0 => 0
  | n + 1 => sumN f n + f n
theorem sumN_congr {f g : Nat → Nat} : ∀ {n : Nat}, (∀ i, i < n → f i = g i) → sumN f n = sumN g n
  | 0, _ => rfl
  | n + 1, h => by rw [sumN, sumN, sumN_congr fun i hi => h i (by omega), h n (by omega)]
theorem sumN_ge {f : Nat → Nat} : ∀ {n : Nat}, (∀ i, i < n → 1 ≤ f i) → n ≤ sumN f n
  | 0, _ => Nat.le_refl _
  | n + 1, h => by
    have := sumN_ge (n := n) fun i hi => h i (by omega)
    have := h n (by omega)
    rw [sumN]; omega
theorem sumN_gt {f : Nat → Nat} : ∀ {n j : Nat}, (∀ i, i < n → 1 ≤ f i) → j < n → 2 ≤ f j → n < sumN f n
  | 0, _, _, hj, _ => by cases hj
  | n + 1, j, h, hj, h2 => by
    rw [sumN]
    have h3 := h n (by omega)
    by_cases e : j = n
    · subst e
      have := sumN_ge (n := j) fun i hi => h i (by omega)
      omega
    · have := sumN_gt (n := n) (j := j) (fun i hi => h i (by omega)) (by omega) h2
      omega
theorem sumN_zero : ∀ n, sumN (fun _ => 0) n = 0
  | 0 => rfl
  | n + 1 => by rw [sumN, sumN_zero n]
theorem sumN_one {k : Int} : ∀ {n : Nat}, sumN (fun i => if k = (i : Int) then 1 else 0) n = if 0 ≤ k ∧ k < n then 1 else 0
  | 0 => by rw [if_neg (by omega)]; rfl
  | n + 1 => by
    rw [sumN, sumN_one (n := n)]
    by_cases h : k = (n : Int)
    · rw [if_pos h, if_neg (by omega), if_pos (by omega)]
    · rw [if_neg h]
      by_cases h2 : 0 ≤ k ∧ k < (n : Int)
      · rw [if_pos h2, if_pos (by omega)]
      · rw [if_neg h2, if_neg (by omega)]
theorem sumN_add {f g : Nat → Nat} : ∀ {n : Nat}, sumN (fun i => f i + g i) n = sumN f n + sumN g n
  | 0 => rfl
  | n + 1 => by rw [sumN, sumN, sumN, sumN_add (n := n)]; omega
def shownN (q : List PG) : Nat := q.countP fun x => decide (0 ≤ x.fr)
theorem sum_show {n : Nat} : ∀ {q : List PG}, (∀ x ∈ q, x.fr < (n : Int)) → sumN (shC q) n = shownN q
  | [], _ => sumN_zero n
  | x :: q, h => by
    have e : sumN (shC (x :: q)) n = sumN (fun i => (if x.fr = (i : Int) then 1 else 0) + shC q i) n := sumN_congr fun i _ => shC_cons x q i
    rw [e, sumN_add, sumN_one, sum_show fun y hy => h y (List.mem_cons_of_mem _ hy)]
    unfold shownN
    rw [List.countP_cons]
    have := h x List.mem_cons_self
    by_cases h0 : 0 ≤ x.fr
    · rw [if_pos ⟨h0, this⟩, if_pos (decide_eq_true h0)]; omega
    · rw [if_neg fun e => h0 e.1, if_neg (by simpa using h0)]; omega
section
variable {m : CW} (h : OkM m)
include h
theorem OkM.ctn {i : Nat} (hi : i < m.fm.length) : ((m.fm.getD i default).ct.toNat : Int) = (m.fm.getD i default).ct := by have := h.ctb hi; omega
theorem OkM.sum_ct : sumN (fun i => (m.fm.getD i default).ct.toNat) m.fm.length = shownN (allPg m) := by
  rw [← sum_show (n := m.fm.length) fun x hx => (h.pg x hx).2.1]
  refine sumN_congr fun i hi => ?_
  rw [h.ct i hi]
  rfl
theorem OkM.all_le : ((allPg m).length : Int) ≤ m.sp.length * m.z := by
  have := flat_len (sp := m.sp) (n := m.z.toNat) fun s hs => by
    obtain ⟨i, hi, rfl⟩ := mem_ex hs
    cases hl : (m.sp.getD i default).lv
    · rw [h.dead i hl]; simp
    · have := h.live i hl; omega
  have hz := h.z1
  have e : (m.sp.length : Int) * m.z = ((m.sp.length * m.z.toNat : Nat) : Int) := by
    rw [Int.natCast_mul]
    congr 1
    omega
  rw [e]
  unfold allPg
  omega
theorem room_ok {s p : Nat} {w : Int} (hr : 8 * m.z ≤ (m.fm.length : Int)) (hs : s < m.sp.length) (hp : p < (m.sp.getD s default).pg.length) : (writeG m s p w).2 = 0 := by
  rcases wr_two m s p w with e | e
  · exact e
  exfalso
  have hb := h.pgb hp
  unfold writeG at e
  split at e
  · rename_i hc
    split at e
    · rename_i hf
      have h1 := free_no hf
      have h2 : ∀ i, i < m.fm.length → 1 ≤ (m.fm.getD i default).ct.toNat := fun i hi => by
        have := h1 i hi
        have := (h.ctb hi).1
        omega
      have h3 := h.sum_ct
      have h4 := h.all_le
      have h5 := h.s2
      have h6 := h.z1
      have h7 : (m.sp.length : Int) * m.z ≤ 8 * m.z := Int.mul_le_mul_of_nonneg_right (by omega) (by omega)
      have h8 : shownN (allPg m) ≤ (allPg m).length := List.countP_le_length
      have hm : pgAt m s p ∈ allPg m := mem_allPg.2 ⟨s, hs, mem_getD' hp⟩
      by_cases h0 : 0 ≤ (pgAt m s p).fr
      · have h9 : 1 < (frAt m.fm (pgAt m s p).fr).ct := by omega
        unfold frAt at h9
        have := sumN_gt (j := (pgAt m s p).fr.toNat) h2 (by omega) (by omega)
        omega
      · have h9 := sumN_ge h2
        have h10 : shownN (allPg m) < (allPg m).length := by
          rcases Nat.lt_or_ge (shownN (allPg m)) (allPg m).length with h' | h'
          · exact h'
          · have := List.countP_eq_length.1 (Nat.le_antisymm h8 h') _ hm
            exact absurd (of_decide_eq_true this) h0
        omega
    · exact absurd (congrArg Prod.snd e) (by simp)
  · exact absurd (congrArg Prod.snd e) (by simp)
omit h in
theorem writeG_keep {s p : Nat} {w : Int} (he : (writeG m s p w).2 = 0) : (writeG m s p w).1.z = m.z ∧ (writeG m s p w).1.fm.length = m.fm.length ∧ (writeG m s p w).1.sp.length = m.sp.length := by
  unfold writeG at he ⊢
  split at he
  · rename_i h1
    rw [if_pos h1]
    split at he
    · cases he
    · rename_i h2
      rw [if_neg h2]
      refine ⟨rfl, ?_, List.length_set ..⟩
      show ((decF m.fm _).set _ _).length = _
      rw [List.length_set]
      unfold decF
      split <;> simp
  · rename_i h1
    rw [if_neg h1]
    exact ⟨rfl, List.length_set .., List.length_set ..⟩
/-- What an operation without an error leaves. -/
theorem play_keep (o : OP) (he : (playM m o).2.2 = 0) : OkM (playM m o).1 ∧ (playM m o).1.z = m.z ∧ (playM m o).1.fm.length = m.fm.length := by
  unfold playM at he ⊢
  split at he
  · rename_i hk0
    rw [if_pos hk0]
    simp only at he ⊢
    unfold writeM at he ⊢
    split at he
    · rename_i hk; exact absurd he hk
    · rename_i hk
      rw [if_neg hk]
      obtain ⟨h1, h2, h3, h4, h5, h6, h7, h8, h9⟩ := at_ok (Decidable.not_not.1 hk)
      have := writeG_keep he
      exact ⟨write_ok h h4 h9 he, this.1, this.2.1⟩
  · rename_i hk0
    rw [if_neg hk0]
    split at he
    · rename_i hk1
      rw [if_pos hk1]
      unfold forkM at he ⊢
      split at he
      · rename_i hk; exact absurd he hk
      · rename_i hk
        rw [if_neg hk]
        obtain ⟨h1, h2, h3, h4, h5⟩ := live_ok (Decidable.not_not.1 hk)
        split at he
        · cases he
        · rename_i h8
          rw [if_neg h8]
          exact ⟨fork_ok h h3 h4 (by omega), rfl, (inc_fold _ m.fm (fun y hy => (h.bnd h3 hy).2.1)).1⟩
    · rename_i hk1
      rw [if_neg hk1]
      split at he
      · rename_i hk2
        rw [if_pos hk2]
        simp only at he ⊢
        unfold unmM at he ⊢
        split at he
        · rename_i hk; exact absurd he hk
        · rename_i hk
          rw [if_neg hk]
          obtain ⟨h1, h2, h3, h4, h5, h6, h7, h8, h9⟩ := at_ok (Decidable.not_not.1 hk)
          refine ⟨unm_ok h h4 h9, rfl, ?_⟩
          show (clrF _ _).length = _
          unfold clrF
          split <;> simp
      · rename_i hk2
        rw [if_neg hk2]
        split at he
        · rename_i hk3
          rw [if_pos hk3]
          simp only at he ⊢
          unfold exitM at he ⊢
          split at he
          · rename_i hk; exact absurd he hk
          · rename_i hk
            rw [if_neg hk]
            obtain ⟨h1, h2, h3, h4, h5⟩ := live_ok (Decidable.not_not.1 hk)
            exact ⟨exit_ok h h3, rfl, (clr_fold _ m.fm (fun y hy => (h.bnd h3 hy).2.1) (fun i hi => by rw [h.cnt h3 hi]; omega) h.wd).1⟩
        · rename_i hk3
          rw [if_neg hk3]
          exact ⟨h, rfl, rfl⟩
theorem play_room (o : OP) (hr : 8 * m.z ≤ (m.fm.length : Int)) : (playM m o).2.2 ≠ 16 := by
  have hlv : ∀ s, liveE m s ≠ 16 := fun s => by
    unfold liveE
    rw [if_neg (by simp [chk_ok.2 h])]
    split <;> decide
  have hat : ∀ s p, atE m s p ≠ 16 := fun s p => by
    unfold atE
    split
    · exact hlv s
    · split <;> decide
  unfold playM
  split
  · simp only
    unfold writeM
    split
    · exact hat _ _
    · rename_i hk
      obtain ⟨h1, h2, h3, h4, h5, h6, h7, h8, h9⟩ := at_ok (Decidable.not_not.1 hk)
      rw [room_ok h hr h4 h9]
      decide
  · split
    · unfold forkM
      split
      · exact hlv _
      · split <;> simp
    · split
      · simp only
        unfold unmM
        split
        · exact hat _ _
        · simp
      · split
        · simp only
          unfold exitM
          split
          · exact hlv _
          · simp
        · simp only
          unfold readM
          split
          · exact hat _ _
          · split <;> simp
end
end Go.Proofs.Ytinnkclemjognaa
