/- One operation of a script, plain: when it is possible, and what it leaves of machine and model. No conditions. -/
import Derived.Test.YtinnkclemjognaaCowLook
set_option linter.unusedSimpArgs false
set_option linter.unusedVariables false
namespace Go.Proofs.Ytinnkclemjognaa
open Go Go.RowKit
def possW (W : WM) (o : OP) : Bool := hasW W o.s 0 && ((o.kd == 1 || o.kd == 3) || hasW W o.s o.p) && (o.kd != 1 || decide ((W.lv.length : Int) < 8))
section
variable {m : CW} {W : WM} {φ : Nat → Int} (h : Inv m W φ)
include h
theorem live_has {s : Int} : hasW W s 0 = true ↔ liveE m s = 0 := by
  unfold hasW liveE
  rw [if_neg (by simp [chk_ok.2 h.ok]), decide_eq_true_eq]
  have h1 := h.l1
  have h2 := h.lv s.toNat
  have h3 := h.r2 s.toNat
  have h4 := h.ok.live s.toNat
  have h5 := h.ok.z1
  constructor
  · rintro ⟨a, b, c, d, e⟩
    rw [if_neg]
    rintro (x | x | x)
    · omega
    · omega
    · rw [h2, x] at c; cases c
  · intro e
    split at e
    · cases e
    · rename_i hn
      have hl : (m.sp.getD s.toNat default).lv = true := by
        cases hx : (m.sp.getD s.toNat default).lv
        · exact absurd (.inr (.inr hx)) hn
        · rfl
      have := h3 hl
      have := h4 hl
      refine ⟨by omega, by omega, by rw [h2, hl], by omega, by omega⟩
theorem at_has {s p : Int} : hasW W s p = true ↔ atE m s p = 0 := by
  have hh := live_has h (s := s)
  have h2 := h.lv s.toNat
  have h3 := h.r2 s.toNat
  have h4 := h.ok.live s.toNat
  have hz := h.ok.z1
  unfold atE
  constructor
  · intro e
    have e0 : hasW W s 0 = true := by
      unfold hasW at e ⊢
      rw [decide_eq_true_eq] at e ⊢
      exact ⟨e.1, e.2.1, e.2.2.1, by omega, by omega⟩
    have e1 := hh.1 e0
    rw [if_neg fun x => x e1]
    unfold hasW at e
    rw [decide_eq_true_eq] at e
    have hl : (m.sp.getD s.toNat default).lv = true := by rw [← h2]; exact e.2.2.1
    have := h3 hl
    have := h4 hl
    rw [if_neg (by omega)]
  · intro e
    split at e
    · rename_i hn; exact absurd e hn
    · rename_i hn
      split at e
      · cases e
      · have e1 : liveE m s = 0 := by omega
        have e0 := hh.2 e1
        unfold hasW at e0 ⊢
        rw [decide_eq_true_eq] at e0 ⊢
        have hl : (m.sp.getD s.toNat default).lv = true := by rw [← h2]; exact e0.2.2.1
        have := h3 hl
        have := h4 hl
        exact ⟨e0.1, e0.2.1, e0.2.2.1, by omega, by omega⟩
omit h in
theorem has_zero {s p : Int} (e : hasW W s p = true) : hasW W s 0 = true := by
  unfold hasW at e ⊢
  rw [decide_eq_true_eq] at e ⊢
  exact ⟨e.1, e.2.1, e.2.2.1, by omega, by omega⟩
theorem live_val (s : Int) : liveE m s = 0 ∨ liveE m s = 6 := by
  unfold liveE
  rw [if_neg (by simp [chk_ok.2 h.ok])]
  split
  · exact .inr rfl
  · exact .inl rfl
theorem at_val (s p : Int) : atE m s p = 0 ∨ atE m s p = 6 ∨ atE m s p = 2 := by
  have := live_val h s
  unfold atE
  split
  · omega
  · split
    · exact .inr (.inr rfl)
    · exact .inl rfl
/-- What a space and a page that are there have in the machine. -/
theorem has_at_ {s p : Int} (e : hasW W s p = true) : 0 ≤ s ∧ s.toNat < W.lv.length ∧ (m.sp.getD s.toNat default).lv = true ∧ 0 ≤ p ∧ p.toNat < (m.sp.getD s.toNat default).pg.length ∧ p.toNat < (W.ws.getD s.toNat default).length ∧ p.toNat < (W.ids.getD s.toNat default).length := by
  unfold hasW at e
  rw [decide_eq_true_eq] at e
  have hl : (m.sp.getD s.toNat default).lv = true := by rw [← h.lv]; exact e.2.2.1
  have := h.r2 _ hl
  have := h.r3 _ hl
  exact ⟨e.1, by omega, hl, by omega, by omega, by omega, by omega⟩
theorem poss_eq {o : OP} (hk : 0 ≤ o.kd ∧ o.kd ≤ 3) : possW W o = true ↔ ((o.kd = 0 ∨ o.kd = 2) ∧ atE m o.s o.p = 0) ∨ (o.kd = 1 ∧ liveE m o.s = 0 ∧ m.sp.length < 8) ∨ (o.kd = 3 ∧ liveE m o.s = 0) := by
  have h1 := live_has h (s := o.s)
  have h2 := at_has h (s := o.s) (p := o.p)
  have h3 := fun e => has_zero (W := W) (s := o.s) (p := o.p) e
  have h4 := h.l1
  unfold possW
  simp only [Bool.and_eq_true, Bool.or_eq_true, beq_iff_eq, bne_iff_ne, decide_eq_true_eq]
  rw [h1, h2]
  rw [h1, h2] at h3
  constructor
  · rintro ⟨⟨a, b⟩, c⟩
    rcases b with (b | b) | b
    · refine .inr (.inl ⟨b, a, ?_⟩)
      rcases c with c | c
      · exact absurd b c
      · omega
    · exact .inr (.inr ⟨b, a⟩)
    · by_cases e1 : o.kd = 1
      · refine .inr (.inl ⟨e1, a, ?_⟩)
        rcases c with c | c
        · exact absurd e1 c
        · omega
      · by_cases e3 : o.kd = 3
        · exact .inr (.inr ⟨e3, a⟩)
        · exact .inl ⟨by omega, b⟩
  · rintro (⟨a, b⟩ | ⟨a, b, c⟩ | ⟨a, b⟩)
    · exact ⟨⟨h3 b, .inr b⟩, .inl (by omega)⟩
    · exact ⟨⟨b, .inl (.inl a)⟩, .inr (by omega)⟩
    · exact ⟨⟨b, .inl (.inr a)⟩, .inl (by omega)⟩
theorem step_err {o : OP} (hk : 0 ≤ o.kd ∧ o.kd ≤ 3) (hn : ¬ ((playM m o).2.2 = 16 ∧ o.kd = 0 ∧ possW W o = true)) : possW W o = true ↔ (playM m o).2.2 = 0 := by
  have hp := poss_eq h hk
  have ha := at_val h o.s o.p
  have hl := live_val h o.s
  rw [hp] at hn ⊢
  unfold playM at hn ⊢
  by_cases k0 : o.kd = 0
  · rw [if_pos k0] at hn ⊢
    unfold writeM at hn ⊢
    by_cases e : atE m o.s o.p = 0
    · rw [if_neg fun x => x e] at hn ⊢
      have : (writeG m o.s.toNat o.p.toNat o.w).2 = 0 ∨ (writeG m o.s.toNat o.p.toNat o.w).2 = 16 := by
        rcases wr_two m o.s.toNat o.p.toNat o.w with x | x
        · exact .inl x
        · rw [x]; exact .inr rfl
      simp only at hn ⊢
      omega
    · rw [if_pos e] at hn ⊢
      simp only at hn ⊢
      omega
  · rw [if_neg k0] at hn ⊢
    by_cases k1 : o.kd = 1
    · rw [if_pos k1] at hn ⊢
      unfold forkM at hn ⊢
      by_cases e : liveE m o.s = 0
      · rw [if_neg fun x => x e] at hn ⊢
        by_cases e8 : 8 ≤ m.sp.length
        · rw [if_pos e8] at hn ⊢; simp only at hn ⊢; omega
        · rw [if_neg e8]; exact ⟨fun _ => rfl, fun _ => .inr (.inl ⟨k1, e, by omega⟩)⟩
      · rw [if_pos e] at hn ⊢; simp only at hn ⊢; omega
    · rw [if_neg k1] at hn ⊢
      by_cases k2 : o.kd = 2
      · rw [if_pos k2] at hn ⊢
        unfold unmM at hn ⊢
        by_cases e : atE m o.s o.p = 0
        · rw [if_neg fun x => x e]; exact ⟨fun _ => rfl, fun _ => .inl ⟨.inr k2, e⟩⟩
        · rw [if_pos e] at hn ⊢; simp only at hn ⊢; omega
      · rw [if_neg k2, if_pos (show o.kd = 3 by omega)] at hn ⊢
        unfold exitM at hn ⊢
        by_cases e : liveE m o.s = 0
        · rw [if_neg fun x => x e]; exact ⟨fun _ => rfl, fun _ => .inr (.inr ⟨by omega, e⟩)⟩
        · rw [if_pos e] at hn ⊢; simp only at hn ⊢; omega
theorem step_full {o : OP} (h16 : (playM m o).2.2 = 16) (h0 : o.kd = 0) (hp : possW W o = true) : hasW W o.s o.p = true ∧ usedW W = m.fm.length ∧ ¬ (0 < idAt W o.s.toNat o.p.toNat ∧ sharesW W (idAt W o.s.toNat o.p.toNat) = 1) := by
  have hk := poss_eq h (o := o) (by omega)
  have ha : atE m o.s o.p = 0 := by
    rcases hk.1 hp with a | a | a
    · exact a.2
    · omega
    · omega
  have hh := (at_has h).2 ha
  refine ⟨hh, ?_⟩
  obtain ⟨a1, a2, a3, a4, a5, _⟩ := has_at_ h hh
  unfold playM at h16
  rw [if_pos h0] at h16
  unfold writeM at h16
  rw [if_neg fun x => x ha] at h16
  exact full_used h a3 a5 h16
/-- What do_c asks. -/
theorem step_do {o : OP} (hk : 0 ≤ o.kd ∧ o.kd ≤ 3) (hp : possW W o = true) : (0 ≤ o.s ∧ o.s.toNat < W.lv.length) ∧ ((o.kd = 0 ∨ o.kd = 2) → 0 ≤ o.p ∧ o.p.toNat < (W.ids.getD o.s.toNat default).length ∧ o.p.toNat < (W.ws.getD o.s.toNat default).length) := by
  have h0 : hasW W o.s 0 = true := by
    unfold possW at hp
    simp only [Bool.and_eq_true] at hp
    exact hp.1.1
  obtain ⟨a1, a2, _⟩ := has_at_ h h0
  refine ⟨⟨a1, a2⟩, fun h02 => ?_⟩
  have ha : atE m o.s o.p = 0 := by
    rcases (poss_eq h hk).1 hp with a | a | a
    · exact a.2
    · omega
    · omega
  obtain ⟨_, _, _, b4, _, b6, b7⟩ := has_at_ h ((at_has h).2 ha)
  exact ⟨b4, b7, b6⟩
theorem step_inv {o : OP} (hk : 0 ≤ o.kd ∧ o.kd ≤ 3) (hp : possW W o = true) (he : (playM m o).2.2 = 0) (hcp : m.cp < 1048576) :
    (∃ φ', Inv (playM m o).1 (doW W o).1 φ') ∧ (playM m o).1.cp = m.cp + (bit (doW W o).2 : Int) ∧ (playM m o).1.fm.length = m.fm.length := by
  have hkp := play_keep h.ok o he
  refine ⟨?_, ?_, hkp.2.2⟩ <;> have hq := (poss_eq h hk).1 hp
  · unfold playM at he ⊢
    unfold doW
    by_cases k0 : o.kd = 0
    · rw [if_pos k0] at he ⊢
      rw [if_pos k0]
      have ha : atE m o.s o.p = 0 := by omega
      obtain ⟨a1, a2, a3, a4, a5, _⟩ := has_at_ h ((at_has h).2 ha)
      unfold writeM at he ⊢
      rw [if_neg fun x => x ha] at he ⊢
      exact (inv_write h a3 a5 he).1
    · rw [if_neg k0] at he ⊢
      rw [if_neg k0]
      by_cases k1 : o.kd = 1
      · rw [if_pos k1] at he ⊢
        rw [if_pos k1]
        have hl : liveE m o.s = 0 := by omega
        have h8 : m.sp.length < 8 := by omega
        obtain ⟨a1, a2, a3, _⟩ := has_at_ h ((live_has h).2 hl)
        unfold forkM at he ⊢
        rw [if_neg fun x => x hl, if_neg (by omega)] at he ⊢
        exact ⟨_, inv_fork h a3 h8⟩
      · rw [if_neg k1] at he ⊢
        rw [if_neg k1]
        by_cases k2 : o.kd = 2
        · rw [if_pos k2] at he ⊢
          rw [if_pos k2]
          have ha : atE m o.s o.p = 0 := by omega
          obtain ⟨a1, a2, a3, a4, a5, _⟩ := has_at_ h ((at_has h).2 ha)
          unfold unmM at he ⊢
          rw [if_neg fun x => x ha] at he ⊢
          exact ⟨_, inv_unm h a3 a5⟩
        · have k3 : o.kd = 3 := by omega
          rw [if_neg k2, if_pos k3] at he ⊢
          rw [if_neg k2, if_pos k3]
          have hl : liveE m o.s = 0 := by omega
          obtain ⟨a1, a2, a3, _⟩ := has_at_ h ((live_has h).2 hl)
          unfold exitM at he ⊢
          rw [if_neg fun x => x hl] at he ⊢
          exact ⟨_, inv_exit h a3⟩
  · unfold playM at he ⊢
    unfold doW
    by_cases k0 : o.kd = 0
    · rw [if_pos k0] at he ⊢
      rw [if_pos k0]
      have ha : atE m o.s o.p = 0 := by omega
      obtain ⟨a1, a2, a3, a4, a5, _⟩ := has_at_ h ((at_has h).2 ha)
      unfold writeM at he ⊢
      rw [if_neg fun x => x ha] at he ⊢
      have := (inv_write h a3 a5 he).2 hcp
      rw [this]
      unfold bit
      simp only
      split <;> rfl
    · rw [if_neg k0] at he ⊢
      rw [if_neg k0]
      by_cases k1 : o.kd = 1
      · rw [if_pos k1] at he ⊢
        rw [if_pos k1]
        unfold forkM
        rw [if_neg (by omega), if_neg (by omega)]
        show m.cp = m.cp + 0
        omega
      · rw [if_neg k1] at he ⊢
        rw [if_neg k1]
        by_cases k2 : o.kd = 2
        · rw [if_pos k2] at he ⊢
          rw [if_pos k2]
          unfold unmM
          rw [if_neg (by omega)]
          show m.cp = m.cp + 0
          omega
        · have k3 : o.kd = 3 := by omega
          rw [if_neg k2, if_pos k3] at he ⊢
          rw [if_neg k2, if_pos k3]
          unfold exitM
          rw [if_neg (by omega)]
          show m.cp = m.cp + 0
          omega
end
theorem do_nx (W : WM) (o : OP) : W.nx ≤ (doW W o).1.nx ∧ (doW W o).1.nx ≤ W.nx + 1 := by
  unfold doW
  split
  · show W.nx ≤ (wrW W _ _ _).nx ∧ _
    unfold wrW
    split <;> simp only <;> omega
  · split
    · show W.nx ≤ W.nx ∧ W.nx ≤ _; omega
    · split
      · show W.nx ≤ W.nx ∧ W.nx ≤ _; omega
      · split
        · show W.nx ≤ W.nx ∧ W.nx ≤ _; omega
        · show W.nx ≤ W.nx ∧ W.nx ≤ _; omega
theorem snoc_getD {α : Type} [Inhabited α] (l : List α) (x : α) (i : Nat) : (l ++ [x]).getD i default = if i < l.length then l.getD i default else if i = l.length then x else default := by
  by_cases h : i < l.length
  · rw [if_pos h, List.getD_eq_getElem?_getD, List.getElem?_append_left h, ← List.getD_eq_getElem?_getD]
  · rw [if_neg h]
    by_cases e : i = l.length
    · rw [if_pos e, e]; simp
    · rw [if_neg e, getD_none (by simp; omega)]
theorem rowB_do {W : WM} {n : Nat} (h : RowB W n) (o : OP) : RowB (doW W o).1 n := by
  have hs : ∀ (L : List (List Int)) (s p : Nat) (x : Int) (i : Nat), (L.getD i default).length ≤ n → ((setIn L s p x).getD i default).length ≤ n := fun L s p x i h => by rw [row_setIn]; exact h
  have ha : ∀ (L : List (List Int)) (s i : Nat), (∀ i, (L.getD i default).length ≤ n) → ((L ++ [L.getD s default]).getD i default).length ≤ n := fun L s i h => by
    rw [snoc_getD]
    split
    · exact h i
    · split
      · exact h s
      · exact Nat.zero_le _
  unfold doW
  split
  · intro i
    show ((wrW W _ _ _).ws.getD i default).length ≤ n ∧ ((wrW W _ _ _).ids.getD i default).length ≤ n
    unfold wrW
    split
    · exact ⟨hs _ _ _ _ _ (h i).1, hs _ _ _ _ _ (h i).2⟩
    · exact ⟨hs _ _ _ _ _ (h i).1, (h i).2⟩
  · split
    · exact fun i => ⟨ha _ _ _ fun i => (h i).1, ha _ _ _ fun i => (h i).2⟩
    · split
      · exact fun i => ⟨hs _ _ _ _ _ (h i).1, hs _ _ _ _ _ (h i).2⟩
      · split
        · exact h
        · exact h
theorem rowB_new {z n : Nat} (h : z ≤ n) : RowB (newW z) n := fun i => by
  unfold newW
  have : (([List.replicate z (0 : Int)] : List (List Int)).getD i default).length ≤ n := by
    rcases i with _ | i
    · show (List.replicate z (0 : Int)).length ≤ n
      simpa using h
    · exact Nat.zero_le _
  exact ⟨this, this⟩
end Go.Proofs.Ytinnkclemjognaa
