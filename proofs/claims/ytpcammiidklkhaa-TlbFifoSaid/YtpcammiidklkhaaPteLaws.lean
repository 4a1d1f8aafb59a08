/- Plain laws of words and entries: what marking, aging and protecting make of an entry. No conditions. -/
import Derived.Test.YtpcammiidklkhaaPteSpec
set_option linter.unusedVariables false
namespace Go.Proofs.Ytpcammiidklkhaa
open Go

theorem low_and247 : ∀ k, k < 8 → ∀ a b c d : Bool, lowN k a b c d &&& 247 = lowN k false b c d := by decide
theorem low_and239 : ∀ k, k < 8 → ∀ a b c d : Bool, lowN k a b c d &&& 239 = lowN k a false c d := by decide
theorem low_or16 : ∀ k, k < 8 → ∀ a b c d : Bool, lowN k a b c d ||| 16 = lowN k a true c d := by decide
theorem low_or32 : ∀ k, k < 8 → ∀ a b c d : Bool, lowN k a b c d ||| 32 = lowN k a b true d := by decide
theorem low_or48 : ∀ k, k < 8 → ∀ a b c d : Bool, lowN k a b c d ||| 48 = lowN k a true true d := by decide
theorem hl_or (n l m : Nat) (hl : l < 256) (hm : m < 256) (h : l ||| m < 256) : (256 * n + l) ||| m = 256 * n + (l ||| m) := by
  have := nat_hl_or (256 * n + l) m
  rw [show (256 * n + l) / 256 = n by omega, show (256 * n + l) % 256 = l by omega, show m / 256 = 0 by omega, show m % 256 = m by omega] at this
  simpa using this
theorem hl_andNot (n l m : Nat) (hn : n < 72057594037927936) (hl : l < 256) (hm : m < 256) : (256 * n + l) &&& (18446744073709551615 - m) = 256 * n + (l &&& (255 - m)) := by
  have := nat_hl_and (256 * n + l) (18446744073709551615 - m)
  rw [show (256 * n + l) / 256 = n by omega, show (256 * n + l) % 256 = l by omega, show (18446744073709551615 - m) / 256 = 72057594037927935 by omega, show (18446744073709551615 - m) % 256 = 255 - m by omega] at this
  rw [this]
  have h2 : n &&& 72057594037927935 = n % 72057594037927936 := Nat.and_two_pow_sub_one_eq_mod n 56
  rw [h2, Nat.mod_eq_of_lt hn]
section
variable {e : Ent} (h : okE e)
include h
theorem wrd_nat : ∃ n k : Nat, e.n = (n : Int) ∧ e.k = (k : Int) ∧ n < 4294967296 ∧ k < 8 ∧ wrd e = ((256 * n + lowN k e.a e.b e.c e.d : Nat) : Int) := by
  obtain ⟨h1, h2, h3, h4⟩ := h
  have hn := rng_bd h3
  refine ⟨e.n.toNat, e.k.toNat, by omega, by omega, by omega, by omega, ?_⟩
  unfold wrd; omega
theorem wrd_or (m : Nat) (hm : m < 256) (a b c d : Bool) (hlow : ∀ k, k < 8 → lowN k e.a e.b e.c e.d ||| m = lowN k a b c d) : bits .or .u64 (wrd e) (m : Int) = wrd ⟨e.k, e.n, a, b, c, d⟩ := by
  obtain ⟨n, k, hn, hk, h1, h2, hw⟩ := wrd_nat h
  have hl := lowN_lt h2 e.a e.b e.c e.d
  have hl' := lowN_lt h2 a b c d
  rw [hw, u64_or_nat _ _ (by omega) (by omega), hl_or _ _ _ (by omega) hm (by rw [hlow k h2]; omega), hlow k h2]
  unfold wrd
  rw [hn, hk]
  simp
theorem wrd_andNot (m : Nat) (hm : m < 256) (a b c d : Bool) (hlow : ∀ k, k < 8 → lowN k e.a e.b e.c e.d &&& (255 - m) = lowN k a b c d) : bits .andNot .u64 (wrd e) (m : Int) = wrd ⟨e.k, e.n, a, b, c, d⟩ := by
  obtain ⟨n, k, hn, hk, h1, h2, hw⟩ := wrd_nat h
  have hl := lowN_lt h2 e.a e.b e.c e.d
  rw [hw, u64_andNot_nat _ _ (by omega) (by omega), hl_andNot _ _ _ (by omega) (by omega) hm, hlow k h2]
  unfold wrd
  rw [hn, hk]
  simp
theorem w_prot : bits .andNot .u64 (wrd e) 8 = wrd ⟨e.k, e.n, false, e.b, e.c, e.d⟩ := wrd_andNot h 8 (by omega) _ _ _ _ fun k hk => low_and247 k hk ..
theorem w_old : bits .andNot .u64 (wrd e) 16 = wrd ⟨e.k, e.n, e.a, false, e.c, e.d⟩ := wrd_andNot h 16 (by omega) _ _ _ _ fun k hk => low_and239 k hk ..
theorem w_mark : bits .or .u64 (wrd e) 16 = wrd ⟨e.k, e.n, e.a, true, e.c, e.d⟩ := wrd_or h 16 (by omega) _ _ _ _ fun k hk => low_or16 k hk ..
theorem w_mark48 : bits .or .u64 (wrd e) 48 = wrd ⟨e.k, e.n, e.a, true, true, e.d⟩ := wrd_or h 48 (by omega) _ _ _ _ fun k hk => low_or48 k hk ..
theorem w_mark32 : bits .or .u64 (wrd e) 32 = wrd ⟨e.k, e.n, e.a, e.b, true, e.d⟩ := wrd_or h 32 (by omega) _ _ _ _ fun k hk => low_or32 k hk ..
end
theorem ok_page {n : Int} {a b c d a' b' c' : Bool} (h : okE ⟨1, n, a, b, c, d⟩) : okE ⟨1, n, a', b', c', d⟩ := ⟨by simp, by simp, h.2.2.1, rfl⟩
theorem ok_prot {k n : Int} {a b c d : Bool} (hk : k = 1 ∨ k = 3) (h : okE ⟨k, n, a, b, c, d⟩) : okE ⟨k, n, false, b, c, d⟩ := by
  rcases hk with rfl | rfl
  · exact ok_page h
  · exact ⟨by simp, by simp, h.2.2.1, by have := h.2.2.2; simp [formS] at this ⊢; exact this⟩
theorem decR_zero {x : Int} {e : Ent} (h : decR x = (e, 0)) : okE e ∧ x = wrd e := by
  unfold decR at h
  cases hd : dec x with
  | none => rw [hd] at h; simp at h
  | some e' =>
    rw [hd] at h
    simp only [Prod.mk.injEq, and_true] at h
    obtain ⟨h1, h2, _⟩ := dec_some hd
    rw [← h]; exact ⟨h1, h2⟩
theorem decR_wrd {e : Ent} (h : okE e) : decR (wrd e) = (e, 0) := decR_yes (dec_wrd h)
theorem decR_cases (x : Int) : (∃ e, decR x = (e, 0)) ∨ decR x = (noEnt, 3) := by
  unfold decR
  cases dec x with
  | none => exact .inr rfl
  | some e => exact .inl ⟨e, rfl⟩

theorem mark_same (x : Int) (wr : Bool) : markR x wr = markQ x wr := by
  rcases decR_cases x with ⟨⟨k, n, a, b, c, d⟩, h⟩ | h
  · obtain ⟨ho, hx⟩ := decR_zero h
    have h1 : bits .or .u64 (bits .or .u64 x 16) 32 = bits .or .u64 x 48 ∨ k ≠ 1 := by
      by_cases hk : k = 1
      · subst hk
        left
        rw [hx, w_mark ho, w_mark32 (ok_page ho), w_mark48 ho]
      · exact .inr hk
    unfold markR markQ pageR
    rw [h]
    by_cases hk : k = 1
    · rcases h1 with h1 | h1
      · cases wr <;> cases a <;> simp [hk, h1]
      · exact absurd hk h1
    · simp [hk]
  · unfold markR markQ pageR
    rw [h]
    simp
theorem old_same (x : Int) : oldR x = oldQ x := by
  rcases decR_cases x with ⟨⟨k, n, a, b, c, d⟩, h⟩ | h
  · obtain ⟨ho, hx⟩ := decR_zero h
    unfold oldR oldQ pageR
    rw [h]
    by_cases hk : k = 1
    · subst hk
      have h1 := w_old ho
      rw [← hx] at h1
      simp [h1, enc_of_ok (ok_page (a' := a) (b' := false) (c' := c) ho)]
    · simp [hk]
  · unfold oldR oldQ pageR
    rw [h]
    simp
theorem prot_same (x : Int) : protR x = protQ x := by
  rcases decR_cases x with ⟨⟨k, n, a, b, c, d⟩, h⟩ | h
  · obtain ⟨ho, hx⟩ := decR_zero h
    unfold protR protQ
    rw [h]
    by_cases hk : k = 1 ∨ k = 3
    · have h1 := w_prot ho
      rw [← hx] at h1
      have h2 : ¬ (k ≠ 1 ∧ k ≠ 3) := by omega
      simp [h1, enc_of_ok (ok_prot hk ho), h2]
    · have h2 : k ≠ 1 ∧ k ≠ 3 := by omega
      simp [h2]
  · unfold protR protQ
    rw [h]
    simp
/-- What Encode accepts is decoded to the same entry. -/
theorem inv_enc {k n : Int} {a b c d : Bool} {v : Int} (h : encS k n a b c d = (v, 0)) : decR v = (⟨k, n, a, b, c, d⟩, 0) ∧ 0 ≤ v ∧ v < 18446744073709551616 := by
  have ho : okE ⟨k, n, a, b, c, d⟩ := enc_zero (by unfold enc; rw [h])
  have h1 := enc_of_ok ho
  unfold enc at h1
  rw [h] at h1
  simp only [Prod.mk.injEq, and_true] at h1
  have := wrd_rng ho
  rw [h1]
  exact ⟨decR_wrd ho, this.1, by omega⟩
theorem inv_dec {x : Int} {e : Ent} (h : decR x = (e, 0)) : encS e.k e.n e.a e.b e.c e.d = (x, 0) := by
  obtain ⟨ho, hx⟩ := decR_zero h
  rw [hx]; exact enc_of_ok ho
theorem enc_err {k n : Int} {a b c d : Bool} {v u : Int} (h : encS k n a b c d = (v, u)) : 0 ≤ v ∧ v < 18446744073709551616 := by
  by_cases hu : u = 0
  · subst hu; exact (inv_enc h).2
  · unfold encS at h
    split at h
    · simp at h; omega
    · split at h
      · simp at h; omega
      · split at h
        · simp at h; omega
        · simp at h; omega
end Go.Proofs.Ytpcammiidklkhaa
