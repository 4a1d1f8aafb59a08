/- Texts joined: PteLaws, Lst, TlbSpec, TlbWalks. Each part's own remark says what it proves. -/
import Derived.Test.YtbgjelhefhcnpaaGreatM07
import Derived.Test.YtbgjelhefhcnpaaGreatM05
import Derived.Test.YtbgjelhefhcnpaaGreatM06
/- Plain laws of words and entries: what marking, aging and protecting make of an entry. No conditions. -/
set_option linter.unusedVariables false
namespace Go.Proofs.YtbgjelhefhcnpaaGreat
open Go

theorem low_and247 : ∀ k, k < 8 → ∀ a b c d : Bool, lowN k a b c d &&& 247 = lowN k false b c d := by decide
theorem low_and239 : ∀ k, k < 8 → ∀ a b c d : Bool, lowN k a b c d &&& 239 = lowN k a false c d := by decide
theorem low_or16 : ∀ k, k < 8 → ∀ a b c d : Bool, lowN k a b c d ||| 16 = lowN k a true c d := by decide
theorem low_or32 : ∀ k, k < 8 → ∀ a b c d : Bool, lowN k a b c d ||| 32 = lowN k a b true d := by decide
theorem low_or48 : ∀ k, k < 8 → ∀ a b c d : Bool, lowN k a b c d ||| 48 = lowN k a true true d := by decide
theorem hl_or (n l m : Nat) (hl : l < 256) (hm : m < 256) (h : l ||| m < 256) : (256 * n + l) ||| m = 256 * n + (l ||| m) := by
  have := nat_hl_or (256 * n + l) m
  rw [show (256 * n + l) / 256 = n by omega, show (256 * n + l) % 256 = l by omega, show m / 256 = 0 by omega, show m % 256 = m by omega] at this
  simpa using this
theorem hl_andNot (n l m : Nat) (hn : n < 72057594037927936) (hl : l < 256) (hm : m < 256) : (256 * n + l) &&& (18446744073709551615 - m) = 256 * n + (l &&& (255 - m)) := by
  have := nat_hl_and (256 * n + l) (18446744073709551615 - m)
  rw [show (256 * n + l) / 256 = n by omega, show (256 * n + l) % 256 = l by omega, show (18446744073709551615 - m) / 256 = 72057594037927935 by omega, show (18446744073709551615 - m) % 256 = 255 - m by omega] at this
  rw [this]
  have h2 : n &&& 72057594037927935 = n % 72057594037927936 := Nat.and_two_pow_sub_one_eq_mod n 56
  rw [h2, Nat.mod_eq_of_lt hn]
section
variable {e : Ent} (h : okE e)
include h
theorem wrd_nat : ∃ n k : Nat, e.n = (n : Int) ∧ e.k = (k : Int) ∧ n < 4294967296 ∧ k < 8 ∧ wrd e = ((256 * n + lowN k e.a e.b e.c e.d : Nat) : Int) := by
  obtain ⟨h1, h2, h3, h4⟩ := h
  have hn := rng_bd h3
  refine ⟨e.n.toNat, e.k.toNat, by omega, by omega, by omega, by omega, ?_⟩
  unfold wrd; omega
theorem wrd_or (m : Nat) (hm : m < 256) (a b c d : Bool) (hlow : ∀ k, k < 8 → lowN k e.a e.b e.c e.d ||| m = lowN k a b c d) : bits .or .u64 (wrd e) (m : Int) = wrd ⟨e.k, e.n, a, b, c, d⟩ := by
  obtain ⟨n, k, hn, hk, h1, h2, hw⟩ := wrd_nat h
  have hl := lowN_lt h2 e.a e.b e.c e.d
  have hl' := lowN_lt h2 a b c d
  rw [hw, u64_or_nat _ _ (by omega) (by omega), hl_or _ _ _ (by omega) hm (by rw [hlow k h2]; omega), hlow k h2]
  unfold wrd
  rw [hn, hk]
  simp
theorem wrd_andNot (m : Nat) (hm : m < 256) (a b c d : Bool) (hlow : ∀ k, k < 8 → lowN k e.a e.b e.c e.d &&& (255 - m) = lowN k a b c d) : bits .andNot .u64 (wrd e) (m : Int) = wrd ⟨e.k, e.n, a, b, c, d⟩ := by
  obtain ⟨n, k, hn, hk, h1, h2, hw⟩ := wrd_nat h
  have hl := lowN_lt h2 e.a e.b e.c e.d
  rw [hw, u64_andNot_nat _ _ (by omega) (by omega), hl_andNot _ _ _ (by omega) (by omega) hm, hlow k h2]
  unfold wrd
  rw [hn, hk]
  simp
theorem w_prot : bits .andNot .u64 (wrd e) 8 = wrd ⟨e.k, e.n, false, e.b, e.c, e.d⟩ := wrd_andNot h 8 (by omega) _ _ _ _ fun k hk => low_and247 k hk ..
theorem w_old : bits .andNot .u64 (wrd e) 16 = wrd ⟨e.k, e.n, e.a, false, e.c, e.d⟩ := wrd_andNot h 16 (by omega) _ _ _ _ fun k hk => low_and239 k hk ..
theorem w_mark : bits .or .u64 (wrd e) 16 = wrd ⟨e.k, e.n, e.a, true, e.c, e.d⟩ := wrd_or h 16 (by omega) _ _ _ _ fun k hk => low_or16 k hk ..
theorem w_mark48 : bits .or .u64 (wrd e) 48 = wrd ⟨e.k, e.n, e.a, true, true, e.d⟩ := wrd_or h 48 (by omega) _ _ _ _ fun k hk => low_or48 k hk ..
theorem w_mark32 : bits .or .u64 (wrd e) 32 = wrd ⟨e.k, e.n, e.a, e.b, true, e.d⟩ := wrd_or h 32 (by omega) _ _ _ _ fun k hk => low_or32 k hk ..
end
theorem ok_page {n : Int} {a b c d a' b' c' : Bool} (h : okE ⟨1, n, a, b, c, d⟩) : okE ⟨1, n, a', b', c', d⟩ := ⟨by simp, by simp, h.2.2.1, rfl⟩
theorem ok_prot {k n : Int} {a b c d : Bool} (hk : k = 1 ∨ k = 3) (h : okE ⟨k, n, a, b, c, d⟩) : okE ⟨k, n, false, b, c, d⟩ := by
  rcases hk with rfl | rfl
  · exact ok_page h
  · exact ⟨by simp, by simp, h.2.2.1, by have := h.2.2.2; simp [formS] at this ⊢; exact this⟩
theorem decR_zero {x : Int} {e : Ent} (h : decR x = (e, 0)) : okE e ∧ x = wrd e := by
  unfold decR at h
  cases hd : dec x with
  | none => rw [hd] at h; simp at h
  | some e' =>
    rw [hd] at h
    simp only [Prod.mk.injEq, and_true] at h
    obtain ⟨h1, h2, _⟩ := dec_some hd
    rw [← h]; exact ⟨h1, h2⟩
theorem decR_wrd {e : Ent} (h : okE e) : decR (wrd e) = (e, 0) := decR_yes (dec_wrd h)
theorem decR_cases (x : Int) : (∃ e, decR x = (e, 0)) ∨ decR x = (noEnt, 3) := by
  unfold decR
  cases dec x with
  | none => exact .inr rfl
  | some e => exact .inl ⟨e, rfl⟩

theorem mark_same (x : Int) (wr : Bool) : markR x wr = markQ x wr := by
  rcases decR_cases x with ⟨⟨k, n, a, b, c, d⟩, h⟩ | h
  · obtain ⟨ho, hx⟩ := decR_zero h
    have h1 : bits .or .u64 (bits .or .u64 x 16) 32 = bits .or .u64 x 48 ∨ k ≠ 1 := by
      by_cases hk : k = 1
      · subst hk
        left
        rw [hx, w_mark ho, w_mark32 (ok_page ho), w_mark48 ho]
      · exact .inr hk
    unfold markR markQ pageR
    rw [h]
    by_cases hk : k = 1
    · rcases h1 with h1 | h1
      · cases wr <;> cases a <;> simp [hk, h1]
      · exact absurd hk h1
    · simp [hk]
  · unfold markR markQ pageR
    rw [h]
    simp
theorem old_same (x : Int) : oldR x = oldQ x := by
  rcases decR_cases x with ⟨⟨k, n, a, b, c, d⟩, h⟩ | h
  · obtain ⟨ho, hx⟩ := decR_zero h
    unfold oldR oldQ pageR
    rw [h]
    by_cases hk : k = 1
    · subst hk
      have h1 := w_old ho
      rw [← hx] at h1
      simp [h1, enc_of_ok (ok_page (a' := a) (b' := false) (c' := c) ho)]
    · simp [hk]
  · unfold oldR oldQ pageR
    rw [h]
    simp
theorem prot_same (x : Int) : protR x = protQ x := by
  rcases decR_cases x with ⟨⟨k, n, a, b, c, d⟩, h⟩ | h
  · obtain ⟨ho, hx⟩ := decR_zero h
    unfold protR protQ
    rw [h]
    by_cases hk : k = 1 ∨ k = 3
    · have h1 := w_prot ho
      rw [← hx] at h1
      have h2 : ¬ (k ≠ 1 ∧ k ≠ 3) := by omega
      simp [h1, enc_of_ok (ok_prot hk ho), h2]
    · have h2 : k ≠ 1 ∧ k ≠ 3 := by omega
      simp [h2]
  · unfold protR protQ
    rw [h]
    simp
/-- What Encode accepts is decoded to the same entry. -/
theorem inv_enc {k n : Int} {a b c d : Bool} {v : Int} (h : encS k n a b c d = (v, 0)) : decR v = (⟨k, n, a, b, c, d⟩, 0) ∧ 0 ≤ v ∧ v < 18446744073709551616 := by
  have ho : okE ⟨k, n, a, b, c, d⟩ := enc_zero (by unfold enc; rw [h])
  have h1 := enc_of_ok ho
  unfold enc at h1
  rw [h] at h1
  simp only [Prod.mk.injEq, and_true] at h1
  have := wrd_rng ho
  rw [h1]
  exact ⟨decR_wrd ho, this.1, by omega⟩
theorem inv_dec {x : Int} {e : Ent} (h : decR x = (e, 0)) : encS e.k e.n e.a e.b e.c e.d = (x, 0) := by
  obtain ⟨ho, hx⟩ := decR_zero h
  rw [hx]; exact enc_of_ok ho
theorem enc_err {k n : Int} {a b c d : Bool} {v u : Int} (h : encS k n a b c d = (v, u)) : 0 ≤ v ∧ v < 18446744073709551616 := by
  by_cases hu : u = 0
  · subst hu; exact (inv_enc h).2
  · unfold encS at h
    split at h
    · simp at h; omega
    · split at h
      · simp at h; omega
      · split at h
        · simp at h; omega
        · simp at h; omega
end Go.Proofs.YtbgjelhefhcnpaaGreat

/- Lists in plain terms. No conditions. -/
set_option linter.unusedSimpArgs false
set_option linter.unusedVariables false
namespace Go.Proofs.YtbgjelhefhcnpaaGreat
def eqB {α : Type} [DecidableEq α] (s x : α) : Bool := decide (s = x)
section
variable {α : Type} [Inhabited α] {p : α → Bool} {l m : List α} {k : Nat} {a : α}
theorem getD_get {j : Nat} (hj : j < l.length) : l.getD j default = l[j] := by
  rw [List.getD_eq_getElem?_getD, List.getElem?_eq_getElem hj]; rfl
theorem getD_any : l.any p = false ↔ ∀ j, j < l.length → p (l.getD j default) = false := by
  rw [List.any_eq_false]
  constructor
  · intro h j hj
    have := h _ (List.getElem_mem hj)
    rw [getD_get hj]
    simpa using this
  · intro h x hx
    obtain ⟨j, hj, rfl⟩ := List.getElem_of_mem hx
    have := h j hj
    rw [getD_get hj] at this
    simpa using this
/-- The first place of what p accepts, or -1. -/
def idxM {α : Type} (p : α → Bool) (l : List α) : Int := if l.any p then (l.findIdx p : Int) else -1
theorem idxM_some (hk : k < l.length) (hp : p (l.getD k default) = true) (hn : ∀ j, j < k → p (l.getD j default) = false) : idxM p l = (k : Int) := by
  have ha : l.any p = true := by
    rw [List.any_eq_true]
    exact ⟨l[k], List.getElem_mem hk, by rw [← getD_get hk]; exact hp⟩
  have : l.findIdx p = k := by
    rw [List.findIdx_eq hk]
    exact ⟨by rw [← getD_get hk]; exact hp, fun j hj => by rw [← getD_get (by omega)]; exact hn j hj⟩
  simp [idxM, ha, this]
theorem idxM_none (hn : ∀ j, j < l.length → p (l.getD j default) = false) : idxM p l = -1 := by
  simp [idxM, getD_any.2 hn]
theorem idxM_ge {α : Type} (p : α → Bool) (l : List α) : decide (idxM p l ≥ 0) = l.any p := by
  unfold idxM
  split <;> rename_i h <;> simp_all
theorem any_some (hk : k < l.length) (hp : p (l.getD k default) = true) : l.any p = true := by
  rw [List.any_eq_true]
  exact ⟨l[k], List.getElem_mem hk, by rw [← getD_get hk]; exact hp⟩
theorem idxM_lt {α : Type} {p : α → Bool} {l : List α} (h : l.any p = true) : 0 ≤ idxM p l ∧ (idxM p l).toNat < l.length := by
  rw [idxM, if_pos h]
  have : l.findIdx p < l.length := by
    rw [List.findIdx_lt_length]
    simpa using h
  omega
theorem idxM_at (h : l.any p = true) : p (l.getD (idxM p l).toNat default) = true := by
  have hlt := (idxM_lt h).2
  rw [getD_get hlt]
  rw [idxM, if_pos h] at hlt
  have := List.findIdx_getElem (p := p) (w := hlt)
  simpa [idxM, h] using this
theorem take_step (hk : k < l.length) : l.take (k + 1) = l.take k ++ [l.getD k default] := by
  rw [List.take_add_one, List.getD_eq_getElem?_getD, List.getElem?_eq_getElem hk]; rfl
theorem count_step (p : α → Bool) {l : List α} (hk : k < l.length) : (l.take (k + 1)).countP p = (l.take k).countP p + if p (l.getD k default) then 1 else 0 := by
  rw [take_step hk, List.countP_append, List.countP_singleton]
theorem count_le {α : Type} (p : α → Bool) (l : List α) (k : Nat) : (l.take k).countP p ≤ k :=
  Nat.le_trans List.countP_le_length (List.length_take_le _ _)
theorem all_step (hp : ∀ j, j < k → p (l.getD j default) = false) (h : p (l.getD k default) = false) : ∀ j, j < k + 1 → p (l.getD j default) = false := fun j hj => by
  rcases Nat.lt_or_eq_of_le (Nat.le_of_lt_succ hj) with h' | rfl
  · exact hp j h'
  · exact h
theorem all_next {q : Nat → Prop} (hp : ∀ j, j < k → q j) (h : q k) : ∀ j, j < k + 1 → q j := fun j hj => by
  rcases Nat.lt_or_eq_of_le (Nat.le_of_lt_succ hj) with h' | rfl
  · exact hp j h'
  · exact h
theorem set_self (hk : k < l.length) : l.set k (l.getD k default) = l := by
  rw [getD_get hk]; simp
theorem getD_set_self (hk : k < l.length) : (l.set k a).getD k default = a := by
  rw [getD_get (by simpa using hk)]; simp
theorem getD_set (j : Nat) (hk : k < l.length) : (l.set k a).getD j default = if j = k then a else l.getD j default := by
  by_cases h : j = k
  · subst h; rw [if_pos rfl, getD_set_self hk]
  · rw [if_neg h, List.getD_eq_getElem?_getD, List.getD_eq_getElem?_getD, List.getElem?_set_ne (fun e => h e.symm)]
theorem ext_getD (h : l.length = m.length) (h' : ∀ j, j < l.length → l.getD j default = m.getD j default) : l = m := by
  apply List.ext_getElem h
  intro j h1 h2
  rw [← getD_get h1, ← getD_get h2]
  exact h' j h1
theorem getD_app (j : Nat) : (l ++ m).getD j default = if j < l.length then l.getD j default else m.getD (j - l.length) default := by
  simp only [List.getD_eq_getElem?_getD]
  split
  · rw [List.getElem?_append_left (by assumption)]
  · rw [List.getElem?_append_right (by omega)]
theorem getD_take {j : Nat} (h : j < k) : (l.take k).getD j default = l.getD j default := by
  simp only [List.getD_eq_getElem?_getD]
  rw [List.getElem?_take, if_pos h]
theorem getD_drop (j : Nat) : (l.drop k).getD j default = l.getD (k + j) default := by
  simp only [List.getD_eq_getElem?_getD, List.getElem?_drop]
theorem getD_rep {j n : Nat} (h : j < n) : (List.replicate n a).getD j default = a := by
  rw [getD_get (by simpa using h), List.getElem_replicate]
end
end Go.Proofs.YtbgjelhefhcnpaaGreat

/- What package tlb computes, in plain Lean. No conditions. -/
set_option linter.unusedSimpArgs false
set_option linter.unusedVariables false
namespace Go.Proofs.YtbgjelhefhcnpaaGreat
open Go Go.RowKit
structure TE where
  s : Int
  p : Int
  w : Int
  deriving DecidableEq
instance : Enc TE where
  default := ⟨0, 0, 0⟩
  sz := 3
  enc := fun x => [.int .i64 x.s, .int .i64 x.p, .int .u64 x.w]
  dec := fun cs => match cs with | [.int _ a, .int _ b, .int _ c] => ⟨a, b, c⟩ | _ => ⟨0, 0, 0⟩
  len := fun _ => rfl
  one := fun _ u hu => by simp at hu; rcases hu with rfl | rfl | rfl <;> rfl
  pos := by decide
instance : ElT Tryz.prog 118 TE := ⟨trivial⟩
/-- The fields are of their types. -/
def Wf (x : TE) : Prop := (-9223372036854775808 ≤ x.s ∧ x.s ≤ 9223372036854775807) ∧ (-9223372036854775808 ≤ x.p ∧ x.p ≤ 9223372036854775807) ∧ 0 ≤ x.w ∧ x.w < 18446744073709551616
theorem wf_default : Wf default := by unfold Wf; decide
theorem wf_at {l : List TE} (h : ∀ x ∈ l, Wf x) (j : Nat) : Wf (l.getD j default) := by
  rcases Nat.lt_or_ge j l.length with hj | hj
  · rw [getD_get hj]; exact h _ (List.getElem_mem hj)
  · rw [List.getD_eq_getElem?_getD, List.getElem?_eq_none hj]; exact wf_default
def tr (w : Int) : Bool := decide ((decR w).2 = 0 ∧ (decR w).1.k = 1)
def hu (w : Int) : Bool := decide ((decR w).2 = 0) && (decR w).1.d
theorem hu_tr {w : Int} (h : hu w = true) : tr w = true := by
  unfold hu at h
  unfold tr
  rw [Bool.and_eq_true, decide_eq_true_eq] at h
  rcases decR_cases w with ⟨⟨k, n, a, b, c, d⟩, hp⟩ | hp
  · rw [hp] at h ⊢
    obtain ⟨h1, h2, h3, h4⟩ := (decR_zero hp).1
    obtain ⟨_, rfl⟩ : True ∧ d = true := ⟨trivial, h.2⟩
    simp only [formS] at h4
    simp only [true_and, decide_eq_true_eq]
    have h1' : 0 ≤ k := h1
    have h2' : k ≤ 4 := h2
    have : k = 0 ∨ k = 1 ∨ k = 2 ∨ k = 3 ∨ k = 4 := by omega
    rcases this with rfl | rfl | rfl | rfl | rfl <;> simp_all
  · rw [hp] at h
    exact absurd h.1 (by decide)
def spanM (w : Int) : Int := if hu w then 8 else 1
theorem span_bd (w : Int) : 1 ≤ spanM w ∧ spanM w ≤ 8 := by unfold spanM; split <;> omega
def covM (x : TE) (s p : Int) : Bool := decide (x.s = s ∧ x.p ≤ p ∧ p < x.p + spanM x.w)
def ovM (a b : TE) : Bool := decide (a.s = b.s ∧ a.p < b.p + spanM b.w ∧ b.p < a.p + spanM a.w)
def spR (s : Int) : Bool := decide (0 ≤ s ∧ s < 8)
def pgR (p : Int) : Bool := decide (0 ≤ p ∧ p < 512)
def plcM (s p : Int) : Int := if spR s = true ∧ pgR p = true then 0 else 2
theorem plc_ok {s p : Int} (h : plcM s p = 0) : (0 ≤ s ∧ s < 8) ∧ 0 ≤ p ∧ p < 512 := by
  unfold plcM spR pgR at h
  split at h
  · simp_all
  · cases h
theorem plc_of {s p : Int} (h : 0 ≤ s ∧ s < 8) (h' : 0 ≤ p ∧ p < 512) : plcM s p = 0 := if_pos ⟨decide_eq_true h, decide_eq_true h'⟩
def formT (x : TE) : Bool := tr x.w && !(hu x.w && decide (¬ x.p % 8 = 0))
def okT (x : TE) : Int := if plcM x.s x.p = 0 then (if formT x then 0 else 3) else 2
/-- An entry that is valid by itself. -/
structure Vd (x : TE) : Prop where
  s : 0 ≤ x.s ∧ x.s < 8
  p : 0 ≤ x.p ∧ x.p < 512
  t : tr x.w = true
  h : hu x.w = true → x.p % 8 = 0
theorem okT_vd {x : TE} : okT x = 0 ↔ Vd x := by
  unfold okT
  constructor
  · intro h
    split at h
    · rename_i h1
      split at h
      · rename_i h2
        obtain ⟨a, b⟩ := plc_ok h1
        unfold formT at h2
        simp only [Bool.and_eq_true, Bool.not_eq_true', Bool.and_eq_false_iff, decide_eq_false_iff_not, Decidable.not_not] at h2
        refine ⟨a, b, h2.1, fun hh => ?_⟩
        rcases h2.2 with h3 | h3
        · rw [hh] at h3; cases h3
        · exact h3
      · cases h
    · cases h
  · rintro ⟨a, b, c, d⟩
    rw [if_pos (plc_of a b), if_pos]
    unfold formT
    simp only [Bool.and_eq_true, Bool.not_eq_true', Bool.and_eq_false_iff, decide_eq_false_iff_not, Decidable.not_not]
    refine ⟨c, ?_⟩
    cases hh : hu x.w
    · exact .inl rfl
    · exact .inr (d hh)
def badAt (l : List TE) (i : Nat) : Int := if okT (l.getD i default) = 0 then (if (l.take i).any (ovM (l.getD i default)) then 7 else 0) else okT (l.getD i default)
/-- The first of the numbers from i on that is not 0, or 0. -/
def errG (g : Nat → Int) : Nat → Nat → Int
  | 0, _ => 0
  | f + 1, i => if g i = 0 then errG g f (i + 1) else g i
theorem errG_at {g : Nat → Int} {c : Int} (hc : ¬ c = 0) {i : Nat} (hi : g i = c) : ∀ f k, k ≤ i → i < k + f → (∀ j, k ≤ j → j < i → g j = 0) → errG g f k = c
  | 0, k, h1, h2, _ => by omega
  | f + 1, k, h1, h2, h3 => by
    rw [errG]
    by_cases e : k = i
    · rw [e, hi, if_neg hc]
    · rw [if_pos (h3 k (Nat.le_refl _) (by omega))]
      exact errG_at hc hi f (k + 1) (by omega) (by omega) fun j h4 h5 => h3 j (by omega) h5
theorem errG_no {g : Nat → Int} : ∀ f k, (∀ j, k ≤ j → j < k + f → g j = 0) → errG g f k = 0
  | 0, _, _ => rfl
  | f + 1, k, h => by
    rw [errG, if_pos (h k (Nat.le_refl _) (by omega))]
    exact errG_no f (k + 1) fun j h1 h2 => h j (by omega) (by omega)
theorem errG_zero {g : Nat → Int} : ∀ f k, errG g f k = 0 → ∀ j, k ≤ j → j < k + f → g j = 0
  | 0, k, _, j, h1, h2 => by omega
  | f + 1, k, h, j, h1, h2 => by
    rw [errG] at h
    split at h
    · by_cases e : j = k
      · rw [e]; assumption
      · exact errG_zero f (k + 1) h j (by omega) (by omega)
    · rename_i hn; exact absurd h hn
def checkM (z : Int) (l : List TE) : Int := if z < 1 ∨ 16 < z then 1 else if z < (l.length : Int) then 8 else errG (badAt l) l.length 0
/-- A valid cache. -/
structure Ok (size : Int) (l : List TE) : Prop where
  z : 1 ≤ size ∧ size ≤ 16
  n : (l.length : Int) ≤ size
  v : ∀ x ∈ l, Vd x
  d : l.Pairwise fun a b => ovM a b = false
theorem ov_comm (a b : TE) : ovM a b = ovM b a := by
  unfold ovM
  congr 1
  apply propext
  constructor <;> (rintro ⟨h1, h2, h3⟩; exact ⟨h1.symm, h3, h2⟩)
theorem bad_zero {l : List TE} {i : Nat} : badAt l i = 0 ↔ Vd (l.getD i default) ∧ (l.take i).any (ovM (l.getD i default)) = false := by
  unfold badAt
  constructor
  · intro h
    split at h
    · rename_i h1
      split at h
      · cases h
      · exact ⟨okT_vd.1 h1, by simp_all⟩
    · exact absurd h (by assumption)
  · rintro ⟨h1, h2⟩
    rw [if_pos (okT_vd.2 h1), h2]; rfl
theorem check_ok {z : Int} {l : List TE} : checkM z l = 0 ↔ Ok z l := by
  unfold checkM
  constructor
  · intro h
    split at h
    · cases h
    · split at h
      · cases h
      · have hz := errG_zero _ _ h
        refine ⟨by omega, by omega, fun x hx => ?_, ?_⟩
        · obtain ⟨j, hj, rfl⟩ := List.getElem_of_mem hx
          have := (bad_zero.1 (hz j (Nat.zero_le _) (by omega))).1
          rwa [getD_get hj] at this
        · rw [List.pairwise_iff_getElem]
          intro i j hi hj hij
          have h2 := (bad_zero.1 (hz j (Nat.zero_le _) (by omega))).2
          rw [List.any_eq_false] at h2
          have h3 := h2 l[i] (by rw [List.mem_take_iff_getElem]; exact ⟨i, by omega, rfl⟩)
          rw [getD_get hj] at h3
          rw [ov_comm]
          simpa using h3
  · rintro ⟨a, b, c, d⟩
    rw [if_neg (by omega), if_neg (by omega)]
    refine errG_no _ _ fun j _ hj => bad_zero.2 ?_
    have hj' : j < l.length := by omega
    rw [getD_get hj']
    refine ⟨c _ (List.getElem_mem hj'), ?_⟩
    rw [List.any_eq_false]
    intro x hx
    rw [List.mem_take_iff_getElem] at hx
    obtain ⟨i, hi, rfl⟩ := hx
    have := List.pairwise_iff_getElem.1 d i j (by omega) hj' (by omega)
    rw [ov_comm] at this
    simp [this]
/- As the reference says it. -/
def grp (p : Int) : Int := p - p % 8
def hitM (x : TE) (s p : Int) : Bool := if x.s = s then (if hu x.w then decide (0 ≤ p ∧ x.p = grp p) else decide (x.p = p)) else false
def hit2 (a b : TE) (i : Nat) : Bool := hitM a b.s (grp b.p + (i : Int)) && hitM b b.s (grp b.p + (i : Int))
def ovR (a b : TE) : Bool := (List.range 8).any (hit2 a b)
theorem hit_cov {x : TE} (h : Vd x) (s p : Int) : hitM x s p = covM x s p := by
  obtain ⟨h1, h2, h3, h4⟩ := h
  unfold hitM covM spanM grp
  rw [Bool.eq_iff_iff]
  by_cases e : x.s = s
  · rw [if_pos e]
    cases hh : hu x.w
    · simp only [Bool.false_eq_true, if_false, decide_eq_true_eq]
      omega
    · have := h4 hh
      simp only [if_true, decide_eq_true_eq]
      omega
  · rw [if_neg e]
    simp only [Bool.false_eq_true, decide_eq_true_eq, false_iff]
    omega
theorem ov_ref {a b : TE} (ha : Vd a) (hb : Vd b) : ovR a b = ovM b a := by
  have ga := ha.p
  have gb := hb.p
  have g1 := ha.h
  have g2 := hb.h
  have s1 := span_bd a.w
  have s2 := span_bd b.w
  unfold ovR hit2
  simp only [hit_cov ha, hit_cov hb]
  unfold covM ovM
  rw [Bool.eq_iff_iff, List.any_eq_true]
  simp only [Bool.and_eq_true, decide_eq_true_eq, eq_self, true_and]
  constructor
  · rintro ⟨i, hi, h1, h2⟩
    omega
  · rintro ⟨h1, h2, h3⟩
    have hg : grp b.p = b.p - b.p % 8 := rfl
    by_cases hh : hu b.w = true
    · have e1 := g2 hh
      have e2 : spanM b.w = 8 := by unfold spanM; rw [if_pos hh]
      by_cases hq : a.p ≤ b.p
      · exact ⟨0, List.mem_range.2 (by omega), by omega, by omega⟩
      · exact ⟨(a.p - b.p).toNat, List.mem_range.2 (by omega), by omega, by omega⟩
    · have e2 : spanM b.w = 1 := by unfold spanM; rw [if_neg hh]
      exact ⟨(b.p % 8).toNat, List.mem_range.2 (by omega), by omega, by omega⟩
end Go.Proofs.YtbgjelhefhcnpaaGreat

/- The walks of package tlb and its reference: one entry. No conditions. -/
set_option linter.unusedSimpArgs false
set_option linter.unusedVariables false
namespace Go.Proofs.YtbgjelhefhcnpaaGreat
open Go Go.RowKit
attribute [local irreducible] Code.wp wpList bodyPost Exit.then Exit.inBlock Calls wpQuiet Tri TriQ
abbrev teV (x : TE) : Value := .agg #[.int .i64 x.s, .int .i64 x.p, .int .u64 x.w]
theorem ret_b {a b : Bool} (h : a = b) : Ending.returned (.bool a) = .returned (.bool b) := by rw [h]
theorem ret_i {a b : Int} (h : a = b) : Ending.returned (.int .i64 a) = .returned (.int .i64 b) := by rw [h]
theorem ret_bb {a b c d : Bool} (h : a = b) (h' : c = d) : Ending.returned (.tuple #[.bool a, .bool c]) = .returned (.tuple #[.bool b, .bool d]) := by rw [h, h']
theorem tr_of {x k n u : Int} {a b c d : Bool} (hp : decR x = (⟨k, n, a, b, c, d⟩, u)) : tr x = decide (u = 0 ∧ k = 1) ∧ hu x = (decide (u = 0) && d) := by
  unfold tr hu; rw [hp]; exact ⟨rfl, rfl⟩
theorem trans_any (x : Int) (w : World) (h0 : 0 ≤ x) (h1 : x < 18446744073709551616) : Calls Tryz.prog 61 [.int .u64 x].toArray w (Ret (.tuple #[.bool (tr x), .bool (hu x)]) w) := by
  rcases decR_cases x with ⟨⟨k, n, a, b, c, d⟩, hp⟩ | hp
  · obtain ⟨e1, e2⟩ := tr_of hp
    refine calls_of_tri Tryz.func61 rfl Tryz.ntmps61 rfl ?_
    (repeat (first | refine au_pure ?_ | refine au_pass ?_ | refine au_box (fun _ => ?_) | refine au_alloc (fun _ => ?_) | refine au_store ?_ | refine au_make rfl rfl (fun _ => ?_) | refine au_lit rfl rfl rfl (fun _ => ?_) | refine au_append rfl rfl rfl rfl (fun _ => au_norm ?_) | refine au_storeE rfl rfl rfl rfl ?_ | refine tri_seq ?_ | refine tri_then ?_ | refine tri_region ?_ | refine tri_nil ?_ | refine tri_skip ?_ | refine tri_ret ?_ | refine tri_exit ?_ | refine tri_thenr ?_ | refine tri_thene ?_ | refine tri_blkn ?_ | refine tri_blkr ?_ | refine tri_blke ?_ | refine tri_blko (by rfl) ?_ | refine tri_if_t (by rfl) ?_ | refine tri_if_f (by rfl) ?_ | fail))
    refine au_call rfl rfl (cl_of rfl rfl rfl (fun _ h => Ret.hp (decode_at _ h0 h1 hp) h)) ?_
    (repeat (first | refine au_pure ?_ | refine au_pass ?_ | refine au_box (fun _ => ?_) | refine au_alloc (fun _ => ?_) | refine au_store ?_ | refine au_make rfl rfl (fun _ => ?_) | refine au_lit rfl rfl rfl (fun _ => ?_) | refine au_append rfl rfl rfl rfl (fun _ => au_norm ?_) | refine au_storeE rfl rfl rfl rfl ?_ | refine tri_seq ?_ | refine tri_then ?_ | refine tri_region ?_ | refine tri_nil ?_ | refine tri_skip ?_ | refine tri_ret ?_ | refine tri_exit ?_ | refine tri_thenr ?_ | refine tri_thene ?_ | refine tri_blkn ?_ | refine tri_blkr ?_ | refine tri_blke ?_ | refine tri_blko (by rfl) ?_ | refine tri_if_t (by rfl) ?_ | refine tri_if_f (by rfl) ?_ | fail))
    refine au_draw rfl ?_
    (repeat (first | refine au_qpure rfl rfl ?_ | refine au_qpass rfl rfl ?_ | refine triq_nil ?_))
    (repeat (first | refine au_pure ?_ | refine au_pass ?_ | refine au_box (fun _ => ?_) | refine au_alloc (fun _ => ?_) | refine au_store ?_ | refine au_make rfl rfl (fun _ => ?_) | refine au_lit rfl rfl rfl (fun _ => ?_) | refine au_append rfl rfl rfl rfl (fun _ => au_norm ?_) | refine au_storeE rfl rfl rfl rfl ?_ | refine tri_seq ?_ | refine tri_then ?_ | refine tri_region ?_ | refine tri_nil ?_ | refine tri_skip ?_ | refine tri_ret ?_ | refine tri_exit ?_ | refine tri_thenr ?_ | refine tri_thene ?_ | refine tri_blkn ?_ | refine tri_blkr ?_ | refine tri_blke ?_ | refine tri_blko (by rfl) ?_ | refine tri_if_t (by rfl) ?_ | refine tri_if_f (by rfl) ?_ | fail))
    refine au_done2 rfl ?_
    refine fun w h => ⟨ret_bb ?_ ?_, h.below⟩
    · rw [e1]; simp [Bool.beq_eq_decide_eq]
    · rw [e2]; simp
  · obtain ⟨e1, e2⟩ := tr_of (k := 0) (n := 0) (a := false) (b := false) (c := false) (d := false) (u := 3) hp
    refine calls_of_tri Tryz.func61 rfl Tryz.ntmps61 rfl ?_
    (repeat (first | refine au_pure ?_ | refine au_pass ?_ | refine au_box (fun _ => ?_) | refine au_alloc (fun _ => ?_) | refine au_store ?_ | refine au_make rfl rfl (fun _ => ?_) | refine au_lit rfl rfl rfl (fun _ => ?_) | refine au_append rfl rfl rfl rfl (fun _ => au_norm ?_) | refine au_storeE rfl rfl rfl rfl ?_ | refine tri_seq ?_ | refine tri_then ?_ | refine tri_region ?_ | refine tri_nil ?_ | refine tri_skip ?_ | refine tri_ret ?_ | refine tri_exit ?_ | refine tri_thenr ?_ | refine tri_thene ?_ | refine tri_blkn ?_ | refine tri_blkr ?_ | refine tri_blke ?_ | refine tri_blko (by rfl) ?_ | refine tri_if_t (by rfl) ?_ | refine tri_if_f (by rfl) ?_ | fail))
    refine au_call rfl rfl (cl_of rfl rfl rfl (fun _ h => Ret.hp (decode_at (k := 0) (n := 0) (a := false) (b := false) (c := false) (d := false) (u := 3) _ h0 h1 hp) h)) ?_
    (repeat (first | refine au_pure ?_ | refine au_pass ?_ | refine au_box (fun _ => ?_) | refine au_alloc (fun _ => ?_) | refine au_store ?_ | refine au_make rfl rfl (fun _ => ?_) | refine au_lit rfl rfl rfl (fun _ => ?_) | refine au_append rfl rfl rfl rfl (fun _ => au_norm ?_) | refine au_storeE rfl rfl rfl rfl ?_ | refine tri_seq ?_ | refine tri_then ?_ | refine tri_region ?_ | refine tri_nil ?_ | refine tri_skip ?_ | refine tri_ret ?_ | refine tri_exit ?_ | refine tri_thenr ?_ | refine tri_thene ?_ | refine tri_blkn ?_ | refine tri_blkr ?_ | refine tri_blke ?_ | refine tri_blko (by rfl) ?_ | refine tri_if_t (by rfl) ?_ | refine tri_if_f (by rfl) ?_ | fail))
    refine au_draw rfl ?_
    (repeat (first | refine au_qpure rfl rfl ?_ | refine au_qpass rfl rfl ?_ | refine triq_nil ?_))
    (repeat (first | refine au_pure ?_ | refine au_pass ?_ | refine au_box (fun _ => ?_) | refine au_alloc (fun _ => ?_) | refine au_store ?_ | refine au_make rfl rfl (fun _ => ?_) | refine au_lit rfl rfl rfl (fun _ => ?_) | refine au_append rfl rfl rfl rfl (fun _ => au_norm ?_) | refine au_storeE rfl rfl rfl rfl ?_ | refine tri_seq ?_ | refine tri_then ?_ | refine tri_region ?_ | refine tri_nil ?_ | refine tri_skip ?_ | refine tri_ret ?_ | refine tri_exit ?_ | refine tri_thenr ?_ | refine tri_thene ?_ | refine tri_blkn ?_ | refine tri_blkr ?_ | refine tri_blke ?_ | refine tri_blko (by rfl) ?_ | refine tri_if_t (by rfl) ?_ | refine tri_if_f (by rfl) ?_ | fail))
    refine au_done2 rfl ?_
    refine fun w h => ⟨ret_bb ?_ ?_, h.below⟩
    · rw [e1]; simp
    · rw [e2]; simp
theorem span_any (x : Int) (w : World) (h0 : 0 ≤ x) (h1 : x < 18446744073709551616) : Calls Tryz.prog 89 [.int .u64 x].toArray w (Ret (.int .i64 (spanM x)) w) := by
  refine calls_of_tri Tryz.func89 rfl Tryz.ntmps89 rfl ?_
  (repeat (first | refine au_pure ?_ | refine au_pass ?_ | refine au_box (fun _ => ?_) | refine au_alloc (fun _ => ?_) | refine au_store ?_ | refine au_make rfl rfl (fun _ => ?_) | refine au_lit rfl rfl rfl (fun _ => ?_) | refine au_append rfl rfl rfl rfl (fun _ => au_norm ?_) | refine au_storeE rfl rfl rfl rfl ?_ | refine tri_seq ?_ | refine tri_then ?_ | refine tri_region ?_ | refine tri_nil ?_ | refine tri_skip ?_ | refine tri_ret ?_ | refine tri_exit ?_ | refine tri_thenr ?_ | refine tri_thene ?_ | refine tri_blkn ?_ | refine tri_blkr ?_ | refine tri_blke ?_ | refine tri_blko (by rfl) ?_ | refine tri_if_t (by rfl) ?_ | refine tri_if_f (by rfl) ?_ | fail))
  refine au_call rfl rfl (cl_of rfl rfl rfl (fun _ h => Ret.hp (trans_any _ _ h0 h1) h)) ?_
  (repeat' (first | refine au_pure ?_ | refine au_pass ?_ | refine au_box (fun _ => ?_) | refine au_alloc (fun _ => ?_) | refine au_store ?_ | refine au_make rfl rfl (fun _ => ?_) | refine au_lit rfl rfl rfl (fun _ => ?_) | refine au_append rfl rfl rfl rfl (fun _ => au_norm ?_) | refine au_storeE rfl rfl rfl rfl ?_ | refine tri_seq ?_ | refine tri_then ?_ | refine tri_region ?_ | refine tri_nil ?_ | refine tri_skip ?_ | refine tri_ret ?_ | refine tri_exit ?_ | refine tri_thenr ?_ | refine tri_thene ?_ | refine tri_blkn ?_ | refine tri_blkr ?_ | refine tri_blke ?_ | refine tri_blko (by rfl) ?_ | refine tri_if_t (by rfl) ?_ | refine tri_if_f (by rfl) ?_ | ((first | refine tri_cond (by rfl) (fun hc => ?_) (fun hc => ?_) | refine tri_gsplit (by rfl) (by rfl) (by (fail_if_success exact (rfl : _ = some (Value.bool true))); (fail_if_success exact (rfl : _ = some (Value.bool false))); rfl) (fun hc => ?_) (fun hc => ?_)) <;> (try simp only [decide_eq_true_eq, decide_eq_false_iff_not, beq_iff_eq, bne_iff_ne, ne_eq, Bool.not_eq_true', Bool.not_eq_false', beq_eq_false_iff_ne, bne_eq_false_iff_eq, Int.not_lt, Int.not_le, gt_iff_lt, ge_iff_le, Bool.and_eq_true, Bool.or_eq_true, Bool.and_eq_false_iff, Bool.or_eq_false_iff, Decidable.not_not, not_true_eq_false, not_false_eq_true, and_true, true_and, or_false, false_or, or_true, true_or, and_false, false_and, eq_self, Bool.true_eq_false, Bool.false_eq_true] at hc) <;> (try (exfalso; omega))) | fail))
  all_goals
    refine au_done1 rfl ?_
    refine fun w h => ⟨ret_i ?_, h.below⟩
    unfold spanM
    simp_all
theorem place_any (s p : Int) (w : World) : Calls Tryz.prog 60 [.int .i64 s, .int .i64 p].toArray w (Ret (.int .i64 (plcM s p)) w) := by
  refine calls_of_tri Tryz.func60 rfl Tryz.ntmps60 rfl ?_
  (repeat' (first | refine au_pure ?_ | refine au_pass ?_ | refine au_box (fun _ => ?_) | refine au_alloc (fun _ => ?_) | refine au_store ?_ | refine au_make rfl rfl (fun _ => ?_) | refine au_lit rfl rfl rfl (fun _ => ?_) | refine au_append rfl rfl rfl rfl (fun _ => au_norm ?_) | refine au_storeE rfl rfl rfl rfl ?_ | refine tri_seq ?_ | refine tri_then ?_ | refine tri_region ?_ | refine tri_nil ?_ | refine tri_skip ?_ | refine tri_ret ?_ | refine tri_exit ?_ | refine tri_thenr ?_ | refine tri_thene ?_ | refine tri_blkn ?_ | refine tri_blkr ?_ | refine tri_blke ?_ | refine tri_blko (by rfl) ?_ | refine tri_if_t (by rfl) ?_ | refine tri_if_f (by rfl) ?_ | ((first | refine tri_cond (by rfl) (fun hc => ?_) (fun hc => ?_) | refine tri_gsplit (by rfl) (by rfl) (by (fail_if_success exact (rfl : _ = some (Value.bool true))); (fail_if_success exact (rfl : _ = some (Value.bool false))); rfl) (fun hc => ?_) (fun hc => ?_)) <;> (try simp only [decide_eq_true_eq, decide_eq_false_iff_not, beq_iff_eq, bne_iff_ne, ne_eq, Bool.not_eq_true', Bool.not_eq_false', beq_eq_false_iff_ne, bne_eq_false_iff_eq, Int.not_lt, Int.not_le, gt_iff_lt, ge_iff_le, Bool.and_eq_true, Bool.or_eq_true, Bool.and_eq_false_iff, Bool.or_eq_false_iff, Decidable.not_not, not_true_eq_false, not_false_eq_true, and_true, true_and, or_false, false_or, or_true, true_or, and_false, false_and, eq_self, Bool.true_eq_false, Bool.false_eq_true] at hc) <;> (try (exfalso; omega))) | fail))
  all_goals
    refine au_done1 rfl ?_
    refine fun w h => ⟨ret_i ?_, h.below⟩
    unfold plcM spR pgR
    simp only [decide_eq_true_eq]
    first
      | rw [if_neg (by omega)]
      | rw [if_pos (by omega)]
set_option maxHeartbeats 1000000 in
theorem covers_any (x : TE) (s p : Int) (w : World) (hx : Wf x) (hb : x.p ≤ 4611686018427387904) : Calls Tryz.prog 65 [teV x, .int .i64 s, .int .i64 p].toArray w (Ret (.bool (covM x s p)) w) := by
  obtain ⟨xs, xp, v⟩ := x
  obtain ⟨hs, hp, h0, h1⟩ := hx
  dsimp only at hs hp h0 h1
  have hsp := span_bd v
  have hb' : xp ≤ 4611686018427387904 := hb
  have hp' : -9223372036854775808 ≤ xp := hp.1
  dsimp only [teV]
  refine calls_of_tri Tryz.func65 rfl Tryz.ntmps65 rfl ?_
  (repeat (first | refine au_pure ?_ | refine au_pass ?_ | refine au_box (fun _ => ?_) | refine au_alloc (fun _ => ?_) | refine au_store ?_ | refine au_make rfl rfl (fun _ => ?_) | refine au_lit rfl rfl rfl (fun _ => ?_) | refine au_append rfl rfl rfl rfl (fun _ => au_norm ?_) | refine au_storeE rfl rfl rfl rfl ?_ | refine tri_seq ?_ | refine tri_then ?_ | refine tri_region ?_ | refine tri_nil ?_ | refine tri_skip ?_ | refine tri_ret ?_ | refine tri_exit ?_ | refine tri_thenr ?_ | refine tri_thene ?_ | refine tri_blkn ?_ | refine tri_blkr ?_ | refine tri_blke ?_ | refine tri_blko (by rfl) ?_ | refine tri_if_t (by rfl) ?_ | refine tri_if_f (by rfl) ?_ | fail))
  refine au_draw rfl ?_
  (repeat (first | refine au_qpure rfl rfl ?_ | refine au_qpass rfl rfl ?_ | refine triq_nil ?_))
  refine triq_split 11 rfl (fun hc => ?_) (fun hc => ?_)
  · rw [beq_iff_eq] at hc
    (repeat (first | refine au_qpure rfl rfl ?_ | refine au_qpass rfl rfl ?_ | refine triq_nil ?_))
    refine triq_split 17 rfl (fun hc1 => ?_) (fun hc1 => ?_)
    · rw [decide_eq_true_eq] at hc1
      (repeat (first | refine au_qpure rfl rfl ?_ | refine au_qpass rfl rfl ?_ | refine triq_nil ?_))
      refine triq_call rfl rfl (by first | exact wan_plain rfl | exact wan_yes rfl rfl rfl) (cl_of rfl rfl rfl (fun _ h => Ret.hp (span_any _ _ h0 h1) h)) ?_
      (repeat (first | refine au_qpure rfl rfl ?_ | refine au_qpass rfl rfl ?_ | refine triq_nil ?_))
      (repeat (first | refine au_pure ?_ | refine au_pass ?_ | refine au_box (fun _ => ?_) | refine au_alloc (fun _ => ?_) | refine au_store ?_ | refine au_make rfl rfl (fun _ => ?_) | refine au_lit rfl rfl rfl (fun _ => ?_) | refine au_append rfl rfl rfl rfl (fun _ => au_norm ?_) | refine au_storeE rfl rfl rfl rfl ?_ | refine tri_seq ?_ | refine tri_then ?_ | refine tri_region ?_ | refine tri_nil ?_ | refine tri_skip ?_ | refine tri_ret ?_ | refine tri_exit ?_ | refine tri_thenr ?_ | refine tri_thene ?_ | refine tri_blkn ?_ | refine tri_blkr ?_ | refine tri_blke ?_ | refine tri_blko (by rfl) ?_ | refine tri_if_t (by rfl) ?_ | refine tri_if_f (by rfl) ?_ | fail))
      refine au_done1 rfl ?_
      refine fun w h => ⟨ret_b ?_, h.below⟩
      unfold covM
      exact decide_eq_decide.2 ⟨fun h => ⟨hc, by omega, h⟩, fun h => h.2.2⟩
    · rw [decide_eq_false_iff_not] at hc1
      (repeat (first | refine au_qpure rfl rfl ?_ | refine au_qpass rfl rfl ?_ | refine triq_nil ?_))
      (repeat (first | refine au_pure ?_ | refine au_pass ?_ | refine au_box (fun _ => ?_) | refine au_alloc (fun _ => ?_) | refine au_store ?_ | refine au_make rfl rfl (fun _ => ?_) | refine au_lit rfl rfl rfl (fun _ => ?_) | refine au_append rfl rfl rfl rfl (fun _ => au_norm ?_) | refine au_storeE rfl rfl rfl rfl ?_ | refine tri_seq ?_ | refine tri_then ?_ | refine tri_region ?_ | refine tri_nil ?_ | refine tri_skip ?_ | refine tri_ret ?_ | refine tri_exit ?_ | refine tri_thenr ?_ | refine tri_thene ?_ | refine tri_blkn ?_ | refine tri_blkr ?_ | refine tri_blke ?_ | refine tri_blko (by rfl) ?_ | refine tri_if_t (by rfl) ?_ | refine tri_if_f (by rfl) ?_ | fail))
      refine au_done1 rfl ?_
      refine fun w h => ⟨ret_b ?_, h.below⟩
      exact (decide_eq_false (fun h => hc1 h.2.1)).symm
  · rw [beq_eq_false_iff_ne] at hc
    (repeat (first | refine au_qpure rfl rfl ?_ | refine au_qpass rfl rfl ?_ | refine triq_nil ?_))
    (repeat (first | refine au_pure ?_ | refine au_pass ?_ | refine au_box (fun _ => ?_) | refine au_alloc (fun _ => ?_) | refine au_store ?_ | refine au_make rfl rfl (fun _ => ?_) | refine au_lit rfl rfl rfl (fun _ => ?_) | refine au_append rfl rfl rfl rfl (fun _ => au_norm ?_) | refine au_storeE rfl rfl rfl rfl ?_ | refine tri_seq ?_ | refine tri_then ?_ | refine tri_region ?_ | refine tri_nil ?_ | refine tri_skip ?_ | refine tri_ret ?_ | refine tri_exit ?_ | refine tri_thenr ?_ | refine tri_thene ?_ | refine tri_blkn ?_ | refine tri_blkr ?_ | refine tri_blke ?_ | refine tri_blko (by rfl) ?_ | refine tri_if_t (by rfl) ?_ | refine tri_if_f (by rfl) ?_ | fail))
    refine au_done1 rfl ?_
    refine fun w h => ⟨ret_b ?_, h.below⟩
    exact (decide_eq_false (fun h => hc h.1)).symm
set_option maxHeartbeats 1000000 in
theorem overlap_any (x y : TE) (w : World) (hx : Wf x) (hy : Wf y) (bx : x.p ≤ 4611686018427387904) (by_ : y.p ≤ 4611686018427387904) : Calls Tryz.prog 64 [teV x, teV y].toArray w (Ret (.bool (ovM x y)) w) := by
  obtain ⟨xs, xp, v⟩ := x
  obtain ⟨ys, yp, u⟩ := y
  obtain ⟨hs, hp, h0, h1⟩ := hx
  dsimp only at hs hp h0 h1
  obtain ⟨hs', hp', h0', h1'⟩ := hy
  dsimp only at hs' hp' h0' h1'
  have hsp := span_bd v
  have hsp' := span_bd u
  have bx' : -9223372036854775808 ≤ xp ∧ xp ≤ 4611686018427387904 := ⟨hp.1, bx⟩
  have by' : -9223372036854775808 ≤ yp ∧ yp ≤ 4611686018427387904 := ⟨hp'.1, by_⟩
  dsimp only [teV]
  refine calls_of_tri Tryz.func64 rfl Tryz.ntmps64 rfl ?_
  (repeat (first | refine au_pure ?_ | refine au_pass ?_ | refine au_box (fun _ => ?_) | refine au_alloc (fun _ => ?_) | refine au_store ?_ | refine au_make rfl rfl (fun _ => ?_) | refine au_lit rfl rfl rfl (fun _ => ?_) | refine au_append rfl rfl rfl rfl (fun _ => au_norm ?_) | refine au_storeE rfl rfl rfl rfl ?_ | refine tri_seq ?_ | refine tri_then ?_ | refine tri_region ?_ | refine tri_nil ?_ | refine tri_skip ?_ | refine tri_ret ?_ | refine tri_exit ?_ | refine tri_thenr ?_ | refine tri_thene ?_ | refine tri_blkn ?_ | refine tri_blkr ?_ | refine tri_blke ?_ | refine tri_blko (by rfl) ?_ | refine tri_if_t (by rfl) ?_ | refine tri_if_f (by rfl) ?_ | fail))
  refine au_draw rfl ?_
  (repeat (first | refine au_qpure rfl rfl ?_ | refine au_qpass rfl rfl ?_ | refine triq_nil ?_))
  refine triq_split 10 rfl (fun hc => ?_) (fun hc => ?_)
  · rw [beq_iff_eq] at hc
    (repeat (first | refine au_qpure rfl rfl ?_ | refine au_qpass rfl rfl ?_ | refine triq_nil ?_))
    refine triq_call rfl rfl (by first | exact wan_plain rfl | exact wan_yes rfl rfl rfl) (cl_of rfl rfl rfl (fun _ h => Ret.hp (span_any _ _ h0' h1') h)) ?_
    (repeat (first | refine au_qpure rfl rfl ?_ | refine au_qpass rfl rfl ?_ | refine triq_nil ?_))
    refine triq_split 21 rfl (fun hc1 => ?_) (fun hc1 => ?_)
    · rw [decide_eq_true_eq] at hc1
      (repeat (first | refine au_qpure rfl rfl ?_ | refine au_qpass rfl rfl ?_ | refine triq_nil ?_))
      refine triq_call rfl rfl (by first | exact wan_plain rfl | exact wan_yes rfl rfl rfl) (cl_of rfl rfl rfl (fun _ h => Ret.hp (span_any _ _ h0 h1) h)) ?_
      (repeat (first | refine au_qpure rfl rfl ?_ | refine au_qpass rfl rfl ?_ | refine triq_nil ?_))
      (repeat (first | refine au_pure ?_ | refine au_pass ?_ | refine au_box (fun _ => ?_) | refine au_alloc (fun _ => ?_) | refine au_store ?_ | refine au_make rfl rfl (fun _ => ?_) | refine au_lit rfl rfl rfl (fun _ => ?_) | refine au_append rfl rfl rfl rfl (fun _ => au_norm ?_) | refine au_storeE rfl rfl rfl rfl ?_ | refine tri_seq ?_ | refine tri_then ?_ | refine tri_region ?_ | refine tri_nil ?_ | refine tri_skip ?_ | refine tri_ret ?_ | refine tri_exit ?_ | refine tri_thenr ?_ | refine tri_thene ?_ | refine tri_blkn ?_ | refine tri_blkr ?_ | refine tri_blke ?_ | refine tri_blko (by rfl) ?_ | refine tri_if_t (by rfl) ?_ | refine tri_if_f (by rfl) ?_ | fail))
      refine au_done1 rfl ?_
      refine fun w h => ⟨ret_b ?_, h.below⟩
      unfold ovM
      exact decide_eq_decide.2 ⟨fun h => ⟨hc, hc1, h⟩, fun h => h.2.2⟩
    · rw [decide_eq_false_iff_not] at hc1
      (repeat (first | refine au_qpure rfl rfl ?_ | refine au_qpass rfl rfl ?_ | refine triq_nil ?_))
      (repeat (first | refine au_pure ?_ | refine au_pass ?_ | refine au_box (fun _ => ?_) | refine au_alloc (fun _ => ?_) | refine au_store ?_ | refine au_make rfl rfl (fun _ => ?_) | refine au_lit rfl rfl rfl (fun _ => ?_) | refine au_append rfl rfl rfl rfl (fun _ => au_norm ?_) | refine au_storeE rfl rfl rfl rfl ?_ | refine tri_seq ?_ | refine tri_then ?_ | refine tri_region ?_ | refine tri_nil ?_ | refine tri_skip ?_ | refine tri_ret ?_ | refine tri_exit ?_ | refine tri_thenr ?_ | refine tri_thene ?_ | refine tri_blkn ?_ | refine tri_blkr ?_ | refine tri_blke ?_ | refine tri_blko (by rfl) ?_ | refine tri_if_t (by rfl) ?_ | refine tri_if_f (by rfl) ?_ | fail))
      refine au_done1 rfl ?_
      refine fun w h => ⟨ret_b ?_, h.below⟩
      exact (decide_eq_false (fun h => hc1 h.2.1)).symm
  · rw [beq_eq_false_iff_ne] at hc
    (repeat (first | refine au_qpure rfl rfl ?_ | refine au_qpass rfl rfl ?_ | refine triq_nil ?_))
    (repeat (first | refine au_pure ?_ | refine au_pass ?_ | refine au_box (fun _ => ?_) | refine au_alloc (fun _ => ?_) | refine au_store ?_ | refine au_make rfl rfl (fun _ => ?_) | refine au_lit rfl rfl rfl (fun _ => ?_) | refine au_append rfl rfl rfl rfl (fun _ => au_norm ?_) | refine au_storeE rfl rfl rfl rfl ?_ | refine tri_seq ?_ | refine tri_then ?_ | refine tri_region ?_ | refine tri_nil ?_ | refine tri_skip ?_ | refine tri_ret ?_ | refine tri_exit ?_ | refine tri_thenr ?_ | refine tri_thene ?_ | refine tri_blkn ?_ | refine tri_blkr ?_ | refine tri_blke ?_ | refine tri_blko (by rfl) ?_ | refine tri_if_t (by rfl) ?_ | refine tri_if_f (by rfl) ?_ | fail))
    refine au_done1 rfl ?_
    refine fun w h => ⟨ret_b ?_, h.below⟩
    exact (decide_eq_false (fun h => hc h.1)).symm
end Go.Proofs.YtbgjelhefhcnpaaGreat
