/- Texts joined: ShVl, ShVl2. Each part's own remark says what it proves. -/
import Derived.Test.YtojfaelafakemaaM22
import Derived.Test.YtojfaelafakemaaM24
/- The shootdown machine in plain Lean: every operation keeps it valid. No conditions. -/
set_option linter.unusedSimpArgs false
set_option linter.unusedVariables false
namespace Go.Proofs.Ytojfaelafakemaa
open Go Go.RowKit
/- Masks. -/
theorem bit_add {a : Int} {k c : Nat} (ha : 0 ≤ a ∧ a < 2 ^ k) (hk : k < 4) (hc : c < 4) : bitA (a + 2 ^ k) c = (c == k || bitA a c) := by
  have h4 := (pow_le (c := k) (by omega)).2
  obtain ⟨n, rfl, h⟩ := fin2 (fun n c => (List.range 4).all fun k => !(decide ((n : Int) < 2 ^ k)) || bitA ((n : Int) + 2 ^ k) c == (c == k || bitA (n : Int) c)) (by kernel_rfl) (a := a) ⟨ha.1, by omega⟩ hc
  have h := List.all_eq_true.1 h k (List.mem_range.2 hk)
  rw [decide_eq_true ha.2] at h
  simpa using h
theorem bit_sub {a : Int} {c d : Nat} (ha : 0 ≤ a ∧ a < 16) (hc : c < 4) (hd : d < 4) (hb : bitA a c = true) : bitA (a - 2 ^ c) d = (!(d == c) && bitA a d) ∧ 0 ≤ a - 2 ^ c := by
  obtain ⟨n, rfl, h⟩ := fin2 (fun n c => (List.range 4).all fun d => !(bitA (n : Int) c) || (bitA ((n : Int) - 2 ^ c) d == (!(d == c) && bitA (n : Int) d) && decide (0 ≤ (n : Int) - 2 ^ c))) (by kernel_rfl) ha hc
  have h := List.all_eq_true.1 h d (List.mem_range.2 hd)
  rw [hb] at h
  simpa using h
theorem bit_ex {a : Int} {k : Nat} (ha : 1 ≤ a ∧ a < 2 ^ k) (hk : k ≤ 4) : ∃ c, c < k ∧ bitA a c = true := by
  have h4 := (pow_le (c := k) (by omega)).2
  obtain ⟨n, rfl, h⟩ := fin2 (fun n _ => (List.range 5).all fun k => !(decide (1 ≤ (n : Int) ∧ (n : Int) < 2 ^ k)) || (List.range k).any (bitA (n : Int))) (by kernel_rfl) (a := a) (c := 0) ⟨by omega, by omega⟩ (by decide)
  have h := List.all_eq_true.1 h k (List.mem_range.2 (by omega))
  rw [decide_eq_true ha] at h
  simp only [Bool.not_true, Bool.false_or] at h
  obtain ⟨c, hc, hb⟩ := List.any_eq_true.1 h
  exact ⟨c, List.mem_range.1 hc, hb⟩
theorem bit_one {a : Int} {c : Nat} (ha : 0 ≤ a ∧ a < 16) (hc : c < 4) (h : a = 2 ^ c) : bitA a c = true := by
  have hc' : c = 0 ∨ c = 1 ∨ c = 2 ∨ c = 3 := by omega
  rcases hc' with rfl | rfl | rfl | rfl <;> subst h <;> decide
theorem bit_zero (c : Nat) : bitA 0 c = false := by unfold bitA; simp
section
variable {m : SM} {p : Int}
theorem ntf_bit : ∀ k, k ≤ 4 → ∀ c, c < 4 → bitA (ntfM m p k).2 c = (decide (c < k) && covsM m c p)
  | 0, _, c, _ => by show bitA 0 c = _; rw [bit_zero]; simp
  | k + 1, hk, c, hc => by
    have ih := ntf_bit k (by omega) c hc
    cases h : covsM m k p
    · rw [ntf_no h, ih]
      by_cases e : c = k
      · subst e; rw [h]; simp
      · rw [show decide (c < k + 1) = decide (c < k) by rw [decide_eq_decide]; omega]
    · rw [ntf_yes h]
      show bitA ((ntfM m p k).2 + 2 ^ k) c = _
      rw [bit_add (ntf_bd k) (by omega) hc, ih]
      by_cases e : c = k
      · subst e; rw [h]; simp
      · rw [show decide (c < k + 1) = decide (c < k) by rw [decide_eq_decide]; omega, show (c == k) = false by simpa using e]; rfl
theorem ntf_pd : ∀ k, k ≤ m.pd.length → ∀ j, (ntfM m p k).1.getD j default = if j < k ∧ covsM m j p = true then m.pd.getD j default ++ [⟨0, p, false⟩] else m.pd.getD j default
  | 0, _, j => by rw [if_neg (by omega)]; rfl
  | k + 1, hk, j => by
    have ih := ntf_pd k (by omega) j
    cases h : covsM m k p
    · rw [ntf_no h, ih]
      by_cases e : j = k
      · subst e; rw [if_neg (by omega), if_neg (by rw [h]; simp)]
      · by_cases e2 : j < k ∧ covsM m j p = true
        · rw [if_pos e2, if_pos ⟨by omega, e2.2⟩]
        · rw [if_neg e2, if_neg (fun x => e2 ⟨by omega, x.2⟩)]
    · rw [ntf_yes h]
      show (((ntfM m p k).1.set k ((m.pd.getD k default) ++ [⟨0, p, false⟩])).getD j default) = _
      rw [gd_set (by rw [ntf_len]; omega)]
      by_cases e : k = j
      · subst e; rw [if_pos rfl, if_pos ⟨by omega, h⟩]
      · rw [if_neg e, ih]
        by_cases e2 : j < k ∧ covsM m j p = true
        · rw [if_pos e2, if_pos ⟨by omega, e2.2⟩]
        · rw [if_neg e2, if_neg (fun x => e2 ⟨by omega, x.2⟩)]
end
theorem usedT_iff {m : SM} {k : Nat} {f : Int} : usedT m k f = true ↔ ∃ p, p < k ∧ frM m p = f := by
  unfold usedT
  rw [List.any_eq_true]
  constructor
  · rintro ⟨p, hp, h⟩; exact ⟨p, List.mem_range.1 hp, by simpa using h⟩
  · rintro ⟨p, hp, h⟩; exact ⟨p, List.mem_range.2 hp, by simpa using h⟩
theorem usedL_iff {m : SM} {k : Nat} {f : Int} : usedL m k f = true ↔ ∃ x ∈ m.lm.take k, x.f = f := by
  unfold usedL
  rw [List.any_eq_true]
  constructor
  · rintro ⟨p, hp, h⟩; exact ⟨p, hp, by simpa using h⟩
  · rintro ⟨p, hp, h⟩; exact ⟨p, hp, by simpa using h⟩
theorem freeB_iff {m : SM} {f : Int} : freeB m f = true ↔ (∀ p, p < m.tb.length → frM m p ≠ f) ∧ ∀ x ∈ m.lm, x.f ≠ f := by
  unfold freeB
  rw [Bool.not_eq_true', Bool.or_eq_false_iff]
  constructor
  · rintro ⟨h1, h2⟩
    refine ⟨fun p hp e => ?_, fun x hx e => ?_⟩
    · rw [usedT_iff.2 ⟨p, hp, e⟩] at h1; cases h1
    · rw [usedL_iff.2 ⟨x, by rw [List.take_length]; exact hx, e⟩] at h2; cases h2
  · rintro ⟨h1, h2⟩
    constructor
    · cases h : usedT m m.tb.length f
      · rfl
      · obtain ⟨p, hp, e⟩ := usedT_iff.1 h; exact absurd e (h1 p hp)
    · cases h : usedL m m.lm.length f
      · rfl
      · obtain ⟨x, hx, e⟩ := usedL_iff.1 h; exact absurd e (h2 x (List.mem_of_mem_take hx))
/-- A cached translation that is covered. -/
def Cv (m : SM) (c : Nat) (t : TE) : Prop := freshM m t = true ∨ ((∃ v ∈ m.pd.getD c default, v.p = t.p) ∧ (sameM m t = true ∨ ∃ x ∈ m.lm, x.f = (decR t.w).1.n ∧ bitA x.a c = true))
theorem cover_iff {m : SM} {c : Nat} {t : TE} : coverM m c t = true ↔ Cv m c t := by
  unfold coverM Cv owesM waitM
  simp only [Bool.or_eq_true, Bool.and_eq_true, List.any_eq_true, beq_iff_eq]
/-- A valid machine, in propositions. -/
structure Vp (m : SM) : Prop where
  r : 1 ≤ m.tl.length ∧ m.tl.length ≤ 4 ∧ m.pd.length = m.tl.length ∧ 1 ≤ m.wd.length ∧ m.wd.length ≤ 256 ∧ 1 ≤ m.tb.length ∧ m.tb.length ≤ 512
  en : ∀ p, p < m.tb.length → enOk m.wd.length (tbW m p) = true
  tl : ∀ c, c < m.tl.length → Ok (m.tl.getD c default).z (m.tl.getD c default).l ∧ ∀ t ∈ (m.tl.getD c default).l, pgOk m.wd.length t.w = true ∧ t.s = 0 ∧ 0 ≤ t.p ∧ t.p < m.tb.length
  pd : ∀ c, c < m.tl.length → ∀ v ∈ m.pd.getD c default, v.s = 0 ∧ 0 ≤ v.p ∧ v.p < m.tb.length ∧ v.o = false
  dj : ∀ p p', p < p' → p' < m.tb.length → 0 ≤ frM m p' → frM m p ≠ frM m p'
  lm : ∀ x ∈ m.lm, (0 ≤ x.f ∧ x.f < m.wd.length) ∧ (∀ p, p < m.tb.length → frM m p ≠ x.f) ∧ (1 ≤ x.a ∧ x.a < 2 ^ m.tl.length) ∧ ∀ c, c < m.tl.length → bitA x.a c = true → m.pd.getD c default ≠ []
  nd : (m.lm.map (·.f)).Nodup
  cv : ∀ c, c < m.tl.length → ∀ t ∈ (m.tl.getD c default).l, Cv m c t
theorem Vl.vp {m : SM} (h : Vl m) : Vp m where
  r := h.r
  en := fun p hp => by
    have := h.frm
    unfold formM at this
    simp only [Bool.and_eq_true] at this
    exact all_get.1 this.1 p hp
  tl := fun c hc => h.tlb hc
  pd := fun c hc => pd_ok h (by have := h.r; omega)
  dj := fun p p' hpp hp' h0 e => by
    have := h.lim
    unfold limM at this
    rw [Bool.and_eq_true] at this
    have h1 := List.all_eq_true.1 this.1 p' (List.mem_range.2 hp')
    unfold dupT at h1
    rw [decide_eq_true h0, usedT_iff.2 ⟨p, hpp, e⟩] at h1
    cases h1
  lm := fun x hx => by
    obtain ⟨i, hi, rfl⟩ := List.getElem_of_mem hx
    have h1 := h.lb hi
    rw [lbOk_eq, getD_get hi] at h1
    simp only [Bool.and_eq_true, decide_eq_true_eq, Bool.not_eq_true', Bool.or_eq_false_iff] at h1
    refine ⟨h1.1, fun p hp e => ?_, h1.2.2.1, fun c hc hb e => ?_⟩
    · have := h1.2.1.1
      rw [usedT_iff.2 ⟨p, hp, e⟩] at this
      cases this
    · have := List.all_eq_true.1 h1.2.2.2 c (List.mem_range.2 hc)
      rw [hb, e] at this
      cases this
  nd := h.nd
  cv := fun c hc t ht => by
    have := h.cov
    unfold coversM at this
    exact cover_iff.1 (List.all_eq_true.1 (List.all_eq_true.1 this c (List.mem_range.2 hc)) t ht)
theorem Vp.vl {m : SM} (h : Vp m) : Vl m where
  rng := by unfold rangeM; exact decide_eq_true h.r
  frm := by
    refine form_yes h.en (fun c hc => ?_) fun c hc => ?_
    · obtain ⟨h1, h2⟩ := h.tl c hc
      unfold tlOk
      rw [check_ok.2 h1]
      refine List.all_eq_true.2 fun t ht => ?_
      obtain ⟨a, b, _, d⟩ := h2 t ht
      unfold teOk
      rw [a, b, decide_eq_true d]; rfl
    · refine List.all_eq_true.2 fun v hv => ?_
      unfold ivOk
      exact decide_eq_true (h.pd c (by have := h.r; omega) v hv)
  lim := by
    refine lim_yes (fun p hp => ?_) fun i hi => ?_
    · unfold dupT
      by_cases h0 : 0 ≤ frM m p
      · rw [decide_eq_true h0, Bool.true_and]
        cases h1 : usedT m p (frM m p)
        · rfl
        · obtain ⟨p', hp', e⟩ := usedT_iff.1 h1; exact absurd e (h.dj p' p hp' hp h0)
      · rw [decide_eq_false h0, Bool.false_and]
    · have hx : m.lm.getD i default ∈ m.lm := by rw [getD_get hi]; exact List.getElem_mem hi
      obtain ⟨a, b, c, d⟩ := h.lm _ hx
      have e1 : usedT m m.tb.length (m.lm.getD i default).f = false := by
        cases h1 : usedT m m.tb.length (m.lm.getD i default).f
        · rfl
        · obtain ⟨p', hp', e⟩ := usedT_iff.1 h1; exact absurd e (b p' hp')
      have e2 : usedL m i (m.lm.getD i default).f = false := by
        cases h1 : usedL m i (m.lm.getD i default).f
        · rfl
        · obtain ⟨x, hx, e⟩ := usedL_iff.1 h1
          rw [List.mem_take_iff_getElem] at hx
          obtain ⟨j, hj, rfl⟩ := hx
          have hn := List.pairwise_iff_getElem.1 (List.nodup_iff_pairwise_ne.1 h.nd) j i (by rw [List.length_map]; omega) (by rw [List.length_map]; omega) (by omega)
          rw [List.getElem_map, List.getElem_map] at hn
          rw [getD_get hi] at e
          exact absurd e hn
      rw [lbOk_eq, decide_eq_true a, e1, e2, decide_eq_true c]
      refine List.all_eq_true.2 fun k hk => ?_
      cases hb : bitA (m.lm.getD i default).a k
      · rfl
      · have := d k (List.mem_range.1 hk) hb
        cases hq : m.pd.getD k default with
        | nil => exact absurd hq this
        | cons _ _ => rfl
  cov := by
    unfold coversM
    exact List.all_eq_true.2 fun c hc => List.all_eq_true.2 fun t ht => cover_iff.2 (h.cv c (List.mem_range.1 hc) t ht)
theorem vp_iff {m : SM} : schk m = 0 ↔ Vp m := schk_zero.trans ⟨Vl.vp, Vp.vl⟩
section
variable {m m' : SM}
theorem fr_same (hn : m'.wd.length = m.wd.length) {p : Nat} (ht : tbW m' p = tbW m p) : frM m' p = frM m p := by unfold frM; rw [hn, ht]
theorem same_same (hn : m'.wd.length = m.wd.length) {t : TE} (ht : tbW m' t.p.toNat = tbW m t.p.toNat) : sameM m' t = sameM m t := by unfold sameM; rw [hn, ht]
theorem fresh_same (hn : m'.wd.length = m.wd.length) {t : TE} (ht : tbW m' t.p.toNat = tbW m t.p.toNat) : freshM m' t = freshM m t := by unfold freshM; rw [same_same hn ht, ht]
theorem fresh_to (hn : m'.wd.length = m.wd.length) {t : TE} (ht : tbW m' t.p.toNat = tbW m t.p.toNat) (x : freshM m t = true) : freshM m' t = true := (fresh_same hn ht).trans x
theorem same_to (hn : m'.wd.length = m.wd.length) {t : TE} (ht : tbW m' t.p.toNat = tbW m t.p.toNat) (x : sameM m t = true) : sameM m' t = true := (same_same hn ht).trans x
theorem fresh_is {t : TE} (h : freshM m t = true) : sameM m t = true := by
  unfold freshM at h
  rw [Bool.and_eq_true] at h
  exact h.1
theorem same_fr {t : TE} (h : sameM m t = true) : pgOk m.wd.length (tbW m t.p.toNat) = true ∧ (decR (tbW m t.p.toNat)).1.n = (decR t.w).1.n := by
  unfold sameM at h
  simpa using h
theorem Cv.mono {c : Nat} {t : TE} (h : Cv m c t) (hf : freshM m t = true → freshM m' t = true) (hs : sameM m t = true → sameM m' t = true) (hp : ∀ v ∈ m.pd.getD c default, ∃ v' ∈ m'.pd.getD c default, v'.p = v.p) (hl : ∀ x ∈ m.lm, bitA x.a c = true → ∃ x' ∈ m'.lm, x'.f = x.f ∧ bitA x'.a c = true) : Cv m' c t := by
  rcases h with h | ⟨⟨v, hv, e⟩, h⟩
  · exact .inl (hf h)
  · obtain ⟨v', hv', e'⟩ := hp v hv
    refine .inr ⟨⟨v', hv', by rw [e', e]⟩, ?_⟩
    rcases h with h | ⟨x, hx, ex, hb⟩
    · exact .inl (hs h)
    · obtain ⟨x', hx', e1, e2⟩ := hl x hx hb
      exact .inr ⟨x', hx', by rw [e1, ex], e2⟩
variable (h : Vp m)
include h
theorem Vp.dj2 {p p' : Nat} (hp : p < m.tb.length) (hp' : p' < m.tb.length) (hne : p ≠ p') (h0 : 0 ≤ frM m p) : frM m p ≠ frM m p' := by
  rcases Nat.lt_or_ge p p' with hl | hl
  · intro e; exact h.dj p p' hl hp' (by omega) e
  · intro e; exact h.dj p' p (by omega) hp h0 e.symm
theorem Vp.cov {c : Nat} (hc : c < m.tl.length) {t : TE} (ht : t ∈ (m.tl.getD c default).l) (p : Int) : covM t 0 p = true ↔ t.p = p := by
  obtain ⟨h1, h2, h3, h4⟩ := (h.tl c hc).2 t ht
  unfold covM spanM
  rw [(tr_pg h1).2, decide_eq_true_eq]
  simp only [Bool.false_eq_true, if_false]
  omega
theorem Vp.covs {c : Nat} (hc : c < m.tl.length) (p : Int) : covsM m c p = true ↔ ∃ t ∈ (m.tl.getD c default).l, t.p = p := by
  unfold covsM
  rw [look_ok (h.tl c hc).1]
  constructor
  · intro h1
    obtain ⟨t, ht, hc', _⟩ := look_mem h1
    exact ⟨t, ht, (h.cov hc ht p).1 hc'⟩
  · rintro ⟨t, ht, e⟩
    unfold lookL
    cases hf : (m.tl.getD c default).l.find? (fun x => covM x 0 p) with
    | none =>
      rw [List.find?_eq_none] at hf
      exact absurd ((h.cov hc ht p).2 e) (hf t ht)
    | some _ => rfl
omit h in
theorem fr_pg {p : Nat} (h0 : 0 ≤ frM m p) : pgOk m.wd.length (tbW m p) = true ∧ frM m p = (decR (tbW m p)).1.n := by
  cases hp : pgOk m.wd.length (tbW m p)
  · rw [frM_no hp] at h0; omega
  · exact ⟨rfl, frM_yes hp⟩
end
end Go.Proofs.Ytojfaelafakemaa

/- The shootdown machine in plain Lean: map, unmap, protect, access, acknowledge and new keep it valid. No conditions. -/
set_option linter.unusedSimpArgs false
set_option linter.unusedVariables false
namespace Go.Proofs.Ytojfaelafakemaa
open Go Go.RowKit
attribute [local irreducible] decR encS markR mkL invL
theorem pg_fld {n : Nat} {w : Int} (h : pgOk n w = true) : (decR w).2 = 0 ∧ (decR w).1.k = 1 ∧ (decR w).1.d = false ∧ (decR w).1.n < n := by
  unfold pgOk at h
  exact of_decide_eq_true h
theorem pg_of {n : Nat} {w : Int} (h : (decR w).2 = 0 ∧ (decR w).1.k = 1 ∧ (decR w).1.d = false ∧ (decR w).1.n < n) : pgOk n w = true := by
  unfold pgOk
  exact decide_eq_true h
theorem pg_word {n : Nat} (hn : n ≤ 256) {f : Int} (hf : 0 ≤ f ∧ f < n) (a b c : Bool) : decR (encS 1 f a b c false).1 = (⟨1, f, a, b, c, false⟩, 0) := by
  have hr : rngB 1 f false = false := by
    unfold rngB
    rw [decide_eq_false (by omega), decide_eq_false (by omega)]; rfl
  have he := enc_ok (k := 1) (n := f) (a := a) (b := b) (c := c) (d := false) (by decide) (by decide) hr rfl
  exact (inv_enc (v := (encS 1 f a b c false).1) (by rw [he])).1
theorem en_pg {n : Nat} {w : Int} (h : pgOk n w = true) : enOk n w = true := by unfold enOk; rw [h, Bool.or_true]
theorem dec_zero : decR 0 = (noEnt, 0) := by unfold decR; kernel_rfl
theorem en_zero (n : Nat) : enOk n 0 = true := by
  unfold enOk
  rw [dec_zero]; rfl
theorem pg_zero (n : Nat) : pgOk n 0 = false := by
  unfold pgOk
  rw [dec_zero]
  exact decide_eq_false (by simp [noEnt])
theorem tb_set {m : SM} {T : List TL} {P : List (List IV)} {L : List LB} {W : List Int} {p : Nat} (hp : p < m.tb.length) (w : Int) (j : Nat) : tbW ⟨m.tb.set p ⟨w⟩, T, P, L, W⟩ j = if p = j then w else tbW m j := by
  unfold tbW
  show ((m.tb.set p ⟨w⟩).getD j default).v = _
  rw [gd_set hp]
  split <;> rfl
section
variable {m : SM} (h : Vp m)
include h
theorem map_vp {p f W : Int} (hp : 0 ≤ p ∧ p < m.tb.length) (hf : 0 ≤ f ∧ f < m.wd.length) (hno : pgOk m.wd.length (tbW m p.toNat) = false) (hfr : freeB m f = true) (hW : pgOk m.wd.length W = true) (hWn : (decR W).1.n = f) :
    Vp { m with tb := m.tb.set p.toNat ⟨W⟩, wd := m.wd.set f.toNat 0 } := by
  obtain ⟨hf1, hf2⟩ := freeB_iff.1 hfr
  have hpn : p.toNat < m.tb.length := by omega
  have hl : (m.wd.set f.toNat 0).length = m.wd.length := List.length_set
  have hq : (m.tb.set p.toNat (⟨W⟩ : W64)).length = m.tb.length := List.length_set
  have ht : ∀ j, tbW { m with tb := m.tb.set p.toNat ⟨W⟩, wd := m.wd.set f.toNat 0 } j = if p.toNat = j then W else tbW m j := tb_set hpn W
  have hfm : ∀ j, frM { m with tb := m.tb.set p.toNat ⟨W⟩, wd := m.wd.set f.toNat 0 } j = if p.toNat = j then f else frM m j := fun j => by
    unfold frM
    show frW (m.wd.set f.toNat 0).length _ = _
    rw [hl, ht]
    by_cases e : p.toNat = j
    · rw [if_pos e, if_pos e]; unfold frW; rw [if_pos hW, hWn]
    · rw [if_neg e, if_neg e]
  refine ⟨?_, fun j hj => ?_, fun c hc => ?_, fun c hc v hv => ?_, fun j j' hjj hj' h0 => ?_, fun x hx => ?_, h.nd, fun c hc t ht' => ?_⟩
  · have := h.r
    simp only [hl, hq]
    exact this
  · simp only [hl]
    rw [ht]
    split
    · exact en_pg hW
    · simp only [hq] at hj; exact h.en j hj
  · simp only [hl, hq]; exact h.tl c hc
  · simp only [hq]; exact h.pd c hc v hv
  · simp only [hq] at hj'
    rw [hfm] at h0
    rw [hfm, hfm]
    by_cases e : p.toNat = j
    · rw [if_pos e, if_neg (by omega)]
      exact fun x => hf1 j' hj' x.symm
    · rw [if_neg e]
      by_cases e' : p.toNat = j'
      · rw [if_pos e']; exact hf1 j (by omega)
      · rw [if_neg e'] at h0 ⊢; exact h.dj j j' hjj hj' h0
  · obtain ⟨a, b, c, d⟩ := h.lm x hx
    simp only [hl, hq]
    refine ⟨a, fun j hj => ?_, c, d⟩
    rw [hfm]
    split
    · exact fun e => hf2 x hx e.symm
    · exact b j hj
  · have hc1 := h.cv c hc t ht'
    by_cases e : p.toNat = t.p.toNat
    · have hns : ¬ sameM m t = true := fun x => by
        have := (same_fr x).1
        rw [← e, hno] at this
        cases this
      rcases hc1 with x | ⟨x, y⟩
      · exact absurd (fresh_is x) hns
      · rcases y with y | y
        · exact absurd y hns
        · exact .inr ⟨x, .inr y⟩
    · have e1 : tbW { m with tb := m.tb.set p.toNat ⟨W⟩, wd := m.wd.set f.toNat 0 } t.p.toNat = tbW m t.p.toNat := by rw [ht, if_neg e]
      exact hc1.mono (fun x => by rw [fresh_same hl e1]; exact x) (fun x => by rw [same_same hl e1]; exact x) (fun v hv => ⟨v, hv, rfl⟩) fun x hx hb => ⟨x, hx, rfl, hb⟩
omit h in
theorem notify_pd (p : Int) (hl : m.pd.length = m.tl.length) {c : Nat} (hc : c < m.tl.length) : (ntfM m p m.tl.length).1.getD c default = if covsM m c p = true then m.pd.getD c default ++ [⟨0, p, false⟩] else m.pd.getD c default := by
  rw [ntf_pd _ (by omega)]
  by_cases e : covsM m c p = true
  · rw [if_pos ⟨hc, e⟩, if_pos e]
  · rw [if_neg (fun x => e x.2), if_neg e]
omit h in
theorem notify_mem {p : Int} (hl : m.pd.length = m.tl.length) {c : Nat} (hc : c < m.tl.length) {v : IV} : v ∈ (ntfM m p m.tl.length).1.getD c default ↔ v ∈ m.pd.getD c default ∨ (covsM m c p = true ∧ v = ⟨0, p, false⟩) := by
  rw [notify_pd p hl hc]
  by_cases e : covsM m c p = true
  · rw [if_pos e, List.mem_append, List.mem_singleton]
    constructor
    · rintro (x | x)
      · exact .inl x
      · exact .inr ⟨e, x⟩
    · rintro (x | ⟨_, x⟩)
      · exact .inl x
      · exact .inr x
  · rw [if_neg e]
    constructor
    · exact .inl
    · rintro (x | ⟨x, _⟩)
      · exact x
      · exact absurd x e
theorem unmap_vp {p : Int} (hp : 0 ≤ p ∧ p < m.tb.length) (hpg : pgOk m.wd.length (tbW m p.toNat) = true) :
    Vp { m with tb := m.tb.set p.toNat ⟨0⟩, pd := (ntfM m p m.tl.length).1, lm := if (ntfM m p m.tl.length).2 = 0 then m.lm else m.lm ++ [⟨(tgtX m p).n, (ntfM m p m.tl.length).2⟩] } := by
  have hr := h.r
  have hpn : p.toNat < m.tb.length := by omega
  have hfp : frM m p.toNat = (tgtX m p).n := frM_yes hpg
  have hfb := pg_bd hpg
  have hpl := hr.2.2.1
  have hbd := ntf_bd (m := m) (p := p) m.tl.length
  have hbit : ∀ c, c < m.tl.length → bitA (ntfM m p m.tl.length).2 c = covsM m c p := fun c hc => by
    rw [ntf_bit _ hr.2.1 c (by omega), decide_eq_true hc, Bool.true_and]
  have hL : ∀ x, x ∈ (if (ntfM m p m.tl.length).2 = 0 then m.lm else m.lm ++ [⟨(tgtX m p).n, (ntfM m p m.tl.length).2⟩]) ↔ x ∈ m.lm ∨ (¬ (ntfM m p m.tl.length).2 = 0 ∧ x = ⟨(tgtX m p).n, (ntfM m p m.tl.length).2⟩) := fun x => by
    split
    · rename_i e
      constructor
      · exact .inl
      · rintro (y | y)
        · exact y
        · exact absurd e y.1
    · rename_i e
      rw [List.mem_append, List.mem_singleton]
      constructor
      · rintro (y | y)
        · exact .inl y
        · exact .inr ⟨e, y⟩
      · rintro (y | y)
        · exact .inl y
        · exact .inr y.2
  generalize hG : (if (ntfM m p m.tl.length).2 = 0 then m.lm else m.lm ++ [(⟨(tgtX m p).n, (ntfM m p m.tl.length).2⟩ : LB)]) = G at hL
  have hq : (m.tb.set p.toNat (⟨0⟩ : W64)).length = m.tb.length := List.length_set
  have ht : ∀ j, tbW { m with tb := m.tb.set p.toNat ⟨0⟩, pd := (ntfM m p m.tl.length).1, lm := G } j = if p.toNat = j then 0 else tbW m j := tb_set hpn 0
  have hfm : ∀ j, frM { m with tb := m.tb.set p.toNat ⟨0⟩, pd := (ntfM m p m.tl.length).1, lm := G } j = if p.toNat = j then -1 else frM m j := fun j => by
    unfold frM
    show frW m.wd.length _ = _
    rw [ht]
    by_cases e : p.toNat = j
    · rw [if_pos e, if_pos e]; unfold frW; rw [if_neg (by rw [pg_zero]; simp)]
    · rw [if_neg e, if_neg e]
  refine ⟨?_, fun j hj => ?_, fun c hc => ?_, fun c hc v hv => ?_, fun j j' hjj hj' h0 => ?_, fun x hx => ?_, ?_, fun c hc t ht' => ?_⟩
  · simp only [hq, ntf_len]
    exact hr
  · show enOk m.wd.length _ = true
    rw [ht]
    split
    · exact en_zero _
    · simp only [hq] at hj; exact h.en j hj
  · simp only [hq]; exact h.tl c hc
  · simp only [hq]
    rcases (notify_mem hpl hc).1 hv with e | ⟨_, rfl⟩
    · exact h.pd c hc v e
    · exact ⟨rfl, hp.1, hp.2, rfl⟩
  · simp only [hq] at hj'
    rw [hfm] at h0
    rw [hfm, hfm]
    by_cases e' : p.toNat = j'
    · rw [if_pos e'] at h0; omega
    · rw [if_neg e'] at h0 ⊢
      split
      · omega
      · exact h.dj j j' hjj hj' h0
  · show (0 ≤ x.f ∧ x.f < m.wd.length) ∧ (∀ j, j < (m.tb.set p.toNat (⟨0⟩ : W64)).length → _) ∧ (1 ≤ x.a ∧ x.a < 2 ^ m.tl.length) ∧ ∀ c, c < m.tl.length → bitA x.a c = true → (ntfM m p m.tl.length).1.getD c default ≠ []
    rw [hq]
    rcases (hL x).1 hx with hx | ⟨h0, rfl⟩
    · obtain ⟨a, b, c, d⟩ := h.lm x hx
      refine ⟨a, fun j hj => ?_, c, fun k hk hb e => ?_⟩
      · rw [hfm]
        split
        · omega
        · exact b j hj
      · cases hq : m.pd.getD k default with
        | nil => exact d k hk hb hq
        | cons v _ =>
          have := (notify_mem (p := p) hpl hk (v := v)).2 (.inl (by rw [hq]; exact List.mem_cons_self ..))
          rw [e] at this
          cases this
    · refine ⟨hfb, fun j hj => ?_, ⟨?_, hbd.2⟩, fun k hk hb e => ?_⟩
      · show _ ≠ (tgtX m p).n
        rw [hfm, ← hfp]
        split
        · rw [hfp]
          have : 0 ≤ (tgtX m p).n := hfb.1
          omega
        · rename_i e
          exact fun x => h.dj2 hpn hj e (by rw [hfp]; exact hfb.1) x.symm
      · show 1 ≤ (ntfM m p m.tl.length).2
        omega
      · have hb : bitA (ntfM m p m.tl.length).2 k = true := hb
        rw [hbit k hk] at hb
        have := (notify_mem (p := p) hpl hk (v := ⟨0, p, false⟩)).2 (.inr ⟨hb, rfl⟩)
        rw [e] at this
        cases this
  · show (G.map (·.f)).Nodup
    rw [← hG]
    split
    · exact h.nd
    · rw [List.map_append, List.nodup_append]
      refine ⟨h.nd, by simp, fun a ha b hb => ?_⟩
      obtain ⟨x, hx, rfl⟩ := List.mem_map.1 ha
      have hb : b = (tgtX m p).n := by simpa using hb
      rw [hb, ← hfp]
      exact fun e => (h.lm x hx).2.1 p.toNat hpn e.symm
  · have hc1 := h.cv c hc t ht'
    by_cases e : p.toNat = t.p.toNat
    · have hb := (h.tl c hc).2 t ht'
      have e1 : t.p = p := by omega
      have hco : covsM m c p = true := (h.covs hc p).2 ⟨t, ht', e1⟩
      have hbt := hbit c hc
      rw [hco] at hbt
      have h0 : ¬ (ntfM m p m.tl.length).2 = 0 := fun x => by rw [x, bit_zero] at hbt; cases hbt
      refine .inr ⟨⟨⟨0, p, false⟩, (notify_mem hpl hc).2 (.inr ⟨hco, rfl⟩), e1.symm⟩, .inr ?_⟩
      have hsm : sameM m t = true → ∃ x ∈ G, x.f = (decR t.w).1.n ∧ bitA x.a c = true := fun hs => by
        refine ⟨_, (hL _).2 (.inr ⟨h0, rfl⟩), ?_, hbt⟩
        show (tgtX m p).n = _
        have := (same_fr hs).2
        rw [← e] at this
        exact this
      rcases hc1 with x | ⟨_, y⟩
      · exact hsm (fresh_is x)
      · rcases y with y | ⟨x, hx, y⟩
        · exact hsm y
        · exact ⟨x, (hL x).2 (.inl hx), y⟩
    · have e1 : tbW { m with tb := m.tb.set p.toNat ⟨0⟩, pd := (ntfM m p m.tl.length).1, lm := G } t.p.toNat = tbW m t.p.toNat := by rw [ht, if_neg e]
      exact hc1.mono (fun x => by exact fresh_to (m := m) (by rfl) e1 x) (fun x => by exact same_to (m := m) (by rfl) e1 x) (fun v hv => ⟨v, (notify_mem hpl hc).2 (.inl hv), rfl⟩) fun x hx hb => ⟨x, (hL x).2 (.inl hx), rfl, hb⟩
theorem prot_vp {p W : Int} (hp : 0 ≤ p ∧ p < m.tb.length) (hpg : pgOk m.wd.length (tbW m p.toNat) = true) (hW : pgOk m.wd.length W = true) (hWn : (decR W).1.n = (decR (tbW m p.toNat)).1.n) :
    Vp { m with tb := m.tb.set p.toNat ⟨W⟩, pd := (ntfM m p m.tl.length).1 } := by
  have hr := h.r
  have hpn : p.toNat < m.tb.length := by omega
  have hpl := hr.2.2.1
  have hq : (m.tb.set p.toNat (⟨W⟩ : W64)).length = m.tb.length := List.length_set
  have ht : ∀ j, tbW { m with tb := m.tb.set p.toNat ⟨W⟩, pd := (ntfM m p m.tl.length).1 } j = if p.toNat = j then W else tbW m j := tb_set hpn W
  have hfm : ∀ j, frM { m with tb := m.tb.set p.toNat ⟨W⟩, pd := (ntfM m p m.tl.length).1 } j = frM m j := fun j => by
    unfold frM
    show frW m.wd.length _ = _
    rw [ht]
    by_cases e : p.toNat = j
    · rw [if_pos e, ← e]; unfold frW; rw [if_pos hW, if_pos hpg, hWn]
    · rw [if_neg e]
  refine ⟨?_, fun j hj => ?_, fun c hc => ?_, fun c hc v hv => ?_, fun j j' hjj hj' h0 => ?_, fun x hx => ?_, h.nd, fun c hc t ht' => ?_⟩
  · simp only [hq, ntf_len]
    exact hr
  · show enOk m.wd.length _ = true
    rw [ht]
    split
    · exact en_pg hW
    · simp only [hq] at hj; exact h.en j hj
  · simp only [hq]; exact h.tl c hc
  · simp only [hq]
    rcases (notify_mem hpl hc).1 hv with e | ⟨_, rfl⟩
    · exact h.pd c hc v e
    · exact ⟨rfl, hp.1, hp.2, rfl⟩
  · simp only [hq] at hj'
    rw [hfm] at h0
    rw [hfm, hfm]
    exact h.dj j j' hjj hj' h0
  · show (0 ≤ x.f ∧ x.f < m.wd.length) ∧ (∀ j, j < (m.tb.set p.toNat (⟨W⟩ : W64)).length → _) ∧ (1 ≤ x.a ∧ x.a < 2 ^ m.tl.length) ∧ ∀ c, c < m.tl.length → bitA x.a c = true → (ntfM m p m.tl.length).1.getD c default ≠ []
    rw [hq]
    obtain ⟨a, b, c, d⟩ := h.lm x hx
    refine ⟨a, fun j hj => by rw [hfm]; exact b j hj, c, fun k hk hb e => ?_⟩
    cases hq : m.pd.getD k default with
    | nil => exact d k hk hb hq
    | cons v _ =>
      have := (notify_mem (p := p) hpl hk (v := v)).2 (.inl (by rw [hq]; exact List.mem_cons_self ..))
      rw [e] at this
      cases this
  · have hc1 := h.cv c hc t ht'
    by_cases e : p.toNat = t.p.toNat
    · have hb := (h.tl c hc).2 t ht'
      have e1 : t.p = p := by omega
      have hco : covsM m c p = true := (h.covs hc p).2 ⟨t, ht', e1⟩
      have hsm : sameM m t = true → sameM { m with tb := m.tb.set p.toNat ⟨W⟩, pd := (ntfM m p m.tl.length).1 } t = true := fun hs => by
        have := (same_fr hs).2
        unfold sameM
        rw [ht, if_pos e]
        show (pgOk m.wd.length W && _) = true
        rw [hW, hWn, e, this, beq_self_eq_true]; rfl
      refine .inr ⟨⟨⟨0, p, false⟩, (notify_mem hpl hc).2 (.inr ⟨hco, rfl⟩), e1.symm⟩, ?_⟩
      rcases hc1 with x | ⟨_, y⟩
      · exact .inl (hsm (fresh_is x))
      · rcases y with y | y
        · exact .inl (hsm y)
        · exact .inr y
    · have e1 : tbW { m with tb := m.tb.set p.toNat ⟨W⟩, pd := (ntfM m p m.tl.length).1 } t.p.toNat = tbW m t.p.toNat := by rw [ht, if_neg e]
      exact hc1.mono (fun x => by exact fresh_to (m := m) (by rfl) e1 x) (fun x => by exact same_to (m := m) (by rfl) e1 x) (fun v hv => ⟨v, (notify_mem hpl hc).2 (.inl hv), rfl⟩) fun x hx hb => ⟨x, hx, rfl, hb⟩
theorem wd_vp {W : List Int} (hl : W.length = m.wd.length) : Vp { m with wd := W } := by
  have hfm : ∀ j, frM { m with wd := W } j = frM m j := fun j => fr_same hl rfl
  refine ⟨?_, fun j hj => ?_, fun c hc => ?_, h.pd, fun j j' hjj hj' h0 => ?_, fun x hx => ?_, h.nd, fun c hc t ht' => ?_⟩
  · simp only [hl]; exact h.r
  · simp only [hl]; exact h.en j hj
  · simp only [hl]; exact h.tl c hc
  · rw [hfm] at h0; rw [hfm, hfm]; exact h.dj j j' hjj hj' h0
  · simp only [hl]
    obtain ⟨a, b, c, d⟩ := h.lm x hx
    exact ⟨a, fun j hj => by rw [hfm]; exact b j hj, c, d⟩
  · exact (h.cv c hc t ht').mono (fun x => fresh_to (m := m) hl rfl x) (fun x => same_to (m := m) hl rfl x) (fun v hv => ⟨v, hv, rfl⟩) fun x hx hb => ⟨x, hx, rfl, hb⟩
theorem use_vp (f : Int) (w : Bool) (v : Int) : Vp (useM m f w v) := by
  unfold useM
  split
  · exact wd_vp h List.length_set
  · exact h
omit h in
theorem setTl_get {c : Nat} (hc : c < m.tl.length) (l : List TE) (j : Nat) : (setTl m c l).tl.getD j default = if c = j then ⟨(m.tl.getD c default).z, l⟩ else m.tl.getD j default := gd_set hc
omit h in
theorem setTl_len {c : Nat} (l : List TE) : (setTl m c l).tl.length = m.tl.length := List.length_set
theorem sub_vp {c : Nat} (hc : c < m.tl.length) {l : List TE} (hO : Ok (m.tl.getD c default).z l) (hs : ∀ t ∈ l, t ∈ (m.tl.getD c default).l) : Vp (setTl m c l) := by
  have hm : ∀ j, ∀ t ∈ ((setTl m c l).tl.getD j default).l, t ∈ (m.tl.getD j default).l := fun j t ht => by
    rw [setTl_get hc] at ht
    by_cases e : c = j
    · rw [if_pos e] at ht; rw [← e]; exact hs t ht
    · rw [if_neg e] at ht; exact ht
  refine ⟨?_, h.en, fun j hj => ⟨?_, fun t ht => ?_⟩, fun j hj => ?_, h.dj, fun x hx => ?_, h.nd, fun j hj t ht => ?_⟩
  · rw [setTl_len]; exact h.r
  · rw [setTl_len] at hj
    rw [setTl_get hc]
    by_cases e : c = j
    · rw [if_pos e]; exact hO
    · rw [if_neg e]; exact (h.tl j hj).1
  · rw [setTl_len] at hj
    exact (h.tl j hj).2 t (hm j t ht)
  · rw [setTl_len] at hj; exact h.pd j hj
  · rw [setTl_len]; exact h.lm x hx
  · rw [setTl_len] at hj
    exact (h.cv j hj t (hm j t ht)).mono id id (fun v hv => ⟨v, hv, rfl⟩) fun x hx hb => ⟨x, hx, rfl, hb⟩
end
theorem fill_ok {z : Int} {l : List TE} {x : TE} (h : Ok z l) (hx : Vd x) : Ok z (mkL z l x) := by
  have hf : ∀ p : TE → Bool, Ok z (l.filter p) := fun p => ⟨h.z, by have := h.n; have : (l.filter p).length ≤ l.length := List.length_filter_le ..; omega, fun y hy => h.v y (List.mem_filter.1 hy).1, h.d.filter p⟩
  have hk : Ok z (mkK l x) := hf _
  have hd : Ok z (dropK z (mkK l x)) := by
    unfold dropK
    split
    · exact ⟨h.z, by have := hk.n; rw [List.length_drop]; omega, fun y hy => hk.v y (List.mem_of_mem_drop hy), hk.d.sublist (List.drop_sublist ..)⟩
    · exact hk
  unfold mkL
  refine ⟨h.z, ?_, fun y hy => ?_, ?_⟩
  · have := dropK_le (z := z) (l := mkK l x) h.z.1 hk.n
    rw [List.length_append]
    simp only [List.length_cons, List.length_nil]
    omega
  · rcases List.mem_append.1 hy with h1 | h1
    · exact hd.v y h1
    · rw [List.mem_singleton.1 h1]; exact hx
  · rw [List.pairwise_append]
    refine ⟨hd.d, List.pairwise_singleton .., fun a ha b hb => ?_⟩
    rw [List.mem_singleton.1 hb, ov_comm]
    exact (mkK_mem (dropK_mem ha)).2
theorem fill_mem {z : Int} {l : List TE} {x t : TE} (h : t ∈ mkL z l x) : t = x ∨ t ∈ l := by
  unfold mkL at h
  rcases List.mem_append.1 h with h1 | h1
  · exact .inr (mkK_mem (dropK_mem h1)).1
  · exact .inl (List.mem_singleton.1 h1)
theorem inv_mem {l : List TE} {s p : Int} {t : TE} : t ∈ invL l s p ↔ t ∈ l ∧ covM t s p = false := by
  unfold invL
  rw [List.mem_filter, Bool.not_eq_true']
theorem invs_mem {t : TE} : ∀ {ps : List IV} {l : List TE}, t ∈ invsL l ps ↔ t ∈ l ∧ ∀ v ∈ ps, covM t 0 v.p = false
  | [], l => by unfold invsL; simp
  | v :: ps, l => by
    have := invs_mem (t := t) (ps := ps) (l := invL l 0 v.p)
    unfold invsL at this ⊢
    rw [List.foldl_cons, this, inv_mem]
    constructor
    · rintro ⟨⟨a, b⟩, c⟩
      refine ⟨a, fun u hu => ?_⟩
      rcases List.mem_cons.1 hu with rfl | hu
      · exact b
      · exact c u hu
    · rintro ⟨a, b⟩
      exact ⟨⟨a, b v (List.mem_cons_self ..)⟩, fun u hu => b u (List.mem_cons_of_mem _ hu)⟩
theorem mkX_pg {n : Nat} {p w : Int} (h : pgOk n w = true) : mkX 0 p w = ⟨0, p, w⟩ := by
  unfold mkX
  rw [(tr_pg h).2]; rfl
section
variable {m : SM} (h : Vp m)
include h
theorem fil_vp {c p W : Int} (hc : 0 ≤ c ∧ c < m.tl.length) (hp : 0 ≤ p ∧ p < m.tb.length) (hpg : pgOk m.wd.length (tbW m p.toNat) = true) (hW : pgOk m.wd.length W = true) (hWn : (decR W).1.n = (decR (tbW m p.toNat)).1.n)
    (hWa : (decR W).1.a = (decR (tbW m p.toNat)).1.a) (hWc : (decR (tbW m p.toNat)).1.c = true → (decR W).1.c = true) :
    Vp { (setTl m c.toNat (mkL (m.tl.getD c.toNat default).z (invL (m.tl.getD c.toNat default).l 0 p) (mkX 0 p W))) with tb := m.tb.set p.toNat ⟨W⟩ } := by
  have hr := h.r
  have hcn : c.toNat < m.tl.length := by omega
  have hpn : p.toNat < m.tb.length := by omega
  have hq : (m.tb.set p.toNat (⟨W⟩ : W64)).length = m.tb.length := List.length_set
  rw [mkX_pg hW]
  have hO := (h.tl c.toNat hcn).1
  have hOi := inv_ok hO 0 p
  have hvd : Vd ⟨0, p, W⟩ := by
    have := mkX_vd (s := 0) (p := p) (w := W) (plc_of (by omega) (by omega)) (tr_pg hW).1
    rwa [mkX_pg hW] at this
  have hO2 := fill_ok hOi hvd
  have hM : ∀ t ∈ mkL (m.tl.getD c.toNat default).z (invL (m.tl.getD c.toNat default).l 0 p) ⟨0, p, W⟩, t = ⟨0, p, W⟩ ∨ (t ∈ (m.tl.getD c.toNat default).l ∧ t.p ≠ p) := fun t ht => by
    rcases fill_mem ht with e | e
    · exact .inl e
    · have := inv_mem.1 e
      refine .inr ⟨this.1, fun x => ?_⟩
      have h2 := (h.cov hcn this.1 p).2 x
      rw [this.2] at h2
      cases h2
  generalize mkL (m.tl.getD c.toNat default).z (invL (m.tl.getD c.toNat default).l 0 p) ⟨0, p, W⟩ = l' at hO2 hM
  have hlen : (setTl m c.toNat l').tl.length = m.tl.length := setTl_len l'
  have hget := setTl_get (m := m) hcn l'
  have ht : ∀ j, tbW { (setTl m c.toNat l') with tb := m.tb.set p.toNat ⟨W⟩ } j = if p.toNat = j then W else tbW m j := tb_set hpn W
  have hfm : ∀ j, frM { (setTl m c.toNat l') with tb := m.tb.set p.toNat ⟨W⟩ } j = frM m j := fun j => by
    unfold frM
    show frW m.wd.length _ = _
    rw [ht]
    by_cases e : p.toNat = j
    · rw [if_pos e, ← e]; unfold frW; rw [if_pos hW, if_pos hpg, hWn]
    · rw [if_neg e]
  have hsm : ∀ t, sameM m t = true → sameM { (setTl m c.toNat l') with tb := m.tb.set p.toNat ⟨W⟩ } t = true := fun t hs => by
    unfold sameM
    rw [ht]
    by_cases e : p.toNat = t.p.toNat
    · rw [if_pos e]
      show (pgOk m.wd.length W && _) = true
      rw [hW, hWn, e, (same_fr hs).2, beq_self_eq_true]; rfl
    · rw [if_neg e]; exact hs
  have hfs : ∀ t, freshM m t = true → freshM { (setTl m c.toNat l') with tb := m.tb.set p.toNat ⟨W⟩ } t = true := fun t hs => by
    have h1 := hsm t (fresh_is hs)
    unfold freshM at hs ⊢
    rw [h1, ht]
    by_cases e : p.toNat = t.p.toNat
    · rw [if_pos e, hWa]
      rw [← e] at hs
      simp only [Bool.and_eq_true, Bool.or_eq_true, Bool.true_and] at hs ⊢
      refine ⟨hs.2.1, ?_⟩
      rcases hs.2.2 with x | x
      · exact .inl (hWc x)
      · exact .inr x
    · rw [if_neg e]
      rw [Bool.and_eq_true] at hs
      rw [hs.2]; rfl
  refine ⟨?_, fun j hj => ?_, fun j hj => ⟨?_, fun t ht' => ?_⟩, fun j hj v hv => ?_, fun j j' hjj hj' h0 => ?_, fun x hx => ?_, h.nd, fun j hj t ht' => ?_⟩
  · simp only [hq, hlen]
    exact hr
  · show enOk m.wd.length _ = true
    rw [ht]
    split
    · exact en_pg hW
    · simp only [hq] at hj; exact h.en j hj
  · simp only [hlen] at hj
    simp only [hget]
    by_cases e : c.toNat = j
    · rw [if_pos e]; exact hO2
    · rw [if_neg e]; exact (h.tl j hj).1
  · simp only [hlen] at hj
    simp only [hget] at ht'
    simp only [hq]
    show pgOk m.wd.length t.w = true ∧ _
    by_cases e : c.toNat = j
    · rw [if_pos e] at ht'
      rcases hM t ht' with rfl | ⟨x, _⟩
      · exact ⟨hW, rfl, hp.1, hp.2⟩
      · exact (h.tl c.toNat hcn).2 t x
    · rw [if_neg e] at ht'; exact (h.tl j hj).2 t ht'
  · simp only [hlen] at hj; simp only [hq]; exact h.pd j hj v hv
  · simp only [hq] at hj'
    rw [hfm] at h0
    rw [hfm, hfm]
    exact h.dj j j' hjj hj' h0
  · simp only [hq, hlen]
    obtain ⟨a, b, c, d⟩ := h.lm x hx
    exact ⟨a, fun j hj => by rw [hfm]; exact b j hj, c, d⟩
  · simp only [hlen] at hj
    simp only [hget] at ht'
    have hold : t ∈ (m.tl.getD j default).l → Cv { (setTl m c.toNat l') with tb := m.tb.set p.toNat ⟨W⟩ } j t := fun ht'' => (h.cv j hj t ht'').mono (hfs t) (hsm t) (fun v hv => ⟨v, hv, rfl⟩) fun x hx hb => ⟨x, hx, rfl, hb⟩
    by_cases e : c.toNat = j
    · rw [if_pos e] at ht'
      rcases hM t ht' with rfl | ⟨x, _⟩
      · refine .inl ?_
        unfold freshM sameM
        rw [ht, if_pos rfl]
        show ((pgOk m.wd.length W && _) && _) = true
        rw [hW]
        simp
      · exact hold (by rw [← e]; exact x)
    · rw [if_neg e] at ht'; exact hold ht'
theorem ack_vp {c : Nat} (hc : c < m.tl.length) : Vp (ackG m c) := by
  have hr := h.r
  have hO := (h.tl c hc).1
  have hO2 := invs_ok (ps := m.pd.getD c default) hO
  have hcp : c < m.pd.length := by omega
  have hpd : ∀ j, (m.pd.set c []).getD j default = if c = j then [] else m.pd.getD j default := fun j => gd_set hcp
  have hpl : (m.pd.set c ([] : List IV)).length = m.pd.length := List.length_set
  have hL : ∀ x, x ∈ (ackG m c).lm ↔ (∃ y ∈ m.lm, x = clrA c y) ∧ ¬ x.a = 0 := fun x => by
    show x ∈ (m.lm.map (clrA c)).filter (fun x => !(x.a == 0)) ↔ _
    rw [List.mem_filter, List.mem_map]
    constructor
    · rintro ⟨⟨y, hy, rfl⟩, hz⟩; exact ⟨⟨y, hy, rfl⟩, by simpa using hz⟩
    · rintro ⟨⟨y, hy, rfl⟩, hz⟩; exact ⟨⟨y, hy, rfl⟩, by simpa using hz⟩
  have hcl : ∀ y ∈ m.lm, 0 ≤ (clrA c y).a ∧ (clrA c y).a ≤ y.a ∧ ∀ d, d < m.tl.length → bitA (clrA c y).a d = (!(d == c) && bitA y.a d) := fun y hy => by
    obtain ⟨_, _, ⟨a1, a2⟩, _⟩ := h.lm y hy
    have h16 := (pow_le (c := m.tl.length) hr.2.1).2
    unfold clrA
    simp only
    cases hb : bitA y.a c
    · rw [if_neg (by simp)]
      refine ⟨by omega, by omega, fun d hd => ?_⟩
      by_cases e : d = c
      · rw [e, hb]; simp
      · simp [e]
    · rw [if_pos rfl]
      have := (bit_sub (a := y.a) (c := c) (d := c) ⟨by omega, by omega⟩ (by omega) (by omega) hb).2
      have := (pow_le (c := c) (by omega)).1
      exact ⟨by omega, by omega, fun d hd => (bit_sub (a := y.a) (c := c) (d := d) ⟨by omega, by omega⟩ (by omega) (by omega) hb).1⟩
  have hlen : (ackG m c).tl.length = m.tl.length := setTl_len _
  have hget := setTl_get (m := m) hc (invsL (m.tl.getD c default).l (m.pd.getD c default))
  have hM : ∀ j, ∀ t ∈ ((ackG m c).tl.getD j default).l, t ∈ (m.tl.getD j default).l ∧ (c = j → ∀ v ∈ m.pd.getD c default, v.p ≠ t.p) := fun j t ht => by
    have ht : t ∈ ((setTl m c (invsL (m.tl.getD c default).l (m.pd.getD c default))).tl.getD j default).l := ht
    rw [hget] at ht
    by_cases e : c = j
    · rw [if_pos e] at ht
      have := invs_mem.1 ht
      refine ⟨by rw [← e]; exact this.1, fun _ v hv x => ?_⟩
      have h2 := (h.cov hc this.1 v.p).2 x.symm
      rw [this.2 v hv] at h2
      cases h2
    · rw [if_neg e] at ht; exact ⟨ht, fun x => absurd x e⟩
  refine ⟨?_, h.en, fun j hj => ⟨?_, fun t ht => ?_⟩, fun j hj v hv => ?_, h.dj, fun x hx => ?_, ?_, fun j hj t ht => ?_⟩
  · rw [hlen]
    show 1 ≤ m.tl.length ∧ m.tl.length ≤ 4 ∧ (m.pd.set c ([] : List IV)).length = m.tl.length ∧ _
    rw [hpl]
    exact hr
  · rw [hlen] at hj
    show Ok ((setTl m c (invsL (m.tl.getD c default).l (m.pd.getD c default))).tl.getD j default).z ((setTl m c (invsL (m.tl.getD c default).l (m.pd.getD c default))).tl.getD j default).l
    rw [hget]
    by_cases e : c = j
    · rw [if_pos e]; exact hO2
    · rw [if_neg e]; exact (h.tl j hj).1
  · rw [hlen] at hj
    exact (h.tl j hj).2 t (hM j t ht).1
  · rw [hlen] at hj
    have hv : v ∈ (m.pd.set c ([] : List IV)).getD j default := hv
    rw [hpd] at hv
    split at hv
    · cases hv
    · exact h.pd j hj v hv
  · rw [hlen]
    obtain ⟨⟨y, hy, rfl⟩, hz⟩ := (hL x).1 hx
    obtain ⟨a, b, c1, d⟩ := h.lm y hy
    obtain ⟨g1, g2, g3⟩ := hcl y hy
    refine ⟨a, b, ⟨by omega, by omega⟩, fun k hk hb => ?_⟩
    show (m.pd.set c ([] : List IV)).getD k default ≠ []
    rw [g3 k hk] at hb
    simp only [Bool.and_eq_true, Bool.not_eq_true', beq_eq_false_iff_ne] at hb
    rw [hpd, if_neg (fun x => hb.1 x.symm)]
    exact d k hk hb.2
  · show (((m.lm.map (clrA c)).filter fun x => !(x.a == 0)).map (·.f)).Nodup
    have h1 : (((m.lm.map (clrA c)).filter fun x => !(x.a == 0)).map (·.f)).Sublist ((m.lm.map (clrA c)).map (·.f)) := List.filter_sublist.map _
    have h2 : (m.lm.map (clrA c)).map (·.f) = m.lm.map (·.f) := by rw [List.map_map]; rfl
    rw [h2] at h1
    exact h1.nodup h.nd
  · rw [hlen] at hj
    obtain ⟨h1, h2⟩ := hM j t ht
    have hc1 := h.cv j hj t h1
    by_cases e : c = j
    · rcases hc1 with x | ⟨⟨v, hv, ev⟩, _⟩
      · exact .inl x
      · rw [← e] at hv; exact absurd ev (h2 e v hv)
    · refine hc1.mono id id (fun v hv => ⟨v, by show v ∈ (m.pd.set c ([] : List IV)).getD j default; rw [hpd, if_neg e]; exact hv, rfl⟩) fun x hx hb => ?_
      obtain ⟨g1, g2, g3⟩ := hcl x hx
      have g4 : bitA (clrA c x).a j = true := by rw [g3 j hj, hb, show (j == c) = false by simpa using fun x => e x.symm]; rfl
      exact ⟨clrA c x, (hL _).2 ⟨⟨x, hx, rfl⟩, fun z => by rw [z, bit_zero] at g4; cases g4⟩, rfl, g4⟩
end
theorem new_vp {c z f p : Int} (he : (snewM c z f p).2 = 0) : Vp (snewM c z f p).1 ∧ (snewM c z f p).1.wd.length = f.toNat ∧ (snewM c z f p).1.tl.length = c.toNat := by
  unfold snewM at he ⊢
  split at he
  · cases he
  rename_i hb
  rw [if_neg hb]
  have key : ∀ (α : Type) [Inhabited α] (a : α) (n i : Nat), i < n → (List.replicate n a).getD i default = a := fun α _ a n i hi => by simp [List.getD_eq_getElem?_getD, List.getElem?_replicate, hi]
  have ht : ∀ j, tbW ⟨List.replicate p.toNat ⟨0⟩, List.replicate c.toNat ⟨z, []⟩, List.replicate c.toNat [], [], List.replicate f.toNat 0⟩ j = 0 := fun j => by
    unfold tbW
    rcases Nat.lt_or_ge j p.toNat with hj | hj
    · simp only; rw [key _ (⟨0⟩ : W64) _ _ hj]
    · simp only; rw [getD_none (by rw [List.length_replicate]; exact hj)]; rfl
  have hfm : ∀ j, frM ⟨List.replicate p.toNat ⟨0⟩, List.replicate c.toNat ⟨z, []⟩, List.replicate c.toNat [], [], List.replicate f.toNat 0⟩ j = -1 := fun j => by
    unfold frM frW
    rw [ht, if_neg (by rw [pg_zero]; simp)]
  refine ⟨⟨?_, fun j hj => ?_, fun j hj => ?_, fun j hj v hv => ?_, fun j j' hjj hj' h0 => ?_, fun x hx => ?_, List.nodup_nil, fun j hj t ht' => ?_⟩, List.length_replicate, List.length_replicate⟩
  · refine ⟨?_, ?_, ?_, ?_, ?_, ?_, ?_⟩ <;> simp only [List.length_replicate] <;> omega
  · rw [ht]; exact en_zero _
  · simp only [List.length_replicate] at hj
    simp only
    rw [key _ (⟨z, []⟩ : TL) _ _ hj]
    exact ⟨⟨by show 1 ≤ z ∧ z ≤ 16; omega, by show ((0 : Nat) : Int) ≤ z; omega, (fun x hx => by cases hx), List.Pairwise.nil⟩, fun x hx => by cases hx⟩
  · simp only [List.length_replicate] at hj
    simp only at hv
    rw [key _ ([] : List IV) _ _ hj] at hv
    cases hv
  · rw [hfm] at h0; omega
  · cases hx
  · simp only [List.length_replicate] at hj
    simp only at ht'
    rw [key _ (⟨z, []⟩ : TL) _ _ hj] at ht'
    cases ht'
end Go.Proofs.Ytojfaelafakemaa
