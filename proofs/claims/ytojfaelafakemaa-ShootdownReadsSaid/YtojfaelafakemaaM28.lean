/- Texts joined: ShKnow. Each part's own remark says what it proves. -/
import Derived.Test.YtojfaelafakemaaM27
/- The shootdown machine in plain Lean: a word that is known, and all that is left when every processor has acknowledged. No conditions. -/
set_option linter.unusedSimpArgs false
set_option linter.unusedVariables false
namespace Go.Proofs.Ytojfaelafakemaa
open Go Go.RowKit
attribute [local irreducible] decR encS markR mkL invL schk
/-- Every processor reads the word v of the page p. -/
structure Kn (m : SM) (p v : Int) : Prop where
  r : 0 ≤ p ∧ p < m.tb.length
  g : pgOk m.wd.length (tbW m p.toNat) = true
  s : ∀ c, c < m.tl.length → ∀ t ∈ (m.tl.getD c default).l, t.p = p → (decR t.w).1.n = (decR (tbW m p.toNat)).1.n
  v : m.wd.getD (decR (tbW m p.toNat)).1.n.toNat default = v
/-- Some processor owes an invalidation of the page. -/
def owedM (m : SM) (p : Int) : Bool := m.pd.any fun l => l.any fun v => v.p == p
theorem owed_no {m : SM} {p : Int} (ho : owedM m p = false) {c : Nat} : ¬ ∃ v ∈ m.pd.getD c default, v.p = p := fun ⟨v, hv, e⟩ => by
  rcases Nat.lt_or_ge c m.pd.length with hc | hc
  · unfold owedM at ho
    rw [List.any_eq_false] at ho
    refine ho (m.pd.getD c default) (by rw [getD_get hc]; exact List.getElem_mem hc) ?_
    exact List.any_eq_true.2 ⟨v, hv, by simpa using e⟩
  · rw [getD_none hc] at hv; cases hv
section
variable {m : SM} (h : Vp m)
include h
theorem free_same {p : Int} (ho : owedM m p = false) {c : Nat} (hc : c < m.tl.length) {t : TE} (ht : t ∈ (m.tl.getD c default).l) (e : t.p = p) : pgOk m.wd.length (tbW m p.toNat) = true ∧ (decR t.w).1.n = (decR (tbW m p.toNat)).1.n := by
  have hs : sameM m t = true := by
    rcases h.cv c hc t ht with x | ⟨x, _⟩
    · exact fresh_is x
    · rw [e] at x; exact absurd x (owed_no ho)
  have := same_fr hs
  rw [e] at this
  exact ⟨this.1, this.2.symm⟩
omit h in
theorem fil_mem {c p W : Int} (hc : 0 ≤ c ∧ c < m.tl.length) (hW : pgOk m.wd.length W = true) {t : TE} {j : Nat} (ht : t ∈ ((setTl m c.toNat (mkL (m.tl.getD c.toNat default).z (invL (m.tl.getD c.toNat default).l 0 p) (mkX 0 p W))).tl.getD j default).l) : t ∈ (m.tl.getD j default).l ∨ (t = ⟨0, p, W⟩) := by
  rw [setTl_get (by omega), mkX_pg hW] at ht
  split at ht
  · rename_i e
    rcases fill_mem ht with x | x
    · exact .inr x
    · exact .inl (by rw [← e]; exact (inv_mem.1 x).1)
  · exact .inl ht
omit h in
theorem kn_sub {p v : Int} {c : Nat} (hc : c < m.tl.length) {l : List TE} (hs : ∀ t ∈ l, t ∈ (m.tl.getD c default).l) (hk : Kn m p v) : Kn (setTl m c l) p v := by
  refine ⟨hk.r, hk.g, fun j hj t ht e => ?_, hk.v⟩
  rw [setTl_len] at hj
  rw [setTl_get hc] at ht
  by_cases ej : c = j
  · rw [if_pos ej] at ht; exact hk.s c hc t (hs t ht) e
  · rw [if_neg ej] at ht; exact hk.s j hj t ht e
omit h in
theorem kn_use {p v f : Int} {w : Bool} {u : Int} (hf : 0 ≤ f ∧ f < m.wd.length) (hk : Kn m p v) (hne : w = true → f ≠ (decR (tbW m p.toNat)).1.n) : Kn (useM m f w u) p v := by
  obtain ⟨u1, u2, u3, _⟩ := use_len m f w u
  have ht : ∀ j, tbW (useM m f w u) j = tbW m j := fun j => by unfold tbW; rw [u2]
  refine ⟨by rw [u2]; exact hk.r, by rw [u1, ht]; exact hk.g, fun j hj t hm e => ?_, ?_⟩
  · rw [u3] at hj hm; rw [ht]; exact hk.s j hj t hm e
  · have hb := pg_bd hk.g
    rw [ht, use_wd m hf, if_neg (fun x => hne x.1 (by have := x.2; omega))]
    exact hk.v
omit h in
theorem kn_set {p f u : Int} (hr : 0 ≤ p ∧ p < m.tb.length) (hg : pgOk m.wd.length (tbW m p.toNat) = true) (hs : ∀ c, c < m.tl.length → ∀ t ∈ (m.tl.getD c default).l, t.p = p → (decR t.w).1.n = (decR (tbW m p.toNat)).1.n) (hf : f = (decR (tbW m p.toNat)).1.n) : Kn (useM m f true u) p u := by
  obtain ⟨u1, u2, u3, _⟩ := use_len m f true u
  have ht : ∀ j, tbW (useM m f true u) j = tbW m j := fun j => by unfold tbW; rw [u2]
  have hb := pg_bd hg
  refine ⟨by rw [u2]; exact hr, by rw [u1, ht]; exact hg, fun j hj t hm e => ?_, ?_⟩
  · rw [u3] at hj hm; rw [ht]; exact hs j hj t hm e
  · rw [ht, use_wd m (by rw [hf]; exact hb), if_pos ⟨rfl, by rw [hf]; omega⟩]
omit h in
/-- The machine with a page's translation marked and cached. -/
theorem kn_fil {c p W q v : Int} (hc : 0 ≤ c ∧ c < m.tl.length) (hp : 0 ≤ p ∧ p < m.tb.length) (hpg : pgOk m.wd.length (tbW m p.toNat) = true) (hW : pgOk m.wd.length W = true) (hWn : (decR W).1.n = (decR (tbW m p.toNat)).1.n) (hk : Kn m q v) :
    Kn { (setTl m c.toNat (mkL (m.tl.getD c.toNat default).z (invL (m.tl.getD c.toNat default).l 0 p) (mkX 0 p W))) with tb := m.tb.set p.toNat ⟨W⟩ } q v := by
  have hpn : p.toNat < m.tb.length := by omega
  have hM := fun j t => fil_mem hc hW (p := p) (t := t) (j := j)
  have hlen : (setTl m c.toNat (mkL (m.tl.getD c.toNat default).z (invL (m.tl.getD c.toNat default).l 0 p) (mkX 0 p W))).tl.length = m.tl.length := setTl_len _
  have ht : ∀ j, tbW { (setTl m c.toNat (mkL (m.tl.getD c.toNat default).z (invL (m.tl.getD c.toNat default).l 0 p) (mkX 0 p W))) with tb := m.tb.set p.toNat ⟨W⟩ } j = if p.toNat = j then W else tbW m j := tb_set hpn W
  have hn : (decR (if p.toNat = q.toNat then W else tbW m q.toNat)).1.n = (decR (tbW m q.toNat)).1.n := by
    split
    · rename_i e; rw [hWn, e]
    · rfl
  refine ⟨?_, ?_, fun j hj t ht' e => ?_, ?_⟩
  · simp only [List.length_set]; exact hk.r
  · show pgOk m.wd.length _ = true
    rw [ht]
    split
    · exact hW
    · exact hk.g
  · simp only [hlen] at hj
    rw [ht, hn]
    rcases hM j t ht' with x | rfl
    · exact hk.s j hj t x e
    · show (decR W).1.n = _
      have e : p = q := e
      rw [hWn, e]
  · rw [ht, hn]; exact hk.v
omit h in
theorem Kn.fr {p v : Int} (hk : Kn m p v) : frM m p.toNat = (decR (tbW m p.toNat)).1.n := frM_yes hk.g
/-- Another page's frame is another one. -/
theorem kn_ne {p v p' : Int} (hk : Kn m p v) (hp : 0 ≤ p' ∧ p' < m.tb.length) (hpg : pgOk m.wd.length (tbW m p'.toNat) = true) (hne : p' ≠ p) : (decR (tbW m p'.toNat)).1.n ≠ (decR (tbW m p.toNat)).1.n := by
  have hr := hk.r
  have hb := pg_bd hk.g
  rw [← hk.fr, ← frM_yes hpg]
  intro e
  exact h.dj2 (p := p.toNat) (p' := p'.toNat) (by omega) (by omega) (by omega) (by rw [hk.fr]; exact hb.1) e.symm
/-- The frame of a cached translation of another page is another one. -/
theorem kn_hit {p v : Int} (hk : Kn m p v) {c : Nat} (hc : c < m.tl.length) {t : TE} (ht : t ∈ (m.tl.getD c default).l) (hne : t.p ≠ p) : (decR t.w).1.n ≠ (decR (tbW m p.toNat)).1.n := by
  have hr := hk.r
  have hb := pg_bd hk.g
  obtain ⟨_, _, t1, t2⟩ := (h.tl c hc).2 t ht
  rw [← hk.fr]
  intro e
  rcases hit_fr h hc ht with ⟨y, z⟩ | ⟨x, hx, y⟩
  · exact h.dj2 (p := p.toNat) (p' := t.p.toNat) (by omega) (by omega) (by omega) (by rw [hk.fr]; exact hb.1) (by rw [z, e])
  · exact (h.lm x hx).2.1 p.toNat (by omega) (by rw [y, e])
/-- What is known stays known, unless the page is written, mapped or unmapped. -/
theorem kn_step {d : SM} {o : SO} {x e p v : Int} (hs : Stp m o d x e) (hk : Kn m p v) (hne : o.p = p → ¬ (e = 0 ∧ (o.k = 0 ∨ o.k = 1 ∨ o.k = 4))) : Kn d p v := by
  have hr := hk.r
  have hb := pg_bd hk.g
  cases hs with
  | mp h0 hp hf hno hfr W hW hWn =>
    have e1 : o.p ≠ p := fun y => hne y ⟨rfl, .inl h0⟩
    have e2 : ¬ o.p.toNat = p.toNat := by omega
    have ht : tbW { m with tb := m.tb.set o.p.toNat ⟨W⟩, wd := m.wd.set o.f.toNat 0 } p.toNat = tbW m p.toNat := by rw [tb_set (by omega), if_neg e2]
    have hfne := (freeB_iff.1 hfr).1 p.toNat (by omega)
    rw [hk.fr] at hfne
    refine ⟨by simp only [List.length_set]; exact hr, ?_, fun c hc t hm he => ?_, ?_⟩
    · rw [ht]; simp only [List.length_set]; exact hk.g
    · rw [ht]; exact hk.s c hc t hm he
    · rw [ht]
      show (m.wd.set o.f.toNat 0).getD _ default = v
      rw [gd_set (by omega), if_neg (by omega)]
      exact hk.v
  | um h0 hp hpg =>
    have e1 : o.p ≠ p := fun y => hne y ⟨rfl, .inr (.inl h0)⟩
    have ht : tbW { m with tb := m.tb.set o.p.toNat ⟨0⟩, pd := (ntfM m o.p m.tl.length).1, lm := if (ntfM m o.p m.tl.length).2 = 0 then m.lm else m.lm ++ [⟨(tgtX m o.p).n, (ntfM m o.p m.tl.length).2⟩] } p.toNat = tbW m p.toNat := by rw [tb_set (by omega), if_neg (by omega)]
    refine ⟨by simp only [List.length_set]; exact hr, by rw [ht]; exact hk.g, fun c hc t hm he => by rw [ht]; exact hk.s c hc t hm he, by rw [ht]; exact hk.v⟩
  | pr h0 hp hpg W hW hWn =>
    have ht : tbW { m with tb := m.tb.set o.p.toNat ⟨W⟩, pd := (ntfM m o.p m.tl.length).1 } p.toNat = if o.p.toNat = p.toNat then W else tbW m p.toNat := tb_set (by omega) W p.toNat
    have hn : (decR (if o.p.toNat = p.toNat then W else tbW m p.toNat)).1.n = (decR (tbW m p.toNat)).1.n := by
      split
      · rename_i e; rw [hWn, e]
      · rfl
    refine ⟨by simp only [List.length_set]; exact hr, ?_, fun c hc t hm he => by rw [ht, hn]; exact hk.s c hc t hm he, by rw [ht, hn]; exact hk.v⟩
    rw [ht]
    show pgOk m.wd.length _ = true
    split
    · exact hW
    · exact hk.g
  | pn h0 => exact hk
  | hit h0 hc hp t ht htp =>
    refine kn_use (pg_bd ((h.tl _ (by omega)).2 t ht).1) hk fun w => ?_
    have w : o.k = 4 := by simpa using w
    have e1 : o.p ≠ p := fun y => hne y ⟨rfl, .inr (.inr w)⟩
    exact kn_hit h hk (by omega) ht (by rw [htp]; exact e1)
  | den h0 hc hp e he => exact kn_sub (by omega) (fun t ht => (inv_mem.1 ht).1) hk
  | fil h0 hc hp hpg W hW hWn hWa hWc =>
    have hf := kn_fil hc hp hpg hW hWn hk
    refine kn_use (pg_bd hpg) hf fun w => ?_
    have w : o.k = 4 := by simpa using w
    have e1 : o.p ≠ p := fun y => hne y ⟨rfl, .inr (.inr w)⟩
    rw [show tbW { (setTl m o.c.toNat (mkL (m.tl.getD o.c.toNat default).z (invL (m.tl.getD o.c.toNat default).l 0 o.p) (mkX 0 o.p W))) with tb := m.tb.set o.p.toNat ⟨W⟩ } p.toNat = tbW m p.toNat by rw [tb_set (by omega), if_neg (by omega)]]
    exact kn_ne h hk hp hpg e1
  | ack h0 hc =>
    have h1 := kn_sub (c := o.c.toNat) (by omega) (l := invsL (m.tl.getD o.c.toNat default).l (m.pd.getD o.c.toNat default)) (fun t ht => (invs_mem.1 ht).1) hk
    exact ⟨h1.r, h1.g, h1.s, h1.v⟩
omit h in
/-- An access to a known page has its word. -/
theorem kn_read {d : SM} {o : SO} {x e v : Int} (hs : Stp m o d x e) (hk : Kn m o.p v) (h0 : e = 0) (h3 : o.k = 3 ∨ o.k = 4) : x = v := by
  cases hs with
  | mp y => omega
  | um y => omega
  | pr y => omega
  | pn y => omega
  | hit y hc hp t ht htp => rw [hk.s _ (by omega) t ht htp]; exact hk.v
  | den y hc hp e he => omega
  | fil y hc hp hpg W hW hWn hWa hWc => exact hk.v
  | ack y hc => omega
/-- A write to a page that nobody owes makes its word known. -/
theorem kn_write {d : SM} {o : SO} {x e : Int} (hs : Stp m o d x e) (h0 : e = 0) (h4 : o.k = 4) (ho : owedM m o.p = false) : Kn d o.p o.v := by
  have hw : (o.k == 4) = true := by simpa using h4
  cases hs with
  | mp y => omega
  | um y => omega
  | pr y => omega
  | pn y => omega
  | hit y hc hp t ht htp =>
    have h1 := free_same h ho (c := o.c.toNat) (by omega) ht htp
    rw [hw]
    exact kn_set hp h1.1 (fun c hc t ht e => (free_same h ho hc ht e).2) h1.2
  | den y hc hp e he => omega
  | fil y hc hp hpg W hW hWn hWa hWc =>
    have hk : Kn m o.p (m.wd.getD (decR (tbW m o.p.toNat)).1.n.toNat default) := ⟨hp, hpg, fun c hc t ht e => (free_same h ho hc ht e).2, rfl⟩
    have hf := kn_fil hc hp hpg hW hWn hk
    rw [hw]
    refine kn_set hf.r hf.g hf.s ?_
    rw [tb_set (by omega), if_pos rfl, hWn]
  | ack y hc => omega
/- All processors have acknowledged. -/
theorem ack_pd {c : Nat} (hc : c < m.tl.length) (j : Nat) : (ackG m c).pd.getD j default = if c = j then [] else m.pd.getD j default := gd_set (by have := h.r; omega)
omit h in
theorem ack_tl {c : Nat} : (ackG m c).tl.length = m.tl.length := setTl_len _
variable (hq : ∀ c, c < m.tl.length → m.pd.getD c default = [])
include hq
theorem quiet_lm : m.lm = [] := by
  cases hl : m.lm with
  | nil => rfl
  | cons x l =>
    obtain ⟨_, _, a, b⟩ := h.lm x (by rw [hl]; exact List.mem_cons_self ..)
    obtain ⟨c, hc, hb⟩ := bit_ex a h.r.2.1
    exact absurd (hq c hc) (b c hc hb)
theorem quiet_yes : quietM m = true := by
  unfold quietM
  rw [decide_eq_true (vp_iff.2 h), Bool.true_and]
  refine List.all_eq_true.2 fun l hl => ?_
  obtain ⟨i, hi, rfl⟩ := List.getElem_of_mem hl
  have := hq i (by have := h.r; omega)
  rw [getD_get hi] at this
  rw [this]; rfl
theorem quiet_same {c : Nat} (hc : c < m.tl.length) {t : TE} (ht : t ∈ (m.tl.getD c default).l) : sameM m t = true ∧ frM m t.p.toNat = (decR t.w).1.n := by
  have hs : sameM m t = true := by
    rcases h.cv c hc t ht with x | ⟨⟨v, hv, _⟩, _⟩
    · exact fresh_is x
    · rw [hq c hc] at hv; cases hv
  exact ⟨hs, by rw [frM_yes (same_fr hs).1, (same_fr hs).2]⟩
/-- A cached translation agrees with the table. -/
theorem quiet_look {c : Nat} (hc : c < m.tl.length) {p : Int} (hp : 0 ≤ p ∧ p < m.tb.length) (hl : (lookM (m.tl.getD c default).z (m.tl.getD c default).l 0 p).2 = true) :
    0 ≤ atM m p ∧ (decR (lookM (m.tl.getD c default).z (m.tl.getD c default).l 0 p).1).1.n = atM m p := by
  rw [look_ok (h.tl c hc).1] at hl ⊢
  obtain ⟨t, ht, hcv, e⟩ := look_mem hl
  have htp := (h.cov hc ht p).1 hcv
  obtain ⟨h1, h2⟩ := quiet_same h hq hc ht
  have hb := pg_bd ((h.tl c hc).2 t ht).1
  rw [e, at_fr h hp, ← htp, h2]
  exact ⟨hb.1, rfl⟩
/-- Every processor reads the page's word, or faults. -/
theorem quiet_acc {c : Nat} (hc : c < m.tl.length) {p : Int} (hp : 0 ≤ p ∧ p < m.tb.length) :
    (atM m p < 0 → (accM m c p false 0).2.2 = 13) ∧ (0 ≤ atM m p → (accM m c p false 0).2.2 = 0 ∧ atM m p < m.wd.length ∧ (accM m c p false 0).2.1 = m.wd.getD (atM m p).toNat default) := by
  have h0 : schk m = 0 := vp_iff.2 h
  have e0 : ((c : Nat) : Int).toNat = c := by omega
  have hfr := at_fr h hp
  unfold accM
  rw [if_neg (fun x => x h0), if_neg (fun x => x ⟨by omega, by omega, isP_iff.2 hp⟩)]
  unfold accG hitA
  rw [e0]
  cases hl : (lookM (m.tl.getD c default).z (m.tl.getD c default).l 0 p).2
  · simp only [Bool.false_and, Bool.false_eq_true, if_false, false_and]
    cases hpg : pgOk m.wd.length (tbW m p.toNat)
    · simp only [if_true]
      rw [hfr, frM_no hpg]
      exact ⟨fun _ => trivial, fun x => by omega⟩
    · simp only [Bool.true_eq_false, if_false]
      have hb := pg_bd hpg
      rw [hfr, frM_yes hpg]
      exact ⟨fun x => by omega, fun _ => ⟨trivial, hb.2, rfl⟩⟩
  · obtain ⟨h1, h2⟩ := quiet_look h hq hc hp hl
    simp only [Bool.not_false, Bool.true_or, Bool.and_true, if_true]
    rw [h2]
    refine ⟨fun x => by omega, fun _ => ⟨trivial, ?_, rfl⟩⟩
    cases hpg : pgOk m.wd.length (tbW m p.toNat)
    · rw [hfr, frM_no hpg] at h1; omega
    · rw [hfr, frM_yes hpg]; exact (pg_bd hpg).2
end
end Go.Proofs.Ytojfaelafakemaa
