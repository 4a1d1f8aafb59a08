/- A space whose children are all gone, in plain terms. No conditions. -/
import Derived.Test.YtinnkclemjognaaCowSum
set_option linter.unusedSimpArgs false
set_option linter.unusedVariables false
namespace Go.Proofs.Ytinnkclemjognaa
open Go Go.RowKit
/-- One space with n pages, t children that are gone; of its pages the first p show frames, each its own. -/
structure Al (m : CW) (n t p : Nat) : Prop where
  ok : OkM m
  z : m.z = n
  fl : m.fm.length = 2 * n
  cp : m.cp = 0
  sl : m.sp.length = 1 + t
  lv : (m.sp.getD 0 default).lv = true
  dead : ∀ i, 1 ≤ i → (m.sp.getD i default).lv = false
  one : ∀ f, f < m.fm.length → (m.fm.getD f default).ct ≤ 1
  lo : ∀ j, j < p → 0 ≤ (pgAt m 0 j).fr
  hi : ∀ j, p ≤ j → j < n → (pgAt m 0 j).fr < 0
theorem sum_ind {p : Nat → Bool} : ∀ n, sumN (fun i => if p i = true then 1 else 0) n = (List.range n).countP p
  | 0 => rfl
  | n + 1 => by
    rw [sumN, sum_ind n, List.range_succ, List.countP_append, List.countP_singleton]
section
variable {m : CW} {n t p : Nat} (h : Al m n t p)
include h
theorem Al.pl : (m.sp.getD 0 default).pg.length = n := by have := h.ok.live 0 h.lv; have := h.z; omega
theorem Al.live0 : liveE m 0 = 0 := by
  unfold liveE
  rw [if_neg (by simp [chk_ok.2 h.ok]), if_neg]
  have := h.sl
  have hl : (m.sp.getD (Int.toNat 0) default).lv = true := h.lv
  rintro (a | a | a)
  · omega
  · omega
  · rw [hl] at a; cases a
theorem Al.at0 {j : Nat} (hj : j < n) : atE m 0 (j : Int) = 0 := by
  unfold atE
  have := h.z
  rw [if_neg (fun hne => hne h.live0), if_neg (by omega)]
theorem Al.shown_all : shownN (allPg m) = shownN (m.sp.getD 0 default).pg := by
  have hs : 0 < m.sp.length := by have := h.sl; omega
  have h1 := cnt_others (f := fun x : PG => decide (0 ≤ x.fr)) hs
  have h2 : (others m.sp 0).countP (fun x : PG => decide (0 ≤ x.fr)) = 0 := by
    rw [List.countP_eq_zero]
    intro x hx
    obtain ⟨i, hi, hne, hx⟩ := (mem_others hs).1 hx
    rw [h.ok.dead i (h.dead i (by omega))] at hx
    cases hx
  unfold shownN allPg
  omega
/-- The first writes. -/
theorem al_first (w : Int) (ht : t = 0) (hp : p < n) : ∃ m', writeM m 0 (p : Int) w = (m', 0) ∧ Al m' n 0 (p + 1) := by
  have hs : 0 < m.sp.length := by have := h.sl; omega
  have hpl := h.pl
  have hfl := h.fl
  have hsl := h.sl
  have hz := h.z
  have hx : (pgAt m 0 p).fr < 0 := h.hi p (Nat.le_refl _) hp
  have hfr : ¬ freeI m.fm < 0 := fun hf => by
    have h1 := free_no hf
    have h2 : ∀ i, i < m.fm.length → 1 ≤ (m.fm.getD i default).ct.toNat := fun i hi => by
      have := h1 i hi
      have := (h.ok.ctb hi).1
      omega
    have h3 := h.ok.sum_ct
    have h4 := h.ok.all_le
    have h5 := sumN_ge h2
    have h8 : shownN (allPg m) ≤ (allPg m).length := List.countP_le_length
    rw [hsl, ht, hz] at h4
    have h9 : (((1 + 0 : Nat) : Int)) * (n : Int) = n := by simp
    rw [h9] at h4
    omega
  obtain ⟨k, e1, e2, e3⟩ := free_ex hfr
  have hdec : decF m.fm (pgAt m 0 p) = m.fm := if_neg (by omega)
  have hwg : writeG m 0 p w = (⟨m.z, setPg m.sp 0 p ⟨(k : Int), true⟩, m.fm.set k ⟨1, w⟩, m.cp⟩, 0) := by
    unfold writeG
    rw [if_pos (.inl hx), if_neg hfr, e1, hdec, if_neg (by omega)]
    rfl
  have hw : writeM m 0 (p : Int) w = (⟨m.z, setPg m.sp 0 p ⟨(k : Int), true⟩, m.fm.set k ⟨1, w⟩, m.cp⟩, 0) := by
    unfold writeM
    rw [if_neg (fun hne => hne (h.at0 hp))]
    exact hwg
  have hok : OkM (writeG m 0 p w).1 := write_ok h.ok hs (by omega) (by rw [hwg])
  rw [hwg] at hok
  have hpg := pg_setPg (y := (⟨(k : Int), true⟩ : PG)) (F := m.fm.set k ⟨1, w⟩) (c := m.cp) hs (show p < (m.sp.getD 0 default).pg.length by omega)
  have hsp := sp_setPg (p := p) (y := (⟨(k : Int), true⟩ : PG)) hs
  refine ⟨_, hw, hok, hz, by simp only [List.length_set]; exact hfl, h.cp, ?_, ?_, fun i hi => ?_, fun f hf => ?_, fun j hj => ?_, fun j h1 h2 => ?_⟩
  · show (setPg _ _ _ _).length = _; unfold setPg; rw [List.length_set]; omega
  · rw [(hsp 0).1]; exact h.lv
  · rw [(hsp i).1]; exact h.dead i hi
  · show ((m.fm.set k ⟨1, w⟩).getD f default).ct ≤ 1
    have hf' : f < m.fm.length := by simpa using hf
    rw [gd_if e2]
    split
    · exact Int.le_refl _
    · exact h.one f hf'
  · rw [hpg]
    split
    · show 0 ≤ (k : Int); omega
    · rename_i hne; exact h.lo j (by omega)
  · rw [hpg, if_neg (by omega)]
    exact h.hi j (by omega) h2
/-- Later writes. -/
theorem al_later (w : Int) {j : Nat} (hp : p = n) (hj : j < n) : ∃ m', writeM m 0 (j : Int) w = (m', 0) ∧ Al m' n t n := by
  subst hp
  have hs : 0 < m.sp.length := by have := h.sl; omega
  have hpl := h.pl
  have hx : 0 ≤ (pgAt m 0 j).fr := h.lo j hj
  have hb := h.ok.pgb (i := 0) (j := j) (by omega)
  have ho := h.one (pgAt m 0 j).fr.toNat (by omega)
  have hwg : writeG m 0 j w = (⟨m.z, setPg m.sp 0 j ⟨(pgAt m 0 j).fr, true⟩, m.fm.set (pgAt m 0 j).fr.toNat ⟨(frAt m.fm (pgAt m 0 j).fr).ct, w⟩, m.cp⟩, 0) := by
    unfold writeG
    rw [if_neg]
    unfold frAt
    omega
  have hw : writeM m 0 (j : Int) w = (⟨m.z, setPg m.sp 0 j ⟨(pgAt m 0 j).fr, true⟩, m.fm.set (pgAt m 0 j).fr.toNat ⟨(frAt m.fm (pgAt m 0 j).fr).ct, w⟩, m.cp⟩, 0) := by
    unfold writeM
    rw [if_neg (fun hne => hne (h.at0 hj))]
    exact hwg
  have hok : OkM (writeG m 0 j w).1 := write_ok h.ok hs (by omega) (by rw [hwg])
  rw [hwg] at hok
  have hpg := pg_setPg (y := (⟨(pgAt m 0 j).fr, true⟩ : PG)) (F := m.fm.set (pgAt m 0 j).fr.toNat ⟨(frAt m.fm (pgAt m 0 j).fr).ct, w⟩) (c := m.cp) hs (show j < (m.sp.getD 0 default).pg.length by omega)
  have hsp := sp_setPg (p := j) (y := (⟨(pgAt m 0 j).fr, true⟩ : PG)) hs
  refine ⟨_, hw, hok, h.z, by simp only [List.length_set]; exact h.fl, h.cp, ?_, ?_, fun i hi => ?_, fun f hf => ?_, fun i hi => ?_, fun i h1 h2 => absurd h1 (by omega)⟩
  · show (setPg _ _ _ _).length = _; unfold setPg; rw [List.length_set]; exact h.sl
  · rw [(hsp 0).1]; exact h.lv
  · rw [(hsp i).1]; exact h.dead i hi
  · have hf' : f < m.fm.length := by simpa using hf
    show ((m.fm.set (pgAt m 0 j).fr.toNat ⟨(frAt m.fm (pgAt m 0 j).fr).ct, w⟩).getD f default).ct ≤ 1
    rw [gd_if (by omega)]
    split
    · exact ho
    · exact h.one f hf'
  · rw [hpg]
    split
    · exact hx
    · exact h.lo i hi
theorem al_used (hp : p = n) : usedM m = n := by
  subst hp
  unfold usedM
  rw [if_neg (by simp [chk_ok.2 h.ok])]
  have h1 := h.ok.sum_ct
  rw [h.shown_all] at h1
  have hpl := h.pl
  have h2 : shownN (m.sp.getD 0 default).pg = p := by
    unfold shownN
    rw [← hpl, List.countP_eq_length]
    intro x hx
    obtain ⟨j, hj, rfl⟩ := mem_ex hx
    exact decide_eq_true (h.lo j (by omega))
  have h3 : sumN (fun i => (m.fm.getD i default).ct.toNat) m.fm.length = sumN (fun i => if (fun i => decide ((m.fm.getD i default).ct > 0)) i = true then 1 else 0) m.fm.length := sumN_congr fun i hi => by
    have := h.one i hi
    have := (h.ok.ctb hi).1
    by_cases e : (m.fm.getD i default).ct > 0
    · rw [if_pos (decide_eq_true e)]; omega
    · rw [if_neg (by simpa using e)]; omega
  rw [sum_ind, cnt_range (fun f : FR => decide (f.ct > 0))] at h3
  omega
/-- A fork, and the child's end. -/
theorem al_fork (hp : p = n) (ht : t < 7) : ∃ m1 m2, forkM m 0 = (m1, ((1 + t : Nat) : Int), 0) ∧ exitM m1 ((1 + t : Nat) : Int) = (m2, 0) ∧ Al m2 n (t + 1) n ∧ OkM m1 := by
  subst hp
  have hs : 0 < m.sp.length := by have := h.sl; omega
  have hsl := h.sl
  have hpl := h.pl
  have hf1 := fork_ok h.ok hs h.lv (by omega)
  obtain ⟨hfl, hfg⟩ := inc_fold (m.sp.getD 0 default).pg m.fm (fun y hy => (h.ok.bnd hs hy).2.1)
  have hlen : (forkG m 0).sp.length = m.sp.length + 1 := by unfold forkG setPs; simp
  have hgd : ∀ i, (forkG m 0).sp.getD i default = if i = 0 ∨ i = m.sp.length then ⟨true, (m.sp.getD 0 default).pg.map unW⟩ else m.sp.getD i default := fun i => by
    show (setPs m.sp 0 ((m.sp.getD 0 default).pg.map unW) ++ [(⟨true, (m.sp.getD 0 default).pg.map unW⟩ : CS)]).getD i default = _
    rw [getD_app]
    unfold setPs
    rw [List.length_set, gd_if hs]
    by_cases h1 : i < m.sp.length
    · rw [if_pos h1]
      by_cases h2 : 0 = i
      · rw [if_pos h2, if_pos (.inl h2.symm), h.lv]
      · rw [if_neg h2, if_neg (by omega)]
    · rw [if_neg h1]
      by_cases h2 : i = m.sp.length
      · rw [if_pos (.inr h2), h2, Nat.sub_self]; rfl
      · rw [if_neg (show ¬ (i = 0 ∨ i = m.sp.length) by omega), getD_none (l := m.sp) (i := i) (by omega), getD_none (by simp; omega)]
  have hch : (forkG m 0).sp.getD (1 + t) default = ⟨true, (m.sp.getD 0 default).pg.map unW⟩ := by rw [hgd, if_pos (by omega)]
  have hfk : forkM m 0 = (forkG m 0, ((1 + t : Nat) : Int), 0) := by
    unfold forkM
    rw [if_neg (fun hne => hne h.live0), if_neg (by omega), hsl]
    rfl
  have hl1 : liveE (forkG m 0) ((1 + t : Nat) : Int) = 0 := by
    unfold liveE
    rw [if_neg (by simp [chk_ok.2 hf1]), if_neg]
    rw [Int.toNat_natCast, hch, hlen]
    rintro (a | a | a)
    · omega
    · omega
    · cases a
  have hex : exitM (forkG m 0) ((1 + t : Nat) : Int) = (exitG (forkG m 0) (1 + t), 0) := by
    unfold exitM
    rw [if_neg (fun hne => hne hl1), Int.toNat_natCast]
  have hs1 : 1 + t < (forkG m 0).sp.length := by omega
  have he1 := exit_ok hf1 hs1
  obtain ⟨hcl, hcg⟩ := clr_fold ((forkG m 0).sp.getD (1 + t) default).pg (forkG m 0).fm (fun y hy => (hf1.bnd hs1 hy).2.1) (fun i hi => by rw [hf1.cnt hs1 hi]; omega) hf1.wd
  have hgx : ∀ i, (exitG (forkG m 0) (1 + t)).sp.getD i default = if 1 + t = i then ⟨false, []⟩ else (forkG m 0).sp.getD i default := fun i => gd_if hs1
  have hf0 : (forkG m 0).fm.length = m.fm.length := hfl
  have h0 : (exitG (forkG m 0) (1 + t)).sp.getD 0 default = ⟨true, (m.sp.getD 0 default).pg.map unW⟩ := by rw [hgx, if_neg (by omega), hgd, if_pos (.inl rfl)]
  refine ⟨_, _, hfk, hex, ⟨he1, h.z, ?_, h.cp, ?_, ?_, fun i hi => ?_, fun f hf => ?_, fun j hj => ?_, fun j h1 h2 => absurd h1 (by omega)⟩, hf1⟩
  · show (List.foldl clrF _ _).length = _
    rw [hcl, hf0]; exact h.fl
  · show (List.set _ _ _).length = _
    rw [List.length_set, hlen]; omega
  · rw [h0]
  · rw [hgx]
    split
    · rfl
    · rw [hgd, if_neg (by omega)]; exact h.dead i hi
  · have hf' : f < m.fm.length := by
      have e : (exitG (forkG m 0) (1 + t)).fm.length = (forkG m 0).fm.length := hcl
      omega
    show ((List.foldl clrF _ _).getD f default).ct ≤ 1
    rw [hcg f (by omega), hch]
    show ((List.foldl incF m.fm _).getD f default).ct - _ ≤ 1
    rw [hfg f hf']
    simp only
    rw [shC_unW]
    have := h.one f hf'
    omega
  · unfold pgAt
    rw [h0]
    show 0 ≤ (((m.sp.getD 0 default).pg.map unW).getD j default).fr
    rw [getD_get (l := List.map _ _) (by rw [List.length_map]; omega), List.getElem_map, ← getD_get (by omega)]
    exact h.lo j hj
end
theorem al_new {n : Nat} (h1 : 1 ≤ n) (h8 : n ≤ 8) : ∃ m, newM (2 * (n : Int)) n = (m, 0) ∧ Al m n 0 0 := by
  have hn : ¬ (2 * (n : Int) < 1 ∨ 256 < 2 * (n : Int) ∨ (n : Int) < 1 ∨ 512 < (n : Int)) := by omega
  have hok := new_ok hn
  have e : newM (2 * (n : Int)) n = (⟨n, [⟨true, List.replicate n ⟨-1, false⟩⟩], List.replicate (2 * n) ⟨0, 0⟩, 0⟩, 0) := by
    unfold newM
    rw [if_neg hn, Int.toNat_natCast, show (2 * (n : Int)).toNat = 2 * n by omega]
  rw [e] at hok
  refine ⟨_, e, hok, rfl, by simp, rfl, rfl, rfl, fun i hi => ?_, fun f hf => ?_, fun j hj => by omega, fun j _ hj => ?_⟩
  · rcases i with _ | i
    · omega
    · rfl
  · have hf' : f < 2 * n := by simpa using hf
    show ((List.replicate (2 * n) (⟨0, 0⟩ : FR)).getD f default).ct ≤ 1
    rw [getD_rep hf']
    decide
  · show ((List.replicate n (⟨-1, false⟩ : PG)).getD j default).fr < 0
    rw [getD_rep hj]
    decide
end Go.Proofs.Ytinnkclemjognaa
