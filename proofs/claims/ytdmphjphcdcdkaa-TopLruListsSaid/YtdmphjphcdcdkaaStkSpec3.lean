/- What Curve, Working and Optimal of stackdist compute, in plain Lean. No conditions. -/
import Derived.Test.YtdmphjphcdcdkaaStkSpec2
import Derived.Test.YtdmphjphcdcdkaaALst
set_option linter.unusedSimpArgs false
set_option linter.unusedVariables false
namespace Go.Proofs.Ytdmphjphcdcdkaa
/- Curve. -/
def hitB (t : Nat) (d : Int) : Bool := decide (0 ≤ d ∧ d + 1 = (t : Int))
theorem curve_step (f : Nat) (l : List Int) : l.countP (missB ((f : Int) - 1)) = l.countP (missB (f : Int)) + l.countP (hitB f) := by
  induction l with
  | nil => rfl
  | cons d l ih =>
    rw [List.countP_cons, List.countP_cons, List.countP_cons, ih]
    have : (if missB ((f : Int) - 1) d = true then 1 else 0) = (if missB (f : Int) d = true then 1 else 0) + (if hitB f d = true then 1 else 0) := by
      unfold missB hitB
      simp only [Bool.or_eq_true, decide_eq_true_eq]
      repeat' split
      all_goals omega
    omega
theorem curve_all (l : List Int) : l.countP (missB (-1)) = l.length := by
  rw [List.countP_eq_length]
  intro d _
  unfold missB
  rw [Bool.or_eq_true, decide_eq_true_eq, decide_eq_true_eq]
  omega
def curveL (refs : List Int) (most : Nat) : List Int := (List.range (most + 1)).map fun (f : Nat) => (lruN refs (f : Int) : Int)
/- Working. -/
def wStep (refs : List Int) (w : Nat) (i : Nat) (al : List (Int × Int)) : List (Int × Int) :=
  let r := refs.getD i default
  let a1 := aSet al r ((aGet al r).getD 0 + 1)
  if w ≤ i then
    let old := refs.getD (i - w) default
    let a2 := aSet a1 old ((aGet a1 old).getD 0 - 1)
    if (aGet a2 old).getD 0 = 0 then aDel a2 old else a2
  else a1
def workA (refs : List Int) (w : Nat) : Nat → List (Int × Int)
  | 0 => []
  | i + 1 => wStep refs w i (workA refs w i)
def winL (refs : List Int) (w i : Nat) : List Int := (refs.take i).drop (i - w)
/-- The counts of a window. -/
structure Cnt (al : List (Int × Int)) (W : List Int) : Prop where
  nd : (keysL al).Nodup
  get : ∀ k, aGet al k = if W.count k = 0 then none else some (W.count k : Int)
theorem work_cnt (refs : List Int) (w : Nat) : ∀ i, i ≤ refs.length → Cnt (workA refs w i) (winL refs w i)
  | 0, _ => ⟨List.nodup_nil, fun k => by simp [winL, workA]; rfl⟩
  | i + 1, hi => by
    have ih := work_cnt refs w i (by omega)
    obtain ⟨r, hr⟩ : ∃ r, r = refs.getD i default := ⟨_, rfl⟩
    obtain ⟨W, hW⟩ : ∃ W, W = winL refs w i := ⟨_, rfl⟩
    obtain ⟨a1, ha1⟩ : ∃ a1, a1 = aSet (workA refs w i) r ((aGet (workA refs w i) r).getD 0 + 1) := ⟨_, rfl⟩
    rw [← hW] at ih
    have hg : ∀ k, (W ++ [r]).count k = W.count k + if k = r then 1 else 0 := fun k => by
      rw [List.count_append, List.count_singleton]
      congr 1
      by_cases e : k = r
      · simp [e]
      · have : ¬ r = k := fun h => e h.symm
        simp [e, this]
    have h1 : Cnt a1 (W ++ [r]) := by
      rw [ha1]
      refine ⟨nodup_set ih.nd _ _, fun k => ?_⟩
      rw [get_set, hg, ih.get, ih.get]
      by_cases e : k = r
      · subst e
        rw [if_pos rfl, if_pos rfl]
        by_cases hz : W.count k = 0
        · simp [hz]
        · simp [hz]
      · rw [if_neg e, if_neg e, Nat.add_zero]
    have hw1 : winL refs w i ++ [r] = (refs.take (i + 1)).drop (i - w) := by
      unfold winL
      rw [take_step (by omega), ← hr, List.drop_append_of_le_length (by rw [List.length_take]; omega)]
    have hwk : workA refs w (i + 1) = if w ≤ i then (if (aGet (aSet a1 (refs.getD (i - w) default) ((aGet a1 (refs.getD (i - w) default)).getD 0 - 1)) (refs.getD (i - w) default)).getD 0 = 0 then aDel (aSet a1 (refs.getD (i - w) default) ((aGet a1 (refs.getD (i - w) default)).getD 0 - 1)) (refs.getD (i - w) default) else aSet a1 (refs.getD (i - w) default) ((aGet a1 (refs.getD (i - w) default)).getD 0 - 1)) else a1 := by
      rw [ha1, hr]
      rfl
    rw [hwk]
    by_cases hwi : w ≤ i
    · rw [if_pos hwi]
      obtain ⟨o, ho⟩ : ∃ o, o = refs.getD (i - w) default := ⟨_, rfl⟩
      rw [← ho]
      have hsplit : W ++ [r] = o :: winL refs w (i + 1) := by
        rw [hW, hw1]
        unfold winL
        have : i + 1 - w = (i - w) + 1 := by omega
        rw [this, List.drop_eq_getElem_cons (by rw [List.length_take]; omega)]
        congr 1
        rw [ho, getD_get (by omega), List.getElem_take]
      have hc : ∀ k, (W ++ [r]).count k = (winL refs w (i + 1)).count k + if k = o then 1 else 0 := fun k => by
        rw [hsplit, List.count_cons]
        congr 1
        by_cases e : k = o
        · simp [e]
        · have : ¬ o = k := fun h => e h.symm
          simp [e, this]
      have hgo : (aGet a1 o).getD 0 = ((winL refs w (i + 1)).count o : Int) + 1 := by
        rw [h1.get, if_neg (by rw [hc, if_pos rfl]; omega), hc, if_pos rfl]
        simp
      rw [hgo]
      have h2 : ∀ k, aGet (aSet a1 o (((winL refs w (i + 1)).count o : Int) + 1 - 1)) k = if k = o then some ((winL refs w (i + 1)).count o : Int) else aGet a1 k := fun k => by
        rw [get_set]
        congr 2
        omega
      have hn2 := nodup_set h1.nd o (((winL refs w (i + 1)).count o : Int) + 1 - 1)
      rw [h2 o, if_pos rfl, Option.getD_some]
      split
      · rename_i hz
        refine ⟨nodup_del hn2 _, fun k => ?_⟩
        rw [get_del _ _ hn2, h2]
        by_cases e : k = o
        · rw [if_pos e, e, if_pos (by omega)]
        · rw [if_neg e, if_neg e, h1.get, hc, if_neg e, Nat.add_zero]
      · rename_i hz
        refine ⟨hn2, fun k => ?_⟩
        rw [h2]
        by_cases e : k = o
        · rw [if_pos e, e, if_neg (by omega)]
        · rw [if_neg e, h1.get, hc, if_neg e, Nat.add_zero]
    · rw [if_neg hwi]
      have : winL refs w (i + 1) = W ++ [r] := by
        rw [hW, hw1]
        unfold winL
        rw [show i + 1 - w = i - w by omega]
      rw [this]
      exact h1
theorem work_len (refs : List Int) (w : Nat) {i : Nat} (hi : i ≤ refs.length) : (workA refs w i).length = dcN (winL refs w i) := by
  have h := work_cnt refs w i hi
  rw [← len_keys]
  refine dc_of h.nd fun x => ?_
  have hg := h.get x
  have : x ∈ keysL (workA refs w i) ↔ ¬ aGet (workA refs w i) x = none := by rw [get_none, Decidable.not_not]
  rw [this, hg]
  have hc : (winL refs w i).count x = 0 ↔ x ∉ winL refs w i := List.count_eq_zero
  split
  · rename_i h0; simp [hc.1 h0]
  · rename_i h0
    have : x ∈ winL refs w i := Decidable.byContradiction fun h => h0 (hc.2 h)
    simp [this]
theorem work_bd (refs : List Int) (w : Nat) {i : Nat} (hi : i ≤ refs.length) (k : Int) : 0 ≤ (aGet (workA refs w i) k).getD 0 ∧ (aGet (workA refs w i) k).getD 0 ≤ (i : Int) := by
  rw [(work_cnt refs w i hi).get]
  have : (winL refs w i).count k ≤ i := by
    have h1 : (winL refs w i).count k ≤ (winL refs w i).length := List.count_le_length
    unfold winL at h1 ⊢
    rw [List.length_drop, List.length_take] at h1
    omega
  split <;> simp <;> omega
def workL (refs : List Int) (w : Nat) : List Int := (List.range refs.length).map fun i => (dcN (winL refs w (i + 1)) : Int)
/- Optimal. -/
/-- The next place of a page from i on, or the number of references. -/
def nx (refs : List Int) (i : Nat) (p : Int) : Nat := i + (refs.drop i).findIdx (eqB p)
theorem nx_le (refs : List Int) {i : Nat} (hi : i ≤ refs.length) (p : Int) : i ≤ nx refs i p ∧ nx refs i p ≤ refs.length := by
  have := List.findIdx_le_length (p := eqB p) (xs := refs.drop i)
  rw [List.length_drop] at this
  unfold nx
  omega
theorem nx_step (refs : List Int) {i : Nat} (hi : i < refs.length) (p : Int) : nx refs i p = if refs.getD i default = p then i else nx refs (i + 1) p := by
  unfold nx
  rw [List.drop_eq_getElem_cons hi, List.findIdx_cons, getD_get hi]
  unfold eqB
  by_cases e : refs[i] = p
  · simp [e]
  · have : ¬ p = refs[i] := fun h => e h.symm
    simp [e, this]
    omega
theorem nx_end (refs : List Int) (p : Int) : nx refs refs.length p = refs.length := by unfold nx; simp
theorem nx_at {refs : List Int} {i j : Nat} {p : Int} (hij : i ≤ j) (hj : j < refs.length) (h : refs.getD j default = p) (hn : ∀ a, i ≤ a → a < j → ¬ refs.getD a default = p) : nx refs i p = j := by
  obtain ⟨d, hd⟩ : ∃ d, d = j - i := ⟨_, rfl⟩
  induction d generalizing i with
  | zero =>
    have : i = j := by omega
    subst this
    rw [nx_step refs hj, if_pos h]
  | succ d ih =>
    rw [nx_step refs (by omega), if_neg (hn i (Nat.le_refl _) (by omega))]
    exact ih (by omega) (fun a h1 h2 => hn a (by omega) h2) (by omega)
theorem nx_no {refs : List Int} {i : Nat} {p : Int} (hi : i ≤ refs.length) (hn : ∀ a, i ≤ a → a < refs.length → ¬ refs.getD a default = p) : nx refs i p = refs.length := by
  obtain ⟨d, hd⟩ : ∃ d, d = refs.length - i := ⟨_, rfl⟩
  induction d generalizing i with
  | zero =>
    have : i = refs.length := by omega
    subst this
    exact nx_end refs p
  | succ d ih =>
    rw [nx_step refs (by omega), if_neg (hn i (Nat.le_refl _) (by omega))]
    exact ih (by omega) (fun a h1 h2 => hn a (by omega) h2) (by omega)
def vStep (r : Int) (q : Int × Int) (e : Int × Int) : Int × Int := if e.1 ≠ r ∧ (e.2 > q.1 ∨ e.2 = q.1 ∧ e.1 < q.2) then (e.2, e.1) else q
def vict (al : List (Int × Int)) (r : Int) : Int × Int := al.foldl (vStep r) (-1, r)
/-- The farthest of the entries in S, the smaller page first. -/
structure Best (al : List (Int × Int)) (r : Int) (S : Nat → Prop) (q : Int × Int) : Prop where
  top : ∀ (j : Nat) (e : Int × Int), S j → al[j]? = some e → e.1 ≠ r → e.2 < q.1 ∨ (e.2 = q.1 ∧ q.2 ≤ e.1)
  is : (q = (-1, r) ∧ ∀ (j : Nat) (e : Int × Int), S j → al[j]? = some e → e.1 = r) ∨ ∃ (j : Nat) (e : Int × Int), S j ∧ al[j]? = some e ∧ e.1 ≠ r ∧ q = (e.2, e.1)
theorem best_step {al : List (Int × Int)} {r : Int} {S S' : Nat → Prop} {q e : Int × Int} {j : Nat} (h : Best al r S q) (hpos : ∀ e ∈ al, 0 ≤ e.2) (hj : al[j]? = some e) (hS : ∀ i, S' i ↔ S i ∨ i = j) : Best al r S' (vStep r q e) := by
  have he0 := hpos e (List.mem_of_getElem? hj)
  unfold vStep
  split
  · rename_i hc
    refine ⟨fun i e' hi he' hr => ?_, .inr ⟨j, e, (hS j).2 (.inr rfl), hj, hc.1, rfl⟩⟩
    rcases (hS i).1 hi with h1 | rfl
    · have := h.top i e' h1 he' hr
      simp only
      omega
    · rw [hj] at he'
      cases he'
      exact .inr ⟨rfl, Int.le_refl _⟩
  · rename_i hc
    refine ⟨fun i e' hi he' hr => ?_, ?_⟩
    · rcases (hS i).1 hi with h1 | rfl
      · exact h.top i e' h1 he' hr
      · rw [hj] at he'
        cases he'
        have : ¬ (e.2 > q.1 ∨ e.2 = q.1 ∧ e.1 < q.2) := fun h' => hc ⟨hr, h'⟩
        omega
    · rcases h.is with ⟨h1, h2⟩ | ⟨i, e', h1, h2, h3, h4⟩
      · left
        refine ⟨h1, fun i e' hi he' => ?_⟩
        rcases (hS i).1 hi with h3 | rfl
        · exact h2 i e' h3 he'
        · rw [hj] at he'
          cases he'
          rw [h1] at hc
          apply Decidable.byContradiction
          intro hne
          exact hc ⟨hne, by simp only; omega⟩
      · exact .inr ⟨i, e', (hS i).2 (.inl h1), h2, h3, h4⟩
theorem best_unique {al : List (Int × Int)} {r : Int} {S : Nat → Prop} {q q' : Int × Int} (h : Best al r S q) (h' : Best al r S q') : q = q' := by
  rcases h.is with ⟨h1, h2⟩ | ⟨i, e, h1, h2, h3, h4⟩
  · rcases h'.is with ⟨g1, g2⟩ | ⟨i', e', g1, g2, g3, g4⟩
    · rw [h1, g1]
    · exact absurd (h2 i' e' g1 g2) g3
  · rcases h'.is with ⟨g1, g2⟩ | ⟨i', e', g1, g2, g3, g4⟩
    · exact absurd (g2 i e h1 h2) h3
    · have t1 := h'.top i e h1 h2 h3
      have t2 := h.top i' e' g1 g2 g3
      subst h4 g4
      simp only at t1 t2
      have : e.2 = e'.2 ∧ e.1 = e'.1 := by omega
      rw [this.1, this.2]
theorem best_fold {al : List (Int × Int)} {r : Int} (hpos : ∀ e ∈ al, 0 ≤ e.2) : ∀ k, k ≤ al.length → Best al r (fun j => j < k) ((al.take k).foldl (vStep r) (-1, r))
  | 0, _ => ⟨fun j e h => absurd h (Nat.not_lt_zero _), .inl ⟨rfl, fun j e h => absurd h (Nat.not_lt_zero _)⟩⟩
  | k + 1, hk => by
    have hk' : k < al.length := by omega
    have ht : al.take (k + 1) = al.take k ++ [al[k]] := (List.take_append_getElem hk').symm
    rw [ht, List.foldl_append]
    exact best_step (best_fold hpos k (by omega)) hpos (List.getElem?_eq_getElem hk') fun i => by omega
theorem vict_best {al : List (Int × Int)} {r : Int} (hpos : ∀ e ∈ al, 0 ≤ e.2) : Best al r (fun j => j < al.length) (vict al r) := by
  have := best_fold (r := r) hpos al.length (Nat.le_refl _)
  rwa [List.take_length] at this
def optS (refs : List Int) (f : Int) (i : Nat) (q : Nat × List (Int × Int)) : Nat × List (Int × Int) :=
  let r := refs.getD i default
  let n := if (aGet q.2 r).isSome then q.1 else q.1 + 1
  let a1 := aSet q.2 r (nx refs (i + 1) r : Int)
  (n, if (a1.length : Int) ≤ f then a1 else aDel a1 (vict a1 r).2)
def optP (refs : List Int) (f : Int) : Nat → Nat × List (Int × Int)
  | 0 => (0, [])
  | i + 1 => optS refs f i (optP refs f i)
def optN (refs : List Int) (f : Int) : Nat := (optP refs f refs.length).1
/-- What is resident: each page once, with its next place. -/
structure Res (refs : List Int) (i : Nat) (al : List (Int × Int)) : Prop where
  nd : (keysL al).Nodup
  pos : ∀ e ∈ al, 0 ≤ e.2
theorem res_del {al : List (Int × Int)} (h : ∀ e ∈ al, 0 ≤ e.2) (k : Int) : ∀ e ∈ aDel al k, 0 ≤ e.2 := fun e he => by
  unfold aDel at he
  split at he
  · exact h e (List.mem_of_mem_eraseIdx he)
  · exact h e he
theorem res_set {al : List (Int × Int)} (h : ∀ e ∈ al, 0 ≤ e.2) (k v : Int) (hv : 0 ≤ v) : ∀ e ∈ aSet al k v, 0 ≤ e.2 := fun e he => by
  unfold aSet at he
  split at he
  · rcases List.mem_or_eq_of_mem_set he with h1 | rfl
    · exact h e h1
    · exact hv
  · rcases List.mem_append.1 he with h1 | h1
    · exact h e h1
    · rw [List.mem_singleton.1 h1]; exact hv
theorem opt_res (refs : List Int) (f : Int) : ∀ i, i ≤ refs.length → Res refs i (optP refs f i).2 ∧ (optP refs f i).1 ≤ i ∧ (optP refs f i).2.length ≤ i
  | 0, _ => ⟨⟨List.nodup_nil, by simp [optP]⟩, by simp [optP], by simp [optP]⟩
  | i + 1, hi => by
    obtain ⟨⟨h1, h2⟩, h3, h4⟩ := opt_res refs f i (by omega)
    have hp1 := res_set h2 (refs.getD i default) (nx refs (i + 1) (refs.getD i default) : Int) (by omega)
    have hn1 := nodup_set h1 (refs.getD i default) (nx refs (i + 1) (refs.getD i default) : Int)
    have hl1 : (aSet (optP refs f i).2 (refs.getD i default) (nx refs (i + 1) (refs.getD i default) : Int)).length ≤ i + 1 := by
      rw [len_set]; split <;> omega
    show Res refs (i + 1) (optS refs f i (optP refs f i)).2 ∧ (optS refs f i (optP refs f i)).1 ≤ i + 1 ∧ (optS refs f i (optP refs f i)).2.length ≤ i + 1
    unfold optS
    simp only
    refine ⟨?_, by split <;> omega, ?_⟩
    · split
      · exact ⟨hn1, hp1⟩
      · exact ⟨nodup_del hn1 _, res_del hp1 _⟩
    · split
      · exact hl1
      · have : (aDel (aSet (optP refs f i).2 (refs.getD i default) (nx refs (i + 1) (refs.getD i default) : Int)) (vict (aSet (optP refs f i).2 (refs.getD i default) (nx refs (i + 1) (refs.getD i default) : Int)) (refs.getD i default)).2).length ≤ (aSet (optP refs f i).2 (refs.getD i default) (nx refs (i + 1) (refs.getD i default) : Int)).length := by
          rw [← len_keys, ← len_keys, keys_del]
          exact List.length_erase_le ..
        omega
end Go.Proofs.Ytdmphjphcdcdkaa
