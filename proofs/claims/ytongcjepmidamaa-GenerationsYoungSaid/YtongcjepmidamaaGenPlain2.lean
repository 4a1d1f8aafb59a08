/- What aging, adding and replacing leave, in plain terms. No conditions. -/
import Derived.Test.YtongcjepmidamaaGenPlain
set_option linter.unusedSimpArgs false
set_option linter.unusedVariables false
namespace Go.Proofs.Ytongcjepmidamaa
def yA (A : List Int) (f : Int) : Bool := decide (f ∈ A)
def nA (A : List Int) (f : Int) : Bool := !decide (f ∈ A)
theorem put_in {A : List Int} {x : Int} (hx : x ∈ A) (i : Nat) (m0 m1 m2 m3 : List Int) : agePut A [m0, m1, m2, m3] (i, x) = [m0, m1, m2, m3 ++ [x]] := by
  unfold agePut ageTo; simp [hx]
theorem put_out {A : List Int} {x : Int} (hx : x ∉ A) (i : Nat) (M : List (List Int)) : agePut A M (i, x) = M.set (i - 1) (M.getD (i - 1) default ++ [x]) := by
  unfold agePut ageTo; simp [hx]
theorem seg0 (A : List Int) (i : Nat) (hi : i - 1 = 0) : ∀ (l m0 m1 m2 m3 : List Int), (l.map fun f => (i, f)).foldl (agePut A) [m0, m1, m2, m3] = [m0 ++ l.filter (nA A), m1, m2, m3 ++ l.filter (yA A)]
  | [], m0, m1, m2, m3 => by simp
  | x :: l, m0, m1, m2, m3 => by
    rw [List.map_cons, List.foldl_cons]
    by_cases hx : x ∈ A
    · rw [put_in hx, seg0 A i hi l]; simp [yA, nA, hx, List.filter_cons]
    · rw [put_out hx, hi, show [m0, m1, m2, m3].set 0 ([m0, m1, m2, m3].getD 0 default ++ [x]) = [m0 ++ [x], m1, m2, m3] from rfl, seg0 A i hi l]; simp [yA, nA, hx, List.filter_cons]
theorem seg1 (A : List Int) (i : Nat) (hi : i - 1 = 1) : ∀ (l m0 m1 m2 m3 : List Int), (l.map fun f => (i, f)).foldl (agePut A) [m0, m1, m2, m3] = [m0, m1 ++ l.filter (nA A), m2, m3 ++ l.filter (yA A)]
  | [], m0, m1, m2, m3 => by simp
  | x :: l, m0, m1, m2, m3 => by
    rw [List.map_cons, List.foldl_cons]
    by_cases hx : x ∈ A
    · rw [put_in hx, seg1 A i hi l]; simp [yA, nA, hx, List.filter_cons]
    · rw [put_out hx, hi, show [m0, m1, m2, m3].set 1 ([m0, m1, m2, m3].getD 1 default ++ [x]) = [m0, m1 ++ [x], m2, m3] from rfl, seg1 A i hi l]; simp [yA, nA, hx, List.filter_cons]
theorem seg2 (A : List Int) (i : Nat) (hi : i - 1 = 2) : ∀ (l m0 m1 m2 m3 : List Int), (l.map fun f => (i, f)).foldl (agePut A) [m0, m1, m2, m3] = [m0, m1, m2 ++ l.filter (nA A), m3 ++ l.filter (yA A)]
  | [], m0, m1, m2, m3 => by simp
  | x :: l, m0, m1, m2, m3 => by
    rw [List.map_cons, List.foldl_cons]
    by_cases hx : x ∈ A
    · rw [put_in hx, seg2 A i hi l]; simp [yA, nA, hx, List.filter_cons]
    · rw [put_out hx, hi, show [m0, m1, m2, m3].set 2 ([m0, m1, m2, m3].getD 2 default ++ [x]) = [m0, m1, m2 ++ [x], m3] from rfl, seg2 A i hi l]; simp [yA, nA, hx, List.filter_cons]
theorem four {L : GL} (h : L.length = 4) : ∃ a b c d, L = [a, b, c, d] := by
  match L, h with
  | [a, b, c, d], _ => exact ⟨a, b, c, d, rfl⟩
theorem pr_four (a b c d : List Int) : prL [a, b, c, d] = (a.map fun f => (0, f)) ++ (b.map fun f => (1, f)) ++ (c.map fun f => (2, f)) ++ (d.map fun f => (3, f)) := by
  show prT [a, b, c, d] 4 = _
  rw [prT_succ, prT_succ, prT_succ, prT_succ]
  rfl
theorem age_form (A a b c d : List Int) : ageT A (prL [a, b, c, d]) = [a.filter (nA A) ++ b.filter (nA A), c.filter (nA A), d.filter (nA A), a.filter (yA A) ++ b.filter (yA A) ++ c.filter (yA A) ++ d.filter (yA A)] := by
  rw [pr_four]
  unfold ageT
  rw [List.foldl_append, List.foldl_append, List.foldl_append, seg0 A 0 rfl, seg0 A 1 rfl, seg1 A 2 rfl, seg2 A 3 rfl]
  simp
theorem age_flat {A : List Int} {L : GL} (h : L.length = 4) : (ageT A (prL L)).flatten = L.flatten.filter (nA A) ++ L.flatten.filter (yA A) := by
  obtain ⟨a, b, c, d, rfl⟩ := four h
  rw [age_form]
  simp [List.filter_append]
theorem age_three {A : List Int} {L : GL} (h : L.length = 4) : (ageT A (prL L)).getD 3 default = L.flatten.filter (yA A) := by
  obtain ⟨a, b, c, d, rfl⟩ := four h
  rw [age_form]
  simp [List.filter_append]
theorem age_perm {A : List Int} {L : GL} (h : L.length = 4) : (ageT A (prL L)).flatten.Perm L.flatten := by
  rw [age_flat h]
  refine List.perm_append_comm.trans ?_
  exact List.filter_append_perm (yA A) L.flatten
theorem chk_ok {L : GL} (h4 : L.length = 4) (ho : ∀ x ∈ L.flatten, okF x = true) (hn : L.flatten.Nodup) : chkG L = 0 := by
  rw [chk_dup h4 (List.any_eq_false.2 fun x hx => by rw [ho x hx]; decide), if_pos hn]
theorem chk_all {L : GL} (h : chkG L = 0) : ∀ x ∈ L.flatten, okF x = true := fun x hx => by
  have := List.any_eq_false.1 (chk_zero h).2.1 x hx
  simpa using this
theorem age_chk {A : List Int} {L : GL} (h : chkG L = 0) : chkG (ageT A (prL L)) = 0 := by
  have h4 := (chk_zero h).1
  have hp := age_perm (A := A) h4
  exact chk_ok (ageT_len A _ _ rfl) (fun x hx => chk_all h x (hp.mem_iff.1 hx)) (hp.nodup_iff.2 (chk_zero h).2.2)
theorem acc_zero {L : GL} : ∀ (r s : List Int), accE L s r = 0 → (∀ x ∈ r, ¬ whM L x < 0) ∧ r.Nodup ∧ ∀ x ∈ r, x ∉ s
  | [], s, _ => ⟨fun x hx => (by cases hx), List.nodup_nil, fun x hx => (by cases hx)⟩
  | f :: r, s, h => by
    rw [accE] at h
    split at h
    · cases h
    · rename_i hw
      split at h
      · cases h
      · rename_i hs
        obtain ⟨h1, h2, h3⟩ := acc_zero r _ h
        refine ⟨fun x hx => ?_, List.nodup_cons.2 ⟨fun hf => ?_, h2⟩, fun x hx => ?_⟩
        · rcases List.mem_cons.1 hx with rfl | hx
          · exact hw
          · exact h1 x hx
        · exact h3 f hf (by simp)
        · rcases List.mem_cons.1 hx with rfl | hx
          · exact hs
          · exact fun hxs => h3 x hx (by simp [hxs])
theorem wh_flat {L : GL} {f : Int} : ¬ whM L f < 0 ↔ f ∈ L.flatten := by
  rw [List.mem_flatten]
  rcases wh_cases L f with ⟨j, hj, hw, hm, _⟩ | ⟨hw, hn⟩
  · rw [hw]
    refine ⟨fun _ => ⟨L.getD j default, ?_, hm⟩, fun _ => by omega⟩
    rw [getD_get hj]; exact List.getElem_mem hj
  · rw [hw]
    refine ⟨fun h => by omega, fun ⟨l, hl, hf⟩ => ?_⟩
    obtain ⟨j, hj, rfl⟩ := List.getElem_of_mem hl
    exact absurd (by rw [getD_get hj]; exact hf) (hn j hj)
theorem wh_of {L : GL} {f : Int} {j : Nat} (hnd : L.flatten.Nodup) (hj : j < L.length) (hm : f ∈ L.getD j default) : whM L f = (j : Int) := by
  rcases wh_cases L f with ⟨i, hi, hw, hmi, _⟩ | ⟨hw, hn⟩
  · rw [hw, (nd_lists hnd).2 i j f hi hj hmi hm]
  · exact absurd hm (hn j hj)
theorem age_zero' {L : GL} {A : List Int} (h : ageE L A = 0) : chkG L = 0 ∧ accE L [] A = 0 := by
  unfold ageE at h
  split at h
  · exact ⟨by assumption, h⟩
  · exact absurd h (by assumption)
theorem age_len3 {L : GL} {A : List Int} (h : ageE L A = 0) : ((ageT A (prL L)).getD 3 default).length = A.length := by
  obtain ⟨h0, ha⟩ := age_zero' h
  obtain ⟨h1, h2, _⟩ := acc_zero _ _ ha
  rw [age_three (chk_zero h0).1]
  refine ((List.perm_ext_iff_of_nodup ((chk_zero h0).2.2.filter _) h2).2 fun x => ?_).length_eq
  rw [List.mem_filter]
  unfold yA
  rw [decide_eq_true_eq]
  exact ⟨fun h => h.2, fun h => ⟨wh_flat.1 (h1 x h), h⟩⟩
theorem age_wh {L : GL} {A : List Int} (h : ageE L A = 0) {x : Int} (hx : x ∈ A) : whM (ageT A (prL L)) x = 3 := by
  obtain ⟨h0, ha⟩ := age_zero' h
  obtain ⟨h1, _, _⟩ := acc_zero _ _ ha
  refine wh_of (j := 3) (chk_zero (age_chk h0)).2.2 (by rw [ageT_len A _ _ rfl]; omega) ?_
  rw [age_three (chk_zero h0).1, List.mem_filter]
  exact ⟨wh_flat.1 (h1 x hx), by unfold yA; exact decide_eq_true hx⟩
def stl (L : GL) : Nat → GL
  | 0 => L
  | k + 1 => ageL (stl L k) []
theorem ageE_nil {L : GL} (h : chkG L = 0) : ageE L [] = 0 := by unfold ageE; rw [if_pos h]; rfl
theorem ageL_nil {L : GL} (h : chkG L = 0) : ageL L [] = ageT [] (prL L) := by unfold ageL; rw [if_pos (ageE_nil h)]
theorem filter_n (l : List Int) : l.filter (nA []) = l := List.filter_eq_self.2 fun x _ => by unfold nA; simp
theorem filter_y (l : List Int) : l.filter (yA []) = [] := List.filter_eq_nil_iff.2 fun x _ => by unfold yA; simp
theorem stl_ok {L : GL} (h : chkG L = 0) : ∀ k, chkG (stl L k) = 0 ∧ (stl L k).flatten = L.flatten
  | 0 => ⟨h, rfl⟩
  | k + 1 => by
    obtain ⟨h1, h2⟩ := stl_ok h k
    rw [stl, ageL_nil h1]
    exact ⟨age_chk h1, by rw [age_flat (chk_zero h1).1, filter_n, filter_y, List.append_nil, h2]⟩
theorem stl_three {L : GL} (h : chkG L = 0) : stl L 3 = [L.flatten, [], [], []] := by
  obtain ⟨a, b, c, d, rfl⟩ := four (chk_zero h).1
  have h1 := (stl_ok h 1).1
  have h2 := (stl_ok h 2).1
  have e1 : stl [a, b, c, d] 1 = [a ++ b, c, d, []] := by rw [stl, stl, ageL_nil h, age_form]; simp only [filter_n, filter_y]; rfl
  have e2 : stl [a, b, c, d] 2 = [a ++ b ++ c, d, [], []] := by rw [stl, ageL_nil h1, e1, age_form]; simp only [filter_n, filter_y]; rfl
  rw [stl, ageL_nil h2, e2, age_form]
  simp only [filter_n, filter_y]
  simp
theorem stl_wh {L : GL} (h : chkG L = 0) {x : Int} (hx : x ∈ L.flatten) : whM (stl L 3) x = 0 := by
  refine wh_of (j := 0) (chk_zero (stl_ok h 3).1).2.2 ?_ ?_
  · rw [stl_three h]; simp
  · rw [stl_three h]; exact hx
/- Adding. -/
theorem flat_at {L : GL} {i : Nat} (hi : i < L.length) (l' : List Int) : (L.set i l').flatten = (L.take i).flatten ++ (l' ++ (L.drop (i + 1)).flatten) := by
  rw [List.set_eq_take_append_cons_drop, if_pos hi, List.flatten_append, List.flatten_cons]
theorem flat_self {L : GL} {i : Nat} (hi : i < L.length) : L.flatten = (L.take i).flatten ++ (L.getD i default ++ (L.drop (i + 1)).flatten) := by
  rw [← flat_at hi, set_self hi]
theorem add_perm {L : GL} {i : Nat} (hi : i < L.length) (f : Int) : (L.set i (L.getD i default ++ [f])).flatten.Perm (f :: L.flatten) := by
  rw [flat_at hi, flat_self hi]
  have : (L.getD i default ++ [f] ++ (L.drop (i + 1)).flatten).Perm (f :: (L.getD i default ++ (L.drop (i + 1)).flatten)) := by
    rw [List.append_assoc]
    exact List.perm_middle
  exact (List.Perm.append_left _ this).trans List.perm_middle
structure Addd (L : GL) (a f : Int) : Prop where
  chk : chkG L = 0
  lo : 0 ≤ a
  hi : a < 4
  ok : okF f = true
  no : f ∉ L.flatten
theorem add_zero {L : GL} {a f : Int} : addE L a f = 0 ↔ Addd L a f := by
  unfold addE
  constructor
  · intro h
    split at h
    · rename_i hc
      split at h
      · cases h
      · rename_i hn
        split at h
        · rename_i hw
          refine ⟨hc, by omega, by omega, ?_, fun hf => wh_flat.2 hf hw⟩
          cases hb : okF f
          · exact absurd (.inr (.inr hb)) hn
          · rfl
        · cases h
    · exact absurd h (by assumption)
  · rintro ⟨h1, h2, h3, h4, h5⟩
    rw [if_pos h1, if_neg (by rw [h4]; simp; omega), if_pos (Decidable.not_not.1 fun h => h5 (wh_flat.1 h))]
section
variable {L : GL} {a f : Int} (h : Addd L a f)
include h
theorem Addd.idx : a.toNat < L.length := by have := (chk_zero h.chk).1; have := h.lo; have := h.hi; omega
theorem Addd.eq : addL L a f = L.set a.toNat (L.getD a.toNat default ++ [f]) := by unfold addL; rw [if_pos (add_zero.2 h)]
theorem Addd.len : (addL L a f).length = 4 := by rw [h.eq, List.length_set]; exact (chk_zero h.chk).1
theorem Addd.get : (addL L a f).getD a.toNat default = L.getD a.toNat default ++ [f] := by rw [h.eq, getD_set_self h.idx]
theorem Addd.mem (x : Int) : x ∈ (addL L a f).flatten ↔ x = f ∨ x ∈ L.flatten := by
  rw [h.eq, (add_perm h.idx f).mem_iff, List.mem_cons]
theorem Addd.chk' : chkG (addL L a f) = 0 := by
  have hp := add_perm h.idx f
  rw [← h.eq] at hp
  refine chk_ok h.len (fun x hx => ?_) (hp.nodup_iff.2 (List.nodup_cons.2 ⟨h.no, (chk_zero h.chk).2.2⟩))
  rcases (h.mem x).1 hx with rfl | hx
  · exact h.ok
  · exact chk_all h.chk x hx
theorem Addd.wh : whM (addL L a f) f = a := by
  have := wh_of (L := addL L a f) (j := a.toNat) (f := f) (chk_zero h.chk').2.2 (by rw [h.len]; have := h.hi; have := h.lo; omega) (by rw [h.get]; simp)
  rw [this]
  have := h.lo
  omega
theorem Addd.nin : f ∉ L.getD a.toNat default := fun hf => h.no (by rw [flat_self h.idx]; exact List.mem_append_right _ (List.mem_append_left _ hf))
theorem Addd.remE : remE (addL L a f) f = 0 := by
  unfold Go.Proofs.Ytongcjepmidamaa.remE
  rw [if_pos h.chk', if_neg (by rw [h.wh]; have := h.lo; omega)]
theorem Addd.rem : remL (addL L a f) f = L := by
  unfold remL
  rw [if_pos h.remE, h.wh, h.get, List.erase_append_right _ h.nin, List.erase_cons_head, List.append_nil, h.eq, List.set_set, set_self h.idx]
theorem Addd.rpl {g : Int} (hr : rplE (addL L a f) f g = 0) : Addd L a g ∧ g ≠ f ∧ rplL (addL L a f) f g = addL L a g := by
  have hr0 := hr
  unfold rplE at hr
  rw [if_pos h.chk', h.wh] at hr
  split at hr
  · cases hr
  · rename_i ho
    rw [if_neg (by have := h.lo; omega)] at hr
    split at hr
    · rename_i hw
      have hg : g ∉ (addL L a f).flatten := fun hg => wh_flat.2 hg hw
      have hgf : g ≠ f := fun e => hg ((h.mem g).2 (.inl e))
      have hA : Addd L a g := ⟨h.chk, h.lo, h.hi, by cases hb : okF g; exact absurd hb ho; rfl, fun hg' => hg ((h.mem g).2 (.inr hg'))⟩
      refine ⟨hA, hgf, ?_⟩
      unfold rplL
      rw [if_pos hr0, h.wh, h.get, h.eq, List.set_set, hA.eq]
      congr 1
      unfold rep1
      rw [List.map_append, List.map_cons, List.map_nil, if_pos rfl]
      congr 1
      conv => rhs; rw [← List.map_id (L.getD a.toNat default)]
      exact List.map_congr_left fun x hx => by
        have hxf : ¬ x = f := fun e => h.nin (e ▸ hx)
        rw [if_neg hxf]; rfl
    · cases hr
theorem Addd.back {g : Int} (hg : Addd L a g) (hne : g ≠ f) : rplE (addL L a g) g f = 0 ∧ rplL (addL L a g) g f = addL L a f := by
  have hr : rplE (addL L a g) g f = 0 := by
    unfold rplE
    rw [if_pos hg.chk', hg.wh, if_neg (by rw [h.ok]; decide), if_neg (by have := h.lo; omega), if_pos (Decidable.not_not.1 fun hw => ?_)]
    rcases (hg.mem f).1 (wh_flat.1 hw) with e | e
    · exact hne e.symm
    · exact h.no e
  exact ⟨hr, (hg.rpl hr).2.2⟩
end
end Go.Proofs.Ytongcjepmidamaa
