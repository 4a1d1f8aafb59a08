/- What generations computes, in plain terms. No conditions. -/
import Derived.Test.YtongcjepmidamaaGenRCheck
set_option linter.unusedSimpArgs false
set_option linter.unusedVariables false
namespace Go.Proofs.Ytongcjepmidamaa
theorem any_mem {l : List Int} {f : Int} : l.any (eqB f) = true ↔ f ∈ l := by
  rw [List.any_eq_true]
  unfold eqB
  constructor
  · rintro ⟨x, hx, h⟩
    have : f = x := of_decide_eq_true h
    exact this ▸ hx
  · intro h; exact ⟨f, h, decide_eq_true rfl⟩
theorem any_not {l : List Int} {f : Int} : l.any (eqB f) = false ↔ f ∉ l := by
  rw [← Bool.not_eq_true, any_mem]
theorem nd_lists {L : GL} (h : L.flatten.Nodup) : (∀ i, (L.getD i default).Nodup) ∧ ∀ i j f, i < L.length → j < L.length → f ∈ L.getD i default → f ∈ L.getD j default → i = j := by
  unfold List.Nodup at h
  rw [List.pairwise_flatten] at h
  refine ⟨fun i => ?_, fun i j f hi hj h1 h2 => ?_⟩
  · rcases Nat.lt_or_ge i L.length with hi | hi
    · rw [getD_get hi]; exact h.1 _ (List.getElem_mem hi)
    · rw [getD_none hi]; exact List.nodup_nil
  · rw [getD_get hi] at h1
    rw [getD_get hj] at h2
    rw [List.pairwise_iff_getElem] at h
    rcases Nat.lt_trichotomy i j with h' | h' | h'
    · exact absurd rfl (h.2 i j hi hj h' f h1 f h2)
    · exact h'
    · exact absurd rfl (h.2 j i hj hi h' f h2 f h1)
theorem wh_cases (L : GL) (f : Int) : (∃ j : Nat, j < L.length ∧ whM L f = (j : Int) ∧ f ∈ L.getD j default ∧ ∀ a, a < j → f ∉ L.getD a default) ∨ (whM L f = -1 ∧ ∀ j, j < L.length → f ∉ L.getD j default) := by
  unfold whM
  cases hb : L.any fun l => l.any (eqB f)
  · right
    have := getD_any.1 hb
    exact ⟨by unfold idxM; rw [hb]; rfl, fun j hj => any_not.1 (this j hj)⟩
  · left
    obtain ⟨h1, h2⟩ := idxM_lt hb
    have h3 := idxM_at hb
    refine ⟨_, h2, by omega, any_mem.1 h3, fun a ha => ?_⟩
    have he : L.findIdx (fun l => l.any (eqB f)) = (idxM (fun l => l.any (eqB f)) L).toNat := by unfold idxM; rw [if_pos hb]; omega
    have := List.not_of_lt_findIdx (p := fun l => l.any (eqB f)) (xs := L) (i := a) (by omega)
    rw [getD_get (by omega)]
    exact any_not.1 (by simpa using this)
theorem agl (f : Int) (i : Nat) : ∀ (l : List Int) (q : List (Nat × Int)), aGet (agT (q ++ l.map fun x => (i, x))) f = if f ∈ l then some (i : Int) else aGet (agT q) f
  | [], q => by simp
  | x :: l, q => by
    have e : q ++ (x :: l).map (fun x => (i, x)) = (q ++ [(i, x)]) ++ l.map fun x => (i, x) := by simp
    rw [e, agl f i l, agT_snoc, get_set]
    by_cases h1 : f ∈ l
    · rw [if_pos h1, if_pos (List.mem_cons_of_mem _ h1)]
    · rw [if_neg h1]
      by_cases h2 : f = x
      · rw [if_pos h2, if_pos (by rw [h2]; exact List.mem_cons_self ..)]
      · rw [if_neg h2, if_neg (fun h => (List.mem_cons.1 h).elim h2 h1)]
theorem ag_pre {L : GL} (f : Int) : ∀ i, ((∀ j, j < i → f ∉ L.getD j default) → aGet (agT (prT L i)) f = none) ∧ (∀ j, j < i → f ∈ L.getD j default → (∀ a, a < i → f ∈ L.getD a default → a = j) → aGet (agT (prT L i)) f = some (j : Int))
  | 0 => ⟨fun _ => by simp [prT, agT, aGet, aFind], fun j hj => by omega⟩
  | i + 1 => by
    obtain ⟨h1, h2⟩ := ag_pre (L := L) f i
    rw [prT_succ, agl]
    refine ⟨fun h => ?_, fun j hj hm hu => ?_⟩
    · rw [if_neg (h i (by omega))]
      exact h1 fun j hj => h j (by omega)
    · by_cases hi : f ∈ L.getD i default
      · rw [if_pos hi, hu i (by omega) hi]
      · rw [if_neg hi]
        have hne : j ≠ i := fun e => hi (e ▸ hm)
        exact h2 j (by omega) hm fun a ha => hu a (by omega)
theorem ag_wh {L : GL} (hnd : L.flatten.Nodup) (f : Int) : aGet (agM L) f = if whM L f < 0 then none else some (whM L f) := by
  obtain ⟨h1, h2⟩ := ag_pre (L := L) f L.length
  unfold agM prL
  rcases wh_cases L f with ⟨j, hj, hw, hm, _⟩ | ⟨hw, hn⟩
  · rw [hw, if_neg (by omega), h2 j hj hm fun a ha ham => (nd_lists hnd).2 a j f ha hj ham hm]
  · rw [hw, if_pos (by omega), h1 hn]
def addE (L : GL) (a f : Int) : Int := if chkG L = 0 then (if a < 0 ∨ 4 ≤ a ∨ okF f = false then 2 else if whM L f < 0 then 0 else 7) else chkG L
def addL (L : GL) (a f : Int) : GL := if addE L a f = 0 then L.set a.toNat (L.getD a.toNat default ++ [f]) else []
def remE (L : GL) (f : Int) : Int := if chkG L = 0 then (if whM L f < 0 then 6 else 0) else chkG L
def remL (L : GL) (f : Int) : GL := if remE L f = 0 then L.set (whM L f).toNat ((L.getD (whM L f).toNat default).erase f) else []
def rplE (L : GL) (f g : Int) : Int := if chkG L = 0 then (if okF g = false then 2 else if whM L f < 0 then 6 else if whM L g < 0 then 0 else 7) else chkG L
def rep1 (l : List Int) (f g : Int) : List Int := l.map fun x => if x = f then g else x
def rplL (L : GL) (f g : Int) : GL := if rplE L f g = 0 then L.set (whM L f).toNat (rep1 (L.getD (whM L f).toNat default) f g) else []
theorem idx_mem {l : List Int} {f : Int} (h : f ∈ l) : ∃ k : Nat, k < l.length ∧ idxM (eqB f) l = (k : Int) ∧ l.getD k default = f ∧ ∀ a, a < k → ¬ l.getD a default = f := by
  have ha := any_mem.2 h
  obtain ⟨h1, h2⟩ := idxM_lt ha
  have h3 := idxM_at ha
  unfold eqB at h3
  refine ⟨_, h2, by omega, (of_decide_eq_true h3).symm, fun a hak e => ?_⟩
  have he : l.findIdx (eqB f) = (idxM (eqB f) l).toNat := by unfold idxM; rw [if_pos ha]; omega
  have := List.not_of_lt_findIdx (p := eqB f) (xs := l) (i := a) (by omega)
  rw [getD_get (by omega)] at e
  unfold eqB at this
  rw [e] at this
  simp at this
theorem erase_idx : ∀ {s : List Int} {k : Nat} {p : Int}, k < s.length → s.getD k default = p → (∀ j, j < k → ¬ s.getD j default = p) → s.erase p = s.take k ++ s.drop (k + 1)
  | [], k, _, h, _, _ => by simp at h
  | x :: s, 0, p, _, h, _ => by
    have : x = p := h
    subst this
    simp
  | x :: s, k + 1, p, h, h1, h2 => by
    have hx : ¬ x = p := h2 0 (by omega)
    rw [List.erase_cons_tail (by simpa using hx), erase_idx (by simpa using h) (by simpa using h1) (fun j hj => by have := h2 (j + 1) (by omega); simpa using this)]
    simp
theorem erase_filter {l : List Int} (h : l.Nodup) (f : Int) : (l.filter fun x => ![f].any (eqB x)) = l.erase f := by
  rw [h.erase_eq_filter]
  congr 1
  funext x
  unfold eqB
  simp only [bne, Bool.not_not, List.any_cons, List.any_nil, Bool.or_false]
  by_cases h : x = f
  · subst h; simp
  · simp [h]
theorem rep_set {l : List Int} (h : l.Nodup) {f g : Int} {k : Nat} (hk : k < l.length) (hf : l.getD k default = f) : l.set k g = rep1 l f g := by
  unfold rep1
  apply List.ext_getElem?
  intro j
  rw [List.getElem?_set, List.getElem?_map]
  by_cases e : k = j
  · subst e
    rw [if_pos rfl, if_pos hk, List.getElem?_eq_getElem hk]
    rw [getD_get hk] at hf
    simp [hf]
  · rw [if_neg e]
    rcases Nat.lt_or_ge j l.length with hj | hj
    · rw [List.getElem?_eq_getElem hj]
      rw [getD_get hk] at hf
      have : ¬ l[j] = f := fun e' => e ((List.getElem_inj h).1 (hf.trans e'.symm))
      simp [this]
    · rw [List.getElem?_eq_none hj]; rfl
/-- The error of a list of accessed frames. -/
def accE (L : GL) : List Int → List Int → Int
  | _, [] => 0
  | seen, f :: r => if whM L f < 0 then 6 else if f ∈ seen then 7 else accE L (seen ++ [f]) r
theorem acc_step {L : GL} {A : List Int} {j : Nat} (h : j < A.length) : accE L (A.take j) (A.drop j) = if whM L (A.getD j default) < 0 then 6 else if A.getD j default ∈ A.take j then 7 else accE L (A.take (j + 1)) (A.drop (j + 1)) := by
  rw [List.drop_eq_getElem_cons h, accE, take_step h, getD_get h]
theorem acc_end (L : GL) (A : List Int) : accE L (A.take A.length) (A.drop A.length) = 0 := by rw [List.drop_length]; rfl
def hotT (q : List Int) : List (Int × Bool) := q.foldl (fun al x => aSet al x true) []
theorem hotT_snoc (q : List Int) (x : Int) : hotT (q ++ [x]) = aSet (hotT q) x true := by unfold hotT; rw [List.foldl_append]; rfl
theorem hot_get (x : Int) : ∀ (n : Nat) (q : List Int), q.length = n → aGet (hotT q) x = if x ∈ q then some true else none
  | 0, q, h => by
    have : q = [] := List.eq_nil_of_length_eq_zero h
    subst this
    rfl
  | n + 1, q, h => by
    obtain ⟨q', p, rfl⟩ : ∃ q' p, q = q' ++ [p] := by
      rcases List.eq_nil_or_concat q with h' | ⟨q', p, h'⟩
      · rw [h'] at h; cases h
      · exact ⟨q', p, by rw [h', List.concat_eq_append]⟩
    rw [hotT_snoc, get_set, hot_get x n q' (by simp at h; omega)]
    by_cases e : x = p
    · rw [if_pos e, if_pos (by rw [e]; simp)]
    · rw [if_neg e]
      by_cases e2 : x ∈ q'
      · rw [if_pos e2, if_pos (by simp [e2])]
      · rw [if_neg e2, if_neg (by simp [e, e2])]
def ageE (L : GL) (A : List Int) : Int := if chkG L = 0 then accE L [] A else chkG L
def ageTo (A : List Int) (i : Nat) (f : Int) : Nat := if f ∈ A then 3 else i - 1
def agePut (A : List Int) (M : GL) (p : Nat × Int) : GL := M.set (ageTo A p.1 p.2) (M.getD (ageTo A p.1 p.2) default ++ [p.2])
def ageT (A : List Int) (q : List (Nat × Int)) : GL := q.foldl (agePut A) [[], [], [], []]
theorem ageT_snoc (A : List Int) (q : List (Nat × Int)) (p : Nat × Int) : ageT A (q ++ [p]) = agePut A (ageT A q) p := by unfold ageT; rw [List.foldl_append]; rfl
theorem ageT_len (A : List Int) : ∀ (n : Nat) (q : List (Nat × Int)), q.length = n → (ageT A q).length = 4
  | 0, q, h => by
    have : q = [] := List.eq_nil_of_length_eq_zero h
    subst this
    rfl
  | n + 1, q, h => by
    obtain ⟨q', p, rfl⟩ : ∃ q' p, q = q' ++ [p] := by
      rcases List.eq_nil_or_concat q with h' | ⟨q', p, h'⟩
      · rw [h'] at h; cases h
      · exact ⟨q', p, by rw [h', List.concat_eq_append]⟩
    rw [ageT_snoc]
    unfold agePut
    rw [List.length_set, ageT_len A n q' (by simp at h; omega)]
def ageL (L : GL) (A : List Int) : GL := if ageE L A = 0 then ageT A (prL L) else []
def ordL (L : GL) : List Int := if chkG L = 0 then L.flatten else []
end Go.Proofs.Ytongcjepmidamaa
