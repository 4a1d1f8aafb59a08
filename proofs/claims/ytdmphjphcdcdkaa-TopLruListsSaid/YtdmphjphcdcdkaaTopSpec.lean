/- What workingset computes, in plain terms: refault distances over what a cache keeps. No conditions. -/
import Derived.Test.YtdmphjphcdcdkaaStkOrder
set_option linter.unusedSimpArgs false
set_option linter.unusedVariables false
namespace Go.Proofs.Ytdmphjphcdcdkaa
theorem getD_appL {α : Type} [Inhabited α] {l r : List α} {j : Nat} (h : j < l.length) : (l ++ r).getD j default = l.getD j default := by rw [List.getD_eq_getElem?_getD, List.getElem?_append_left h, List.getD_eq_getElem?_getD]
theorem getD_appR {α : Type} [Inhabited α] {l r : List α} {j : Nat} (h : l.length ≤ j) : (l ++ r).getD j default = r.getD (j - l.length) default := by rw [List.getD_eq_getElem?_getD, List.getElem?_append_right h, List.getD_eq_getElem?_getD]
def distW (W : List (Int × Int)) (c : Nat) (p : Int) : Int := match aGet W p with
  | some v => (c : Int) - v
  | none => -2
structure HS where
  out : List Int
  W : List (Int × Int)
  c : Nat
def hsS (T : List Int) (n : Nat) (p : Int) (q : HS) : HS :=
  if p ∈ T then ⟨q.out ++ [-1], q.W, q.c⟩
  else if T.length = n then ⟨q.out ++ [distW q.W q.c p], aSet q.W (T.getD 0 default) ((q.c + 1 : Nat) : Int), q.c + 1⟩
  else ⟨q.out ++ [distW q.W q.c p], q.W, q.c⟩
def hsP (T : Nat → List Int) (refs : List Int) (n : Nat) : Nat → HS
  | 0 => ⟨[], [], 0⟩
  | i + 1 => hsS (T i) n (refs.getD i default) (hsP T refs n i)
theorem hs_len (T : Nat → List Int) (refs : List Int) (n : Nat) : ∀ i, (hsP T refs n i).out.length = i ∧ (hsP T refs n i).c ≤ i ∧ ∀ x v, aGet (hsP T refs n i).W x = some v → 0 ≤ v ∧ v ≤ (hsP T refs n i).c
  | 0 => ⟨rfl, Nat.le_refl _, fun x v h => by simp [hsP, aGet, aFind] at h⟩
  | i + 1 => by
    obtain ⟨h1, h2, h3⟩ := hs_len T refs n i
    unfold hsP hsS
    split
    · exact ⟨by simp [h1], by simp only; omega, h3⟩
    · split
      · refine ⟨by simp [h1], by simp only; omega, fun x v h => ?_⟩
        simp only at h ⊢
        rw [get_set] at h
        split at h
        · cases h; omega
        · have := h3 x v h; omega
      · exact ⟨by simp [h1], by simp only; omega, h3⟩
theorem dist_ne {W : List (Int × Int)} {c : Nat} {p : Int} (h : ∀ x v, aGet W x = some v → 0 ≤ v ∧ v ≤ c) : distW W c p ≠ -1 ∧ -2 ≤ distW W c p ∧ distW W c p ≤ c := by
  unfold distW
  split
  · rename_i v hv
    have := h p v hv
    omega
  · omega
/- FIFO: the plain cache. -/
def fT (refs : List Int) (n : Nat) (i : Nat) : List Int := (fifoP (n : Int) (refs.take i)).2
theorem fT_step {refs : List Int} {n i : Nat} (hn : 1 ≤ n) (hi : i < refs.length) : fT refs n (i + 1) = if refs.getD i default ∈ fT refs n i then fT refs n i else (if (fT refs n i).length = n then (fT refs n i).drop 1 else fT refs n i) ++ [refs.getD i default] := by
  have hl := (fifo_inv refs n i (by omega)).2
  have hst := fifo_step (n : Int) hi
  unfold fT
  rw [hst]
  obtain ⟨m, q, hq⟩ : ∃ m q, fifoP (n : Int) (refs.take i) = (m, q) := ⟨_, _, rfl⟩
  obtain ⟨r, hr⟩ : ∃ r, r = refs.getD i default := ⟨_, rfl⟩
  rw [hq] at hl ⊢
  rw [← hr]
  simp only at hl ⊢
  unfold fifoS
  by_cases hm : r ∈ q
  · have ha : q.any (eqB r) = true := List.any_eq_true.2 ⟨r, hm, by unfold eqB; simp⟩
    rw [if_pos hm, if_pos ha]
  · have ha : ¬ q.any (eqB r) = true := fun h => by
      obtain ⟨x, hx, he⟩ := List.any_eq_true.1 h
      unfold eqB at he
      have : r = x := by simpa using he
      exact hm (this ▸ hx)
    rw [if_neg hm, if_neg ha]
    simp only
    by_cases hl2 : q.length = n
    · rw [if_pos hl2, if_pos (by simp; omega)]
      exact List.drop_append_of_le_length (by omega)
    · rw [if_neg hl2, if_neg (by simp; omega)]
theorem fifo_count (refs : List Int) (n : Nat) : ∀ i, i ≤ refs.length → (hsP (fT refs n) refs n i).out.countP (fun x => x != -1) = (fifoP (n : Int) (refs.take i)).1
  | 0, _ => by simp [hsP, fifoP]
  | i + 1, hi => by
    have ih := fifo_count refs n i (by omega)
    have hst := fifo_step (n : Int) (l := refs) (i := i) (by omega)
    have hne := (dist_ne (p := refs.getD i default) (hs_len (fT refs n) refs n i).2.2).1
    unfold hsP hsS
    rw [hst]
    unfold fT at *
    obtain ⟨m, q, hq⟩ : ∃ m q, fifoP (n : Int) (refs.take i) = (m, q) := ⟨_, _, rfl⟩
    obtain ⟨r, hr⟩ : ∃ r, r = refs.getD i default := ⟨_, rfl⟩
    obtain ⟨Q, hQ⟩ : ∃ Q, Q = hsP (fun i => (fifoP (n : Int) (refs.take i)).2) refs n i := ⟨_, rfl⟩
    rw [← hQ] at ih hne ⊢
    rw [hq] at ih ⊢
    rw [← hr] at hne ⊢
    simp only at ih ⊢
    unfold fifoS
    by_cases hm : r ∈ q
    · have ha : q.any (eqB r) = true := List.any_eq_true.2 ⟨r, hm, by unfold eqB; simp⟩
      rw [if_pos hm, if_pos ha]
      simp [ih]
    · have ha : ¬ q.any (eqB r) = true := fun h => by
        obtain ⟨x, hx, he⟩ := List.any_eq_true.1 h
        unfold eqB at he
        have : r = x := by simpa using he
        exact hm (this ▸ hx)
      rw [if_neg hm, if_neg ha]
      split <;> simp [ih, hne]
/- LRU: the cache with two lists and no active pages. -/
def lT (refs : List Int) (n : Nat) (i : Nat) : List Int := ((stkL (refs.take i)).take n).reverse
theorem lT_mem {refs : List Int} {n i : Nat} {p : Int} : p ∈ lT refs n i ↔ p ∈ (stkL (refs.take i)).take n := by unfold lT; exact List.mem_reverse
theorem lT_len (refs : List Int) (n i : Nat) : (lT refs n i).length = ((stkL (refs.take i)).take n).length := by unfold lT; exact List.length_reverse ..
theorem take_touch_hit {s : List Int} {n : Nat} {p : Int} (hp : p ∈ s.take n) : (touchL s p).take n = p :: (s.take n).erase p := by
  rw [← lru_step]
  have hl : (touchL (s.take n) p).length = (s.take n).length := by
    unfold touchL
    have := List.length_pos_of_mem hp
    rw [List.length_cons, List.length_erase_of_mem hp]
    omega
  unfold truncL
  rw [if_neg (by rw [hl, List.length_take]; omega)]
  rfl
theorem take_touch_miss {s : List Int} {n : Nat} {p : Int} (hn : 1 ≤ n) (hp : p ∉ s.take n) : (touchL s p).take n = p :: s.take (n - 1) := by
  rw [← lru_step]
  have ht : touchL (s.take n) p = p :: s.take n := by unfold touchL; rw [List.erase_of_not_mem hp]
  rw [ht]
  unfold truncL
  split
  · rename_i h
    rw [wl_last (by simp)]
    simp only [List.length_cons, List.length_take] at h ⊢
    rw [show min n s.length + 1 - 1 = (n - 1) + 1 by omega, List.take_succ_cons, List.take_take, Nat.min_eq_left (by omega)]
  · rename_i h
    simp only [List.length_cons, List.length_take] at h
    rw [List.take_of_length_le (l := s) (by omega), List.take_of_length_le (by omega)]
theorem lT_step {refs : List Int} {n i : Nat} (hn : 1 ≤ n) (hi : i < refs.length) : lT refs n (i + 1) = (if refs.getD i default ∈ lT refs n i then (lT refs n i).erase (refs.getD i default) else if (lT refs n i).length = n then (lT refs n i).drop 1 else lT refs n i) ++ [refs.getD i default] := by
  have hnd := stk_nd refs i (by omega)
  have e2 := (walk_step hi).2
  have hm := lT_mem (refs := refs) (n := n) (i := i) (p := refs.getD i default)
  have hll := lT_len refs n i
  have hlT : lT refs n i = ((stkL (refs.take i)).take n).reverse := rfl
  obtain ⟨r, hr⟩ : ∃ r, r = refs.getD i default := ⟨_, rfl⟩
  obtain ⟨s, hs⟩ : ∃ s, s = stkL (refs.take i) := ⟨_, rfl⟩
  rw [← hr, ← hs] at e2 hm
  rw [← hs] at hnd hll hlT
  rw [← hr]
  show ((stkL (refs.take (i + 1))).take n).reverse = _
  rw [e2]
  by_cases h : r ∈ s.take n
  · rw [if_pos (hm.2 h), take_touch_hit h, List.reverse_cons, hlT]
    congr 1
    have hnt : (s.take n).Nodup := hnd.sublist (List.take_sublist ..)
    rw [hnt.erase_eq_filter, ((List.reverse_perm _).nodup_iff.2 hnt).erase_eq_filter, List.filter_reverse]
  · rw [if_neg (fun h' => h (hm.1 h')), take_touch_miss hn h, List.reverse_cons, hlT]
    congr 1
    have hl2 : (s.take n).reverse.length = (s.take n).length := List.length_reverse ..
    rw [hl2]
    split
    · rename_i hl
      have : s.take (n - 1) = (s.take n).take (n - 1) := by rw [List.take_take, Nat.min_eq_left (by omega)]
      rw [this]
      have hdr := List.reverse_take (l := s.take n) (i := n - 1)
      rw [hdr, hl, show n - (n - 1) = 1 by omega]
    · rename_i hl
      rw [List.length_take] at hl
      rw [List.take_of_length_le (by omega), List.take_of_length_le (by omega)]
theorem lT_first {refs : List Int} {n i : Nat} (hn : 1 ≤ n) (h : (lT refs n i).length = n) : (lT refs n i).getD 0 default = (stkL (refs.take i)).getD (n - 1) default ∧ n ≤ (stkL (refs.take i)).length := by
  have hl := lT_len refs n i
  rw [h, List.length_take] at hl
  refine ⟨?_, by omega⟩
  unfold lT
  rw [List.getD_eq_getElem?_getD, List.getD_eq_getElem?_getD, List.getElem?_reverse (by rw [List.length_take]; omega), List.length_take, List.getElem?_take, if_pos (by omega), show min n (stkL (refs.take i)).length - 1 - 0 = n - 1 by omega]
/- Places in the stack. -/
theorem touchD_of {s : List Int} (hs : s.Nodup) {j : Nat} (hj : j < s.length) : touchD s (s.getD j default) = (j : Int) :=
  touchD_at hj rfl fun k hk e => by
    rw [getD_get (by omega), getD_get hj] at e
    have := (List.getElem_inj hs).1 e
    omega
theorem touchD_get {s : List Int} {x : Int} (h : x ∈ s) : ∃ j, j < s.length ∧ s.getD j default = x ∧ touchD s x = (j : Int) := by
  rcases touch_spec s x with ⟨h1, h2⟩ | ⟨k, h1, h2, h3, _⟩
  · have := touchD_mem.2 h; omega
  · exact ⟨k, h2, h3, h1⟩
theorem touchD_take {s : List Int} (hs : s.Nodup) {n : Nat} {x : Int} (h : x ∈ s) : x ∈ s.take n ↔ touchD s x < n := by
  have h0 := touchD_mem.2 h
  constructor
  · intro hm
    have h1 := touchD_mem.2 hm
    have h2 := lru_miss n s x
    unfold missB at h2
    rw [Bool.or_eq_true, decide_eq_true_eq, decide_eq_true_eq] at h2
    omega
  · intro hlt
    refine touchD_mem.1 ?_
    have h2 := lru_miss n s x
    unfold missB at h2
    rw [Bool.or_eq_true, decide_eq_true_eq, decide_eq_true_eq] at h2
    omega
theorem place_step {s : List Int} (hs : s.Nodup) {p x : Int} (hx : x ∈ s) (hne : x ≠ p) : (p ∈ s ∧ touchD s p < touchD s x → touchD (touchL s p) x = touchD s x) ∧ touchD (touchL s p) x ≤ touchD s x + 1 := by
  obtain ⟨j, hj, hjx, hd⟩ := touchD_get hx
  have hnd := touch_nd hs p
  by_cases hp : p ∈ s
  · obtain ⟨k, hk, hkp, hdp⟩ := touchD_get hp
    have he : s.erase p = s.take k ++ s.drop (k + 1) := erase_at hk hkp fun a ha e => by
      have hk2 : s[k] = p := by rw [← getD_get hk]; exact hkp
      rw [getD_get (by omega)] at e
      have := (List.getElem_inj hs).1 (e.trans hk2.symm)
      omega
    have hjk : j ≠ k := fun e => hne (by rw [← hjx, ← hkp, e])
    have hT : touchL s p = p :: (s.take k ++ s.drop (k + 1)) := by unfold touchL; rw [he]
    rcases Nat.lt_or_gt_of_ne hjk with h | h
    · have e1 : (touchL s p).getD (j + 1) default = x := by
        rw [hT, List.getD_cons_succ, getD_appL (by rw [List.length_take]; omega), ← hjx]
        rw [List.getD_eq_getElem?_getD, List.getD_eq_getElem?_getD, List.getElem?_take, if_pos h]
      have e2 := touchD_of hnd (j := j + 1) (by rw [hT]; simp; omega)
      rw [e1] at e2
      omega
    · have e1 : (touchL s p).getD j default = x := by
        obtain ⟨j', rfl⟩ : ∃ j', j = j' + 1 := ⟨j - 1, by omega⟩
        rw [hT, List.getD_cons_succ, List.getD_eq_getElem?_getD, List.getElem?_append_right (by rw [List.length_take]; omega), List.length_take, List.getElem?_drop, show k + 1 + (j' - min k s.length) = j' + 1 by omega, ← hjx, List.getD_eq_getElem?_getD]
      have e2 := touchD_of hnd (j := j) (by rw [hT]; simp; omega)
      rw [e1] at e2
      omega
  · have hT : touchL s p = p :: s := by unfold touchL; rw [List.erase_of_not_mem hp]
    have e1 : (touchL s p).getD (j + 1) default = x := by rw [hT, List.getD_cons_succ, hjx]
    have e2 := touchD_of hnd (j := j + 1) (by rw [hT]; simp; omega)
    rw [e1] at e2
    exact ⟨fun h => absurd h.1 hp, by omega⟩
theorem touch_mem {s : List Int} {p x : Int} : x ∈ touchL s p ↔ x = p ∨ x ∈ s := by
  unfold touchL
  rw [List.mem_cons]
  constructor
  · rintro (h | h)
    · exact .inl h
    · exact .inr (List.mem_of_mem_erase h)
  · rintro (h | h)
    · exact .inl h
    · by_cases e : x = p
      · exact .inl e
      · exact .inr ((List.mem_erase_of_ne e).2 h)
structure LInv (s : List Int) (n : Nat) (q : HS) : Prop where
  old : ∀ x v, aGet q.W x = some v → x ∈ s
  far : ∀ x ∈ s, x ∉ s.take n → ∃ v, aGet q.W x = some v ∧ touchD s x + v ≤ (n : Int) + q.c
theorem l_inv {refs : List Int} {n : Nat} (hn : 1 ≤ n) : ∀ i, i ≤ refs.length → LInv (stkL (refs.take i)) n (hsP (lT refs n) refs n i)
  | 0, _ => ⟨fun x v h => by simp [hsP, aGet, aFind] at h, fun x h => by simp [stkL, walkP] at h⟩
  | i + 1, hi => by
    obtain ⟨h1, h2⟩ := l_inv (refs := refs) hn i (by omega)
    have hnd := stk_nd refs i (by omega)
    have e2 := (walk_step (l := refs) (i := i) (by omega)).2
    have hm := lT_mem (refs := refs) (n := n) (i := i) (p := refs.getD i default)
    have hF := lT_first (refs := refs) (i := i) hn
    have hll := lT_len refs n i
    rw [e2]
    unfold hsP hsS
    obtain ⟨r, hr⟩ : ∃ r, r = refs.getD i default := ⟨_, rfl⟩
    obtain ⟨s, hs⟩ : ∃ s, s = stkL (refs.take i) := ⟨_, rfl⟩
    obtain ⟨T, hT⟩ : ∃ T, T = lT refs n i := ⟨_, rfl⟩
    obtain ⟨q, hq⟩ : ∃ q, q = hsP (lT refs n) refs n i := ⟨_, rfl⟩
    rw [← hr, ← hs, ← hT] at hm
    rw [← hs, ← hT] at hF hll
    rw [← hs] at hnd
    rw [← hs, ← hq] at h1 h2
    rw [← hr, ← hs, ← hT, ← hq]
    by_cases h : r ∈ s.take n
    · rw [if_pos (hm.2 h)]
      have hrs := List.mem_of_mem_take h
      refine ⟨fun x v hx => touch_mem.2 (.inr (h1 x v hx)), fun x hx hxn => ?_⟩
      have hmem : x ∉ s.take n := fun hx' => hxn (by
        rw [take_touch_hit h]
        by_cases e : x = r
        · rw [e]; exact List.mem_cons_self ..
        · exact List.mem_cons_of_mem _ ((List.mem_erase_of_ne e).2 hx'))
      have hne : x ≠ r := fun e => hmem (e ▸ h)
      have hxs : x ∈ s := (touch_mem.1 hx).resolve_left hne
      obtain ⟨v, hv, hle⟩ := h2 x hxs hmem
      have hp := (place_step hnd hxs hne).1 ⟨hrs, by
        have t1 := (touchD_take hnd hrs).1 h
        have t2 : ¬ touchD s x < n := fun t => hmem ((touchD_take hnd hxs).2 t)
        omega⟩
      exact ⟨v, hv, by rw [hp]; exact hle⟩
    · rw [if_neg (fun h' => h (hm.1 h'))]
      by_cases hlen : T.length = n
      · rw [if_pos hlen]
        obtain ⟨f1, f2⟩ := hF hlen
        have hn1 : n - 1 < s.length := by omega
        have hem : T.getD 0 default ∈ s := by rw [f1, getD_get hn1]; exact List.getElem_mem _
        have hed : touchD s (T.getD 0 default) = ((n - 1 : Nat) : Int) := by rw [f1]; exact touchD_of hnd hn1
        refine ⟨fun x v hx => ?_, fun x hx hxn => ?_⟩
        · simp only at hx
          rw [get_set] at hx
          split at hx
          · rename_i e; rw [e]; exact touch_mem.2 (.inr hem)
          · exact touch_mem.2 (.inr (h1 x v hx))
        · rw [take_touch_miss hn h] at hxn
          have hne : x ≠ r := fun e => hxn (e ▸ List.mem_cons_self ..)
          have hxs : x ∈ s := (touch_mem.1 hx).resolve_left hne
          have hp := (place_step hnd hxs hne).2
          by_cases e : x = T.getD 0 default
          · refine ⟨((q.c + 1 : Nat) : Int), by simp only; rw [get_set, if_pos e], ?_⟩
            simp only
            rw [e] at hp ⊢
            omega
          · have hmem : x ∉ s.take n := fun hx' => by
              have t1 := (touchD_take hnd hxs).1 hx'
              have t2 : ¬ touchD s x < (n - 1 : Nat) := fun t => hxn (List.mem_cons_of_mem _ ((touchD_take hnd hxs).2 t))
              obtain ⟨j, hj, hjx, hd⟩ := touchD_get hxs
              have : j = n - 1 := by omega
              exact e (by rw [f1, ← this, hjx])
            obtain ⟨v, hv, hle⟩ := h2 x hxs hmem
            refine ⟨v, by simp only; rw [get_set, if_neg e]; exact hv, ?_⟩
            simp only
            omega
      · rw [if_neg hlen]
        have hsl : s.length < n := by rw [hll, List.length_take] at hlen; omega
        refine ⟨fun x v hx => touch_mem.2 (.inr (h1 x v hx)), fun x hx hxn => ?_⟩
        exfalso
        have := touchL_len s r
        rw [List.take_of_length_le (by omega)] at hxn
        exact hxn hx
def RelD (n : Nat) (o d : Int) : Prop := (o = -1 ∧ 0 ≤ d ∧ d < n) ∨ (o = -2 ∧ d = -1) ∨ (0 ≤ o ∧ (n : Int) ≤ d ∧ d ≤ n + o)
theorem l_rel {refs : List Int} {n : Nat} (hn : 1 ≤ n) {i : Nat} (hi : i < refs.length) : ∃ o, (hsP (lT refs n) refs n (i + 1)).out = (hsP (lT refs n) refs n i).out ++ [o] ∧ RelD n o (touchD (stkL (refs.take i)) (refs.getD i default)) := by
  obtain ⟨h1, h2⟩ := l_inv (refs := refs) hn i (by omega)
  have hb := (hs_len (lT refs n) refs n i).2.2
  have hnd := stk_nd refs i (by omega)
  have hm := lT_mem (refs := refs) (n := n) (i := i) (p := refs.getD i default)
  obtain ⟨r, hr⟩ : ∃ r, r = refs.getD i default := ⟨_, rfl⟩
  obtain ⟨s, hs⟩ : ∃ s, s = stkL (refs.take i) := ⟨_, rfl⟩
  obtain ⟨q, hq⟩ : ∃ q, q = hsP (lT refs n) refs n i := ⟨_, rfl⟩
  rw [← hr, ← hs] at hm
  rw [← hs] at hnd
  rw [← hs, ← hq] at h1 h2
  rw [← hq] at hb
  rw [show hsP (lT refs n) refs n (i + 1) = hsS (lT refs n i) n (refs.getD i default) (hsP (lT refs n) refs n i) from rfl, ← hr, ← hs, ← hq]
  unfold hsS
  by_cases h : r ∈ s.take n
  · rw [if_pos (hm.2 h)]
    have hrs := List.mem_of_mem_take h
    exact ⟨-1, rfl, .inl ⟨rfl, touchD_mem.2 hrs, (touchD_take hnd hrs).1 h⟩⟩
  · rw [if_neg (fun h' => h (hm.1 h'))]
    have hrel : RelD n (distW q.W q.c r) (touchD s r) := by
      by_cases hrs : r ∈ s
      · obtain ⟨v, hv, hle⟩ := h2 r hrs h
        have hd : distW q.W q.c r = (q.c : Int) - v := by unfold distW; rw [hv]
        have t2 : ¬ touchD s r < n := fun t => h ((touchD_take hnd hrs).2 t)
        have := hb r v hv
        exact .inr (.inr (by rw [hd]; omega))
      · have hd : distW q.W q.c r = -2 := by
          unfold distW
          cases hg : aGet q.W r with
          | none => rfl
          | some v => exact absurd (h1 r v hg) hrs
        have t1 : ¬ 0 ≤ touchD s r := fun t => hrs (touchD_mem.1 t)
        have t2 : -1 ≤ touchD s r := by unfold touchD idxM; split <;> omega
        exact .inr (.inl ⟨hd, by omega⟩)
    split <;> exact ⟨_, rfl, hrel⟩
theorem l_all {refs : List Int} {n : Nat} (hn : 1 ≤ n) : ∀ i, i ≤ refs.length → (∀ j, j < i → RelD n ((hsP (lT refs n) refs n i).out.getD j default) ((distL (refs.take i)).getD j default)) ∧
    (hsP (lT refs n) refs n i).out.countP (fun x => x != -1) = (distL (refs.take i)).countP (missB (n : Int))
  | 0, _ => ⟨fun j hj => by omega, by simp [hsP, distL, walkP]⟩
  | i + 1, hi => by
    obtain ⟨h1, h2⟩ := l_all (refs := refs) hn i (by omega)
    obtain ⟨o, ho, hrel⟩ := l_rel (refs := refs) hn (i := i) (by omega)
    have e1 := (walk_step (l := refs) (i := i) (by omega)).1
    have hl := (hs_len (lT refs n) refs n i).1
    have hdl := (walk_len refs i (by omega)).1
    rw [ho, e1]
    refine ⟨fun j hj => ?_, ?_⟩
    · rcases Nat.lt_or_eq_of_le (Nat.le_of_lt_succ hj) with h | rfl
      · rw [getD_appL (by omega), getD_appL (by omega)]
        exact h1 j h
      · rw [getD_appR (by omega), getD_appR (by omega), hl, hdl, Nat.sub_self]
        exact hrel
    · rw [List.countP_append, List.countP_append, h2]
      congr 1
      rw [List.countP_singleton, List.countP_singleton]
      have hiff : (o != -1) = missB (n : Int) (touchD (stkL (refs.take i)) (refs.getD i default)) := by
        rw [Bool.eq_iff_iff]
        unfold missB
        rw [bne_iff_ne, Bool.or_eq_true, decide_eq_true_eq, decide_eq_true_eq]
        unfold RelD at hrel
        omega
      rw [hiff]
end Go.Proofs.Ytdmphjphcdcdkaa
