/- The replacements of stackdist as ways to serve the references. No conditions. -/
import Derived.Test.YtdmphjphcdcdkaaStkBel
set_option linter.unusedSimpArgs false
set_option linter.unusedVariables false
namespace Go.Proofs.Ytdmphjphcdcdkaa
section
variable {refs : List Int} {f : Nat}
/- Optimal gives up the page that is wanted last. -/
structure Inv (refs : List Int) (f i : Nat) (al : List (Int × Int)) : Prop where
  nd : (keysL al).Nodup
  len : al.length ≤ f
  val : ∀ p v, aGet al p = some v → v = (nx refs i p : Int)
theorem opt_succ (refs : List Int) (f : Int) (i : Nat) : optP refs f (i + 1) = optS refs f i (optP refs f i) := rfl
theorem prog_step (hf : 1 ≤ f) {i n : Nat} {al : List (Int × Int)} (hi : i < refs.length) (hI : Inv refs f i al) :
    Inv refs f (i + 1) (optS refs (f : Int) i (n, al)).2 ∧
      ((refs.getD i default ∈ keysL al ∧ (optS refs (f : Int) i (n, al)).1 = n ∧ ∀ p, p ∈ keysL (optS refs (f : Int) i (n, al)).2 ↔ p ∈ keysL al) ∨
        (refs.getD i default ∉ keysL al ∧ (optS refs (f : Int) i (n, al)).1 = n + 1 ∧ ((keysL al).length < f ∧ (∀ p, p ∈ keysL (optS refs (f : Int) i (n, al)).2 ↔ p ∈ keysL al ∨ p = refs.getD i default) ∨
          (keysL al).length = f ∧ ∃ v, v ∈ keysL al ∧ (∀ p ∈ keysL al, nx refs i p ≤ nx refs i v) ∧ ∀ p, p ∈ keysL (optS refs (f : Int) i (n, al)).2 ↔ (p ∈ keysL al ∧ p ≠ v) ∨ p = refs.getD i default))) := by
  obtain ⟨r, hr⟩ : ∃ r, r = refs.getD i default := ⟨_, rfl⟩
  obtain ⟨a1, ha1⟩ : ∃ a1, a1 = aSet al r (nx refs (i + 1) r : Int) := ⟨_, rfl⟩
  have hS : optS refs (f : Int) i (n, al) = (if (aGet al r).isSome then n else n + 1, if (a1.length : Int) ≤ (f : Int) then a1 else aDel a1 (vict a1 r).2) := by rw [ha1, hr]; rfl
  have hn1 : (keysL a1).Nodup := by rw [ha1]; exact nodup_set hI.nd _ _
  have hk1 : keysL a1 = if r ∈ keysL al then keysL al else keysL al ++ [r] := by rw [ha1, keys_set]
  have hv1 : ∀ p v, aGet a1 p = some v → v = (nx refs (i + 1) p : Int) := fun p v h => by
    rw [ha1, get_set] at h
    split at h
    · rename_i e; rw [e]; exact (Option.some.inj h).symm
    · rename_i e
      rw [hI.val p v h, nx_other hi (by rw [← hr]; exact e)]
  have hl1 : a1.length = if r ∈ keysL al then al.length else al.length + 1 := by rw [ha1, len_set]
  have hsome : (aGet al r).isSome = true ↔ r ∈ keysL al := by
    have := get_none (l := al) (k := r)
    cases h : aGet al r with
    | none => simp; exact this.1 h
    | some v =>
      simp
      exact Decidable.byContradiction fun h' => by have := this.2 h'; rw [h] at this; cases this
  rw [hS]
  simp only
  rw [← hr]
  by_cases hm : r ∈ keysL al
  · rw [if_pos hm] at hl1 hk1
    have hle : (a1.length : Int) ≤ (f : Int) := by have := hI.len; omega
    rw [if_pos hle, if_pos (hsome.2 hm)]
    exact ⟨⟨hn1, by omega, hv1⟩, .inl ⟨hm, rfl, fun p => by rw [hk1]⟩⟩
  · rw [if_neg hm] at hl1 hk1
    have hns : ¬ (aGet al r).isSome = true := fun h => hm (hsome.1 h)
    rw [if_neg hns]
    by_cases hle : (a1.length : Int) ≤ (f : Int)
    · rw [if_pos hle]
      exact ⟨⟨hn1, by omega, hv1⟩, .inr ⟨hm, rfl, .inl ⟨by rw [len_keys]; omega, fun p => by rw [hk1, List.mem_append, List.mem_singleton]⟩⟩⟩
    · rw [if_neg hle]
      have hfl : al.length = f := by have := hI.len; omega
      have ha1e : a1 = al ++ [(r, (nx refs (i + 1) r : Int))] := by rw [ha1]; exact set_none (get_none.2 hm) _
      have hpos : ∀ e ∈ a1, 0 ≤ e.2 := fun e he => by
        have := hv1 e.1 e.2 (mem_get hn1 he)
        omega
      have hB := vict_best (r := r) hpos
      obtain ⟨v, hv⟩ : ∃ v, v = (vict a1 r).2 := ⟨_, rfl⟩
      obtain ⟨j, e, hj, hje, her, hq⟩ : ∃ (j : Nat) (e : Int × Int), j < a1.length ∧ a1[j]? = some e ∧ e.1 ≠ r ∧ vict a1 r = (e.2, e.1) := by
        rcases hB.is with ⟨_, h2⟩ | h
        · exfalso
          have h0 : a1[0]? = some al[0] := by rw [ha1e, List.getElem?_append_left (by omega), List.getElem?_eq_getElem (by omega)]
          have := h2 0 _ (by omega) h0
          exact hm (by rw [← this]; exact List.mem_map.2 ⟨al[0], List.getElem_mem _, rfl⟩)
        · exact h
      have hve : v = e.1 := by rw [hv, hq]
      have hem : e ∈ a1 := List.mem_of_getElem? hje
      have hvk : v ∈ keysL al := by
        have : e.1 ∈ keysL a1 := List.mem_map.2 ⟨e, hem, rfl⟩
        rw [hk1, List.mem_append, List.mem_singleton] at this
        rw [hve]
        exact this.resolve_right her
      have hmax : ∀ p ∈ keysL al, nx refs i p ≤ nx refs i v := fun p hp => by
        obtain ⟨e', he', rfl⟩ := List.mem_map.1 hp
        have hr' : e'.1 ≠ r := fun h => hm (h ▸ hp)
        obtain ⟨j', hj', rfl⟩ := List.getElem_of_mem he'
        have h0 : a1[j']? = some al[j'] := by rw [ha1e, List.getElem?_append_left hj', List.getElem?_eq_getElem hj']
        have htop := hB.top j' _ (List.getElem?_eq_some_iff.1 h0).1 h0 hr'
        rw [hq] at htop
        simp only at htop
        have v1 := hv1 _ _ (mem_get hn1 (List.mem_of_getElem? h0))
        have v2 := hv1 _ _ (mem_get hn1 hem)
        have n1 := nx_other hi (p := al[j'].1) (by rw [← hr]; exact hr')
        have n2 := nx_other hi (p := e.1) (by rw [← hr]; exact her)
        rw [hve]
        omega
      rw [← hv]
      have hmem : ∀ p, p ∈ keysL (aDel a1 v) ↔ (p ∈ keysL al ∧ p ≠ v) ∨ p = r := fun p => by
        rw [keys_del, hn1.mem_erase_iff, hk1, List.mem_append, List.mem_singleton]
        have hvr : v ≠ r := by rw [hve]; exact her
        constructor
        · rintro ⟨h1, h2 | h2⟩
          · exact .inl ⟨h2, h1⟩
          · exact .inr h2
        · rintro (⟨h1, h2⟩ | h1)
          · exact ⟨h2, .inl h1⟩
          · exact ⟨by rw [h1]; exact fun h => hvr h.symm, .inr h1⟩
      refine ⟨⟨nodup_del hn1 _, ?_, fun p x h => ?_⟩, .inr ⟨hm, rfl, .inr ⟨by rw [len_keys]; exact hfl, v, hvk, hmax, hmem⟩⟩⟩
      · rw [← len_keys, keys_del, List.length_erase_of_mem (by rw [hk1]; exact List.mem_append_left _ hvk), len_keys]
        omega
      · rw [get_del _ _ hn1] at h
        split at h
        · cases h
        · exact hv1 p x h
theorem prog_inv (hf : 1 ≤ f) : ∀ i, i ≤ refs.length → Inv refs f i (optP refs (f : Int) i).2
  | 0, _ => ⟨List.nodup_nil, Nat.zero_le _, fun p v h => by simp [optP, aGet, aFind] at h⟩
  | i + 1, hi => by
    have h := prog_inv hf i (by omega)
    obtain ⟨n, al, hq⟩ : ∃ n al, optP refs (f : Int) i = (n, al) := ⟨_, _, rfl⟩
    rw [hq] at h
    rw [opt_succ, hq]
    exact (prog_step hf (by omega) h).1
theorem prog_bel (hf : 1 ≤ f) : ∀ d i, d = refs.length - i → i ≤ refs.length → (optP refs (f : Int) i).1 ≤ optN refs (f : Int) ∧ Bel refs f i (keysL (optP refs (f : Int) i).2) (optN refs (f : Int) - (optP refs (f : Int) i).1)
  | 0, i, hd, hi => by
    have : i = refs.length := by omega
    subst this
    unfold optN
    rw [Nat.sub_self]
    exact ⟨Nat.le_refl _, .done⟩
  | d + 1, i, hd, hi => by
    have hi' : i < refs.length := by omega
    obtain ⟨ih1, ih2⟩ := prog_bel hf d (i + 1) (by omega) (by omega)
    have hI := prog_inv (refs := refs) hf i (by omega)
    have hI' := prog_inv (refs := refs) hf (i + 1) (by omega)
    obtain ⟨n, al, hq⟩ : ∃ n al, optP refs (f : Int) i = (n, al) := ⟨_, _, rfl⟩
    rw [hq] at hI
    rw [opt_succ, hq] at ih1 ih2 hI'
    rw [hq]
    simp only
    obtain ⟨_, h | h⟩ := prog_step (n := n) hf hi' hI
    · obtain ⟨h1, h2, h3⟩ := h
      rw [h2] at ih1 ih2
      exact ⟨ih1, .hit hi' h1 hI'.nd h3 ih2⟩
    · obtain ⟨h1, h2, h3⟩ := h
      rw [h2] at ih1 ih2
      have e : optN refs (f : Int) - n = (optN refs (f : Int) - (n + 1)) + 1 := by omega
      rw [e]
      refine ⟨by omega, ?_⟩
      rcases h3 with ⟨h4, h5⟩ | ⟨h4, v, h5, h6, h7⟩
      · exact .add hi' h1 h4 hI'.nd h5 ih2
      · exact .evict hi' h1 h4 h5 h6 hI'.nd h7 ih2
theorem opt_bel (hf : 1 ≤ f) : Bel refs f 0 [] (optN refs (f : Int)) := by
  have := (prog_bel (refs := refs) hf refs.length 0 rfl (Nat.zero_le _)).2
  simpa [optP, keysL] using this
theorem opt_zero (refs : List Int) : ∀ i, optP refs 0 i = (i, [])
  | 0 => rfl
  | i + 1 => by
    rw [opt_succ, opt_zero refs i]
    unfold optS
    simp only [aSet, aGet, aFind, vict]
    generalize refs.getD i default = r
    have hv : (vStep r (-1, r) (r, (nx refs (i + 1) r : Int))).2 = r := by unfold vStep; split <;> rfl
    simp [aSet, aGet, aFind, vict, aDel, hv]
theorem optN_zero (refs : List Int) : optN refs 0 = refs.length := by unfold optN; rw [opt_zero]
/- The reference's Optimal. -/
def farI (refs : List Int) (i : Nat) (inn : List Int) (n : Nat) : Nat := (List.range n).foldl (fun far k => if nx refs i (inn.getD k default) > nx refs i (inn.getD far default) then k else far) 0
theorem far_step (refs : List Int) (i : Nat) (inn : List Int) (n : Nat) : farI refs i inn (n + 1) = if nx refs i (inn.getD n default) > nx refs i (inn.getD (farI refs i inn n) default) then n else farI refs i inn n := by
  unfold farI
  rw [List.range_succ, List.foldl_append]
  rfl
theorem far_max (refs : List Int) (i : Nat) (inn : List Int) : ∀ n, farI refs i inn n ≤ n - 1 ∧ ∀ k, k < n → nx refs i (inn.getD k default) ≤ nx refs i (inn.getD (farI refs i inn n) default)
  | 0 => ⟨Nat.le_refl _, fun k hk => by omega⟩
  | n + 1 => by
    obtain ⟨h1, h2⟩ := far_max refs i inn n
    rw [far_step]
    split
    · rename_i h
      refine ⟨by omega, fun k hk => ?_⟩
      rcases Nat.lt_or_eq_of_le (Nat.le_of_lt_succ hk) with h3 | rfl
      · have := h2 k h3; omega
      · exact Nat.le_refl _
    · rename_i h
      refine ⟨by omega, fun k hk => ?_⟩
      rcases Nat.lt_or_eq_of_le (Nat.le_of_lt_succ hk) with h3 | rfl
      · exact h2 k h3
      · omega
def roS (refs : List Int) (f : Nat) (i : Nat) (q : Nat × List Int) : Nat × List Int :=
  if 0 ≤ touchD q.2 (refs.getD i default) then q
  else if f = 0 then (q.1 + 1, q.2)
  else (q.1 + 1, (if q.2.length = f then wl q.2 (farI refs i q.2 q.2.length : Int) else q.2) ++ [refs.getD i default])
def roP (refs : List Int) (f : Nat) : Nat → Nat × List Int
  | 0 => (0, [])
  | i + 1 => roS refs f i (roP refs f i)
def roN (refs : List Int) (f : Nat) : Nat := (roP refs f refs.length).1
theorem touchD_mem {s : List Int} {p : Int} : 0 ≤ touchD s p ↔ p ∈ s := by
  rcases touch_spec s p with ⟨h1, h2⟩ | ⟨k, h1, h2, h3, _⟩
  · constructor
    · intro h; omega
    · intro h
      obtain ⟨j, hj, e⟩ := List.getElem_of_mem h
      exact absurd (by rw [getD_get hj]; exact e) (h2 j hj)
  · constructor
    · intro _
      rw [← h3, getD_get h2]
      exact List.getElem_mem h2
    · intro _; omega
theorem ro_step (hf : 1 ≤ f) {i n : Nat} {G : List Int} (hi : i < refs.length) (hn : G.Nodup) (hl : G.length ≤ f) :
    (roS refs f i (n, G)).2.Nodup ∧ (roS refs f i (n, G)).2.length ≤ f ∧
      ((refs.getD i default ∈ G ∧ roS refs f i (n, G) = (n, G)) ∨
        (refs.getD i default ∉ G ∧ (roS refs f i (n, G)).1 = n + 1 ∧ (G.length < f ∧ (∀ p, p ∈ (roS refs f i (n, G)).2 ↔ p ∈ G ∨ p = refs.getD i default) ∨
          G.length = f ∧ ∃ v, v ∈ G ∧ (∀ p ∈ G, nx refs i p ≤ nx refs i v) ∧ ∀ p, p ∈ (roS refs f i (n, G)).2 ↔ (p ∈ G ∧ p ≠ v) ∨ p = refs.getD i default))) := by
  obtain ⟨r, hr⟩ : ∃ r, r = refs.getD i default := ⟨_, rfl⟩
  unfold roS
  simp only
  rw [← hr]
  by_cases hm : r ∈ G
  · rw [if_pos (touchD_mem.2 hm)]
    exact ⟨hn, hl, .inl ⟨hm, rfl⟩⟩
  · rw [if_neg (fun h => hm (touchD_mem.1 h)), if_neg (by omega)]
    by_cases hfl : G.length = f
    · rw [if_pos hfl]
      obtain ⟨h1, h2⟩ := far_max refs i G G.length
      obtain ⟨far, hfar⟩ : ∃ far, far = farI refs i G G.length := ⟨_, rfl⟩
      rw [← hfar] at h1 h2 ⊢
      have hlt : far < G.length := by omega
      have hwl : wl G (far : Int) = G.erase (G.getD far default) := by
        unfold wl
        rw [if_pos (by omega), Int.toNat_natCast]
        rw [erase_at hlt rfl fun j hj e => by
          rw [getD_get (by omega), getD_get hlt] at e
          have := (List.getElem_inj hn).1 e
          omega]
        exact List.eraseIdx_eq_take_drop_succ ..
      obtain ⟨v, hv⟩ : ∃ v, v = G.getD far default := ⟨_, rfl⟩
      have hvm : v ∈ G := by rw [hv, getD_get hlt]; exact List.getElem_mem hlt
      rw [hwl, ← hv]
      have hne := hn.sublist (List.erase_sublist (a := v) (l := G))
      have hrn : r ∉ G.erase v := fun h => hm (List.mem_of_mem_erase h)
      refine ⟨?_, ?_, .inr ⟨hm, by first | rfl | trivial, .inr ⟨hfl, v, hvm, fun p hp => ?_, fun p => ?_⟩⟩⟩
      · rw [List.nodup_append]
        exact ⟨hne, by simp, fun a ha b hb => by rw [List.mem_singleton.1 hb]; exact fun e => hrn (e ▸ ha)⟩
      · rw [List.length_append, List.length_erase_of_mem hvm]
        simp only [List.length_cons, List.length_nil]
        omega
      · obtain ⟨j, hj, rfl⟩ := List.getElem_of_mem hp
        have := h2 j hj
        rw [getD_get hj] at this
        rw [hv]
        exact this
      · rw [List.mem_append, List.mem_singleton, hn.mem_erase_iff]
        constructor
        · rintro (⟨h1, h2⟩ | h)
          · exact .inl ⟨h2, h1⟩
          · exact .inr h
        · rintro (⟨h1, h2⟩ | h)
          · exact .inl ⟨h2, h1⟩
          · exact .inr h
    · rw [if_neg hfl]
      refine ⟨?_, ?_, .inr ⟨hm, by first | rfl | trivial, .inl ⟨by omega, fun p => by rw [List.mem_append, List.mem_singleton]⟩⟩⟩
      · rw [List.nodup_append]
        exact ⟨hn, by simp, fun a ha b hb => by rw [List.mem_singleton.1 hb]; exact fun e => hm (e ▸ ha)⟩
      · simp; omega
theorem ro_inv (hf : 1 ≤ f) : ∀ i, i ≤ refs.length → (roP refs f i).2.Nodup ∧ (roP refs f i).2.length ≤ f
  | 0, _ => ⟨List.nodup_nil, Nat.zero_le _⟩
  | i + 1, hi => by
    obtain ⟨h1, h2⟩ := ro_inv hf i (by omega)
    obtain ⟨n, G, hq⟩ : ∃ n G, roP refs f i = (n, G) := ⟨_, _, rfl⟩
    rw [hq] at h1 h2
    show (roS refs f i (roP refs f i)).2.Nodup ∧ (roS refs f i (roP refs f i)).2.length ≤ f
    rw [hq]
    have := ro_step (refs := refs) (n := n) hf (i := i) (by omega) h1 h2
    exact ⟨this.1, this.2.1⟩
theorem ro_bel (hf : 1 ≤ f) : ∀ d i, d = refs.length - i → i ≤ refs.length → (roP refs f i).1 ≤ roN refs f ∧ Bel refs f i (roP refs f i).2 (roN refs f - (roP refs f i).1)
  | 0, i, hd, hi => by
    have : i = refs.length := by omega
    subst this
    unfold roN
    rw [Nat.sub_self]
    exact ⟨Nat.le_refl _, .done⟩
  | d + 1, i, hd, hi => by
    have hi' : i < refs.length := by omega
    obtain ⟨ih1, ih2⟩ := ro_bel hf d (i + 1) (by omega) (by omega)
    obtain ⟨g1, g2⟩ := ro_inv (refs := refs) hf i (by omega)
    have hI' := (ro_inv (refs := refs) hf (i + 1) (by omega)).1
    have hs : roP refs f (i + 1) = roS refs f i (roP refs f i) := rfl
    obtain ⟨n, G, hq⟩ : ∃ n G, roP refs f i = (n, G) := ⟨_, _, rfl⟩
    rw [hs, hq] at ih1 ih2 hI'
    rw [hq] at g1 g2 ⊢
    simp only at g1 g2 ⊢
    obtain ⟨_, _, h | h⟩ := ro_step (refs := refs) (n := n) hf hi' g1 g2
    · obtain ⟨h1, h2⟩ := h
      rw [h2] at ih1 ih2 hI'
      exact ⟨ih1, .hit hi' h1 hI' (fun p => Iff.rfl) ih2⟩
    · obtain ⟨h1, h2, h3⟩ := h
      rw [h2] at ih1 ih2
      have e : roN refs f - n = (roN refs f - (n + 1)) + 1 := by omega
      rw [e]
      refine ⟨by omega, ?_⟩
      rcases h3 with ⟨h4, h5⟩ | ⟨h4, v, h5, h6, h7⟩
      · exact .add hi' h1 h4 hI' h5 ih2
      · exact .evict hi' h1 h4 h5 h6 hI' h7 ih2
theorem ro_zero (refs : List Int) : ∀ i, roP refs 0 i = (i, [])
  | 0 => rfl
  | i + 1 => by
    show roS refs 0 i (roP refs 0 i) = _
    rw [ro_zero refs i]
    unfold roS
    simp only
    rw [if_neg (fun h => by have := touchD_mem.1 h; cases this), if_pos trivial]
theorem ro_opt (refs : List Int) (f : Nat) : roN refs f = optN refs (f : Int) := by
  cases f with
  | zero =>
    show roN refs 0 = optN refs 0
    rw [optN_zero]
    unfold roN
    rw [ro_zero]
  | succ f =>
    have h1 := opt_bel (refs := refs) (f := f + 1) (by omega)
    have h2 : Bel refs (f + 1) 0 [] (roN refs (f + 1)) := by
      have := (ro_bel (refs := refs) (f := f + 1) (by omega) refs.length 0 rfl (Nat.zero_le _)).2
      simpa [roP] using this
    exact Nat.le_antisymm (bel_best h2 (bel_run h1 List.nodup_nil (Nat.zero_le _))) (bel_best h1 (bel_run h2 List.nodup_nil (Nat.zero_le _)))
end
end Go.Proofs.Ytdmphjphcdcdkaa
