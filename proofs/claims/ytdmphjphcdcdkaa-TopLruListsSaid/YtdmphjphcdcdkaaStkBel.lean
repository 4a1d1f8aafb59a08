/- Belady: the replacement that gives up the page that is wanted last has the fewest faults. No conditions. -/
import Derived.Test.YtdmphjphcdcdkaaStkSpec3
set_option linter.unusedSimpArgs false
set_option linter.unusedVariables false
namespace Go.Proofs.Ytdmphjphcdcdkaa
section
variable (refs : List Int) (f : Nat)
/-- Any way to serve the references from i on in f frames. -/
inductive Run : Nat → List Int → Nat → Prop
  | done {S : List Int} : Run refs.length S 0
  | hit {i : Nat} {S S' : List Int} {c : Nat} : i < refs.length → refs.getD i default ∈ S → S'.Nodup → (∀ p ∈ S', p ∈ S) → S'.length ≤ f → Run (i + 1) S' c → Run i S c
  | miss {i : Nat} {S S' : List Int} {c : Nat} : i < refs.length → refs.getD i default ∉ S → S'.Nodup → (∀ p ∈ S', p ∈ S ∨ p = refs.getD i default) → refs.getD i default ∈ S' → S'.length ≤ f → Run (i + 1) S' c → Run i S (c + 1)
/-- The way that gives up a page that is wanted last. -/
inductive Bel : Nat → List Int → Nat → Prop
  | done {G : List Int} : Bel refs.length G 0
  | hit {i : Nat} {G G' : List Int} {c : Nat} : i < refs.length → refs.getD i default ∈ G → G'.Nodup → (∀ p, p ∈ G' ↔ p ∈ G) → Bel (i + 1) G' c → Bel i G c
  | add {i : Nat} {G G' : List Int} {c : Nat} : i < refs.length → refs.getD i default ∉ G → G.length < f → G'.Nodup → (∀ p, p ∈ G' ↔ p ∈ G ∨ p = refs.getD i default) → Bel (i + 1) G' c → Bel i G (c + 1)
  | evict {i : Nat} {G G' : List Int} {c : Nat} {v : Int} : i < refs.length → refs.getD i default ∉ G → G.length = f → v ∈ G → (∀ p ∈ G, nx refs i p ≤ nx refs i v) → G'.Nodup → (∀ p, p ∈ G' ↔ (p ∈ G ∧ p ≠ v) ∨ p = refs.getD i default) → Bel (i + 1) G' c → Bel i G (c + 1)
def cn (i t : Nat) (S : List Int) : Nat := (S.filter fun p => decide (nx refs i p ≤ t)).length
end
section
variable {refs : List Int} {f i t : Nat} {S S' G G' : List Int} {v : Int}
theorem nx_now (hi : i < refs.length) : nx refs i (refs.getD i default) = i := by rw [nx_step refs hi, if_pos rfl]
theorem nx_other (hi : i < refs.length) {p : Int} (h : p ≠ refs.getD i default) : nx refs (i + 1) p = nx refs i p := by
  have h' : ¬ refs.getD i default = p := fun e => h e.symm
  rw [nx_step refs hi, if_neg h']
theorem mem_cn {p : Int} : p ∈ (S.filter fun p => decide (nx refs i p ≤ t)) ↔ p ∈ S ∧ nx refs i p ≤ t := by rw [List.mem_filter, decide_eq_true_eq]
theorem cn_le (S : List Int) : cn refs i t S ≤ S.length := List.length_filter_le ..
theorem same_len (h : G.Nodup) (h' : G'.Nodup) (hm : ∀ p, p ∈ G' ↔ p ∈ G) : G'.length = G.length := Nat.le_antisymm (nodup_le h' fun p hp => (hm p).1 hp) (nodup_le h fun p hp => (hm p).2 hp)
theorem s_hit (hi : i < refs.length) (ht : i < t) (hr : refs.getD i default ∈ S) (hn : S'.Nodup) (hs : ∀ p ∈ S', p ∈ S) : cn refs (i + 1) t S' + (if nx refs (i + 1) (refs.getD i default) ≤ t then 0 else 1) ≤ cn refs i t S := by
  have hrm : refs.getD i default ∈ (S.filter fun p => decide (nx refs i p ≤ t)) := mem_cn.2 ⟨hr, by rw [nx_now hi]; omega⟩
  have hin : ∀ p ∈ (S'.filter fun p => decide (nx refs (i + 1) p ≤ t)), p ∈ (S.filter fun p => decide (nx refs i p ≤ t)) := fun p hp => by
    obtain ⟨h1, h2⟩ := mem_cn.1 hp
    by_cases e : p = refs.getD i default
    · rw [e]; exact hrm
    · rw [nx_other hi e] at h2
      exact mem_cn.2 ⟨hs p h1, h2⟩
  unfold cn
  split
  · exact nodup_le (hn.filter _) hin
  · rename_i hgt
    have := nodup_le (K := S'.filter fun p => decide (nx refs (i + 1) p ≤ t)) (L := (S.filter fun p => decide (nx refs i p ≤ t)).erase (refs.getD i default)) (hn.filter _) fun p hp => by
      have hne : p ≠ refs.getD i default := fun e => hgt (by have := (mem_cn.1 hp).2; rwa [e] at this)
      exact (List.mem_erase_of_ne hne).2 (hin p hp)
    rw [List.length_erase_of_mem hrm] at this
    have := List.length_pos_of_mem hrm
    omega
theorem s_miss (hi : i < refs.length) (hn : S'.Nodup) (hs : ∀ p ∈ S', p ∈ S ∨ p = refs.getD i default) : cn refs (i + 1) t S' ≤ cn refs i t S + (if nx refs (i + 1) (refs.getD i default) ≤ t then 1 else 0) := by
  unfold cn
  split
  · have := nodup_le (K := S'.filter fun p => decide (nx refs (i + 1) p ≤ t)) (L := refs.getD i default :: (S.filter fun p => decide (nx refs i p ≤ t))) (hn.filter _) fun p hp => by
      obtain ⟨h1, h2⟩ := mem_cn.1 hp
      by_cases e : p = refs.getD i default
      · rw [e]; exact List.mem_cons_self ..
      · rw [nx_other hi e] at h2
        exact List.mem_cons_of_mem _ (mem_cn.2 ⟨(hs p h1).resolve_right e, h2⟩)
    simpa using this
  · rename_i hgt
    exact nodup_le (hn.filter _) fun p hp => by
      obtain ⟨h1, h2⟩ := mem_cn.1 hp
      have e : p ≠ refs.getD i default := fun e => hgt (by rwa [e] at h2)
      rw [nx_other hi e] at h2
      exact mem_cn.2 ⟨(hs p h1).resolve_right e, h2⟩
theorem s_cap (hn : S'.Nodup) (hr : refs.getD i default ∈ S') : cn refs (i + 1) t S' + (if nx refs (i + 1) (refs.getD i default) ≤ t then 0 else 1) ≤ S'.length := by
  split
  · exact cn_le S'
  · rename_i hgt
    have := nodup_le (K := S'.filter fun p => decide (nx refs (i + 1) p ≤ t)) (L := S'.erase (refs.getD i default)) (hn.filter _) fun p hp => by
      obtain ⟨h1, h2⟩ := mem_cn.1 hp
      have e : p ≠ refs.getD i default := fun e => hgt (by rwa [e] at h2)
      exact (List.mem_erase_of_ne e).2 h1
    rw [List.length_erase_of_mem hr] at this
    have := List.length_pos_of_mem hr
    unfold cn
    omega
theorem g_hit (hi : i < refs.length) (hG : G.Nodup) (hm : ∀ p, p ∈ G' ↔ p ∈ G) : cn refs i t G ≤ cn refs (i + 1) t G' + (if nx refs (i + 1) (refs.getD i default) ≤ t then 0 else 1) := by
  unfold cn
  split
  · rename_i hle
    exact nodup_le (hG.filter _) fun p hp => by
      obtain ⟨h1, h2⟩ := mem_cn.1 hp
      by_cases e : p = refs.getD i default
      · rw [e] at h1 ⊢; exact mem_cn.2 ⟨(hm _).2 h1, hle⟩
      · rw [← nx_other hi e] at h2
        exact mem_cn.2 ⟨(hm p).2 h1, h2⟩
  · have := nodup_le (K := G.filter fun p => decide (nx refs i p ≤ t)) (L := refs.getD i default :: (G'.filter fun p => decide (nx refs (i + 1) p ≤ t))) (hG.filter _) fun p hp => by
      obtain ⟨h1, h2⟩ := mem_cn.1 hp
      by_cases e : p = refs.getD i default
      · rw [e]; exact List.mem_cons_self ..
      · rw [← nx_other hi e] at h2
        exact List.mem_cons_of_mem _ (mem_cn.2 ⟨(hm p).2 h1, h2⟩)
    simpa using this
/-- What comes to G: all that was there but perhaps v, and the page that is asked for. -/
theorem g_in (hi : i < refs.length) (hG : G.Nodup) (hr : refs.getD i default ∉ G) (hm : ∀ p, p ∈ G → nx refs i p ≤ t → p ∈ G') (hr' : refs.getD i default ∈ G') : cn refs i t G + (if nx refs (i + 1) (refs.getD i default) ≤ t then 1 else 0) ≤ cn refs (i + 1) t G' := by
  have hin : ∀ p ∈ (G.filter fun p => decide (nx refs i p ≤ t)), p ∈ (G'.filter fun p => decide (nx refs (i + 1) p ≤ t)) := fun p hp => by
    obtain ⟨h1, h2⟩ := mem_cn.1 hp
    have e : p ≠ refs.getD i default := fun e => hr (e ▸ h1)
    exact mem_cn.2 ⟨hm p h1 h2, by rw [nx_other hi e]; exact h2⟩
  unfold cn
  split
  · rename_i hle
    have := nodup_le (K := refs.getD i default :: (G.filter fun p => decide (nx refs i p ≤ t))) (L := G'.filter fun p => decide (nx refs (i + 1) p ≤ t)) (List.nodup_cons.2 ⟨fun h => hr (mem_cn.1 h).1, hG.filter _⟩) fun p hp => by
      rcases List.mem_cons.1 hp with rfl | h
      · exact mem_cn.2 ⟨hr', hle⟩
      · exact hin p h
    simpa using this
  · exact nodup_le (hG.filter _) hin
theorem g_evict (hi : i < refs.length) (hG : G.Nodup) (hr : refs.getD i default ∉ G) (hv : v ∈ G) (hm : ∀ p, p ∈ G' ↔ (p ∈ G ∧ p ≠ v) ∨ p = refs.getD i default) : cn refs i t G + (if nx refs (i + 1) (refs.getD i default) ≤ t then 1 else 0) ≤ cn refs (i + 1) t G' + 1 := by
  have hge : (G.erase v).Nodup := hG.sublist (List.erase_sublist ..)
  have h1 := g_in (t := t) (G := G.erase v) (G' := G') hi hge (fun h => hr (List.mem_of_mem_erase h)) (fun p hp _ => (hm p).2 (.inl ⟨List.mem_of_mem_erase hp, fun e => by rw [e] at hp; exact absurd hp (List.Nodup.not_mem_erase hG)⟩)) ((hm _).2 (.inr rfl))
  have h2 : cn refs i t G ≤ cn refs i t (G.erase v) + 1 := by
    unfold cn
    have := nodup_le (K := G.filter fun p => decide (nx refs i p ≤ t)) (L := v :: ((G.erase v).filter fun p => decide (nx refs i p ≤ t))) (hG.filter _) fun p hp => by
      obtain ⟨h1, h2⟩ := mem_cn.1 hp
      by_cases e : p = v
      · rw [e]; exact List.mem_cons_self ..
      · exact List.mem_cons_of_mem _ (mem_cn.2 ⟨(List.mem_erase_of_ne e).2 h1, h2⟩)
    simpa using this
  omega
theorem cn_all (h : ∀ p ∈ G, nx refs i p ≤ t) : cn refs i t G = G.length := by
  unfold cn
  rw [List.filter_eq_self.2 fun p hp => by rw [decide_eq_true_eq]; exact h p hp]
theorem cn_now_mem (hi : i < refs.length) (hr : refs.getD i default ∈ S) : 1 ≤ cn refs i i S := by
  have : refs.getD i default ∈ (S.filter fun p => decide (nx refs i p ≤ i)) := mem_cn.2 ⟨hr, by rw [nx_now hi]; omega⟩
  exact List.length_pos_of_mem this
theorem cn_now_no (hi : i < refs.length) (hr : refs.getD i default ∉ G) : cn refs i i G = 0 := by
  unfold cn
  rw [List.length_eq_zero_iff, List.filter_eq_nil_iff]
  intro p hp
  rw [decide_eq_true_eq]
  intro h
  have h2 := nx_le refs (i := i) (by omega) p
  have e : nx refs i p = i := by omega
  rw [nx_step refs hi] at e
  split at e
  · rename_i h3
    exact hr (h3 ▸ hp)
  · have := nx_le refs (i := i + 1) (by omega) p
    omega
theorem bel_le {c : Nat} (hB : Bel refs f i G c) : ∀ {S : List Int} {c' k : Nat}, Run refs f i S c' → G.Nodup → S.Nodup → S.length ≤ f → G.length ≤ f → (∀ t, i ≤ t → cn refs i t S ≤ cn refs i t G + k) → c ≤ k + c' := by
  induction hB with
  | done => intros; omega
  | @hit i G G' c hi hr hn hm hB ih =>
    intro S c' k hR hGn hSn hSl hGl hD
    have hlen := same_len hGn hn hm
    cases hR with
    | done => omega
    | hit _ hrS hnS hsS hlS hR =>
      exact ih hR hn hnS hlS (by omega) fun t ht => by
        have h1 := s_hit (t := t) hi (by omega) hrS hnS hsS
        have h2 := g_hit (t := t) hi hGn hm
        have h3 := hD t (by omega)
        omega
    | @miss _ _ S' c'' _ hrS hnS hsS hrS' hlS hR =>
      have := ih (k := k + 1) hR hn hnS hlS (by omega) fun t ht => by
        have h1 := s_miss (t := t) hi hnS hsS
        have h2 := g_hit (t := t) hi hGn hm
        have h3 := hD t (by omega)
        split at h1 <;> split at h2 <;> omega
      omega
  | @add i G G' c hi hr hf hn hm hB ih =>
    intro S c' k hR hGn hSn hSl hGl hD
    have hlen : G'.length ≤ f := by
      have := nodup_le (K := G') (L := refs.getD i default :: G) hn fun p hp => by
        rcases (hm p).1 hp with h | h
        · exact List.mem_cons_of_mem _ h
        · rw [h]; exact List.mem_cons_self ..
      simp only [List.length_cons] at this
      omega
    have hg : ∀ t, cn refs i t G + (if nx refs (i + 1) (refs.getD i default) ≤ t then 1 else 0) ≤ cn refs (i + 1) t G' := fun t => g_in hi hGn hr (fun p hp _ => (hm p).2 (.inl hp)) ((hm _).2 (.inr rfl))
    cases hR with
    | done => omega
    | hit _ hrS hnS hsS hlS hR =>
      have hk : 1 ≤ k := by
        have := hD i (Nat.le_refl _)
        have := cn_now_mem hi hrS
        have := cn_now_no hi hr
        omega
      have := ih (k := k - 1) hR hn hnS hlS hlen fun t ht => by
        have h1 := s_hit (t := t) hi (by omega) hrS hnS hsS
        have h2 := hg t
        have h3 := hD t (by omega)
        split at h1 <;> split at h2 <;> omega
      omega
    | @miss _ _ S' c'' _ hrS hnS hsS hrS' hlS hR =>
      have := ih (k := k) hR hn hnS hlS hlen fun t ht => by
        have h1 := s_miss (t := t) hi hnS hsS
        have h2 := hg t
        have h3 := hD t (by omega)
        split at h1 <;> split at h2 <;> omega
      omega
  | @evict i G G' c v hi hr hf hv hmax hn hm hB ih =>
    intro S c' k hR hGn hSn hSl hGl hD
    have hlen : G'.length ≤ f := by
      have := nodup_le (K := G') (L := refs.getD i default :: G.erase v) hn fun p hp => by
        rcases (hm p).1 hp with h | h
        · exact List.mem_cons_of_mem _ ((List.mem_erase_of_ne h.2).2 h.1)
        · rw [h]; exact List.mem_cons_self ..
      simp only [List.length_cons, List.length_erase_of_mem hv] at this
      have := List.length_pos_of_mem hv
      omega
    have hg1 : ∀ t, cn refs i t G + (if nx refs (i + 1) (refs.getD i default) ≤ t then 1 else 0) ≤ cn refs (i + 1) t G' + 1 := fun t => g_evict hi hGn hr hv hm
    have hg2 : ∀ t, t < nx refs i v → cn refs i t G + (if nx refs (i + 1) (refs.getD i default) ≤ t then 1 else 0) ≤ cn refs (i + 1) t G' := fun t ht => g_in hi hGn hr (fun p hp hle => (hm p).2 (.inl ⟨hp, fun e => by rw [e] at hle; omega⟩)) ((hm _).2 (.inr rfl))
    have hg3 : ∀ t, nx refs i v ≤ t → cn refs i t G = f := fun t ht => by rw [cn_all fun p hp => Nat.le_trans (hmax p hp) ht, hf]
    cases hR with
    | done => omega
    | @hit _ _ S' _ _ hrS hnS hsS hlS hR =>
      have hk : 1 ≤ k := by
        have := hD i (Nat.le_refl _)
        have := cn_now_mem hi hrS
        have := cn_now_no hi hr
        omega
      have := ih (k := k - 1) hR hn hnS hlS hlen fun t ht => by
        have h1 := s_hit (t := t) hi (by omega) hrS hnS hsS
        have h3 := hD t (by omega)
        have h4 : cn refs i t S ≤ S.length := cn_le S
        rcases Nat.lt_or_ge t (nx refs i v) with hlt | hge
        · have h2 := hg2 t hlt
          split at h1 <;> split at h2 <;> omega
        · have h2 := hg1 t
          have h5 := hg3 t hge
          split at h1 <;> split at h2 <;> omega
      omega
    | @miss _ _ S' c'' _ hrS hnS hsS hrS' hlS hR =>
      have := ih (k := k) hR hn hnS hlS hlen fun t ht => by
        have h1 := s_miss (t := t) hi hnS hsS
        have h6 := s_cap (refs := refs) (i := i) (t := t) hnS hrS'
        have h3 := hD t (by omega)
        rcases Nat.lt_or_ge t (nx refs i v) with hlt | hge
        · have h2 := hg2 t hlt
          split at h1 <;> split at h2 <;> omega
        · have h2 := hg1 t
          have h5 := hg3 t hge
          split at h1 <;> split at h2 <;> split at h6 <;> omega
      omega
theorem bel_run {c : Nat} (hB : Bel refs f i G c) : G.Nodup → G.length ≤ f → Run refs f i G c := by
  induction hB with
  | done => intros; exact .done
  | @hit i G G' c hi hr hn hm hB ih =>
    intro hGn hGl
    have hlen := same_len hGn hn hm
    exact .hit hi hr hn (fun p hp => (hm p).1 hp) (by omega) (ih hn (by omega))
  | @add i G G' c hi hr hf hn hm hB ih =>
    intro hGn hGl
    have hlen : G'.length ≤ f := by
      have := nodup_le (K := G') (L := refs.getD i default :: G) hn fun p hp => by
        rcases (hm p).1 hp with h | h
        · exact List.mem_cons_of_mem _ h
        · rw [h]; exact List.mem_cons_self ..
      simp only [List.length_cons] at this
      omega
    exact .miss hi hr hn (fun p hp => (hm p).1 hp) ((hm _).2 (.inr rfl)) hlen (ih hn hlen)
  | @evict i G G' c v hi hr hf hv hmax hn hm hB ih =>
    intro hGn hGl
    have hlen : G'.length ≤ f := by
      have := nodup_le (K := G') (L := refs.getD i default :: G.erase v) hn fun p hp => by
        rcases (hm p).1 hp with h | h
        · exact List.mem_cons_of_mem _ ((List.mem_erase_of_ne h.2).2 h.1)
        · rw [h]; exact List.mem_cons_self ..
      simp only [List.length_cons, List.length_erase_of_mem hv] at this
      have := List.length_pos_of_mem hv
      omega
    exact .miss hi hr hn (fun p hp => ((hm p).1 hp).imp (fun h => h.1) id) ((hm _).2 (.inr rfl)) hlen (ih hn hlen)
theorem bel_best {c c' : Nat} (hB : Bel refs f 0 [] c) (hR : Run refs f 0 [] c') : c ≤ c' := by
  have := bel_le hB (k := 0) hR List.nodup_nil List.nodup_nil (Nat.zero_le _) (Nat.zero_le _) fun t _ => Nat.le_refl _
  omega
end
end Go.Proofs.Ytdmphjphcdcdkaa
