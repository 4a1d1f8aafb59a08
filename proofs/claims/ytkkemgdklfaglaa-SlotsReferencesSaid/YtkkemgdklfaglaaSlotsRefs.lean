/- The law on references of slots, in plain terms. No conditions. -/
import Derived.Test.YtkkemgdklfaglaaSlotsPlain
set_option linter.unusedSimpArgs false
set_option linter.unusedVariables false
namespace Go.Proofs.Ytkkemgdklfaglaa
open Go Go.RowKit
structure Rel (l : List Slot) (refs : List Int) (used : List Bool) (k : Nat) : Prop where
  n1 : l.length = refs.length
  n2 : used.length = refs.length
  le : refs.length ≤ 8
  at_ : ∀ j, j < refs.length → 0 ≤ refs.getD j default ∧ refs.getD j default ≤ (k : Int) ∧ l.getD j default = (if used.getD j default = true then ⟨1, refs.getD j default⟩ else ⟨0, 0⟩) ∧ (used.getD j default = false → refs.getD j default = 0)
section
variable {l : List Slot} {refs : List Int} {used : List Bool} {k : Nat}
theorem Rel.more (h : Rel l refs used k) : Rel l refs used (k + 1) := ⟨h.n1, h.n2, h.le, fun j hj => by
  obtain ⟨h1, h2, h3, h4⟩ := h.at_ j hj
  exact ⟨h1, by omega, h3, h4⟩⟩
theorem Rel.check (h : Rel l refs used k) (hk : k ≤ 1000) : checkM l = 0 := by
  have hle := h.le
  have hn := h.n1
  refine checkM_zero.2 ⟨by omega, fun j hj => ?_⟩
  obtain ⟨h1, h2, h3, h4⟩ := h.at_ j (by omega)
  rw [h3]
  split
  · refine ⟨?_, ?_, h1, ?_, fun e => ?_⟩
    · dsimp only; omega
    · dsimp only; omega
    · dsimp only; omega
    · dsimp only at e; omega
  · decide
theorem Rel.set (h : Rel l refs used k) {j : Nat} (hj : j < refs.length) {r : Int} {u : Bool} (h0 : 0 ≤ r) (h1 : r ≤ (k : Int) + 1) (hu : u = false → r = 0) : Rel (l.set j (if u = true then ⟨1, r⟩ else ⟨0, 0⟩)) (refs.set j r) (used.set j u) (k + 1) := by
  have hn1 := h.n1
  have hn2 := h.n2
  refine ⟨by simpa using h.n1, by simpa using h.n2, by simpa using h.le, fun i hi => ?_⟩
  rw [List.length_set] at hi
  rw [getD_set i (show j < l.length by omega), getD_set i hj, getD_set i (show j < used.length by omega)]
  split
  · exact ⟨h0, by omega, rfl, hu⟩
  · exact h.more.at_ i hi
theorem Rel.set1 (h : Rel l refs used k) {j : Nat} (hj : j < refs.length) {r : Int} (h0 : 0 ≤ r) (h1 : r ≤ (k : Int) + 1) : Rel (l.set j ⟨1, r⟩) (refs.set j r) (used.set j true) (k + 1) := by
  have := h.set (u := true) hj h0 h1 (fun e => by cases e)
  rwa [if_pos rfl] at this
theorem Rel.set0 (h : Rel l refs used k) {j : Nat} (hj : j < refs.length) : Rel (l.set j ⟨0, 0⟩) (refs.set j 0) (used.set j false) (k + 1) := by
  have := h.set (u := false) (r := 0) hj (by omega) (by omega) (fun _ => rfl)
  rwa [if_neg Bool.false_ne_true] at this
def inB (used : List Bool) (s : Int) : Bool := decide (0 ≤ s) && (decide (s < (used.length : Int)) && used.getD s.toNat default)
theorem inB_iff {s : Int} : inB used s = true ↔ 0 ≤ s ∧ s < (used.length : Int) ∧ used.getD s.toNat default = true := by
  simp only [inB, Bool.and_eq_true, decide_eq_true_eq]
theorem Rel.in_ (h : Rel l refs used k) (s : Int) : inUse l s = inB used s := by
  have hn1 := h.n1
  have hn2 := h.n2
  rw [Bool.eq_iff_iff, inUse_iff, inB_iff]
  constructor
  · rintro ⟨h1, h2, h3⟩
    refine ⟨h1, by omega, ?_⟩
    have := (h.at_ s.toNat (by omega)).2.2.1
    cases hu : used.getD s.toNat default with
    | true => rfl
    | false => rw [hu] at this; rw [this] at h3; exact absurd rfl h3
  · rintro ⟨h1, h2, h3⟩
    refine ⟨h1, by omega, ?_⟩
    have := (h.at_ s.toNat (by omega)).2.2.1
    rw [this, if_pos h3]; dsimp only; omega
theorem Rel.out (h : Rel l refs used k) (hk : k ≤ 1000) {s : Int} (hs : inB used s = false) (e : Slot → Int) : withE l s e = 6 := by
  rw [withE, if_pos (h.check hk), h.in_, hs, if_neg Bool.false_ne_true]
theorem Rel.out_drop (h : Rel l refs used k) {s : Int} {b : Bool} (hs : inB used s = false) : dropF l s b = false := by
  rw [dropF, h.in_, hs]; simp
theorem Rel.get (h : Rel l refs used k) {s : Int} (hs : inB used s = true) : l.getD s.toNat default = ⟨1, refs.getD s.toNat default⟩ ∧ 0 ≤ refs.getD s.toNat default ∧ refs.getD s.toNat default ≤ (k : Int) ∧ 0 ≤ s ∧ s.toNat < refs.length ∧ s < (refs.length : Int) := by
  obtain ⟨h1, h2, h3⟩ := inB_iff.1 hs
  have hn2 := h.n2
  obtain ⟨g1, g2, g3, _⟩ := h.at_ s.toNat (by omega)
  rw [h3, if_pos rfl] at g3
  exact ⟨g3, g1, g2, h1, by omega, by omega⟩
theorem Rel.withE (h : Rel l refs used k) (hk : k ≤ 1000) {s : Int} (hs : inB used s = true) (e : Slot → Int) : withE l s e = e ⟨1, refs.getD s.toNat default⟩ := by
  rw [withE_at ⟨h.check hk, by rw [h.in_]; exact hs⟩, (h.get hs).1]
theorem Rel.withL (h : Rel l refs used k) (hk : k ≤ 1000) {s : Int} (hs : inB used s = true) {e : Slot → Int} {G : Slot → Slot} (he : e ⟨1, refs.getD s.toNat default⟩ = 0) : withL l s e G = l.set s.toNat (G ⟨1, refs.getD s.toNat default⟩) := by
  rw [withL_at ⟨h.check hk, by rw [h.in_]; exact hs⟩ (by rw [(h.get hs).1]; exact he), (h.get hs).1]
theorem Rel.dup (h : Rel l refs used k) (hk : k ≤ 1000) {s : Int} (hs : inB used s = true) : Go.Proofs.Ytkkemgdklfaglaa.withE l s dupE = 0 ∧ Go.Proofs.Ytkkemgdklfaglaa.withL l s dupE dupG = l.set s.toNat ⟨1, refs.getD s.toNat default + 1⟩ := by
  obtain ⟨_, _, h2, _⟩ := h.get hs
  have hn : ¬ refs.getD s.toNat default = 1048576 := by omega
  have he : dupE ⟨1, refs.getD s.toNat default⟩ = 0 := by rw [dupE, if_neg hn]
  refine ⟨by rw [h.withE hk hs, he], ?_⟩
  rw [h.withL hk hs he, dupG, if_neg hn]
theorem Rel.drop0 (h : Rel l refs used k) (hk : k ≤ 1000) {s : Int} {b : Bool} (hs : inB used s = true) (h0 : refs.getD s.toNat default = 0) : Go.Proofs.Ytkkemgdklfaglaa.withE l s dropE = 11 ∧ dropF l s b = false := by
  refine ⟨by rw [h.withE hk hs, h0]; rfl, ?_⟩
  rw [dropF, (h.get hs).1, h0]
  simp [dropB]
theorem Rel.dropd (h : Rel l refs used k) (hk : k ≤ 1000) {s : Int} {b : Bool} (hs : inB used s = true) (h0 : ¬ refs.getD s.toNat default = 0) : Go.Proofs.Ytkkemgdklfaglaa.withE l s dropE = 0 ∧ dropF l s b = (refs.getD s.toNat default == 1 && !b) ∧
    Go.Proofs.Ytkkemgdklfaglaa.withL l s dropE (dropG b) = l.set s.toNat (if !(refs.getD s.toNat default == 1 && !b) = true then ⟨1, refs.getD s.toNat default - 1⟩ else ⟨0, 0⟩) := by
  have he : dropE ⟨1, refs.getD s.toNat default⟩ = 0 := by rw [dropE, if_neg h0]
  refine ⟨by rw [h.withE hk hs, he], ?_, ?_⟩
  · rw [dropF, (h.get hs).1, h.check hk, h.in_, hs]; rfl
  · rw [h.withL hk hs he, dropG, if_neg h0]
    unfold dropB
    cases (refs.getD s.toNat default == 1 && !b) <;> rfl
theorem Rel.rel (h : Rel l refs used k) (hk : k ≤ 1000) {s : Int} (hs : inB used s = true) : (Go.Proofs.Ytkkemgdklfaglaa.withE l s relE == 0) = (refs.getD s.toNat default == 0) ∧ (refs.getD s.toNat default = 0 → Go.Proofs.Ytkkemgdklfaglaa.withE l s relE = 0 ∧ Go.Proofs.Ytkkemgdklfaglaa.withL l s relE relG = l.set s.toNat ⟨0, 0⟩) := by
  rw [h.withE hk hs]
  by_cases h0 : refs.getD s.toNat default = 0
  · have he : relE ⟨1, refs.getD s.toNat default⟩ = 0 := by rw [relE, if_pos h0]
    refine ⟨by rw [he, h0], fun _ => ⟨he, ?_⟩⟩
    rw [h.withL hk hs he, relG, if_pos h0]
  · have he : relE ⟨1, refs.getD s.toNat default⟩ = 21 := by rw [relE, if_neg h0]
    refine ⟨?_, fun e => absurd e h0⟩
    rw [he, Bool.eq_iff_iff]
    simp only [beq_iff_eq]
    exact ⟨fun e => (by cases e), fun e => absurd e h0⟩
theorem Rel.free (h : Rel l refs used k) {j : Nat} (hj : j < refs.length) : freeB (l.getD j default) = !used.getD j default := by
  rw [(h.at_ j hj).2.2.1]
  cases used.getD j default <;> rfl
theorem Rel.full (h : Rel l refs used k) (hk : k ≤ 1000) (ha : ∀ j, j < used.length → used.getD j default = true) : allocE l = 8 := by
  have : l.any freeB = false := getD_any.2 fun j hj => by
    rw [h.free (by rw [← h.n1]; exact hj), ha j (by rw [h.n2, ← h.n1]; exact hj)]; rfl
  rw [allocE, if_pos (h.check hk), this, if_neg Bool.false_ne_true]
theorem Rel.alloc (h : Rel l refs used k) (hk : k ≤ 1000) {m : Nat} (hm : m < used.length) (hf : used.getD m default = false) (ha : ∀ j, j < m → used.getD j default = true) : allocE l = 0 ∧ allocI l = (m : Int) ∧ allocL l = l.set m ⟨1, 0⟩ := by
  have hn1 := h.n1
  have hn2 := h.n2
  have hx : idxM freeB l = (m : Int) := idxM_some (by omega) (by rw [h.free (by omega), hf]; rfl) fun j hj => by rw [h.free (by omega), ha j hj]; rfl
  have hany : l.any freeB = true := any_some (k := m) (by omega) (by rw [h.free (by omega), hf]; rfl)
  refine ⟨by rw [allocE, if_pos (h.check hk), if_pos hany], by rw [allocI, if_pos ⟨h.check hk, hany⟩, hx], ?_⟩
  rw [allocL, if_pos ⟨h.check hk, hany⟩, hx, Int.toNat_natCast]
theorem Rel.isFree (h : Rel l refs used k) (hk : k ≤ 1000) {j : Nat} (hj : j < refs.length) : isFreeM l (j : Int) = !used.getD j default := by
  have hf := h.free hj
  have hn1 := h.n1
  rw [isFreeM, h.check hk, Int.toNat_natCast, ← hf]
  have h1 : decide ((0 : Int) ≤ (j : Int)) = true := decide_eq_true (by omega)
  have h2 : decide ((j : Int) < (l.length : Int)) = true := decide_eq_true (by omega)
  rw [h1, h2]; rfl
theorem Rel.usd (h : Rel l refs used k) {j : Nat} (hj : j < refs.length) : usedB (l.getD j default) = used.getD j default := by
  rw [(h.at_ j hj).2.2.1]
  cases used.getD j default <;> rfl
theorem Rel.count (h : Rel l refs used k) {j : Nat} (hj : j < refs.length) : (l.getD j default).count = refs.getD j default := by
  obtain ⟨_, _, h3, h4⟩ := h.at_ j hj
  rw [h3]
  split
  · rfl
  · rename_i hu
    exact (h4 (by simpa using hu)).symm
theorem rel_start {n : Int} (h : 0 ≤ n ∧ n ≤ 8) : newE n = 0 ∧ Rel (newL n) (List.replicate (newL n).length default) (List.replicate (newL n).length default) 0 := by
  have hl : newL n = List.replicate n.toNat default := by rw [newL, if_neg (by omega)]
  refine ⟨by rw [newE, if_neg (by omega)], by simp, by simp, by rw [hl]; simp; omega, fun j hj => ?_⟩
  have hj' : j < n.toNat := by rw [hl] at hj; simpa using hj
  have e1 : (List.replicate (newL n).length (default : Int)).getD j default = 0 := by rw [hl, getD_get (by simpa using hj'), List.getElem_replicate]; rfl
  have e2 : (List.replicate (newL n).length (default : Bool)).getD j default = false := by rw [hl, getD_get (by simpa using hj'), List.getElem_replicate]; rfl
  have e3 : (newL n).getD j default = ⟨0, 0⟩ := by rw [hl, getD_get (by simpa using hj'), List.getElem_replicate]; rfl
  rw [e1, e2, e3]
  exact ⟨by omega, by omega, rfl, fun _ => rfl⟩
end
end Go.Proofs.Ytkkemgdklfaglaa
