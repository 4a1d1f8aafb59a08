/- Plain laws of the translation cache. No conditions. -/
import Derived.Test.YtpcammiidklkhaaTlbSame
set_option linter.unusedSimpArgs false
set_option linter.unusedVariables false
namespace Go.Proofs.Ytpcammiidklkhaa
open Go Go.RowKit
/-- A valid cache, with its fields of their types. -/
structure Iv (z : Int) (l : List TE) : Prop where
  ok : Ok z l
  wf : ∀ x ∈ l, Wf x
theorem iv_nil {z : Int} (h : 1 ≤ z ∧ z ≤ 16) : Iv z [] := ⟨⟨h, (by simp; omega), (fun x hx => by cases hx), List.Pairwise.nil⟩, (fun x hx => by cases hx)⟩
theorem Iv.len {z : Int} {l : List TE} (h : Iv z l) : l.length ≤ 16 := by
  have := h.ok.n
  have := h.ok.z
  omega
theorem iv_filter {z : Int} {l : List TE} (h : Iv z l) (p : TE → Bool) : Iv z (l.filter p) :=
  ⟨⟨h.ok.z, by have := h.ok.n; have : (l.filter p).length ≤ l.length := List.length_filter_le ..; omega, fun x hx => h.ok.v x (List.mem_filter.1 hx).1, h.ok.d.filter p⟩, fun x hx => h.wf x (List.mem_filter.1 hx).1⟩
theorem iv_drop {z : Int} {l : List TE} (h : Iv z l) (n : Nat) : Iv z (l.drop n) :=
  ⟨⟨h.ok.z, by have := h.ok.n; rw [List.length_drop]; omega, fun x hx => h.ok.v x (List.mem_of_mem_drop hx), h.ok.d.sublist (List.drop_sublist ..)⟩, fun x hx => h.wf x (List.mem_of_mem_drop hx)⟩
theorem iv_dropK {z : Int} {l : List TE} (h : Iv z l) : Iv z (dropK z l) := by
  unfold dropK
  split
  · exact iv_drop h 1
  · exact h
theorem dropK_mem {z : Int} {l : List TE} {x : TE} (h : x ∈ dropK z l) : x ∈ l := by
  unfold dropK at h
  split at h
  · exact List.mem_of_mem_drop h
  · exact h
theorem mkK_mem {l : List TE} {x y : TE} (h : y ∈ mkK l x) : y ∈ l ∧ ovM x y = false := by
  have := List.mem_filter.1 h
  exact ⟨this.1, by simpa using this.2⟩
theorem iv_fill {z : Int} {l : List TE} {x : TE} (h : Iv z l) (hx : Vd x) (hw : Wf x) : Iv z (mkL z l x) := by
  have hk : Iv z (mkK l x) := iv_filter h _
  have hd := iv_dropK hk
  refine ⟨⟨h.ok.z, ?_, fun y hy => ?_, ?_⟩, fun y hy => ?_⟩
  · have := dropK_le (z := z) (l := mkK l x) h.ok.z.1 hk.ok.n
    unfold mkL
    rw [List.length_append]
    simp only [List.length_cons, List.length_nil]
    omega
  · rcases List.mem_append.1 hy with h1 | h1
    · exact hd.ok.v y h1
    · rw [List.mem_singleton.1 h1]; exact hx
  · unfold mkL
    rw [List.pairwise_append]
    refine ⟨hd.ok.d, List.pairwise_singleton .., fun a ha b hb => ?_⟩
    rw [List.mem_singleton.1 hb, ov_comm]
    exact (mkK_mem (dropK_mem ha)).2
  · rcases List.mem_append.1 hy with h1 | h1
    · exact hd.wf y h1
    · rw [List.mem_singleton.1 h1]; exact hw
theorem mkE_zero {z : Int} {l : List TE} {s p u : Int} (h : mkE z l s p u = 0) : Ok z l ∧ plcM s p = 0 ∧ tr u = true := by
  unfold mkE at h
  split at h
  · rename_i h1
    split at h
    · rename_i h2
      split at h
      · rename_i h3
        exact ⟨check_ok.1 h1, h2, h3⟩
      · cases h
    · cases h
  · rename_i h1; exact absurd h h1
theorem mkX_wf {s p u : Int} (h : plcM s p = 0) (ht : tr u = true) (hu : 0 ≤ u ∧ u < 18446744073709551616) : Wf (mkX s p u) := (mkX_vd h ht).wf hu
theorem iv_do {z : Int} {l : List TE} {o : OpT} (h : Iv z l) (hu : 0 ≤ o.w ∧ o.w < 18446744073709551616) : Iv z (doL z l o) := by
  unfold doL
  split
  · rename_i he
    split
    · rename_i hk
      have hE : mkE z l o.s o.p o.w = 0 := by unfold doE at he; rwa [if_pos hk] at he
      obtain ⟨_, h1, h2⟩ := mkE_zero hE
      exact iv_fill h (mkX_vd h1 h2) (mkX_wf h1 h2 hu)
    · split
      · exact iv_filter h _
      · split
        · exact iv_filter h _
        · exact h
  · exact h
/-- What a script of calls leaves of an empty cache. -/
def runL (z : Int) (ops : List OpT) : List TE := ops.foldl (doL z) []
theorem run_step (z : Int) {ops : List OpT} {i : Nat} (hi : i < ops.length) : runL z (ops.take (i + 1)) = doL z (runL z (ops.take i)) (ops.getD i default) := by
  unfold runL
  rw [take_step hi, List.foldl_append]
  rfl
/-- The entries that cover a page. -/
def cntC (l : List TE) (s p : Int) : Nat := l.countP fun x => covM x s p
theorem cov_ov {x y : TE} {s p : Int} (h : covM x s p = true) (h' : covM y s p = true) : ovM x y = true := by
  unfold covM at h h'
  unfold ovM
  rw [decide_eq_true_eq] at *
  omega
theorem cnt_le {l : List TE} (s p : Int) (h : l.Pairwise fun a b => ovM a b = false) : cntC l s p ≤ 1 := by
  induction l with
  | nil => simp [cntC]
  | cons x l ih =>
    have h2 := List.pairwise_cons.1 h
    have ih := ih h2.2
    unfold cntC at *
    rw [List.countP_cons]
    split
    · rename_i hc
      have : l.countP (fun x => covM x s p) = 0 := by
        rw [List.countP_eq_zero]
        intro y hy hc'
        have := h2.1 y hy
        rw [cov_ov hc hc'] at this
        cases this
      omega
    · omega
theorem look_cnt (l : List TE) (s p : Int) : (lookL l s p).2 = decide (0 < cntC l s p) := by
  unfold lookL cntC
  cases h : l.find? (fun x => covM x s p) with
  | none =>
    symm
    simp only [decide_eq_false_iff_not]
    rw [List.find?_eq_none] at h
    have : l.countP (fun x => covM x s p) = 0 := List.countP_eq_zero.2 h
    omega
  | some x =>
    symm
    simp only [decide_eq_true_eq]
    have hm := List.mem_of_find?_eq_some h
    have hc := List.find?_some h
    exact List.countP_pos_iff.2 ⟨x, hm, hc⟩
theorem look_one {x : TE} (h : Vd x) (s p : Int) : (lookM 1 [x] s p).2 = covM x s p := by
  have hok : checkM 1 [x] = 0 := check_ok.2 ⟨by omega, by simp, fun y hy => by rw [List.mem_singleton.1 hy]; exact h, List.pairwise_singleton ..⟩
  unfold lookM
  rw [if_pos hok, look_cnt]
  unfold cntC
  cases hc : covM x s p <;> simp [hc]
theorem tri_slice {α : Type} [Enc α] {n : Nat} {F : Act → World → Prop} {E : Env} {w0 : World} {cs cs0 : List Chunk} {v : Value} {l : List α} (hR : RdH (Hp w0 cs0) v l) (k : ∀ A c, v = .slice A l.length c → Tri n F E (Hp w0 cs)) (hs : cs0.Sublist cs := by repeat (first | exact List.Sublist.refl _ | assumption | apply List.Sublist.cons_cons | apply List.Sublist.cons)) : Tri n F E (Hp w0 cs) := fun a w h1 h2 => by
  obtain ⟨A, c, h, _⟩ := (hR w (h2.sub hs)).form
  exact k A c h a w h1 h2
end Go.Proofs.Ytpcammiidklkhaa
