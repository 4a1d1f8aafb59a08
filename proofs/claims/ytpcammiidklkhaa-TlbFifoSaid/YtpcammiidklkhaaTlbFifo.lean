/- The law TlbFifo. No conditions. -/
import Derived.Test.YtpcammiidklkhaaTlbLaws
import Derived.Test.YtpcammiidklkhaaTlbInv
import Derived.Test.YtpcammiidklkhaaSeq2
import Derived.Test.YtpcammiidklkhaaMax
set_option linter.unusedSimpArgs false
set_option linter.unusedVariables false
namespace Go.Proofs.Ytpcammiidklkhaa
open Go Go.RowKit
attribute [local irreducible] Code.wp wpList bodyPost Exit.then Exit.inBlock Calls wpQuiet Tri TriQ
structure U16 where
  v : Int
  deriving DecidableEq
instance : Enc U16 where
  default := ⟨0⟩
  sz := 1
  enc := fun s => [.int .u16 s.v]
  dec := fun cs => match cs with | [.int _ i] => ⟨i⟩ | _ => ⟨0⟩
  len := fun _ => rfl
  one := fun _ u hu => by simp at hu; subst hu; rfl
  pos := by decide
instance : ElT Try.prog 40 U16 := ⟨trivial⟩
instance : ElT Try.prog 3 Int := ⟨trivial⟩
def pgs (l : List U16) : List Int := l.map fun x => x.v % 512
def fE (k : List Int) (j : Nat) : TE := ⟨2, k.getD j default, 1 + 256 * (j : Int)⟩
def fifoL (n : Nat) (k : List Int) (i : Nat) : List TE := ((List.range i).map (fE k)).drop (i - n)
theorem dec_fifo (j : Nat) (hj : j ≤ 4294967295) : decR (1 + 256 * (j : Int)) = (⟨1, j, false, false, false, false⟩, 0) := by
  have ho : okE ⟨1, (j : Int), false, false, false, false⟩ := by
    refine ⟨by simp, by simp, ?_, rfl⟩
    simp [rngB]
    omega
  have hw : wrd ⟨1, (j : Int), false, false, false, false⟩ = 1 + 256 * (j : Int) := by
    unfold wrd lowN
    simp [bN]
    omega
  rw [← hw]
  exact decR_wrd ho
theorem tr_fifo (j : Nat) (hj : j ≤ 4294967295) : tr (1 + 256 * (j : Int)) = true ∧ hu (1 + 256 * (j : Int)) = false := by
  unfold tr hu
  rw [dec_fifo j hj]
  exact ⟨rfl, rfl⟩
theorem mkX_fifo (k : List Int) (i : Nat) (hi : i ≤ 4294967295) : mkX 2 (k.getD i default) (1 + 256 * (i : Int)) = fE k i := by
  unfold mkX fE
  rw [(tr_fifo i hi).2]
  rfl
theorem fifo_len (n : Nat) (k : List Int) (i : Nat) : (fifoL n k i).length = i - (i - n) := by unfold fifoL; simp
theorem fifo_step {n : Nat} {k : List Int} (hn : 1 ≤ n) {i : Nat} (hi : i < k.length) (hk : k.length ≤ 40) (hd : ∀ a b, a < k.length → b < k.length → a ≠ b → k.getD a default ≠ k.getD b default) : mkL (n : Int) (fifoL n k i) (fE k i) = fifoL n k (i + 1) := by
  have hK : mkK (fifoL n k i) (fE k i) = fifoL n k i := by
    unfold mkK
    rw [List.filter_eq_self]
    intro y hy
    have hy := List.mem_of_mem_drop hy
    obtain ⟨j, hj, rfl⟩ := List.mem_map.1 hy
    have hj := List.mem_range.1 hj
    have hne := hd i j hi (by omega) (by omega)
    have s1 : spanM (fE k i).w = 1 := by unfold spanM fE; rw [(tr_fifo i (by omega)).2]; rfl
    have s2 : spanM (fE k j).w = 1 := by unfold spanM fE; rw [(tr_fifo j (by omega)).2]; rfl
    have : ovM (fE k i) (fE k j) = false := by
      unfold ovM
      rw [s1, s2]
      apply decide_eq_false
      rintro ⟨_, h1, h2⟩
      have h1 : k.getD i default < k.getD j default + 1 := h1
      have h2 : k.getD j default < k.getD i default + 1 := h2
      exact hne (by omega)
    rw [this]; rfl
  unfold mkL
  rw [hK]
  have hs : (List.range (i + 1)).map (fE k) = (List.range i).map (fE k) ++ [fE k i] := by rw [List.range_succ, List.map_append]; rfl
  unfold dropK
  rw [fifo_len]
  unfold fifoL
  rw [hs]
  split
  · rename_i h
    have h' : n ≤ i := by omega
    rw [List.drop_drop, List.drop_append_of_le_length (by simp; omega)]
    congr 2
    omega
  · rename_i h
    have h' : i < n := by omega
    rw [show i - n = 0 by omega, show i + 1 - n = 0 by omega]
    rfl
theorem fifo_iv {n : Nat} {k : List Int} (hn : 1 ≤ n) (hn' : n ≤ 16) (hk : k.length ≤ 40) (hb : ∀ j, 0 ≤ k.getD j default ∧ k.getD j default < 512) (hd : ∀ a b, a < k.length → b < k.length → a ≠ b → k.getD a default ≠ k.getD b default) : ∀ i, i ≤ k.length → Iv (n : Int) (fifoL n k i)
  | 0, _ => by
    have : fifoL n k 0 = [] := by unfold fifoL; simp
    rw [this]
    exact iv_nil (by omega)
  | i + 1, hi => by
    rw [← fifo_step hn (by omega) hk hd]
    have ht := tr_fifo i (by omega)
    have hp : plcM 2 (k.getD i default) = 0 := plc_of (by omega) (hb i)
    have hx := mkX_fifo k i (by omega)
    rw [← hx]
    exact iv_fill (fifo_iv hn hn' hk hb hd i (by omega)) (mkX_vd hp ht.1) (mkX_wf hp ht.1 (by omega))
theorem fifo_get {n : Nat} {k : List Int} {i j : Nat} (h : i - n ≤ j) (hj : j < i) : (fifoL n k i).getD (j - (i - n)) default = fE k j := by
  unfold fifoL
  rw [getD_drop, show i - n + (j - (i - n)) = j by omega, getD_get (by simp; omega)]
  simp
theorem fifo_E {n : Nat} {k : List Int} {i : Nat} (hI : Iv (n : Int) (fifoL n k i)) (hi : i ≤ 4294967295) (hb : 0 ≤ k.getD i default ∧ k.getD i default < 512) : mkE (n : Int) (fifoL n k i) 2 (k.getD i default) (1 + 256 * (i : Int)) = 0 := by
  unfold mkE
  rw [if_pos (check_ok.2 hI.ok), if_pos (plc_of (by omega) hb), (tr_fifo i hi).1]
  rfl
theorem pgs_at {l : List U16} {j : Nat} (hj : j < l.length) : (pgs l).getD j default = (l.getD j default).v % 512 := by
  unfold pgs
  rw [getD_get (by rw [List.length_map]; exact hj), List.getElem_map, getD_get hj]
end Go.Proofs.Ytpcammiidklkhaa
