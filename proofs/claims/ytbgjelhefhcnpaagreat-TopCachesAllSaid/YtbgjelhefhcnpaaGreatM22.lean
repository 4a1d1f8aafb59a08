/- Texts joined: SpS, SpFl, PtSet2, SpSet, SeqM. Each part's own remark says what it proves. -/
import Derived.Test.YtbgjelhefhcnpaaGreatM21
import Derived.Test.YtbgjelhefhcnpaaGreatM20
import Derived.Test.YtbgjelhefhcnpaaGreatM19
/- The address space of the law in memory: one block, its cells. No conditions. -/
set_option linter.unusedSimpArgs false
set_option linter.unusedVariables false
namespace Go.Proofs.YtbgjelhefhcnpaaGreat
open Go Go.RowKit
structure SpS where
  vn : Value
  vd : Value
  v0 : Value
  v1 : Value
  z : Int
  fr : Nat → Int
  wr : Nat → Bool
  nx : Int
def frL (f : Nat → Int) : List Value := (List.range 512).map fun i => .int .i64 (f i)
def wrL (f : Nat → Bool) : List Value := (List.range 512).map fun i => .bool (f i)
def spL (S : SpS) : List Value := .int .i64 0 :: S.vn :: S.vd :: .int .i64 S.z :: S.v0 :: .int .i64 S.z :: S.v1 :: (frL S.fr ++ (wrL S.wr ++ [.int .i64 S.nx]))
abbrev spB (g : Nat) (S : SpS) : Chunk := blkC g 44 (spL S)
instance spArT : ArTy Tryz.prog 40 2 33 2 := ⟨Tryz.underlying40, Tryz.sizeOf33⟩
instance spArF : ArTy Tryz.prog 41 512 3 1 := ⟨Tryz.underlying41, Tryz.sizeOf3⟩
instance spArW : ArTy Tryz.prog 42 512 4 1 := ⟨Tryz.underlying42, Tryz.sizeOf4⟩
theorem frL_len (f : Nat → Int) : (frL f).length = 512 := by unfold frL; rw [List.length_map, List.length_range]
theorem wrL_len (f : Nat → Bool) : (wrL f).length = 512 := by unfold wrL; rw [List.length_map, List.length_range]
theorem frL_at (f : Nat → Int) {i : Nat} (hi : i < 512) : (frL f)[i]? = some (.int .i64 (f i)) := by
  unfold frL
  rw [List.getElem?_map, List.getElem?_range hi]; rfl
theorem wrL_at (f : Nat → Bool) {i : Nat} (hi : i < 512) : (wrL f)[i]? = some (.bool (f i)) := by
  unfold wrL
  rw [List.getElem?_map, List.getElem?_range hi]; rfl
theorem spL_len (S : SpS) : (spL S).length = 1032 := by
  unfold spL
  simp only [List.length_cons, List.length_append, frL_len, wrL_len, List.length_nil]
theorem get7 (l : List Value) (a b c d e f g : Value) (j : Nat) : (a :: b :: c :: d :: e :: f :: g :: l)[j + 7]? = l[j]? := by simp
theorem sp_fr (S : SpS) {i : Nat} (hi : i < 512) : (spL S)[7 + i]? = some (.int .i64 (S.fr i)) := by
  rw [show 7 + i = i + 7 by omega]
  unfold spL
  rw [get7]
  rw [List.getElem?_append_left (by rw [frL_len]; exact hi), frL_at S.fr hi]
theorem sp_wr (S : SpS) {i : Nat} (hi : i < 512) : (spL S)[519 + i]? = some (.bool (S.wr i)) := by
  rw [show 519 + i = (512 + i) + 7 by omega]
  unfold spL
  rw [get7]
  rw [List.getElem?_append_right (by rw [frL_len]; omega), frL_len, Nat.add_sub_cancel_left, List.getElem?_append_left (by rw [wrL_len]; exact hi), wrL_at S.wr hi]
theorem sp_nx (S : SpS) : (spL S)[1031]? = some (.int .i64 S.nx) := by
  rw [show (1031 : Nat) = 1024 + 7 from rfl]
  unfold spL
  rw [get7]
  rw [List.getElem?_append_right (by rw [frL_len]; omega), frL_len, List.getElem?_append_right (by rw [wrL_len]; omega), wrL_len]
  rfl
def updI (f : Nat → Int) (p : Nat) (x : Int) : Nat → Int := fun i => if i = p then x else f i
def updB (f : Nat → Bool) (p : Nat) (x : Bool) : Nat → Bool := fun i => if i = p then x else f i
theorem frL_set (f : Nat → Int) {p : Nat} (hp : p < 512) (x : Int) : (frL f).set p (.int .i64 x) = frL (updI f p x) := by
  apply List.ext_getElem?
  intro i
  by_cases hi : i < 512
  · rw [List.getElem?_set, frL_len, frL_at _ hi, frL_at _ hi]
    unfold updI
    by_cases e : p = i
    · subst e; rw [if_pos rfl, if_pos hi, if_pos rfl]
    · rw [if_neg e, if_neg (fun x => e x.symm)]
  · rw [List.getElem?_eq_none (by rw [List.length_set, frL_len]; omega), List.getElem?_eq_none (by rw [frL_len]; omega)]
theorem wrL_set (f : Nat → Bool) {p : Nat} (hp : p < 512) (x : Bool) : (wrL f).set p (.bool x) = wrL (updB f p x) := by
  apply List.ext_getElem?
  intro i
  by_cases hi : i < 512
  · rw [List.getElem?_set, wrL_len, wrL_at _ hi, wrL_at _ hi]
    unfold updB
    by_cases e : p = i
    · subst e; rw [if_pos rfl, if_pos hi, if_pos rfl]
    · rw [if_neg e, if_neg (fun x => e x.symm)]
  · rw [List.getElem?_eq_none (by rw [List.length_set, wrL_len]; omega), List.getElem?_eq_none (by rw [wrL_len]; omega)]
theorem set_tab (S : SpS) (vn vd : Value) : setL (spL S) 0 [.int .i64 0, vn, vd] = spL { S with vn := vn, vd := vd } := rfl
theorem set_tlb0 (S : SpS) (v : Value) : setL (spL S) 3 [.int .i64 S.z, v] = spL { S with v0 := v } := rfl
theorem set_tlb1 (S : SpS) (v : Value) : setL (spL S) 5 [.int .i64 S.z, v] = spL { S with v1 := v } := rfl
theorem set_fr (S : SpS) {p : Nat} (hp : p < 512) (x : Int) : setL (spL S) (7 + p) [.int .i64 x] = spL { S with fr := updI S.fr p x } := by
  show (spL S).set (7 + p) (.int .i64 x) = _
  rw [show 7 + p = p + 7 by omega]
  unfold spL
  simp only [List.set_cons_succ]
  rw [List.set_append_left _ _ (by rw [frL_len]; exact hp), frL_set _ hp]
theorem set_wr (S : SpS) {p : Nat} (hp : p < 512) (x : Bool) : setL (spL S) (519 + p) [.bool x] = spL { S with wr := updB S.wr p x } := by
  show (spL S).set (519 + p) (.bool x) = _
  rw [show 519 + p = (512 + p) + 7 by omega]
  unfold spL
  simp only [List.set_cons_succ]
  rw [List.set_append_right _ _ (by rw [frL_len]; omega), frL_len, Nat.add_sub_cancel_left, List.set_append_left _ _ (by rw [wrL_len]; exact hp), wrL_set _ hp]
theorem set_nx (S : SpS) (x : Int) : setL (spL S) 1031 [.int .i64 x] = spL { S with nx := x } := by
  show (spL S).set (1024 + 7) (.int .i64 x) = _
  unfold spL
  simp only [List.set_cons_succ]
  rw [List.set_append_right _ _ (by rw [frL_len]; omega), frL_len, List.set_append_right _ _ (by rw [wrL_len]; omega), wrL_len]
  rfl
theorem sp_tab (S : SpS) : ((spL S).drop 0).take 3 = [.int .i64 0, S.vn, S.vd] := rfl
theorem sp_tlb0 (S : SpS) : ((spL S).drop 3).take 2 = [.int .i64 S.z, S.v0] := rfl
theorem sp_tlb1 (S : SpS) : ((spL S).drop 5).take 2 = [.int .i64 S.z, S.v1] := rfl
theorem sp_ble (S : SpS) {k : Nat} (h : k ≤ 1032) : Nat.ble k (spL S).length = true := by rw [spL_len]; exact Nat.ble_eq_true_of_le h
/-- The cache of a processor. -/
def tlbAt (S : SpS) (i : Nat) : Value := if i = 0 then S.v0 else S.v1
def setT (S : SpS) (i : Nat) (v : Value) : SpS := if i = 0 then { S with v0 := v } else { S with v1 := v }
theorem sp_tlb (S : SpS) {i : Nat} (hi : i < 2) : ((spL S).drop (3 + i * 2)).take 2 = [.int .i64 S.z, tlbAt S i] := by
  have h : i = 0 ∨ i = 1 := by omega
  rcases h with rfl | rfl <;> rfl
theorem set_tlb (S : SpS) {i : Nat} (hi : i < 2) (v : Value) : setL (spL S) (3 + i * 2) [.int .i64 S.z, v] = spL (setT S i v) := by
  have h : i = 0 ∨ i = 1 := by omega
  rcases h with rfl | rfl <;> rfl
section
variable {n d : Nat} {Q : Exit → Act → World → Prop} {ops rest : List Oper} {o : Oper} {E : Env} {w0 : World} {cs cs' : List Chunk} {x y : Operand} {g i p : Nat} {S : SpS} {vn vd v : Value} {k : Int} {b : Bool}
theorem yl_spTab [Dl] (ho : o.op = .load 39 x) (hx : ev E x = some (.pointer (some ⟨g, 0 + 0, none⟩))) (hi : Has cs (spB g S)) : Yl Tryz.prog n o E (Hp w0 cs) (ptV 0 S.vn S.vd) := yl_loadN (vs := [.int .i64 0, S.vn, S.vd]) (m := 3) ho hx hi (sp_tab S) rfl
theorem yl_spTlb [Dl] (ho : o.op = .load 33 x) (hx : ev E x = some (.pointer (some ⟨g, 0 + 3 + i * 2, none⟩))) (hi : Has cs (spB g S)) (hl : i < 2) : Yl Tryz.prog n o E (Hp w0 cs) (tlbV S.z (tlbAt S i)) := yl_loadN (vs := [.int .i64 S.z, tlbAt S i]) (m := 2) ho hx hi (by rw [Nat.zero_add]; exact sp_tlb S hl) rfl
theorem yl_spFr [Dl] (ho : o.op = .load 3 x) (hx : ev E x = some (.pointer (some ⟨g, 0 + 7 + p * 1, none⟩))) (hi : Has cs (spB g S)) (hp : p < 512) : Yl Tryz.prog n o E (Hp w0 cs) (.int .i64 (S.fr p)) := yl_load ho hx hi (by rw [Nat.zero_add, Nat.mul_one]; exact sp_fr S hp)
theorem yl_spWr [Dl] (ho : o.op = .load 4 x) (hx : ev E x = some (.pointer (some ⟨g, 0 + 519 + p * 1, none⟩))) (hi : Has cs (spB g S)) (hp : p < 512) : Yl Tryz.prog n o E (Hp w0 cs) (.bool (S.wr p)) := yl_load ho hx hi (by rw [Nat.zero_add, Nat.mul_one]; exact sp_wr S hp)
theorem yl_spNx [Dl] (ho : o.op = .load 3 x) (hx : ev E x = some (.pointer (some ⟨g, 0 + 1031, none⟩))) (hi : Has cs (spB g S)) : Yl Tryz.prog n o E (Hp w0 cs) (.int .i64 S.nx) := yl_load ho hx hi (by rw [Nat.zero_add]; exact sp_nx S)
theorem tri_spTab [Dl] (ho : o.op = .store 39 x y) (hx : ev E x = some (.pointer (some ⟨g, 0 + 0, none⟩))) (hy : ev E y = some (ptV 0 vn vd)) (hi : At cs i (spB g S)) (hcs : Nf (cs.set i (spB g { S with vn := vn, vd := vd })) cs') (kk : Tri n (wpList Tryz.prog ops.toArray Q rest) E (Hp w0 cs')) (hd : o.dst = none := by rfl) (hw : Wan ops n o E true := by first | exact wan_plain rfl | exact wan_yes rfl rfl rfl)
    (h1 : (ptV 0 vn vd).cells.toList.all Value.oneCell' = true := by rfl) : Tri n (wpList Tryz.prog ops.toArray Q (o :: rest)) E (Hp w0 cs) := tri_store (m := 3) hd hw ho hx hy hi rfl h1 (sp_ble S (by decide)) (set_tab S vn vd) hcs kk
theorem tri_spTlb [Dl] {j : Nat} (ho : o.op = .store 33 x y) (hx : ev E x = some (.pointer (some ⟨g, 0 + 3 + j * 2, none⟩))) (hy : ev E y = some (tlbV S.z v)) (hj : j < 2) (hi : At cs i (spB g S)) (hcs : Nf (cs.set i (spB g (setT S j v))) cs') (kk : Tri n (wpList Tryz.prog ops.toArray Q rest) E (Hp w0 cs')) (hd : o.dst = none := by rfl) (hw : Wan ops n o E true := by first | exact wan_plain rfl | exact wan_yes rfl rfl rfl)
    (h1 : (tlbV S.z v).cells.toList.all Value.oneCell' = true := by rfl) : Tri n (wpList Tryz.prog ops.toArray Q (o :: rest)) E (Hp w0 cs) := tri_store (m := 2) hd hw ho hx hy hi rfl h1 (sp_ble S (by omega)) (by rw [Nat.zero_add]; exact set_tlb S hj v) hcs kk
theorem tri_spFr [Dl] (ho : o.op = .store 3 x y) (hx : ev E x = some (.pointer (some ⟨g, 0 + 7 + p * 1, none⟩))) (hy : ev E y = some (.int .i64 k)) (hp : p < 512) (hi : At cs i (spB g S)) (hcs : Nf (cs.set i (spB g { S with fr := updI S.fr p k })) cs') (kk : Tri n (wpList Tryz.prog ops.toArray Q rest) E (Hp w0 cs')) (hd : o.dst = none := by rfl) (hw : Wan ops n o E true := by first | exact wan_plain rfl | exact wan_yes rfl rfl rfl) :
    Tri n (wpList Tryz.prog ops.toArray Q (o :: rest)) E (Hp w0 cs) := tri_store (m := 1) hd hw ho hx hy hi rfl rfl (sp_ble S (by omega)) (by rw [Nat.zero_add, Nat.mul_one]; exact set_fr S hp k) hcs kk
theorem tri_spWr [Dl] (ho : o.op = .store 4 x y) (hx : ev E x = some (.pointer (some ⟨g, 0 + 519 + p * 1, none⟩))) (hy : ev E y = some (.bool b)) (hp : p < 512) (hi : At cs i (spB g S)) (hcs : Nf (cs.set i (spB g { S with wr := updB S.wr p b })) cs') (kk : Tri n (wpList Tryz.prog ops.toArray Q rest) E (Hp w0 cs')) (hd : o.dst = none := by rfl) (hw : Wan ops n o E true := by first | exact wan_plain rfl | exact wan_yes rfl rfl rfl) :
    Tri n (wpList Tryz.prog ops.toArray Q (o :: rest)) E (Hp w0 cs) := tri_store (m := 1) hd hw ho hx hy hi rfl rfl (sp_ble S (by omega)) (by rw [Nat.zero_add, Nat.mul_one]; exact set_wr S hp b) hcs kk
theorem tri_spNx [Dl] (ho : o.op = .store 3 x y) (hx : ev E x = some (.pointer (some ⟨g, 0 + 1031, none⟩))) (hy : ev E y = some (.int .i64 k)) (hi : At cs i (spB g S)) (hcs : Nf (cs.set i (spB g { S with nx := k })) cs') (kk : Tri n (wpList Tryz.prog ops.toArray Q rest) E (Hp w0 cs')) (hd : o.dst = none := by rfl) (hw : Wan ops n o E true := by first | exact wan_plain rfl | exact wan_yes rfl rfl rfl) :
    Tri n (wpList Tryz.prog ops.toArray Q (o :: rest)) E (Hp w0 cs) := tri_store (m := 1) hd hw ho hx hy hi rfl rfl (sp_ble S (by decide)) (by rw [Nat.zero_add]; exact set_nx S k) hcs kk
end
end Go.Proofs.YtbgjelhefhcnpaaGreat

/- The address space of the law: what it holds; the walk of flush. No conditions. -/
set_option linter.unusedSimpArgs false
set_option linter.unusedVariables false
namespace Go.Proofs.YtbgjelhefhcnpaaGreat
open Go Go.RowKit
structure SpSt where
  S : SpS
  R : List Chunk
  T : Tr
  ns : List ND
  ds : List DP
  l0 : List TE
  l1 : List TE
/-- What stands in memory, and that it is valid. -/
structure StM (w0 : World) (y : SpSt) : Prop where
  n : RdH (Hp w0 y.R) y.S.vn y.ns
  d : RdH (Hp w0 y.R) y.S.vd y.ds
  b0 : RdH (Hp w0 y.R) y.S.v0 y.l0
  b1 : RdH (Hp w0 y.R) y.S.v1 y.l1
  pt : PtOk 0 y.T y.ns y.ds
  c0 : Iv y.S.z y.l0
  c1 : Iv y.S.z y.l1
/-- What stands in memory agrees with what it should be. -/
structure StA (y : SpSt) : Prop where
  pg : PgInv y.T y.S.fr y.S.wr
  e0 : ∀ x ∈ y.l0, CEnt y.S.fr y.S.wr x
  e1 : ∀ x ∈ y.l1, CEnt y.S.fr y.S.wr x
  nx : 1 ≤ y.S.nx
  fs : ∀ f, f ∈ frT 0 y.T → f < y.S.nx
abbrev stH (w0 : World) (g : Nat) (y : SpSt) : World → Prop := Hp w0 (spB g y.S :: y.R)
/-- Behind a flush of a page. -/
structure FlOk (w0 : World) (y y' : SpSt) (p : Nat) : Prop where
  m : StM w0 y'
  r : y.R.Sublist y'.R
  t : y'.T = y.T ∧ y'.ns = y.ns ∧ y'.ds = y.ds
  s : y'.S.fr = y.S.fr ∧ y'.S.wr = y.S.wr ∧ y'.S.nx = y.S.nx ∧ y'.S.z = y.S.z
  l0 : y'.l0 = invL y.l0 3 (p : Int)
  l1 : y'.l1 = invL y.l1 3 (p : Int)
/-- The cache of a processor. -/
def lAt (y : SpSt) (i : Nat) : List TE := if i = 0 then y.l0 else y.l1
theorem StM.bAt {w0 : World} {y : SpSt} (h : StM w0 y) (i : Nat) : RdH (Hp w0 y.R) (tlbAt y.S i) (lAt y i) := by
  unfold tlbAt lAt
  split
  · exact h.b0
  · exact h.b1
theorem StM.cAt {w0 : World} {y : SpSt} (h : StM w0 y) (i : Nat) : Iv y.S.z (lAt y i) := by
  unfold lAt
  split
  · exact h.c0
  · exact h.c1
/-- Another cache of a processor, in memory of its own. -/
def putT (y : SpSt) (i : Nat) (r : Row) (l : List TE) : SpSt := if i = 0 then { y with S := setT y.S 0 r.v, R := teS r l :: y.R, l0 := l } else { y with S := setT y.S 1 r.v, R := teS r l :: y.R, l1 := l }
theorem putT_S (y : SpSt) {i : Nat} (hi : i < 2) (r : Row) (l : List TE) : (putT y i r l).S = setT y.S i r.v ∧ (putT y i r l).R = teS r l :: y.R := by
  have h : i = 0 ∨ i = 1 := by omega
  rcases h with rfl | rfl <;> exact ⟨rfl, rfl⟩
theorem StM.putT {w0 : World} {y : SpSt} (h : StM w0 y) {i : Nat} (hi : i < 2) {r : Row} {l : List TE} (hl : Iv y.S.z l) : StM w0 (putT y i r l) := by
  have hR : RdH (Hp w0 (teS r l :: y.R)) r.v l := rd_chunk ⟨0, rfl⟩
  have e : i = 0 ∨ i = 1 := by omega
  rcases e with rfl | rfl
  · exact ⟨h.n.cons, h.d.cons, hR, h.b1.cons, h.pt, hl, h.c1⟩
  · exact ⟨h.n.cons, h.d.cons, h.b0.cons, hR, h.pt, h.c0, hl⟩
theorem putT_same (y : SpSt) {i : Nat} (hi : i < 2) (r : Row) (l : List TE) : (putT y i r l).T = y.T ∧ (putT y i r l).ns = y.ns ∧ (putT y i r l).ds = y.ds ∧ (putT y i r l).S.fr = y.S.fr ∧ (putT y i r l).S.wr = y.S.wr ∧ (putT y i r l).S.nx = y.S.nx ∧ (putT y i r l).S.z = y.S.z := by
  have h : i = 0 ∨ i = 1 := by omega
  rcases h with rfl | rfl <;> exact ⟨rfl, rfl, rfl, rfl, rfl, rfl, rfl⟩
theorem putT_lAt (y : SpSt) {i j : Nat} (hi : i < 2) (hj : j < 2) (r : Row) (l : List TE) : lAt (putT y i r l) j = if j = i then l else lAt y j := by
  have h : i = 0 ∨ i = 1 := by omega
  have h2 : j = 0 ∨ j = 1 := by omega
  rcases h with rfl | rfl <;> rcases h2 with rfl | rfl <;> rfl
attribute [local irreducible] spL invL setT tlbAt
attribute [local irreducible] Code.wp wpList bodyPost Exit.then Exit.inBlock Calls wpQuiet Tri TriQ
section
variable (w0 : World)
/-- Behind the flush of i caches. -/
structure FlI (y y' : SpSt) (p i : Nat) : Prop where
  m : StM w0 y'
  r : y.R.Sublist y'.R
  t : y'.T = y.T ∧ y'.ns = y.ns ∧ y'.ds = y.ds
  s : y'.S.fr = y.S.fr ∧ y'.S.wr = y.S.wr ∧ y'.S.nx = y.S.nx ∧ y'.S.z = y.S.z
  l : ∀ j, j < 2 → lAt y' j = if j < i then invL (lAt y j) 3 (p : Int) else lAt y j
set_option maxHeartbeats 2000000 in
theorem flush_c {g : Nat} {y : SpSt} (h : StM w0 y) {p : Nat} (hp : p < 512) : Cal Tryz.prog 43 [pR g, .int .i64 (p : Int)] (stH w0 g y) (fun _ : {y' : SpSt // FlOk w0 y y' p} => .bool true) (fun y' => stH w0 g y'.1) := by
  refine cal_of_tri Tryz.func43 rfl Tryz.ntmps43 rfl ?_
  (repeat (first | refine zz ?_ | refine zv fun _ => ?_))
  refine tri_block ?_
  refine tri_loop2 (fun (i : Nat) (y' : SpSt) => i ≤ 2 ∧ FlI w0 y y' p i) (fun i _ => [(0, pR g), (1, .int .i64 (p : Int)), (8, .int .i64 (i : Int))]) (fun _ y' => stH w0 g y') (fun i _ => 2 - i) 0 y ⟨by omega, h, List.Sublist.refl _, ⟨rfl, rfl, rfl⟩, ⟨rfl, rfl, rfl, rfl⟩, fun j _ => by rw [if_neg (by omega)]⟩ (by repeat (first | exact trivial | refine ⟨rfl, ?_⟩)) (fun w h => h) ?_
  rintro i y1 ⟨hi, hF⟩
  (repeat (first | refine zz ?_ | refine zv fun _ => ?_))
  ((first | refine tri_cond (by rfl) (fun hc => ?_) (fun hc => ?_) | refine tri_gsplit (by rfl) (by rfl) (by (fail_if_success exact (rfl : _ = some (Value.bool true))); (fail_if_success exact (rfl : _ = some (Value.bool false))); rfl) (fun hc => ?_) (fun hc => ?_)) <;> (try simp only [decide_eq_true_eq, decide_eq_false_iff_not, beq_iff_eq, bne_iff_ne, ne_eq, Bool.not_eq_true', Bool.not_eq_false', beq_eq_false_iff_ne, bne_eq_false_iff_eq, Int.not_lt, Int.not_le, gt_iff_lt, ge_iff_le, Bool.and_eq_true, Bool.or_eq_true, Bool.and_eq_false_iff, Bool.or_eq_false_iff, Decidable.not_not, not_true_eq_false, not_false_eq_true, and_true, true_and, or_false, false_or, or_true, true_or, and_false, false_and, eq_self, Bool.true_eq_false, Bool.false_eq_true] at hc) <;> (try (exfalso; omega)))
  case refine_1 =>
    have hi2 : i < 2 := by omega
    have hiv := hF.m.cAt i
    have hlen := hiv.len
    (repeat (first | refine zz ?_ | refine zv fun _ => ?_))
    refine tri_block ?_
    (repeat (first | refine zz ?_ | refine zv fun _ => ?_))
    refine au_pure ?_ (hy := yl_idxA rfl rfl (ix_nat rfl) hi2)
    refine au_pure ?_ (hy := yl_spTlb (g := g) (i := i) (S := y1.S) rfl rfl (has_at at0) hi2)
    (repeat (first | refine zz ?_ | refine zv fun _ => ?_))
    refine au_callC rfl rfl rfl rfl rfl (inval_c w0 _ (z := y1.S.z) (v := tlbAt y1.S i) (l := lAt y1 i) 3 (p : Int) ((hF.m.bAt i).cons) (by omega) hiv.wf) ?_
    intro r
    rw [inv_ok hiv hp]
    (repeat (first | refine zz ?_ | refine zv fun _ => ?_))
    rename_i g6
    obtain ⟨L, hL⟩ : ∃ L, L = invL (lAt y1 i) 3 (p : Int) := ⟨_, rfl⟩
    refine tri_weak (H' := Hp w0 (tlbC g6 y1.S.z r.v :: teS r L :: spB g y1.S :: y1.R)) (fun w h => by rw [hL]; exact h) ?_
    (repeat (first | refine tri_seq ?_ | refine tri_then ?_))
    refine ar_held [6] (tlbC g6 y1.S.z r.v :: teS r L :: spB g y1.S :: y1.R) rfl ?_
    refine ar_take 0 rfl rfl rfl ?_; refine ar_take 1 rfl rfl rfl ?_; refine ar_take 2 rfl rfl rfl ?_; refine ar_take 3 rfl rfl rfl ?_; refine ar_take 4 rfl rfl rfl ?_
    refine ar_take 5 rfl rfl rfl ?_ (hy := yl_idxA rfl rfl (ix_nat rfl) hi2)
    refine ar_op 6 rfl ?_
    refine tri_spTlb (i := 2) (g := g) (S := y1.S) (j := i) (v := r.v) rfl rfl rfl hi2 rfl (by repeat (first | exact nf0 rfl | apply nfS rfl | exact nfR)) ?_
    refine tri_nil ?_; refine ar_ink ?_
    refine ar_done ?_
    obtain ⟨e1, e2⟩ := putT_S y1 hi2 r L
    obtain ⟨s1, s2, s3, s4, s5, s6, s7⟩ := putT_same y1 hi2 r L
    refine tri_weak (H' := stH w0 g (putT y1 i r L)) (fun w h => by
      show Hp w0 (spB g (putT y1 i r L).S :: (putT y1 i r L).R) w
      rw [e1, e2]
      exact (HpM.tail h).perm (List.Perm.swap _ _ _)) ?_
    (repeat (first | refine zz ?_ | refine zv fun _ => ?_))
    refine tri_nx2 (i + 1) (putT y1 i r L) (by omega) ⟨by omega, hF.m.putT hi2 (by rw [hL]; unfold invL; exact iv_filter hiv _), ?_, ?_, ?_, fun j hj => ?_⟩ (by repeat (first | exact trivial | refine ⟨rfl, ?_⟩)) (fun w h => h)
    · rw [e2]; exact List.Sublist.cons _ hF.r
    · rw [s1, s2, s3]; exact hF.t
    · rw [s4, s5, s6, s7]; exact hF.s
    · rw [putT_lAt y1 hi2 hj, hF.l j hj]
      by_cases e : j = i
      · subst e
        rw [if_pos rfl, if_pos (by omega), hL, hF.l j hj, if_neg (by omega)]
      · rw [if_neg e]
        by_cases e2 : j < i
        · rw [if_pos e2, if_pos (by omega)]
        · rw [if_neg e2, if_neg (by omega)]
  have hie : i = 2 := by omega
  subst hie
  (repeat (first | refine zz ?_ | refine zv fun _ => ?_))
  refine au_done1 rfl ?_
  refine fun w hw => ⟨⟨y1, hF.m, hF.r, hF.t, hF.s, ?_, ?_⟩, rfl, hw⟩
  · exact hF.l 0 (by decide)
  · exact hF.l 1 (by decide)
end
end Go.Proofs.YtbgjelhefhcnpaaGreat

/- The walk of a page table's Set. No conditions. -/
set_option linter.unusedSimpArgs false
set_option linter.unusedVariables false
namespace Go.Proofs.YtbgjelhefhcnpaaGreat
open Go Go.RowKit
/-- What Set leaves. -/
structure SetOk (root : Int) (T : Tr) (ds : List DP) (p : Nat) (w : Int) (l : List Int) (T' : Tr) (ns' : List ND) : Prop where
  ok : PtOk root T' ns' ds
  at_ : ∀ q, q < 512 → (pgT T' q).2 = if q = p then w else (pgT T q).2
  fr : ∀ f, f ∈ frT root T' → f ∈ l ∨ f ∈ frT root T
attribute [local irreducible] decR ixL endP pgT deepL
attribute [local irreducible] Code.wp wpList bodyPost Exit.then Exit.inBlock Calls wpQuiet Tri TriQ
section
variable (w0 : World) (cs : List Chunk)
set_option maxHeartbeats 2000000 in
theorem Set_c {root : Int} {T : Tr} {ns : List ND} {ds : List DP} (h : PtOk root T ns ds) {vn vd vf : Value} (hN : RdH (Hp w0 cs) vn ns) (hD : RdH (Hp w0 cs) vd ds) {l : List Int} (hL : RdH (Hp w0 cs) vf l) (hf : Frsh root T l) {p : Nat} (hp : p < 512) (hlv : pgT T p = ((l.length : Int), 0))
    {w n : Int} {a b c : Bool} (hw : decR w = (⟨1, n, a, b, c, false⟩, 0)) (hb : 0 ≤ w ∧ w < 18446744073709551616) :
    Cal Tryz.prog 41 [ptV root vn vd, .int .i64 (p : Int), .int .u64 w, vf] (Hp w0 cs) (fun y : {y : Row × Row × List ND × Tr // SetOk root T ds p w l y.2.2.2 y.2.2.1} => .tuple #[ptV root y.1.1.v y.1.2.1.v, .int .i64 0])
      (fun y => Hp w0 (ndS y.1.1 y.1.2.2.1 :: dpS y.1.2.1 ds :: cs)) := by
  have hnl := h.nlen
  have hdl := h.dlen
  have hle := last_eq ns root T p
  have e5 : (endP root T p).2 = pgT T p := by unfold endP pgT; exact end_lv ..
  have e51 : (endP root T p).2.1 = (l.length : Int) := by rw [e5, hlv]
  have e52 : (endP root T p).2.2 = 0 := by rw [e5, hlv]
  rw [e51, e52] at hle
  obtain ⟨k, lv, e1, e2, e3, e4⟩ := end_at h p
  have hl2 : l.length ≤ 2 := by rw [e51] at e3; omega
  rw [e1] at hle
  have hpw : pgW w := ⟨by rw [hw], .inr ⟨by rw [hw], by rw [hw]⟩, hb.1, hb.2⟩
  refine cal_of_tri Tryz.func41 rfl Tryz.ntmps41 rfl ?_
  (repeat (first | refine tri_seq ?_ | refine tri_then ?_)); refine tri_region ?_; (repeat (first | refine au_pure ?_ | refine au_pass ?_ | refine au_box (fun _ => ?_) | refine au_alloc (fun _ => ?_) | refine au_store ?_ | refine au_make rfl rfl (fun _ => ?_) | refine au_lit rfl rfl rfl (fun _ => ?_) | refine au_append rfl rfl rfl rfl (fun _ => au_norm ?_) | refine au_storeE rfl rfl rfl rfl ?_)); refine tri_nil ?_; (repeat refine tri_then ?_)
  rename_i g4 g8
  refine tri_weak (H' := Hp w0 (ptC g8 0 (.slice none 0 0) (.slice none 0 0) :: ptC g4 root vn vd :: cs)) (fun w h => h) ?_
  (repeat (first | refine zz ?_ | refine zv fun _ => ?_))
  refine au_callC rfl rfl rfl rfl rfl (checked_c w0 _ (vn := vn) (vd := vd) h hN.cons.cons hD.cons.cons (n := (p : Int)) (m := 512) (by omega)) (fun _ => ?_)
  (repeat (first | refine zz ?_ | refine zv fun _ => ?_))
  refine au_call rfl rfl (cl_of rfl rfl rfl (fun _ h => Ret.hp (decode_at _ hb.1 hb.2 hw) h)) ?_
  refine zz ?_
  refine zz ?_
  refine zz ?_
  refine zv fun g11 => ?_
  refine zz ?_
  refine tri_weak (H' := Hp w0 (enC g11 1 n a b c false :: ptC g8 0 (.slice none 0 0) (.slice none 0 0) :: ptC g4 root vn vd :: cs)) (fun w h => h) ?_
  (repeat (first | refine zz ?_ | refine zv fun _ => ?_))
  refine au_callC rfl rfl rfl rfl rfl (last_c w0 _ (vn := vn) (vd := vd) h hN.cons.cons.cons (by omega) hp) (fun _ => ?_)
  rw [hle]
  refine zv fun g13 => ?_
  refine zz ?_
  refine tri_weak (H' := Hp w0 (spC g13 (k : Int) (l.length : Int) 0 :: enC g11 1 n a b c false :: ptC g8 0 (.slice none 0 0) (.slice none 0 0) :: ptC g4 root vn vd :: cs)) (fun w h => h) ?_
  (repeat (first | refine zz ?_ | refine zv fun _ => ?_))
  refine au_callC rfl rfl rfl rfl rfl (entry_c w0 _ 0 (by decide) (by decide)) (fun _ => ?_)
  rw [dec_zero]
  refine au_pure ?_ (hy := yl_entK (k := 0) (m := 0) (a := false) (b := false) (c := false) (d := false) rfl rfl)
  (repeat (first | refine zz ?_ | refine zv fun _ => ?_))
  refine au_callC rfl rfl rfl rfl rfl (fresh_c w0 _ (vn := vn) (vd := vd) (vf := vf) h hN.cons.cons.cons.cons hD.cons.cons.cons.cons hL.cons.cons.cons.cons hf (by omega) rfl) (fun _ => ?_)
  (repeat (first | refine zz ?_ | refine zv fun _ => ?_))
  refine au_callC rfl rfl rfl rfl rfl (ptclone_c w0 _ (root := root) (vn := vn) (vd := vd) hN.cons.cons.cons.cons hD.cons.cons.cons.cons (by omega) (by omega)) ?_
  rintro ⟨rn, rd⟩
  refine zv fun g14 => ?_
  refine zz ?_
  refine tri_weak (H' := Hp w0 (ptC g14 root rn.v rd.v :: ndS rn ns :: dpS rd ds :: spC g13 (k : Int) (l.length : Int) 0 :: enC g11 1 n a b c false :: ptC g8 0 (.slice none 0 0) (.slice none 0 0) :: ptC g4 root vn vd :: cs)) (fun w h => h) ?_
  (repeat (first | refine zz ?_ | refine zv fun _ => ?_))
  refine au_callC rfl rfl rfl rfl rfl (deepen_c w0 _ h (rn := rn) (vd := rd.v) (gt := g14) hL.cons.cons.cons.cons.cons hf hp hlv) ?_
  rintro ⟨⟨r2, m2⟩, hdp⟩
  obtain ⟨d1, d2, d3, d4⟩ := hdp
  rw [List.take_length] at d1 d2 d3 d4
  obtain ⟨T1, hT1⟩ : ∃ T1, T1 = deepL T p l := ⟨_, rfl⟩
  rw [← hT1] at d1 d2 d3 d4
  rw [Nat.sub_self] at d2
  obtain ⟨T2, p1, p2, p3⟩ := put_leaf d1 hp d2 hpw
  have e6 : (endP root T1 p).2.1 = 0 := by
    have : (endP root T1 p).2 = pgT T1 p := by unfold endP pgT; exact end_lv ..
    rw [this, d2]; rfl
  (repeat (first | refine zz ?_ | refine zv fun _ => ?_))
  refine au_callC rfl rfl rfl rfl rfl (put_c w0 _ d1 (rn := r2) (vd := rd.v) (gt := g14) hp w) (fun _ => ?_)
  rw [e6]
  refine tri_weak (H' := Hp w0 (ptC g14 root r2.v rd.v :: ndS r2 (putL m2 (endP root T1 p).1 (dgF p 0) w) :: dpS rd ds :: spC g13 (k : Int) (l.length : Int) 0 :: enC g11 1 n a b c false :: ptC g8 0 (.slice none 0 0) (.slice none 0 0) :: ptC g4 root vn vd :: cs)) (fun w h => h) ?_
  (repeat (first | refine zz ?_ | refine zv fun _ => ?_))
  refine au_done2 rfl ?_
  refine fun w hw => ⟨⟨⟨r2, rd, _, T2⟩, ⟨p1, fun q hq => ?_, fun f hf2 => ?_⟩⟩, rfl, hw.tail.sub (List.Sublist.cons_cons _ (List.Sublist.cons_cons _ (List.Sublist.cons _ (List.Sublist.cons _ (List.Sublist.cons _ (List.Sublist.cons _ (List.Sublist.refl _)))))))⟩
  · rw [p2 q hq]
    by_cases e : q = p
    · rw [if_pos ⟨by rw [e], fun _ => e⟩, if_pos e]
    · rw [if_neg (fun x => e (x.2 rfl)), if_neg e, d3]
  · exact (d4 f (p3.mem_iff.1 hf2))
end
end Go.Proofs.YtbgjelhefhcnpaaGreat

/- The walk of the law's set. No conditions. -/
set_option linter.unusedSimpArgs false
set_option linter.unusedVariables false
namespace Go.Proofs.YtbgjelhefhcnpaaGreat
open Go Go.RowKit
/-- The word of a page that is mapped anew. -/
def newW (p : Nat) : Int := wrd ⟨1, (p : Int), true, false, false, false⟩
theorem newW_ok {p : Nat} (hp : p < 512) : okE ⟨1, (p : Int), true, false, false, false⟩ := ⟨by simp, by simp, by unfold rngB; simp; omega, rfl⟩
theorem newW_dec {p : Nat} (hp : p < 512) : decR (newW p) = (⟨1, (p : Int), true, false, false, false⟩, 0) := decR_wrd (newW_ok hp)
theorem newW_rng {p : Nat} (hp : p < 512) : 0 ≤ newW p ∧ newW p < 18446744073709551616 := by
  have := wrd_rng (newW_ok hp)
  unfold newW
  omega
theorem newW_enc {p : Nat} (hp : p < 512) : encS 1 (p : Int) true false false false = (newW p, 0) := enc_of_ok (newW_ok hp)
/-- The numbers of new tables. -/
def nxL (nx : Int) (i : Nat) : List Int := (List.range i).map fun j : Nat => nx + (j : Int)
theorem nxL_step (nx : Int) (i : Nat) : nxL nx (i + 1) = nxL nx i ++ [nx + (i : Int)] := by
  unfold nxL
  rw [List.range_succ, List.map_append]; rfl
theorem nxL_len (nx : Int) (i : Nat) : (nxL nx i).length = i := by unfold nxL; rw [List.length_map, List.length_range]
theorem nxL_mem {nx : Int} {i : Nat} {f : Int} : f ∈ nxL nx i → nx ≤ f ∧ f < nx + (i : Int) := fun h => by
  obtain ⟨j, hj, e⟩ := List.mem_map.1 h
  have := List.mem_range.1 hj
  omega
theorem nxL_nodup (nx : Int) (i : Nat) : (nxL nx i).Nodup := by
  unfold nxL
  rw [List.nodup_iff_pairwise_ne, List.pairwise_map]
  exact (List.nodup_iff_pairwise_ne.1 List.nodup_range).imp fun {a b} h => by omega
theorem nxL_fresh {T : Tr} {nx : Int} (h1 : 1 ≤ nx) (h2 : nx ≤ 1000000) (hf : ∀ f, f ∈ frT 0 T → f < nx) {i : Nat} (hi : i ≤ 2) : Frsh 0 T (nxL nx i) :=
  ⟨nxL_nodup nx i, fun f hm hx => by have := nxL_mem hm; have := hf f hx; omega, fun f hm => by have := nxL_mem hm; omega⟩
/-- A cached entry agrees still where a page that it does not cover changes. -/
theorem ce_upd {fr fr' : Nat → Int} {wr wr' : Nat → Bool} {p : Nat} (hf : ∀ q, q ≠ p → fr' q = fr q) (hw : ∀ q, q ≠ p → wr' q = wr q) {x : TE} (h : CEnt fr wr x) (hn : covM x 3 (p : Int) = false) : CEnt fr' wr' x := by
  refine ⟨h.s, fun q hq hc => ?_⟩
  have hne : q ≠ p := fun e => by rw [e, hn] at hc; cases hc
  rw [hf q hne, hw q hne]
  exact h.c q hq hc
structure SetR (w0 : World) (y y' : SpSt) (p : Nat) : Prop where
  m : StM w0 y'
  a : StA y'
  r : y.R.Sublist y'.R
  wd : ∀ q, q < 512 → (pgT y'.T q).2 = if q = p then newW p else (pgT y.T q).2
  nx : y'.S.nx ≤ y.S.nx + 2
theorem set_agree {y y' : SpSt} (h : StA y) {p : Nat} (hp : p < 512) (hfr : y.S.fr p = -1) {lv : Nat} (hS : SetOk 0 y.T y.ds p (newW p) (nxL y.S.nx lv) y'.T y'.ns)
    (h1 : y'.S.fr = updI y.S.fr p (p : Int)) (h2 : y'.S.wr = updB y.S.wr p true) (h3 : y'.S.nx = y.S.nx + (lv : Int)) (h4 : y'.l0 = y.l0) (h5 : y'.l1 = y.l1) : StA y' := by
  have hcov : ∀ x : TE, CEnt y.S.fr y.S.wr x → CEnt y'.S.fr y'.S.wr x := fun x hx => by
    rw [h1, h2]
    refine ce_upd (p := p) (fun q hq => if_neg hq) (fun q hq => if_neg hq) hx ?_
    cases hc : covM x 3 (p : Int) with
    | false => rfl
    | true =>
      have := (hx.c p hp hc).1
      omega
  refine ⟨⟨fun q hq => ?_⟩, fun x hx => hcov x (h.e0 x (by rw [← h4]; exact hx)), fun x hx => hcov x (h.e1 x (by rw [← h5]; exact hx)), by have := h.nx; omega, fun f hf => ?_⟩
  · rw [h1, h2, hS.at_ q hq]
    unfold updI updB
    by_cases e : q = p
    · subst e
      rw [if_pos rfl, if_pos rfl, if_pos rfl]
      exact .inr ⟨rfl, ⟨false, false, false, newW_dec hp⟩⟩
    · rw [if_neg e, if_neg e, if_neg e]
      exact h.pg.pg q hq
  · rw [h3]
    rcases hS.fr f hf with e | e
    · exact (nxL_mem e).2
    · have := h.fs f e; omega
attribute [local irreducible] spL invL setT tlbAt decR newW pgT endP nxL
attribute [local irreducible] Code.wp wpList bodyPost Exit.then Exit.inBlock Calls wpQuiet Tri TriQ
section
variable (w0 : World)
set_option maxHeartbeats 4000000 in
theorem spset_c {g : Nat} {y : SpSt} (h : StM w0 y) (ha : StA y) {p : Nat} (hp : p < 512) (hfr : y.S.fr p = -1) (hnx : y.S.nx ≤ 100000) : Cal Tryz.prog 12 [pR g, .int .i64 (p : Int)] (stH w0 g y) (fun _ : {y' : SpSt // SetR w0 y y' p} => .bool true) (fun y' => stH w0 g y'.1) := by
  have hw0 : (pgT y.T p).2 = 0 := by
    rcases ha.pg.pg p hp with ⟨_, e⟩ | ⟨e, _⟩
    · exact e
    · omega
  have hend := end_pg 0 y.T p
  obtain ⟨k, lv, _, _, e3, e4⟩ := end_at h.pt p
  have hlv : pgT y.T p = ((lv : Int), 0) := by
    rw [hend] at e3
    rw [← e3, ← hw0]
  have hendE : (endP 0 y.T p).2 = ((lv : Int), 0) := by rw [hend, hlv]
  have hfs := nxL_fresh ha.nx (by omega) ha.fs e4
  have hnx1 := ha.nx
  obtain ⟨S, hS⟩ : ∃ S, S = y.S := ⟨_, rfl⟩
  have hN : ∀ S', RdH (Hp w0 (spB g S' :: y.R)) y.S.vn y.ns := fun S' => h.n.cons
  have hD : ∀ S', RdH (Hp w0 (spB g S' :: y.R)) y.S.vd y.ds := fun S' => h.d.cons
  refine cal_of_tri Tryz.func12 rfl Tryz.ntmps12 rfl ?_
  (repeat (first | refine zz ?_ | refine zv fun _ => ?_))
  refine au_pure ?_ (hy := yl_spTab (g := g) (S := y.S) rfl rfl (has_at at0))
  (repeat (first | refine zz ?_ | refine zv fun _ => ?_))
  refine au_callC rfl rfl rfl rfl rfl (Missing_c w0 _ (vn := y.S.vn) (vd := y.S.vd) h.pt (hN _) (hD _) hp (fun _ => by rw [hendE, dec_zero]; rfl)) (fun _ => ?_)
  rw [hendE]
  (repeat (first | refine zz ?_ | refine zv fun _ => ?_))
  rw [show decide ((lv : Int) < 0) = false from decide_eq_false (by omega)]
  (repeat (first | refine zz ?_ | refine zv fun _ => ?_))
  rw [show decide ((lv : Int) > 2) = false from decide_eq_false (by omega)]
  (repeat (first | refine zz ?_ | refine zv fun _ => ?_))
  refine tri_nilrow Int 3 ?_
  refine tri_weak (H' := Hp w0 (inS (Row.nil w0.heap.size) (nxL y.S.nx 0) :: spB g { y.S with nx := y.S.nx + ((0 : Nat) : Int) } :: y.R)) (fun w h => by
    rw [show nxL y.S.nx 0 = [] by unfold nxL; rfl, show ({ y.S with nx := y.S.nx + ((0 : Nat) : Int) } : SpS) = y.S by simp]
    exact h) ?_
  refine tri_block ?_
  refine tri_loop2 (fun (i : Nat) (r : Row) => i ≤ lv) (fun i r => [(0, pR g), (1, .int .i64 (p : Int)), (7, r.v), (30, .int .i64 (lv : Int)), (31, .int .i64 (i : Int))]) (fun i r => Hp w0 (inS r (nxL y.S.nx i) :: spB g { y.S with nx := y.S.nx + (i : Int) } :: y.R)) (fun i _ => lv - i) 0 (Row.nil w0.heap.size) (by omega) (by repeat (first | exact trivial | refine ⟨rfl, ?_⟩)) (fun w h => h) ?_
  intro i r hi
  (repeat (first | refine zz ?_ | refine zv fun _ => ?_))
  ((first | refine tri_cond (by rfl) (fun hc => ?_) (fun hc => ?_) | refine tri_gsplit (by rfl) (by rfl) (by (fail_if_success exact (rfl : _ = some (Value.bool true))); (fail_if_success exact (rfl : _ = some (Value.bool false))); rfl) (fun hc => ?_) (fun hc => ?_)) <;> (try simp only [decide_eq_true_eq, decide_eq_false_iff_not, beq_iff_eq, bne_iff_ne, ne_eq, Bool.not_eq_true', Bool.not_eq_false', beq_eq_false_iff_ne, bne_eq_false_iff_eq, Int.not_lt, Int.not_le, gt_iff_lt, ge_iff_le, Bool.and_eq_true, Bool.or_eq_true, Bool.and_eq_false_iff, Bool.or_eq_false_iff, Decidable.not_not, not_true_eq_false, not_false_eq_true, and_true, true_and, or_false, false_or, or_true, true_or, and_false, false_and, eq_self, Bool.true_eq_false, Bool.false_eq_true] at hc) <;> (try (exfalso; omega)))
  case refine_1 =>
    have hll := nxL_len y.S.nx i
    (repeat (first | refine zz ?_ | refine zv fun _ => ?_))
    refine tri_block ?_
    (repeat (first | refine zz ?_ | refine zv fun _ => ?_))
    refine au_pure (v := .int .i64 (y.S.nx + (i : Int))) ?_ (hy := yl_spNx (g := g) (S := { y.S with nx := y.S.nx + (i : Int) }) rfl rfl (has_at (atS at0)))
    refine au_lit (l := [y.S.nx + (i : Int)]) rfl rfl rfl (fun r1 => ?_)
    refine au_append (i := 1) (l := nxL y.S.nx i) (l2 := [y.S.nx + (i : Int)]) rfl rfl rfl rfl (fun r2 => ?_) (hi := rfl) (h2 := rd_chunk (r := r1) (l := [y.S.nx + (i : Int)]) ⟨0, rfl⟩) (hb := by simp only [List.length_cons, List.length_nil]; omega)
    refine tri_weak (H' := Hp w0 (inS r2 (nxL y.S.nx (i + 1)) :: spB g { y.S with nx := y.S.nx + (i : Int) } :: y.R)) (fun w h => by rw [nxL_step]; exact HpM.tail h) ?_
    (repeat (first | refine zz ?_ | refine zv fun _ => ?_))
    refine au_pure (v := .int .i64 (y.S.nx + (i : Int))) ?_ (hy := yl_spNx (g := g) (S := { y.S with nx := y.S.nx + (i : Int) }) rfl rfl (has_at (atS at0)))
    (repeat (first | refine zz ?_ | refine zv fun _ => ?_))
    refine tri_spNx (i := 1) (g := g) (S := { y.S with nx := y.S.nx + (i : Int) }) (k := y.S.nx + (i : Int) + 1) rfl rfl rfl rfl (by repeat (first | exact nf0 rfl | apply nfS rfl | exact nfR)) ?_
    (repeat (first | refine zz ?_ | refine zv fun _ => ?_))
    exact tri_nx2 (i + 1) r2 (by omega) (by omega) (by repeat (first | exact trivial | refine ⟨rfl, ?_⟩)) (fun w h => by
      rw [show y.S.nx + ((i + 1 : Nat) : Int) = y.S.nx + (i : Int) + 1 by omega]
      exact h)
  have hie : i = lv := by omega
  subst hie
  (repeat (first | refine zz ?_ | refine zv fun _ => ?_))
  refine au_call rfl rfl (cl_of rfl rfl rfl (fun _ h => Ret.hp (encode_at _ (newW_enc hp)) h)) ?_
  (repeat (first | refine zz ?_ | refine zv fun _ => ?_))
  refine au_pure ?_ (hy := yl_spTab (g := g) (S := { y.S with nx := y.S.nx + (i : Int) }) rfl rfl (has_at (atS at0)))
  (repeat (first | refine zz ?_ | refine zv fun _ => ?_))
  refine au_callC rfl rfl rfl rfl rfl (Set_c w0 _ (vn := y.S.vn) (vd := y.S.vd) (vf := r.v) h.pt (hN _).cons (hD _).cons (l := nxL y.S.nx i) (rd_chunk (r := r) (l := nxL y.S.nx i) ⟨0, rfl⟩) hfs hp (by rw [nxL_len]; exact hlv) (newW_dec hp) (newW_rng hp)) ?_
  rintro ⟨⟨r1, r2, N2, T2⟩, hOk⟩
  (repeat (first | refine zz ?_ | refine zv fun _ => ?_))
  rename_i g9
  refine tri_weak (H' := Hp w0 (ptC g9 0 r1.v r2.v :: ndS r1 N2 :: dpS r2 y.ds :: spB g { y.S with nx := y.S.nx + (i : Int) } :: y.R)) (fun w h => HpM.sub h (List.Sublist.cons_cons _ (List.Sublist.cons_cons _ (List.Sublist.cons_cons _ (List.Sublist.cons _ (List.Sublist.refl _)))))) ?_
  (repeat (first | refine tri_seq ?_ | refine tri_then ?_))
  refine ar_held [] (ptC g9 0 r1.v r2.v :: ndS r1 N2 :: dpS r2 y.ds :: y.R) rfl ?_
  refine ar_take 0 rfl rfl rfl ?_; refine ar_take 1 rfl rfl rfl ?_; refine ar_take 2 rfl rfl rfl ?_; refine ar_take 3 rfl rfl rfl ?_; refine ar_take 4 rfl rfl rfl ?_; refine ar_take 5 rfl rfl rfl ?_; refine ar_take 6 rfl rfl rfl ?_; refine ar_take 7 rfl rfl rfl ?_; refine ar_take 8 rfl rfl rfl ?_; refine ar_take 10 rfl rfl rfl ?_; refine ar_take 11 rfl rfl rfl ?_; refine ar_take 14 rfl rfl rfl ?_; refine ar_take 15 rfl rfl rfl ?_
  refine ar_op 9 rfl ?_
  refine tri_spTab (i := 3) (g := g) (S := { y.S with nx := y.S.nx + (i : Int) }) (vn := r1.v) (vd := r2.v) rfl rfl rfl rfl (by repeat (first | exact nf0 rfl | apply nfS rfl | exact nfR)) ?_
  refine tri_nil ?_; refine ar_in ?_
  refine ar_take 12 rfl rfl rfl ?_ (hy := yl_idxA rfl rfl (ix_nat rfl) hp)
  refine ar_op 13 rfl ?_
  refine tri_spFr (i := 3) (g := g) (S := { y.S with nx := y.S.nx + (i : Int), vn := r1.v, vd := r2.v }) (p := p) (k := (p : Int)) rfl rfl rfl hp rfl (by repeat (first | exact nf0 rfl | apply nfS rfl | exact nfR)) ?_
  refine tri_nil ?_; refine ar_in ?_
  refine ar_take 16 rfl rfl rfl ?_ (hy := yl_idxA rfl rfl (ix_nat rfl) hp)
  refine ar_op 17 rfl ?_
  refine tri_spWr (i := 3) (g := g) (S := { y.S with nx := y.S.nx + (i : Int), vn := r1.v, vd := r2.v, fr := updI y.S.fr p (p : Int) }) (p := p) (b := true) rfl rfl rfl hp rfl (by repeat (first | exact nf0 rfl | apply nfS rfl | exact nfR)) ?_
  refine tri_nil ?_; refine ar_in ?_
  refine ar_done ?_
  obtain ⟨y2, hy2⟩ : ∃ y2 : SpSt, y2 = { y with S := { y.S with nx := y.S.nx + (i : Int), vn := r1.v, vd := r2.v, fr := updI y.S.fr p (p : Int), wr := updB y.S.wr p true }, R := ndS r1 N2 :: dpS r2 y.ds :: y.R, T := T2, ns := N2 } := ⟨_, rfl⟩
  have hM2 : StM w0 y2 := by
    rw [hy2]
    exact ⟨rd_chunk ⟨0, rfl⟩, rd_chunk ⟨1, rfl⟩, h.b0.cons.cons, h.b1.cons.cons, hOk.ok, h.c0, h.c1⟩
  have hA2 : StA y2 := set_agree ha hp hfr (y' := y2) (lv := i) (by rw [hy2]; exact hOk) (by rw [hy2]) (by rw [hy2]) (by rw [hy2]) (by rw [hy2]) (by rw [hy2])
  have hR2 : SetR w0 y y2 p := ⟨hM2, hA2, by rw [hy2]; exact List.Sublist.cons _ (List.Sublist.cons _ (List.Sublist.refl _)), by rw [hy2]; exact hOk.at_, by rw [hy2]; show y.S.nx + (i : Int) ≤ _; omega⟩
  refine tri_weak (H' := stH w0 g y2) (fun w h => by
    rw [hy2]
    exact (HpM.tail h).perm ((List.Perm.cons _ (List.Perm.swap _ _ _)).trans (List.Perm.swap _ _ _))) ?_
  (repeat (first | refine zz ?_ | refine zv fun _ => ?_))
  refine au_done1 rfl ?_
  exact fun w hw => ⟨⟨y2, hR2⟩, rfl, hw⟩
end
end Go.Proofs.YtbgjelhefhcnpaaGreat

/- A region that draws its order: two or three operations that may come up in any order, joined behind them. No conditions. -/
set_option linter.unusedSimpArgs false
set_option linter.unusedVariables false
namespace Go.Proofs.YtbgjelhefhcnpaaGreat
open Go Go.RowKit
section
variable {M : List Nat} {P : Program} {n d : Nat} {F : Act → World → Prop} {l : List Oper} {E : Env} {H S : World → Prop} {w0 : World} {cs cs0 : List Chunk} {fuel : Nat} {listed : Array Bool} {Ks : List Nat}
theorem tr_have [Dl] {V : Type} (f' : Nat) (L' : Array Bool) (E' : V → Env) (C' : V → List Chunk) (h1 : ∀ v, TR P n l S Ks f' L' F (E' v) (HpM M w0 (C' v)))
    (h2 : (∀ v, TR P n l S Ks f' L' F (E' v) (HpM M w0 (C' v))) → TR P n l S Ks fuel listed F E (HpM M w0 cs)) : TR P n l S Ks fuel listed F E (HpM M w0 cs) := h2 h1
theorem tr_meet [Dl] {L' : Array Bool} {E' : Env} {H' : World → Prop} (k : TR P n l S Ks fuel L' F E' H') (hs : Sub E' E) (hH : ∀ w, H w → H' w) (hl : listed = L' := by kernel_rfl) : TR P n l S Ks fuel listed F E H := by
  subst hl
  exact fun a w h1 h2 => k a w (h1.sub hs) (hH w h2)
theorem ar_op2 [Dl] (i j : Nat) {o o2 : Oper} (hi : l[i]? = some o) (hj : l[j]? = some o2)
    (k : Tri n (wpList P l.toArray (Exit.then (fun a w => (Ks.contains i = false → HpM M w0 cs0 w) ∧ wpAnyR P .any l.toArray (Exit.then F NoQ) (HpM M w0 cs0) Ks fuel (listed.setIfInBounds i true) a w) NoQ) [o]) E (HpM M w0 cs))
    (k2 : Tri n (wpList P l.toArray (Exit.then (fun a w => (Ks.contains j = false → HpM M w0 cs0 w) ∧ wpAnyR P .any l.toArray (Exit.then F NoQ) (HpM M w0 cs0) Ks fuel (listed.setIfInBounds j true) a w) NoQ) [o2]) E (HpM M w0 cs)) (hr : Region.ready .any l.toArray listed = [i, j] := by kernel_rfl) :
    TR P n l (HpM M w0 cs0) Ks (fuel + 1) listed F E (HpM M w0 cs) := fun a w h1 h2 => wpAnyR_all hr (by simp) fun x hx => by
  have : x = i ∨ x = j := by simpa using hx
  rcases this with rfl | rfl
  · exact wpop_ofk hi (k a w h1 h2)
  · exact wpop_ofk hj (k2 a w h1 h2)
theorem ar_op3 [Dl] (i j m : Nat) {o o2 o3 : Oper} (hi : l[i]? = some o) (hj : l[j]? = some o2) (hm : l[m]? = some o3)
    (k : Tri n (wpList P l.toArray (Exit.then (fun a w => (Ks.contains i = false → HpM M w0 cs0 w) ∧ wpAnyR P .any l.toArray (Exit.then F NoQ) (HpM M w0 cs0) Ks fuel (listed.setIfInBounds i true) a w) NoQ) [o]) E (HpM M w0 cs))
    (k2 : Tri n (wpList P l.toArray (Exit.then (fun a w => (Ks.contains j = false → HpM M w0 cs0 w) ∧ wpAnyR P .any l.toArray (Exit.then F NoQ) (HpM M w0 cs0) Ks fuel (listed.setIfInBounds j true) a w) NoQ) [o2]) E (HpM M w0 cs))
    (k3 : Tri n (wpList P l.toArray (Exit.then (fun a w => (Ks.contains m = false → HpM M w0 cs0 w) ∧ wpAnyR P .any l.toArray (Exit.then F NoQ) (HpM M w0 cs0) Ks fuel (listed.setIfInBounds m true) a w) NoQ) [o3]) E (HpM M w0 cs)) (hr : Region.ready .any l.toArray listed = [i, j, m] := by kernel_rfl) :
    TR P n l (HpM M w0 cs0) Ks (fuel + 1) listed F E (HpM M w0 cs) := fun a w h1 h2 => wpAnyR_all hr (by simp) fun x hx => by
  have : x = i ∨ x = j ∨ x = m := by simpa using hx
  rcases this with rfl | rfl | rfl
  · exact wpop_ofk hi (k a w h1 h2)
  · exact wpop_ofk hj (k2 a w h1 h2)
  · exact wpop_ofk hm (k3 a w h1 h2)
end
end Go.Proofs.YtbgjelhefhcnpaaGreat
