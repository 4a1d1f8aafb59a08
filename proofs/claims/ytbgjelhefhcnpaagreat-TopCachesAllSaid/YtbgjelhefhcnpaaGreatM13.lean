/- Texts joined: PtSpec, PtTree, PtWalks. Each part's own remark says what it proves. -/
import Derived.Test.YtbgjelhefhcnpaaGreatM08
import Derived.Test.YtbgjelhefhcnpaaGreatM06
import Derived.Test.YtbgjelhefhcnpaaGreatM12
import Derived.Test.YtbgjelhefhcnpaaGreatM07
/- Page tables in plain Lean: how they read. No conditions. -/
set_option linter.unusedSimpArgs false
set_option linter.unusedVariables false
namespace Go.Proofs.YtbgjelhefhcnpaaGreat
open Go Go.RowKit
/-- A node: its frame and its words. -/
structure ND where
  f : Int
  e : Fin 8 → Int
instance : Enc ND where
  default := ⟨0, fun _ => 0⟩
  sz := 9
  enc := fun x => [.int .i64 x.f, .int .u64 (x.e 0), .int .u64 (x.e 1), .int .u64 (x.e 2), .int .u64 (x.e 3), .int .u64 (x.e 4), .int .u64 (x.e 5), .int .u64 (x.e 6), .int .u64 (x.e 7)]
  dec := fun cs => match cs with | [.int _ f, .int _ a, .int _ b, .int _ c, .int _ d, .int _ e, .int _ g, .int _ h, .int _ i] => ⟨f, fun j => match j with | 0 => a | 1 => b | 2 => c | 3 => d | 4 => e | 5 => g | 6 => h | 7 => i⟩ | _ => ⟨0, fun _ => 0⟩
  len := fun _ => rfl
  one := fun _ u hu => by simp at hu; rcases hu with rfl | rfl | rfl | rfl | rfl | rfl | rfl | rfl | rfl <;> rfl
  pos := by decide
/-- A deposit. -/
structure DP where
  g : Int
  f : Int
  deriving DecidableEq
instance : Enc DP where
  default := ⟨0, 0⟩
  sz := 2
  enc := fun x => [.int .i64 x.g, .int .i64 x.f]
  dec := fun cs => match cs with | [.int _ a, .int _ b] => ⟨a, b⟩ | _ => ⟨0, 0⟩
  len := fun _ => rfl
  one := fun _ u hu => by simp at hu; rcases hu with rfl | rfl <;> rfl
  pos := by decide
/-- A place of a walk. -/
structure SP where
  n : Int
  l : Int
  w : Int
  deriving DecidableEq
instance : Enc SP where
  default := ⟨0, 0, 0⟩
  sz := 3
  enc := fun x => [.int .i64 x.n, .int .i64 x.l, .int .u64 x.w]
  dec := fun cs => match cs with | [.int _ a, .int _ b, .int _ c] => ⟨a, b, c⟩ | _ => ⟨0, 0, 0⟩
  len := fun _ => rfl
  one := fun _ u hu => by simp at hu; rcases hu with rfl | rfl | rfl <;> rfl
  pos := by decide
instance : ElT Tryz.prog 89 ND := ⟨trivial⟩
instance : ElT Tryz.prog 116 DP := ⟨trivial⟩
instance : ElT Tryz.prog 80 SP := ⟨trivial⟩
instance : ArTy Tryz.prog 87 8 58 1 := ⟨Tryz.underlying87, Tryz.sizeOf58⟩
instance : MpTy Tryz.prog 109 Int := ⟨_, _, Tryz.underlying109, Tryz.underlying3, fun w => Zr.run w⟩
abbrev ndS (r : Row) (l : List ND) : Chunk := slC r 89 l
abbrev dpS (r : Row) (l : List DP) : Chunk := slC r 116 l
abbrev spS (r : Row) (l : List SP) : Chunk := slC r 80 l
abbrev ptV (root : Int) (vn vd : Value) : Value := .agg #[.int .i64 root, vn, vd]
abbrev ptC (g : Nat) (root : Int) (vn vd : Value) : Chunk := blkC g 39 [.int .i64 root, vn, vd]
theorem nd_word (x : ND) {j : Nat} (hj : j < 8) : (Enc.enc x)[1 + j]? = some (.int .u64 (x.e ⟨j, hj⟩)) := by
  have h : j = 0 ∨ j = 1 ∨ j = 2 ∨ j = 3 ∨ j = 4 ∨ j = 5 ∨ j = 6 ∨ j = 7 := by omega
  rcases h with rfl | rfl | rfl | rfl | rfl | rfl | rfl | rfl <;> rfl
/-- A word of a node turned. -/
def updF (e : Fin 8 → Int) (d : Fin 8) (w : Int) : Fin 8 → Int := fun j => if j = d then w else e j
theorem nd_set (x : ND) (d : Fin 8) (w : Int) : setL (Enc.enc x) (1 + d.val) [.int .u64 w] = Enc.enc (⟨x.f, updF x.e d w⟩ : ND) := by
  match d with
  | 0 => rfl
  | 1 => rfl
  | 2 => rfl
  | 3 => rfl
  | 4 => rfl
  | 5 => rfl
  | 6 => rfl
  | 7 => rfl
theorem nd_dec (x : ND) : Enc.dec (Enc.enc x) = x := by
  obtain ⟨f, e⟩ := x
  show (⟨f, _⟩ : ND) = _
  congr 1
  funext j
  match j with
  | 0 => rfl
  | 1 => rfl
  | 2 => rfl
  | 3 => rfl
  | 4 => rfl
  | 5 => rfl
  | 6 => rfl
  | 7 => rfl
/-- The position of a page in a table of a level. -/
def digM (p l : Nat) : Nat := p / 8 ^ l % 8
theorem dig_lt (p l : Nat) : digM p l < 8 := Nat.mod_lt _ (by decide)
/-- An entry may stand in a table of a level. -/
def suitM (k : Int) (h : Bool) (l : Int) : Bool := if k = 0 then true else if k = 4 then decide (l > 0) else if k = 1 then (l == 1 && h) || (l == 0 && !h) else l == 0
/-- The places of the nodes by their frames, of the first k. -/
def ixL (l : List ND) : Nat → List (Int × Int)
  | 0 => []
  | k + 1 => aSet (ixL l k) (l.getD k default).f (k : Int)
theorem ix_keys {l : List ND} (hd : l.Pairwise fun a b => a.f < b.f) : ∀ k, k ≤ l.length → (keysL (ixL l k)).Nodup ∧ ∀ f, aGet (ixL l k) f = (if ∃ i, i < k ∧ (l.getD i default).f = f then some ((idxM (fun x : ND => x.f == f) l) : Int) else none)
  | 0, _ => ⟨List.nodup_nil, fun f => by rw [if_neg]; rfl; rintro ⟨i, h, _⟩; omega⟩
  | k + 1, hk => by
    obtain ⟨h1, h2⟩ := ix_keys hd k (by omega)
    have hdd : ∀ i, i < k → (l.getD i default).f ≠ (l.getD k default).f := fun i hi => by
      have := List.pairwise_iff_getElem.1 hd i k (by omega) (by omega) hi
      rw [getD_get (by omega), getD_get (by omega)]
      omega
    refine ⟨nodup_set h1 _ _, fun f => ?_⟩
    show aGet (aSet (ixL l k) (l.getD k default).f (k : Int)) f = _
    rw [get_set, h2]
    by_cases e : f = (l.getD k default).f
    · have hix : idxM (fun x : ND => x.f == f) l = (k : Int) := idxM_some (p := fun x : ND => x.f == f) (by omega) (by rw [e]; simp) fun j hj => by rw [e]; simpa using hdd j hj
      rw [if_pos e, if_pos ⟨k, by omega, e.symm⟩, hix]
    · rw [if_neg e]
      by_cases h : ∃ i, i < k ∧ (l.getD i default).f = f
      · obtain ⟨i, hi, ei⟩ := h
        rw [if_pos ⟨i, hi, ei⟩, if_pos ⟨i, by omega, ei⟩]
      · rw [if_neg h, if_neg]
        rintro ⟨i, hi, ei⟩
        by_cases e2 : i = k
        · rw [e2] at ei; exact e ei.symm
        · exact h ⟨i, by omega, ei⟩
end Go.Proofs.YtbgjelhefhcnpaaGreat

/- Page tables in plain Lean: the tree that a table holds. No conditions. -/
set_option linter.unusedSimpArgs false
set_option linter.unusedVariables false
namespace Go.Proofs.YtbgjelhefhcnpaaGreat
open Go Go.RowKit
/-- What stands below an entry of a middle table: nothing, a huge page with its deposit, or a table of pages. -/
inductive Leg
  | no
  | huge (w f : Int)
  | leaf (f : Int) (e : Fin 8 → Int)
/-- A middle table. -/
structure Mid where
  f : Int
  s : Fin 8 → Leg
/-- A page table's tree, by the root's entries. -/
abbrev Tr := Fin 8 → Option Mid
/-- The word of a table's frame. -/
def tblW (f : Int) : Int := wrd ⟨4, f, false, false, false, false⟩
def rootE (T : Tr) (i : Fin 8) : Int := match T i with | none => 0 | some m => tblW m.f
def subE : Leg → Int
  | .no => 0
  | .huge w _ => w
  | .leaf f _ => tblW f
def midE (m : Mid) (j : Fin 8) : Int := subE (m.s j)
def all8 : List (Fin 8) := [0, 1, 2, 3, 4, 5, 6, 7]
def subN : Leg → List ND
  | .leaf f e => [⟨f, e⟩]
  | _ => []
def midN (m : Mid) : List ND := ⟨m.f, midE m⟩ :: all8.flatMap fun j => subN (m.s j)
def optN : Option Mid → List ND
  | none => []
  | some m => midN m
/-- The nodes of a tree, from the root on. -/
def nodesT (root : Int) (T : Tr) : List ND := ⟨root, rootE T⟩ :: all8.flatMap fun i => optN (T i)
def subD (g : Int) : Leg → List DP
  | .huge _ f => [⟨g, f⟩]
  | _ => []
def optD (i : Fin 8) : Option Mid → List DP
  | none => []
  | some m => all8.flatMap fun j => subD (8 * (i.val : Int) + j.val) (m.s j)
/-- The deposits of a tree, in the order of their groups. -/
def depsT (T : Tr) : List DP := all8.flatMap fun i => optD i (T i)
/-- A word of a page, or none. -/
def pgW (w : Int) : Prop := (decR w).2 = 0 ∧ ((decR w).1.k = 0 ∨ ((decR w).1.k = 1 ∧ (decR w).1.d = false)) ∧ 0 ≤ w ∧ w < 18446744073709551616
def huW (w : Int) : Prop := (decR w).2 = 0 ∧ (decR w).1.k = 1 ∧ (decR w).1.d = true ∧ 0 ≤ w ∧ w < 18446744073709551616
structure LegOk (s : Leg) : Prop where
  h : ∀ w f, s = .huge w f → huW w
  l : ∀ f e, s = .leaf f e → ∀ k, pgW (e k)
/-- A valid tree. -/
structure TrOk (root : Int) (T : Tr) : Prop where
  s : ∀ i m, T i = some m → ∀ j, LegOk (m.s j)
  d : ((nodesT root T).map ND.f ++ (depsT T).map DP.f).Nodup
  r : ∀ f ∈ (nodesT root T).map ND.f ++ (depsT T).map DP.f, 0 ≤ f ∧ f ≤ 4294967295
/-- The table's lists hold the tree. -/
structure PtOk (root : Int) (T : Tr) (ns : List ND) (ds : List DP) : Prop where
  t : TrOk root T
  n : ns.Perm (nodesT root T)
  o : ns.Pairwise fun a b => a.f < b.f
  d : ds = depsT T
theorem mem_all8 (i : Fin 8) : i ∈ all8 := by
  match i with
  | 0 => decide
  | 1 => decide
  | 2 => decide
  | 3 => decide
  | 4 => decide
  | 5 => decide
  | 6 => decide
  | 7 => decide
theorem root_mem (root : Int) (T : Tr) : (⟨root, rootE T⟩ : ND) ∈ nodesT root T := List.mem_cons_self ..
theorem mid_mem {root : Int} {T : Tr} {i : Fin 8} {m : Mid} (h : T i = some m) : (⟨m.f, midE m⟩ : ND) ∈ nodesT root T := by
  refine List.mem_cons_of_mem _ (List.mem_flatMap.2 ⟨i, mem_all8 i, ?_⟩)
  rw [h]
  exact List.mem_cons_self ..
theorem leaf_mem {root : Int} {T : Tr} {i j : Fin 8} {m : Mid} {f : Int} {e : Fin 8 → Int} (h : T i = some m) (hs : m.s j = .leaf f e) : (⟨f, e⟩ : ND) ∈ nodesT root T := by
  refine List.mem_cons_of_mem _ (List.mem_flatMap.2 ⟨i, mem_all8 i, ?_⟩)
  rw [h]
  refine List.mem_cons_of_mem _ (List.mem_flatMap.2 ⟨j, mem_all8 j, ?_⟩)
  rw [hs]
  exact List.mem_singleton.2 rfl
section
variable {root : Int} {T : Tr} {ns : List ND} {ds : List DP} (h : PtOk root T ns ds)
include h
/-- A node stands at the place that its frame has. -/
theorem PtOk.place {x : ND} (hx : x ∈ nodesT root T) : ∃ k, k < ns.length ∧ ns.getD k default = x ∧ idxM (fun y : ND => y.f == x.f) ns = (k : Int) := by
  obtain ⟨k, hk, e⟩ := List.getElem_of_mem (h.n.mem_iff.2 hx)
  refine ⟨k, hk, by rw [getD_get hk, e], ?_⟩
  refine idxM_some (p := fun y : ND => y.f == x.f) hk (by rw [getD_get hk, e]; simp) fun j hj => ?_
  have := List.pairwise_iff_getElem.1 h.o j k (by omega) hk hj
  rw [e] at this
  rw [getD_get (by omega)]
  simp only [beq_eq_false_iff_ne]
  omega
theorem PtOk.get {x : ND} (hx : x ∈ nodesT root T) : ∃ k, k < ns.length ∧ ns.getD k default = x ∧ aGet (ixL ns ns.length) x.f = some (k : Int) := by
  obtain ⟨k, hk, e, hi⟩ := h.place hx
  refine ⟨k, hk, e, ?_⟩
  rw [(ix_keys h.o ns.length (Nat.le_refl _)).2, if_pos ⟨k, hk, by rw [e]⟩, hi]
end
/-- Where the walk for a page ends: the node's frame, the level, the word. -/
def endT (root : Int) (T : Tr) (a b c : Fin 8) : Int × Int × Int := match T a with
  | none => (root, 2, 0)
  | some m => match m.s b with
    | .no => (m.f, 1, 0)
    | .huge w _ => (m.f, 1, w)
    | .leaf f e => (f, 0, e c)
theorem tbl_ok {f : Int} (h : 0 ≤ f ∧ f ≤ 4294967295) : decR (tblW f) = (⟨4, f, false, false, false, false⟩, 0) ∧ 0 ≤ tblW f ∧ tblW f < 18446744073709551616 := by
  have ho : okE ⟨4, f, false, false, false, false⟩ := ⟨by simp, by simp, by unfold rngB; simp; omega, rfl⟩
  have := wrd_rng ho
  exact ⟨decR_wrd ho, this.1, by have := this.2; unfold tblW; omega⟩
end Go.Proofs.YtbgjelhefhcnpaaGreat

/- The walks of a page table's small functions: digit, isFrame, entry, suits, index. No conditions. -/
set_option linter.unusedSimpArgs false
set_option linter.unusedVariables false
namespace Go.Proofs.YtbgjelhefhcnpaaGreat
open Go Go.RowKit
abbrev enC (g : Nat) (k n : Int) (a b c d : Bool) : Chunk := blkC g 62 [.int .i64 k, .int .i64 n, .bool a, .bool b, .bool c, .bool d]
abbrev enE (g : Nat) (e : Ent) : Chunk := enC g e.k e.n e.a e.b e.c e.d
abbrev ndE (g : Nat) (x : ND) : Chunk := blkC g 89 [.int .i64 x.f, .int .u64 (x.e 0), .int .u64 (x.e 1), .int .u64 (x.e 2), .int .u64 (x.e 3), .int .u64 (x.e 4), .int .u64 (x.e 5), .int .u64 (x.e 6), .int .u64 (x.e 7)]
abbrev dpE (g : Nat) (x : DP) : Chunk := blkC g 116 [.int .i64 x.g, .int .i64 x.f]
theorem dig_step (p l : Nat) : p / 8 ^ (l + 1) = p / 8 ^ l / 8 := by rw [Nat.pow_succ, Nat.div_div_eq_div_mul]
attribute [local irreducible] Code.wp wpList bodyPost Exit.then Exit.inBlock Calls wpQuiet Tri TriQ
section
variable (w0 : World) (cs : List Chunk)
theorem digit_c (p l : Nat) (hp : p ≤ 1000000) (hl : l ≤ 1000) : Cal Tryz.prog 52 [.int .i64 (p : Int), .int .i64 (l : Int)] (Hp w0 cs) (fun _ : Unit => .int .i64 (digM p l : Int)) (fun _ => Hp w0 cs) := by
  obtain ⟨q, hq⟩ : ∃ q : Nat → Nat, ∀ i, q i = p / 8 ^ i := ⟨_, fun _ => rfl⟩
  have hq0 : q 0 = p := by rw [hq, Nat.pow_zero, Nat.div_one]
  have hqs : ∀ i, q (i + 1) = q i / 8 := fun i => by rw [hq, hq, dig_step]
  have hqb : ∀ i, q i ≤ 1000000 := fun i => by rw [hq]; exact Nat.le_trans (Nat.div_le_self ..) hp
  have hql : digM p l = q l % 8 := by unfold digM; rw [hq]
  rw [hql, ← hq0]
  refine cal_of_tri Tryz.func52 rfl Tryz.ntmps52 rfl ?_
  (repeat (first | refine tri_seq ?_ | refine tri_then ?_)); refine tri_region ?_; (repeat (first | refine au_pure ?_ | refine au_pass ?_ | refine au_box (fun _ => ?_) | refine au_alloc (fun _ => ?_) | refine au_store ?_ | refine au_make rfl rfl (fun _ => ?_) | refine au_lit rfl rfl rfl (fun _ => ?_) | refine au_append rfl rfl rfl rfl (fun _ => au_norm ?_) | refine au_storeE rfl rfl rfl rfl ?_)); refine tri_nil ?_; (repeat refine tri_then ?_)
  (repeat (first | refine zz ?_ | refine zv fun _ => ?_))
  refine tri_block ?_
  refine tri_loop1 (fun (i : Nat) => i ≤ l) (fun i => [(0, .int .i64 (q i : Int)), (5, .int .i64 (l : Int)), (6, .int .i64 (i : Int))]) (fun _ => Hp w0 cs) (fun i => l - i) 0 (by omega) (by repeat (first | exact trivial | refine ⟨rfl, ?_⟩)) (fun w h => h) ?_
  intro i hi
  have hi1 := hqs i
  have hib := hqb i
  (repeat (first | refine zz ?_ | refine zv fun _ => ?_))
  ((first | refine tri_cond (by rfl) (fun hc => ?_) (fun hc => ?_) | refine tri_gsplit (by rfl) (by rfl) (by (fail_if_success exact (rfl : _ = some (Value.bool true))); (fail_if_success exact (rfl : _ = some (Value.bool false))); rfl) (fun hc => ?_) (fun hc => ?_)) <;> (try simp only [decide_eq_true_eq, decide_eq_false_iff_not, beq_iff_eq, bne_iff_ne, ne_eq, Bool.not_eq_true', Bool.not_eq_false', beq_eq_false_iff_ne, bne_eq_false_iff_eq, Int.not_lt, Int.not_le, gt_iff_lt, ge_iff_le, Bool.and_eq_true, Bool.or_eq_true, Bool.and_eq_false_iff, Bool.or_eq_false_iff, Decidable.not_not, not_true_eq_false, not_false_eq_true, and_true, true_and, or_false, false_or, or_true, true_or, and_false, false_and, eq_self, Bool.true_eq_false, Bool.false_eq_true] at hc) <;> (try (exfalso; omega)))
  case refine_1 =>
    (repeat (first | refine zz ?_ | refine zv fun _ => ?_))
    refine tri_block ?_
    (repeat (first | refine zz ?_ | refine zv fun _ => ?_))
    refine au_pure ?_ (hy := yl_quon rfl rfl rfl (by omega))
    rw [show (q i : Int) / 8 = (q (i + 1) : Int) by omega]
    (repeat (first | refine zz ?_ | refine zv fun _ => ?_))
    exact tri_nx1 (i + 1) (by omega) (by omega) (by repeat (first | exact trivial | refine ⟨rfl, ?_⟩)) (fun w h => h)
  have hie : i = l := by omega
  subst hie
  (repeat (first | refine zz ?_ | refine zv fun _ => ?_))
  refine au_pure ?_ (hy := yl_remn rfl rfl rfl (by omega))
  rw [show (q i : Int) % 8 = ((q i % 8 : Nat) : Int) by omega]
  (repeat (first | refine zz ?_ | refine zv fun _ => ?_))
  refine au_done1 rfl ?_
  exact fun w hw => ⟨(), rfl, hw⟩
theorem isFrame_c (f : Int) (h : 0 ≤ f ∧ f ≤ 4294967295) : Cal Tryz.prog 38 [.int .i64 f] (Hp w0 cs) (fun _ : Unit => .bool true) (fun _ => Hp w0 cs) := by
  refine cal_of_tri Tryz.func38 rfl Tryz.ntmps38 rfl ?_
  (repeat (first | refine tri_seq ?_ | refine tri_then ?_)); refine tri_region ?_; (repeat (first | refine au_pure ?_ | refine au_pass ?_ | refine au_box (fun _ => ?_) | refine au_alloc (fun _ => ?_) | refine au_store ?_ | refine au_make rfl rfl (fun _ => ?_) | refine au_lit rfl rfl rfl (fun _ => ?_) | refine au_append rfl rfl rfl rfl (fun _ => au_norm ?_) | refine au_storeE rfl rfl rfl rfl ?_)); refine tri_nil ?_; (repeat refine tri_then ?_)
  (repeat (first | refine zz ?_ | refine zv fun _ => ?_))
  rw [show decide (f ≥ 0) = true from decide_eq_true h.1]
  (repeat (first | refine zz ?_ | refine zv fun _ => ?_))
  rw [show decide (f ≤ 4294967295) = true from decide_eq_true h.2]
  (repeat (first | refine zz ?_ | refine zv fun _ => ?_))
  refine au_done1 rfl ?_
  exact fun w hw => ⟨(), rfl, hw⟩
theorem entry_c (w : Int) (h0 : 0 ≤ w) (h1 : w < 18446744073709551616) : Cal Tryz.prog 31 [.int .u64 w] (Hp w0 cs) (fun _ : Unit => entE (decR w).1) (fun _ => Hp w0 cs) := by
  obtain ⟨⟨k, n, a, b, c, d⟩, u, hp⟩ : ∃ e u, decR w = (e, u) := ⟨_, _, rfl⟩
  rw [hp]
  refine cal_of_tri Tryz.func31 rfl Tryz.ntmps31 rfl ?_
  (repeat (first | refine tri_seq ?_ | refine tri_then ?_)); refine tri_region ?_; (repeat (first | refine au_pure ?_ | refine au_pass ?_ | refine au_box (fun _ => ?_) | refine au_alloc (fun _ => ?_) | refine au_store ?_ | refine au_make rfl rfl (fun _ => ?_) | refine au_lit rfl rfl rfl (fun _ => ?_) | refine au_append rfl rfl rfl rfl (fun _ => au_norm ?_) | refine au_storeE rfl rfl rfl rfl ?_)); refine tri_nil ?_; (repeat refine tri_then ?_)
  (repeat (first | refine zz ?_ | refine zv fun _ => ?_))
  refine au_call rfl rfl (cl_of rfl rfl rfl (fun _ h => Ret.hp (decode_at _ h0 h1 hp) h)) ?_
  (repeat (first | refine zz ?_ | refine zv fun _ => ?_))
  refine au_done1 rfl ?_
  exact fun w hw => ⟨(), rfl, hw.sub (by repeat (first | exact List.Sublist.refl _ | assumption | apply List.Sublist.cons_cons | apply List.Sublist.cons))⟩
theorem suits_c (e : Ent) (l : Int) : Cal Tryz.prog 58 [entE e, .int .i64 l] (Hp w0 cs) (fun _ : Unit => .bool (suitM e.k e.d l)) (fun _ => Hp w0 cs) := by
  obtain ⟨k, n, a, b, c, d⟩ := e
  have hs : suitM k d l = if k = 0 then true else if k = 4 then decide (l > 0) else if k = 1 then (l == 1 && d) || (l == 0 && !d) else l == 0 := rfl
  show Cal _ _ [entV k n a b c d, .int .i64 l] _ (fun _ : Unit => .bool (suitM k d l)) _
  refine cal_of_tri Tryz.func58 rfl Tryz.ntmps58 rfl ?_
  (repeat (first | refine tri_seq ?_ | refine tri_then ?_)); refine tri_region ?_; (repeat (first | refine au_pure ?_ | refine au_pass ?_ | refine au_box (fun _ => ?_) | refine au_alloc (fun _ => ?_) | refine au_store ?_ | refine au_make rfl rfl (fun _ => ?_) | refine au_lit rfl rfl rfl (fun _ => ?_) | refine au_append rfl rfl rfl rfl (fun _ => au_norm ?_) | refine au_storeE rfl rfl rfl rfl ?_)); refine tri_nil ?_; (repeat refine tri_then ?_)
  (repeat (first | refine zz ?_ | refine zv fun _ => ?_))
  refine tri_block ?_
  (repeat (first | refine zz ?_ | refine zv fun _ => ?_))
  cases h1 : (k == 0)
  case true =>
    have h1 := beq_iff_eq.1 h1
    rw [if_pos h1] at hs
    (repeat (first | refine zz ?_ | refine zv fun _ => ?_))
    refine au_done1 rfl ?_
    exact fun w hw => ⟨(), by rw [hs], hw.sub (by repeat (first | exact List.Sublist.refl _ | assumption | apply List.Sublist.cons_cons | apply List.Sublist.cons))⟩
  have h1 : ¬ k = 0 := by simpa using h1
  rw [if_neg h1] at hs
  (repeat (first | refine zz ?_ | refine zv fun _ => ?_))
  cases h2 : (k == 4)
  case true =>
    have h2 := beq_iff_eq.1 h2
    rw [if_pos h2] at hs
    (repeat (first | refine zz ?_ | refine zv fun _ => ?_))
    refine au_done1 rfl ?_
    exact fun w hw => ⟨(), by rw [hs], hw.sub (by repeat (first | exact List.Sublist.refl _ | assumption | apply List.Sublist.cons_cons | apply List.Sublist.cons))⟩
  have h2 : ¬ k = 4 := by simpa using h2
  rw [if_neg h2] at hs
  (repeat (first | refine zz ?_ | refine zv fun _ => ?_))
  cases h3 : (k == 1)
  case true =>
    have h3 := beq_iff_eq.1 h3
    rw [if_pos h3] at hs
    (repeat (first | refine zz ?_ | refine zv fun _ => ?_))
    cases h4 : (l == 1)
    case true =>
      have h5 : (l == 0) = false := by rw [beq_iff_eq.1 h4]; rfl
      rw [h4, h5] at hs
      cases d with
      | true =>
        (repeat (first | refine zz ?_ | refine zv fun _ => ?_))
        refine au_done1 rfl ?_
        exact fun w hw => ⟨(), by rw [hs]; rfl, hw.sub (by repeat (first | exact List.Sublist.refl _ | assumption | apply List.Sublist.cons_cons | apply List.Sublist.cons))⟩
      | false =>
        (repeat (first | refine zz ?_ | refine zv fun _ => ?_))
        rw [h5]
        (repeat (first | refine zz ?_ | refine zv fun _ => ?_))
        refine au_done1 rfl ?_
        exact fun w hw => ⟨(), by rw [hs]; rfl, hw.sub (by repeat (first | exact List.Sublist.refl _ | assumption | apply List.Sublist.cons_cons | apply List.Sublist.cons))⟩
    rw [h4] at hs
    (repeat (first | refine zz ?_ | refine zv fun _ => ?_))
    cases h5 : (l == 0)
    case true =>
      rw [h5] at hs
      (repeat (first | refine zz ?_ | refine zv fun _ => ?_))
      refine au_done1 rfl ?_
      exact fun w hw => ⟨(), by rw [hs]; rfl, hw.sub (by repeat (first | exact List.Sublist.refl _ | assumption | apply List.Sublist.cons_cons | apply List.Sublist.cons))⟩
    rw [h5] at hs
    (repeat (first | refine zz ?_ | refine zv fun _ => ?_))
    refine au_done1 rfl ?_
    exact fun w hw => ⟨(), by rw [hs]; rfl, hw.sub (by repeat (first | exact List.Sublist.refl _ | assumption | apply List.Sublist.cons_cons | apply List.Sublist.cons))⟩
  have h3 : ¬ k = 1 := by simpa using h3
  rw [if_neg h3] at hs
  (repeat (first | refine zz ?_ | refine zv fun _ => ?_))
  refine au_done1 rfl ?_
  exact fun w hw => ⟨(), by rw [hs], hw.sub (by repeat (first | exact List.Sublist.refl _ | assumption | apply List.Sublist.cons_cons | apply List.Sublist.cons))⟩
theorem index_c {root : Int} {vn vd : Value} {l : List ND} (hN : RdH (Hp w0 cs) vn l) (hl : l.length ≤ 1000000) : Cal Tryz.prog 56 [ptV root vn vd] (Hp w0 cs) (fun b : Nat => .map (some b)) (fun b => Hp w0 (mapC b (ixL l l.length) :: cs)) := by
  refine cal_of_tri Tryz.func56 rfl Tryz.ntmps56 rfl ?_
  (repeat (first | refine tri_seq ?_ | refine tri_then ?_)); refine tri_region ?_; (repeat (first | refine au_pure ?_ | refine au_pass ?_ | refine au_box (fun _ => ?_) | refine au_alloc (fun _ => ?_) | refine au_store ?_ | refine au_make rfl rfl (fun _ => ?_) | refine au_lit rfl rfl rfl (fun _ => ?_) | refine au_append rfl rfl rfl rfl (fun _ => au_norm ?_) | refine au_storeE rfl rfl rfl rfl ?_)); refine tri_nil ?_; (repeat refine tri_then ?_)
  rename_i g1
  refine tri_weak (H' := Hp w0 (ptC g1 root vn vd :: cs)) (fun w h => h) ?_
  have hN1 := hN.cons (c := ptC g1 root vn vd)
  (repeat (first | refine zz ?_ | refine zv fun _ => ?_))
  refine au_pure ?_ (hy := yl_len rfl rfl hN1)
  refine tri_makeMapN Int rfl rfl rfl rfl rfl (fun bm => ?_)
  refine tri_weak (H' := Hp w0 (mapC bm (ixL l 0) :: ptC g1 root vn vd :: cs)) (fun w h => h) ?_
  (repeat (first | refine zz ?_ | refine zv fun _ => ?_))
  refine au_pure ?_ (hy := yl_len rfl rfl hN1.cons)
  (repeat (first | refine zz ?_ | refine zv fun _ => ?_))
  refine tri_block ?_
  refine tri_loop1 (fun (i : Nat) => i ≤ l.length) (fun i => [(3, .map (some bm)), (11, vn), (12, .int .i64 (l.length : Int)), (13, .int .i64 (i : Int))]) (fun i => Hp w0 (mapC bm (ixL l i) :: ptC g1 root vn vd :: cs)) (fun i => l.length - i) 0 (by omega) (by repeat (first | exact trivial | refine ⟨rfl, ?_⟩)) (fun w h => h) ?_
  intro i hi
  have hN2 := hN1.cons (c := mapC bm (ixL l i))
  (repeat (first | refine zz ?_ | refine zv fun _ => ?_))
  ((first | refine tri_cond (by rfl) (fun hc => ?_) (fun hc => ?_) | refine tri_gsplit (by rfl) (by rfl) (by (fail_if_success exact (rfl : _ = some (Value.bool true))); (fail_if_success exact (rfl : _ = some (Value.bool false))); rfl) (fun hc => ?_) (fun hc => ?_)) <;> (try simp only [decide_eq_true_eq, decide_eq_false_iff_not, beq_iff_eq, bne_iff_ne, ne_eq, Bool.not_eq_true', Bool.not_eq_false', beq_eq_false_iff_ne, bne_eq_false_iff_eq, Int.not_lt, Int.not_le, gt_iff_lt, ge_iff_le, Bool.and_eq_true, Bool.or_eq_true, Bool.and_eq_false_iff, Bool.or_eq_false_iff, Decidable.not_not, not_true_eq_false, not_false_eq_true, and_true, true_and, or_false, false_or, or_true, true_or, and_false, false_and, eq_self, Bool.true_eq_false, Bool.false_eq_true] at hc) <;> (try (exfalso; omega)))
  case refine_1 =>
    (repeat (first | refine zz ?_ | refine zv fun _ => ?_))
    refine tri_block ?_
    (repeat (first | refine zz ?_ | refine zv fun _ => ?_))
    refine au_pure ?_ (hy := yl_idx (k := i) rfl rfl hN2 (ix_nat rfl) (by rfl) (by omega))
    refine au_pure ?_ (hy := yl_loadEN rfl rfl hN2 (by rfl) (by omega) (by repeat (first | exact nf0 rfl | apply nfS rfl | exact nfR)) (by rfl))
    (repeat (first | refine au_pure ?_ | refine au_pass ?_ | refine au_box (fun _ => ?_) | refine au_alloc (fun _ => ?_) | refine au_store ?_ | refine au_make rfl rfl (fun _ => ?_) | refine au_lit rfl rfl rfl (fun _ => ?_) | refine au_append rfl rfl rfl rfl (fun _ => au_norm ?_) | refine au_storeE rfl rfl rfl rfl ?_)); refine tri_nil ?_; (repeat refine tri_then ?_)
    rename_i g5
    refine tri_weak (H' := Hp w0 (ndE g5 (l.getD i default) :: mapC bm (ixL l i) :: ptC g1 root vn vd :: cs)) (fun w h => h) ?_
    (repeat (first | refine zz ?_ | refine zv fun _ => ?_))
    refine tri_update (β := Int) (v := (i : Int)) rfl (by first | exact wan_plain rfl | exact wan_yes rfl rfl rfl) rfl rfl rfl rfl (by repeat (first | exact at0 | apply atS)) (by repeat (first | exact nf0 rfl | apply nfS rfl | exact nfR)) ?_
    (repeat (first | refine zz ?_ | refine zv fun _ => ?_))
    exact tri_nx1 (i + 1) (by omega) (by omega) (by repeat (first | exact trivial | refine ⟨rfl, ?_⟩)) (fun w h => h.sub (List.Sublist.cons _ (List.Sublist.refl _)))
  have hie : i = l.length := by omega
  subst hie
  (repeat (first | refine zz ?_ | refine zv fun _ => ?_))
  refine au_done1 rfl ?_
  exact fun w hw => ⟨bm, rfl, hw.sub (List.Sublist.cons_cons _ (List.Sublist.cons _ (List.Sublist.refl _)))⟩
end
end Go.Proofs.YtbgjelhefhcnpaaGreat
