/- Texts joined: ShSpec, TlbPte. Each part's own remark says what it proves. -/
import Derived.Test.YtojfaelafakemaaGreatM07
import Derived.Test.YtojfaelafakemaaGreatM06
import Derived.Test.YtojfaelafakemaaGreatM04
/- The shootdown machine in plain Lean: how it reads, and what its functions compute. No conditions. -/
set_option linter.unusedSimpArgs false
set_option linter.unusedVariables false
namespace Go.Proofs.YtojfaelafakemaaGreat
open Go Go.RowKit
structure W64 where
  v : Int
  deriving DecidableEq
instance : Enc W64 where
  default := ⟨0⟩
  sz := 1
  enc := fun s => [.int .u64 s.v]
  dec := fun cs => match cs with | [.int _ i] => ⟨i⟩ | _ => ⟨0⟩
  len := fun _ => rfl
  one := fun _ u hu => by simp at hu; subst hu; rfl
  pos := by decide
/-- An invalidation. -/
structure IV where
  s : Int
  p : Int
  o : Bool
  deriving DecidableEq
instance : Enc IV where
  default := ⟨0, 0, false⟩
  sz := 3
  enc := fun x => [.int .i64 x.s, .int .i64 x.p, .bool x.o]
  dec := fun cs => match cs with | [.int _ a, .int _ b, .bool c] => ⟨a, b, c⟩ | _ => ⟨0, 0, false⟩
  len := fun _ => rfl
  one := fun _ u hu => by simp at hu; rcases hu with rfl | rfl | rfl <;> rfl
  pos := by decide
/-- A frame in limbo. -/
structure LB where
  f : Int
  a : Int
  deriving DecidableEq
instance : Enc LB where
  default := ⟨0, 0⟩
  sz := 2
  enc := fun x => [.int .i64 x.f, .int .i64 x.a]
  dec := fun cs => match cs with | [.int _ a, .int _ b] => ⟨a, b⟩ | _ => ⟨0, 0⟩
  len := fun _ => rfl
  one := fun _ u hu => by simp at hu; rcases hu with rfl | rfl <;> rfl
  pos := by decide
/-- A cache, as an element. -/
structure TB where
  z : Int
  s : SV
instance : Enc TB where
  default := ⟨0, ⟨none, 0, 0⟩⟩
  sz := 2
  enc := fun x => [.int .i64 x.z, x.s.v]
  dec := fun cs => match cs with | [.int _ z, .slice A l c] => ⟨z, ⟨A, l, c⟩⟩ | _ => ⟨0, ⟨none, 0, 0⟩⟩
  len := fun _ => rfl
  one := fun _ u hu => by simp at hu; rcases hu with rfl | rfl <;> rfl
  pos := by decide
instance : ElT Tryz.prog 51 W64 := ⟨trivial⟩
instance : ElT Tryz.prog 63 IV := ⟨trivial⟩
instance : ElT Tryz.prog 47 LB := ⟨trivial⟩
instance : ElT Tryz.prog 57 TB := ⟨trivial⟩
instance : ElT Tryz.prog 61 SV := ⟨trivial⟩
instance : ElT Tryz.prog 3 Int := ⟨trivial⟩
instance : ElT Tryz.prog 4 Bool := ⟨trivial⟩
/-- A cache. -/
structure TL where
  z : Int
  l : List TE
  deriving DecidableEq
instance : Inhabited TL := ⟨⟨0, []⟩⟩
/-- A machine. -/
structure SM where
  tb : List W64
  tl : List TL
  pd : List (List IV)
  lm : List LB
  wd : List Int
  deriving DecidableEq
def SM.zero : SM := ⟨[], [], [], [], []⟩
abbrev shV (vT vB vP vL vW : Value) : Value := .agg #[vT, vB, vP, vL, vW]
abbrev shC (g : Nat) (vT vB vP vL vW : Value) : Chunk := blkC g 31 [vT, vB, vP, vL, vW]
abbrev u64S (r : Row) (l : List W64) : Chunk := slC r 51 l
abbrev ivS (r : Row) (l : List IV) : Chunk := slC r 63 l
abbrev lbS (r : Row) (l : List LB) : Chunk := slC r 47 l
abbrev tlS (r : Row) (l : List TB) : Chunk := slC r 57 l
abbrev pdS (r : Row) (l : List SV) : Chunk := slC r 61 l
abbrev inS (r : Row) (l : List Int) : Chunk := slC r 3 l
abbrev boS (r : Row) (l : List Bool) : Chunk := slC r 4 l
abbrev eS (r : Row) (l : List TE) : Chunk := slC r 72 l
/-- The header values of a machine. -/
structure SH where
  t : SV
  b : SV
  p : SV
  l : SV
  w : SV
abbrev hdV (h : SH) : Value := shV h.t.v h.b.v h.p.v h.l.v h.w.v
abbrev hdC (g : Nat) (h : SH) : Chunk := shC g h.t.v h.b.v h.p.v h.l.v h.w.v
structure RdS (H : World → Prop) (h : SH) (xb : List TB) (xp : List SV) (m : SM) : Prop where
  tb : RdH H h.t.v m.tb
  tl : RdH H h.b.v xb
  tll : xb.length = m.tl.length
  tz : ∀ i, (xb.getD i default).z = (m.tl.getD i default).z
  te : ∀ i, RdH H (xb.getD i default).s.v (m.tl.getD i default).l
  pd : RdH H h.p.v xp
  pdl : xp.length = m.pd.length
  pe : ∀ i, RdH H (xp.getD i default).v (m.pd.getD i default)
  lm : RdH H h.l.v m.lm
  wd : RdH H h.w.v m.wd
section
variable {M : List Nat} {w0 : World} {cs ds : List Chunk} {H H' : World → Prop} {h : SH} {xb : List TB} {xp : List SV} {m : SM}
theorem RdS.imp (a : RdS H h xb xp m) (hs : ∀ w, H' w → H w) : RdS H' h xb xp m :=
  ⟨fun w hw => a.tb w (hs w hw), fun w hw => a.tl w (hs w hw), a.tll, a.tz, fun i w hw => a.te i w (hs w hw), fun w hw => a.pd w (hs w hw), a.pdl, fun i w hw => a.pe i w (hs w hw), fun w hw => a.lm w (hs w hw), fun w hw => a.wd w (hs w hw)⟩
theorem RdS.sub (a : RdS (HpM M w0 cs) h xb xp m) (hs : cs.Sublist ds) : RdS (HpM M w0 ds) h xb xp m := a.imp fun w hw => hw.sub hs
theorem RdS.cons {c : Chunk} (a : RdS (HpM M w0 cs) h xb xp m) : RdS (HpM M w0 (c :: cs)) h xb xp m := a.imp fun w hw => hw.tail
theorem RdS.app (a : RdS (HpM M w0 cs) h xb xp m) : RdS (HpM M w0 (ds ++ cs)) h xb xp m := a.sub (List.sublist_append_right ..)
theorem RdS.more (a : RdS (HpM M w0 cs) h xb xp m) : RdS (HpM M w0 (cs ++ ds)) h xb xp m := a.sub (List.sublist_append_left ..)
end
/-- The lists are no longer than slices can be; words are words. -/
structure SLe (m : SM) : Prop where
  tb : m.tb.length ≤ 9223372036854775807
  tl : m.tl.length ≤ 9223372036854775807
  te : ∀ i, (m.tl.getD i default).l.length ≤ 9223372036854775807
  pd : m.pd.length ≤ 9223372036854775807
  pe : ∀ i, (m.pd.getD i default).length ≤ 9223372036854775807
  lm : m.lm.length ≤ 9223372036854775807
  wd : m.wd.length ≤ 9223372036854775807
  tw : ∀ i, 0 ≤ (m.tb.getD i default).v ∧ (m.tb.getD i default).v < 18446744073709551616
  ew : ∀ i, ∀ t ∈ (m.tl.getD i default).l, Wf t
/- What the machine does. -/
/-- The entry of a mapped page. -/
def pgOk (n : Nat) (w : Int) : Bool := decide ((decR w).2 = 0 ∧ (decR w).1.k = 1 ∧ (decR w).1.d = false ∧ (decR w).1.n < n)
/-- An entry that the table may have. -/
def enOk (n : Nat) (w : Int) : Bool := decide ((decR w).2 = 0 ∧ (decR w).1.k = 0) || pgOk n w
def frW (n : Nat) (w : Int) : Int := if pgOk n w = true then (decR w).1.n else -1
def tbW (m : SM) (p : Nat) : Int := (m.tb.getD p default).v
def frM (m : SM) (p : Nat) : Int := frW m.wd.length (tbW m p)
def teOk (n q : Nat) (t : TE) : Bool := pgOk n t.w && (t.s == 0 && decide (t.p < q))
def ivOk (q : Nat) (v : IV) : Bool := decide (v.s = 0 ∧ 0 ≤ v.p ∧ v.p < q ∧ v.o = false)
def tlOk (m : SM) (b : TL) : Bool := checkM b.z b.l == 0 && b.l.all (teOk m.wd.length m.tb.length)
def formM (m : SM) : Bool := m.tb.all (fun w => enOk m.wd.length w.v) && (m.tl.all (tlOk m) && m.pd.all fun l => l.all (ivOk m.tb.length))
def bitA (a : Int) (c : Nat) : Bool := a / 2 ^ c % 2 == 1
/-- The frame f is mapped by a page below k. -/
def usedT (m : SM) (k : Nat) (f : Int) : Bool := (List.range k).any fun p => frM m p == f
/-- The frame f is in limbo, ahead of place k. -/
def usedL (m : SM) (k : Nat) (f : Int) : Bool := (m.lm.take k).any fun x => x.f == f
def dupT (m : SM) (p : Nat) : Bool := decide (0 ≤ frM m p) && usedT m p (frM m p)
def lbOk (m : SM) (i : Nat) (x : LB) : Bool :=
  decide (0 ≤ x.f ∧ x.f < m.wd.length) && (!(usedT m m.tb.length x.f || usedL m i x.f) && (decide (1 ≤ x.a ∧ x.a < 2 ^ m.tl.length) && (List.range m.tl.length).all fun c => !(bitA x.a c && (m.pd.getD c default).isEmpty)))
def limM (m : SM) : Bool := (List.range m.tb.length).all (fun p => !dupT m p) && (List.range m.lm.length).all fun i => lbOk m i (m.lm.getD i default)
def owesM (m : SM) (c : Nat) (p : Int) : Bool := (m.pd.getD c default).any fun v => v.p == p
def sameM (m : SM) (t : TE) : Bool := pgOk m.wd.length (tbW m t.p.toNat) && (decR (tbW m t.p.toNat)).1.n == (decR t.w).1.n
def waitM (m : SM) (c : Nat) (t : TE) : Bool := m.lm.any fun x => x.f == (decR t.w).1.n && bitA x.a c
def freshM (m : SM) (t : TE) : Bool := sameM m t && (((decR (tbW m t.p.toNat)).1.a || !(decR t.w).1.a) && ((decR (tbW m t.p.toNat)).1.c || !(decR t.w).1.c))
def coverM (m : SM) (c : Nat) (t : TE) : Bool := freshM m t || (owesM m c t.p && (sameM m t || waitM m c t))
def coversM (m : SM) : Bool := (List.range m.tl.length).all fun c => (m.tl.getD c default).l.all (coverM m c)
def rangeM (m : SM) : Bool := decide (1 ≤ m.tl.length ∧ m.tl.length ≤ 4 ∧ m.pd.length = m.tl.length ∧ 1 ≤ m.wd.length ∧ m.wd.length ≤ 256 ∧ 1 ≤ m.tb.length ∧ m.tb.length ≤ 512)
def schk (m : SM) : Int := if rangeM m = false then 2 else if formM m = false then 3 else if limM m = false then 11 else if coversM m = false then 11 else 0
def isP (m : SM) (p : Int) : Bool := decide (0 ≤ p ∧ p < m.tb.length)
def freeB (m : SM) (f : Int) : Bool := !(usedT m m.tb.length f || usedL m m.lm.length f)
def wordM (e : Ent) : Int := (encS e.k e.n e.a e.b e.c e.d).1
def mapM (m : SM) (p f : Int) (w : Bool) : SM × Int :=
  if schk m ≠ 0 then (.zero, schk m) else if ¬ (isP m p = true ∧ 0 ≤ f ∧ f < m.wd.length) then (.zero, 2) else if pgOk m.wd.length (tbW m p.toNat) = true then (.zero, 7) else if freeB m f = false then (.zero, 21)
  else ({ m with tb := m.tb.set p.toNat ⟨wordM ⟨1, f, w, false, false, false⟩⟩, wd := m.wd.set f.toNat 0 }, 0)
def covsM (m : SM) (c : Nat) (p : Int) : Bool := (lookM (m.tl.getD c default).z (m.tl.getD c default).l 0 p).2
def ntfM (m : SM) (p : Int) : Nat → List (List IV) × Int
  | 0 => (m.pd, 0)
  | k + 1 => if covsM m k p = true then ((ntfM m p k).1.set k ((m.pd.getD k default) ++ [⟨0, p, false⟩]), (ntfM m p k).2 + 2 ^ k) else ntfM m p k
def tgtE (m : SM) (p : Int) : Int := if schk m ≠ 0 then schk m else if isP m p = false then 2 else if pgOk m.wd.length (tbW m p.toNat) = false then 6 else 0
def tgtX (m : SM) (p : Int) : Ent := (decR (tbW m p.toNat)).1
def unmapM (m : SM) (p : Int) : SM × Int :=
  if tgtE m p ≠ 0 then (.zero, tgtE m p) else
    ({ m with tb := m.tb.set p.toNat ⟨0⟩, pd := (ntfM m p m.tl.length).1, lm := if (ntfM m p m.tl.length).2 = 0 then m.lm else m.lm ++ [⟨(tgtX m p).n, (ntfM m p m.tl.length).2⟩] }, 0)
def protM (m : SM) (p : Int) : SM × Int :=
  if tgtE m p ≠ 0 then (.zero, tgtE m p) else if (tgtX m p).a = true then
    ({ m with tb := m.tb.set p.toNat ⟨wordM ⟨(tgtX m p).k, (tgtX m p).n, false, (tgtX m p).b, (tgtX m p).c, (tgtX m p).d⟩⟩, pd := (ntfM m p m.tl.length).1 }, 0) else (m, 0)
def useM (m : SM) (f : Int) (w : Bool) (v : Int) : SM := if w = true then { m with wd := m.wd.set f.toNat v } else m
def setTl (m : SM) (c : Nat) (l : List TE) : SM := { m with tl := m.tl.set c ⟨(m.tl.getD c default).z, l⟩ }
/-- An access that its cache serves. -/
def hitA (m : SM) (c p : Int) (w : Bool) : Bool := (lookM (m.tl.getD c.toNat default).z (m.tl.getD c.toNat default).l 0 p).2 &&
  (!w || ((decR (lookM (m.tl.getD c.toNat default).z (m.tl.getD c.toNat default).l 0 p).1).1.a && (decR (lookM (m.tl.getD c.toNat default).z (m.tl.getD c.toNat default).l 0 p).1).1.c))
def accG (m : SM) (c p : Int) (w : Bool) (v : Int) : SM × Int × Int :=
  if hitA m c p w = true then (useM m (decR (lookM (m.tl.getD c.toNat default).z (m.tl.getD c.toNat default).l 0 p).1).1.n w v, m.wd.getD (decR (lookM (m.tl.getD c.toNat default).z (m.tl.getD c.toNat default).l 0 p).1).1.n.toNat default, 0)
  else if pgOk m.wd.length (tbW m p.toNat) = false then (setTl m c.toNat (invL (m.tl.getD c.toNat default).l 0 p), 0, 13)
  else if w = true ∧ (tgtX m p).a = false then (setTl m c.toNat (invL (m.tl.getD c.toNat default).l 0 p), 0, 12)
  else (useM { (setTl m c.toNat (mkL (m.tl.getD c.toNat default).z (invL (m.tl.getD c.toNat default).l 0 p) (mkX 0 p (markR (tbW m p.toNat) w).1))) with tb := m.tb.set p.toNat ⟨(markR (tbW m p.toNat) w).1⟩ } (tgtX m p).n w v, m.wd.getD (tgtX m p).n.toNat default, 0)
def accM (m : SM) (c p : Int) (w : Bool) (v : Int) : SM × Int × Int := if schk m ≠ 0 then (.zero, 0, schk m) else if ¬ (0 ≤ c ∧ c < m.tl.length ∧ isP m p = true) then (.zero, 0, 2) else accG m c p w v
def invsL (l : List TE) (ps : List IV) : List TE := ps.foldl (fun l v => invL l 0 v.p) l
def clrA (c : Nat) (x : LB) : LB := ⟨x.f, if bitA x.a c = true then x.a - 2 ^ c else x.a⟩
def ackG (m : SM) (c : Nat) : SM := { (setTl m c (invsL (m.tl.getD c default).l (m.pd.getD c default))) with pd := m.pd.set c [], lm := (m.lm.map (clrA c)).filter fun x => !(x.a == 0) }
def ackM (m : SM) (c : Int) : SM × Int := if schk m ≠ 0 then (.zero, schk m) else if ¬ (0 ≤ c ∧ c < m.tl.length) then (.zero, 2) else (ackG m c.toNat, 0)
def quietM (m : SM) : Bool := decide (schk m = 0) && m.pd.all fun l => l.isEmpty
def freeM (m : SM) : List Int := if schk m ≠ 0 then [] else ((List.range m.wd.length).map fun (i : Nat) => (i : Int)).filter (freeB m)
def snewM (c z f p : Int) : SM × Int :=
  if c < 1 ∨ 4 < c ∨ z < 1 ∨ 16 < z ∨ f < 1 ∨ 256 < f ∨ p < 1 ∨ 512 < p then (.zero, 2) else (⟨List.replicate p.toNat ⟨0⟩, List.replicate c.toNat ⟨z, []⟩, List.replicate c.toNat [], [], List.replicate f.toNat 0⟩, 0)
/-- An operation of a script. -/
structure SO where
  k : Int
  c : Int
  p : Int
  f : Int
  w : Bool
  v : Int
  deriving DecidableEq
def sdoM (m : SM) (o : SO) : SM × Int × Int :=
  if o.k = 0 then ((mapM m o.p o.f o.w).1, 0, (mapM m o.p o.f o.w).2) else if o.k = 1 then ((unmapM m o.p).1, 0, (unmapM m o.p).2) else if o.k = 2 then ((protM m o.p).1, 0, (protM m o.p).2)
  else if o.k = 3 ∨ o.k = 4 then accM m o.c o.p (o.k == 4) o.v else ((ackM m o.c).1, 0, (ackM m o.c).2)
end Go.Proofs.YtojfaelafakemaaGreat

/- Walks of Encode and Decode of package pte and of its reference. No conditions. -/
set_option linter.unusedSimpArgs false
set_option linter.unusedVariables false
namespace Go.Proofs.YtojfaelafakemaaGreat
open Go Go.RowKit
attribute [local irreducible] Code.wp wpList bodyPost Exit.then Exit.inBlock Calls wpQuiet Tri TriQ

abbrev entV (k n : Int) (a b c d : Bool) : Value := .agg #[.int .i64 k, .int .i64 n, .bool a, .bool b, .bool c, .bool d]

theorem ret_bool {a b : Bool} (h : a = b) : Ending.returned (.bool a) = .returned (.bool b) := by rw [h]
set_option maxHeartbeats 400000 in
theorem flag_any (b : Bool) (v : Int) (w : World) : Calls Tryz.prog 100 [.bool b, .int .u64 v].toArray w (Ret (.int .u64 (bitS b v)) w) := by
  refine calls_of_tri Tryz.func100 rfl Tryz.ntmps100 rfl ?_
  cases b
  all_goals
    (repeat (first | refine au_pure ?_ | refine au_pass ?_ | refine au_box (fun _ => ?_) | refine au_alloc (fun _ => ?_) | refine au_store ?_ | refine au_make rfl rfl (fun _ => ?_) | refine au_lit rfl rfl rfl (fun _ => ?_) | refine au_append rfl rfl rfl rfl (fun _ => au_norm ?_) | refine au_storeE rfl rfl rfl rfl ?_ | refine tri_seq ?_ | refine tri_then ?_ | refine tri_region ?_ | refine tri_nil ?_ | refine tri_skip ?_ | refine tri_ret ?_ | refine tri_exit ?_ | refine tri_thenr ?_ | refine tri_thene ?_ | refine tri_blkn ?_ | refine tri_blkr ?_ | refine tri_blke ?_ | refine tri_blko (by rfl) ?_ | refine tri_if_t (by rfl) ?_ | refine tri_if_f (by rfl) ?_ | fail))
    refine au_done1 rfl ?_
    exact fun w h => ⟨rfl, h.below⟩

set_option maxHeartbeats 400000 in
theorem formed_any (k n : Int) (a b c d : Bool) (w : World) : Calls Tryz.prog 99 [entV k n a b c d].toArray w (Ret (.bool (formS k n a b c d)) w) := by
  refine calls_of_tri Tryz.func99 rfl Tryz.ntmps99 rfl ?_
  (repeat' (first | refine au_pure ?_ | refine au_pass ?_ | refine au_box (fun _ => ?_) | refine au_alloc (fun _ => ?_) | refine au_store ?_ | refine au_make rfl rfl (fun _ => ?_) | refine au_lit rfl rfl rfl (fun _ => ?_) | refine au_append rfl rfl rfl rfl (fun _ => au_norm ?_) | refine au_storeE rfl rfl rfl rfl ?_ | refine tri_seq ?_ | refine tri_then ?_ | refine tri_region ?_ | refine tri_nil ?_ | refine tri_skip ?_ | refine tri_ret ?_ | refine tri_exit ?_ | refine tri_thenr ?_ | refine tri_thene ?_ | refine tri_blkn ?_ | refine tri_blkr ?_ | refine tri_blke ?_ | refine tri_blko (by rfl) ?_ | refine tri_block ?_ | refine tri_if_t (by rfl) ?_ | refine tri_if_f (by rfl) ?_ | ((first | refine tri_cond (by rfl) (fun hc => ?_) (fun hc => ?_) | refine tri_gsplit (by rfl) (by rfl) (by (fail_if_success exact (rfl : _ = some (Value.bool true))); (fail_if_success exact (rfl : _ = some (Value.bool false))); rfl) (fun hc => ?_) (fun hc => ?_)) <;> (try simp only [decide_eq_true_eq, decide_eq_false_iff_not, beq_iff_eq, bne_iff_ne, ne_eq, Bool.not_eq_true', Bool.not_eq_false', beq_eq_false_iff_ne, bne_eq_false_iff_eq, Int.not_lt, Int.not_le, gt_iff_lt, ge_iff_le, Bool.and_eq_true, Bool.or_eq_true, Bool.and_eq_false_iff, Bool.or_eq_false_iff, Decidable.not_not, not_true_eq_false, not_false_eq_true, and_true, true_and, or_false, false_or, or_true, true_or, and_false, false_and, eq_self, Bool.true_eq_false, Bool.false_eq_true] at hc) <;> (try (exfalso; omega))) | fail))
  all_goals
    refine au_done1 rfl ?_
    refine fun w h => ⟨ret_bool ?_, h.below⟩
    simp_all [formS]

set_option maxHeartbeats 400000 in
theorem bit_any (b : Bool) (v : Int) (w : World) : Calls Tryz.prog 102 [.bool b, .int .u64 v].toArray w (Ret (.int .u64 (bitS b v)) w) := by
  refine calls_of_tri Tryz.func102 rfl Tryz.ntmps102 rfl ?_
  cases b
  all_goals
    (repeat (first | refine au_pure ?_ | refine au_pass ?_ | refine au_box (fun _ => ?_) | refine au_alloc (fun _ => ?_) | refine au_store ?_ | refine au_make rfl rfl (fun _ => ?_) | refine au_lit rfl rfl rfl (fun _ => ?_) | refine au_append rfl rfl rfl rfl (fun _ => au_norm ?_) | refine au_storeE rfl rfl rfl rfl ?_ | refine tri_seq ?_ | refine tri_then ?_ | refine tri_region ?_ | refine tri_nil ?_ | refine tri_skip ?_ | refine tri_ret ?_ | refine tri_exit ?_ | refine tri_thenr ?_ | refine tri_thene ?_ | refine tri_blkn ?_ | refine tri_blkr ?_ | refine tri_blke ?_ | refine tri_blko (by rfl) ?_ | refine tri_if_t (by rfl) ?_ | refine tri_if_f (by rfl) ?_ | fail))
    refine au_done1 rfl ?_
    exact fun w h => ⟨rfl, h.below⟩

set_option maxHeartbeats 400000 in
theorem form_any (k n : Int) (a b c d : Bool) (w : World) : Calls Tryz.prog 101 [entV k n a b c d].toArray w (Ret (.bool (formR k n a b c d)) w) := by
  refine calls_of_tri Tryz.func101 rfl Tryz.ntmps101 rfl ?_
  (repeat' (first | refine au_pure ?_ | refine au_pass ?_ | refine au_box (fun _ => ?_) | refine au_alloc (fun _ => ?_) | refine au_store ?_ | refine au_make rfl rfl (fun _ => ?_) | refine au_lit rfl rfl rfl (fun _ => ?_) | refine au_append rfl rfl rfl rfl (fun _ => au_norm ?_) | refine au_storeE rfl rfl rfl rfl ?_ | refine tri_seq ?_ | refine tri_then ?_ | refine tri_region ?_ | refine tri_nil ?_ | refine tri_skip ?_ | refine tri_ret ?_ | refine tri_exit ?_ | refine tri_thenr ?_ | refine tri_thene ?_ | refine tri_blkn ?_ | refine tri_blkr ?_ | refine tri_blke ?_ | refine tri_blko (by rfl) ?_ | refine tri_block ?_ | refine tri_if_t (by rfl) ?_ | refine tri_if_f (by rfl) ?_ | ((first | refine tri_cond (by rfl) (fun hc => ?_) (fun hc => ?_) | refine tri_gsplit (by rfl) (by rfl) (by (fail_if_success exact (rfl : _ = some (Value.bool true))); (fail_if_success exact (rfl : _ = some (Value.bool false))); rfl) (fun hc => ?_) (fun hc => ?_)) <;> (try simp only [decide_eq_true_eq, decide_eq_false_iff_not, beq_iff_eq, bne_iff_ne, ne_eq, Bool.not_eq_true', Bool.not_eq_false', beq_eq_false_iff_ne, bne_eq_false_iff_eq, Int.not_lt, Int.not_le, gt_iff_lt, ge_iff_le, Bool.and_eq_true, Bool.or_eq_true, Bool.and_eq_false_iff, Bool.or_eq_false_iff, Decidable.not_not, not_true_eq_false, not_false_eq_true, and_true, true_and, or_false, false_or, or_true, true_or, and_false, false_and, eq_self, Bool.true_eq_false, Bool.false_eq_true] at hc) <;> (try (exfalso; omega))) | fail))
  all_goals
    refine au_done1 rfl ?_
    refine fun w h => ⟨ret_bool ?_, h.below⟩
    simp_all [formR]

theorem ret_wi {a b : Int} {x : Int × Int} (h : x = (a, b)) : Ending.returned (.tuple #[.int .u64 a, .int .i64 b]) = .returned (.tuple #[.int .u64 x.1, .int .i64 x.2]) := by rw [h]
set_option maxHeartbeats 400000 in
theorem encode_any (k n : Int) (a b c d : Bool) (w : World) : Calls Tryz.prog 59 [entV k n a b c d].toArray w (Ret (.tuple #[.int .u64 (encS k n a b c d).1, .int .i64 (encS k n a b c d).2]) w) := by
  refine calls_of_tri Tryz.func59 rfl Tryz.ntmps59 rfl ?_
  (repeat (first | refine au_pure ?_ | refine au_pass ?_ | refine au_box (fun _ => ?_) | refine au_alloc (fun _ => ?_) | refine au_store ?_ | refine au_make rfl rfl (fun _ => ?_) | refine au_lit rfl rfl rfl (fun _ => ?_) | refine au_append rfl rfl rfl rfl (fun _ => au_norm ?_) | refine au_storeE rfl rfl rfl rfl ?_ | refine tri_seq ?_ | refine tri_then ?_ | refine tri_region ?_ | refine tri_nil ?_ | refine tri_skip ?_ | refine tri_ret ?_ | refine tri_exit ?_ | refine tri_thenr ?_ | refine tri_thene ?_ | refine tri_blkn ?_ | refine tri_blkr ?_ | refine tri_blke ?_ | refine tri_blko (by rfl) ?_ | refine tri_if_t (by rfl) ?_ | refine tri_if_f (by rfl) ?_ | fail))
  rename_i g
  refine tri_cut (α := PLift (0 ≤ k ∧ k ≤ 4)) (fun _ => [(1, .pointer (some ⟨g, 0, none⟩))]) (fun _ => Hp w [blkC g 54 [.int .i64 k, .int .i64 n, .bool a, .bool b, .bool c, .bool d]]) ?rest ?first
  case first =>
    (repeat' (first | refine au_pure ?_ | refine au_pass ?_ | refine au_box (fun _ => ?_) | refine au_alloc (fun _ => ?_) | refine au_store ?_ | refine au_make rfl rfl (fun _ => ?_) | refine au_lit rfl rfl rfl (fun _ => ?_) | refine au_append rfl rfl rfl rfl (fun _ => au_norm ?_) | refine au_storeE rfl rfl rfl rfl ?_ | refine tri_seq ?_ | refine tri_then ?_ | refine tri_region ?_ | refine tri_nil ?_ | refine tri_skip ?_ | refine tri_ret ?_ | refine tri_exit ?_ | refine tri_thenr ?_ | refine tri_thene ?_ | refine tri_blkn ?_ | refine tri_blkr ?_ | refine tri_blke ?_ | refine tri_blko (by rfl) ?_ | refine tri_block ?_ | refine tri_if_t (by rfl) ?_ | refine tri_if_f (by rfl) ?_ | ((first | refine tri_cond (by rfl) (fun hc => ?_) (fun hc => ?_) | refine tri_gsplit (by rfl) (by rfl) (by (fail_if_success exact (rfl : _ = some (Value.bool true))); (fail_if_success exact (rfl : _ = some (Value.bool false))); rfl) (fun hc => ?_) (fun hc => ?_)) <;> (try simp only [decide_eq_true_eq, decide_eq_false_iff_not, beq_iff_eq, bne_iff_ne, ne_eq, Bool.not_eq_true', Bool.not_eq_false', beq_eq_false_iff_ne, bne_eq_false_iff_eq, Int.not_lt, Int.not_le, gt_iff_lt, ge_iff_le, Bool.and_eq_true, Bool.or_eq_true, Bool.and_eq_false_iff, Bool.or_eq_false_iff, Decidable.not_not, not_true_eq_false, not_false_eq_true, and_true, true_and, or_false, false_or, or_true, true_or, and_false, false_and, eq_self, Bool.true_eq_false, Bool.false_eq_true] at hc) <;> (try (exfalso; omega))) | fail))
    all_goals first
      | exact tri_met ⟨by omega⟩ (by repeat (first | exact trivial | refine ⟨rfl, ?_⟩)) (fun _ h => h)
      | (refine au_done2 rfl ?_; exact fun w h => ⟨ret_wi (enc_arg (by omega)), h.below⟩)
  case rest =>
    rintro ⟨hk0, hk4⟩
    (repeat' (first | refine au_pure ?_ | refine au_pass ?_ | refine au_box (fun _ => ?_) | refine au_alloc (fun _ => ?_) | refine au_store ?_ | refine au_make rfl rfl (fun _ => ?_) | refine au_lit rfl rfl rfl (fun _ => ?_) | refine au_append rfl rfl rfl rfl (fun _ => au_norm ?_) | refine au_storeE rfl rfl rfl rfl ?_ | refine tri_seq ?_ | refine tri_then ?_ | refine tri_region ?_ | refine tri_nil ?_ | refine tri_skip ?_ | refine tri_ret ?_ | refine tri_exit ?_ | refine tri_thenr ?_ | refine tri_thene ?_ | refine tri_blkn ?_ | refine tri_blkr ?_ | refine tri_blke ?_ | refine tri_blko (by rfl) ?_ | refine tri_if_t (by rfl) ?_ | refine tri_if_f (by rfl) ?_ | ((first | refine tri_cond (by rfl) (fun hc => ?_) (fun hc => ?_) | refine tri_gsplit (by rfl) (by rfl) (by (fail_if_success exact (rfl : _ = some (Value.bool true))); (fail_if_success exact (rfl : _ = some (Value.bool false))); rfl) (fun hc => ?_) (fun hc => ?_)) <;> (try simp only [decide_eq_true_eq, decide_eq_false_iff_not, beq_iff_eq, bne_iff_ne, ne_eq, Bool.not_eq_true', Bool.not_eq_false', beq_eq_false_iff_ne, bne_eq_false_iff_eq, Int.not_lt, Int.not_le, gt_iff_lt, ge_iff_le, Bool.and_eq_true, Bool.or_eq_true, Bool.and_eq_false_iff, Bool.or_eq_false_iff, Decidable.not_not, not_true_eq_false, not_false_eq_true, and_true, true_and, or_false, false_or, or_true, true_or, and_false, false_and, eq_self, Bool.true_eq_false, Bool.false_eq_true] at hc) <;> (try (exfalso; omega))) | fail))
    all_goals try (refine au_done2 rfl ?_; exact fun w h => ⟨ret_wi (enc_rng hk0 hk4 (by simp_all [rngB])), h.below⟩)
    all_goals
      have hr : rngB k n d = false := by simp_all [rngB]
      refine au_call rfl rfl (cl_of rfl rfl rfl (fun _ h => Ret.hp (formed_any _ _ _ _ _ _ _) h)) ?_
      (repeat' (first | refine au_pure ?_ | refine au_pass ?_ | refine au_box (fun _ => ?_) | refine au_alloc (fun _ => ?_) | refine au_store ?_ | refine au_make rfl rfl (fun _ => ?_) | refine au_lit rfl rfl rfl (fun _ => ?_) | refine au_append rfl rfl rfl rfl (fun _ => au_norm ?_) | refine au_storeE rfl rfl rfl rfl ?_ | refine tri_seq ?_ | refine tri_then ?_ | refine tri_region ?_ | refine tri_nil ?_ | refine tri_skip ?_ | refine tri_ret ?_ | refine tri_exit ?_ | refine tri_thenr ?_ | refine tri_thene ?_ | refine tri_blkn ?_ | refine tri_blkr ?_ | refine tri_blke ?_ | refine tri_blko (by rfl) ?_ | refine tri_if_t (by rfl) ?_ | refine tri_if_f (by rfl) ?_ | ((first | refine tri_cond (by rfl) (fun hc => ?_) (fun hc => ?_) | refine tri_gsplit (by rfl) (by rfl) (by (fail_if_success exact (rfl : _ = some (Value.bool true))); (fail_if_success exact (rfl : _ = some (Value.bool false))); rfl) (fun hc => ?_) (fun hc => ?_)) <;> (try simp only [decide_eq_true_eq, decide_eq_false_iff_not, beq_iff_eq, bne_iff_ne, ne_eq, Bool.not_eq_true', Bool.not_eq_false', beq_eq_false_iff_ne, bne_eq_false_iff_eq, Int.not_lt, Int.not_le, gt_iff_lt, ge_iff_le, Bool.and_eq_true, Bool.or_eq_true, Bool.and_eq_false_iff, Bool.or_eq_false_iff, Decidable.not_not, not_true_eq_false, not_false_eq_true, and_true, true_and, or_false, false_or, or_true, true_or, and_false, false_and, eq_self, Bool.true_eq_false, Bool.false_eq_true] at hc) <;> (try (exfalso; omega))) | fail))
    all_goals try (refine au_done2 rfl ?_; exact fun w h => ⟨ret_wi (enc_form hk0 hk4 (by simp_all [rngB]) (by simp_all)), h.below⟩)
    all_goals
      refine au_draw rfl ?_; repeat (first | refine au_qpure rfl rfl ?_ | refine au_qpass rfl rfl ?_ | refine triq_nil ?_ | (refine triq_call rfl rfl (by first | exact wan_plain rfl | exact wan_yes rfl rfl rfl) (cl_of rfl rfl rfl (fun _ h => Ret.hp (flag_any _ _ _) h)) ?_))
      (repeat (first | refine au_pure ?_ | refine au_pass ?_ | refine au_box (fun _ => ?_) | refine au_alloc (fun _ => ?_) | refine au_store ?_ | refine au_make rfl rfl (fun _ => ?_) | refine au_lit rfl rfl rfl (fun _ => ?_) | refine au_append rfl rfl rfl rfl (fun _ => au_norm ?_) | refine au_storeE rfl rfl rfl rfl ?_ | refine tri_seq ?_ | refine tri_then ?_ | refine tri_region ?_ | refine tri_nil ?_ | refine tri_skip ?_ | refine tri_ret ?_ | refine tri_exit ?_ | refine tri_thenr ?_ | refine tri_thene ?_ | refine tri_blkn ?_ | refine tri_blkr ?_ | refine tri_blke ?_ | refine tri_blko (by rfl) ?_ | refine tri_if_t (by rfl) ?_ | refine tri_if_f (by rfl) ?_ | fail))
      refine au_done2 rfl ?_
      exact fun w h => ⟨ret_wi (show encS k n a b c d = (wordW k n a b c d, 0) from enc_ok hk0 hk4 (by assumption) (by assumption)), h.below⟩

set_option maxHeartbeats 400000 in
theorem rencode_any (k n : Int) (a b c d : Bool) (w : World) : Calls Tryz.prog 60 [entV k n a b c d].toArray w (Ret (.tuple #[.int .u64 (encS k n a b c d).1, .int .i64 (encS k n a b c d).2]) w) := by
  refine calls_of_tri Tryz.func60 rfl Tryz.ntmps60 rfl ?_
  (repeat' (first | refine au_pure ?_ | refine au_pass ?_ | refine au_box (fun _ => ?_) | refine au_alloc (fun _ => ?_) | refine au_store ?_ | refine au_make rfl rfl (fun _ => ?_) | refine au_lit rfl rfl rfl (fun _ => ?_) | refine au_append rfl rfl rfl rfl (fun _ => au_norm ?_) | refine au_storeE rfl rfl rfl rfl ?_ | refine tri_seq ?_ | refine tri_then ?_ | refine tri_region ?_ | refine tri_nil ?_ | refine tri_skip ?_ | refine tri_ret ?_ | refine tri_exit ?_ | refine tri_thenr ?_ | refine tri_thene ?_ | refine tri_blkn ?_ | refine tri_blkr ?_ | refine tri_blke ?_ | refine tri_blko (by rfl) ?_ | refine tri_if_t (by rfl) ?_ | refine tri_if_f (by rfl) ?_ | ((first | refine tri_cond (by rfl) (fun hc => ?_) (fun hc => ?_) | refine tri_gsplit (by rfl) (by rfl) (by (fail_if_success exact (rfl : _ = some (Value.bool true))); (fail_if_success exact (rfl : _ = some (Value.bool false))); rfl) (fun hc => ?_) (fun hc => ?_)) <;> (try simp only [decide_eq_true_eq, decide_eq_false_iff_not, beq_iff_eq, bne_iff_ne, ne_eq, Bool.not_eq_true', Bool.not_eq_false', beq_eq_false_iff_ne, bne_eq_false_iff_eq, Int.not_lt, Int.not_le, gt_iff_lt, ge_iff_le, Bool.and_eq_true, Bool.or_eq_true, Bool.and_eq_false_iff, Bool.or_eq_false_iff, Decidable.not_not, not_true_eq_false, not_false_eq_true, and_true, true_and, or_false, false_or, or_true, true_or, and_false, false_and, eq_self, Bool.true_eq_false, Bool.false_eq_true] at hc) <;> (try (exfalso; omega))) | fail))
  all_goals try (refine au_done2 rfl ?_; exact fun w h => ⟨ret_wi (enc_arg (by omega)), h.below⟩)
  all_goals try (refine au_done2 rfl ?_; exact fun w h => ⟨ret_wi (enc_rng (by omega) (by omega) (by simp_all [rngB])), h.below⟩)
  all_goals
    have hr : rngB k n d = false := by simp_all [rngB]
    refine au_call rfl rfl (cl_of rfl rfl rfl (fun _ h => Ret.hp (form_any _ _ _ _ _ _ _) h)) ?_
    rw [formR_eq (by omega) (by omega)]
    (repeat' (first | refine au_pure ?_ | refine au_pass ?_ | refine au_box (fun _ => ?_) | refine au_alloc (fun _ => ?_) | refine au_store ?_ | refine au_make rfl rfl (fun _ => ?_) | refine au_lit rfl rfl rfl (fun _ => ?_) | refine au_append rfl rfl rfl rfl (fun _ => au_norm ?_) | refine au_storeE rfl rfl rfl rfl ?_ | refine tri_seq ?_ | refine tri_then ?_ | refine tri_region ?_ | refine tri_nil ?_ | refine tri_skip ?_ | refine tri_ret ?_ | refine tri_exit ?_ | refine tri_thenr ?_ | refine tri_thene ?_ | refine tri_blkn ?_ | refine tri_blkr ?_ | refine tri_blke ?_ | refine tri_blko (by rfl) ?_ | refine tri_if_t (by rfl) ?_ | refine tri_if_f (by rfl) ?_ | ((first | refine tri_cond (by rfl) (fun hc => ?_) (fun hc => ?_) | refine tri_gsplit (by rfl) (by rfl) (by (fail_if_success exact (rfl : _ = some (Value.bool true))); (fail_if_success exact (rfl : _ = some (Value.bool false))); rfl) (fun hc => ?_) (fun hc => ?_)) <;> (try simp only [decide_eq_true_eq, decide_eq_false_iff_not, beq_iff_eq, bne_iff_ne, ne_eq, Bool.not_eq_true', Bool.not_eq_false', beq_eq_false_iff_ne, bne_eq_false_iff_eq, Int.not_lt, Int.not_le, gt_iff_lt, ge_iff_le, Bool.and_eq_true, Bool.or_eq_true, Bool.and_eq_false_iff, Bool.or_eq_false_iff, Decidable.not_not, not_true_eq_false, not_false_eq_true, and_true, true_and, or_false, false_or, or_true, true_or, and_false, false_and, eq_self, Bool.true_eq_false, Bool.false_eq_true] at hc) <;> (try (exfalso; omega))) | fail))
  all_goals try (refine au_done2 rfl ?_; exact fun w h => ⟨ret_wi (enc_form (by omega) (by omega) hr (by assumption)), h.below⟩)
  all_goals
    refine au_draw rfl ?_; repeat (first | refine au_qpure rfl rfl ?_ | refine au_qpass rfl rfl ?_ | refine triq_nil ?_ | (refine triq_call rfl rfl (by first | exact wan_plain rfl | exact wan_yes rfl rfl rfl) (cl_of rfl rfl rfl (fun _ h => Ret.hp (bit_any _ _ _) h)) ?_))
    (repeat (first | refine au_pure ?_ | refine au_pass ?_ | refine au_box (fun _ => ?_) | refine au_alloc (fun _ => ?_) | refine au_store ?_ | refine au_make rfl rfl (fun _ => ?_) | refine au_lit rfl rfl rfl (fun _ => ?_) | refine au_append rfl rfl rfl rfl (fun _ => au_norm ?_) | refine au_storeE rfl rfl rfl rfl ?_ | refine tri_seq ?_ | refine tri_then ?_ | refine tri_region ?_ | refine tri_nil ?_ | refine tri_skip ?_ | refine tri_ret ?_ | refine tri_exit ?_ | refine tri_thenr ?_ | refine tri_thene ?_ | refine tri_blkn ?_ | refine tri_blkr ?_ | refine tri_blke ?_ | refine tri_blko (by rfl) ?_ | refine tri_if_t (by rfl) ?_ | refine tri_if_f (by rfl) ?_ | fail))
    refine au_done2 rfl ?_
    exact fun w h => ⟨ret_wi (show encS k n a b c d = (wordW k n a b c d, 0) from enc_ok (by omega) (by omega) (by assumption) (by assumption)), h.below⟩

abbrev entE (e : Ent) : Value := entV e.k e.n e.a e.b e.c e.d
abbrev decV (x : Int) : Value := .tuple #[entE (decR x).1, .int .i64 (decR x).2]
theorem ret_de {x : Int} {e : Ent} {c : Int} (h : decR x = (e, c)) : Ending.returned (.tuple #[entE e, .int .i64 c]) = .returned (decV x) := by unfold decV; rw [h]
set_option maxHeartbeats 400000 in
theorem decode_any (x : Int) (w : World) (h0 : 0 ≤ x) (h1 : x < 18446744073709551616) : Calls Tryz.prog 74 [.int .u64 x].toArray w (Ret (decV x) w) := by
  have hde := deW_eq h0 h1
  have hbad : ¬ ((enc (deW x)).2 = 0 ∧ (enc (deW x)).1 = x) → decR x = (noEnt, 3) := fun h => decR_bad (by rwa [hde] at h)
  have hgood : (enc (deW x)).2 = 0 ∧ (enc (deW x)).1 = x → decR x = (deW x, 0) := fun h => by rw [hde] at h ⊢; exact decR_good h
  clear hde
  refine calls_of_tri Tryz.func74 rfl Tryz.ntmps74 rfl ?_
  (repeat (first | refine au_pure ?_ | refine au_pass ?_ | refine au_box (fun _ => ?_) | refine au_alloc (fun _ => ?_) | refine au_store ?_ | refine au_make rfl rfl (fun _ => ?_) | refine au_lit rfl rfl rfl (fun _ => ?_) | refine au_append rfl rfl rfl rfl (fun _ => au_norm ?_) | refine au_storeE rfl rfl rfl rfl ?_ | refine tri_seq ?_ | refine tri_then ?_ | refine tri_region ?_ | refine tri_nil ?_ | refine tri_skip ?_ | refine tri_ret ?_ | refine tri_exit ?_ | refine tri_thenr ?_ | refine tri_thene ?_ | refine tri_blkn ?_ | refine tri_blkr ?_ | refine tri_blke ?_ | refine tri_blko (by rfl) ?_ | refine tri_if_t (by rfl) ?_ | refine tri_if_f (by rfl) ?_ | fail))
  refine au_call rfl rfl (cl_of rfl rfl rfl (fun _ h => Ret.hp (encode_any _ _ _ _ _ _ _) h)) ?_
  (repeat' (first | refine au_pure ?_ | refine au_pass ?_ | refine au_box (fun _ => ?_) | refine au_alloc (fun _ => ?_) | refine au_store ?_ | refine au_make rfl rfl (fun _ => ?_) | refine au_lit rfl rfl rfl (fun _ => ?_) | refine au_append rfl rfl rfl rfl (fun _ => au_norm ?_) | refine au_storeE rfl rfl rfl rfl ?_ | refine tri_seq ?_ | refine tri_then ?_ | refine tri_region ?_ | refine tri_nil ?_ | refine tri_skip ?_ | refine tri_ret ?_ | refine tri_exit ?_ | refine tri_thenr ?_ | refine tri_thene ?_ | refine tri_blkn ?_ | refine tri_blkr ?_ | refine tri_blke ?_ | refine tri_blko (by rfl) ?_ | refine tri_if_t (by rfl) ?_ | refine tri_if_f (by rfl) ?_ | ((first | refine tri_cond (by rfl) (fun hc => ?_) (fun hc => ?_) | refine tri_gsplit (by rfl) (by rfl) (by (fail_if_success exact (rfl : _ = some (Value.bool true))); (fail_if_success exact (rfl : _ = some (Value.bool false))); rfl) (fun hc => ?_) (fun hc => ?_)) <;> (try simp only [decide_eq_true_eq, decide_eq_false_iff_not, beq_iff_eq, bne_iff_ne, ne_eq, Bool.not_eq_true', Bool.not_eq_false', beq_eq_false_iff_ne, bne_eq_false_iff_eq, Int.not_lt, Int.not_le, gt_iff_lt, ge_iff_le, Bool.and_eq_true, Bool.or_eq_true, Bool.and_eq_false_iff, Bool.or_eq_false_iff, Decidable.not_not, not_true_eq_false, not_false_eq_true, and_true, true_and, or_false, false_or, or_true, true_or, and_false, false_and, eq_self, Bool.true_eq_false, Bool.false_eq_true] at hc) <;> (try (exfalso; omega))) | fail))
  all_goals
    refine au_done2 rfl ?_
    first
      | exact fun w h => ⟨ret_de (hgood ⟨by assumption, by assumption⟩), h.below⟩
      | exact fun w h => ⟨ret_de (hbad (fun hh => by first | exact absurd hh.1 (by assumption) | exact absurd hh.2 (by assumption))), h.below⟩
set_option maxHeartbeats 400000 in
theorem rdecode_any (x : Int) (w : World) (h0 : 0 ≤ x) (h1 : x < 18446744073709551616) : Calls Tryz.prog 106 [.int .u64 x].toArray w (Ret (decV x) w) := by
  have hde := deR_eq h0 h1
  have hbad : ¬ ((enc (deR x)).2 = 0 ∧ (enc (deR x)).1 = x) → decR x = (noEnt, 3) := fun h => decR_bad (by rwa [hde] at h)
  have hgood : (enc (deR x)).2 = 0 ∧ (enc (deR x)).1 = x → decR x = (deR x, 0) := fun h => by rw [hde] at h ⊢; exact decR_good h
  clear hde
  refine calls_of_tri Tryz.func106 rfl Tryz.ntmps106 rfl ?_
  (repeat (first | refine au_pure ?_ | refine au_pass ?_ | refine au_box (fun _ => ?_) | refine au_alloc (fun _ => ?_) | refine au_store ?_ | refine au_make rfl rfl (fun _ => ?_) | refine au_lit rfl rfl rfl (fun _ => ?_) | refine au_append rfl rfl rfl rfl (fun _ => au_norm ?_) | refine au_storeE rfl rfl rfl rfl ?_ | refine tri_seq ?_ | refine tri_then ?_ | refine tri_region ?_ | refine tri_nil ?_ | refine tri_skip ?_ | refine tri_ret ?_ | refine tri_exit ?_ | refine tri_thenr ?_ | refine tri_thene ?_ | refine tri_blkn ?_ | refine tri_blkr ?_ | refine tri_blke ?_ | refine tri_blko (by rfl) ?_ | refine tri_if_t (by rfl) ?_ | refine tri_if_f (by rfl) ?_ | fail))
  refine au_call rfl rfl (cl_of rfl rfl rfl (fun _ h => Ret.hp (rencode_any _ _ _ _ _ _ _) h)) ?_
  (repeat' (first | refine au_pure ?_ | refine au_pass ?_ | refine au_box (fun _ => ?_) | refine au_alloc (fun _ => ?_) | refine au_store ?_ | refine au_make rfl rfl (fun _ => ?_) | refine au_lit rfl rfl rfl (fun _ => ?_) | refine au_append rfl rfl rfl rfl (fun _ => au_norm ?_) | refine au_storeE rfl rfl rfl rfl ?_ | refine tri_seq ?_ | refine tri_then ?_ | refine tri_region ?_ | refine tri_nil ?_ | refine tri_skip ?_ | refine tri_ret ?_ | refine tri_exit ?_ | refine tri_thenr ?_ | refine tri_thene ?_ | refine tri_blkn ?_ | refine tri_blkr ?_ | refine tri_blke ?_ | refine tri_blko (by rfl) ?_ | refine tri_if_t (by rfl) ?_ | refine tri_if_f (by rfl) ?_ | ((first | refine tri_cond (by rfl) (fun hc => ?_) (fun hc => ?_) | refine tri_gsplit (by rfl) (by rfl) (by (fail_if_success exact (rfl : _ = some (Value.bool true))); (fail_if_success exact (rfl : _ = some (Value.bool false))); rfl) (fun hc => ?_) (fun hc => ?_)) <;> (try simp only [decide_eq_true_eq, decide_eq_false_iff_not, beq_iff_eq, bne_iff_ne, ne_eq, Bool.not_eq_true', Bool.not_eq_false', beq_eq_false_iff_ne, bne_eq_false_iff_eq, Int.not_lt, Int.not_le, gt_iff_lt, ge_iff_le, Bool.and_eq_true, Bool.or_eq_true, Bool.and_eq_false_iff, Bool.or_eq_false_iff, Decidable.not_not, not_true_eq_false, not_false_eq_true, and_true, true_and, or_false, false_or, or_true, true_or, and_false, false_and, eq_self, Bool.true_eq_false, Bool.false_eq_true] at hc) <;> (try (exfalso; omega))) | fail))
  all_goals
    refine au_done2 rfl ?_
    first
      | exact fun w h => ⟨ret_de (hgood ⟨by assumption, by assumption⟩), h.below⟩
      | exact fun w h => ⟨ret_de (hbad (fun hh => by first | exact absurd hh.1 (by assumption) | exact absurd hh.2 (by assumption))), h.below⟩

theorem decode_at {x k n u : Int} {a b c d : Bool} (w : World) (h0 : 0 ≤ x) (h1 : x < 18446744073709551616) (hp : decR x = (⟨k, n, a, b, c, d⟩, u)) : Calls Tryz.prog 74 [.int .u64 x].toArray w (Ret (.tuple #[entV k n a b c d, .int .i64 u]) w) := by
  have := decode_any x w h0 h1
  unfold decV at this
  rwa [hp] at this
theorem rdecode_at {x k n u : Int} {a b c d : Bool} (w : World) (h0 : 0 ≤ x) (h1 : x < 18446744073709551616) (hp : decR x = (⟨k, n, a, b, c, d⟩, u)) : Calls Tryz.prog 106 [.int .u64 x].toArray w (Ret (.tuple #[entV k n a b c d, .int .i64 u]) w) := by
  have := rdecode_any x w h0 h1
  unfold decV at this
  rwa [hp] at this
end Go.Proofs.YtojfaelafakemaaGreat
