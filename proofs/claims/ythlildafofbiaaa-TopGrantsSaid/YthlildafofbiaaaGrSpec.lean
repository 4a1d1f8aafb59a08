/- The queue of asks with its accounts in plain Lean. No conditions. -/
import Derived.Test.YthlildafofbiaaaFacts
import Derived.Test.YthlildafofbiaaaLst
set_option linter.unusedSimpArgs false
set_option linter.unusedVariables false
namespace Go.Proofs.Ythlildafofbiaaa
open Go Go.RowKit
/-- An ask. -/
structure AK where
  p : Int
  a : Int
  k : Int
  u : Int
  deriving DecidableEq
instance : Enc AK where
  default := ⟨0, 0, 0, 0⟩
  sz := 4
  enc := fun x => [.int .i64 x.p, .int .i64 x.a, .int .i64 x.k, .int .i64 x.u]
  dec := fun cs => match cs with | [.int _ a, .int _ b, .int _ c, .int _ d] => ⟨a, b, c, d⟩ | _ => ⟨0, 0, 0, 0⟩
  len := fun _ => rfl
  one := fun _ u hu => by simp at hu; rcases hu with rfl | rfl | rfl | rfl <;> rfl
  pos := by decide
/-- An account. -/
structure AC where
  pa : Int
  us : Int
  mi : Int
  lo : Int
  mx : Int
  deriving DecidableEq
instance : Enc AC where
  default := ⟨0, 0, 0, 0, 0⟩
  sz := 5
  enc := fun x => [.int .i64 x.pa, .int .i64 x.us, .int .i64 x.mi, .int .i64 x.lo, .int .i64 x.mx]
  dec := fun cs => match cs with | [.int _ a, .int _ b, .int _ c, .int _ d, .int _ e] => ⟨a, b, c, d, e⟩ | _ => ⟨0, 0, 0, 0, 0⟩
  len := fun _ => rfl
  one := fun _ u hu => by simp at hu; rcases hu with rfl | rfl | rfl | rfl | rfl <;> rfl
  pos := by decide
/-- What was granted. -/
structure GR where
  n : Int
  p : Int
  a : Int
  k : Int
  u : Int
  deriving DecidableEq
instance : Enc GR where
  default := ⟨0, 0, 0, 0, 0⟩
  sz := 5
  enc := fun x => [.int .i64 x.n, .int .i64 x.p, .int .i64 x.a, .int .i64 x.k, .int .i64 x.u]
  dec := fun cs => match cs with | [.int _ a, .int _ b, .int _ c, .int _ d, .int _ e] => ⟨a, b, c, d, e⟩ | _ => ⟨0, 0, 0, 0, 0⟩
  len := fun _ => rfl
  one := fun _ u hu => by simp at hu; rcases hu with rfl | rfl | rfl | rfl | rfl <;> rfl
  pos := by decide
/-- An operation. -/
structure GO where
  k : Int
  p : Int
  a : Int
  c : Int
  deriving DecidableEq
instance : Enc GO where
  default := ⟨0, 0, 0, 0⟩
  sz := 4
  enc := fun x => [.int .u8 x.k, .int .u8 x.p, .int .u8 x.a, .int .u8 x.c]
  dec := fun cs => match cs with | [.int _ a, .int _ b, .int _ c, .int _ d] => ⟨a, b, c, d⟩ | _ => ⟨0, 0, 0, 0⟩
  len := fun _ => rfl
  one := fun _ u hu => by simp at hu; rcases hu with rfl | rfl | rfl | rfl <;> rfl
  pos := by decide
instance : ElT Try.prog 37 AK := ⟨trivial⟩
instance : ElT Try.prog 41 AC := ⟨trivial⟩
instance : ElT Try.prog 39 GR := ⟨trivial⟩
instance : ElT Try.prog 27 GO := ⟨trivial⟩
instance : ElT Try.prog 3 Int := ⟨trivial⟩
abbrev akV (x : AK) : Value := .agg #[.int .i64 x.p, .int .i64 x.a, .int .i64 x.k, .int .i64 x.u]
/-- The usages of the three accounts. -/
structure US where
  a : Int
  b : Int
  c : Int
  deriving DecidableEq
def acL (u : US) : List AC := [⟨-1, u.a, 0, 0, 9⟩, ⟨0, u.b, 0, 0, 6⟩, ⟨1, u.c, 0, 0, 4⟩]
/-- The usages of a valid tree. -/
structure Uk (u : US) : Prop where
  c0 : 0 ≤ u.c
  cb : u.c ≤ u.b
  ba : u.b ≤ u.a
  a9 : u.a ≤ 9
  b6 : u.b ≤ 6
  c4 : u.c ≤ 4
def pathM (a : Int) : List Int := if a = 0 then [0] else if a = 1 then [1, 0] else [2, 1, 0]
def addU (u : US) (a n : Int) : US := ⟨u.a + n, if 1 ≤ a then u.b + n else u.b, if 2 ≤ a then u.c + n else u.c⟩
def tot (x : AK) : Int := x.k + x.u
/-- What is missing for an ask: the count, the scope, and whether of kernel frames. -/
def shM (x : AK) (u : US) (no al : Int) : Int × Int × Bool :=
  if 2 ≤ x.a ∧ tot x > 4 - u.c then (tot x - (4 - u.c), 2, false) else if 1 ≤ x.a ∧ tot x > 6 - u.b then (tot x - (6 - u.b), 1, false) else if tot x > 9 - u.a then (tot x - (9 - u.a), 0, false)
  else if x.k > no then (x.k - no, -1, true) else if tot x > al then (tot x - al, -1, false) else (0, -1, false)
def fitM (x : AK) (u : US) (no al : Int) : Bool := !decide ((shM x u no al).1 > 0)
/-- A queue of asks with its accounts and supplies. -/
structure BQ where
  q : List AK
  u : US
  no : Int
  al : Int
  nu : Nat → Int
  nx : Int
  la : Int
  out : List GR
def bq0 : BQ := ⟨[], ⟨0, 0, 0⟩, 4, 10, fun _ => 0, 1, 0, []⟩
def opA (o : GO) : AK := ⟨o.p % 8, o.a % 3, o.c % 3, o.c / 3 % 4⟩
def waitM (b : BQ) (o : GO) : Bool := b.q.any fun x => x.p == o.p % 8
def grOf (nu : Nat → Int) (x : AK) : GR := ⟨nu x.p.toNat, x.p, x.a, x.k, x.u⟩
def grA (x : GR) : AK := ⟨x.p, x.a, x.k, x.u⟩
def gT (x : GR) : Int := x.k + x.u
def hdA (b : BQ) : AK := b.q.getD 0 default
/-- The first ask is granted. -/
def grB (b : BQ) : BQ := { b with q := b.q.drop 1, u := addU b.u (hdA b).a (tot (hdA b)), no := b.no - (hdA b).k, al := b.al - tot (hdA b), la := b.nu (hdA b).p.toNat, out := b.out ++ [grOf b.nu (hdA b)] }
def preB (b : BQ) : Nat → BQ
  | 0 => b
  | i + 1 => grB (preB b i)
def goB (b : BQ) : Bool := !b.q.isEmpty && fitM (hdA b) b.u b.no b.al
/-- How many asks are granted. -/
def srvN : Nat → BQ → Nat
  | 0, _ => 0
  | f + 1, b => if goB b = true then srvN f (grB b) + 1 else 0
def giveI (b : BQ) (o : GO) : Nat := (idxM (fun x : GR => x.p == o.p % 8) b.out).toNat
def stepM (b : BQ) (o : GO) : BQ :=
  if o.k % 4 = 0 then (if waitM b o = true then b else { b with q := b.q ++ [opA o], nu := fun j => if j = (o.p % 8).toNat then b.nx else b.nu j, nx := b.nx + 1 })
  else if o.k % 4 = 1 then (if waitM b o = true then { b with q := b.q.eraseIdx (idxM (fun x : AK => x.p == o.p % 8) b.q).toNat } else b)
  else if o.k % 4 = 2 then preB b (srvN b.q.length b)
  else if b.out.any (fun x => x.p == o.p % 8) = true then
    { b with u := addU b.u (b.out.getD (giveI b o) default).a (-gT (b.out.getD (giveI b o) default)), no := b.no + (b.out.getD (giveI b o) default).k, al := b.al + gT (b.out.getD (giveI b o) default), out := b.out.eraseIdx (giveI b o) }
  else b
/-- The sum of what is granted in an account. -/
def sumA (l : List GR) (a : Int) : Int := (l.map fun x => if x.a = a then gT x else 0).sum
def sumK (l : List GR) : Int := (l.map GR.k).sum
def sumT (l : List GR) : Int := (l.map gT).sum
structure Ak (x : AK) : Prop where
  p : 0 ≤ x.p ∧ x.p < 8
  a : 0 ≤ x.a ∧ x.a < 3
  k : 0 ≤ x.k ∧ x.k ≤ 2
  u : 0 ≤ x.u ∧ x.u ≤ 3
/-- What always holds. -/
structure Bi (b : BQ) : Prop where
  q : ∀ x ∈ b.q, Ak x
  d : (b.q.map AK.p).Nodup
  m : (b.q.map fun x => b.nu x.p.toNat).Pairwise (· < ·)
  r : ∀ x ∈ b.q, b.la < b.nu x.p.toNat ∧ b.nu x.p.toNat < b.nx
  l : b.la < b.nx
  o : ∀ x ∈ b.out, Ak (grA x)
  cc : b.u.c = sumA b.out 2
  cb : b.u.b = b.u.c + sumA b.out 1
  ca : b.u.a = b.u.b + sumA b.out 0
  n : b.no = 4 - sumK b.out
  t : b.al = 10 - sumT b.out
  c4 : b.u.c ≤ 4
  b6 : b.u.b ≤ 6
  a9 : b.u.a ≤ 9
  n0 : 0 ≤ b.no
  t0 : 0 ≤ b.al
end Go.Proofs.Ythlildafofbiaaa
