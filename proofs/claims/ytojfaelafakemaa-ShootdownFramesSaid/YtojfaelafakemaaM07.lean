/- Texts joined: U8, PteSpec, PteLaws, Lst, TlbSpec, TlbOpsM. Each part's own remark says what it proves. -/
import Derived.Test.YtojfaelafakemaaM04
import Derived.Test.YtojfaelafakemaaM06
import Derived.WalkKit
import Derived.Test.YtojfaelafakemaaM05
/- Arrays of bytes, by value, as arguments. No conditions. -/
set_option linter.unusedVariables false
namespace Go.Proofs.Ytojfaelafakemaa
open Go Go.ChangeShapes Go.WideShapes Go.ChangeAt Go.RowKit
structure U8 where
  v : Int
  deriving DecidableEq
instance : Enc U8 where
  default := ⟨0⟩
  sz := 1
  enc := fun s => [.int .u8 s.v]
  dec := fun cs => match cs with | [.int _ i] => ⟨i⟩ | _ => ⟨0⟩
  len := fun _ => rfl
  one := fun _ u hu => by simp at hu; subst hu; rfl
  pos := by decide
instance : Rds Try.prog 5 U8 (fun s => 0 ≤ s.v ∧ s.v ≤ 255) := ⟨by kernel_rfl, fun h _ => by
  obtain ⟨n, rfl, _, hw⟩ := DataW.trod_int Try.underlying5 h
  have hb : 0 ≤ n ∧ n ≤ 255 := by
    simp [Lit.wf, IntKind.min, IntKind.max, IntKind.signed, IntKind.bits] at hw
    omega
  exact ⟨⟨n⟩, rfl, hb⟩⟩
theorem two_u8 {l : List U8} (h : l.length = 2) (hw : ∀ a ∈ l, 0 ≤ a.v ∧ a.v ≤ 255) : ∃ a b, l = [⟨a⟩, ⟨b⟩] ∧ (0 ≤ a ∧ a ≤ 255) ∧ (0 ≤ b ∧ b ≤ 255) := by
  match l, h with
  | [x, y], _ => exact ⟨x.v, y.v, rfl, hw x (by simp), hw y (by simp)⟩
theorem four_u8 {l : List U8} (h : l.length = 4) (hw : ∀ a ∈ l, 0 ≤ a.v ∧ a.v ≤ 255) : ∃ a b c d, l = [⟨a⟩, ⟨b⟩, ⟨c⟩, ⟨d⟩] ∧ (0 ≤ a ∧ a ≤ 255) ∧ (0 ≤ b ∧ b ≤ 255) ∧ (0 ≤ c ∧ c ≤ 255) ∧ (0 ≤ d ∧ d ≤ 255) := by
  match l, h with
  | [x, y, z, u], _ => exact ⟨x.v, y.v, z.v, u.v, rfl, hw x (by simp), hw y (by simp), hw z (by simp), hw u (by simp)⟩
end Go.Proofs.Ytojfaelafakemaa

/- What the functions of package pte compute, in plain Lean. No conditions. -/
namespace Go.Proofs.Ytojfaelafakemaa
open Go

def bitS (b : Bool) (v : Int) : Int := if b then v else 0
def formS (k n : Int) (a b c d : Bool) : Bool :=
  if k = 0 then n == 0 && !a && !b && !c && !d else if k = 2 then !a && !b && !c && !d else if k = 4 then !a && !b && !c && !d else if k = 3 then !b && !c && !d else k == 1
def formR (k n : Int) (a b c d : Bool) : Bool :=
  if k = 1 then true else if k = 3 then !b && !c && !d else if k = 0 then n == 0 && !a && !b && !c && !d else !a && !b && !c && !d
def wordW (k n : Int) (a b c d : Bool) : Int := bits .or .u64 (bits .or .u64 (bits .or .u64 (bits .or .u64 (bits .or .u64 (IntKind.u64.wrap k) (bitS a 8)) (bitS b 16)) (bitS c 32)) (bitS d 64)) (IntKind.u64.wrap (IntKind.u64.wrap n * 2 ^ (min (Int.toNat 8) (IntKind.bits .u64))))
def rngB (k n : Int) (d : Bool) : Bool := decide (n < 0) || decide (4294967295 < n) || k == 1 && d && decide (4294967288 < n)
def encS (k n : Int) (a b c d : Bool) : Int × Int :=
  if k < 0 ∨ 4 < k then (0, 1) else if rngB k n d = true then (0, 2) else if formS k n a b c d = false then (0, 3) else (wordW k n a b c d, 0)
theorem rng_bd {k n : Int} {d : Bool} (h : rngB k n d = false) : 0 ≤ n ∧ n ≤ 4294967295 := by simp [rngB] at h; omega
theorem enc_arg {k n : Int} {a b c d : Bool} (h : k < 0 ∨ 4 < k) : encS k n a b c d = (0, 1) := by unfold encS; rw [if_pos h]
theorem enc_rng {k n : Int} {a b c d : Bool} (h0 : 0 ≤ k) (h4 : k ≤ 4) (h : rngB k n d = true) : encS k n a b c d = (0, 2) := by unfold encS; rw [if_neg (by omega), if_pos h]
theorem enc_form {k n : Int} {a b c d : Bool} (h0 : 0 ≤ k) (h4 : k ≤ 4) (h : rngB k n d = false) (hf : formS k n a b c d = false) : encS k n a b c d = (0, 3) := by unfold encS; rw [if_neg (by omega), if_neg (by simp [h]), if_pos hf]
theorem enc_ok {k n : Int} {a b c d : Bool} (h0 : 0 ≤ k) (h4 : k ≤ 4) (h : rngB k n d = false) (hf : formS k n a b c d = true) : encS k n a b c d = (wordW k n a b c d, 0) := by unfold encS; rw [if_neg (by omega), if_neg (by simp [h]), if_neg (by simp [hf])]

/- Words and entries, in numbers. -/
theorem nat_hl_and (x y : Nat) : x &&& y = 256 * (x / 256 &&& y / 256) + (x % 256 &&& y % 256) := by
  have h1 : (x &&& y) / 2 ^ 8 = x / 2 ^ 8 &&& y / 2 ^ 8 := Nat.and_div_two_pow ..
  have h2 : (x &&& y) % 2 ^ 8 = (x % 2 ^ 8) &&& (y % 2 ^ 8) := Nat.and_mod_two_pow ..
  have h3 := Nat.div_add_mod (x &&& y) (2 ^ 8)
  rw [h1, h2] at h3
  exact h3.symm
theorem nat_hl_or (x y : Nat) : x ||| y = 256 * (x / 256 ||| y / 256) + (x % 256 ||| y % 256) := by
  have h1 : (x ||| y) / 2 ^ 8 = x / 2 ^ 8 ||| y / 2 ^ 8 := Nat.or_div_two_pow ..
  have h2 : (x ||| y) % 2 ^ 8 = (x % 2 ^ 8) ||| (y % 2 ^ 8) := Nat.or_mod_two_pow ..
  have h3 := Nat.div_add_mod (x ||| y) (2 ^ 8)
  rw [h1, h2] at h3
  exact h3.symm
def bN (b : Bool) (v : Nat) : Nat := if b then v else 0
theorem bitS_nat (b : Bool) (v : Nat) : bitS b (v : Int) = ((bN b v : Nat) : Int) := by cases b <;> rfl
theorem bN_le (b : Bool) (v : Nat) : bN b v ≤ v := by cases b <;> simp [bN]
theorem base_or : ∀ k, k < 8 → ∀ a b c d : Bool, (((k ||| bN a 8) ||| bN b 16) ||| bN c 32) ||| bN d 64 = k + bN a 8 + bN b 16 + bN c 32 + bN d 64 := by decide
def lowN (k : Nat) (a b c d : Bool) : Nat := k + bN a 8 + bN b 16 + bN c 32 + bN d 64
theorem lowN_lt {k : Nat} (h : k < 8) (a b c d : Bool) : lowN k a b c d < 128 := by
  unfold lowN; have := bN_le a 8; have := bN_le b 16; have := bN_le c 32; have := bN_le d 64; omega
theorem or_nat64 {x y : Nat} (hx : x < 18446744073709551616) (hy : y < 18446744073709551616) : x ||| y < 18446744073709551616 := Nat.or_lt_two_pow (n := 64) hx hy
theorem word_eq {k n : Nat} (hk : k < 8) (hn : n < 4294967296) (a b c d : Bool) : wordW k n a b c d = ((256 * n + lowN k a b c d : Nat) : Int) := by
  have ha := bN_le a 8; have hb := bN_le b 16; have hc := bN_le c 32; have hd := bN_le d 64
  have e1 : IntKind.u64.wrap (k : Int) = (k : Int) := by rw [IntKind.wrap_u64]; omega
  have e2 : IntKind.u64.wrap (IntKind.u64.wrap (n : Int) * 2 ^ (min (Int.toNat 8) (IntKind.bits .u64))) = ((n * 256 : Nat) : Int) := by
    have : min (Int.toNat 8) (IntKind.bits .u64) = 8 := rfl
    rw [this, IntKind.wrap_u64, IntKind.wrap_u64]; omega
  have f1 : bitS a 8 = ((bN a 8 : Nat) : Int) := bitS_nat a 8
  have f2 : bitS b 16 = ((bN b 16 : Nat) : Int) := bitS_nat b 16
  have f3 : bitS c 32 = ((bN c 32 : Nat) : Int) := bitS_nat c 32
  have f4 : bitS d 64 = ((bN d 64 : Nat) : Int) := bitS_nat d 64
  have g1 : k ||| bN a 8 < 18446744073709551616 := or_nat64 (by omega) (by omega)
  have g2 : (k ||| bN a 8) ||| bN b 16 < 18446744073709551616 := or_nat64 g1 (by omega)
  have g3 : ((k ||| bN a 8) ||| bN b 16) ||| bN c 32 < 18446744073709551616 := or_nat64 g2 (by omega)
  have g4 : (((k ||| bN a 8) ||| bN b 16) ||| bN c 32) ||| bN d 64 < 18446744073709551616 := or_nat64 g3 (by omega)
  unfold wordW
  rw [e1, e2, f1, f2, f3, f4, u64_or_nat _ _ (by omega) (by omega), u64_or_nat _ _ g1 (by omega), u64_or_nat _ _ g2 (by omega), u64_or_nat _ _ g3 (by omega), u64_or_nat _ _ g4 (by omega)]
  congr 1
  rw [base_or k hk, Nat.or_comm, nat_join 8 (n * 256) _ (by omega) (by have := lowN_lt hk a b c d; unfold lowN at this; omega)]
  unfold lowN; omega

structure Ent where
  k : Int
  n : Int
  a : Bool
  b : Bool
  c : Bool
  d : Bool
  deriving DecidableEq
def enc (e : Ent) : Int × Int := encS e.k e.n e.a e.b e.c e.d
def fldE (w : Int) : Ent := ⟨w % 8, w / 256 % 4294967296, w / 8 % 2 == 1, w / 16 % 2 == 1, w / 32 % 2 == 1, w / 64 % 2 == 1⟩
def dec (w : Int) : Option Ent := if enc (fldE w) = (w, 0) then some (fldE w) else none
/-- The entry is well-formed. -/
def okE (e : Ent) : Prop := 0 ≤ e.k ∧ e.k ≤ 4 ∧ rngB e.k e.n e.d = false ∧ formS e.k e.n e.a e.b e.c e.d = true
def wrd (e : Ent) : Int := 256 * e.n + (lowN e.k.toNat e.a e.b e.c e.d : Int)
theorem enc_zero {e : Ent} (h : (enc e).2 = 0) : okE e := by
  unfold enc encS at h
  split at h
  · simp at h
  · split at h
    · simp at h
    · split at h
      · simp at h
      · rename_i h1 h2 h3
        exact ⟨by omega, by omega, by simpa using h2, by simpa using h3⟩
theorem enc_of_ok {e : Ent} (h : okE e) : enc e = (wrd e, 0) := by
  obtain ⟨h1, h2, h3, h4⟩ := h
  have hn := rng_bd h3
  unfold enc
  rw [enc_ok h1 h2 h3 h4]
  have e1 : e.k = ((e.k.toNat : Nat) : Int) := by omega
  have e2 : e.n = ((e.n.toNat : Nat) : Int) := by omega
  have := word_eq (k := e.k.toNat) (n := e.n.toNat) (by omega) (by omega) e.a e.b e.c e.d
  rw [← e1, ← e2] at this
  rw [this]
  unfold wrd
  simp only [Prod.mk.injEq, and_true]
  omega
theorem wrd_rng {e : Ent} (h : okE e) : 0 ≤ wrd e ∧ wrd e < 1099511627776 := by
  obtain ⟨h1, h2, h3, h4⟩ := h
  have hn := rng_bd h3
  have := lowN_lt (k := e.k.toNat) (by omega) e.a e.b e.c e.d
  unfold wrd; omega
theorem bN_bool (b : Bool) (v : Nat) : bN b v = v * bN b 1 := by cases b <;> simp [bN]
theorem bN_eq (b : Bool) (x : Int) (h : x = (bN b 1 : Int)) : (x == 1) = b := by subst h; cases b <;> rfl
theorem fld_wrd {e : Ent} (h : okE e) : fldE (wrd e) = e := by
  obtain ⟨h1, h2, h3, h4⟩ := h
  have hn := rng_bd h3
  have ha := bN_le e.a 1; have hb := bN_le e.b 1; have hc := bN_le e.c 1; have hd := bN_le e.d 1
  have w1 : wrd e = 256 * e.n + e.k + 8 * (bN e.a 1 : Int) + 16 * (bN e.b 1 : Int) + 32 * (bN e.c 1 : Int) + 64 * (bN e.d 1 : Int) := by
    unfold wrd lowN; rw [bN_bool e.a 8, bN_bool e.b 16, bN_bool e.c 32, bN_bool e.d 64]; omega
  have q0 : wrd e % 8 = e.k := by omega
  have q1 : wrd e / 256 % 4294967296 = e.n := by omega
  have q2 : (wrd e / 8 % 2 == 1) = e.a := bN_eq _ _ (by omega)
  have q3 : (wrd e / 16 % 2 == 1) = e.b := bN_eq _ _ (by omega)
  have q4 : (wrd e / 32 % 2 == 1) = e.c := bN_eq _ _ (by omega)
  have q5 : (wrd e / 64 % 2 == 1) = e.d := bN_eq _ _ (by omega)
  unfold fldE
  rw [q0, q1, q2, q3, q4, q5]
theorem dec_wrd {e : Ent} (h : okE e) : dec (wrd e) = some e := by
  unfold dec
  rw [fld_wrd h, enc_of_ok h, if_pos rfl]
theorem dec_some {w : Int} {e : Ent} (h : dec w = some e) : okE e ∧ w = wrd e ∧ fldE w = e := by
  unfold dec at h
  split at h
  · rename_i h1
    simp only [Option.some.injEq] at h
    rw [h] at h1
    have ho : okE e := enc_zero (by rw [h1])
    rw [enc_of_ok ho] at h1
    simp only [Prod.mk.injEq, and_true] at h1
    exact ⟨ho, h1.symm, h⟩
  · cases h

/- The fields as the code reckons them. -/
section
variable {w : Int} (h0 : 0 ≤ w) (h1 : w < 18446744073709551616)
include h0 h1
theorem f_kind : IntKind.i64.wrap (bits .and .u64 w 7) = w % 8 := by
  have e : w = ((w.toNat : Nat) : Int) := by omega
  have := u64_and_nat w.toNat 7 (by omega) (by omega)
  rw [nat_mask3, ← e] at this
  have h7 : ((7 : Nat) : Int) = 7 := rfl
  rw [h7] at this
  rw [this, IntKind.wrap_i64]; omega
theorem f_num : IntKind.i64.wrap (bits .and .u64 (w.fdiv (2 ^ min (Int.toNat 8) (IntKind.bits .u64))) 4294967295) = w / 256 % 4294967296 := by
  have e : min (Int.toNat 8) (IntKind.bits .u64) = 8 := rfl
  rw [e, show (2 ^ 8 : Int) = 256 from rfl, Int.fdiv_eq_ediv_of_nonneg _ (by omega), and_low32 _ (by omega) (by omega), IntKind.wrap_i64]; omega
theorem f_bit (i : Nat) (v : Int) (hv : v = ((2 ^ i : Nat) : Int)) (hi : i < 64) : bits .and .u64 w v = w / v % 2 * v := by
  have e : w = ((w.toNat : Nat) : Int) := by omega
  have hp : 2 ^ i < 18446744073709551616 := Nat.pow_lt_pow_right (a := 2) (n := 64) (by omega) hi
  have := u64_and_nat w.toNat (2 ^ i) (by omega) hp
  rw [nat_bit, ← e, ← hv] at this
  rw [this, Int.natCast_mul, Int.natCast_emod, Int.natCast_ediv, ← e, ← hv]; rfl
theorem f_ne (i : Nat) (v : Int) (hv : v = ((2 ^ i : Nat) : Int)) (hi : i < 64) : (bits .and .u64 w v != 0) = (w / v % 2 == 1) := by
  have hp : 0 < 2 ^ i := Nat.pow_pos (by omega)
  rw [f_bit h0 h1 i v hv hi, Bool.eq_iff_iff]
  simp only [bne_iff_ne, ne_eq, beq_iff_eq, Int.mul_eq_zero]
  omega
theorem f_gt (i : Nat) (v : Int) (hv : v = ((2 ^ i : Nat) : Int)) (hi : i < 64) : decide (bits .and .u64 w v > 0) = (w / v % 2 == 1) := by
  have hp : 0 < 2 ^ i := Nat.pow_pos (by omega)
  rw [f_bit h0 h1 i v hv hi, Bool.eq_iff_iff]
  simp only [decide_eq_true_eq, beq_iff_eq]
  have hm : w / v % 2 = 0 ∨ w / v % 2 = 1 := by omega
  rcases hm with h | h <;> rw [h] <;> omega
end
def deW (w : Int) : Ent := ⟨IntKind.i64.wrap (bits .and .u64 w 7), IntKind.i64.wrap (bits .and .u64 (w.fdiv (2 ^ min (Int.toNat 8) (IntKind.bits .u64))) 4294967295), bits .and .u64 w 8 != 0, bits .and .u64 w 16 != 0, bits .and .u64 w 32 != 0, bits .and .u64 w 64 != 0⟩
def deR (w : Int) : Ent := ⟨IntKind.i64.wrap (bits .and .u64 w 7), IntKind.i64.wrap (bits .and .u64 (w.fdiv (2 ^ min (Int.toNat 8) (IntKind.bits .u64))) 4294967295), decide (bits .and .u64 w 8 > 0), decide (bits .and .u64 w 16 > 0), decide (bits .and .u64 w 32 > 0), decide (bits .and .u64 w 64 > 0)⟩
theorem deW_eq {w : Int} (h0 : 0 ≤ w) (h1 : w < 18446744073709551616) : deW w = fldE w := by
  unfold deW fldE
  rw [f_kind h0 h1, f_num h0 h1, f_ne h0 h1 3 8 rfl (by omega), f_ne h0 h1 4 16 rfl (by omega), f_ne h0 h1 5 32 rfl (by omega), f_ne h0 h1 6 64 rfl (by omega)]
theorem deR_eq {w : Int} (h0 : 0 ≤ w) (h1 : w < 18446744073709551616) : deR w = fldE w := by
  unfold deR fldE
  rw [f_kind h0 h1, f_num h0 h1, f_gt h0 h1 3 8 rfl (by omega), f_gt h0 h1 4 16 rfl (by omega), f_gt h0 h1 5 32 rfl (by omega), f_gt h0 h1 6 64 rfl (by omega)]
theorem formR_eq {k n : Int} {a b c d : Bool} (h0 : 0 ≤ k) (h4 : k ≤ 4) : formR k n a b c d = formS k n a b c d := by
  have : k = 0 ∨ k = 1 ∨ k = 2 ∨ k = 3 ∨ k = 4 := by omega
  rcases this with rfl | rfl | rfl | rfl | rfl <;> rfl
def noEnt : Ent := ⟨0, 0, false, false, false, false⟩
def decR (w : Int) : Ent × Int := match dec w with
  | some e => (e, 0)
  | none => (noEnt, 3)
theorem decR_yes {w : Int} {e : Ent} (h : dec w = some e) : decR w = (e, 0) := by unfold decR; rw [h]
theorem decR_no {w : Int} (h : dec w = none) : decR w = (noEnt, 3) := by unfold decR; rw [h]
theorem decR_bad {w : Int} (h : ¬ ((enc (fldE w)).2 = 0 ∧ (enc (fldE w)).1 = w)) : decR w = (noEnt, 3) := by
  refine decR_no ?_
  unfold dec
  rw [if_neg]
  intro e
  exact h (by rw [e]; exact ⟨rfl, rfl⟩)
theorem decR_good {w : Int} (h : (enc (fldE w)).2 = 0 ∧ (enc (fldE w)).1 = w) : decR w = (fldE w, 0) := by
  refine decR_yes ?_
  unfold dec
  rw [if_pos]
  exact Prod.ext h.2 h.1
/- The other functions, as the code has them. -/
def pageR (x : Int) : Ent × Int := match decR x with
  | (e, c) => if c ≠ 0 then (noEnt, c) else if e.k ≠ 1 then (noEnt, 11) else (e, 0)
def markR (x : Int) (wr : Bool) : Int × Int := match pageR x with
  | (e, c) => if c ≠ 0 then (0, c) else if wr = false then (bits .or .u64 x 16, 0) else if e.a = false then (0, 12) else (bits .or .u64 (bits .or .u64 x 16) 32, 0)
def oldR (x : Int) : Int × Int := match pageR x with
  | (_, c) => if c ≠ 0 then (0, c) else (bits .andNot .u64 x 16, 0)
def protR (x : Int) : Int × Int := match decR x with
  | (e, c) => if c ≠ 0 then (0, c) else if e.k ≠ 1 ∧ e.k ≠ 3 then (0, 11) else (bits .andNot .u64 x 8, 0)
def partR (x i : Int) : Int × Int := match decR x with
  | (e, c) => if c ≠ 0 then (0, c) else if e.k ≠ 1 ∨ e.d = false then (0, 11) else if i < 0 ∨ 8 ≤ i then (0, 2) else enc ⟨e.k, e.n + i, e.a, e.b, e.c, false⟩
/- .. and as the reference has them. -/
def markQ (x : Int) (wr : Bool) : Int × Int := match decR x with
  | (e, c) => if c ≠ 0 then (0, c) else if e.k ≠ 1 then (0, 11) else if wr = true ∧ e.a = false then (0, 12) else if wr = true then (bits .or .u64 x 48, 0) else (bits .or .u64 x 16, 0)
def oldQ (x : Int) : Int × Int := match decR x with
  | (e, c) => if c ≠ 0 then (0, c) else if e.k ≠ 1 then (0, 11) else enc ⟨e.k, e.n, e.a, false, e.c, e.d⟩
def protQ (x : Int) : Int × Int := match decR x with
  | (e, c) => if c ≠ 0 then (0, c) else if e.k ≠ 1 ∧ e.k ≠ 3 then (0, 11) else enc ⟨e.k, e.n, false, e.b, e.c, e.d⟩
theorem decR_bd {x : Int} {e : Ent} {c : Int} (h : decR x = (e, c)) : 0 ≤ e.n ∧ e.n ≤ 4294967295 := by
  unfold decR at h
  cases hd : dec x with
  | none => rw [hd] at h; simp only [Prod.mk.injEq] at h; rw [← h.1]; decide
  | some e' =>
    rw [hd] at h; simp only [Prod.mk.injEq] at h
    have := rng_bd (dec_some hd).1.2.2.1
    rw [← h.1]; exact this
end Go.Proofs.Ytojfaelafakemaa

/- Plain laws of words and entries: what marking, aging and protecting make of an entry. No conditions. -/
set_option linter.unusedVariables false
namespace Go.Proofs.Ytojfaelafakemaa
open Go

theorem low_and247 : ∀ k, k < 8 → ∀ a b c d : Bool, lowN k a b c d &&& 247 = lowN k false b c d := by decide
theorem low_and239 : ∀ k, k < 8 → ∀ a b c d : Bool, lowN k a b c d &&& 239 = lowN k a false c d := by decide
theorem low_or16 : ∀ k, k < 8 → ∀ a b c d : Bool, lowN k a b c d ||| 16 = lowN k a true c d := by decide
theorem low_or32 : ∀ k, k < 8 → ∀ a b c d : Bool, lowN k a b c d ||| 32 = lowN k a b true d := by decide
theorem low_or48 : ∀ k, k < 8 → ∀ a b c d : Bool, lowN k a b c d ||| 48 = lowN k a true true d := by decide
theorem hl_or (n l m : Nat) (hl : l < 256) (hm : m < 256) (h : l ||| m < 256) : (256 * n + l) ||| m = 256 * n + (l ||| m) := by
  have := nat_hl_or (256 * n + l) m
  rw [show (256 * n + l) / 256 = n by omega, show (256 * n + l) % 256 = l by omega, show m / 256 = 0 by omega, show m % 256 = m by omega] at this
  simpa using this
theorem hl_andNot (n l m : Nat) (hn : n < 72057594037927936) (hl : l < 256) (hm : m < 256) : (256 * n + l) &&& (18446744073709551615 - m) = 256 * n + (l &&& (255 - m)) := by
  have := nat_hl_and (256 * n + l) (18446744073709551615 - m)
  rw [show (256 * n + l) / 256 = n by omega, show (256 * n + l) % 256 = l by omega, show (18446744073709551615 - m) / 256 = 72057594037927935 by omega, show (18446744073709551615 - m) % 256 = 255 - m by omega] at this
  rw [this]
  have h2 : n &&& 72057594037927935 = n % 72057594037927936 := Nat.and_two_pow_sub_one_eq_mod n 56
  rw [h2, Nat.mod_eq_of_lt hn]
section
variable {e : Ent} (h : okE e)
include h
theorem wrd_nat : ∃ n k : Nat, e.n = (n : Int) ∧ e.k = (k : Int) ∧ n < 4294967296 ∧ k < 8 ∧ wrd e = ((256 * n + lowN k e.a e.b e.c e.d : Nat) : Int) := by
  obtain ⟨h1, h2, h3, h4⟩ := h
  have hn := rng_bd h3
  refine ⟨e.n.toNat, e.k.toNat, by omega, by omega, by omega, by omega, ?_⟩
  unfold wrd; omega
theorem wrd_or (m : Nat) (hm : m < 256) (a b c d : Bool) (hlow : ∀ k, k < 8 → lowN k e.a e.b e.c e.d ||| m = lowN k a b c d) : bits .or .u64 (wrd e) (m : Int) = wrd ⟨e.k, e.n, a, b, c, d⟩ := by
  obtain ⟨n, k, hn, hk, h1, h2, hw⟩ := wrd_nat h
  have hl := lowN_lt h2 e.a e.b e.c e.d
  have hl' := lowN_lt h2 a b c d
  rw [hw, u64_or_nat _ _ (by omega) (by omega), hl_or _ _ _ (by omega) hm (by rw [hlow k h2]; omega), hlow k h2]
  unfold wrd
  rw [hn, hk]
  simp
theorem wrd_andNot (m : Nat) (hm : m < 256) (a b c d : Bool) (hlow : ∀ k, k < 8 → lowN k e.a e.b e.c e.d &&& (255 - m) = lowN k a b c d) : bits .andNot .u64 (wrd e) (m : Int) = wrd ⟨e.k, e.n, a, b, c, d⟩ := by
  obtain ⟨n, k, hn, hk, h1, h2, hw⟩ := wrd_nat h
  have hl := lowN_lt h2 e.a e.b e.c e.d
  rw [hw, u64_andNot_nat _ _ (by omega) (by omega), hl_andNot _ _ _ (by omega) (by omega) hm, hlow k h2]
  unfold wrd
  rw [hn, hk]
  simp
theorem w_prot : bits .andNot .u64 (wrd e) 8 = wrd ⟨e.k, e.n, false, e.b, e.c, e.d⟩ := wrd_andNot h 8 (by omega) _ _ _ _ fun k hk => low_and247 k hk ..
theorem w_old : bits .andNot .u64 (wrd e) 16 = wrd ⟨e.k, e.n, e.a, false, e.c, e.d⟩ := wrd_andNot h 16 (by omega) _ _ _ _ fun k hk => low_and239 k hk ..
theorem w_mark : bits .or .u64 (wrd e) 16 = wrd ⟨e.k, e.n, e.a, true, e.c, e.d⟩ := wrd_or h 16 (by omega) _ _ _ _ fun k hk => low_or16 k hk ..
theorem w_mark48 : bits .or .u64 (wrd e) 48 = wrd ⟨e.k, e.n, e.a, true, true, e.d⟩ := wrd_or h 48 (by omega) _ _ _ _ fun k hk => low_or48 k hk ..
theorem w_mark32 : bits .or .u64 (wrd e) 32 = wrd ⟨e.k, e.n, e.a, e.b, true, e.d⟩ := wrd_or h 32 (by omega) _ _ _ _ fun k hk => low_or32 k hk ..
end
theorem ok_page {n : Int} {a b c d a' b' c' : Bool} (h : okE ⟨1, n, a, b, c, d⟩) : okE ⟨1, n, a', b', c', d⟩ := ⟨by simp, by simp, h.2.2.1, rfl⟩
theorem ok_prot {k n : Int} {a b c d : Bool} (hk : k = 1 ∨ k = 3) (h : okE ⟨k, n, a, b, c, d⟩) : okE ⟨k, n, false, b, c, d⟩ := by
  rcases hk with rfl | rfl
  · exact ok_page h
  · exact ⟨by simp, by simp, h.2.2.1, by have := h.2.2.2; simp [formS] at this ⊢; exact this⟩
theorem decR_zero {x : Int} {e : Ent} (h : decR x = (e, 0)) : okE e ∧ x = wrd e := by
  unfold decR at h
  cases hd : dec x with
  | none => rw [hd] at h; simp at h
  | some e' =>
    rw [hd] at h
    simp only [Prod.mk.injEq, and_true] at h
    obtain ⟨h1, h2, _⟩ := dec_some hd
    rw [← h]; exact ⟨h1, h2⟩
theorem decR_wrd {e : Ent} (h : okE e) : decR (wrd e) = (e, 0) := decR_yes (dec_wrd h)
theorem decR_cases (x : Int) : (∃ e, decR x = (e, 0)) ∨ decR x = (noEnt, 3) := by
  unfold decR
  cases dec x with
  | none => exact .inr rfl
  | some e => exact .inl ⟨e, rfl⟩

theorem mark_same (x : Int) (wr : Bool) : markR x wr = markQ x wr := by
  rcases decR_cases x with ⟨⟨k, n, a, b, c, d⟩, h⟩ | h
  · obtain ⟨ho, hx⟩ := decR_zero h
    have h1 : bits .or .u64 (bits .or .u64 x 16) 32 = bits .or .u64 x 48 ∨ k ≠ 1 := by
      by_cases hk : k = 1
      · subst hk
        left
        rw [hx, w_mark ho, w_mark32 (ok_page ho), w_mark48 ho]
      · exact .inr hk
    unfold markR markQ pageR
    rw [h]
    by_cases hk : k = 1
    · rcases h1 with h1 | h1
      · cases wr <;> cases a <;> simp [hk, h1]
      · exact absurd hk h1
    · simp [hk]
  · unfold markR markQ pageR
    rw [h]
    simp
theorem old_same (x : Int) : oldR x = oldQ x := by
  rcases decR_cases x with ⟨⟨k, n, a, b, c, d⟩, h⟩ | h
  · obtain ⟨ho, hx⟩ := decR_zero h
    unfold oldR oldQ pageR
    rw [h]
    by_cases hk : k = 1
    · subst hk
      have h1 := w_old ho
      rw [← hx] at h1
      simp [h1, enc_of_ok (ok_page (a' := a) (b' := false) (c' := c) ho)]
    · simp [hk]
  · unfold oldR oldQ pageR
    rw [h]
    simp
theorem prot_same (x : Int) : protR x = protQ x := by
  rcases decR_cases x with ⟨⟨k, n, a, b, c, d⟩, h⟩ | h
  · obtain ⟨ho, hx⟩ := decR_zero h
    unfold protR protQ
    rw [h]
    by_cases hk : k = 1 ∨ k = 3
    · have h1 := w_prot ho
      rw [← hx] at h1
      have h2 : ¬ (k ≠ 1 ∧ k ≠ 3) := by omega
      simp [h1, enc_of_ok (ok_prot hk ho), h2]
    · have h2 : k ≠ 1 ∧ k ≠ 3 := by omega
      simp [h2]
  · unfold protR protQ
    rw [h]
    simp
/-- What Encode accepts is decoded to the same entry. -/
theorem inv_enc {k n : Int} {a b c d : Bool} {v : Int} (h : encS k n a b c d = (v, 0)) : decR v = (⟨k, n, a, b, c, d⟩, 0) ∧ 0 ≤ v ∧ v < 18446744073709551616 := by
  have ho : okE ⟨k, n, a, b, c, d⟩ := enc_zero (by unfold enc; rw [h])
  have h1 := enc_of_ok ho
  unfold enc at h1
  rw [h] at h1
  simp only [Prod.mk.injEq, and_true] at h1
  have := wrd_rng ho
  rw [h1]
  exact ⟨decR_wrd ho, this.1, by omega⟩
theorem inv_dec {x : Int} {e : Ent} (h : decR x = (e, 0)) : encS e.k e.n e.a e.b e.c e.d = (x, 0) := by
  obtain ⟨ho, hx⟩ := decR_zero h
  rw [hx]; exact enc_of_ok ho
theorem enc_err {k n : Int} {a b c d : Bool} {v u : Int} (h : encS k n a b c d = (v, u)) : 0 ≤ v ∧ v < 18446744073709551616 := by
  by_cases hu : u = 0
  · subst hu; exact (inv_enc h).2
  · unfold encS at h
    split at h
    · simp at h; omega
    · split at h
      · simp at h; omega
      · split at h
        · simp at h; omega
        · simp at h; omega
end Go.Proofs.Ytojfaelafakemaa

/- Lists in plain terms. No conditions. -/
set_option linter.unusedSimpArgs false
set_option linter.unusedVariables false
namespace Go.Proofs.Ytojfaelafakemaa
def eqB {α : Type} [DecidableEq α] (s x : α) : Bool := decide (s = x)
section
variable {α : Type} [Inhabited α] {p : α → Bool} {l m : List α} {k : Nat} {a : α}
theorem getD_get {j : Nat} (hj : j < l.length) : l.getD j default = l[j] := by
  rw [List.getD_eq_getElem?_getD, List.getElem?_eq_getElem hj]; rfl
theorem getD_any : l.any p = false ↔ ∀ j, j < l.length → p (l.getD j default) = false := by
  rw [List.any_eq_false]
  constructor
  · intro h j hj
    have := h _ (List.getElem_mem hj)
    rw [getD_get hj]
    simpa using this
  · intro h x hx
    obtain ⟨j, hj, rfl⟩ := List.getElem_of_mem hx
    have := h j hj
    rw [getD_get hj] at this
    simpa using this
/-- The first place of what p accepts, or -1. -/
def idxM {α : Type} (p : α → Bool) (l : List α) : Int := if l.any p then (l.findIdx p : Int) else -1
theorem idxM_some (hk : k < l.length) (hp : p (l.getD k default) = true) (hn : ∀ j, j < k → p (l.getD j default) = false) : idxM p l = (k : Int) := by
  have ha : l.any p = true := by
    rw [List.any_eq_true]
    exact ⟨l[k], List.getElem_mem hk, by rw [← getD_get hk]; exact hp⟩
  have : l.findIdx p = k := by
    rw [List.findIdx_eq hk]
    exact ⟨by rw [← getD_get hk]; exact hp, fun j hj => by rw [← getD_get (by omega)]; exact hn j hj⟩
  simp [idxM, ha, this]
theorem idxM_none (hn : ∀ j, j < l.length → p (l.getD j default) = false) : idxM p l = -1 := by
  simp [idxM, getD_any.2 hn]
theorem idxM_ge {α : Type} (p : α → Bool) (l : List α) : decide (idxM p l ≥ 0) = l.any p := by
  unfold idxM
  split <;> rename_i h <;> simp_all
theorem any_some (hk : k < l.length) (hp : p (l.getD k default) = true) : l.any p = true := by
  rw [List.any_eq_true]
  exact ⟨l[k], List.getElem_mem hk, by rw [← getD_get hk]; exact hp⟩
theorem idxM_lt {α : Type} {p : α → Bool} {l : List α} (h : l.any p = true) : 0 ≤ idxM p l ∧ (idxM p l).toNat < l.length := by
  rw [idxM, if_pos h]
  have : l.findIdx p < l.length := by
    rw [List.findIdx_lt_length]
    simpa using h
  omega
theorem idxM_at (h : l.any p = true) : p (l.getD (idxM p l).toNat default) = true := by
  have hlt := (idxM_lt h).2
  rw [getD_get hlt]
  rw [idxM, if_pos h] at hlt
  have := List.findIdx_getElem (p := p) (w := hlt)
  simpa [idxM, h] using this
theorem take_step (hk : k < l.length) : l.take (k + 1) = l.take k ++ [l.getD k default] := by
  rw [List.take_add_one, List.getD_eq_getElem?_getD, List.getElem?_eq_getElem hk]; rfl
theorem count_step (p : α → Bool) {l : List α} (hk : k < l.length) : (l.take (k + 1)).countP p = (l.take k).countP p + if p (l.getD k default) then 1 else 0 := by
  rw [take_step hk, List.countP_append, List.countP_singleton]
theorem count_le {α : Type} (p : α → Bool) (l : List α) (k : Nat) : (l.take k).countP p ≤ k :=
  Nat.le_trans List.countP_le_length (List.length_take_le _ _)
theorem all_step (hp : ∀ j, j < k → p (l.getD j default) = false) (h : p (l.getD k default) = false) : ∀ j, j < k + 1 → p (l.getD j default) = false := fun j hj => by
  rcases Nat.lt_or_eq_of_le (Nat.le_of_lt_succ hj) with h' | rfl
  · exact hp j h'
  · exact h
theorem all_next {q : Nat → Prop} (hp : ∀ j, j < k → q j) (h : q k) : ∀ j, j < k + 1 → q j := fun j hj => by
  rcases Nat.lt_or_eq_of_le (Nat.le_of_lt_succ hj) with h' | rfl
  · exact hp j h'
  · exact h
theorem set_self (hk : k < l.length) : l.set k (l.getD k default) = l := by
  rw [getD_get hk]; simp
theorem getD_set_self (hk : k < l.length) : (l.set k a).getD k default = a := by
  rw [getD_get (by simpa using hk)]; simp
theorem getD_set (j : Nat) (hk : k < l.length) : (l.set k a).getD j default = if j = k then a else l.getD j default := by
  by_cases h : j = k
  · subst h; rw [if_pos rfl, getD_set_self hk]
  · rw [if_neg h, List.getD_eq_getElem?_getD, List.getD_eq_getElem?_getD, List.getElem?_set_ne (fun e => h e.symm)]
theorem ext_getD (h : l.length = m.length) (h' : ∀ j, j < l.length → l.getD j default = m.getD j default) : l = m := by
  apply List.ext_getElem h
  intro j h1 h2
  rw [← getD_get h1, ← getD_get h2]
  exact h' j h1
theorem getD_app (j : Nat) : (l ++ m).getD j default = if j < l.length then l.getD j default else m.getD (j - l.length) default := by
  simp only [List.getD_eq_getElem?_getD]
  split
  · rw [List.getElem?_append_left (by assumption)]
  · rw [List.getElem?_append_right (by omega)]
theorem getD_take {j : Nat} (h : j < k) : (l.take k).getD j default = l.getD j default := by
  simp only [List.getD_eq_getElem?_getD]
  rw [List.getElem?_take, if_pos h]
theorem getD_drop (j : Nat) : (l.drop k).getD j default = l.getD (k + j) default := by
  simp only [List.getD_eq_getElem?_getD, List.getElem?_drop]
theorem getD_rep {j n : Nat} (h : j < n) : (List.replicate n a).getD j default = a := by
  rw [getD_get (by simpa using h), List.getElem_replicate]
end
end Go.Proofs.Ytojfaelafakemaa

/- What package tlb computes, in plain Lean. No conditions. -/
set_option linter.unusedSimpArgs false
set_option linter.unusedVariables false
namespace Go.Proofs.Ytojfaelafakemaa
open Go Go.RowKit
structure TE where
  s : Int
  p : Int
  w : Int
  deriving DecidableEq
instance : Enc TE where
  default := ⟨0, 0, 0⟩
  sz := 3
  enc := fun x => [.int .i64 x.s, .int .i64 x.p, .int .u64 x.w]
  dec := fun cs => match cs with | [.int _ a, .int _ b, .int _ c] => ⟨a, b, c⟩ | _ => ⟨0, 0, 0⟩
  len := fun _ => rfl
  one := fun _ u hu => by simp at hu; rcases hu with rfl | rfl | rfl <;> rfl
  pos := by decide
instance : ElT Try.prog 71 TE := ⟨trivial⟩
/-- The fields are of their types. -/
def Wf (x : TE) : Prop := (-9223372036854775808 ≤ x.s ∧ x.s ≤ 9223372036854775807) ∧ (-9223372036854775808 ≤ x.p ∧ x.p ≤ 9223372036854775807) ∧ 0 ≤ x.w ∧ x.w < 18446744073709551616
theorem wf_default : Wf default := by unfold Wf; decide
theorem wf_at {l : List TE} (h : ∀ x ∈ l, Wf x) (j : Nat) : Wf (l.getD j default) := by
  rcases Nat.lt_or_ge j l.length with hj | hj
  · rw [getD_get hj]; exact h _ (List.getElem_mem hj)
  · rw [List.getD_eq_getElem?_getD, List.getElem?_eq_none hj]; exact wf_default
def tr (w : Int) : Bool := decide ((decR w).2 = 0 ∧ (decR w).1.k = 1)
def hu (w : Int) : Bool := decide ((decR w).2 = 0) && (decR w).1.d
theorem hu_tr {w : Int} (h : hu w = true) : tr w = true := by
  unfold hu at h
  unfold tr
  rw [Bool.and_eq_true, decide_eq_true_eq] at h
  rcases decR_cases w with ⟨⟨k, n, a, b, c, d⟩, hp⟩ | hp
  · rw [hp] at h ⊢
    obtain ⟨h1, h2, h3, h4⟩ := (decR_zero hp).1
    obtain ⟨_, rfl⟩ : True ∧ d = true := ⟨trivial, h.2⟩
    simp only [formS] at h4
    simp only [true_and, decide_eq_true_eq]
    have h1' : 0 ≤ k := h1
    have h2' : k ≤ 4 := h2
    have : k = 0 ∨ k = 1 ∨ k = 2 ∨ k = 3 ∨ k = 4 := by omega
    rcases this with rfl | rfl | rfl | rfl | rfl <;> simp_all
  · rw [hp] at h
    exact absurd h.1 (by decide)
def spanM (w : Int) : Int := if hu w then 8 else 1
theorem span_bd (w : Int) : 1 ≤ spanM w ∧ spanM w ≤ 8 := by unfold spanM; split <;> omega
def covM (x : TE) (s p : Int) : Bool := decide (x.s = s ∧ x.p ≤ p ∧ p < x.p + spanM x.w)
def ovM (a b : TE) : Bool := decide (a.s = b.s ∧ a.p < b.p + spanM b.w ∧ b.p < a.p + spanM a.w)
def spR (s : Int) : Bool := decide (0 ≤ s ∧ s < 8)
def pgR (p : Int) : Bool := decide (0 ≤ p ∧ p < 512)
def plcM (s p : Int) : Int := if spR s = true ∧ pgR p = true then 0 else 2
theorem plc_ok {s p : Int} (h : plcM s p = 0) : (0 ≤ s ∧ s < 8) ∧ 0 ≤ p ∧ p < 512 := by
  unfold plcM spR pgR at h
  split at h
  · simp_all
  · cases h
theorem plc_of {s p : Int} (h : 0 ≤ s ∧ s < 8) (h' : 0 ≤ p ∧ p < 512) : plcM s p = 0 := if_pos ⟨decide_eq_true h, decide_eq_true h'⟩
def formT (x : TE) : Bool := tr x.w && !(hu x.w && decide (¬ x.p % 8 = 0))
def okT (x : TE) : Int := if plcM x.s x.p = 0 then (if formT x then 0 else 3) else 2
/-- An entry that is valid by itself. -/
structure Vd (x : TE) : Prop where
  s : 0 ≤ x.s ∧ x.s < 8
  p : 0 ≤ x.p ∧ x.p < 512
  t : tr x.w = true
  h : hu x.w = true → x.p % 8 = 0
theorem okT_vd {x : TE} : okT x = 0 ↔ Vd x := by
  unfold okT
  constructor
  · intro h
    split at h
    · rename_i h1
      split at h
      · rename_i h2
        obtain ⟨a, b⟩ := plc_ok h1
        unfold formT at h2
        simp only [Bool.and_eq_true, Bool.not_eq_true', Bool.and_eq_false_iff, decide_eq_false_iff_not, Decidable.not_not] at h2
        refine ⟨a, b, h2.1, fun hh => ?_⟩
        rcases h2.2 with h3 | h3
        · rw [hh] at h3; cases h3
        · exact h3
      · cases h
    · cases h
  · rintro ⟨a, b, c, d⟩
    rw [if_pos (plc_of a b), if_pos]
    unfold formT
    simp only [Bool.and_eq_true, Bool.not_eq_true', Bool.and_eq_false_iff, decide_eq_false_iff_not, Decidable.not_not]
    refine ⟨c, ?_⟩
    cases hh : hu x.w
    · exact .inl rfl
    · exact .inr (d hh)
def badAt (l : List TE) (i : Nat) : Int := if okT (l.getD i default) = 0 then (if (l.take i).any (ovM (l.getD i default)) then 7 else 0) else okT (l.getD i default)
/-- The first of the numbers from i on that is not 0, or 0. -/
def errG (g : Nat → Int) : Nat → Nat → Int
  | 0, _ => 0
  | f + 1, i => if g i = 0 then errG g f (i + 1) else g i
theorem errG_at {g : Nat → Int} {c : Int} (hc : ¬ c = 0) {i : Nat} (hi : g i = c) : ∀ f k, k ≤ i → i < k + f → (∀ j, k ≤ j → j < i → g j = 0) → errG g f k = c
  | 0, k, h1, h2, _ => by omega
  | f + 1, k, h1, h2, h3 => by
    rw [errG]
    by_cases e : k = i
    · rw [e, hi, if_neg hc]
    · rw [if_pos (h3 k (Nat.le_refl _) (by omega))]
      exact errG_at hc hi f (k + 1) (by omega) (by omega) fun j h4 h5 => h3 j (by omega) h5
theorem errG_no {g : Nat → Int} : ∀ f k, (∀ j, k ≤ j → j < k + f → g j = 0) → errG g f k = 0
  | 0, _, _ => rfl
  | f + 1, k, h => by
    rw [errG, if_pos (h k (Nat.le_refl _) (by omega))]
    exact errG_no f (k + 1) fun j h1 h2 => h j (by omega) (by omega)
theorem errG_zero {g : Nat → Int} : ∀ f k, errG g f k = 0 → ∀ j, k ≤ j → j < k + f → g j = 0
  | 0, k, _, j, h1, h2 => by omega
  | f + 1, k, h, j, h1, h2 => by
    rw [errG] at h
    split at h
    · by_cases e : j = k
      · rw [e]; assumption
      · exact errG_zero f (k + 1) h j (by omega) (by omega)
    · rename_i hn; exact absurd h hn
def checkM (z : Int) (l : List TE) : Int := if z < 1 ∨ 16 < z then 1 else if z < (l.length : Int) then 8 else errG (badAt l) l.length 0
/-- A valid cache. -/
structure Ok (size : Int) (l : List TE) : Prop where
  z : 1 ≤ size ∧ size ≤ 16
  n : (l.length : Int) ≤ size
  v : ∀ x ∈ l, Vd x
  d : l.Pairwise fun a b => ovM a b = false
theorem ov_comm (a b : TE) : ovM a b = ovM b a := by
  unfold ovM
  congr 1
  apply propext
  constructor <;> (rintro ⟨h1, h2, h3⟩; exact ⟨h1.symm, h3, h2⟩)
theorem bad_zero {l : List TE} {i : Nat} : badAt l i = 0 ↔ Vd (l.getD i default) ∧ (l.take i).any (ovM (l.getD i default)) = false := by
  unfold badAt
  constructor
  · intro h
    split at h
    · rename_i h1
      split at h
      · cases h
      · exact ⟨okT_vd.1 h1, by simp_all⟩
    · exact absurd h (by assumption)
  · rintro ⟨h1, h2⟩
    rw [if_pos (okT_vd.2 h1), h2]; rfl
theorem check_ok {z : Int} {l : List TE} : checkM z l = 0 ↔ Ok z l := by
  unfold checkM
  constructor
  · intro h
    split at h
    · cases h
    · split at h
      · cases h
      · have hz := errG_zero _ _ h
        refine ⟨by omega, by omega, fun x hx => ?_, ?_⟩
        · obtain ⟨j, hj, rfl⟩ := List.getElem_of_mem hx
          have := (bad_zero.1 (hz j (Nat.zero_le _) (by omega))).1
          rwa [getD_get hj] at this
        · rw [List.pairwise_iff_getElem]
          intro i j hi hj hij
          have h2 := (bad_zero.1 (hz j (Nat.zero_le _) (by omega))).2
          rw [List.any_eq_false] at h2
          have h3 := h2 l[i] (by rw [List.mem_take_iff_getElem]; exact ⟨i, by omega, rfl⟩)
          rw [getD_get hj] at h3
          rw [ov_comm]
          simpa using h3
  · rintro ⟨a, b, c, d⟩
    rw [if_neg (by omega), if_neg (by omega)]
    refine errG_no _ _ fun j _ hj => bad_zero.2 ?_
    have hj' : j < l.length := by omega
    rw [getD_get hj']
    refine ⟨c _ (List.getElem_mem hj'), ?_⟩
    rw [List.any_eq_false]
    intro x hx
    rw [List.mem_take_iff_getElem] at hx
    obtain ⟨i, hi, rfl⟩ := hx
    have := List.pairwise_iff_getElem.1 d i j (by omega) hj' (by omega)
    rw [ov_comm] at this
    simp [this]
/- As the reference says it. -/
def grp (p : Int) : Int := p - p % 8
def hitM (x : TE) (s p : Int) : Bool := if x.s = s then (if hu x.w then decide (0 ≤ p ∧ x.p = grp p) else decide (x.p = p)) else false
def hit2 (a b : TE) (i : Nat) : Bool := hitM a b.s (grp b.p + (i : Int)) && hitM b b.s (grp b.p + (i : Int))
def ovR (a b : TE) : Bool := (List.range 8).any (hit2 a b)
theorem hit_cov {x : TE} (h : Vd x) (s p : Int) : hitM x s p = covM x s p := by
  obtain ⟨h1, h2, h3, h4⟩ := h
  unfold hitM covM spanM grp
  rw [Bool.eq_iff_iff]
  by_cases e : x.s = s
  · rw [if_pos e]
    cases hh : hu x.w
    · simp only [Bool.false_eq_true, if_false, decide_eq_true_eq]
      omega
    · have := h4 hh
      simp only [if_true, decide_eq_true_eq]
      omega
  · rw [if_neg e]
    simp only [Bool.false_eq_true, decide_eq_true_eq, false_iff]
    omega
theorem ov_ref {a b : TE} (ha : Vd a) (hb : Vd b) : ovR a b = ovM b a := by
  have ga := ha.p
  have gb := hb.p
  have g1 := ha.h
  have g2 := hb.h
  have s1 := span_bd a.w
  have s2 := span_bd b.w
  unfold ovR hit2
  simp only [hit_cov ha, hit_cov hb]
  unfold covM ovM
  rw [Bool.eq_iff_iff, List.any_eq_true]
  simp only [Bool.and_eq_true, decide_eq_true_eq, eq_self, true_and]
  constructor
  · rintro ⟨i, hi, h1, h2⟩
    omega
  · rintro ⟨h1, h2, h3⟩
    have hg : grp b.p = b.p - b.p % 8 := rfl
    by_cases hh : hu b.w = true
    · have e1 := g2 hh
      have e2 : spanM b.w = 8 := by unfold spanM; rw [if_pos hh]
      by_cases hq : a.p ≤ b.p
      · exact ⟨0, List.mem_range.2 (by omega), by omega, by omega⟩
      · exact ⟨(a.p - b.p).toNat, List.mem_range.2 (by omega), by omega, by omega⟩
    · have e2 : spanM b.w = 1 := by unfold spanM; rw [if_neg hh]
      exact ⟨(b.p % 8).toNat, List.mem_range.2 (by omega), by omega, by omega⟩
end Go.Proofs.Ytojfaelafakemaa

/- What Lookup, Fill, Invalidate and Flush compute, in plain Lean. No conditions. -/
set_option linter.unusedSimpArgs false
set_option linter.unusedVariables false
namespace Go.Proofs.Ytojfaelafakemaa
open Go Go.RowKit
def lookL (l : List TE) (s p : Int) : Int × Bool := match l.find? (fun x => covM x s p) with | some x => (x.w, true) | none => (0, false)
def lookM (z : Int) (l : List TE) (s p : Int) : Int × Bool := if checkM z l = 0 then lookL l s p else (0, false)
theorem look_at {l : List TE} {s p : Int} {k : Nat} (hk : k < l.length) (h : covM (l.getD k default) s p = true) (hn : ∀ j, j < k → covM (l.getD j default) s p = false) : lookL l s p = ((l.getD k default).w, true) := by
  have : l.find? (fun x => covM x s p) = some (l.getD k default) := by
    rw [List.find?_eq_some_iff_getElem]
    refine ⟨h, k, hk, (getD_get hk).symm, fun j hj => ?_⟩
    have := hn j hj
    rw [getD_get (by omega)] at this
    simp [this]
  unfold lookL; rw [this]
theorem look_no {l : List TE} {s p : Int} (hn : ∀ j, j < l.length → covM (l.getD j default) s p = false) : lookL l s p = (0, false) := by
  have : l.find? (fun x => covM x s p) = none := by
    rw [List.find?_eq_none]
    intro x hx
    obtain ⟨j, hj, rfl⟩ := List.getElem_of_mem hx
    have := hn j hj
    rw [getD_get hj] at this
    simp [this]
  unfold lookL; rw [this]
def mkX (s p w : Int) : TE := ⟨s, if hu w then grp p else p, w⟩
def mkE (z : Int) (l : List TE) (s p w : Int) : Int := if checkM z l = 0 then (if plcM s p = 0 then (if tr w then 0 else 3) else 2) else checkM z l
def mkK (l : List TE) (x : TE) : List TE := l.filter fun y => !ovM x y
def dropK (z : Int) (k : List TE) : List TE := if (k.length : Int) = z then k.drop 1 else k
def mkL (z : Int) (l : List TE) (x : TE) : List TE := dropK z (mkK l x) ++ [x]
def resZ (e z : Int) : Int := if e = 0 then z else 0
def resL (e : Int) (l : List TE) : List TE := if e = 0 then l else []
def invE (z : Int) (l : List TE) (s p : Int) : Int := if checkM z l = 0 then plcM s p else checkM z l
def invL (l : List TE) (s p : Int) : List TE := l.filter fun y => !covM y s p
def flE (z : Int) (l : List TE) (s : Int) : Int := if checkM z l = 0 then plcM s 0 else checkM z l
def flL (l : List TE) (s : Int) : List TE := l.filter fun y => !(y.s == s)
theorem plc_two {s p : Int} : plcM s p = 0 ∨ plcM s p = 2 := by unfold plcM; split <;> simp
theorem plc_ne {s p : Int} (h : ¬ plcM s p = 0) : plcM s p = 2 := by rcases plc_two (s := s) (p := p) with h' | h' <;> simp_all
theorem dropK_le {z : Int} {l : List TE} (hz : 1 ≤ z) (hl : (l.length : Int) ≤ z) : ((dropK z l).length : Int) + 1 ≤ z := by
  unfold dropK
  split
  · rw [List.length_drop]; omega
  · omega
theorem mkX_vd {s p w : Int} (h : plcM s p = 0) (ht : tr w = true) : Vd (mkX s p w) := by
  obtain ⟨h1, h2⟩ := plc_ok h
  refine ⟨h1, ?_, ht, fun hh => ?_⟩
  · show 0 ≤ (if hu w then grp p else p) ∧ (if hu w then grp p else p) < 512
    unfold grp
    split <;> omega
  · show (if hu w then grp p else p) % 8 = 0
    have : hu w = true := hh
    rw [if_pos this]
    unfold grp; omega
end Go.Proofs.Ytojfaelafakemaa
