/- Texts joined: PteSpec, TlbPte. Each part's own remark says what it proves. -/
import Derived.WalkKit
import Derived.Test.YtbgjelhefhcnpaaGreatM06
/- What the functions of package pte compute, in plain Lean. No conditions. -/
namespace Go.Proofs.YtbgjelhefhcnpaaGreat
open Go

def bitS (b : Bool) (v : Int) : Int := if b then v else 0
def formS (k n : Int) (a b c d : Bool) : Bool :=
  if k = 0 then n == 0 && !a && !b && !c && !d else if k = 2 then !a && !b && !c && !d else if k = 4 then !a && !b && !c && !d else if k = 3 then !b && !c && !d else k == 1
def formR (k n : Int) (a b c d : Bool) : Bool :=
  if k = 1 then true else if k = 3 then !b && !c && !d else if k = 0 then n == 0 && !a && !b && !c && !d else !a && !b && !c && !d
def wordW (k n : Int) (a b c d : Bool) : Int := bits .or .u64 (bits .or .u64 (bits .or .u64 (bits .or .u64 (bits .or .u64 (IntKind.u64.wrap k) (bitS a 8)) (bitS b 16)) (bitS c 32)) (bitS d 64)) (IntKind.u64.wrap (IntKind.u64.wrap n * 2 ^ (min (Int.toNat 8) (IntKind.bits .u64))))
def rngB (k n : Int) (d : Bool) : Bool := decide (n < 0) || decide (4294967295 < n) || k == 1 && d && decide (4294967288 < n)
def encS (k n : Int) (a b c d : Bool) : Int × Int :=
  if k < 0 ∨ 4 < k then (0, 1) else if rngB k n d = true then (0, 2) else if formS k n a b c d = false then (0, 3) else (wordW k n a b c d, 0)
theorem rng_bd {k n : Int} {d : Bool} (h : rngB k n d = false) : 0 ≤ n ∧ n ≤ 4294967295 := by simp [rngB] at h; omega
theorem enc_arg {k n : Int} {a b c d : Bool} (h : k < 0 ∨ 4 < k) : encS k n a b c d = (0, 1) := by unfold encS; rw [if_pos h]
theorem enc_rng {k n : Int} {a b c d : Bool} (h0 : 0 ≤ k) (h4 : k ≤ 4) (h : rngB k n d = true) : encS k n a b c d = (0, 2) := by unfold encS; rw [if_neg (by omega), if_pos h]
theorem enc_form {k n : Int} {a b c d : Bool} (h0 : 0 ≤ k) (h4 : k ≤ 4) (h : rngB k n d = false) (hf : formS k n a b c d = false) : encS k n a b c d = (0, 3) := by unfold encS; rw [if_neg (by omega), if_neg (by simp [h]), if_pos hf]
theorem enc_ok {k n : Int} {a b c d : Bool} (h0 : 0 ≤ k) (h4 : k ≤ 4) (h : rngB k n d = false) (hf : formS k n a b c d = true) : encS k n a b c d = (wordW k n a b c d, 0) := by unfold encS; rw [if_neg (by omega), if_neg (by simp [h]), if_neg (by simp [hf])]

/- Words and entries, in numbers. -/
theorem nat_hl_and (x y : Nat) : x &&& y = 256 * (x / 256 &&& y / 256) + (x % 256 &&& y % 256) := by
  have h1 : (x &&& y) / 2 ^ 8 = x / 2 ^ 8 &&& y / 2 ^ 8 := Nat.and_div_two_pow ..
  have h2 : (x &&& y) % 2 ^ 8 = (x % 2 ^ 8) &&& (y % 2 ^ 8) := Nat.and_mod_two_pow ..
  have h3 := Nat.div_add_mod (x &&& y) (2 ^ 8)
  rw [h1, h2] at h3
  exact h3.symm
theorem nat_hl_or (x y : Nat) : x ||| y = 256 * (x / 256 ||| y / 256) + (x % 256 ||| y % 256) := by
  have h1 : (x ||| y) / 2 ^ 8 = x / 2 ^ 8 ||| y / 2 ^ 8 := Nat.or_div_two_pow ..
  have h2 : (x ||| y) % 2 ^ 8 = (x % 2 ^ 8) ||| (y % 2 ^ 8) := Nat.or_mod_two_pow ..
  have h3 := Nat.div_add_mod (x ||| y) (2 ^ 8)
  rw [h1, h2] at h3
  exact h3.symm
def bN (b : Bool) (v : Nat) : Nat := if b then v else 0
theorem bitS_nat (b : Bool) (v : Nat) : bitS b (v : Int) = ((bN b v : Nat) : Int) := by cases b <;> rfl
theorem bN_le (b : Bool) (v : Nat) : bN b v ≤ v := by cases b <;> simp [bN]
theorem base_or : ∀ k, k < 8 → ∀ a b c d : Bool, (((k ||| bN a 8) ||| bN b 16) ||| bN c 32) ||| bN d 64 = k + bN a 8 + bN b 16 + bN c 32 + bN d 64 := by decide
def lowN (k : Nat) (a b c d : Bool) : Nat := k + bN a 8 + bN b 16 + bN c 32 + bN d 64
theorem lowN_lt {k : Nat} (h : k < 8) (a b c d : Bool) : lowN k a b c d < 128 := by
  unfold lowN; have := bN_le a 8; have := bN_le b 16; have := bN_le c 32; have := bN_le d 64; omega
theorem or_nat64 {x y : Nat} (hx : x < 18446744073709551616) (hy : y < 18446744073709551616) : x ||| y < 18446744073709551616 := Nat.or_lt_two_pow (n := 64) hx hy
theorem word_eq {k n : Nat} (hk : k < 8) (hn : n < 4294967296) (a b c d : Bool) : wordW k n a b c d = ((256 * n + lowN k a b c d : Nat) : Int) := by
  have ha := bN_le a 8; have hb := bN_le b 16; have hc := bN_le c 32; have hd := bN_le d 64
  have e1 : IntKind.u64.wrap (k : Int) = (k : Int) := by rw [IntKind.wrap_u64]; omega
  have e2 : IntKind.u64.wrap (IntKind.u64.wrap (n : Int) * 2 ^ (min (Int.toNat 8) (IntKind.bits .u64))) = ((n * 256 : Nat) : Int) := by
    have : min (Int.toNat 8) (IntKind.bits .u64) = 8 := rfl
    rw [this, IntKind.wrap_u64, IntKind.wrap_u64]; omega
  have f1 : bitS a 8 = ((bN a 8 : Nat) : Int) := bitS_nat a 8
  have f2 : bitS b 16 = ((bN b 16 : Nat) : Int) := bitS_nat b 16
  have f3 : bitS c 32 = ((bN c 32 : Nat) : Int) := bitS_nat c 32
  have f4 : bitS d 64 = ((bN d 64 : Nat) : Int) := bitS_nat d 64
  have g1 : k ||| bN a 8 < 18446744073709551616 := or_nat64 (by omega) (by omega)
  have g2 : (k ||| bN a 8) ||| bN b 16 < 18446744073709551616 := or_nat64 g1 (by omega)
  have g3 : ((k ||| bN a 8) ||| bN b 16) ||| bN c 32 < 18446744073709551616 := or_nat64 g2 (by omega)
  have g4 : (((k ||| bN a 8) ||| bN b 16) ||| bN c 32) ||| bN d 64 < 18446744073709551616 := or_nat64 g3 (by omega)
  unfold wordW
  rw [e1, e2, f1, f2, f3, f4, u64_or_nat _ _ (by omega) (by omega), u64_or_nat _ _ g1 (by omega), u64_or_nat _ _ g2 (by omega), u64_or_nat _ _ g3 (by omega), u64_or_nat _ _ g4 (by omega)]
  congr 1
  rw [base_or k hk, Nat.or_comm, nat_join 8 (n * 256) _ (by omega) (by have := lowN_lt hk a b c d; unfold lowN at this; omega)]
  unfold lowN; omega

structure Ent where
  k : Int
  n : Int
  a : Bool
  b : Bool
  c : Bool
  d : Bool
  deriving DecidableEq
def enc (e : Ent) : Int × Int := encS e.k e.n e.a e.b e.c e.d
def fldE (w : Int) : Ent := ⟨w % 8, w / 256 % 4294967296, w / 8 % 2 == 1, w / 16 % 2 == 1, w / 32 % 2 == 1, w / 64 % 2 == 1⟩
def dec (w : Int) : Option Ent := if enc (fldE w) = (w, 0) then some (fldE w) else none
/-- The entry is well-formed. -/
def okE (e : Ent) : Prop := 0 ≤ e.k ∧ e.k ≤ 4 ∧ rngB e.k e.n e.d = false ∧ formS e.k e.n e.a e.b e.c e.d = true
def wrd (e : Ent) : Int := 256 * e.n + (lowN e.k.toNat e.a e.b e.c e.d : Int)
theorem enc_zero {e : Ent} (h : (enc e).2 = 0) : okE e := by
  unfold enc encS at h
  split at h
  · simp at h
  · split at h
    · simp at h
    · split at h
      · simp at h
      · rename_i h1 h2 h3
        exact ⟨by omega, by omega, by simpa using h2, by simpa using h3⟩
theorem enc_of_ok {e : Ent} (h : okE e) : enc e = (wrd e, 0) := by
  obtain ⟨h1, h2, h3, h4⟩ := h
  have hn := rng_bd h3
  unfold enc
  rw [enc_ok h1 h2 h3 h4]
  have e1 : e.k = ((e.k.toNat : Nat) : Int) := by omega
  have e2 : e.n = ((e.n.toNat : Nat) : Int) := by omega
  have := word_eq (k := e.k.toNat) (n := e.n.toNat) (by omega) (by omega) e.a e.b e.c e.d
  rw [← e1, ← e2] at this
  rw [this]
  unfold wrd
  simp only [Prod.mk.injEq, and_true]
  omega
theorem wrd_rng {e : Ent} (h : okE e) : 0 ≤ wrd e ∧ wrd e < 1099511627776 := by
  obtain ⟨h1, h2, h3, h4⟩ := h
  have hn := rng_bd h3
  have := lowN_lt (k := e.k.toNat) (by omega) e.a e.b e.c e.d
  unfold wrd; omega
theorem bN_bool (b : Bool) (v : Nat) : bN b v = v * bN b 1 := by cases b <;> simp [bN]
theorem bN_eq (b : Bool) (x : Int) (h : x = (bN b 1 : Int)) : (x == 1) = b := by subst h; cases b <;> rfl
theorem fld_wrd {e : Ent} (h : okE e) : fldE (wrd e) = e := by
  obtain ⟨h1, h2, h3, h4⟩ := h
  have hn := rng_bd h3
  have ha := bN_le e.a 1; have hb := bN_le e.b 1; have hc := bN_le e.c 1; have hd := bN_le e.d 1
  have w1 : wrd e = 256 * e.n + e.k + 8 * (bN e.a 1 : Int) + 16 * (bN e.b 1 : Int) + 32 * (bN e.c 1 : Int) + 64 * (bN e.d 1 : Int) := by
    unfold wrd lowN; rw [bN_bool e.a 8, bN_bool e.b 16, bN_bool e.c 32, bN_bool e.d 64]; omega
  have q0 : wrd e % 8 = e.k := by omega
  have q1 : wrd e / 256 % 4294967296 = e.n := by omega
  have q2 : (wrd e / 8 % 2 == 1) = e.a := bN_eq _ _ (by omega)
  have q3 : (wrd e / 16 % 2 == 1) = e.b := bN_eq _ _ (by omega)
  have q4 : (wrd e / 32 % 2 == 1) = e.c := bN_eq _ _ (by omega)
  have q5 : (wrd e / 64 % 2 == 1) = e.d := bN_eq _ _ (by omega)
  unfold fldE
  rw [q0, q1, q2, q3, q4, q5]
theorem dec_wrd {e : Ent} (h : okE e) : dec (wrd e) = some e := by
  unfold dec
  rw [fld_wrd h, enc_of_ok h, if_pos rfl]
theorem dec_some {w : Int} {e : Ent} (h : dec w = some e) : okE e ∧ w = wrd e ∧ fldE w = e := by
  unfold dec at h
  split at h
  · rename_i h1
    simp only [Option.some.injEq] at h
    rw [h] at h1
    have ho : okE e := enc_zero (by rw [h1])
    rw [enc_of_ok ho] at h1
    simp only [Prod.mk.injEq, and_true] at h1
    exact ⟨ho, h1.symm, h⟩
  · cases h

/- The fields as the code reckons them. -/
section
variable {w : Int} (h0 : 0 ≤ w) (h1 : w < 18446744073709551616)
include h0 h1
theorem f_kind : IntKind.i64.wrap (bits .and .u64 w 7) = w % 8 := by
  have e : w = ((w.toNat : Nat) : Int) := by omega
  have := u64_and_nat w.toNat 7 (by omega) (by omega)
  rw [nat_mask3, ← e] at this
  have h7 : ((7 : Nat) : Int) = 7 := rfl
  rw [h7] at this
  rw [this, IntKind.wrap_i64]; omega
theorem f_num : IntKind.i64.wrap (bits .and .u64 (w.fdiv (2 ^ min (Int.toNat 8) (IntKind.bits .u64))) 4294967295) = w / 256 % 4294967296 := by
  have e : min (Int.toNat 8) (IntKind.bits .u64) = 8 := rfl
  rw [e, show (2 ^ 8 : Int) = 256 from rfl, Int.fdiv_eq_ediv_of_nonneg _ (by omega), and_low32 _ (by omega) (by omega), IntKind.wrap_i64]; omega
theorem f_bit (i : Nat) (v : Int) (hv : v = ((2 ^ i : Nat) : Int)) (hi : i < 64) : bits .and .u64 w v = w / v % 2 * v := by
  have e : w = ((w.toNat : Nat) : Int) := by omega
  have hp : 2 ^ i < 18446744073709551616 := Nat.pow_lt_pow_right (a := 2) (n := 64) (by omega) hi
  have := u64_and_nat w.toNat (2 ^ i) (by omega) hp
  rw [nat_bit, ← e, ← hv] at this
  rw [this, Int.natCast_mul, Int.natCast_emod, Int.natCast_ediv, ← e, ← hv]; rfl
theorem f_ne (i : Nat) (v : Int) (hv : v = ((2 ^ i : Nat) : Int)) (hi : i < 64) : (bits .and .u64 w v != 0) = (w / v % 2 == 1) := by
  have hp : 0 < 2 ^ i := Nat.pow_pos (by omega)
  rw [f_bit h0 h1 i v hv hi, Bool.eq_iff_iff]
  simp only [bne_iff_ne, ne_eq, beq_iff_eq, Int.mul_eq_zero]
  omega
theorem f_gt (i : Nat) (v : Int) (hv : v = ((2 ^ i : Nat) : Int)) (hi : i < 64) : decide (bits .and .u64 w v > 0) = (w / v % 2 == 1) := by
  have hp : 0 < 2 ^ i := Nat.pow_pos (by omega)
  rw [f_bit h0 h1 i v hv hi, Bool.eq_iff_iff]
  simp only [decide_eq_true_eq, beq_iff_eq]
  have hm : w / v % 2 = 0 ∨ w / v % 2 = 1 := by omega
  rcases hm with h | h <;> rw [h] <;> omega
end
def deW (w : Int) : Ent := ⟨IntKind.i64.wrap (bits .and .u64 w 7), IntKind.i64.wrap (bits .and .u64 (w.fdiv (2 ^ min (Int.toNat 8) (IntKind.bits .u64))) 4294967295), bits .and .u64 w 8 != 0, bits .and .u64 w 16 != 0, bits .and .u64 w 32 != 0, bits .and .u64 w 64 != 0⟩
def deR (w : Int) : Ent := ⟨IntKind.i64.wrap (bits .and .u64 w 7), IntKind.i64.wrap (bits .and .u64 (w.fdiv (2 ^ min (Int.toNat 8) (IntKind.bits .u64))) 4294967295), decide (bits .and .u64 w 8 > 0), decide (bits .and .u64 w 16 > 0), decide (bits .and .u64 w 32 > 0), decide (bits .and .u64 w 64 > 0)⟩
theorem deW_eq {w : Int} (h0 : 0 ≤ w) (h1 : w < 18446744073709551616) : deW w = fldE w := by
  unfold deW fldE
  rw [f_kind h0 h1, f_num h0 h1, f_ne h0 h1 3 8 rfl (by omega), f_ne h0 h1 4 16 rfl (by omega), f_ne h0 h1 5 32 rfl (by omega), f_ne h0 h1 6 64 rfl (by omega)]
theorem deR_eq {w : Int} (h0 : 0 ≤ w) (h1 : w < 18446744073709551616) : deR w = fldE w := by
  unfold deR fldE
  rw [f_kind h0 h1, f_num h0 h1, f_gt h0 h1 3 8 rfl (by omega), f_gt h0 h1 4 16 rfl (by omega), f_gt h0 h1 5 32 rfl (by omega), f_gt h0 h1 6 64 rfl (by omega)]
theorem formR_eq {k n : Int} {a b c d : Bool} (h0 : 0 ≤ k) (h4 : k ≤ 4) : formR k n a b c d = formS k n a b c d := by
  have : k = 0 ∨ k = 1 ∨ k = 2 ∨ k = 3 ∨ k = 4 := by omega
  rcases this with rfl | rfl | rfl | rfl | rfl <;> rfl
def noEnt : Ent := ⟨0, 0, false, false, false, false⟩
def decR (w : Int) : Ent × Int := match dec w with
  | some e => (e, 0)
  | none => (noEnt, 3)
theorem decR_yes {w : Int} {e : Ent} (h : dec w = some e) : decR w = (e, 0) := by unfold decR; rw [h]
theorem decR_no {w : Int} (h : dec w = none) : decR w = (noEnt, 3) := by unfold decR; rw [h]
theorem decR_bad {w : Int} (h : ¬ ((enc (fldE w)).2 = 0 ∧ (enc (fldE w)).1 = w)) : decR w = (noEnt, 3) := by
  refine decR_no ?_
  unfold dec
  rw [if_neg]
  intro e
  exact h (by rw [e]; exact ⟨rfl, rfl⟩)
theorem decR_good {w : Int} (h : (enc (fldE w)).2 = 0 ∧ (enc (fldE w)).1 = w) : decR w = (fldE w, 0) := by
  refine decR_yes ?_
  unfold dec
  rw [if_pos]
  exact Prod.ext h.2 h.1
/- The other functions, as the code has them. -/
def pageR (x : Int) : Ent × Int := match decR x with
  | (e, c) => if c ≠ 0 then (noEnt, c) else if e.k ≠ 1 then (noEnt, 11) else (e, 0)
def markR (x : Int) (wr : Bool) : Int × Int := match pageR x with
  | (e, c) => if c ≠ 0 then (0, c) else if wr = false then (bits .or .u64 x 16, 0) else if e.a = false then (0, 12) else (bits .or .u64 (bits .or .u64 x 16) 32, 0)
def oldR (x : Int) : Int × Int := match pageR x with
  | (_, c) => if c ≠ 0 then (0, c) else (bits .andNot .u64 x 16, 0)
def protR (x : Int) : Int × Int := match decR x with
  | (e, c) => if c ≠ 0 then (0, c) else if e.k ≠ 1 ∧ e.k ≠ 3 then (0, 11) else (bits .andNot .u64 x 8, 0)
def partR (x i : Int) : Int × Int := match decR x with
  | (e, c) => if c ≠ 0 then (0, c) else if e.k ≠ 1 ∨ e.d = false then (0, 11) else if i < 0 ∨ 8 ≤ i then (0, 2) else enc ⟨e.k, e.n + i, e.a, e.b, e.c, false⟩
/- .. and as the reference has them. -/
def markQ (x : Int) (wr : Bool) : Int × Int := match decR x with
  | (e, c) => if c ≠ 0 then (0, c) else if e.k ≠ 1 then (0, 11) else if wr = true ∧ e.a = false then (0, 12) else if wr = true then (bits .or .u64 x 48, 0) else (bits .or .u64 x 16, 0)
def oldQ (x : Int) : Int × Int := match decR x with
  | (e, c) => if c ≠ 0 then (0, c) else if e.k ≠ 1 then (0, 11) else enc ⟨e.k, e.n, e.a, false, e.c, e.d⟩
def protQ (x : Int) : Int × Int := match decR x with
  | (e, c) => if c ≠ 0 then (0, c) else if e.k ≠ 1 ∧ e.k ≠ 3 then (0, 11) else enc ⟨e.k, e.n, false, e.b, e.c, e.d⟩
theorem decR_bd {x : Int} {e : Ent} {c : Int} (h : decR x = (e, c)) : 0 ≤ e.n ∧ e.n ≤ 4294967295 := by
  unfold decR at h
  cases hd : dec x with
  | none => rw [hd] at h; simp only [Prod.mk.injEq] at h; rw [← h.1]; decide
  | some e' =>
    rw [hd] at h; simp only [Prod.mk.injEq] at h
    have := rng_bd (dec_some hd).1.2.2.1
    rw [← h.1]; exact this
end Go.Proofs.YtbgjelhefhcnpaaGreat

/- Walks of Encode and Decode of package pte and of its reference. No conditions. -/
set_option linter.unusedSimpArgs false
set_option linter.unusedVariables false
namespace Go.Proofs.YtbgjelhefhcnpaaGreat
open Go Go.RowKit
attribute [local irreducible] Code.wp wpList bodyPost Exit.then Exit.inBlock Calls wpQuiet Tri TriQ

abbrev entV (k n : Int) (a b c d : Bool) : Value := .agg #[.int .i64 k, .int .i64 n, .bool a, .bool b, .bool c, .bool d]

theorem ret_bool {a b : Bool} (h : a = b) : Ending.returned (.bool a) = .returned (.bool b) := by rw [h]
set_option maxHeartbeats 400000 in
theorem flag_any (b : Bool) (v : Int) (w : World) : Calls Tryz.prog 74 [.bool b, .int .u64 v].toArray w (Ret (.int .u64 (bitS b v)) w) := by
  refine calls_of_tri Tryz.func74 rfl Tryz.ntmps74 rfl ?_
  cases b
  all_goals
    (repeat (first | refine au_pure ?_ | refine au_pass ?_ | refine au_box (fun _ => ?_) | refine au_alloc (fun _ => ?_) | refine au_store ?_ | refine au_make rfl rfl (fun _ => ?_) | refine au_lit rfl rfl rfl (fun _ => ?_) | refine au_append rfl rfl rfl rfl (fun _ => au_norm ?_) | refine au_storeE rfl rfl rfl rfl ?_ | refine tri_seq ?_ | refine tri_then ?_ | refine tri_region ?_ | refine tri_nil ?_ | refine tri_skip ?_ | refine tri_ret ?_ | refine tri_exit ?_ | refine tri_thenr ?_ | refine tri_thene ?_ | refine tri_blkn ?_ | refine tri_blkr ?_ | refine tri_blke ?_ | refine tri_blko (by rfl) ?_ | refine tri_if_t (by rfl) ?_ | refine tri_if_f (by rfl) ?_ | fail))
    refine au_done1 rfl ?_
    exact fun w h => ⟨rfl, h.below⟩

set_option maxHeartbeats 400000 in
theorem formed_any (k n : Int) (a b c d : Bool) (w : World) : Calls Tryz.prog 73 [entV k n a b c d].toArray w (Ret (.bool (formS k n a b c d)) w) := by
  refine calls_of_tri Tryz.func73 rfl Tryz.ntmps73 rfl ?_
  (repeat' (first | refine au_pure ?_ | refine au_pass ?_ | refine au_box (fun _ => ?_) | refine au_alloc (fun _ => ?_) | refine au_store ?_ | refine au_make rfl rfl (fun _ => ?_) | refine au_lit rfl rfl rfl (fun _ => ?_) | refine au_append rfl rfl rfl rfl (fun _ => au_norm ?_) | refine au_storeE rfl rfl rfl rfl ?_ | refine tri_seq ?_ | refine tri_then ?_ | refine tri_region ?_ | refine tri_nil ?_ | refine tri_skip ?_ | refine tri_ret ?_ | refine tri_exit ?_ | refine tri_thenr ?_ | refine tri_thene ?_ | refine tri_blkn ?_ | refine tri_blkr ?_ | refine tri_blke ?_ | refine tri_blko (by rfl) ?_ | refine tri_block ?_ | refine tri_if_t (by rfl) ?_ | refine tri_if_f (by rfl) ?_ | ((first | refine tri_cond (by rfl) (fun hc => ?_) (fun hc => ?_) | refine tri_gsplit (by rfl) (by rfl) (by (fail_if_success exact (rfl : _ = some (Value.bool true))); (fail_if_success exact (rfl : _ = some (Value.bool false))); rfl) (fun hc => ?_) (fun hc => ?_)) <;> (try simp only [decide_eq_true_eq, decide_eq_false_iff_not, beq_iff_eq, bne_iff_ne, ne_eq, Bool.not_eq_true', Bool.not_eq_false', beq_eq_false_iff_ne, bne_eq_false_iff_eq, Int.not_lt, Int.not_le, gt_iff_lt, ge_iff_le, Bool.and_eq_true, Bool.or_eq_true, Bool.and_eq_false_iff, Bool.or_eq_false_iff, Decidable.not_not, not_true_eq_false, not_false_eq_true, and_true, true_and, or_false, false_or, or_true, true_or, and_false, false_and, eq_self, Bool.true_eq_false, Bool.false_eq_true] at hc) <;> (try (exfalso; omega))) | fail))
  all_goals
    refine au_done1 rfl ?_
    refine fun w h => ⟨ret_bool ?_, h.below⟩
    simp_all [formS]

set_option maxHeartbeats 400000 in
theorem bit_any (b : Bool) (v : Int) (w : World) : Calls Tryz.prog 100 [.bool b, .int .u64 v].toArray w (Ret (.int .u64 (bitS b v)) w) := by
  refine calls_of_tri Tryz.func100 rfl Tryz.ntmps100 rfl ?_
  cases b
  all_goals
    (repeat (first | refine au_pure ?_ | refine au_pass ?_ | refine au_box (fun _ => ?_) | refine au_alloc (fun _ => ?_) | refine au_store ?_ | refine au_make rfl rfl (fun _ => ?_) | refine au_lit rfl rfl rfl (fun _ => ?_) | refine au_append rfl rfl rfl rfl (fun _ => au_norm ?_) | refine au_storeE rfl rfl rfl rfl ?_ | refine tri_seq ?_ | refine tri_then ?_ | refine tri_region ?_ | refine tri_nil ?_ | refine tri_skip ?_ | refine tri_ret ?_ | refine tri_exit ?_ | refine tri_thenr ?_ | refine tri_thene ?_ | refine tri_blkn ?_ | refine tri_blkr ?_ | refine tri_blke ?_ | refine tri_blko (by rfl) ?_ | refine tri_if_t (by rfl) ?_ | refine tri_if_f (by rfl) ?_ | fail))
    refine au_done1 rfl ?_
    exact fun w h => ⟨rfl, h.below⟩

set_option maxHeartbeats 400000 in
theorem form_any (k n : Int) (a b c d : Bool) (w : World) : Calls Tryz.prog 99 [entV k n a b c d].toArray w (Ret (.bool (formR k n a b c d)) w) := by
  refine calls_of_tri Tryz.func99 rfl Tryz.ntmps99 rfl ?_
  (repeat' (first | refine au_pure ?_ | refine au_pass ?_ | refine au_box (fun _ => ?_) | refine au_alloc (fun _ => ?_) | refine au_store ?_ | refine au_make rfl rfl (fun _ => ?_) | refine au_lit rfl rfl rfl (fun _ => ?_) | refine au_append rfl rfl rfl rfl (fun _ => au_norm ?_) | refine au_storeE rfl rfl rfl rfl ?_ | refine tri_seq ?_ | refine tri_then ?_ | refine tri_region ?_ | refine tri_nil ?_ | refine tri_skip ?_ | refine tri_ret ?_ | refine tri_exit ?_ | refine tri_thenr ?_ | refine tri_thene ?_ | refine tri_blkn ?_ | refine tri_blkr ?_ | refine tri_blke ?_ | refine tri_blko (by rfl) ?_ | refine tri_block ?_ | refine tri_if_t (by rfl) ?_ | refine tri_if_f (by rfl) ?_ | ((first | refine tri_cond (by rfl) (fun hc => ?_) (fun hc => ?_) | refine tri_gsplit (by rfl) (by rfl) (by (fail_if_success exact (rfl : _ = some (Value.bool true))); (fail_if_success exact (rfl : _ = some (Value.bool false))); rfl) (fun hc => ?_) (fun hc => ?_)) <;> (try simp only [decide_eq_true_eq, decide_eq_false_iff_not, beq_iff_eq, bne_iff_ne, ne_eq, Bool.not_eq_true', Bool.not_eq_false', beq_eq_false_iff_ne, bne_eq_false_iff_eq, Int.not_lt, Int.not_le, gt_iff_lt, ge_iff_le, Bool.and_eq_true, Bool.or_eq_true, Bool.and_eq_false_iff, Bool.or_eq_false_iff, Decidable.not_not, not_true_eq_false, not_false_eq_true, and_true, true_and, or_false, false_or, or_true, true_or, and_false, false_and, eq_self, Bool.true_eq_false, Bool.false_eq_true] at hc) <;> (try (exfalso; omega))) | fail))
  all_goals
    refine au_done1 rfl ?_
    refine fun w h => ⟨ret_bool ?_, h.below⟩
    simp_all [formR]

theorem ret_wi {a b : Int} {x : Int × Int} (h : x = (a, b)) : Ending.returned (.tuple #[.int .u64 a, .int .i64 b]) = .returned (.tuple #[.int .u64 x.1, .int .i64 x.2]) := by rw [h]
set_option maxHeartbeats 400000 in
theorem encode_any (k n : Int) (a b c d : Bool) (w : World) : Calls Tryz.prog 40 [entV k n a b c d].toArray w (Ret (.tuple #[.int .u64 (encS k n a b c d).1, .int .i64 (encS k n a b c d).2]) w) := by
  refine calls_of_tri Tryz.func40 rfl Tryz.ntmps40 rfl ?_
  (repeat (first | refine au_pure ?_ | refine au_pass ?_ | refine au_box (fun _ => ?_) | refine au_alloc (fun _ => ?_) | refine au_store ?_ | refine au_make rfl rfl (fun _ => ?_) | refine au_lit rfl rfl rfl (fun _ => ?_) | refine au_append rfl rfl rfl rfl (fun _ => au_norm ?_) | refine au_storeE rfl rfl rfl rfl ?_ | refine tri_seq ?_ | refine tri_then ?_ | refine tri_region ?_ | refine tri_nil ?_ | refine tri_skip ?_ | refine tri_ret ?_ | refine tri_exit ?_ | refine tri_thenr ?_ | refine tri_thene ?_ | refine tri_blkn ?_ | refine tri_blkr ?_ | refine tri_blke ?_ | refine tri_blko (by rfl) ?_ | refine tri_if_t (by rfl) ?_ | refine tri_if_f (by rfl) ?_ | fail))
  rename_i g
  refine tri_cut (α := PLift (0 ≤ k ∧ k ≤ 4)) (fun _ => [(1, .pointer (some ⟨g, 0, none⟩))]) (fun _ => Hp w [blkC g 62 [.int .i64 k, .int .i64 n, .bool a, .bool b, .bool c, .bool d]]) ?rest ?first
  case first =>
    (repeat' (first | refine au_pure ?_ | refine au_pass ?_ | refine au_box (fun _ => ?_) | refine au_alloc (fun _ => ?_) | refine au_store ?_ | refine au_make rfl rfl (fun _ => ?_) | refine au_lit rfl rfl rfl (fun _ => ?_) | refine au_append rfl rfl rfl rfl (fun _ => au_norm ?_) | refine au_storeE rfl rfl rfl rfl ?_ | refine tri_seq ?_ | refine tri_then ?_ | refine tri_region ?_ | refine tri_nil ?_ | refine tri_skip ?_ | refine tri_ret ?_ | refine tri_exit ?_ | refine tri_thenr ?_ | refine tri_thene ?_ | refine tri_blkn ?_ | refine tri_blkr ?_ | refine tri_blke ?_ | refine tri_blko (by rfl) ?_ | refine tri_block ?_ | refine tri_if_t (by rfl) ?_ | refine tri_if_f (by rfl) ?_ | ((first | refine tri_cond (by rfl) (fun hc => ?_) (fun hc => ?_) | refine tri_gsplit (by rfl) (by rfl) (by (fail_if_success exact (rfl : _ = some (Value.bool true))); (fail_if_success exact (rfl : _ = some (Value.bool false))); rfl) (fun hc => ?_) (fun hc => ?_)) <;> (try simp only [decide_eq_true_eq, decide_eq_false_iff_not, beq_iff_eq, bne_iff_ne, ne_eq, Bool.not_eq_true', Bool.not_eq_false', beq_eq_false_iff_ne, bne_eq_false_iff_eq, Int.not_lt, Int.not_le, gt_iff_lt, ge_iff_le, Bool.and_eq_true, Bool.or_eq_true, Bool.and_eq_false_iff, Bool.or_eq_false_iff, Decidable.not_not, not_true_eq_false, not_false_eq_true, and_true, true_and, or_false, false_or, or_true, true_or, and_false, false_and, eq_self, Bool.true_eq_false, Bool.false_eq_true] at hc) <;> (try (exfalso; omega))) | fail))
    all_goals first
      | exact tri_met ⟨by omega⟩ (by repeat (first | exact trivial | refine ⟨rfl, ?_⟩)) (fun _ h => h)
      | (refine au_done2 rfl ?_; exact fun w h => ⟨ret_wi (enc_arg (by omega)), h.below⟩)
  case rest =>
    rintro ⟨hk0, hk4⟩
    (repeat' (first | refine au_pure ?_ | refine au_pass ?_ | refine au_box (fun _ => ?_) | refine au_alloc (fun _ => ?_) | refine au_store ?_ | refine au_make rfl rfl (fun _ => ?_) | refine au_lit rfl rfl rfl (fun _ => ?_) | refine au_append rfl rfl rfl rfl (fun _ => au_norm ?_) | refine au_storeE rfl rfl rfl rfl ?_ | refine tri_seq ?_ | refine tri_then ?_ | refine tri_region ?_ | refine tri_nil ?_ | refine tri_skip ?_ | refine tri_ret ?_ | refine tri_exit ?_ | refine tri_thenr ?_ | refine tri_thene ?_ | refine tri_blkn ?_ | refine tri_blkr ?_ | refine tri_blke ?_ | refine tri_blko (by rfl) ?_ | refine tri_if_t (by rfl) ?_ | refine tri_if_f (by rfl) ?_ | ((first | refine tri_cond (by rfl) (fun hc => ?_) (fun hc => ?_) | refine tri_gsplit (by rfl) (by rfl) (by (fail_if_success exact (rfl : _ = some (Value.bool true))); (fail_if_success exact (rfl : _ = some (Value.bool false))); rfl) (fun hc => ?_) (fun hc => ?_)) <;> (try simp only [decide_eq_true_eq, decide_eq_false_iff_not, beq_iff_eq, bne_iff_ne, ne_eq, Bool.not_eq_true', Bool.not_eq_false', beq_eq_false_iff_ne, bne_eq_false_iff_eq, Int.not_lt, Int.not_le, gt_iff_lt, ge_iff_le, Bool.and_eq_true, Bool.or_eq_true, Bool.and_eq_false_iff, Bool.or_eq_false_iff, Decidable.not_not, not_true_eq_false, not_false_eq_true, and_true, true_and, or_false, false_or, or_true, true_or, and_false, false_and, eq_self, Bool.true_eq_false, Bool.false_eq_true] at hc) <;> (try (exfalso; omega))) | fail))
    all_goals try (refine au_done2 rfl ?_; exact fun w h => ⟨ret_wi (enc_rng hk0 hk4 (by simp_all [rngB])), h.below⟩)
    all_goals
      have hr : rngB k n d = false := by simp_all [rngB]
      refine au_call rfl rfl (cl_of rfl rfl rfl (fun _ h => Ret.hp (formed_any _ _ _ _ _ _ _) h)) ?_
      (repeat' (first | refine au_pure ?_ | refine au_pass ?_ | refine au_box (fun _ => ?_) | refine au_alloc (fun _ => ?_) | refine au_store ?_ | refine au_make rfl rfl (fun _ => ?_) | refine au_lit rfl rfl rfl (fun _ => ?_) | refine au_append rfl rfl rfl rfl (fun _ => au_norm ?_) | refine au_storeE rfl rfl rfl rfl ?_ | refine tri_seq ?_ | refine tri_then ?_ | refine tri_region ?_ | refine tri_nil ?_ | refine tri_skip ?_ | refine tri_ret ?_ | refine tri_exit ?_ | refine tri_thenr ?_ | refine tri_thene ?_ | refine tri_blkn ?_ | refine tri_blkr ?_ | refine tri_blke ?_ | refine tri_blko (by rfl) ?_ | refine tri_if_t (by rfl) ?_ | refine tri_if_f (by rfl) ?_ | ((first | refine tri_cond (by rfl) (fun hc => ?_) (fun hc => ?_) | refine tri_gsplit (by rfl) (by rfl) (by (fail_if_success exact (rfl : _ = some (Value.bool true))); (fail_if_success exact (rfl : _ = some (Value.bool false))); rfl) (fun hc => ?_) (fun hc => ?_)) <;> (try simp only [decide_eq_true_eq, decide_eq_false_iff_not, beq_iff_eq, bne_iff_ne, ne_eq, Bool.not_eq_true', Bool.not_eq_false', beq_eq_false_iff_ne, bne_eq_false_iff_eq, Int.not_lt, Int.not_le, gt_iff_lt, ge_iff_le, Bool.and_eq_true, Bool.or_eq_true, Bool.and_eq_false_iff, Bool.or_eq_false_iff, Decidable.not_not, not_true_eq_false, not_false_eq_true, and_true, true_and, or_false, false_or, or_true, true_or, and_false, false_and, eq_self, Bool.true_eq_false, Bool.false_eq_true] at hc) <;> (try (exfalso; omega))) | fail))
    all_goals try (refine au_done2 rfl ?_; exact fun w h => ⟨ret_wi (enc_form hk0 hk4 (by simp_all [rngB]) (by simp_all)), h.below⟩)
    all_goals
      refine au_draw rfl ?_; repeat (first | refine au_qpure rfl rfl ?_ | refine au_qpass rfl rfl ?_ | refine triq_nil ?_ | (refine triq_call rfl rfl (by first | exact wan_plain rfl | exact wan_yes rfl rfl rfl) (cl_of rfl rfl rfl (fun _ h => Ret.hp (flag_any _ _ _) h)) ?_))
      (repeat (first | refine au_pure ?_ | refine au_pass ?_ | refine au_box (fun _ => ?_) | refine au_alloc (fun _ => ?_) | refine au_store ?_ | refine au_make rfl rfl (fun _ => ?_) | refine au_lit rfl rfl rfl (fun _ => ?_) | refine au_append rfl rfl rfl rfl (fun _ => au_norm ?_) | refine au_storeE rfl rfl rfl rfl ?_ | refine tri_seq ?_ | refine tri_then ?_ | refine tri_region ?_ | refine tri_nil ?_ | refine tri_skip ?_ | refine tri_ret ?_ | refine tri_exit ?_ | refine tri_thenr ?_ | refine tri_thene ?_ | refine tri_blkn ?_ | refine tri_blkr ?_ | refine tri_blke ?_ | refine tri_blko (by rfl) ?_ | refine tri_if_t (by rfl) ?_ | refine tri_if_f (by rfl) ?_ | fail))
      refine au_done2 rfl ?_
      exact fun w h => ⟨ret_wi (show encS k n a b c d = (wordW k n a b c d, 0) from enc_ok hk0 hk4 (by assumption) (by assumption)), h.below⟩

set_option maxHeartbeats 400000 in
theorem rencode_any (k n : Int) (a b c d : Bool) (w : World) : Calls Tryz.prog 92 [entV k n a b c d].toArray w (Ret (.tuple #[.int .u64 (encS k n a b c d).1, .int .i64 (encS k n a b c d).2]) w) := by
  refine calls_of_tri Tryz.func92 rfl Tryz.ntmps92 rfl ?_
  (repeat' (first | refine au_pure ?_ | refine au_pass ?_ | refine au_box (fun _ => ?_) | refine au_alloc (fun _ => ?_) | refine au_store ?_ | refine au_make rfl rfl (fun _ => ?_) | refine au_lit rfl rfl rfl (fun _ => ?_) | refine au_append rfl rfl rfl rfl (fun _ => au_norm ?_) | refine au_storeE rfl rfl rfl rfl ?_ | refine tri_seq ?_ | refine tri_then ?_ | refine tri_region ?_ | refine tri_nil ?_ | refine tri_skip ?_ | refine tri_ret ?_ | refine tri_exit ?_ | refine tri_thenr ?_ | refine tri_thene ?_ | refine tri_blkn ?_ | refine tri_blkr ?_ | refine tri_blke ?_ | refine tri_blko (by rfl) ?_ | refine tri_if_t (by rfl) ?_ | refine tri_if_f (by rfl) ?_ | ((first | refine tri_cond (by rfl) (fun hc => ?_) (fun hc => ?_) | refine tri_gsplit (by rfl) (by rfl) (by (fail_if_success exact (rfl : _ = some (Value.bool true))); (fail_if_success exact (rfl : _ = some (Value.bool false))); rfl) (fun hc => ?_) (fun hc => ?_)) <;> (try simp only [decide_eq_true_eq, decide_eq_false_iff_not, beq_iff_eq, bne_iff_ne, ne_eq, Bool.not_eq_true', Bool.not_eq_false', beq_eq_false_iff_ne, bne_eq_false_iff_eq, Int.not_lt, Int.not_le, gt_iff_lt, ge_iff_le, Bool.and_eq_true, Bool.or_eq_true, Bool.and_eq_false_iff, Bool.or_eq_false_iff, Decidable.not_not, not_true_eq_false, not_false_eq_true, and_true, true_and, or_false, false_or, or_true, true_or, and_false, false_and, eq_self, Bool.true_eq_false, Bool.false_eq_true] at hc) <;> (try (exfalso; omega))) | fail))
  all_goals try (refine au_done2 rfl ?_; exact fun w h => ⟨ret_wi (enc_arg (by omega)), h.below⟩)
  all_goals try (refine au_done2 rfl ?_; exact fun w h => ⟨ret_wi (enc_rng (by omega) (by omega) (by simp_all [rngB])), h.below⟩)
  all_goals
    have hr : rngB k n d = false := by simp_all [rngB]
    refine au_call rfl rfl (cl_of rfl rfl rfl (fun _ h => Ret.hp (form_any _ _ _ _ _ _ _) h)) ?_
    rw [formR_eq (by omega) (by omega)]
    (repeat' (first | refine au_pure ?_ | refine au_pass ?_ | refine au_box (fun _ => ?_) | refine au_alloc (fun _ => ?_) | refine au_store ?_ | refine au_make rfl rfl (fun _ => ?_) | refine au_lit rfl rfl rfl (fun _ => ?_) | refine au_append rfl rfl rfl rfl (fun _ => au_norm ?_) | refine au_storeE rfl rfl rfl rfl ?_ | refine tri_seq ?_ | refine tri_then ?_ | refine tri_region ?_ | refine tri_nil ?_ | refine tri_skip ?_ | refine tri_ret ?_ | refine tri_exit ?_ | refine tri_thenr ?_ | refine tri_thene ?_ | refine tri_blkn ?_ | refine tri_blkr ?_ | refine tri_blke ?_ | refine tri_blko (by rfl) ?_ | refine tri_if_t (by rfl) ?_ | refine tri_if_f (by rfl) ?_ | ((first | refine tri_cond (by rfl) (fun hc => ?_) (fun hc => ?_) | refine tri_gsplit (by rfl) (by rfl) (by (fail_if_success exact (rfl : _ = some (Value.bool true))); (fail_if_success exact (rfl : _ = some (Value.bool false))); rfl) (fun hc => ?_) (fun hc => ?_)) <;> (try simp only [decide_eq_true_eq, decide_eq_false_iff_not, beq_iff_eq, bne_iff_ne, ne_eq, Bool.not_eq_true', Bool.not_eq_false', beq_eq_false_iff_ne, bne_eq_false_iff_eq, Int.not_lt, Int.not_le, gt_iff_lt, ge_iff_le, Bool.and_eq_true, Bool.or_eq_true, Bool.and_eq_false_iff, Bool.or_eq_false_iff, Decidable.not_not, not_true_eq_false, not_false_eq_true, and_true, true_and, or_false, false_or, or_true, true_or, and_false, false_and, eq_self, Bool.true_eq_false, Bool.false_eq_true] at hc) <;> (try (exfalso; omega))) | fail))
  all_goals try (refine au_done2 rfl ?_; exact fun w h => ⟨ret_wi (enc_form (by omega) (by omega) hr (by assumption)), h.below⟩)
  all_goals
    refine au_draw rfl ?_; repeat (first | refine au_qpure rfl rfl ?_ | refine au_qpass rfl rfl ?_ | refine triq_nil ?_ | (refine triq_call rfl rfl (by first | exact wan_plain rfl | exact wan_yes rfl rfl rfl) (cl_of rfl rfl rfl (fun _ h => Ret.hp (bit_any _ _ _) h)) ?_))
    (repeat (first | refine au_pure ?_ | refine au_pass ?_ | refine au_box (fun _ => ?_) | refine au_alloc (fun _ => ?_) | refine au_store ?_ | refine au_make rfl rfl (fun _ => ?_) | refine au_lit rfl rfl rfl (fun _ => ?_) | refine au_append rfl rfl rfl rfl (fun _ => au_norm ?_) | refine au_storeE rfl rfl rfl rfl ?_ | refine tri_seq ?_ | refine tri_then ?_ | refine tri_region ?_ | refine tri_nil ?_ | refine tri_skip ?_ | refine tri_ret ?_ | refine tri_exit ?_ | refine tri_thenr ?_ | refine tri_thene ?_ | refine tri_blkn ?_ | refine tri_blkr ?_ | refine tri_blke ?_ | refine tri_blko (by rfl) ?_ | refine tri_if_t (by rfl) ?_ | refine tri_if_f (by rfl) ?_ | fail))
    refine au_done2 rfl ?_
    exact fun w h => ⟨ret_wi (show encS k n a b c d = (wordW k n a b c d, 0) from enc_ok (by omega) (by omega) (by assumption) (by assumption)), h.below⟩

abbrev entE (e : Ent) : Value := entV e.k e.n e.a e.b e.c e.d
abbrev decV (x : Int) : Value := .tuple #[entE (decR x).1, .int .i64 (decR x).2]
theorem ret_de {x : Int} {e : Ent} {c : Int} (h : decR x = (e, c)) : Ending.returned (.tuple #[entE e, .int .i64 c]) = .returned (decV x) := by unfold decV; rw [h]
set_option maxHeartbeats 400000 in
theorem decode_any (x : Int) (w : World) (h0 : 0 ≤ x) (h1 : x < 18446744073709551616) : Calls Tryz.prog 20 [.int .u64 x].toArray w (Ret (decV x) w) := by
  have hde := deW_eq h0 h1
  have hbad : ¬ ((enc (deW x)).2 = 0 ∧ (enc (deW x)).1 = x) → decR x = (noEnt, 3) := fun h => decR_bad (by rwa [hde] at h)
  have hgood : (enc (deW x)).2 = 0 ∧ (enc (deW x)).1 = x → decR x = (deW x, 0) := fun h => by rw [hde] at h ⊢; exact decR_good h
  clear hde
  refine calls_of_tri Tryz.func20 rfl Tryz.ntmps20 rfl ?_
  (repeat (first | refine au_pure ?_ | refine au_pass ?_ | refine au_box (fun _ => ?_) | refine au_alloc (fun _ => ?_) | refine au_store ?_ | refine au_make rfl rfl (fun _ => ?_) | refine au_lit rfl rfl rfl (fun _ => ?_) | refine au_append rfl rfl rfl rfl (fun _ => au_norm ?_) | refine au_storeE rfl rfl rfl rfl ?_ | refine tri_seq ?_ | refine tri_then ?_ | refine tri_region ?_ | refine tri_nil ?_ | refine tri_skip ?_ | refine tri_ret ?_ | refine tri_exit ?_ | refine tri_thenr ?_ | refine tri_thene ?_ | refine tri_blkn ?_ | refine tri_blkr ?_ | refine tri_blke ?_ | refine tri_blko (by rfl) ?_ | refine tri_if_t (by rfl) ?_ | refine tri_if_f (by rfl) ?_ | fail))
  refine au_call rfl rfl (cl_of rfl rfl rfl (fun _ h => Ret.hp (encode_any _ _ _ _ _ _ _) h)) ?_
  (repeat' (first | refine au_pure ?_ | refine au_pass ?_ | refine au_box (fun _ => ?_) | refine au_alloc (fun _ => ?_) | refine au_store ?_ | refine au_make rfl rfl (fun _ => ?_) | refine au_lit rfl rfl rfl (fun _ => ?_) | refine au_append rfl rfl rfl rfl (fun _ => au_norm ?_) | refine au_storeE rfl rfl rfl rfl ?_ | refine tri_seq ?_ | refine tri_then ?_ | refine tri_region ?_ | refine tri_nil ?_ | refine tri_skip ?_ | refine tri_ret ?_ | refine tri_exit ?_ | refine tri_thenr ?_ | refine tri_thene ?_ | refine tri_blkn ?_ | refine tri_blkr ?_ | refine tri_blke ?_ | refine tri_blko (by rfl) ?_ | refine tri_if_t (by rfl) ?_ | refine tri_if_f (by rfl) ?_ | ((first | refine tri_cond (by rfl) (fun hc => ?_) (fun hc => ?_) | refine tri_gsplit (by rfl) (by rfl) (by (fail_if_success exact (rfl : _ = some (Value.bool true))); (fail_if_success exact (rfl : _ = some (Value.bool false))); rfl) (fun hc => ?_) (fun hc => ?_)) <;> (try simp only [decide_eq_true_eq, decide_eq_false_iff_not, beq_iff_eq, bne_iff_ne, ne_eq, Bool.not_eq_true', Bool.not_eq_false', beq_eq_false_iff_ne, bne_eq_false_iff_eq, Int.not_lt, Int.not_le, gt_iff_lt, ge_iff_le, Bool.and_eq_true, Bool.or_eq_true, Bool.and_eq_false_iff, Bool.or_eq_false_iff, Decidable.not_not, not_true_eq_false, not_false_eq_true, and_true, true_and, or_false, false_or, or_true, true_or, and_false, false_and, eq_self, Bool.true_eq_false, Bool.false_eq_true] at hc) <;> (try (exfalso; omega))) | fail))
  all_goals
    refine au_done2 rfl ?_
    first
      | exact fun w h => ⟨ret_de (hgood ⟨by assumption, by assumption⟩), h.below⟩
      | exact fun w h => ⟨ret_de (hbad (fun hh => by first | exact absurd hh.1 (by assumption) | exact absurd hh.2 (by assumption))), h.below⟩
set_option maxHeartbeats 400000 in
theorem rdecode_any (x : Int) (w : World) (h0 : 0 ≤ x) (h1 : x < 18446744073709551616) : Calls Tryz.prog 70 [.int .u64 x].toArray w (Ret (decV x) w) := by
  have hde := deR_eq h0 h1
  have hbad : ¬ ((enc (deR x)).2 = 0 ∧ (enc (deR x)).1 = x) → decR x = (noEnt, 3) := fun h => decR_bad (by rwa [hde] at h)
  have hgood : (enc (deR x)).2 = 0 ∧ (enc (deR x)).1 = x → decR x = (deR x, 0) := fun h => by rw [hde] at h ⊢; exact decR_good h
  clear hde
  refine calls_of_tri Tryz.func70 rfl Tryz.ntmps70 rfl ?_
  (repeat (first | refine au_pure ?_ | refine au_pass ?_ | refine au_box (fun _ => ?_) | refine au_alloc (fun _ => ?_) | refine au_store ?_ | refine au_make rfl rfl (fun _ => ?_) | refine au_lit rfl rfl rfl (fun _ => ?_) | refine au_append rfl rfl rfl rfl (fun _ => au_norm ?_) | refine au_storeE rfl rfl rfl rfl ?_ | refine tri_seq ?_ | refine tri_then ?_ | refine tri_region ?_ | refine tri_nil ?_ | refine tri_skip ?_ | refine tri_ret ?_ | refine tri_exit ?_ | refine tri_thenr ?_ | refine tri_thene ?_ | refine tri_blkn ?_ | refine tri_blkr ?_ | refine tri_blke ?_ | refine tri_blko (by rfl) ?_ | refine tri_if_t (by rfl) ?_ | refine tri_if_f (by rfl) ?_ | fail))
  refine au_call rfl rfl (cl_of rfl rfl rfl (fun _ h => Ret.hp (rencode_any _ _ _ _ _ _ _) h)) ?_
  (repeat' (first | refine au_pure ?_ | refine au_pass ?_ | refine au_box (fun _ => ?_) | refine au_alloc (fun _ => ?_) | refine au_store ?_ | refine au_make rfl rfl (fun _ => ?_) | refine au_lit rfl rfl rfl (fun _ => ?_) | refine au_append rfl rfl rfl rfl (fun _ => au_norm ?_) | refine au_storeE rfl rfl rfl rfl ?_ | refine tri_seq ?_ | refine tri_then ?_ | refine tri_region ?_ | refine tri_nil ?_ | refine tri_skip ?_ | refine tri_ret ?_ | refine tri_exit ?_ | refine tri_thenr ?_ | refine tri_thene ?_ | refine tri_blkn ?_ | refine tri_blkr ?_ | refine tri_blke ?_ | refine tri_blko (by rfl) ?_ | refine tri_if_t (by rfl) ?_ | refine tri_if_f (by rfl) ?_ | ((first | refine tri_cond (by rfl) (fun hc => ?_) (fun hc => ?_) | refine tri_gsplit (by rfl) (by rfl) (by (fail_if_success exact (rfl : _ = some (Value.bool true))); (fail_if_success exact (rfl : _ = some (Value.bool false))); rfl) (fun hc => ?_) (fun hc => ?_)) <;> (try simp only [decide_eq_true_eq, decide_eq_false_iff_not, beq_iff_eq, bne_iff_ne, ne_eq, Bool.not_eq_true', Bool.not_eq_false', beq_eq_false_iff_ne, bne_eq_false_iff_eq, Int.not_lt, Int.not_le, gt_iff_lt, ge_iff_le, Bool.and_eq_true, Bool.or_eq_true, Bool.and_eq_false_iff, Bool.or_eq_false_iff, Decidable.not_not, not_true_eq_false, not_false_eq_true, and_true, true_and, or_false, false_or, or_true, true_or, and_false, false_and, eq_self, Bool.true_eq_false, Bool.false_eq_true] at hc) <;> (try (exfalso; omega))) | fail))
  all_goals
    refine au_done2 rfl ?_
    first
      | exact fun w h => ⟨ret_de (hgood ⟨by assumption, by assumption⟩), h.below⟩
      | exact fun w h => ⟨ret_de (hbad (fun hh => by first | exact absurd hh.1 (by assumption) | exact absurd hh.2 (by assumption))), h.below⟩

theorem decode_at {x k n u : Int} {a b c d : Bool} (w : World) (h0 : 0 ≤ x) (h1 : x < 18446744073709551616) (hp : decR x = (⟨k, n, a, b, c, d⟩, u)) : Calls Tryz.prog 20 [.int .u64 x].toArray w (Ret (.tuple #[entV k n a b c d, .int .i64 u]) w) := by
  have := decode_any x w h0 h1
  unfold decV at this
  rwa [hp] at this
theorem rdecode_at {x k n u : Int} {a b c d : Bool} (w : World) (h0 : 0 ≤ x) (h1 : x < 18446744073709551616) (hp : decR x = (⟨k, n, a, b, c, d⟩, u)) : Calls Tryz.prog 70 [.int .u64 x].toArray w (Ret (.tuple #[entV k n a b c d, .int .i64 u]) w) := by
  have := rdecode_any x w h0 h1
  unfold decV at this
  rwa [hp] at this
end Go.Proofs.YtbgjelhefhcnpaaGreat
