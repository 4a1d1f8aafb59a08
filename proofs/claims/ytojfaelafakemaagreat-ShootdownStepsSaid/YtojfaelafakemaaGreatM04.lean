/- Texts joined: LiftS, LiftA, PteSpec, PteLaws, Cut. Each part's own remark says what it proves. -/
import Derived.Test.YtojfaelafakemaaGreatM02
import Derived.Test.YtojfaelafakemaaGreatM03
import Derived.Deep.Slices
import Derived.WalkKit
/- From the reading of an argument that is a slice to a list of the elements' own type. No conditions. -/
set_option linter.unusedVariables false
namespace Go.Proofs.YtojfaelafakemaaGreat
open Go Go.ChangeShapes Go.WideShapes Go.ChangeAt Go.RowKit

def I64 (z : Int) : Prop := -9223372036854775808 ≤ z ∧ z ≤ 9223372036854775807
/-- A type whose readings are values of α. -/
class Rds (P : Program) (t : Nat) (α : outParam Type) [Enc α] (W : outParam (α → Prop)) : Prop where
  sz : P.cellsOf t = Enc.sz α
  rd : ∀ {H : Type} {enc : TypeId × Value → H} {w : World} {base : Nat} {spare : Nat → Bool} {held : Bool} {n : Nat} {cs : List Value} {x : DataW H × List MemPlace}, DataW.trod enc P w base spare held n t cs = some x → cs.length = Enc.sz α → ∃ a : α, cs = Enc.enc a ∧ W a
section
variable {H : Type} {enc : TypeId × Value → H} {P : Program} {w : World} {base : Nat} {spare : Nat → Bool} {held : Bool}
theorem wf_i64 {z : Int} (h : (Lit.int .i64 z).wf = true) : I64 z := bounds_i64 h
theorem rds_int {t : Nat} (hU : P.underlying t = some (.int .i64)) (hc : P.cellsOf t = 1) : Rds P t Int I64 := ⟨hc, fun h _ => by
  obtain ⟨n, rfl, _, hw⟩ := DataW.trod_int hU h
  exact ⟨n, rfl, wf_i64 hw⟩⟩
theorem rds_bool {t : Nat} (hU : P.underlying t = some .bool) (hc : P.cellsOf t = 1) : Rds P t Bool (fun _ => True) := ⟨hc, fun h _ => by
  obtain ⟨b, rfl, _⟩ := DataW.trod_bool hU h
  exact ⟨b, rfl, trivial⟩⟩
/-- A field of one cell. -/
theorem field_int {t i : Nat} {fs : Array Field} {f : Field} {cs : List Value} {x : DataW H × List MemPlace} {n : Nat} (hs : P.underlying t = some (.struct fs)) (hf : fs[i]? = some f) (hU : P.underlying f.type = some (.int .i64)) (hc : P.cellsOf f.type = 1)
    (h : DataW.trod enc P w base spare held n t cs = some x) : ∃ z, cs[f.offset]? = some (.int .i64 z) ∧ I64 z := by
  obtain ⟨xs, k, _, _, _, hlen, hg⟩ := DataW.trod_struct hs h
  have hil : i < xs.length := by rw [hlen]; exact (Array.getElem?_eq_some_iff.1 hf).1
  have := hg i f hf
  rw [List.getElem?_eq_getElem hil, hc] at this
  obtain ⟨z, h1, _, hw⟩ := DataW.trod_int hU this
  refine ⟨z, ?_, wf_i64 hw⟩
  have h2 : ((cs.drop f.offset).take 1)[0]? = some (.int .i64 z) := by rw [h1]; rfl
  rw [List.getElem?_take, if_pos (by omega), List.getElem?_drop] at h2
  exact h2
theorem field_bool {t i : Nat} {fs : Array Field} {f : Field} {cs : List Value} {x : DataW H × List MemPlace} {n : Nat} (hs : P.underlying t = some (.struct fs)) (hf : fs[i]? = some f) (hU : P.underlying f.type = some .bool) (hc : P.cellsOf f.type = 1)
    (h : DataW.trod enc P w base spare held n t cs = some x) : ∃ z, cs[f.offset]? = some (.bool z) := by
  obtain ⟨xs, k, _, _, _, hlen, hg⟩ := DataW.trod_struct hs h
  have hil : i < xs.length := by rw [hlen]; exact (Array.getElem?_eq_some_iff.1 hf).1
  have := hg i f hf
  rw [List.getElem?_eq_getElem hil, hc] at this
  obtain ⟨z, h1, _⟩ := DataW.trod_bool hU this
  refine ⟨z, ?_⟩
  have h2 : ((cs.drop f.offset).take 1)[0]? = some (.bool z) := by rw [h1]; rfl
  rw [List.getElem?_take, if_pos (by omega), List.getElem?_drop] at h2
  exact h2
theorem mem_getD {α : Type} [Inhabited α] {l : List α} {a : α} (h : a ∈ l) : ∃ j, j < l.length ∧ l.getD j default = a := by
  obtain ⟨j, hj, rfl⟩ := List.getElem_of_mem h
  exact ⟨j, hj, by rw [List.getD_eq_getElem?_getD, List.getElem?_eq_getElem hj]; rfl⟩
theorem choose_list {α : Type} [Inhabited α] {p : Nat → α → Prop} : ∀ n, (∀ i, i < n → ∃ a, p i a) → ∃ l : List α, l.length = n ∧ ∀ i, i < n → p i (l.getD i default)
  | 0, _ => ⟨[], rfl, fun i hi => by omega⟩
  | n + 1, h => by
    obtain ⟨l, hl, hp⟩ := choose_list n fun i hi => h i (by omega)
    obtain ⟨a, ha⟩ := h n (by omega)
    refine ⟨l ++ [a], by simp [hl], fun i hi => ?_⟩
    rw [List.getD_eq_getElem?_getD]
    by_cases hin : i < n
    · rw [List.getElem?_append_left (by omega), ← List.getD_eq_getElem?_getD]; exact hp i hin
    · have : i = n := by omega
      subst this
      rw [List.getElem?_append_right (by omega), hl, Nat.sub_self]; exact ha
theorem rd_cells {α : Type} [Enc α] {W : α → Prop} {t e fuel : Nat} {v : Value} {x : DataW H × List MemPlace} [hR : Rds P e α W] (ht : P.underlying t = some (.slice e)) (h : DataW.trod enc P w base spare held fuel t [v] = some x) :
    ∃ l : List α, Rd w v l ∧ ∀ a ∈ l, W a := by
  rcases Deep.open_slice ht h with ⟨h0, _⟩ | ⟨a, len, cap, m, n, D, Pl, h0, hb, hl, hm, hmm, _, hx⟩
  · simp only [List.cons.injEq, and_true] at h0
    subst h0
    exact ⟨[], Rd.nil w, fun a ha => by cases ha⟩
  · simp only [List.cons.injEq, and_true] at h0
    subst h0
    have hlm : len ≤ m := by rw [hmm]; split <;> omega
    have hpos : 0 < Enc.sz α := Enc.pos
    obtain ⟨l, hll, hl2⟩ := choose_list (α := α) (p := fun i y => w.cells? base (a.add (i * Enc.sz α)) (Enc.sz α) = some (Enc.enc y) ∧ W y) len fun i hi => by
      obtain ⟨cs', h1, h2⟩ := hx i (by omega)
      rw [hR.sz] at h1
      obtain ⟨y, rfl, hw⟩ := hR.rd h2 (World.cells?_some h1).2.1
      exact ⟨y, h1, hw⟩
    have hspot : l ≠ [] → a.spot = none := fun hne => by
      have h0 : 0 < len := by rw [← hll]; exact List.length_pos_iff.2 hne
      have h1 := (World.cells?_some (hl2 0 h0).1).2.2 0 hpos
      have h2 : (Enc.enc (l.getD 0 default))[0]? = some ((Enc.enc (l.getD 0 default))[0]'(by rw [Enc.len]; exact hpos)) := List.getElem?_eq_getElem _
      rw [h2] at h1
      simpa [Addr.add] using World.cell?_spot h1
    refine ⟨l, ⟨⟨some a, cap, by rw [hll], by omega, hm, fun hne => ?_⟩, fun i j u hi hu => ?_⟩, fun y hy => ?_⟩
    · obtain ⟨b, o, s⟩ := a
      have := hspot hne
      simp only at this
      subst this
      rfl
    · have hne : l ≠ [] := fun e => by rw [e] at hi; simp at hi
      have hj : j < Enc.sz α := by rw [← Enc.len (l.getD i default)]; exact (List.getElem?_eq_some_iff.1 hu).1
      have h1 := (World.cells?_some (hl2 i (by omega)).1).2.2 j hj
      rw [hu] at h1
      have := hspot hne
      obtain ⟨b, o, s⟩ := a
      simp only at this
      subst this
      rw [add_lit, add_lit] at h1
      exact h1
    · obtain ⟨j, hj, rfl⟩ := mem_getD hy
      exact (hl2 j (by omega)).2
theorem rd_arg {α : Type} [Enc α] {W : α → Prop} {r : Reach} {b0 t e : Nat} {v : Value} {d : DataW H} {p : List MemPlace} [hR : Rds P e α W] (ht : P.underlying t = some (.slice e)) (hv : Value.okWide P w r b0 t v) (h : DataW.Trod enc P w base spare held t v d p) :
    ∃ l : List α, Rd w v l ∧ ∀ a ∈ l, W a := by
  obtain ⟨A, len, cap, rfl⟩ := okWide_slice ht hv
  obtain ⟨fuel, hf⟩ := h
  exact rd_cells ht (by simpa [Value.cells] using hf)
/-- A struct by value. -/
theorem rd_val {α : Type} [Enc α] {W : α → Prop} {r : Reach} {b0 t : Nat} {fs : Array Field} {v : Value} {d : DataW H} {p : List MemPlace} [hR : Rds P t α W] (hs : P.underlying t = some (.struct fs)) (hv : Value.okWide P w r b0 t v) (h : DataW.Trod enc P w base spare held t v d p) :
    ∃ a : α, v = .agg (Enc.enc a).toArray ∧ W a := by
  obtain ⟨cs, rfl, hsz⟩ := okWide_struct hs hv
  obtain ⟨fuel, hf⟩ := h
  obtain ⟨a, ha, hw⟩ := hR.rd hf (by rw [← hR.sz]; simpa [Value.cells] using hsz)
  refine ⟨a, ?_, hw⟩
  rw [← ha]
  simp [Value.cells]
theorem ret_of_cal {f : Nat} {args : List Value} {b : Bool} {W : World} (h : Cal P f args (Hp W []) (fun _ : Unit => .bool b) (fun _ => Hp W [])) : Calls P f args.toArray W (Ret (.bool b) W) :=
  (h W (Hp.init W)).mono fun e w' ⟨_, he, hw⟩ => ⟨he, hw.below⟩
end
end Go.Proofs.YtojfaelafakemaaGreat

/- From the reading of an argument that is an array by value to a list of its elements. No conditions. -/
set_option linter.unusedVariables false
namespace Go.Proofs.YtojfaelafakemaaGreat
open Go Go.ChangeShapes Go.WideShapes Go.ChangeAt Go.RowKit
section
variable {H : Type} {enc : TypeId × Value → H} {P : Program} {w : World} {base : Nat} {spare : Nat → Bool} {held : Bool}
theorem okWide_arr {r : Reach} {b0 n e : Nat} {t : TypeId} {v : Value} (ht : P.underlying t = some (.array n e)) (h : Value.okWide P w r b0 t v) : ∃ cs, v = .agg cs ∧ cs.size = P.cellsOf t := by
  simp only [Value.okWide, ht] at h
  obtain ⟨cs, h1, h2, _⟩ := h
  exact ⟨cs, h1, h2⟩
theorem arr_cells {α : Type} [Enc α] {W : α → Prop} {t e n fuel : Nat} {cs : List Value} {x : DataW H × List MemPlace} [hR : Rds P e α W] (ht : P.underlying t = some (.array n e)) (hc : P.cellsOf t = n * P.cellsOf e) (h : DataW.trod enc P w base spare held fuel t cs = some x) :
    ∃ l : List α, cs = encs l ∧ l.length = n ∧ ∀ a ∈ l, W a := by
  obtain ⟨xs, m, _, _, hl, hx, hg⟩ := DataW.trod_array ht h
  rw [hc] at hl
  have hsz := hR.sz
  have hpos : 0 < Enc.sz α := Enc.pos
  obtain ⟨l, hll, hl2⟩ := choose_list (α := α) (p := fun i y => (cs.drop (i * Enc.sz α)).take (Enc.sz α) = Enc.enc y ∧ W y) n fun i hi => by
    have h1 := hg i hi
    rw [List.getElem?_eq_getElem (by omega), hsz] at h1
    have hlen : ((cs.drop (i * Enc.sz α)).take (Enc.sz α)).length = Enc.sz α := by
      have : (i + 1) * Enc.sz α ≤ n * Enc.sz α := Nat.mul_le_mul_right _ hi
      rw [Nat.add_mul] at this
      rw [List.length_take, List.length_drop, hl, hsz]
      omega
    obtain ⟨y, h2, h3⟩ := hR.rd h1 hlen
    exact ⟨y, h2, h3⟩
  refine ⟨l, ?_, hll, fun a ha => ?_⟩
  · apply List.ext_getElem?
    intro j
    by_cases hj : j < n * Enc.sz α
    · have hi : j / Enc.sz α < n := Nat.div_lt_of_lt_mul (by rw [Nat.mul_comm]; exact hj)
      have e1 : j / Enc.sz α * Enc.sz α + j % Enc.sz α = j := by rw [Nat.mul_comm]; exact Nat.div_add_mod j _
      have hm : j % Enc.sz α < Enc.sz α := Nat.mod_lt _ hpos
      have h1 := encs_get (l := l) (i := j / Enc.sz α) (j := j % Enc.sz α) (by omega) hm
      rw [e1, ← (hl2 _ hi).1, List.getElem?_take, if_pos hm, List.getElem?_drop, e1] at h1
      exact h1.symm
    · rw [List.getElem?_eq_none (by rw [hl, hsz]; omega), List.getElem?_eq_none (by rw [length_encs, hll]; omega)]
  · obtain ⟨j, hj, rfl⟩ := mem_getD ha
    exact (hl2 j (by omega)).2
theorem arr_val {α : Type} [Enc α] {W : α → Prop} {r : Reach} {b0 t e n : Nat} {v : Value} {d : DataW H} {p : List MemPlace} [hR : Rds P e α W] (ht : P.underlying t = some (.array n e)) (hc : P.cellsOf t = n * P.cellsOf e) (hv : Value.okWide P w r b0 t v) (h : DataW.Trod enc P w base spare held t v d p) :
    ∃ l : List α, v = .agg (encs l).toArray ∧ l.length = n ∧ ∀ a ∈ l, W a := by
  obtain ⟨cs, rfl, hsz⟩ := okWide_arr ht hv
  obtain ⟨fuel, hf⟩ := h
  obtain ⟨l, h1, h2, h3⟩ := arr_cells ht hc hf
  refine ⟨l, ?_, h2, h3⟩
  rw [← h1]
  simp [Value.cells]
theorem getD_all {α : Type} [Inhabited α] {l : List α} {Q : α → Prop} (h : ∀ a ∈ l, Q a) (hd : Q default) (j : Nat) : Q (l.getD j default) := by
  rcases Nat.lt_or_ge j l.length with hj | hj
  · rw [List.getD_eq_getElem?_getD, List.getElem?_eq_getElem hj]
    exact h _ (List.getElem_mem hj)
  · rw [List.getD_eq_getElem?_getD, List.getElem?_eq_none hj]
    exact hd
end
end Go.Proofs.YtojfaelafakemaaGreat

/- What the functions of package pte compute, in plain Lean. No conditions. -/
namespace Go.Proofs.YtojfaelafakemaaGreat
open Go

def bitS (b : Bool) (v : Int) : Int := if b then v else 0
def formS (k n : Int) (a b c d : Bool) : Bool :=
  if k = 0 then n == 0 && !a && !b && !c && !d else if k = 2 then !a && !b && !c && !d else if k = 4 then !a && !b && !c && !d else if k = 3 then !b && !c && !d else k == 1
def formR (k n : Int) (a b c d : Bool) : Bool :=
  if k = 1 then true else if k = 3 then !b && !c && !d else if k = 0 then n == 0 && !a && !b && !c && !d else !a && !b && !c && !d
def wordW (k n : Int) (a b c d : Bool) : Int := bits .or .u64 (bits .or .u64 (bits .or .u64 (bits .or .u64 (bits .or .u64 (IntKind.u64.wrap k) (bitS a 8)) (bitS b 16)) (bitS c 32)) (bitS d 64)) (IntKind.u64.wrap (IntKind.u64.wrap n * 2 ^ (min (Int.toNat 8) (IntKind.bits .u64))))
def rngB (k n : Int) (d : Bool) : Bool := decide (n < 0) || decide (4294967295 < n) || k == 1 && d && decide (4294967288 < n)
def encS (k n : Int) (a b c d : Bool) : Int × Int :=
  if k < 0 ∨ 4 < k then (0, 1) else if rngB k n d = true then (0, 2) else if formS k n a b c d = false then (0, 3) else (wordW k n a b c d, 0)
theorem rng_bd {k n : Int} {d : Bool} (h : rngB k n d = false) : 0 ≤ n ∧ n ≤ 4294967295 := by simp [rngB] at h; omega
theorem enc_arg {k n : Int} {a b c d : Bool} (h : k < 0 ∨ 4 < k) : encS k n a b c d = (0, 1) := by unfold encS; rw [if_pos h]
theorem enc_rng {k n : Int} {a b c d : Bool} (h0 : 0 ≤ k) (h4 : k ≤ 4) (h : rngB k n d = true) : encS k n a b c d = (0, 2) := by unfold encS; rw [if_neg (by omega), if_pos h]
theorem enc_form {k n : Int} {a b c d : Bool} (h0 : 0 ≤ k) (h4 : k ≤ 4) (h : rngB k n d = false) (hf : formS k n a b c d = false) : encS k n a b c d = (0, 3) := by unfold encS; rw [if_neg (by omega), if_neg (by simp [h]), if_pos hf]
theorem enc_ok {k n : Int} {a b c d : Bool} (h0 : 0 ≤ k) (h4 : k ≤ 4) (h : rngB k n d = false) (hf : formS k n a b c d = true) : encS k n a b c d = (wordW k n a b c d, 0) := by unfold encS; rw [if_neg (by omega), if_neg (by simp [h]), if_neg (by simp [hf])]

/- Words and entries, in numbers. -/
theorem nat_hl_and (x y : Nat) : x &&& y = 256 * (x / 256 &&& y / 256) + (x % 256 &&& y % 256) := by
  have h1 : (x &&& y) / 2 ^ 8 = x / 2 ^ 8 &&& y / 2 ^ 8 := Nat.and_div_two_pow ..
  have h2 : (x &&& y) % 2 ^ 8 = (x % 2 ^ 8) &&& (y % 2 ^ 8) := Nat.and_mod_two_pow ..
  have h3 := Nat.div_add_mod (x &&& y) (2 ^ 8)
  rw [h1, h2] at h3
  exact h3.symm
theorem nat_hl_or (x y : Nat) : x ||| y = 256 * (x / 256 ||| y / 256) + (x % 256 ||| y % 256) := by
  have h1 : (x ||| y) / 2 ^ 8 = x / 2 ^ 8 ||| y / 2 ^ 8 := Nat.or_div_two_pow ..
  have h2 : (x ||| y) % 2 ^ 8 = (x % 2 ^ 8) ||| (y % 2 ^ 8) := Nat.or_mod_two_pow ..
  have h3 := Nat.div_add_mod (x ||| y) (2 ^ 8)
  rw [h1, h2] at h3
  exact h3.symm
def bN (b : Bool) (v : Nat) : Nat := if b then v else 0
theorem bitS_nat (b : Bool) (v : Nat) : bitS b (v : Int) = ((bN b v : Nat) : Int) := by cases b <;> rfl
theorem bN_le (b : Bool) (v : Nat) : bN b v ≤ v := by cases b <;> simp [bN]
theorem base_or : ∀ k, k < 8 → ∀ a b c d : Bool, (((k ||| bN a 8) ||| bN b 16) ||| bN c 32) ||| bN d 64 = k + bN a 8 + bN b 16 + bN c 32 + bN d 64 := by decide
def lowN (k : Nat) (a b c d : Bool) : Nat := k + bN a 8 + bN b 16 + bN c 32 + bN d 64
theorem lowN_lt {k : Nat} (h : k < 8) (a b c d : Bool) : lowN k a b c d < 128 := by
  unfold lowN; have := bN_le a 8; have := bN_le b 16; have := bN_le c 32; have := bN_le d 64; omega
theorem or_nat64 {x y : Nat} (hx : x < 18446744073709551616) (hy : y < 18446744073709551616) : x ||| y < 18446744073709551616 := Nat.or_lt_two_pow (n := 64) hx hy
theorem word_eq {k n : Nat} (hk : k < 8) (hn : n < 4294967296) (a b c d : Bool) : wordW k n a b c d = ((256 * n + lowN k a b c d : Nat) : Int) := by
  have ha := bN_le a 8; have hb := bN_le b 16; have hc := bN_le c 32; have hd := bN_le d 64
  have e1 : IntKind.u64.wrap (k : Int) = (k : Int) := by rw [IntKind.wrap_u64]; omega
  have e2 : IntKind.u64.wrap (IntKind.u64.wrap (n : Int) * 2 ^ (min (Int.toNat 8) (IntKind.bits .u64))) = ((n * 256 : Nat) : Int) := by
    have : min (Int.toNat 8) (IntKind.bits .u64) = 8 := rfl
    rw [this, IntKind.wrap_u64, IntKind.wrap_u64]; omega
  have f1 : bitS a 8 = ((bN a 8 : Nat) : Int) := bitS_nat a 8
  have f2 : bitS b 16 = ((bN b 16 : Nat) : Int) := bitS_nat b 16
  have f3 : bitS c 32 = ((bN c 32 : Nat) : Int) := bitS_nat c 32
  have f4 : bitS d 64 = ((bN d 64 : Nat) : Int) := bitS_nat d 64
  have g1 : k ||| bN a 8 < 18446744073709551616 := or_nat64 (by omega) (by omega)
  have g2 : (k ||| bN a 8) ||| bN b 16 < 18446744073709551616 := or_nat64 g1 (by omega)
  have g3 : ((k ||| bN a 8) ||| bN b 16) ||| bN c 32 < 18446744073709551616 := or_nat64 g2 (by omega)
  have g4 : (((k ||| bN a 8) ||| bN b 16) ||| bN c 32) ||| bN d 64 < 18446744073709551616 := or_nat64 g3 (by omega)
  unfold wordW
  rw [e1, e2, f1, f2, f3, f4, u64_or_nat _ _ (by omega) (by omega), u64_or_nat _ _ g1 (by omega), u64_or_nat _ _ g2 (by omega), u64_or_nat _ _ g3 (by omega), u64_or_nat _ _ g4 (by omega)]
  congr 1
  rw [base_or k hk, Nat.or_comm, nat_join 8 (n * 256) _ (by omega) (by have := lowN_lt hk a b c d; unfold lowN at this; omega)]
  unfold lowN; omega

structure Ent where
  k : Int
  n : Int
  a : Bool
  b : Bool
  c : Bool
  d : Bool
  deriving DecidableEq
def enc (e : Ent) : Int × Int := encS e.k e.n e.a e.b e.c e.d
def fldE (w : Int) : Ent := ⟨w % 8, w / 256 % 4294967296, w / 8 % 2 == 1, w / 16 % 2 == 1, w / 32 % 2 == 1, w / 64 % 2 == 1⟩
def dec (w : Int) : Option Ent := if enc (fldE w) = (w, 0) then some (fldE w) else none
/-- The entry is well-formed. -/
def okE (e : Ent) : Prop := 0 ≤ e.k ∧ e.k ≤ 4 ∧ rngB e.k e.n e.d = false ∧ formS e.k e.n e.a e.b e.c e.d = true
def wrd (e : Ent) : Int := 256 * e.n + (lowN e.k.toNat e.a e.b e.c e.d : Int)
theorem enc_zero {e : Ent} (h : (enc e).2 = 0) : okE e := by
  unfold enc encS at h
  split at h
  · simp at h
  · split at h
    · simp at h
    · split at h
      · simp at h
      · rename_i h1 h2 h3
        exact ⟨by omega, by omega, by simpa using h2, by simpa using h3⟩
theorem enc_of_ok {e : Ent} (h : okE e) : enc e = (wrd e, 0) := by
  obtain ⟨h1, h2, h3, h4⟩ := h
  have hn := rng_bd h3
  unfold enc
  rw [enc_ok h1 h2 h3 h4]
  have e1 : e.k = ((e.k.toNat : Nat) : Int) := by omega
  have e2 : e.n = ((e.n.toNat : Nat) : Int) := by omega
  have := word_eq (k := e.k.toNat) (n := e.n.toNat) (by omega) (by omega) e.a e.b e.c e.d
  rw [← e1, ← e2] at this
  rw [this]
  unfold wrd
  simp only [Prod.mk.injEq, and_true]
  omega
theorem wrd_rng {e : Ent} (h : okE e) : 0 ≤ wrd e ∧ wrd e < 1099511627776 := by
  obtain ⟨h1, h2, h3, h4⟩ := h
  have hn := rng_bd h3
  have := lowN_lt (k := e.k.toNat) (by omega) e.a e.b e.c e.d
  unfold wrd; omega
theorem bN_bool (b : Bool) (v : Nat) : bN b v = v * bN b 1 := by cases b <;> simp [bN]
theorem bN_eq (b : Bool) (x : Int) (h : x = (bN b 1 : Int)) : (x == 1) = b := by subst h; cases b <;> rfl
theorem fld_wrd {e : Ent} (h : okE e) : fldE (wrd e) = e := by
  obtain ⟨h1, h2, h3, h4⟩ := h
  have hn := rng_bd h3
  have ha := bN_le e.a 1; have hb := bN_le e.b 1; have hc := bN_le e.c 1; have hd := bN_le e.d 1
  have w1 : wrd e = 256 * e.n + e.k + 8 * (bN e.a 1 : Int) + 16 * (bN e.b 1 : Int) + 32 * (bN e.c 1 : Int) + 64 * (bN e.d 1 : Int) := by
    unfold wrd lowN; rw [bN_bool e.a 8, bN_bool e.b 16, bN_bool e.c 32, bN_bool e.d 64]; omega
  have q0 : wrd e % 8 = e.k := by omega
  have q1 : wrd e / 256 % 4294967296 = e.n := by omega
  have q2 : (wrd e / 8 % 2 == 1) = e.a := bN_eq _ _ (by omega)
  have q3 : (wrd e / 16 % 2 == 1) = e.b := bN_eq _ _ (by omega)
  have q4 : (wrd e / 32 % 2 == 1) = e.c := bN_eq _ _ (by omega)
  have q5 : (wrd e / 64 % 2 == 1) = e.d := bN_eq _ _ (by omega)
  unfold fldE
  rw [q0, q1, q2, q3, q4, q5]
theorem dec_wrd {e : Ent} (h : okE e) : dec (wrd e) = some e := by
  unfold dec
  rw [fld_wrd h, enc_of_ok h, if_pos rfl]
theorem dec_some {w : Int} {e : Ent} (h : dec w = some e) : okE e ∧ w = wrd e ∧ fldE w = e := by
  unfold dec at h
  split at h
  · rename_i h1
    simp only [Option.some.injEq] at h
    rw [h] at h1
    have ho : okE e := enc_zero (by rw [h1])
    rw [enc_of_ok ho] at h1
    simp only [Prod.mk.injEq, and_true] at h1
    exact ⟨ho, h1.symm, h⟩
  · cases h

/- The fields as the code reckons them. -/
section
variable {w : Int} (h0 : 0 ≤ w) (h1 : w < 18446744073709551616)
include h0 h1
theorem f_kind : IntKind.i64.wrap (bits .and .u64 w 7) = w % 8 := by
  have e : w = ((w.toNat : Nat) : Int) := by omega
  have := u64_and_nat w.toNat 7 (by omega) (by omega)
  rw [nat_mask3, ← e] at this
  have h7 : ((7 : Nat) : Int) = 7 := rfl
  rw [h7] at this
  rw [this, IntKind.wrap_i64]; omega
theorem f_num : IntKind.i64.wrap (bits .and .u64 (w.fdiv (2 ^ min (Int.toNat 8) (IntKind.bits .u64))) 4294967295) = w / 256 % 4294967296 := by
  have e : min (Int.toNat 8) (IntKind.bits .u64) = 8 := rfl
  rw [e, show (2 ^ 8 : Int) = 256 from rfl, Int.fdiv_eq_ediv_of_nonneg _ (by omega), and_low32 _ (by omega) (by omega), IntKind.wrap_i64]; omega
theorem f_bit (i : Nat) (v : Int) (hv : v = ((2 ^ i : Nat) : Int)) (hi : i < 64) : bits .and .u64 w v = w / v % 2 * v := by
  have e : w = ((w.toNat : Nat) : Int) := by omega
  have hp : 2 ^ i < 18446744073709551616 := Nat.pow_lt_pow_right (a := 2) (n := 64) (by omega) hi
  have := u64_and_nat w.toNat (2 ^ i) (by omega) hp
  rw [nat_bit, ← e, ← hv] at this
  rw [this, Int.natCast_mul, Int.natCast_emod, Int.natCast_ediv, ← e, ← hv]; rfl
theorem f_ne (i : Nat) (v : Int) (hv : v = ((2 ^ i : Nat) : Int)) (hi : i < 64) : (bits .and .u64 w v != 0) = (w / v % 2 == 1) := by
  have hp : 0 < 2 ^ i := Nat.pow_pos (by omega)
  rw [f_bit h0 h1 i v hv hi, Bool.eq_iff_iff]
  simp only [bne_iff_ne, ne_eq, beq_iff_eq, Int.mul_eq_zero]
  omega
theorem f_gt (i : Nat) (v : Int) (hv : v = ((2 ^ i : Nat) : Int)) (hi : i < 64) : decide (bits .and .u64 w v > 0) = (w / v % 2 == 1) := by
  have hp : 0 < 2 ^ i := Nat.pow_pos (by omega)
  rw [f_bit h0 h1 i v hv hi, Bool.eq_iff_iff]
  simp only [decide_eq_true_eq, beq_iff_eq]
  have hm : w / v % 2 = 0 ∨ w / v % 2 = 1 := by omega
  rcases hm with h | h <;> rw [h] <;> omega
end
def deW (w : Int) : Ent := ⟨IntKind.i64.wrap (bits .and .u64 w 7), IntKind.i64.wrap (bits .and .u64 (w.fdiv (2 ^ min (Int.toNat 8) (IntKind.bits .u64))) 4294967295), bits .and .u64 w 8 != 0, bits .and .u64 w 16 != 0, bits .and .u64 w 32 != 0, bits .and .u64 w 64 != 0⟩
def deR (w : Int) : Ent := ⟨IntKind.i64.wrap (bits .and .u64 w 7), IntKind.i64.wrap (bits .and .u64 (w.fdiv (2 ^ min (Int.toNat 8) (IntKind.bits .u64))) 4294967295), decide (bits .and .u64 w 8 > 0), decide (bits .and .u64 w 16 > 0), decide (bits .and .u64 w 32 > 0), decide (bits .and .u64 w 64 > 0)⟩
theorem deW_eq {w : Int} (h0 : 0 ≤ w) (h1 : w < 18446744073709551616) : deW w = fldE w := by
  unfold deW fldE
  rw [f_kind h0 h1, f_num h0 h1, f_ne h0 h1 3 8 rfl (by omega), f_ne h0 h1 4 16 rfl (by omega), f_ne h0 h1 5 32 rfl (by omega), f_ne h0 h1 6 64 rfl (by omega)]
theorem deR_eq {w : Int} (h0 : 0 ≤ w) (h1 : w < 18446744073709551616) : deR w = fldE w := by
  unfold deR fldE
  rw [f_kind h0 h1, f_num h0 h1, f_gt h0 h1 3 8 rfl (by omega), f_gt h0 h1 4 16 rfl (by omega), f_gt h0 h1 5 32 rfl (by omega), f_gt h0 h1 6 64 rfl (by omega)]
theorem formR_eq {k n : Int} {a b c d : Bool} (h0 : 0 ≤ k) (h4 : k ≤ 4) : formR k n a b c d = formS k n a b c d := by
  have : k = 0 ∨ k = 1 ∨ k = 2 ∨ k = 3 ∨ k = 4 := by omega
  rcases this with rfl | rfl | rfl | rfl | rfl <;> rfl
def noEnt : Ent := ⟨0, 0, false, false, false, false⟩
def decR (w : Int) : Ent × Int := match dec w with
  | some e => (e, 0)
  | none => (noEnt, 3)
theorem decR_yes {w : Int} {e : Ent} (h : dec w = some e) : decR w = (e, 0) := by unfold decR; rw [h]
theorem decR_no {w : Int} (h : dec w = none) : decR w = (noEnt, 3) := by unfold decR; rw [h]
theorem decR_bad {w : Int} (h : ¬ ((enc (fldE w)).2 = 0 ∧ (enc (fldE w)).1 = w)) : decR w = (noEnt, 3) := by
  refine decR_no ?_
  unfold dec
  rw [if_neg]
  intro e
  exact h (by rw [e]; exact ⟨rfl, rfl⟩)
theorem decR_good {w : Int} (h : (enc (fldE w)).2 = 0 ∧ (enc (fldE w)).1 = w) : decR w = (fldE w, 0) := by
  refine decR_yes ?_
  unfold dec
  rw [if_pos]
  exact Prod.ext h.2 h.1
/- The other functions, as the code has them. -/
def pageR (x : Int) : Ent × Int := match decR x with
  | (e, c) => if c ≠ 0 then (noEnt, c) else if e.k ≠ 1 then (noEnt, 11) else (e, 0)
def markR (x : Int) (wr : Bool) : Int × Int := match pageR x with
  | (e, c) => if c ≠ 0 then (0, c) else if wr = false then (bits .or .u64 x 16, 0) else if e.a = false then (0, 12) else (bits .or .u64 (bits .or .u64 x 16) 32, 0)
def oldR (x : Int) : Int × Int := match pageR x with
  | (_, c) => if c ≠ 0 then (0, c) else (bits .andNot .u64 x 16, 0)
def protR (x : Int) : Int × Int := match decR x with
  | (e, c) => if c ≠ 0 then (0, c) else if e.k ≠ 1 ∧ e.k ≠ 3 then (0, 11) else (bits .andNot .u64 x 8, 0)
def partR (x i : Int) : Int × Int := match decR x with
  | (e, c) => if c ≠ 0 then (0, c) else if e.k ≠ 1 ∨ e.d = false then (0, 11) else if i < 0 ∨ 8 ≤ i then (0, 2) else enc ⟨e.k, e.n + i, e.a, e.b, e.c, false⟩
/- .. and as the reference has them. -/
def markQ (x : Int) (wr : Bool) : Int × Int := match decR x with
  | (e, c) => if c ≠ 0 then (0, c) else if e.k ≠ 1 then (0, 11) else if wr = true ∧ e.a = false then (0, 12) else if wr = true then (bits .or .u64 x 48, 0) else (bits .or .u64 x 16, 0)
def oldQ (x : Int) : Int × Int := match decR x with
  | (e, c) => if c ≠ 0 then (0, c) else if e.k ≠ 1 then (0, 11) else enc ⟨e.k, e.n, e.a, false, e.c, e.d⟩
def protQ (x : Int) : Int × Int := match decR x with
  | (e, c) => if c ≠ 0 then (0, c) else if e.k ≠ 1 ∧ e.k ≠ 3 then (0, 11) else enc ⟨e.k, e.n, false, e.b, e.c, e.d⟩
theorem decR_bd {x : Int} {e : Ent} {c : Int} (h : decR x = (e, c)) : 0 ≤ e.n ∧ e.n ≤ 4294967295 := by
  unfold decR at h
  cases hd : dec x with
  | none => rw [hd] at h; simp only [Prod.mk.injEq] at h; rw [← h.1]; decide
  | some e' =>
    rw [hd] at h; simp only [Prod.mk.injEq] at h
    have := rng_bd (dec_some hd).1.2.2.1
    rw [← h.1]; exact this
end Go.Proofs.YtojfaelafakemaaGreat

/- Plain laws of words and entries: what marking, aging and protecting make of an entry. No conditions. -/
set_option linter.unusedVariables false
namespace Go.Proofs.YtojfaelafakemaaGreat
open Go

theorem low_and247 : ∀ k, k < 8 → ∀ a b c d : Bool, lowN k a b c d &&& 247 = lowN k false b c d := by decide
theorem low_and239 : ∀ k, k < 8 → ∀ a b c d : Bool, lowN k a b c d &&& 239 = lowN k a false c d := by decide
theorem low_or16 : ∀ k, k < 8 → ∀ a b c d : Bool, lowN k a b c d ||| 16 = lowN k a true c d := by decide
theorem low_or32 : ∀ k, k < 8 → ∀ a b c d : Bool, lowN k a b c d ||| 32 = lowN k a b true d := by decide
theorem low_or48 : ∀ k, k < 8 → ∀ a b c d : Bool, lowN k a b c d ||| 48 = lowN k a true true d := by decide
theorem hl_or (n l m : Nat) (hl : l < 256) (hm : m < 256) (h : l ||| m < 256) : (256 * n + l) ||| m = 256 * n + (l ||| m) := by
  have := nat_hl_or (256 * n + l) m
  rw [show (256 * n + l) / 256 = n by omega, show (256 * n + l) % 256 = l by omega, show m / 256 = 0 by omega, show m % 256 = m by omega] at this
  simpa using this
theorem hl_andNot (n l m : Nat) (hn : n < 72057594037927936) (hl : l < 256) (hm : m < 256) : (256 * n + l) &&& (18446744073709551615 - m) = 256 * n + (l &&& (255 - m)) := by
  have := nat_hl_and (256 * n + l) (18446744073709551615 - m)
  rw [show (256 * n + l) / 256 = n by omega, show (256 * n + l) % 256 = l by omega, show (18446744073709551615 - m) / 256 = 72057594037927935 by omega, show (18446744073709551615 - m) % 256 = 255 - m by omega] at this
  rw [this]
  have h2 : n &&& 72057594037927935 = n % 72057594037927936 := Nat.and_two_pow_sub_one_eq_mod n 56
  rw [h2, Nat.mod_eq_of_lt hn]
section
variable {e : Ent} (h : okE e)
include h
theorem wrd_nat : ∃ n k : Nat, e.n = (n : Int) ∧ e.k = (k : Int) ∧ n < 4294967296 ∧ k < 8 ∧ wrd e = ((256 * n + lowN k e.a e.b e.c e.d : Nat) : Int) := by
  obtain ⟨h1, h2, h3, h4⟩ := h
  have hn := rng_bd h3
  refine ⟨e.n.toNat, e.k.toNat, by omega, by omega, by omega, by omega, ?_⟩
  unfold wrd; omega
theorem wrd_or (m : Nat) (hm : m < 256) (a b c d : Bool) (hlow : ∀ k, k < 8 → lowN k e.a e.b e.c e.d ||| m = lowN k a b c d) : bits .or .u64 (wrd e) (m : Int) = wrd ⟨e.k, e.n, a, b, c, d⟩ := by
  obtain ⟨n, k, hn, hk, h1, h2, hw⟩ := wrd_nat h
  have hl := lowN_lt h2 e.a e.b e.c e.d
  have hl' := lowN_lt h2 a b c d
  rw [hw, u64_or_nat _ _ (by omega) (by omega), hl_or _ _ _ (by omega) hm (by rw [hlow k h2]; omega), hlow k h2]
  unfold wrd
  rw [hn, hk]
  simp
theorem wrd_andNot (m : Nat) (hm : m < 256) (a b c d : Bool) (hlow : ∀ k, k < 8 → lowN k e.a e.b e.c e.d &&& (255 - m) = lowN k a b c d) : bits .andNot .u64 (wrd e) (m : Int) = wrd ⟨e.k, e.n, a, b, c, d⟩ := by
  obtain ⟨n, k, hn, hk, h1, h2, hw⟩ := wrd_nat h
  have hl := lowN_lt h2 e.a e.b e.c e.d
  rw [hw, u64_andNot_nat _ _ (by omega) (by omega), hl_andNot _ _ _ (by omega) (by omega) hm, hlow k h2]
  unfold wrd
  rw [hn, hk]
  simp
theorem w_prot : bits .andNot .u64 (wrd e) 8 = wrd ⟨e.k, e.n, false, e.b, e.c, e.d⟩ := wrd_andNot h 8 (by omega) _ _ _ _ fun k hk => low_and247 k hk ..
theorem w_old : bits .andNot .u64 (wrd e) 16 = wrd ⟨e.k, e.n, e.a, false, e.c, e.d⟩ := wrd_andNot h 16 (by omega) _ _ _ _ fun k hk => low_and239 k hk ..
theorem w_mark : bits .or .u64 (wrd e) 16 = wrd ⟨e.k, e.n, e.a, true, e.c, e.d⟩ := wrd_or h 16 (by omega) _ _ _ _ fun k hk => low_or16 k hk ..
theorem w_mark48 : bits .or .u64 (wrd e) 48 = wrd ⟨e.k, e.n, e.a, true, true, e.d⟩ := wrd_or h 48 (by omega) _ _ _ _ fun k hk => low_or48 k hk ..
theorem w_mark32 : bits .or .u64 (wrd e) 32 = wrd ⟨e.k, e.n, e.a, e.b, true, e.d⟩ := wrd_or h 32 (by omega) _ _ _ _ fun k hk => low_or32 k hk ..
end
theorem ok_page {n : Int} {a b c d a' b' c' : Bool} (h : okE ⟨1, n, a, b, c, d⟩) : okE ⟨1, n, a', b', c', d⟩ := ⟨by simp, by simp, h.2.2.1, rfl⟩
theorem ok_prot {k n : Int} {a b c d : Bool} (hk : k = 1 ∨ k = 3) (h : okE ⟨k, n, a, b, c, d⟩) : okE ⟨k, n, false, b, c, d⟩ := by
  rcases hk with rfl | rfl
  · exact ok_page h
  · exact ⟨by simp, by simp, h.2.2.1, by have := h.2.2.2; simp [formS] at this ⊢; exact this⟩
theorem decR_zero {x : Int} {e : Ent} (h : decR x = (e, 0)) : okE e ∧ x = wrd e := by
  unfold decR at h
  cases hd : dec x with
  | none => rw [hd] at h; simp at h
  | some e' =>
    rw [hd] at h
    simp only [Prod.mk.injEq, and_true] at h
    obtain ⟨h1, h2, _⟩ := dec_some hd
    rw [← h]; exact ⟨h1, h2⟩
theorem decR_wrd {e : Ent} (h : okE e) : decR (wrd e) = (e, 0) := decR_yes (dec_wrd h)
theorem decR_cases (x : Int) : (∃ e, decR x = (e, 0)) ∨ decR x = (noEnt, 3) := by
  unfold decR
  cases dec x with
  | none => exact .inr rfl
  | some e => exact .inl ⟨e, rfl⟩

theorem mark_same (x : Int) (wr : Bool) : markR x wr = markQ x wr := by
  rcases decR_cases x with ⟨⟨k, n, a, b, c, d⟩, h⟩ | h
  · obtain ⟨ho, hx⟩ := decR_zero h
    have h1 : bits .or .u64 (bits .or .u64 x 16) 32 = bits .or .u64 x 48 ∨ k ≠ 1 := by
      by_cases hk : k = 1
      · subst hk
        left
        rw [hx, w_mark ho, w_mark32 (ok_page ho), w_mark48 ho]
      · exact .inr hk
    unfold markR markQ pageR
    rw [h]
    by_cases hk : k = 1
    · rcases h1 with h1 | h1
      · cases wr <;> cases a <;> simp [hk, h1]
      · exact absurd hk h1
    · simp [hk]
  · unfold markR markQ pageR
    rw [h]
    simp
theorem old_same (x : Int) : oldR x = oldQ x := by
  rcases decR_cases x with ⟨⟨k, n, a, b, c, d⟩, h⟩ | h
  · obtain ⟨ho, hx⟩ := decR_zero h
    unfold oldR oldQ pageR
    rw [h]
    by_cases hk : k = 1
    · subst hk
      have h1 := w_old ho
      rw [← hx] at h1
      simp [h1, enc_of_ok (ok_page (a' := a) (b' := false) (c' := c) ho)]
    · simp [hk]
  · unfold oldR oldQ pageR
    rw [h]
    simp
theorem prot_same (x : Int) : protR x = protQ x := by
  rcases decR_cases x with ⟨⟨k, n, a, b, c, d⟩, h⟩ | h
  · obtain ⟨ho, hx⟩ := decR_zero h
    unfold protR protQ
    rw [h]
    by_cases hk : k = 1 ∨ k = 3
    · have h1 := w_prot ho
      rw [← hx] at h1
      have h2 : ¬ (k ≠ 1 ∧ k ≠ 3) := by omega
      simp [h1, enc_of_ok (ok_prot hk ho), h2]
    · have h2 : k ≠ 1 ∧ k ≠ 3 := by omega
      simp [h2]
  · unfold protR protQ
    rw [h]
    simp
/-- What Encode accepts is decoded to the same entry. -/
theorem inv_enc {k n : Int} {a b c d : Bool} {v : Int} (h : encS k n a b c d = (v, 0)) : decR v = (⟨k, n, a, b, c, d⟩, 0) ∧ 0 ≤ v ∧ v < 18446744073709551616 := by
  have ho : okE ⟨k, n, a, b, c, d⟩ := enc_zero (by unfold enc; rw [h])
  have h1 := enc_of_ok ho
  unfold enc at h1
  rw [h] at h1
  simp only [Prod.mk.injEq, and_true] at h1
  have := wrd_rng ho
  rw [h1]
  exact ⟨decR_wrd ho, this.1, by omega⟩
theorem inv_dec {x : Int} {e : Ent} (h : decR x = (e, 0)) : encS e.k e.n e.a e.b e.c e.d = (x, 0) := by
  obtain ⟨ho, hx⟩ := decR_zero h
  rw [hx]; exact enc_of_ok ho
theorem enc_err {k n : Int} {a b c d : Bool} {v u : Int} (h : encS k n a b c d = (v, u)) : 0 ≤ v ∧ v < 18446744073709551616 := by
  by_cases hu : u = 0
  · subst hu; exact (inv_enc h).2
  · unfold encS at h
    split at h
    · simp at h; omega
    · split at h
      · simp at h; omega
      · split at h
        · simp at h; omega
        · simp at h; omega
end Go.Proofs.YtojfaelafakemaaGreat

/- Cuts, with what is known of their numbers. No conditions. -/
set_option linter.unusedSimpArgs false
set_option linter.unusedVariables false
namespace Go.Proofs.YtojfaelafakemaaGreat
open Go Go.RowKit
section
variable {P : Program} {n : Nat} {Q : Exit → Act → World → Prop} {E : Env} {H : World → Prop} {x : Code} {F : Act → World → Prop}
def Mt1 [Dl] {α1 : Type} (n : Nat) (Ψ : α1 → Prop) (I : α1 → Env) (J : α1 → World → Prop) : Act → World → Prop := fun a w => ∃ s1, Ψ s1 ∧ FrOk n (I s1) a ∧ J s1 w
theorem tri_mt1 [Dl] {α1 : Type} {Ψ : α1 → Prop} {I : α1 → Env} {J : α1 → World → Prop} (s1' : α1) (hΨ : Ψ s1') (hE : Sub (I s1') E) (hH : ∀ w, H w → J s1' w) : Tri n (Mt1 n Ψ I J) E H := fun _ w h1 h2 => ⟨s1', hΨ, h1.sub hE, hH w h2⟩
theorem tri_cut1 [Dl] {α1 : Type} (Ψ : α1 → Prop) (I : α1 → Env) (J : α1 → World → Prop) (first : Tri n (x.wp P (Exit.then (Mt1 n Ψ I J) Q)) E H) (rest : ∀ s1, Ψ s1 → Tri n F (I s1) (J s1)) : Tri n (x.wp P (Exit.then F Q)) E H := fun a w h1 h2 =>
  (wp_mono (first a w h1 h2) fun e a' w' q => by
    cases e with
    | normal => obtain ⟨s1', h3, h4, h5⟩ := q; exact rest s1' h3 a' w' h4 h5
    | exit id => exact q
    | goto l => exact q
    | ret => exact q
    | panic ch => exact q
    | outgrown => exact q)
def Mt2 [Dl] {α1 α2 : Type} (n : Nat) (Ψ : α1 → α2 → Prop) (I : α1 → α2 → Env) (J : α1 → α2 → World → Prop) : Act → World → Prop := fun a w => ∃ s1 s2, Ψ s1 s2 ∧ FrOk n (I s1 s2) a ∧ J s1 s2 w
theorem tri_mt2 [Dl] {α1 α2 : Type} {Ψ : α1 → α2 → Prop} {I : α1 → α2 → Env} {J : α1 → α2 → World → Prop} (s1' : α1) (s2' : α2) (hΨ : Ψ s1' s2') (hE : Sub (I s1' s2') E) (hH : ∀ w, H w → J s1' s2' w) : Tri n (Mt2 n Ψ I J) E H := fun _ w h1 h2 => ⟨s1', s2', hΨ, h1.sub hE, hH w h2⟩
theorem tri_cut2 [Dl] {α1 α2 : Type} (Ψ : α1 → α2 → Prop) (I : α1 → α2 → Env) (J : α1 → α2 → World → Prop) (first : Tri n (x.wp P (Exit.then (Mt2 n Ψ I J) Q)) E H) (rest : ∀ s1 s2, Ψ s1 s2 → Tri n F (I s1 s2) (J s1 s2)) : Tri n (x.wp P (Exit.then F Q)) E H := fun a w h1 h2 =>
  (wp_mono (first a w h1 h2) fun e a' w' q => by
    cases e with
    | normal => obtain ⟨s1', s2', h3, h4, h5⟩ := q; exact rest s1' s2' h3 a' w' h4 h5
    | exit id => exact q
    | goto l => exact q
    | ret => exact q
    | panic ch => exact q
    | outgrown => exact q)
def Mt3 [Dl] {α1 α2 α3 : Type} (n : Nat) (Ψ : α1 → α2 → α3 → Prop) (I : α1 → α2 → α3 → Env) (J : α1 → α2 → α3 → World → Prop) : Act → World → Prop := fun a w => ∃ s1 s2 s3, Ψ s1 s2 s3 ∧ FrOk n (I s1 s2 s3) a ∧ J s1 s2 s3 w
theorem tri_mt3 [Dl] {α1 α2 α3 : Type} {Ψ : α1 → α2 → α3 → Prop} {I : α1 → α2 → α3 → Env} {J : α1 → α2 → α3 → World → Prop} (s1' : α1) (s2' : α2) (s3' : α3) (hΨ : Ψ s1' s2' s3') (hE : Sub (I s1' s2' s3') E) (hH : ∀ w, H w → J s1' s2' s3' w) : Tri n (Mt3 n Ψ I J) E H := fun _ w h1 h2 => ⟨s1', s2', s3', hΨ, h1.sub hE, hH w h2⟩
theorem tri_cut3 [Dl] {α1 α2 α3 : Type} (Ψ : α1 → α2 → α3 → Prop) (I : α1 → α2 → α3 → Env) (J : α1 → α2 → α3 → World → Prop) (first : Tri n (x.wp P (Exit.then (Mt3 n Ψ I J) Q)) E H) (rest : ∀ s1 s2 s3, Ψ s1 s2 s3 → Tri n F (I s1 s2 s3) (J s1 s2 s3)) : Tri n (x.wp P (Exit.then F Q)) E H := fun a w h1 h2 =>
  (wp_mono (first a w h1 h2) fun e a' w' q => by
    cases e with
    | normal => obtain ⟨s1', s2', s3', h3, h4, h5⟩ := q; exact rest s1' s2' s3' h3 a' w' h4 h5
    | exit id => exact q
    | goto l => exact q
    | ret => exact q
    | panic ch => exact q
    | outgrown => exact q)
def Mt4 [Dl] {α1 α2 α3 α4 : Type} (n : Nat) (Ψ : α1 → α2 → α3 → α4 → Prop) (I : α1 → α2 → α3 → α4 → Env) (J : α1 → α2 → α3 → α4 → World → Prop) : Act → World → Prop := fun a w => ∃ s1 s2 s3 s4, Ψ s1 s2 s3 s4 ∧ FrOk n (I s1 s2 s3 s4) a ∧ J s1 s2 s3 s4 w
theorem tri_mt4 [Dl] {α1 α2 α3 α4 : Type} {Ψ : α1 → α2 → α3 → α4 → Prop} {I : α1 → α2 → α3 → α4 → Env} {J : α1 → α2 → α3 → α4 → World → Prop} (s1' : α1) (s2' : α2) (s3' : α3) (s4' : α4) (hΨ : Ψ s1' s2' s3' s4') (hE : Sub (I s1' s2' s3' s4') E) (hH : ∀ w, H w → J s1' s2' s3' s4' w) : Tri n (Mt4 n Ψ I J) E H := fun _ w h1 h2 => ⟨s1', s2', s3', s4', hΨ, h1.sub hE, hH w h2⟩
theorem tri_cut4 [Dl] {α1 α2 α3 α4 : Type} (Ψ : α1 → α2 → α3 → α4 → Prop) (I : α1 → α2 → α3 → α4 → Env) (J : α1 → α2 → α3 → α4 → World → Prop) (first : Tri n (x.wp P (Exit.then (Mt4 n Ψ I J) Q)) E H) (rest : ∀ s1 s2 s3 s4, Ψ s1 s2 s3 s4 → Tri n F (I s1 s2 s3 s4) (J s1 s2 s3 s4)) : Tri n (x.wp P (Exit.then F Q)) E H := fun a w h1 h2 =>
  (wp_mono (first a w h1 h2) fun e a' w' q => by
    cases e with
    | normal => obtain ⟨s1', s2', s3', s4', h3, h4, h5⟩ := q; exact rest s1' s2' s3' s4' h3 a' w' h4 h5
    | exit id => exact q
    | goto l => exact q
    | ret => exact q
    | panic ch => exact q
    | outgrown => exact q)
def Mt5 [Dl] {α1 α2 α3 α4 α5 : Type} (n : Nat) (Ψ : α1 → α2 → α3 → α4 → α5 → Prop) (I : α1 → α2 → α3 → α4 → α5 → Env) (J : α1 → α2 → α3 → α4 → α5 → World → Prop) : Act → World → Prop := fun a w => ∃ s1 s2 s3 s4 s5, Ψ s1 s2 s3 s4 s5 ∧ FrOk n (I s1 s2 s3 s4 s5) a ∧ J s1 s2 s3 s4 s5 w
theorem tri_mt5 [Dl] {α1 α2 α3 α4 α5 : Type} {Ψ : α1 → α2 → α3 → α4 → α5 → Prop} {I : α1 → α2 → α3 → α4 → α5 → Env} {J : α1 → α2 → α3 → α4 → α5 → World → Prop} (s1' : α1) (s2' : α2) (s3' : α3) (s4' : α4) (s5' : α5) (hΨ : Ψ s1' s2' s3' s4' s5') (hE : Sub (I s1' s2' s3' s4' s5') E) (hH : ∀ w, H w → J s1' s2' s3' s4' s5' w) : Tri n (Mt5 n Ψ I J) E H := fun _ w h1 h2 => ⟨s1', s2', s3', s4', s5', hΨ, h1.sub hE, hH w h2⟩
theorem tri_cut5 [Dl] {α1 α2 α3 α4 α5 : Type} (Ψ : α1 → α2 → α3 → α4 → α5 → Prop) (I : α1 → α2 → α3 → α4 → α5 → Env) (J : α1 → α2 → α3 → α4 → α5 → World → Prop) (first : Tri n (x.wp P (Exit.then (Mt5 n Ψ I J) Q)) E H) (rest : ∀ s1 s2 s3 s4 s5, Ψ s1 s2 s3 s4 s5 → Tri n F (I s1 s2 s3 s4 s5) (J s1 s2 s3 s4 s5)) : Tri n (x.wp P (Exit.then F Q)) E H := fun a w h1 h2 =>
  (wp_mono (first a w h1 h2) fun e a' w' q => by
    cases e with
    | normal => obtain ⟨s1', s2', s3', s4', s5', h3, h4, h5⟩ := q; exact rest s1' s2' s3' s4' s5' h3 a' w' h4 h5
    | exit id => exact q
    | goto l => exact q
    | ret => exact q
    | panic ch => exact q
    | outgrown => exact q)
def Mt6 [Dl] {α1 α2 α3 α4 α5 α6 : Type} (n : Nat) (Ψ : α1 → α2 → α3 → α4 → α5 → α6 → Prop) (I : α1 → α2 → α3 → α4 → α5 → α6 → Env) (J : α1 → α2 → α3 → α4 → α5 → α6 → World → Prop) : Act → World → Prop := fun a w => ∃ s1 s2 s3 s4 s5 s6, Ψ s1 s2 s3 s4 s5 s6 ∧ FrOk n (I s1 s2 s3 s4 s5 s6) a ∧ J s1 s2 s3 s4 s5 s6 w
theorem tri_mt6 [Dl] {α1 α2 α3 α4 α5 α6 : Type} {Ψ : α1 → α2 → α3 → α4 → α5 → α6 → Prop} {I : α1 → α2 → α3 → α4 → α5 → α6 → Env} {J : α1 → α2 → α3 → α4 → α5 → α6 → World → Prop} (s1' : α1) (s2' : α2) (s3' : α3) (s4' : α4) (s5' : α5) (s6' : α6) (hΨ : Ψ s1' s2' s3' s4' s5' s6') (hE : Sub (I s1' s2' s3' s4' s5' s6') E) (hH : ∀ w, H w → J s1' s2' s3' s4' s5' s6' w) : Tri n (Mt6 n Ψ I J) E H := fun _ w h1 h2 => ⟨s1', s2', s3', s4', s5', s6', hΨ, h1.sub hE, hH w h2⟩
theorem tri_cut6 [Dl] {α1 α2 α3 α4 α5 α6 : Type} (Ψ : α1 → α2 → α3 → α4 → α5 → α6 → Prop) (I : α1 → α2 → α3 → α4 → α5 → α6 → Env) (J : α1 → α2 → α3 → α4 → α5 → α6 → World → Prop) (first : Tri n (x.wp P (Exit.then (Mt6 n Ψ I J) Q)) E H) (rest : ∀ s1 s2 s3 s4 s5 s6, Ψ s1 s2 s3 s4 s5 s6 → Tri n F (I s1 s2 s3 s4 s5 s6) (J s1 s2 s3 s4 s5 s6)) : Tri n (x.wp P (Exit.then F Q)) E H := fun a w h1 h2 =>
  (wp_mono (first a w h1 h2) fun e a' w' q => by
    cases e with
    | normal => obtain ⟨s1', s2', s3', s4', s5', s6', h3, h4, h5⟩ := q; exact rest s1' s2' s3' s4' s5' s6' h3 a' w' h4 h5
    | exit id => exact q
    | goto l => exact q
    | ret => exact q
    | panic ch => exact q
    | outgrown => exact q)
def Mt7 [Dl] {α1 α2 α3 α4 α5 α6 α7 : Type} (n : Nat) (Ψ : α1 → α2 → α3 → α4 → α5 → α6 → α7 → Prop) (I : α1 → α2 → α3 → α4 → α5 → α6 → α7 → Env) (J : α1 → α2 → α3 → α4 → α5 → α6 → α7 → World → Prop) : Act → World → Prop := fun a w => ∃ s1 s2 s3 s4 s5 s6 s7, Ψ s1 s2 s3 s4 s5 s6 s7 ∧ FrOk n (I s1 s2 s3 s4 s5 s6 s7) a ∧ J s1 s2 s3 s4 s5 s6 s7 w
theorem tri_mt7 [Dl] {α1 α2 α3 α4 α5 α6 α7 : Type} {Ψ : α1 → α2 → α3 → α4 → α5 → α6 → α7 → Prop} {I : α1 → α2 → α3 → α4 → α5 → α6 → α7 → Env} {J : α1 → α2 → α3 → α4 → α5 → α6 → α7 → World → Prop} (s1' : α1) (s2' : α2) (s3' : α3) (s4' : α4) (s5' : α5) (s6' : α6) (s7' : α7) (hΨ : Ψ s1' s2' s3' s4' s5' s6' s7') (hE : Sub (I s1' s2' s3' s4' s5' s6' s7') E) (hH : ∀ w, H w → J s1' s2' s3' s4' s5' s6' s7' w) : Tri n (Mt7 n Ψ I J) E H := fun _ w h1 h2 => ⟨s1', s2', s3', s4', s5', s6', s7', hΨ, h1.sub hE, hH w h2⟩
theorem tri_cut7 [Dl] {α1 α2 α3 α4 α5 α6 α7 : Type} (Ψ : α1 → α2 → α3 → α4 → α5 → α6 → α7 → Prop) (I : α1 → α2 → α3 → α4 → α5 → α6 → α7 → Env) (J : α1 → α2 → α3 → α4 → α5 → α6 → α7 → World → Prop) (first : Tri n (x.wp P (Exit.then (Mt7 n Ψ I J) Q)) E H) (rest : ∀ s1 s2 s3 s4 s5 s6 s7, Ψ s1 s2 s3 s4 s5 s6 s7 → Tri n F (I s1 s2 s3 s4 s5 s6 s7) (J s1 s2 s3 s4 s5 s6 s7)) : Tri n (x.wp P (Exit.then F Q)) E H := fun a w h1 h2 =>
  (wp_mono (first a w h1 h2) fun e a' w' q => by
    cases e with
    | normal => obtain ⟨s1', s2', s3', s4', s5', s6', s7', h3, h4, h5⟩ := q; exact rest s1' s2' s3' s4' s5' s6' s7' h3 a' w' h4 h5
    | exit id => exact q
    | goto l => exact q
    | ret => exact q
    | panic ch => exact q
    | outgrown => exact q)
end
end Go.Proofs.YtojfaelafakemaaGreat
