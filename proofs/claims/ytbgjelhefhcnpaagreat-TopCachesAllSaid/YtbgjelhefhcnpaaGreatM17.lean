/- Texts joined: PtTop, PtSort, PtSort2, PtHole. Each part's own remark says what it proves. -/
import Derived.Test.YtbgjelhefhcnpaaGreatM16
import Derived.Shelf.SlSortFuncK.WholeK
import Derived.Deep.QuietTactic
/- The walks of a page table's checked, Walk, Missing and Huge. No conditions. -/
set_option linter.unusedSimpArgs false
set_option linter.unusedVariables false
namespace Go.Proofs.YtbgjelhefhcnpaaGreat
open Go Go.RowKit
section
variable {P : Program} {n : Nat} {o : Oper} {E : Env} {H : World → Prop} {x : Operand} {v : Value} {t i : Nat}
/-- A field of a struct's value. -/
theorem yl_fieldV [Dl] {ft off : Nat} {fs : Array Field} {arr : List Value} (hu : P.underlying t = some (.struct fs)) (hf : fs[i]?.map (fun f => (f.type, f.offset)) = some (ft, off)) (hA : Ag P ft false) (ho : o.op = .field t x i) (hx : ev E x = some (.agg arr.toArray)) (hv : arr[off]? = some v) : Yl P n o E H v := fun _ w h1 _ => by
  cases hfi : fs[i]? with
  | none => rw [hfi] at hf; cases hf
  | some f =>
    rw [hfi] at hf
    simp only [Option.map_some, Option.some.injEq, Prod.mk.injEq] at hf
    obtain ⟨rfl, rfl⟩ := hf
    simp [execOp, ho, h1.ev hx, Instr.field, run_underlying hu, hfi, asAgg, part, hA.run, hv]
end
section
variable {n : Nat} {o : Oper} {E : Env} {H : World → Prop} {x : Operand}
theorem yl_entD [Dl] {k m : Int} {a b c d : Bool} (ho : o.op = .field 62 x 5) (hx : ev E x = some (entV k m a b c d)) : Yl Tryz.prog n o E H (.bool d) := yl_fieldV (ft := 4) (off := 5) (arr := [.int .i64 k, .int .i64 m, .bool a, .bool b, .bool c, .bool d]) Tryz.underlying62 rfl inferInstance ho hx rfl
theorem yl_entK [Dl] {k m : Int} {a b c d : Bool} (ho : o.op = .field 62 x 0) (hx : ev E x = some (entV k m a b c d)) : Yl Tryz.prog n o E H (.int .i64 k) := yl_fieldV (ft := 3) (off := 0) (arr := [.int .i64 k, .int .i64 m, .bool a, .bool b, .bool c, .bool d]) Tryz.underlying62 rfl inferInstance ho hx rfl
theorem yl_spW [Dl] {a b c : Int} (ho : o.op = .field 80 x 2) (hx : ev E x = some (.agg #[.int .i64 a, .int .i64 b, .int .u64 c])) : Yl Tryz.prog n o E H (.int .u64 c) := yl_fieldV (ft := 58) (off := 2) (arr := [.int .i64 a, .int .i64 b, .int .u64 c]) Tryz.underlying80 rfl inferInstance ho hx rfl
end
/-- Where the walk for a page ends. -/
def endP (root : Int) (T : Tr) (p : Nat) : Int × Int × Int := endT root T (dgF p 2) (dgF p 1) (dgF p 0)
theorem last_eq (ns : List ND) (root : Int) (T : Tr) (p : Nat) : lastP ns root T p = ⟨plI ns (endP root T p).1, (endP root T p).2.1, (endP root T p).2.2⟩ := by
  unfold lastP endP endT
  generalize dgF p 2 = a
  generalize dgF p 1 = b
  generalize dgF p 0 = c
  cases hT : T a with
  | none =>
    have hE : rootE T a = 0 := by unfold rootE; rw [hT]
    unfold pathL midP
    rw [hT, hE]
    rfl
  | some m =>
    cases hs : m.s b with
    | no =>
      have hE : midE m b = 0 := by unfold midE; rw [hs]; rfl
      unfold pathL midP legP
      simp only [hT, hs, hE]
      rfl
    | huge w f =>
      have hE : midE m b = w := by unfold midE; rw [hs]; rfl
      unfold pathL midP legP
      simp only [hT, hs, hE]
      rfl
    | leaf f e =>
      unfold pathL midP legP
      simp only [hT, hs]
      rfl
theorem end_rng {root : Int} {T : Tr} (h : TrOk root T) (p : Nat) : 0 ≤ (endP root T p).2.2 ∧ (endP root T p).2.2 < 18446744073709551616 := by
  unfold endP endT
  generalize dgF p 2 = a
  generalize dgF p 1 = b
  generalize dgF p 0 = c
  cases hT : T a with
  | none => exact ⟨Int.le_refl 0, by show (0:Int) < _; decide⟩
  | some m =>
    have hok := h.s a m hT b
    cases hs : m.s b with
    | no => simp only [hs]; exact ⟨Int.le_refl 0, by show (0:Int) < _; decide⟩
    | huge w f => simp only [hs]; exact (hok.h w f hs).2.2.2
    | leaf f e => simp only [hs]; exact (hok.l f e hs c).2.2
abbrev spC (g : Nat) (a b c : Int) : Chunk := blkC g 80 [.int .i64 a, .int .i64 b, .int .u64 c]
attribute [local irreducible] decR ixL endP
attribute [local irreducible] Code.wp wpList bodyPost Exit.then Exit.inBlock Calls wpQuiet Tri TriQ
section
variable (w0 : World) (cs : List Chunk) {root : Int} {T : Tr} {vn vd : Value} {ns : List ND} {ds : List DP} (h : PtOk root T ns ds) (hN : RdH (Hp w0 cs) vn ns) (hD : RdH (Hp w0 cs) vd ds)
include h hN hD
theorem checked_c {n m : Int} (hn : 0 ≤ n ∧ n < m) : Cal Tryz.prog 30 [ptV root vn vd, .int .i64 n, .int .i64 m] (Hp w0 cs) (fun _ : Unit => .int .i64 0) (fun _ => Hp w0 cs) := by
  refine cal_of_tri Tryz.func30 rfl Tryz.ntmps30 rfl ?_
  (repeat (first | refine tri_seq ?_ | refine tri_then ?_)); refine tri_region ?_; (repeat (first | refine au_pure ?_ | refine au_pass ?_ | refine au_box (fun _ => ?_) | refine au_alloc (fun _ => ?_) | refine au_store ?_ | refine au_make rfl rfl (fun _ => ?_) | refine au_lit rfl rfl rfl (fun _ => ?_) | refine au_append rfl rfl rfl rfl (fun _ => au_norm ?_) | refine au_storeE rfl rfl rfl rfl ?_)); refine tri_nil ?_; (repeat refine tri_then ?_)
  rename_i g1
  refine tri_weak (H' := Hp w0 (ptC g1 root vn vd :: cs)) (fun w h => h) ?_
  (repeat (first | refine zz ?_ | refine zv fun _ => ?_))
  refine au_callC rfl rfl rfl rfl rfl (Check_c w0 _ (vn := vn) (vd := vd) h hN.cons hD.cons) (fun _ => ?_)
  (repeat (first | refine zz ?_ | refine zv fun _ => ?_))
  rw [show decide (n < 0) = false from decide_eq_false (by omega)]
  (repeat (first | refine zz ?_ | refine zv fun _ => ?_))
  rw [show decide (n ≥ m) = false from decide_eq_false (by omega)]
  (repeat (first | refine zz ?_ | refine zv fun _ => ?_))
  refine au_done1 rfl ?_
  exact fun w hw => ⟨(), rfl, hw.tail⟩
theorem Walk_c {p : Nat} (hp : p < 512) : Cal Tryz.prog 24 [ptV root vn vd, .int .i64 (p : Int)] (Hp w0 cs) (fun _ : Unit => .tuple #[.int .u64 (endP root T p).2.2, .int .i64 (endP root T p).2.1, .int .i64 0]) (fun _ => Hp w0 cs) := by
  have hnl := h.nlen
  have hle := last_eq ns root T p
  obtain ⟨⟨ef, el, ew⟩, he⟩ : ∃ e, e = endP root T p := ⟨_, rfl⟩
  rw [← he] at hle ⊢
  simp only at hle ⊢
  refine cal_of_tri Tryz.func24 rfl Tryz.ntmps24 rfl ?_
  (repeat (first | refine tri_seq ?_ | refine tri_then ?_)); refine tri_region ?_; (repeat (first | refine au_pure ?_ | refine au_pass ?_ | refine au_box (fun _ => ?_) | refine au_alloc (fun _ => ?_) | refine au_store ?_ | refine au_make rfl rfl (fun _ => ?_) | refine au_lit rfl rfl rfl (fun _ => ?_) | refine au_append rfl rfl rfl rfl (fun _ => au_norm ?_) | refine au_storeE rfl rfl rfl rfl ?_)); refine tri_nil ?_; (repeat refine tri_then ?_)
  rename_i g2
  refine tri_weak (H' := Hp w0 (ptC g2 root vn vd :: cs)) (fun w h => h) ?_
  (repeat (first | refine zz ?_ | refine zv fun _ => ?_))
  refine au_callC rfl rfl rfl rfl rfl (checked_c w0 _ (vn := vn) (vd := vd) h hN.cons hD.cons (n := (p : Int)) (m := 512) (by omega)) (fun _ => ?_)
  (repeat (first | refine zz ?_ | refine zv fun _ => ?_))
  refine au_callC rfl rfl rfl rfl rfl (last_c w0 _ (vn := vn) (vd := vd) h hN.cons (by omega) hp) (fun _ => ?_)
  rw [hle]
  refine zv fun g8 => ?_
  refine zz ?_
  refine zz ?_
  refine tri_weak (H' := Hp w0 (spC g8 (plI ns ef) el ew :: ptC g2 root vn vd :: cs)) (fun w h => h) ?_
  (repeat (first | refine tri_seq ?_ | refine tri_then ?_))
  refine au_draw rfl ?_
  (repeat (first | refine z1 ?_ | refine au_qpass rfl rfl ?_ | refine triq_nil ?_))
  (repeat (first | refine zz ?_ | refine zv fun _ => ?_))
  refine au_done3 rfl ?_
  exact fun w hw => ⟨(), rfl, hw.sub (by repeat (first | exact List.Sublist.refl _ | assumption | apply List.Sublist.cons_cons | apply List.Sublist.cons))⟩
theorem Missing_c {p : Nat} (hp : p < 512) (hh : (endP root T p).2.1 = 1 → (decR (endP root T p).2.2).1.d = false) : Cal Tryz.prog 39 [ptV root vn vd, .int .i64 (p : Int)] (Hp w0 cs) (fun _ : Unit => .tuple #[.int .i64 (endP root T p).2.1, .int .i64 0]) (fun _ => Hp w0 cs) := by
  have hnl := h.nlen
  have hle := last_eq ns root T p
  have her := end_rng h.t p
  obtain ⟨⟨ef, el, ew⟩, he⟩ : ∃ e, e = endP root T p := ⟨_, rfl⟩
  rw [← he] at hle hh her ⊢
  simp only at hle hh her ⊢
  refine cal_of_tri Tryz.func39 rfl Tryz.ntmps39 rfl ?_
  (repeat (first | refine tri_seq ?_ | refine tri_then ?_)); refine tri_region ?_; (repeat (first | refine au_pure ?_ | refine au_pass ?_ | refine au_box (fun _ => ?_) | refine au_alloc (fun _ => ?_) | refine au_store ?_ | refine au_make rfl rfl (fun _ => ?_) | refine au_lit rfl rfl rfl (fun _ => ?_) | refine au_append rfl rfl rfl rfl (fun _ => au_norm ?_) | refine au_storeE rfl rfl rfl rfl ?_)); refine tri_nil ?_; (repeat refine tri_then ?_)
  rename_i g2
  refine tri_weak (H' := Hp w0 (ptC g2 root vn vd :: cs)) (fun w h => h) ?_
  (repeat (first | refine zz ?_ | refine zv fun _ => ?_))
  refine au_callC rfl rfl rfl rfl rfl (checked_c w0 _ (vn := vn) (vd := vd) h hN.cons hD.cons (n := (p : Int)) (m := 512) (by omega)) (fun _ => ?_)
  (repeat (first | refine zz ?_ | refine zv fun _ => ?_))
  refine au_callC rfl rfl rfl rfl rfl (last_c w0 _ (vn := vn) (vd := vd) h hN.cons (by omega) hp) (fun _ => ?_)
  rw [hle]
  refine zv fun g8 => ?_
  refine zz ?_
  refine zz ?_
  refine tri_weak (H' := Hp w0 (spC g8 (plI ns ef) el ew :: ptC g2 root vn vd :: cs)) (fun w h => h) ?_
  (repeat (first | refine zz ?_ | refine zv fun _ => ?_))
  cases h1 : (el == 1)
  case true =>
    have h1 := hh (beq_iff_eq.1 h1)
    (repeat (first | refine zz ?_ | refine zv fun _ => ?_))
    refine au_callC rfl rfl rfl rfl rfl (entry_c w0 _ ew her.1 her.2) (fun _ => ?_)
    obtain ⟨e, hee⟩ : ∃ e, e = (decR ew).1 := ⟨_, rfl⟩
    rw [← hee] at h1 ⊢
    obtain ⟨ek, en, ea, eb, ec, ed⟩ := e
    simp only at h1
    subst h1
    (repeat (first | refine zz ?_ | refine zv fun _ => ?_))
    refine au_pure ?_ (hy := yl_entD rfl rfl)
    (repeat (first | refine zz ?_ | refine zv fun _ => ?_))
    refine au_done2 rfl ?_
    exact fun w hw => ⟨(), rfl, hw.sub (by repeat (first | exact List.Sublist.refl _ | assumption | apply List.Sublist.cons_cons | apply List.Sublist.cons))⟩
  (repeat (first | refine zz ?_ | refine zv fun _ => ?_))
  refine au_done2 rfl ?_
  exact fun w hw => ⟨(), rfl, hw.sub (by repeat (first | exact List.Sublist.refl _ | assumption | apply List.Sublist.cons_cons | apply List.Sublist.cons))⟩
theorem Huge_c {g : Nat} (hg : g < 64) : Cal Tryz.prog 9 [ptV root vn vd, .int .i64 (g : Int)] (Hp w0 cs) (fun _ : Unit => .bool (decR (endP root T (8 * g)).2.2).1.d) (fun _ => Hp w0 cs) := by
  have hnl := h.nlen
  have hle := last_eq ns root T (8 * g)
  have her := end_rng h.t (8 * g)
  obtain ⟨⟨ef, el, ew⟩, he⟩ : ∃ e, e = endP root T (8 * g) := ⟨_, rfl⟩
  rw [← he] at hle her ⊢
  simp only at hle her ⊢
  refine cal_of_tri Tryz.func9 rfl Tryz.ntmps9 rfl ?_
  (repeat (first | refine tri_seq ?_ | refine tri_then ?_)); refine tri_region ?_; (repeat (first | refine au_pure ?_ | refine au_pass ?_ | refine au_box (fun _ => ?_) | refine au_alloc (fun _ => ?_) | refine au_store ?_ | refine au_make rfl rfl (fun _ => ?_) | refine au_lit rfl rfl rfl (fun _ => ?_) | refine au_append rfl rfl rfl rfl (fun _ => au_norm ?_) | refine au_storeE rfl rfl rfl rfl ?_)); refine tri_nil ?_; (repeat refine tri_then ?_)
  rename_i g2
  refine tri_weak (H' := Hp w0 (ptC g2 root vn vd :: cs)) (fun w h => h) ?_
  (repeat (first | refine zz ?_ | refine zv fun _ => ?_))
  refine au_callC rfl rfl rfl rfl rfl (checked_c w0 _ (vn := vn) (vd := vd) h hN.cons hD.cons (n := (g : Int)) (m := 64) (by omega)) (fun _ => ?_)
  (repeat (first | refine zz ?_ | refine zv fun _ => ?_))
  rw [show IntKind.i64.wrap ((g : Int) * 8) = ((8 * g : Nat) : Int) by rw [wrap_i64 (by omega)]; omega]
  refine au_callC rfl rfl rfl rfl rfl (last_c w0 _ (vn := vn) (vd := vd) h hN.cons (by omega) (p := 8 * g) (by omega)) (fun _ => ?_)
  rw [hle]
  (repeat (first | refine zz ?_ | refine zv fun _ => ?_))
  refine au_pure ?_ (hy := yl_spW rfl rfl)
  (repeat (first | refine zz ?_ | refine zv fun _ => ?_))
  refine au_callC rfl rfl rfl rfl rfl (entry_c w0 _ ew her.1 her.2) (fun _ => ?_)
  obtain ⟨e, hee⟩ : ∃ e, e = (decR ew).1 := ⟨_, rfl⟩
  rw [← hee]
  obtain ⟨ek, en, ea, eb, ec, ed⟩ := e
  (repeat (first | refine zz ?_ | refine zv fun _ => ?_))
  refine au_pure ?_ (hy := yl_entD rfl rfl)
  (repeat (first | refine zz ?_ | refine zv fun _ => ?_))
  refine au_done1 rfl ?_
  exact fun w hw => ⟨(), rfl, hw.sub (by repeat (first | exact List.Sublist.refl _ | assumption | apply List.Sublist.cons_cons | apply List.Sublist.cons))⟩
end
end Go.Proofs.YtbgjelhefhcnpaaGreat

/- sort.Slice over the nodes of a page table, by their frames. No conditions. -/
set_option linter.unusedSimpArgs false
set_option linter.unusedVariables false
namespace Go.Proofs.YtbgjelhefhcnpaaGreat
open Go Go.RowKit Go.Shelf Go.Lib Go.Sort
def Tryz.sv6_ren : Go.Shelf.Ren := ⟨fun | 6 => 95 | 10 => 101 | 11 => 102 | 12 => 103 | 13 => 104 | 14 => 105 | 24 => 116 | 25 => 117 | 26 => 118 | 27 => 119 | 28 => 120 | 29 => 121 | 30 => 122 | 31 => 123 | 32 => 124 | 33 => 125 | 34 => 127 | 35 => 128 | 36 => 129 | 37 => 130 | 38 => 131 | 39 => 132 | n => n, fun | 20 => 20 | 26 => 149 | 35 => 155 | 0 => 0 | 37 => 157 | 3 => 3 | 41 => 125 | 44 => 163 | 49 => 168 | 51 => 58 | 4 => 4 | 54 => 171 | 53 => 170 | 58 => 113 | 5 => 5 | 9 => 9 | 60 => 177 | 64 => 86 | 66 => 182 | 67 => 90 | 17 => 17 | 32 => 152 | 33 => 153 | 82 => 197 | 12 => 12 | 75 => 190 | 76 => 191 | 77 => 192 | 78 => 193 | 79 => 194 | 80 => 195 | n => n, fun | n => n⟩
theorem Tryz.sv6 : Go.Proofs.LaysGg.n6 Tryz.prog Tryz.sv6_ren := {
  mixed := by kernel_rfl,
  f6 := Tryz.func95.trans (congrArg some (by kernel_rfl)),
  f10 := Tryz.func101.trans (congrArg some (by kernel_rfl)),
  f11 := Tryz.func102.trans (congrArg some (by kernel_rfl)),
  f12 := Tryz.func103.trans (congrArg some (by kernel_rfl)),
  f13 := Tryz.func104.trans (congrArg some (by kernel_rfl)),
  f14 := Tryz.func105.trans (congrArg some (by kernel_rfl)),
  f24 := Tryz.func116.trans (congrArg some (by kernel_rfl)),
  f25 := Tryz.func117.trans (congrArg some (by kernel_rfl)),
  f26 := Tryz.func118.trans (congrArg some (by kernel_rfl)),
  f27 := Tryz.func119.trans (congrArg some (by kernel_rfl)),
  f28 := Tryz.func120.trans (congrArg some (by kernel_rfl)),
  f29 := Tryz.func121.trans (congrArg some (by kernel_rfl)),
  f30 := Tryz.func122.trans (congrArg some (by kernel_rfl)),
  f31 := Tryz.func123.trans (congrArg some (by kernel_rfl)),
  f32 := Tryz.func124.trans (congrArg some (by kernel_rfl)),
  f33 := Tryz.func125.trans (congrArg some (by kernel_rfl)),
  f34 := Tryz.func127.trans (congrArg some (by kernel_rfl)),
  f35 := Tryz.func128.trans (congrArg some (by kernel_rfl)),
  f36 := Tryz.func129.trans (congrArg some (by kernel_rfl)),
  f37 := Tryz.func130.trans (congrArg some (by kernel_rfl)),
  f38 := Tryz.func131.trans (congrArg some (by kernel_rfl)),
  f39 := Tryz.func132.trans (congrArg some (by kernel_rfl)),
  t0 := Tryz.underlying0,
  a0 := Tryz.isAgg0,
  z0 := Tryz.sizeOf0,
  v0 := Tryz.zeroValue0,
  i0 := by kernel_rfl,
  t3 := Tryz.underlying3,
  a3 := Tryz.isAgg3,
  z3 := Tryz.sizeOf3,
  v3 := Tryz.zeroValue3,
  i3 := by kernel_rfl,
  t4 := Tryz.underlying4,
  a4 := Tryz.isAgg4,
  z4 := Tryz.sizeOf4,
  v4 := Tryz.zeroValue4,
  i4 := by kernel_rfl,
  t5 := Tryz.underlying5,
  a5 := Tryz.isAgg5,
  z5 := Tryz.sizeOf5,
  v5 := Tryz.zeroValue5,
  i5 := by kernel_rfl,
  t9 := Tryz.underlying9,
  a9 := Tryz.isAgg9,
  z9 := Tryz.sizeOf9,
  v9 := Tryz.zeroValue9,
  i9 := by kernel_rfl,
  t12 := Tryz.underlying12,
  a12 := Tryz.isAgg12,
  z12 := Tryz.sizeOf12,
  v12 := Tryz.zeroValue12,
  i12 := by kernel_rfl,
  t17 := Tryz.underlying17,
  a17 := Tryz.isAgg17,
  z17 := Tryz.sizeOf17,
  v17 := Tryz.zeroValue17,
  i17 := by kernel_rfl,
  t20 := Tryz.underlying20,
  a20 := Tryz.isAgg20,
  z20 := Tryz.sizeOf20,
  v20 := Tryz.zeroValue20,
  i20 := by kernel_rfl,
  t26 := Tryz.underlying149,
  a26 := Tryz.isAgg149,
  z26 := Tryz.sizeOf149,
  v26 := Tryz.zeroValue149,
  i26 := by kernel_rfl,
  t32 := Tryz.underlying152,
  a32 := Tryz.isAgg152,
  z32 := Tryz.sizeOf152,
  v32 := Tryz.zeroValue152,
  i32 := by kernel_rfl,
  t33 := Tryz.underlying153,
  a33 := Tryz.isAgg153,
  z33 := Tryz.sizeOf153,
  v33 := Tryz.zeroValue153,
  i33 := by kernel_rfl,
  t35 := Tryz.underlying155,
  a35 := Tryz.isAgg155,
  z35 := Tryz.sizeOf155,
  v35 := Tryz.zeroValue155,
  i35 := by kernel_rfl,
  t37 := Tryz.underlying157,
  a37 := Tryz.isAgg157,
  z37 := Tryz.sizeOf157,
  v37 := Tryz.zeroValue157,
  i37 := by kernel_rfl,
  t41 := Tryz.underlying125,
  a41 := Tryz.isAgg125,
  z41 := Tryz.sizeOf125,
  v41 := Tryz.zeroValue125,
  i41 := by kernel_rfl,
  t44 := Tryz.underlying163,
  a44 := Tryz.isAgg163,
  z44 := Tryz.sizeOf163,
  v44 := Tryz.zeroValue163,
  i44 := by kernel_rfl,
  t49 := Tryz.underlying168,
  a49 := Tryz.isAgg168,
  z49 := Tryz.sizeOf168,
  v49 := Tryz.zeroValue168,
  i49 := by kernel_rfl,
  t51 := Tryz.underlying58,
  a51 := Tryz.isAgg58,
  z51 := Tryz.sizeOf58,
  v51 := Tryz.zeroValue58,
  i51 := by kernel_rfl,
  t53 := Tryz.underlying170,
  a53 := Tryz.isAgg170,
  z53 := Tryz.sizeOf170,
  v53 := Tryz.zeroValue170,
  i53 := by kernel_rfl,
  t54 := Tryz.underlying171,
  a54 := Tryz.isAgg171,
  z54 := Tryz.sizeOf171,
  v54 := Tryz.zeroValue171,
  i54 := by kernel_rfl,
  t58 := Tryz.underlying113,
  a58 := Tryz.isAgg113,
  z58 := Tryz.sizeOf113,
  v58 := Tryz.zeroValue113,
  i58 := by kernel_rfl,
  t60 := Tryz.underlying177,
  a60 := Tryz.isAgg177,
  z60 := Tryz.sizeOf177,
  v60 := Tryz.zeroValue177,
  i60 := by kernel_rfl,
  t64 := Tryz.underlying86,
  a64 := Tryz.isAgg86,
  z64 := Tryz.sizeOf86,
  v64 := Tryz.zeroValue86,
  i64 := by kernel_rfl,
  t66 := Tryz.underlying182,
  a66 := Tryz.isAgg182,
  z66 := Tryz.sizeOf182,
  v66 := Tryz.zeroValue182,
  i66 := by kernel_rfl,
  t67 := Tryz.underlying90,
  a67 := Tryz.isAgg90,
  z67 := Tryz.sizeOf90,
  v67 := Tryz.zeroValue90,
  i67 := by kernel_rfl,
  t75 := Tryz.underlying190,
  a75 := Tryz.isAgg190,
  z75 := Tryz.sizeOf190,
  v75 := Tryz.zeroValue190,
  i75 := by kernel_rfl,
  t76 := Tryz.underlying191,
  a76 := Tryz.isAgg191,
  z76 := Tryz.sizeOf191,
  v76 := Tryz.zeroValue191,
  i76 := by kernel_rfl,
  t77 := Tryz.underlying192,
  a77 := Tryz.isAgg192,
  z77 := Tryz.sizeOf192,
  v77 := Tryz.zeroValue192,
  i77 := by kernel_rfl,
  t78 := Tryz.underlying193,
  a78 := Tryz.isAgg193,
  z78 := Tryz.sizeOf193,
  v78 := Tryz.zeroValue193,
  i78 := by kernel_rfl,
  t79 := Tryz.underlying194,
  a79 := Tryz.isAgg194,
  z79 := Tryz.sizeOf194,
  v79 := Tryz.zeroValue194,
  i79 := by kernel_rfl,
  t80 := Tryz.underlying195,
  a80 := Tryz.isAgg195,
  z80 := Tryz.sizeOf195,
  v80 := Tryz.zeroValue195,
  i80 := by kernel_rfl,
  t82 := Tryz.underlying197,
  a82 := Tryz.isAgg197,
  z82 := Tryz.sizeOf197,
  v82 := Tryz.zeroValue197,
  i82 := by kernel_rfl }
noncomputable def svT : TypeInfo := (Tryz.prog.info? 36).get (by kernel_rfl)
noncomputable def svE : TypeInfo := (Tryz.prog.info? 89).get (by kernel_rfl)
theorem svK (n : Nat) (h2 : 2 ≤ n) : Lib.swapperK n svE 25 = 9 := by
  have a : svE.hasPointers = false := by kernel_rfl
  have b : svE.bytes = 72 := by kernel_rfl
  have c : (n == 0) = false := by simp; omega
  have d : (n == 1) = false := by simp; omega
  simp [Lib.swapperK, a, b, c, d]
def ltF (a b : ND) : Bool := decide (a.f < b.f)
theorem swo_ltF : SWO ltF where
  irrefl := fun x => by simp [ltF]
  trans := fun x y z h1 h2 => by simp [ltF] at *; omega
  ntrans := fun x y z h1 h2 => by simp [ltF] at *; omega
set_option maxHeartbeats 2000000 in
theorem less_at (blk off c Bs Bt size : Nat) (W : World) (G : Nat → Int) (hb : W.cell? ⟨Bs, 0, none⟩ = some (.pointer (some ⟨Bt, 0, none⟩))) (hs : W.cell? ⟨Bt, 1, none⟩ = some (.slice (some ⟨blk, off, none⟩) size c))
    (hc : ∀ t, t < size → W.cell? ⟨blk, off + t * 9, none⟩ = some (.int .i64 (G t))) (i j : Nat) (hi : i < size) (hj : j < size) (_hsz : size < 4611686018427387904) :
    Calls Tryz.prog 96 #[.int .i64 i, .int .i64 j, .pointer (some ⟨Bs, 0, none⟩)] W fun e w' => e = .returned (.bool (decide (G i < G j))) ∧ ∃ q, w' = W.drewN q := by
  have ci := hc i hi
  have cj := hc j hj
  go_enter Tryz.func96, Tryz.ntmps96
  go_wp2
  go_quiet (fail)
  go_wp2
  go_ret
  exact ⟨rfl, nq, rfl⟩
end Go.Proofs.YtbgjelhefhcnpaaGreat

/- sort.Slice over the nodes of a page table, as a contract of the engine. No conditions. -/
set_option linter.unusedSimpArgs false
set_option linter.unusedVariables false
namespace Go.Proofs.YtbgjelhefhcnpaaGreat
open Go Go.RowKit Go.Sort
theorem frozen_row {w : World} {g : Nat} {cur : Array Value} {e : Nat} (h : w.heap[g]? = some (.cells cur e (0, 0))) (k : Nat) : w.frozen? ⟨g, k, none⟩ = false := by simp [World.frozen?, h]
section
variable {α : Type} [Enc α]
theorem flat_get (d : Array α) (t : Nat) (ht : t < d.size * Enc.sz α) : (encs d.toList)[t]? = some ((flatK Enc.enc (Enc.sz α) d)[t]!) := by
  have hp : 0 < Enc.sz α := Enc.pos
  have hd : t / Enc.sz α < d.size := (Nat.div_lt_iff_lt_mul hp).2 ht
  have hm : t % Enc.sz α < Enc.sz α := Nat.mod_lt _ hp
  have he : t = t / Enc.sz α * Enc.sz α + t % Enc.sz α := by rw [Nat.mul_comm]; exact (Nat.div_add_mod t _).symm
  have h1 := encs_get (l := d.toList) (i := t / Enc.sz α) (j := t % Enc.sz α) (by simpa using hd) hm
  rw [← he] at h1
  have h2 : d.toList.getD (t / Enc.sz α) default = d[t / Enc.sz α]! := by
    rw [getD_get (by simpa using hd), getElem!_pos d _ hd, Array.getElem_toList]
  rw [h1, get_flatK _ _ _ _ ht, h2]
  have hl : t % Enc.sz α < (Enc.enc d[t / Enc.sz α]!).length := by rw [Enc.len]; exact hm
  rw [List.getElem?_eq_getElem hl]
  exact congrArg some (getElem!_pos (Enc.enc d[t / Enc.sz α]!) (t % Enc.sz α) hl).symm
theorem own_holds {w : World} {r : Row} {e g o : Nat} {l : List α} (h : Own w r e l) (hA : r.A = some ⟨g, o, none⟩) : ∃ cur, w.heap[g]? = some (.cells cur e (0, 0)) ∧ r.lo ≤ g ∧ g < r.hi ∧ HoldsK Enc.enc (Enc.sz α) w g o l.toArray := by
  rcases h.row with ⟨h1, _⟩ | ⟨g', o', cur, h1, h2, h3, h4, h5, h6⟩
  · rw [h1] at hA; cases hA
  · rw [h1] at hA
    cases hA
    refine ⟨cur, h4, h2, h3, fun j hj => ⟨?_, frozen_row h4 _⟩⟩
    rw [size_flatK] at hj
    have hj' : j < l.length * Enc.sz α := by simpa using hj
    have hf := flat_get l.toArray j hj
    rw [show l.toArray.toList = l from rfl] at hf
    rw [cell_of_row w g _ cur e (0, 0) h4]
    have : ((cur.toList.drop o).take (r.len * Enc.sz α))[j]? = (encs l)[j]? := by rw [h6]
    rw [List.getElem?_take_of_lt (by rw [h.len]; exact hj'), List.getElem?_drop, hf] at this
    simpa using this
theorem own_put {w w' : World} {r : Row} {e g o : Nat} {l : List α} {d : Array α} (h : Own w r e l) (hA : r.A = some ⟨g, o, none⟩) (hd : d.size = l.length) (hw : ∀ cur, w.heap[g]? = some (.cells cur e (0, 0)) → w'.heap[g]? = some (.cells (putCells id o (flatK Enc.enc (Enc.sz α) d) cur) e (0, 0))) : Own w' r e d.toList := by
  rcases h.row with ⟨h1, _⟩ | ⟨g', o', cur, h1, h2, h3, h4, h5, h6⟩
  · rw [h1] at hA; cases hA
  · rw [h1] at hA
    cases hA
    refine ⟨by rw [h.len]; simpa using hd.symm, h.lec, h.cap, .inr ⟨g, o, _, h1, h2, h3, hw cur h4, by simpa [putCells] using h5, ?_⟩⟩
    have hle : r.len * Enc.sz α ≤ r.cap * Enc.sz α := Nat.mul_le_mul_right _ h.lec
    apply List.ext_getElem?
    intro t
    by_cases ht : t < r.len * Enc.sz α
    · have ht' : t < d.size * Enc.sz α := by rw [hd, ← h.len]; exact ht
      rw [List.getElem?_take_of_lt ht, List.getElem?_drop, flat_get d t ht']
      have hts : o + t < cur.size := by omega
      simp only [putCells, Array.getElem?_toList, Array.getElem?_mapIdx, Array.getElem?_eq_getElem hts, Option.map_some, size_flatK, id]
      rw [if_pos (by omega)]
      congr 2
      omega
    · rw [List.getElem?_eq_none (by rw [List.length_take]; omega), List.getElem?_eq_none (by rw [length_encs, Array.length_toList, hd, ← h.len]; omega)]
end
/-- A list sorted by frames. -/
def SortF (l : List ND) (l' : List ND) : Prop := l'.Perm l ∧ l'.Pairwise fun a b => a.f ≤ b.f
theorem sort_perm {d d' : Array ND} (h1 : PermIn 0 d.size d d') (h2 : SortedIn ltF 0 d.size d') : SortF d.toList d'.toList := by
  obtain ⟨hs, _, hp⟩ := h1
  refine ⟨?_, ?_⟩
  · have e1 : (d'.extract 0 d.size) = d' := by rw [← hs]; exact Array.extract_size
    have e2 : (d.extract 0 d.size) = d := Array.extract_size
    rw [e1, e2] at hp
    exact hp
  · rw [List.pairwise_iff_getElem]
    intro i j hi hj hij
    have hi' : i < d'.size := by simpa using hi
    have hj' : j < d'.size := by simpa using hj
    have := h2 i j (Nat.zero_le _) hij (by omega)
    rw [getElem!_pos d' j hj', getElem!_pos d' i hi'] at this
    simp only [Array.getElem_toList]
    simpa [ltF] using this
attribute [local irreducible] Code.wp wpList bodyPost Exit.then Exit.inBlock Calls wpQuiet Tri TriQ
set_option maxHeartbeats 2000000 in
theorem sort_c (w0 : World) (cs : List Chunk) {r : Row} {l : List ND} (h2 : 2 ≤ l.length) (hl : l.length ≤ 1000000) {gp gt : Nat} {root : Int} {vd : Value} :
    Cal Tryz.prog 95 [.iface 36 r.v, .func (.func 96) #[] #[pR gp]] (Hp w0 (ndS r l :: blkC gp 99 [pR gt] :: ptC gt root r.v vd :: cs)) (fun _ : {l' : List ND // SortF l l'} => .tuple #[])
      (fun l' => Hp w0 (ndS r l'.1 :: blkC gp 99 [pR gt] :: ptC gt root r.v vd :: cs)) := by
  intro w hw
  have hown := hw.own (has_at at0)
  have hA : ∃ g o, r.A = some ⟨g, o, none⟩ := by
    rcases hown.row with ⟨_, h1, _⟩ | ⟨g, o, cur, h1, _⟩
    · rw [hown.len] at h1; omega
    · exact ⟨g, o, h1⟩
  obtain ⟨g, o, hA⟩ := hA
  obtain ⟨cur, hcur, hlo, hhi, hH⟩ := own_holds hown hA
  have hgs : g < w.heap.size := (Array.getElem?_eq_some_iff.1 hcur).1
  have hbp := hw.blk (has_at (atS at0))
  have hbt := hw.blk (has_at (atS (atS at0)))
  have hgp : gp < w.heap.size := (Array.getElem?_eq_some_iff.1 hbp).1
  have hgt : gt < w.heap.size := (Array.getElem?_eq_some_iff.1 hbt).1
  have ap1 : gp ≠ g := by
    have := hw.apart 0 1 _ _ (by decide) at0 (atS at0)
    intro e; subst e
    rcases this with h | h
    · have h : r.hi ≤ gp := h; omega
    · have h : gp + 1 ≤ r.lo := h; omega
  have ap2 : gt ≠ g := by
    have := hw.apart 0 2 _ _ (by decide) at0 (atS (atS at0))
    intro e; subst e
    rcases this with h | h
    · have h : r.hi ≤ gt := h; omega
    · have h : gt + 1 ≤ r.lo := h; omega
  have hrv : r.v = .slice (some ⟨g, o, none⟩) l.toArray.size r.cap := by rw [Row.v, hA, hown.len]; rfl
  have hls : l.toArray.size = l.length := rfl
  have hcp : w.cell? ⟨gp, 0, none⟩ = some (pR gt) := by rw [cell_of_row w gp _ _ _ (0, 0) hbp]; rfl
  have hct : w.cell? ⟨gt, 1, none⟩ = some (.slice (some ⟨g, o, none⟩) l.toArray.size r.cap) := by rw [cell_of_row w gt _ _ _ (0, 0) hbt, ← hrv]; rfl
  have hless : LessReadsK Tryz.prog 96 #[pR gp] (Enc.enc (α := ND)) 9 ltF g o l.toArray.size w := by
    intro m os dk hs i j hi hj
    have e : sortWorldK (Enc.enc (α := ND)) 9 w g o m dk os = putRowK (Enc.enc (α := ND)) 9 (Sort.grow (Sort.ahead w m) os) g o dk := by
      unfold sortWorldK; rw [putRowK_grow _ _ (Sort.ahead w m) _ g o _ hgs]
    have hHg : HoldsK (Enc.enc (α := ND)) 9 (Sort.grow (Sort.ahead w m) os) g o l.toArray := holdsK_grow _ _ _ _ g o _ hgs (holdsK_ahead _ _ _ _ _ _ _ hH)
    refine less_at g o r.cap gp gt l.toArray.size _ (fun t => dk[t]!.f) ?_ ?_ (fun t ht => ?_) i j hi hj (by omega)
    · rw [e, cell?_putRowK_other _ _ _ g o dk _ (by exact ap1), cell?_grow _ _ _ (by exact hgp)]; exact hcp
    · rw [e, cell?_putRowK_other _ _ _ g o dk _ (by exact ap2), cell?_grow _ _ _ (by exact hgt)]; exact hct
    · rw [e]; exact ((holdsK_putRowK _ _ _ g o _ dk hHg hs).cell (i := t) (c := 0) (by omega) (by omega)).1
  rw [hrv]
  have hC := Any.sort_Slice_cells_sorted Tryz.sv6 36 89 svT svE (by kernel_rfl) (by kernel_rfl) (by kernel_rfl) (by kernel_rfl) 25 (fun _ => by kernel_rfl) (Enc.enc (α := ND)) 9 (fun x => Enc.len x) (by kernel_rfl) (fun _ => by kernel_rfl)
    (fun x v hv => Enc.one x v hv) ltF swo_ltF 96 _
    (enters_of Tryz.func96 (by kernel_rfl) rfl) g o r.cap l.toArray h2 (by omega) 115 (by rw [svK l.toArray.size h2]; kernel_rfl) false
    (fun args W => run_callFunc_extern Tryz.func115 (by kernel_rfl) (by kernel_rfl) (by kernel_rfl) (e := Extern.ReflectliteSwapper.swap false) (by kernel_rfl) args W) w hless hH hgs
  refine hC.mono ?_
  rintro e w' ⟨rfl, d', n, os, hp, hso, rfl⟩
  have hsp := sort_perm hp hso
  refine ⟨⟨d'.toList, hsp⟩, rfl, ?_⟩
  have hds : d'.size = l.length := hp.1
  have hheap : ∀ b, b < w.heap.size → (Sort.grow (putRowK (Enc.enc (α := ND)) 9 (Sort.ahead w n) g o d') os).heap[b]? = (w.heap.modify g (onCells (putCells id o (flatK (Enc.enc (α := ND)) 9 d'))))[b]? := fun b hb => by
    show (w.heap.modify g (onCells (putCells id o (flatK (Enc.enc (α := ND)) 9 d'))) ++ os)[b]? = _
    rw [Array.getElem?_append_left (by simpa using hb)]
  have hsz : (Sort.grow (putRowK (Enc.enc (α := ND)) 9 (Sort.ahead w n) g o d') os).heap.size = w.heap.size + os.size := by
    show (w.heap.modify g (onCells (putCells id o (flatK (Enc.enc (α := ND)) 9 d'))) ++ os).size = _
    simp
  show Hp w0 (ndS r d'.toList :: blkC gp 99 [pR gt] :: ptC gt root (.slice (some ⟨g, o, none⟩) l.toArray.size r.cap) vd :: cs) _
  rw [← hrv]
  refine hw.set (w' := Sort.grow (putRowK (Enc.enc (α := ND)) 9 (Sort.ahead w n) g o d') os) (i := 0) (c' := ndS r d'.toList) rfl ⟨rfl, rfl, rfl, by omega⟩ (fun b hb hbn => ?_) (.inl ⟨rfl, rfl⟩) ?_ ?_
  · have hbg : g ≠ b := by
      intro e; subst e
      rcases hbn with h | h
      · have h : g < r.lo := h; omega
      · have h : r.hi ≤ g := h; omega
    rw [hheap b hb, Array.getElem?_modify, if_neg hbg]
  · have := (hw.at_ 0 _ rfl).2.2.1
    have h1 : r.hi ≤ w.heap.size := this
    show r.hi ≤ _
    omega
  · refine own_put hown hA hds fun cur2 hc2 => ?_
    rw [hheap g hgs, Array.getElem?_modify, if_pos rfl, hc2]
    rfl
end Go.Proofs.YtbgjelhefhcnpaaGreat

/- Page tables in plain Lean: a tree's nodes and deposits, and what a change of a part of it changes of them. No conditions. -/
set_option linter.unusedSimpArgs false
set_option linter.unusedVariables false
namespace Go.Proofs.YtbgjelhefhcnpaaGreat
open Go Go.RowKit
def updA {α : Type} (F : Fin 8 → α) (a : Fin 8) (x : α) : Fin 8 → α := fun i => if i = a then x else F i
section
variable {α β : Type} (F : Fin 8 → α) (a : Fin 8)
theorem updA_at (x : α) : updA F a x a = x := if_pos rfl
theorem updA_ne (x : α) {i : Fin 8} (h : i ≠ a) : updA F a x i = F i := if_neg h
theorem updA_id : updA F a (F a) = F := by
  funext i
  unfold updA
  split
  · rename_i h; rw [h]
  · rfl
theorem updA_updA (x y : α) : updA (updA F a x) a y = updA F a y := by
  funext i
  unfold updA
  split <;> rfl
theorem updA_map (g : α → β) (x : α) : (fun i => g (updA F a x i)) = updA (fun i => g (F i)) a (g x) := by
  funext i
  unfold updA
  split <;> rfl
end
def rest8 (a : Fin 8) : List (Fin 8) := all8.filter fun i => i != a
theorem all8_perm (a : Fin 8) : all8.Perm (a :: rest8 a) := by
  match a with
  | 0 => decide
  | 1 => decide
  | 2 => decide
  | 3 => decide
  | 4 => decide
  | 5 => decide
  | 6 => decide
  | 7 => decide
theorem rest_ne {a i : Fin 8} (h : i ∈ rest8 a) : i ≠ a := by
  unfold rest8 at h
  simpa using (List.mem_filter.1 h).2
theorem flat_upd {α β : Type} (F : Fin 8 → α) (G : Fin 8 → α → List β) (a : Fin 8) (x : α) : (all8.flatMap fun i => G i (updA F a x i)).Perm (G a x ++ (rest8 a).flatMap fun i => G i (F i)) := by
  refine ((all8_perm a).flatMap_right _).trans ?_
  rw [List.flatMap_cons, updA_at]
  have : (rest8 a).flatMap (fun i => G i (updA F a x i)) = (rest8 a).flatMap fun i => G i (F i) := by
    rw [List.flatMap_def, List.flatMap_def]
    congr 1
    exact List.map_congr_left fun i hi => by rw [updA_ne F a x (rest_ne hi)]
  rw [this]
/-- The tree with another leg. -/
def legT (T : Tr) (a b : Fin 8) (m : Mid) (s : Leg) : Tr := updA T a (some ⟨m.f, updA m.s b s⟩)
def nodR (T : Tr) (a b : Fin 8) (m : Mid) : List ND := ((rest8 b).flatMap fun j => subN (m.s j)) ++ (rest8 a).flatMap fun i => optN (T i)
def depR (T : Tr) (a b : Fin 8) (m : Mid) : List DP := ((rest8 b).flatMap fun j => subD (8 * (a.val : Int) + j.val) (m.s j)) ++ (rest8 a).flatMap fun i => optD i (T i)
theorem nodes_updT (root : Int) (T : Tr) (a : Fin 8) (o : Option Mid) : (nodesT root (updA T a o)).Perm (⟨root, rootE (updA T a o)⟩ :: (optN o ++ (rest8 a).flatMap fun i => optN (T i))) :=
  List.Perm.cons _ (flat_upd T (fun _ o => optN o) a o)
theorem deps_updT (T : Tr) (a : Fin 8) (o : Option Mid) : (depsT (updA T a o)).Perm (optD a o ++ (rest8 a).flatMap fun i => optD i (T i)) := flat_upd T optD a o
theorem midE_upd (m : Mid) (b : Fin 8) (s : Leg) : midE ⟨m.f, updA m.s b s⟩ = updA (midE m) b (subE s) := updA_map m.s b subE s
theorem rootE_upd (T : Tr) (a : Fin 8) (o : Option Mid) : rootE (updA T a o) = updA (rootE T) a (match o with | none => 0 | some m => tblW m.f) := updA_map T a (fun o : Option Mid => match o with | none => (0 : Int) | some m => tblW m.f) o
theorem rootE_legT (T : Tr) (a b : Fin 8) (m : Mid) (s : Leg) : rootE (legT T a b m s) = updA (rootE T) a (tblW m.f) := rootE_upd T a (some ⟨m.f, updA m.s b s⟩)
theorem rootE_some {T : Tr} {a : Fin 8} {m : Mid} (hT : T a = some m) : updA (rootE T) a (tblW m.f) = rootE T := by
  have : rootE T a = tblW m.f := by unfold rootE; rw [hT]
  rw [← this, updA_id]
theorem nodes_legT (root : Int) (T : Tr) (a b : Fin 8) (m : Mid) (s : Leg) : (nodesT root (legT T a b m s)).Perm (⟨root, updA (rootE T) a (tblW m.f)⟩ :: ⟨m.f, updA (midE m) b (subE s)⟩ :: (subN s ++ nodR T a b m)) := by
  refine (nodes_updT root T a _).trans ?_
  rw [show rootE (updA T a (some ⟨m.f, updA m.s b s⟩)) = updA (rootE T) a (tblW m.f) from rootE_legT T a b m s]
  refine List.Perm.cons _ ?_
  show (midN ⟨m.f, updA m.s b s⟩ ++ _).Perm _
  unfold midN
  rw [midE_upd]
  refine List.Perm.cons _ ?_
  unfold nodR
  rw [← List.append_assoc]
  exact (flat_upd m.s (fun _ s => subN s) b s).append_right _
theorem deps_legT (T : Tr) (a b : Fin 8) (m : Mid) (s : Leg) : (depsT (legT T a b m s)).Perm (subD (8 * (a.val : Int) + b.val) s ++ depR T a b m) := by
  refine (deps_updT T a _).trans ?_
  unfold depR
  rw [← List.append_assoc]
  exact (flat_upd m.s (fun j s => subD (8 * (a.val : Int) + j.val) s) b s).append_right _
theorem setL_id {T : Tr} {a : Fin 8} {m : Mid} (hT : T a = some m) (b : Fin 8) : legT T a b m (m.s b) = T := by
  unfold legT
  rw [updA_id, ← hT, updA_id]
theorem setL_at {T : Tr} {a b : Fin 8} {m : Mid} {s : Leg} : legT T a b m s a = some ⟨m.f, updA m.s b s⟩ := updA_at ..
theorem setL_setL (T : Tr) (a b : Fin 8) (m : Mid) (s s' : Leg) : legT (legT T a b m s) a b ⟨m.f, updA m.s b s⟩ s' = legT T a b m s' := by
  unfold legT
  rw [updA_updA, updA_updA]
/-- The frames of a tree. -/
def frT (root : Int) (T : Tr) : List Int := (nodesT root T).map ND.f ++ (depsT T).map DP.f
def legF : Leg → List Int
  | .no => []
  | .huge _ f => [f]
  | .leaf f _ => [f]
def othF (T : Tr) (a b : Fin 8) (m : Mid) : List Int := (nodR T a b m).map ND.f ++ (depR T a b m).map DP.f
theorem fr_legT (root : Int) (T : Tr) (a b : Fin 8) (m : Mid) (s : Leg) : (frT root (legT T a b m s)).Perm (root :: m.f :: (legF s ++ othF T a b m)) := by
  refine (((nodes_legT root T a b m s).map ND.f).append ((deps_legT T a b m s).map DP.f)).trans ?_
  simp only [List.map_cons, List.map_append, List.cons_append]
  refine List.Perm.cons _ (List.Perm.cons _ ?_)
  unfold othF
  cases s with
  | no => simp [subN, subD, legF]
  | huge w f => simp only [subN, subD, legF, List.map_nil, List.nil_append, List.map_cons, List.cons_append]; exact List.perm_middle
  | leaf f e => simp [subN, subD, legF]
theorem fr_T {root : Int} {T : Tr} {a : Fin 8} {m : Mid} (hT : T a = some m) (b : Fin 8) : (frT root T).Perm (root :: m.f :: (legF (m.s b) ++ othF T a b m)) := by
  have := fr_legT root T a b m (m.s b)
  rwa [setL_id hT b] at this
theorem nodes_T {root : Int} {T : Tr} {a : Fin 8} {m : Mid} (hT : T a = some m) (b : Fin 8) : (nodesT root T).Perm (⟨root, rootE T⟩ :: ⟨m.f, midE m⟩ :: (subN (m.s b) ++ nodR T a b m)) := by
  have := nodes_legT root T a b m (m.s b)
  rwa [setL_id hT b, rootE_some hT, show subE (m.s b) = midE m b from rfl, updA_id] at this
theorem deps_T {T : Tr} {a : Fin 8} {m : Mid} (hT : T a = some m) (b : Fin 8) : (depsT T).Perm (subD (8 * (a.val : Int) + b.val) (m.s b) ++ depR T a b m) := by
  have := deps_legT T a b m (m.s b)
  rwa [setL_id hT b] at this
/-- Lists of deposits by their groups are equal if they hold the same. -/
theorem dps_eq {l l' : List DP} (h : l.Pairwise fun a b => a.g < b.g) (h' : l'.Pairwise fun a b => a.g < b.g) (hp : l.Perm l') : l = l' :=
  List.Perm.eq_of_pairwise (le := fun a b => a.g < b.g) (fun a b _ _ h1 h2 => by omega) h h' hp
theorem perm_set {α : Type} [Inhabited α] {l R : List α} {k : Nat} {x : α} (hk : k < l.length) (hx : l.getD k default = x) (hp : l.Perm (x :: R)) (y : α) : (l.set k y).Perm (y :: R) := by
  have e1 : l = l.take k ++ x :: l.drop (k + 1) := by
    rw [← hx, getD_get hk]
    simp
  have e2 : l.set k y = l.take k ++ y :: l.drop (k + 1) := by rw [List.set_eq_take_append_cons_drop, if_pos hk]
  have h1 : (x :: (l.take k ++ l.drop (k + 1))).Perm (x :: R) := by
    refine List.perm_middle.symm.trans ?_
    rw [← e1]
    exact hp
  rw [e2]
  exact List.perm_middle.trans (List.Perm.cons _ h1.cons_inv)
theorem perm_erase_at {α : Type} [Inhabited α] {l R : List α} {k : Nat} {x : α} (hk : k < l.length) (hx : l.getD k default = x) (hp : l.Perm (x :: R)) : (l.take k ++ l.drop (k + 1)).Perm R := by
  have e1 : l = l.take k ++ x :: l.drop (k + 1) := by
    rw [← hx, getD_get hk]
    simp
  have h1 : (x :: (l.take k ++ l.drop (k + 1))).Perm (x :: R) := by
    refine List.perm_middle.symm.trans ?_
    rw [← e1]
    exact hp
  exact h1.cons_inv
theorem asc_iff (l : List ND) : (l.Pairwise fun a b => a.f < b.f) ↔ (l.map ND.f).Pairwise (· < ·) := List.pairwise_map.symm
theorem asc_set {l : List ND} {k : Nat} (hk : k < l.length) {y : ND} (hy : y.f = (l.getD k default).f) (h : l.Pairwise fun a b => a.f < b.f) : (l.set k y).Pairwise fun a b => a.f < b.f := by
  rw [asc_iff] at h ⊢
  have : (l.set k y).map ND.f = l.map ND.f := by
    rw [List.map_set, hy, getD_get hk]
    have hk' : k < (l.map ND.f).length := by rw [List.length_map]; exact hk
    have e : (l[k]).f = (l.map ND.f)[k] := by rw [List.getElem_map]
    rw [e, List.set_getElem_self]
  rw [this]
  exact h
theorem nodes_nodup {root : Int} {T : Tr} (h : TrOk root T) : ((nodesT root T).map ND.f).Nodup := (List.nodup_append.1 h.d).1
theorem asc_sort {l l' : List ND} (hs : SortF l l') (hd : (l.map ND.f).Nodup) : l'.Pairwise fun a b => a.f < b.f := by
  have hd' : (l'.map ND.f).Nodup := (hs.1.map ND.f).nodup_iff.2 hd
  rw [asc_iff]
  have h2 : (l'.map ND.f).Pairwise (· ≤ ·) := List.pairwise_map.2 hs.2
  exact (h2.and (List.nodup_iff_pairwise_ne.1 hd')).imp fun ⟨a, b⟩ => by omega
/-- A tree that has the same frames, or some of them. -/
theorem TrOk.same {root : Int} {T T' : Tr} (h : TrOk root T) (hs : ∀ i m, T' i = some m → ∀ j, LegOk (m.s j)) {L : List Int} (hf : (frT root T).Perm (L ++ frT root T')) : TrOk root T' :=
  ⟨hs, (List.nodup_append.1 (hf.nodup_iff.1 h.d)).2.1, fun f hm => h.r f (hf.mem_iff.2 (List.mem_append.2 (.inr hm)))⟩
theorem TrOk.more {root : Int} {T T' : Tr} (h : TrOk root T) (hs : ∀ i m, T' i = some m → ∀ j, LegOk (m.s j)) {f : Int} (hn : f ∉ frT root T) (hr : 0 ≤ f ∧ f ≤ 4294967295) (hf : (frT root T').Perm (f :: frT root T)) : TrOk root T' :=
  ⟨hs, hf.nodup_iff.2 (List.nodup_cons.2 ⟨hn, h.d⟩), fun g hm => (List.mem_cons.1 (hf.mem_iff.1 hm)).elim (fun e => by rw [e]; exact hr) (h.r g)⟩
theorem legs_updT {T : Tr} (h : ∀ i m, T i = some m → ∀ j, LegOk (m.s j)) {a : Fin 8} {o : Option Mid} (ho : ∀ m, o = some m → ∀ j, LegOk (m.s j)) : ∀ i m, updA T a o i = some m → ∀ j, LegOk (m.s j) := fun i m hm => by
  by_cases e : i = a
  · rw [e, updA_at] at hm; exact ho m hm
  · rw [updA_ne T a o e] at hm; exact h i m hm
theorem legs_legT {T : Tr} (h : ∀ i m, T i = some m → ∀ j, LegOk (m.s j)) {a b : Fin 8} {m : Mid} (hm : ∀ j, LegOk (m.s j)) {s : Leg} (hs : LegOk s) : ∀ i m', legT T a b m s i = some m' → ∀ j, LegOk (m'.s j) :=
  legs_updT h fun m' e j => by
    cases e
    show LegOk (updA m.s b s j)
    unfold updA
    split
    · exact hs
    · exact hm j
theorem legok_no : LegOk .no := ⟨fun _ _ h => (by cases h), (fun _ _ h => by cases h)⟩
theorem legok_huge {w f : Int} (h : huW w) : LegOk (.huge w f) := ⟨fun _ _ e => (Leg.huge.inj e).1 ▸ h, fun _ _ e => (by cases e)⟩
theorem legok_leaf {f : Int} {e : Fin 8 → Int} (h : ∀ k, pgW (e k)) : LegOk (.leaf f e) := ⟨fun _ _ x => (by cases x), fun _ _ x => (by cases x; exact h)⟩
/-- What the walk for a page reads: the level, the word. -/
def legL (s : Leg) (c : Fin 8) : Int × Int := match s with
  | .no => (1, 0)
  | .huge w _ => (1, w)
  | .leaf _ e => (0, e c)
def lvT (T : Tr) (a b c : Fin 8) : Int × Int := match T a with
  | none => (2, 0)
  | some m => legL (m.s b) c
theorem end_lv (root : Int) (T : Tr) (a b c : Fin 8) : (endT root T a b c).2 = lvT T a b c := by
  unfold endT lvT legL
  split
  · rename_i e; rw [e]
  · rename_i m e; rw [e]; dsimp only; split <;> rename_i e2 <;> rw [e2]
theorem lv_legT {T : Tr} {a : Fin 8} {m : Mid} (hT : T a = some m) (b : Fin 8) (s : Leg) (i j c : Fin 8) : lvT (legT T a b m s) i j c = if i = a ∧ j = b then legL s c else lvT T i j c := by
  unfold lvT legT
  by_cases e : i = a
  · subst e
    rw [updA_at, hT]
    by_cases e2 : j = b
    · subst e2; rw [if_pos ⟨rfl, rfl⟩]; dsimp only; rw [updA_at]
    · rw [if_neg fun h => e2 h.2]; dsimp only; rw [updA_ne _ _ _ e2]
  · rw [updA_ne _ _ _ e, if_neg fun h => e h.1]
theorem lv_updT (T : Tr) (a : Fin 8) (o : Option Mid) (i j c : Fin 8) : lvT (updA T a o) i j c = if i = a then (match o with | none => (2, 0) | some m => legL (m.s j) c) else lvT T i j c := by
  unfold lvT
  by_cases e : i = a
  · subst e; rw [updA_at, if_pos rfl]
  · rw [updA_ne _ _ _ e, if_neg e]
/-- What the walk for a page reads, by its number. -/
def pgT (T : Tr) (p : Nat) : Int × Int := lvT T (dgF p 2) (dgF p 1) (dgF p 0)
theorem end_pg (root : Int) (T : Tr) (p : Nat) : (endP root T p).2 = pgT T p := end_lv ..
theorem dg_eq {p q : Nat} (hp : p < 512) (hq : q < 512) : (dgF p 2 = dgF q 2 ∧ dgF p 1 = dgF q 1) ↔ p / 8 = q / 8 := by
  simp only [dgF, Fin.mk.injEq, digM]
  omega
theorem dg0_eq {p q : Nat} (h : p / 8 = q / 8) : dgF p 0 = dgF q 0 ↔ p = q := by
  simp only [dgF, Fin.mk.injEq, digM]
  omega
end Go.Proofs.YtbgjelhefhcnpaaGreat
