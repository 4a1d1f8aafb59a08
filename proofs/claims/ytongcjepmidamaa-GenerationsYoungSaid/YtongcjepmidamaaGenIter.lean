/- The iterator of generations, ages, Check. No conditions. -/
import Derived.Test.YtongcjepmidamaaGenSpec
import Derived.Test.YtongcjepmidamaaNest
import Derived.Test.YtongcjepmidamaaRng
set_option linter.unusedSimpArgs false
set_option linter.unusedVariables false
namespace Go.Proofs.Ytongcjepmidamaa
open Go Go.RowKit
attribute [local irreducible] Code.wp Code.wpIn wpList wpListIn bodyPost bodyPostM Exit.then Exit.inBlock Calls wpQuiet Tri TriQ
instance mp_int : MpTy Try.prog 46 Int := ⟨_, _, Try.underlying46, Try.underlying3, fun w => Zr.run w⟩
instance mp_bool : MpTy Try.prog 54 Bool := ⟨_, _, Try.underlying54, Try.underlying3, fun w => Zr.run w⟩
theorem yl_load_cell [Dl] {P : Program} {n : Nat} {o : Oper} {E : Env} {H : World → Prop} {t g p : Nat} {x : Operand} {v : Value} [hA : Ag P t false] (ho : o.op = .load t x) (hx : ev E x = some (.pointer (some ⟨g, p, none⟩))) (hc : ∀ w, H w → w.cell? ⟨g, p, none⟩ = some v) : Yl P n o E H v := fun _ w h1 h2 => by
  have := run_loadVar1 (P := P) (t := t) (v := v) (a := ⟨g, p, none⟩) (w := w) (hc w h2)
  simp [execOp, ho, h1.ev hx, Instr.loadAt, Instr.sureAddr, this]
def RAll (gb : Nat) (v : Value) (vs : List SV) (L : GL) (w : World) : Prop := w.cell? ⟨gb, 0, none⟩ = some v ∧ RdN (fun w' => w' = w) v vs L
theorem rall_n {gb : Nat} {v : Value} {vs : List SV} {L : GL} {J : World → Prop} {w1 : World} (h : ∀ w, J w → RAll gb v vs L w) (hw : J w1) : RdN J v vs L :=
  ⟨fun w hw => (h w hw).2.out w rfl, (h w1 hw).2.len, fun i w hw => (h w hw).2.inn i w rfl⟩
theorem all1_c {gb : Nat} {v : Value} {vs : List SV} {L : GL} (hlen : L.length ≤ 1000) (hin : ∀ i, (L.getD i default).length ≤ 1000) :
    IterC Try.prog 42 [.pointer (some ⟨gb, 0, none⟩)] (RAll gb v vs L) (fun k => [.int .i64 (((prL L).getD k default).1 : Int), .int .i64 ((prL L).getD k default).2]) (prL L).length := by
  intro l J Jx hR hY w hw
  have hcal : Cal Try.prog 42 [.func (.yield l) #[] #[], .pointer (some ⟨gb, 0, none⟩)] (J 0) (fun _ : Unit => .tuple #[]) (fun _ w' => J (prL L).length w' ∨ Jx w') := by
    have hN : ∀ k w1, J k w1 → RdN (J k) v vs L := fun k w1 h1 => rall_n (hR k) h1
    have hvl : vs.length = L.length := (hN 0 w hw).len
    have hN0 := hN 0 w hw
    refine cal_of_tri Try.func42 rfl Try.ntmps42 rfl ?_
    refine tri_seq ?_
    refine tri_region ?_
    refine au_pure (hy := yl_load_cell rfl rfl (fun w h => (hR 0 w h).1)) ?_
    refine au_pure (hy := yl_len rfl rfl hN0.out) ?_
    (repeat (first | refine au_pure ?_ | refine au_pass ?_ | refine au_box (fun _ => ?_) | refine au_alloc (fun _ => ?_) | refine au_store ?_ | refine au_make rfl rfl (fun _ => ?_) | refine au_lit rfl rfl rfl (fun _ => ?_) | refine au_append rfl rfl rfl rfl (fun _ => au_norm ?_) | refine au_storeE rfl rfl rfl rfl ?_ | refine tri_seq ?_ | refine tri_then ?_ | refine tri_region ?_ | refine tri_nil ?_ | refine tri_skip ?_ | refine tri_ret ?_ | refine tri_exit ?_ | refine tri_thenr ?_ | refine tri_thene ?_ | refine tri_blkn ?_ | refine tri_blkr ?_ | refine tri_blke ?_ | refine tri_blko (by rfl) ?_ | refine tri_if_t (by rfl) ?_ | refine tri_if_f (by rfl) ?_ | fail))
    refine tri_block ?_
    refine tri_loop1 (fun (i : Nat) => i ≤ L.length) (fun i => [(0, .func (.yield l) #[] #[]), (7, v), (8, .int .i64 (vs.length : Int)), (9, .int .i64 (i : Int))]) (fun i => J (off L i)) (fun i => L.length - i)
      0 (by omega) (by repeat (first | exact trivial | refine ⟨rfl, ?_⟩)) (fun _ h => h) ?_
    intro i hi
    refine tri_with (fun w1 hJ => ?_)
    have hNi := hN _ w1 hJ
    clear hJ w1
    (repeat (first | refine au_pure ?_ | refine au_pass ?_ | refine au_box (fun _ => ?_) | refine au_alloc (fun _ => ?_) | refine au_store ?_ | refine au_make rfl rfl (fun _ => ?_) | refine au_lit rfl rfl rfl (fun _ => ?_) | refine au_append rfl rfl rfl rfl (fun _ => au_norm ?_) | refine au_storeE rfl rfl rfl rfl ?_ | refine tri_seq ?_ | refine tri_then ?_ | refine tri_region ?_ | refine tri_nil ?_ | refine tri_skip ?_ | refine tri_ret ?_ | refine tri_exit ?_ | refine tri_thenr ?_ | refine tri_thene ?_ | refine tri_blkn ?_ | refine tri_blkr ?_ | refine tri_blke ?_ | refine tri_blko (by rfl) ?_ | refine tri_if_t (by rfl) ?_ | refine tri_if_f (by rfl) ?_ | fail))
    ((first | refine tri_cond (by rfl) (fun hc => ?_) (fun hc => ?_) | refine tri_gsplit (by rfl) (by rfl) (by (fail_if_success exact (rfl : _ = some (Value.bool true))); (fail_if_success exact (rfl : _ = some (Value.bool false))); rfl) (fun hc => ?_) (fun hc => ?_)) <;> (try simp only [decide_eq_true_eq, decide_eq_false_iff_not, beq_iff_eq, bne_iff_ne, ne_eq, Bool.not_eq_true', Bool.not_eq_false', beq_eq_false_iff_ne, bne_eq_false_iff_eq, Int.not_lt, Int.not_le, gt_iff_lt, ge_iff_le, Bool.and_eq_true, Bool.or_eq_true, Bool.and_eq_false_iff, Bool.or_eq_false_iff, Decidable.not_not, not_true_eq_false, not_false_eq_true, and_true, true_and, or_false, false_or, or_true, true_or, and_false, false_and, eq_self, Bool.true_eq_false, Bool.false_eq_true] at hc) <;> (try (exfalso; omega)))
    · (repeat (first | refine au_pure ?_ | refine au_pass ?_ | refine au_box (fun _ => ?_) | refine au_alloc (fun _ => ?_) | refine au_store ?_ | refine au_make rfl rfl (fun _ => ?_) | refine au_lit rfl rfl rfl (fun _ => ?_) | refine au_append rfl rfl rfl rfl (fun _ => au_norm ?_) | refine au_storeE rfl rfl rfl rfl ?_ | refine tri_seq ?_ | refine tri_then ?_ | refine tri_region ?_ | refine tri_nil ?_ | refine tri_skip ?_ | refine tri_ret ?_ | refine tri_exit ?_ | refine tri_thenr ?_ | refine tri_thene ?_ | refine tri_blkn ?_ | refine tri_blkr ?_ | refine tri_blke ?_ | refine tri_blko (by rfl) ?_ | refine tri_if_t (by rfl) ?_ | refine tri_if_f (by rfl) ?_ | fail))
      refine tri_block ?_
      have hii := hin i
      have hRi := hNi.inn i
      have hRo := hNi.out
      obtain ⟨u, hu⟩ : ∃ u, u = (vs.getD i default).v := ⟨_, rfl⟩
      obtain ⟨li, hli⟩ : ∃ li, li = L.getD i default := ⟨_, rfl⟩
      rw [← hu, ← hli] at hRi
      rw [← hli] at hii
      (repeat (first | refine au_pure ?_ | refine au_pass ?_ | refine au_box (fun _ => ?_) | refine au_alloc (fun _ => ?_) | refine au_store ?_ | refine au_make rfl rfl (fun _ => ?_) | refine au_lit rfl rfl rfl (fun _ => ?_) | refine au_append rfl rfl rfl rfl (fun _ => au_norm ?_) | refine au_storeE rfl rfl rfl rfl ?_ | refine tri_seq ?_ | refine tri_then ?_ | refine tri_region ?_ | refine tri_nil ?_ | refine tri_skip ?_ | refine tri_ret ?_ | refine tri_exit ?_ | refine tri_thenr ?_ | refine tri_thene ?_ | refine tri_blkn ?_ | refine tri_blkr ?_ | refine tri_blke ?_ | refine tri_blko (by rfl) ?_ | refine tri_if_t (by rfl) ?_ | refine tri_if_f (by rfl) ?_ | fail))
      rw [← hu]
      (repeat (first | refine au_pure ?_ | refine au_pass ?_ | refine au_box (fun _ => ?_) | refine au_alloc (fun _ => ?_) | refine au_store ?_ | refine au_make rfl rfl (fun _ => ?_) | refine au_lit rfl rfl rfl (fun _ => ?_) | refine au_append rfl rfl rfl rfl (fun _ => au_norm ?_) | refine au_storeE rfl rfl rfl rfl ?_ | refine tri_seq ?_ | refine tri_then ?_ | refine tri_region ?_ | refine tri_nil ?_ | refine tri_skip ?_ | refine tri_ret ?_ | refine tri_exit ?_ | refine tri_thenr ?_ | refine tri_thene ?_ | refine tri_blkn ?_ | refine tri_blkr ?_ | refine tri_blke ?_ | refine tri_blko (by rfl) ?_ | refine tri_if_t (by rfl) ?_ | refine tri_if_f (by rfl) ?_ | fail))
      refine tri_block ?_
      refine tri_loop1 (fun (j : Nat) => j ≤ li.length) (fun j => [(0, .func (.yield l) #[] #[]), (3, .int .i64 (i : Int)), (7, v), (8, .int .i64 (vs.length : Int)), (9, .int .i64 (i : Int)), (14, u), (15, .int .i64 (li.length : Int)), (16, .int .i64 (j : Int))]) (fun j => J (off L i + j)) (fun j => li.length - j)
        0 (by omega) (by repeat (first | exact trivial | refine ⟨rfl, ?_⟩)) (fun _ h => h) ?_
      intro j hj
      refine tri_with (fun w1 hJ => ?_)
      have hRj := (hN _ w1 hJ).inn i
      rw [← hu, ← hli] at hRj
      clear hJ w1
      (repeat (first | refine au_pure ?_ | refine au_pass ?_ | refine au_box (fun _ => ?_) | refine au_alloc (fun _ => ?_) | refine au_store ?_ | refine au_make rfl rfl (fun _ => ?_) | refine au_lit rfl rfl rfl (fun _ => ?_) | refine au_append rfl rfl rfl rfl (fun _ => au_norm ?_) | refine au_storeE rfl rfl rfl rfl ?_ | refine tri_seq ?_ | refine tri_then ?_ | refine tri_region ?_ | refine tri_nil ?_ | refine tri_skip ?_ | refine tri_ret ?_ | refine tri_exit ?_ | refine tri_thenr ?_ | refine tri_thene ?_ | refine tri_blkn ?_ | refine tri_blkr ?_ | refine tri_blke ?_ | refine tri_blko (by rfl) ?_ | refine tri_if_t (by rfl) ?_ | refine tri_if_f (by rfl) ?_ | fail))
      ((first | refine tri_cond (by rfl) (fun hc => ?_) (fun hc => ?_) | refine tri_gsplit (by rfl) (by rfl) (by (fail_if_success exact (rfl : _ = some (Value.bool true))); (fail_if_success exact (rfl : _ = some (Value.bool false))); rfl) (fun hc => ?_) (fun hc => ?_)) <;> (try simp only [decide_eq_true_eq, decide_eq_false_iff_not, beq_iff_eq, bne_iff_ne, ne_eq, Bool.not_eq_true', Bool.not_eq_false', beq_eq_false_iff_ne, bne_eq_false_iff_eq, Int.not_lt, Int.not_le, gt_iff_lt, ge_iff_le, Bool.and_eq_true, Bool.or_eq_true, Bool.and_eq_false_iff, Bool.or_eq_false_iff, Decidable.not_not, not_true_eq_false, not_false_eq_true, and_true, true_and, or_false, false_or, or_true, true_or, and_false, false_and, eq_self, Bool.true_eq_false, Bool.false_eq_true] at hc) <;> (try (exfalso; omega)))
      · (repeat (first | refine au_pure ?_ | refine au_pass ?_ | refine au_box (fun _ => ?_) | refine au_alloc (fun _ => ?_) | refine au_store ?_ | refine au_make rfl rfl (fun _ => ?_) | refine au_lit rfl rfl rfl (fun _ => ?_) | refine au_append rfl rfl rfl rfl (fun _ => au_norm ?_) | refine au_storeE rfl rfl rfl rfl ?_ | refine tri_seq ?_ | refine tri_then ?_ | refine tri_region ?_ | refine tri_nil ?_ | refine tri_skip ?_ | refine tri_ret ?_ | refine tri_exit ?_ | refine tri_thenr ?_ | refine tri_thene ?_ | refine tri_blkn ?_ | refine tri_blkr ?_ | refine tri_blke ?_ | refine tri_blko (by rfl) ?_ | refine tri_if_t (by rfl) ?_ | refine tri_if_f (by rfl) ?_ | fail))
        refine tri_block ?_
        obtain ⟨hk, hkv⟩ := pr_get (L := L) (i := i) (j := j) (by omega) (by rw [← hli]; omega)
        rw [← hli] at hkv
        refine tri_seq ?_
        refine tri_region ?_
        (repeat (first | refine au_pure ?_ | refine au_pass ?_ | refine au_box (fun _ => ?_) | refine au_alloc (fun _ => ?_) | refine au_store ?_ | refine au_make rfl rfl (fun _ => ?_) | refine au_lit rfl rfl rfl (fun _ => ?_) | refine au_append rfl rfl rfl rfl (fun _ => au_norm ?_) | refine au_storeE rfl rfl rfl rfl ?_ | fail))
        refine tri_nil ?_
        refine tri_then ?_
        refine tri_seq ?_
        refine ry_region (m := 0) ?_
        refine ry_op ?_
        refine au_pure ?_
        refine tri_nil ?_
        refine tri_then ?_
        refine ry_op ?_
        refine au_pure ?_
        refine tri_nil ?_
        refine tri_then ?_
        refine ry_op ?_
        refine au_pure ?_
        refine tri_nil ?_
        refine tri_then ?_
        refine ry_yield (H1 := J (off L i + (j + 1))) (H2 := Jx) rfl rfl rfl rfl rfl (by first | exact wan_plain rfl | exact wan_yes rfl rfl rfl) (fun w hw => by have := hY (off L i + j) w hk hw; simp only at this; rw [hkv] at this; exact this) ?_ ?_
        · refine ry_op ?_
          refine au_pure ?_
          refine tri_nil ?_
          refine tri_then ?_
          refine ry_nil ?_
          (repeat (first | refine au_pure ?_ | refine au_pass ?_ | refine au_box (fun _ => ?_) | refine au_alloc (fun _ => ?_) | refine au_store ?_ | refine au_make rfl rfl (fun _ => ?_) | refine au_lit rfl rfl rfl (fun _ => ?_) | refine au_append rfl rfl rfl rfl (fun _ => au_norm ?_) | refine au_storeE rfl rfl rfl rfl ?_ | refine tri_seq ?_ | refine tri_then ?_ | refine tri_region ?_ | refine tri_nil ?_ | refine tri_skip ?_ | refine tri_ret ?_ | refine tri_exit ?_ | refine tri_thenr ?_ | refine tri_thene ?_ | refine tri_blkn ?_ | refine tri_blkr ?_ | refine tri_blke ?_ | refine tri_blko (by rfl) ?_ | refine tri_if_t (by rfl) ?_ | refine tri_if_f (by rfl) ?_ | fail))
          exact tri_nx1 (j + 1) (by omega) (by omega) (by repeat (first | exact trivial | refine ⟨rfl, ?_⟩)) (fun _ h => h)
        · refine ry_op ?_
          refine au_pure ?_
          refine tri_nil ?_
          refine tri_then ?_
          refine ry_nil ?_
          (repeat (first | refine au_pure ?_ | refine au_pass ?_ | refine au_box (fun _ => ?_) | refine au_alloc (fun _ => ?_) | refine au_store ?_ | refine au_make rfl rfl (fun _ => ?_) | refine au_lit rfl rfl rfl (fun _ => ?_) | refine au_append rfl rfl rfl rfl (fun _ => au_norm ?_) | refine au_storeE rfl rfl rfl rfl ?_ | refine tri_seq ?_ | refine tri_then ?_ | refine tri_region ?_ | refine tri_nil ?_ | refine tri_skip ?_ | refine tri_ret ?_ | refine tri_exit ?_ | refine tri_thenr ?_ | refine tri_thene ?_ | refine tri_blkn ?_ | refine tri_blkr ?_ | refine tri_blke ?_ | refine tri_blko (by rfl) ?_ | refine tri_if_t (by rfl) ?_ | refine tri_if_f (by rfl) ?_ | fail))
          refine tri_done0 (by first | exact .inl rfl | exact .inr rfl) rfl ?_
          exact fun w hw => ⟨(), rfl, .inr hw⟩
      · have hjl : j = li.length := by omega
        (repeat (first | refine au_pure ?_ | refine au_pass ?_ | refine au_box (fun _ => ?_) | refine au_alloc (fun _ => ?_) | refine au_store ?_ | refine au_make rfl rfl (fun _ => ?_) | refine au_lit rfl rfl rfl (fun _ => ?_) | refine au_append rfl rfl rfl rfl (fun _ => au_norm ?_) | refine au_storeE rfl rfl rfl rfl ?_ | refine tri_seq ?_ | refine tri_then ?_ | refine tri_region ?_ | refine tri_nil ?_ | refine tri_skip ?_ | refine tri_ret ?_ | refine tri_exit ?_ | refine tri_thenr ?_ | refine tri_thene ?_ | refine tri_blkn ?_ | refine tri_blkr ?_ | refine tri_blke ?_ | refine tri_blko (by rfl) ?_ | refine tri_if_t (by rfl) ?_ | refine tri_if_f (by rfl) ?_ | fail))
        exact tri_nx1 (i + 1) (by omega) (by omega) (by repeat (first | exact trivial | refine ⟨rfl, ?_⟩)) (fun w h => by rw [off_succ, ← hli, ← hjl]; exact h)
    · have hil : i = L.length := by omega
      (repeat (first | refine au_pure ?_ | refine au_pass ?_ | refine au_box (fun _ => ?_) | refine au_alloc (fun _ => ?_) | refine au_store ?_ | refine au_make rfl rfl (fun _ => ?_) | refine au_lit rfl rfl rfl (fun _ => ?_) | refine au_append rfl rfl rfl rfl (fun _ => au_norm ?_) | refine au_storeE rfl rfl rfl rfl ?_ | refine tri_seq ?_ | refine tri_then ?_ | refine tri_region ?_ | refine tri_nil ?_ | refine tri_skip ?_ | refine tri_ret ?_ | refine tri_exit ?_ | refine tri_thenr ?_ | refine tri_thene ?_ | refine tri_blkn ?_ | refine tri_blkr ?_ | refine tri_blke ?_ | refine tri_blko (by rfl) ?_ | refine tri_if_t (by rfl) ?_ | refine tri_if_f (by rfl) ?_ | fail))
      refine tri_done0 (by first | exact .inl rfl | exact .inr rfl) rfl ?_
      exact fun w hw => ⟨(), rfl, .inl (by rw [show (prL L).length = off L i by rw [hil]; rfl]; exact hw)⟩
  exact (hcal w hw).mono fun e w' ⟨_, he, h⟩ => ⟨⟨_, he⟩, h⟩
end Go.Proofs.Ytongcjepmidamaa
