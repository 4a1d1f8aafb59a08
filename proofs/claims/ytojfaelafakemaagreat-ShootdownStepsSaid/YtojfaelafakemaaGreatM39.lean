/- Texts joined: Arr, ShLaws2. Each part's own remark says what it proves. -/
import Derived.Test.YtojfaelafakemaaGreatM05
import Derived.Test.YtojfaelafakemaaGreatM38
/- Arrays that lie in a block: a constant index; a block seen as a row, for an index that is not known. No conditions. -/
set_option linter.unusedSimpArgs false
set_option linter.unusedVariables false
namespace Go.Proofs.YtojfaelafakemaaGreat
open Go Go.RowKit
class ArTy (P : Program) (t : Nat) (n e sz : outParam Nat) : Prop where
  und : P.underlying t = some (.array n e)
  size : ∀ w, (sizeOf e).run P w = .ok sz w
section
variable {P : Program} {n : Nat} {o : Oper} {E : Env} {H : World → Prop} {x y : Operand} {t m e sz g p k : Nat}
theorem yl_idxA [Dl] [hS : ArTy P t m e sz] (ho : o.op = .indexAddr t x y) (hx : ev E x = some (.pointer (some ⟨g, p, none⟩))) (hy : Ix E y k) (hk : k < m) : Yl P n o E H (.pointer (some ⟨g, p + k * sz, none⟩)) := fun a w h1 h2 => by
  obtain ⟨kd, i, hi, rfl⟩ := hy
  simp only [execOp, ho, h1.ev hx, h1.ev hi]
  simp [Instr.indexAt, run_underlying hS.und, asIntOf, Instr.sureAddr, hS.size, hk, add_lit]
/-- The row of a whole array. -/
def arR (g k : Nat) : Row := ⟨some ⟨g, 0, none⟩, k, k, g, g + 1⟩
theorem yl_idxR [Dl] [hS : ArTy P t m e sz] (ho : o.op = .indexAddr t x y) (hx : ev E x = some (.pointer (some ⟨g, 0, none⟩))) (hy : Ix E y k) (hk : k < m) : Yl P n o E H (eP (arR g m).v k sz 0) := fun a w h1 h2 => by
  obtain ⟨kd, i, hi, rfl⟩ := hy
  simp only [execOp, ho, h1.ev hx, h1.ev hi]
  simp [Instr.indexAt, run_underlying hS.und, asIntOf, Instr.sureAddr, hS.size, hk, add_lit, eP_eq, bk, of, arR, Row.v]
end
section
variable {M : List Nat} {P : Program} {n : Nat} {Q : Exit → Act → World → Prop} {F : Act → World → Prop} {ops rest : List Oper} {o : Oper} {E : Env} {w0 w : World} {cs cs' : List Chunk} {x y : Operand} {t t' g k m i : Nat} {cells : List Value} {α : Type} [Enc α] {l : List α}
theorem own_arr (h : w.heap[g]? = some (.cells (encs l).toArray t (0, 0))) (hk : l.length = k) (hl : Nat.ble k 1000000 = true) : Own w (arR g k) t l := by
  subst hk
  have hl' : l.length ≤ 1000000 := by simpa using hl
  refine ⟨rfl, Nat.le_refl _, by show l.length ≤ maxLen; simp only [maxLen]; omega, .inr ⟨g, 0, (encs l).toArray, rfl, Nat.le_refl _, Nat.lt_succ_self _, h, ?_, ?_⟩⟩
  · show 0 + l.length * Enc.sz α ≤ (encs l).toArray.size
    rw [List.size_toArray, length_encs]; omega
  · show ((encs l).drop 0).take (l.length * Enc.sz α) = encs l
    rw [List.drop_zero, ← length_encs, List.take_length]
/-- A block seen as the row of the array that it holds. -/
theorem tri_asrow [Dl] (l : List α) (hi : At cs i (blkC g t cells)) (hc : cells = encs l) (hk : l.length = k) (hl : Nat.ble k 1000000 = true) (hcs : Nf (cs.set i (slC (arR g k) t l)) cs') (kk : Tri n F E (HpM M w0 cs')) : Tri n F E (HpM M w0 cs) := by
  subst hcs
  intro a w h1 h2
  obtain ⟨q1, q2, q3, q4⟩ := h2.at_ i _ hi
  refine kk a w h1 (h2.set hi ⟨rfl, rfl, rfl, Nat.le_refl _⟩ (fun _ _ _ => rfl) (.inl ⟨rfl, rfl⟩) q3 (own_arr ?_ hk hl))
  rw [← hc]; exact q4
/-- A whole array, read. -/
theorem yl_loadA [Dl] [hA : Ag P t true] [hS : Sz P t m] (ho : o.op = .load t x) (hx : ev E x = some (.pointer (some ⟨g, 0, none⟩))) (hi : Has cs (slC (arR g k) t' l)) (hl : (encs l).length = m) : Yl P n o E (HpM M w0 cs) (.agg (encs l).toArray) := fun _ w h1 h2 => by
  have hrd := (h2.own hi).rd
  have := run_loadVarN (P := P) (t := t) (g := g) (off := 0) (vs := encs l) (w := w) hl fun j u hj => by
    have := hrd.cells hj
    have hb : bk (arR g k).v = g := rfl
    have ho : of (arR g k).v = 0 := rfl
    rw [hb, ho] at this
    exact this
  simp [execOp, ho, h1.ev hx, Instr.loadAt, Instr.sureAddr, this]
theorem encs_part {k : Nat} (hk : k < l.length) : ((encs l).drop (k * Enc.sz α)).take (Enc.sz α) = Enc.enc (l.getD k default) := by
  apply List.ext_getElem?
  intro j
  rw [List.getElem?_take]
  split
  · rename_i hj
    rw [List.getElem?_drop, encs_get hk hj]
  · rename_i hj
    rw [List.getElem?_eq_none (by rw [Enc.len]; omega)]
/-- An element of an array that is at hand. -/
theorem yl_indexV [Dl] {e sz : Nat} {vs : List Value} [hS : ArTy P t m e sz] [hA : Ag P e true] {H : World → Prop} (ho : o.op = .index t x y) (hx : ev E x = some (.agg (encs l).toArray)) (hy : Ix E y k) (hs : Enc.sz α = sz) (hl : l.length = m) (hk : k < m) (hn : Nf (Enc.enc (l.getD k default)) vs) : Yl P n o E H (.agg vs.toArray) := fun a w h1 h2 => by
  subst hs
  have hn' : Enc.enc (l.getD k default) = vs := hn
  subst hn'
  obtain ⟨kd, i, hi, rfl⟩ := hy
  simp only [execOp, ho, h1.ev hx, h1.ev hi]
  simp [Instr.index, run_underlying hS.und, asIntOf, hS.size, hk, part, hA.run]
  have := encs_part (l := l) (k := k) (by omega)
  rwa [List.getD_eq_getElem?_getD] at this
/-- A whole array, laid into a new block. -/
theorem tri_storeA [Dl] [hS : Sz P t m] (hd : o.dst = none) (ho : o.op = .store t x y) (hx : ev E x = some (.pointer (some ⟨g, 0, none⟩))) (hy : ev E y = some (.agg (encs l).toArray)) (hw : Wan ops n o E true) (hi : At cs i (blkC g t' cells)) (hl : (encs l).length = m) (hcl : cells.length = m) (hk : l.length = k) (hk' : Nat.ble k 1000000 = true) (hcs : Nf (cs.set i (slC (arR g k) t' l)) cs')
    (kk : Tri n (wpList P ops.toArray Q rest) E (HpM M w0 cs')) : Tri n (wpList P ops.toArray Q (o :: rest)) E (HpM M w0 cs) := by
  have hset : setL cells 0 (encs l) = encs l := by
    apply List.ext_getElem?
    intro j
    have hs : ∀ (vs : List Value) (f : Nat) (c : List Value), f + vs.length ≤ c.length → (setL c f vs)[j]? = if f ≤ j ∧ j < f + vs.length then vs[j - f]? else c[j]? := by
      intro vs
      induction vs with
      | nil => intro f c h; rw [setL, if_neg (by rintro ⟨h1, h2⟩; simp only [List.length_nil] at h2; omega)]
      | cons u vs ih =>
        intro f c h
        rw [setL, ih (f + 1) (c.set f u) (by simp at h ⊢; omega)]
        simp only [List.length_cons] at h ⊢
        by_cases h1 : j = f
        · subst h1
          rw [if_neg (by omega), if_pos ⟨Nat.le_refl _, by omega⟩, Nat.sub_self]
          simp [List.getElem?_set] <;> omega
        · by_cases h2 : f + 1 ≤ j ∧ j < f + 1 + vs.length
          · rw [if_pos h2, if_pos (by omega), show j - f = (j - (f + 1)) + 1 by omega, List.getElem?_cons_succ]
          · rw [if_neg h2, if_neg (by omega), List.getElem?_set_ne (by omega)]
    rw [hs (encs l) 0 cells (by omega)]
    split
    · rfl
    · rename_i h
      rw [List.getElem?_eq_none (by omega), List.getElem?_eq_none (by omega)]
  refine tri_store (t' := t') hd hw ho hx hy hi hl (List.all_eq_true.2 (one_encs l)) (by simp; omega) rfl rfl ?_
  refine tri_asrow l (i := i) (g := g) (t := t') (cells := setL cells 0 (encs l)) ?_ hset hk hk' (by rw [List.set_set]; exact hcs) kk
  have hil : i < cs.length := (List.getElem?_eq_some_iff.1 (show cs[i]? = some _ from hi)).1
  show (cs.set i _)[i]? = _
  rw [List.getElem?_set_self hil]
  rfl
end
end Go.Proofs.YtojfaelafakemaaGreat

/- The walk of the law ShootdownSteps. No conditions. -/
set_option linter.unusedSimpArgs false
set_option linter.unusedVariables false
namespace Go.Proofs.YtojfaelafakemaaGreat
open Go Go.RowKit
instance : ArTy Tryz.prog 22 4 3 1 := ⟨Tryz.underlying22, Tryz.sizeOf3⟩
abbrev a4C (g : Nat) (a b c d : Int) : Chunk := blkC g 22 [.int .i64 a, .int .i64 b, .int .i64 c, .int .i64 d]
attribute [local irreducible] mapM unmapM protM accM ackM sdoM schk snewM freeM quietM fewM goM
attribute [local irreducible] Code.wp wpList bodyPost Exit.then Exit.inBlock Calls wpQuiet Tri TriQ
section
variable (w0 : World) (cs : List Chunk)
set_option maxHeartbeats 4000000 in
theorem steps_law {vO : Value} {ops : List SO} (a b c d : Int) (hO : ∀ cs, RdH (Hp w0 cs) vO ops) (hOl : ops.length ≤ 9223372036854775807) :
    Cal Tryz.prog 3 [.agg #[.int .i64 a, .int .i64 b, .int .i64 c, .int .i64 d], vO] (Hp w0 cs) (fun _ : Unit => .bool true) (fun _ => Hp w0 cs) := by
  refine cal_of_tri Tryz.func3 rfl Tryz.ntmps3 rfl ?_
  (repeat (first | refine tri_seq ?_ | refine tri_then ?_)); refine tri_region ?_; (repeat (first | refine au_pure ?_ | refine au_pass ?_ | refine au_box (fun _ => ?_) | refine au_alloc (fun _ => ?_) | refine au_store ?_ | refine au_make rfl rfl (fun _ => ?_) | refine au_lit rfl rfl rfl (fun _ => ?_) | refine au_append rfl rfl rfl rfl (fun _ => au_norm ?_) | refine au_storeE rfl rfl rfl rfl ?_)); refine tri_nil ?_; (repeat refine tri_then ?_)
  rename_i g2
  refine tri_weak (H' := Hp w0 (a4C g2 a b c d :: cs)) (fun w h => h) ?_
  (repeat (first | refine tri_seq ?_ | refine tri_then ?_))
  refine tri_cut1 (fun e : Bool => e = false → ops.length ≤ 40) (fun e => [(1, vO), (2, .pointer (some ⟨g2, 0, none⟩)), (33, .bool e)]) (fun _ => Hp w0 (a4C g2 a b c d :: cs)) ?_ ?_
  · (repeat (first | refine zz ?_ | refine zv fun _ => ?_))
    refine au_callC rfl rfl rfl rfl rfl (awake_c w0 _) (fun _ => ?_)
    (repeat (first | refine zz ?_ | refine zv fun _ => ?_))
    refine au_pure ?_ (hy := yl_len rfl rfl (hO _))
    (repeat (first | refine zz ?_ | refine zv fun _ => ?_))
    cases h1 : decide ((ops.length : Int) > 40)
    case true =>
      (repeat (first | refine zz ?_ | refine zv fun _ => ?_))
      exact tri_mt1 true (fun h => by cases h) (by repeat (first | exact trivial | refine ⟨rfl, ?_⟩)) (fun _ h => h)
    have h1 := of_decide_eq_false h1
    (repeat (first | refine zz ?_ | refine zv fun _ => ?_))
    refine au_pure ?_ (hy := yl_idxA rfl rfl (by first | exact ix_nat rfl | exact ix_int rfl (by omega)) (by decide))
    (repeat (first | refine zz ?_ | refine zv fun _ => ?_))
    cases h2 : decide (c > 20)
    case true =>
      (repeat (first | refine zz ?_ | refine zv fun _ => ?_))
      exact tri_mt1 true (fun h => by cases h) (by repeat (first | exact trivial | refine ⟨rfl, ?_⟩)) (fun _ h => h)
    (repeat (first | refine zz ?_ | refine zv fun _ => ?_))
    refine au_pure ?_ (hy := yl_idxA rfl rfl (by first | exact ix_nat rfl | exact ix_int rfl (by omega)) (by decide))
    (repeat (first | refine zz ?_ | refine zv fun _ => ?_))
    exact tri_mt1 (decide (d > 20)) (fun _ => by omega) (by repeat (first | exact trivial | refine ⟨rfl, ?_⟩)) (fun _ h => h)
  intro e he
  cases e with
  | true =>
    (repeat (first | refine zz ?_ | refine zv fun _ => ?_))
    refine au_callC rfl rfl rfl rfl rfl (awake_c w0 _) (fun _ => ?_)
    (repeat (first | refine zz ?_ | refine zv fun _ => ?_))
    refine au_done1 rfl ?_
    exact fun w hw => ⟨(), rfl, hw.sub (by repeat (first | exact List.Sublist.refl _ | assumption | apply List.Sublist.cons_cons | apply List.Sublist.cons))⟩
  | false =>
    have hl := he rfl
    (repeat (first | refine zz ?_ | refine zv fun _ => ?_))
    refine au_pure (hy := yl_idxA rfl rfl (by first | exact ix_nat rfl | exact ix_int rfl (by omega)) (by decide)) ?_
    (repeat (first | refine zz ?_ | refine zv fun _ => ?_))
    refine au_pure (hy := yl_idxA rfl rfl (by first | exact ix_nat rfl | exact ix_int rfl (by omega)) (by decide)) ?_
    (repeat (first | refine zz ?_ | refine zv fun _ => ?_))
    refine au_pure (hy := yl_idxA rfl rfl (by first | exact ix_nat rfl | exact ix_int rfl (by omega)) (by decide)) ?_
    (repeat (first | refine zz ?_ | refine zv fun _ => ?_))
    refine au_pure (hy := yl_idxA rfl rfl (by first | exact ix_nat rfl | exact ix_int rfl (by omega)) (by decide)) ?_
    (repeat (first | refine zz ?_ | refine zv fun _ => ?_))
    refine au_callC rfl rfl rfl rfl rfl (snew_c w0 _ a b c d) ?_
    rintro ⟨q, hq⟩
    (repeat (first | refine au_pure ?_ | refine au_pass ?_ | refine au_box (fun _ => ?_) | refine au_alloc (fun _ => ?_) | refine au_store ?_ | refine au_make rfl rfl (fun _ => ?_) | refine au_lit rfl rfl rfl (fun _ => ?_) | refine au_append rfl rfl rfl rfl (fun _ => au_norm ?_) | refine au_storeE rfl rfl rfl rfl ?_)); refine tri_nil ?_; (repeat refine tri_then ?_)
    rename_i g5
    obtain ⟨NX, hNX⟩ : ∃ X, X = SC q (snewM a b c d).1 ++ cs := ⟨_, rfl⟩
    have hsub : cs.Sublist NX := by rw [hNX]; exact List.sublist_append_right _ _
    have hA : RdS (Hp w0 NX) (hd q) (tlx q.bs (snewM a b c d).1.tl) (q.ps.map Row.sv) (snewM a b c d).1 := by rw [hNX]; exact rdS_own hq
    refine tri_weak (H' := Hp w0 (hdC g5 (hd q) :: a4C g2 a b c d :: NX)) (fun w h' => by rw [hNX]; exact sc_upK [a4C g2 a b c d] h' (List.Sublist.refl _)) ?_
    (repeat (first | refine zz ?_ | refine zv fun _ => ?_))
    refine au_pure (hy := yl_idxA rfl rfl (by first | exact ix_nat rfl | exact ix_int rfl (by omega)) (by decide)) ?_
    (repeat (first | refine zz ?_ | refine zv fun _ => ?_))
    refine au_pure (hy := yl_idxA rfl rfl (by first | exact ix_nat rfl | exact ix_int rfl (by omega)) (by decide)) ?_
    (repeat (first | refine zz ?_ | refine zv fun _ => ?_))
    refine au_pure (hy := yl_idxA rfl rfl (by first | exact ix_nat rfl | exact ix_int rfl (by omega)) (by decide)) ?_
    (repeat (first | refine zz ?_ | refine zv fun _ => ?_))
    refine au_pure (hy := yl_idxA rfl rfl (by first | exact ix_nat rfl | exact ix_int rfl (by omega)) (by decide)) ?_
    (repeat (first | refine zz ?_ | refine zv fun _ => ?_))
    refine au_callC rfl rfl rfl rfl rfl (rsnew_c w0 _ a b c d) ?_
    rintro ⟨q2, hq2⟩
    (repeat (first | refine au_pure ?_ | refine au_pass ?_ | refine au_box (fun _ => ?_) | refine au_alloc (fun _ => ?_) | refine au_store ?_ | refine au_make rfl rfl (fun _ => ?_) | refine au_lit rfl rfl rfl (fun _ => ?_) | refine au_append rfl rfl rfl rfl (fun _ => au_norm ?_) | refine au_storeE rfl rfl rfl rfl ?_)); refine tri_nil ?_; (repeat refine tri_then ?_)
    rename_i g7
    have hsub2 : NX.Sublist (SC q2 (snewM a b c d).1 ++ NX) := List.sublist_append_right _ _
    have hB : RdS (Hp w0 (SC q2 (snewM a b c d).1 ++ NX)) (hd q2) (tlx q2.bs (snewM a b c d).1.tl) (q2.ps.map Row.sv) (snewM a b c d).1 := rdS_own hq2
    have hA2 := hA.sub hsub2
    have hA5 := hA2.cons (c := a4C g2 a b c d) |>.cons (c := hdC g5 (hd q)) |>.cons (c := hdC g7 (hd q2))
    have hB5 := hB.cons (c := a4C g2 a b c d) |>.cons (c := hdC g5 (hd q)) |>.cons (c := hdC g7 (hd q2))
    have hkp := new_kp a b c d
    refine tri_weak (H' := Hp w0 (hdC g7 (hd q2) :: hdC g5 (hd q) :: a4C g2 a b c d :: (SC q2 (snewM a b c d).1 ++ NX))) (fun w h' => sc_upK [hdC g5 (hd q), a4C g2 a b c d] h' (List.Sublist.refl _)) ?_
    (repeat (first | refine zz ?_ | refine zv fun _ => ?_))
    rw [show ((snewM a b c d).2 != (snewM a b c d).2) = false by simp]
    (repeat (first | refine zz ?_ | refine zv fun _ => ?_))
    refine au_callC rfl rfl rfl rfl rfl (rshsame_c w0 _ hA5 hB5 hkp.s hkp.s) (fun _ => ?_)
    rw [show decide ((snewM a b c d).1 = (snewM a b c d).1) = true by simp]
    (repeat (first | refine zz ?_ | refine zv fun _ => ?_))
    refine au_pure ?_ (hy := yl_len rfl rfl (hO _))
    (repeat (first | refine zz ?_ | refine zv fun _ => ?_))
    refine tri_block ?_
    refine tri_loop2 (fun (k : Nat) (y : SR × SM) => k ≤ ops.length ∧ SOk y.1 y.2 ∧ Kp k y.2) (fun k _ => [(7, .pointer (some ⟨g7, 0, none⟩)), (68, vO), (69, .int .i64 (ops.length : Int)), (70, .int .i64 (k : Int))])
      (fun _ y => Hp w0 (hdC g7 (hd y.1) :: (SC y.1 y.2 ++ cs))) (fun k _ => ops.length - k)
      0 (q2, (snewM a b c d).1) ⟨by omega, hq2, hkp⟩ (by repeat (first | exact trivial | refine ⟨rfl, ?_⟩)) (fun w h' => h'.sub (List.Sublist.cons_cons _ (List.Sublist.cons _ (List.Sublist.cons _ (List.Sublist.append_left hsub (SC q2 (snewM a b c d).1)))))) ?_
    rintro k ⟨q, m⟩ ⟨hk, hq, hkp⟩
    simp only at hq hkp
    clear hA hB hA2 hA5 hB5 hsub hsub2 hNX
    (repeat (first | refine zz ?_ | refine zv fun _ => ?_))
    ((first | refine tri_cond (by rfl) (fun hc => ?_) (fun hc => ?_) | refine tri_gsplit (by rfl) (by rfl) (by (fail_if_success exact (rfl : _ = some (Value.bool true))); (fail_if_success exact (rfl : _ = some (Value.bool false))); rfl) (fun hc => ?_) (fun hc => ?_)) <;> (try simp only [decide_eq_true_eq, decide_eq_false_iff_not, beq_iff_eq, bne_iff_ne, ne_eq, Bool.not_eq_true', Bool.not_eq_false', beq_eq_false_iff_ne, bne_eq_false_iff_eq, Int.not_lt, Int.not_le, gt_iff_lt, ge_iff_le, Bool.and_eq_true, Bool.or_eq_true, Bool.and_eq_false_iff, Bool.or_eq_false_iff, Decidable.not_not, not_true_eq_false, not_false_eq_true, and_true, true_and, or_false, false_or, or_true, true_or, and_false, false_and, eq_self, Bool.true_eq_false, Bool.false_eq_true] at hc) <;> (try (exfalso; omega)))
    case refine_1 =>
      have hkn := sdo_kp hkp (by omega) (ops.getD k default)
      (repeat (first | refine zz ?_ | refine zv fun _ => ?_))
      refine tri_block ?_
      refine tri_weak (H' := Hp w0 (hdC g7 (hd q) :: (SC q m ++ cs))) (fun w h => h) ?_
      (repeat (first | refine zz ?_ | refine zv fun _ => ?_))
      refine au_pure ?_ (hy := yl_idx (k := k) rfl rfl (hO _) (ix_nat rfl) (by rfl) (by omega))
      refine au_pure ?_ (hy := yl_loadEN rfl rfl (hO _) (by rfl) (by omega) (by repeat (first | exact nf0 rfl | apply nfS rfl | exact nfR)) (by rfl))
      obtain ⟨o, ho⟩ : ∃ o, o = ops.getD k default := ⟨_, rfl⟩
      rw [← ho] at hkn ⊢
      (repeat (first | refine au_pure ?_ | refine au_pass ?_ | refine au_box (fun _ => ?_) | refine au_alloc (fun _ => ?_) | refine au_store ?_ | refine au_make rfl rfl (fun _ => ?_) | refine au_lit rfl rfl rfl (fun _ => ?_) | refine au_append rfl rfl rfl rfl (fun _ => au_norm ?_) | refine au_storeE rfl rfl rfl rfl ?_)); refine tri_nil ?_; (repeat refine tri_then ?_)
      rename_i g10
      obtain ⟨N0, hN0⟩ : ∃ X, X = SC q m ++ cs := ⟨_, rfl⟩
      have hs0 : cs.Sublist N0 := by rw [hN0]; exact List.sublist_append_right _ _
      have hC0 : RdS (Hp w0 N0) (hd q) (tlx q.bs m.tl) (q.ps.map Row.sv) m := by rw [hN0]; exact rdS_own hq
      refine tri_weak (H' := Hp w0 (soC g10 o :: hdC g7 (hd q) :: N0)) (fun w h => by rw [hN0]; exact h) ?_
      (repeat (first | refine zz ?_ | refine zv fun _ => ?_))
      refine au_callC rfl rfl rfl rfl rfl (do_c w0 _ o ((hC0.cons (c := hdC g7 (hd q))).cons (c := soC g10 o)) hkp.s (fun i => by have := hkp.p i; omega)) ?_
      rintro ⟨q1, hq1⟩
      (repeat (first | refine au_pure ?_ | refine au_pass ?_ | refine au_box (fun _ => ?_) | refine au_alloc (fun _ => ?_) | refine au_store ?_ | refine au_make rfl rfl (fun _ => ?_) | refine au_lit rfl rfl rfl (fun _ => ?_) | refine au_append rfl rfl rfl rfl (fun _ => au_norm ?_) | refine au_storeE rfl rfl rfl rfl ?_)); refine tri_nil ?_; (repeat refine tri_then ?_)
      rename_i g11
      obtain ⟨N1, hN1⟩ : ∃ X, X = SC q1 (sdoM m o).1 ++ N0 := ⟨_, rfl⟩
      have hs1 : N0.Sublist N1 := by rw [hN1]; exact List.sublist_append_right _ _
      have hA : RdS (Hp w0 N1) (hd q1) (tlx q1.bs (sdoM m o).1.tl) (q1.ps.map Row.sv) (sdoM m o).1 := by rw [hN1]; exact rdS_own hq1
      refine tri_weak (H' := Hp w0 (hdC g11 (hd q1) :: soC g10 o :: hdC g7 (hd q) :: N1)) (fun w h' => by rw [hN1]; exact sc_upK [soC g10 o, hdC g7 (hd q)] h' (List.Sublist.refl _)) ?_
      (repeat (first | refine zz ?_ | refine zv fun _ => ?_))
      refine au_callC rfl rfl rfl rfl rfl (rdo_c w0 _ o (((hC0.sub hs1).cons (c := hdC g7 (hd q))).cons (c := soC g10 o) |>.cons (c := hdC g11 (hd q1))) hkp.s (fun i => by have := hkp.p i; omega)) ?_
      rintro ⟨q2, hq2⟩
      (repeat (first | refine au_pure ?_ | refine au_pass ?_ | refine au_box (fun _ => ?_) | refine au_alloc (fun _ => ?_) | refine au_store ?_ | refine au_make rfl rfl (fun _ => ?_) | refine au_lit rfl rfl rfl (fun _ => ?_) | refine au_append rfl rfl rfl rfl (fun _ => au_norm ?_) | refine au_storeE rfl rfl rfl rfl ?_)); refine tri_nil ?_; (repeat refine tri_then ?_)
      rename_i g14
      obtain ⟨N2, hN2⟩ : ∃ X, X = SC q2 (sdoM m o).1 ++ N1 := ⟨_, rfl⟩
      have hs2 : N1.Sublist N2 := by rw [hN2]; exact List.sublist_append_right _ _
      have hB : RdS (Hp w0 N2) (hd q2) (tlx q2.bs (sdoM m o).1.tl) (q2.ps.map Row.sv) (sdoM m o).1 := by rw [hN2]; exact rdS_own hq2
      refine tri_weak (H' := Hp w0 (hdC g14 (hd q2) :: hdC g11 (hd q1) :: soC g10 o :: hdC g7 (hd q) :: N2)) (fun w h' => by rw [hN2]; exact sc_upK [hdC g11 (hd q1), soC g10 o, hdC g7 (hd q)] h' (List.Sublist.refl _)) ?_
      have hA5 := (hA.sub hs2).cons (c := hdC g7 (hd q)) |>.cons (c := soC g10 o) |>.cons (c := hdC g11 (hd q1)) |>.cons (c := hdC g14 (hd q2))
      have hB5 := hB.cons (c := hdC g7 (hd q)) |>.cons (c := soC g10 o) |>.cons (c := hdC g11 (hd q1)) |>.cons (c := hdC g14 (hd q2))
      (repeat (first | refine zz ?_ | refine zv fun _ => ?_))
      rw [show ((sdoM m o).2.1 != (sdoM m o).2.1) = false by simp]
      (repeat (first | refine zz ?_ | refine zv fun _ => ?_))
      rw [show ((sdoM m o).2.2 != (sdoM m o).2.2) = false by simp]
      (repeat (first | refine zz ?_ | refine zv fun _ => ?_))
      refine au_callC rfl rfl rfl rfl rfl (rshsame_c w0 _ hA5 hB5 hkn.s hkn.s) (fun _ => ?_)
      rw [show decide ((sdoM m o).1 = (sdoM m o).1) = true by simp]
      (repeat (first | refine zz ?_ | refine zv fun _ => ?_))
      refine au_callC rfl rfl rfl rfl rfl (goes_c w0 _ (sdoM m o).2.2) (fun _ => ?_)
      (repeat (first | refine zz ?_ | refine zv fun _ => ?_))
      refine tri_cut1 (fun y : SR × SM => SOk y.1 y.2 ∧ Kp (k + 1) y.2) (fun _ => [(7, .pointer (some ⟨g7, 0, none⟩)), (68, vO), (69, .int .i64 (ops.length : Int)), (70, .int .i64 (k : Int))]) (fun y => Hp w0 (hdC g7 (hd y.1) :: (SC y.1 y.2 ++ cs))) ?_ ?_
      · cases goM (sdoM m o).2.2
        · (repeat (first | refine zz ?_ | refine zv fun _ => ?_))
          exact tri_mt1 (q, m) ⟨hq, hkp.up (Nat.le_succ _)⟩ (by repeat (first | exact trivial | refine ⟨rfl, ?_⟩)) (fun w h' => h'.sub (List.Sublist.cons _ (List.Sublist.cons _ (List.Sublist.cons _ (List.Sublist.cons_cons _ (by show (SC q m ++ cs).Sublist N2; rw [← hN0]; exact hs1.trans hs2))))))
        · (repeat (first | refine zz ?_ | refine zv fun _ => ?_))
          exact tri_mt1 (q2, (sdoM m o).1) ⟨hq2, hkn⟩ (by repeat (first | exact trivial | refine ⟨rfl, ?_⟩)) (fun w h' => h'.sub (List.Sublist.cons _ (List.Sublist.cons _ (List.Sublist.cons _ (List.Sublist.cons_cons _ (by show (SC q2 (sdoM m o).1 ++ cs).Sublist N2; rw [hN2]; exact List.Sublist.append_left (hs0.trans hs1) _))))))
      rintro ⟨q3, m3⟩ ⟨hq3, hkp3⟩
      simp only at hq3 hkp3
      obtain ⟨N3, hN3⟩ : ∃ X, X = SC q3 m3 ++ cs := ⟨_, rfl⟩
      have hC5 : RdS (Hp w0 (hdC g7 (hd q3) :: N3)) (hd q3) (tlx q3.bs m3.tl) (q3.ps.map Row.sv) m3 := by rw [hN3]; exact (rdS_own hq3).cons
      refine tri_weak (H' := Hp w0 (hdC g7 (hd q3) :: N3)) (fun w h => by rw [hN3]; exact h) ?_
      (repeat (first | refine tri_seq ?_ | refine tri_then ?_))
      refine ar_held [12] (hdC g7 (hd q3) :: N3) rfl ?_
      refine ar_take 0 rfl rfl rfl ?_; refine ar_take 2 rfl rfl rfl ?_
      refine ar_op 1 rfl ?_
      refine au_callC rfl rfl rfl rfl rfl (quiet_c w0 _ hC5 hkp3.s) (fun _ => ?_)
      refine tri_nil ?_; refine ar_in ?_
      refine ar_op 3 rfl ?_
      refine au_callC rfl rfl rfl rfl rfl (rquiet_c w0 _ hC5 hkp3.s) (fun _ => ?_)
      refine tri_nil ?_; refine ar_in ?_
      refine ar_take 4 rfl rfl rfl ?_ (hy := yl_neqb rfl rfl rfl)
      rw [show (quietM m3 != quietM m3) = false by simp]
      refine ar_take 5 rfl rfl rfl ?_; refine ar_take 6 rfl rfl rfl ?_; refine ar_take 8 rfl rfl rfl ?_
      refine ar_op 7 rfl ?_
      refine au_callC rfl rfl rfl rfl rfl (free_c w0 _ hC5 hkp3.s) ?_
      intro r1
      refine tri_nil ?_; refine ar_in ?_
      refine ar_op 9 rfl ?_
      refine au_callC rfl rfl rfl rfl rfl (rfree_c w0 _ (hC5.cons (c := inS r1 (freeM m3))) hkp3.s) ?_
      intro r2
      refine tri_nil ?_; refine ar_in ?_
      refine ar_op 10 rfl ?_
      refine au_callC rfl rfl rfl rfl rfl (one_c w0 _ (rd_chunk (r := r1) (l := freeM m3) ⟨1, rfl⟩) (rd_chunk (r := r2) (l := freeM m3) ⟨0, rfl⟩) (free_len m3)) (fun _ => ?_)
      rw [show decide (freeM m3 = freeM m3) = true by simp]
      refine tri_nil ?_; refine ar_in ?_
      refine ar_take 11 rfl rfl rfl ?_
      refine ar_op 12 rfl ?_
      refine au_pure ?_
      refine tri_nil ?_; refine ar_ink ?_
      refine ar_done ?_
      (repeat (first | refine zz ?_ | refine zv fun _ => ?_))
      exact tri_nx2 (k + 1) (q3, m3) (by omega) ⟨by omega, hq3, hkp3⟩ (by repeat (first | exact trivial | refine ⟨rfl, ?_⟩)) (fun w h' => by rw [hN3] at h'; exact h'.sub (List.Sublist.cons _ (List.Sublist.cons _ (List.Sublist.refl _))))
    (repeat (first | refine zz ?_ | refine zv fun _ => ?_))
    refine au_done1 rfl ?_
    exact fun w hw => ⟨(), rfl, hw.sub (List.Sublist.cons _ (List.sublist_append_right (SC q m) cs))⟩
end
end Go.Proofs.YtojfaelafakemaaGreat
