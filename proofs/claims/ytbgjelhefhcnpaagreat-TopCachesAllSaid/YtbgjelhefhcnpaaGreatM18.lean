/- Texts joined: Del, PtLib, PtSearch. Each part's own remark says what it proves. -/
import Derived.Test.YtbgjelhefhcnpaaGreatM05
import Derived.Test.YtbgjelhefhcnpaaGreatM08
import Derived.Test.YtbgjelhefhcnpaaGreatM17
import Derived.Test.YtbgjelhefhcnpaaGreatM09
/- Taking elements out of a row of the call's own in place: append of its rest to its beginning, clear behind its end. No conditions. -/
set_option linter.unusedSimpArgs false
set_option linter.unusedVariables false
namespace Go.Proofs.YtbgjelhefhcnpaaGreat
open Go Go.RowKit
section
variable {M : List Nat} {P : Program} {n d : Nat} {Q : Exit → Act → World → Prop} {ops rest : List Oper} {o : Oper} {E : Env} {H : World → Prop} {v : Value} {w0 w : World} {cs : List Chunk} {x y : Operand} {t ty e sz : Nat} {z : Value} {α : Type} [Enc α] {l : List α} {r : Row}
def cut3 (v : Value) (a b m sz : Nat) : Value := match v with
  | .slice A _ _ => .slice (if m = a then A else A.map (·.add (a * sz))) (b - a) (m - a)
  | v => v
theorem yl_cut3 [Dl] {lo hi mx : Operand} {a b m : Nat} [hS : SlTy P t e sz z] (ho : o.op = .slice t x (some lo) (some hi) (some mx)) (hx : ev E x = some v) (hR : RdH H v l) (hlo : Ix E lo a) (hhi : Ix E hi b) (hmx : Ix E mx m) (hab : a ≤ b) (hb : b ≤ m) (hm : m ≤ l.length) :
    Yl P n o E H (cut3 v a b m sz) := fun f w h1 h2 => by
  obtain ⟨A, c, rfl, h3, h4, _⟩ := (hR w h2).form
  have hel := hS.elem
  have hu : P.underlying t = some (.slice (P.elem t)) := by rw [hel]; exact hS.und
  obtain ⟨kd, i, hi, rfl⟩ := hhi
  obtain ⟨kd', i', hi', rfl⟩ := hlo
  obtain ⟨kd2, i2, hi2, rfl⟩ := hmx
  simp only [execOp, ho, h1.ev hx, Option.map_some, Option.map_none, h1.ev hi, h1.ev hi', h1.ev hi2]
  rw [Sem.run_bind, run_sliceAt_slice _ _ _ _ _ _ hu, run_slice_lhm _ _ _ _ _ hu _ _ _ _ _ _ (by omega) (by omega) (by omega) (by omega)]
  simp [hel, hS.size, Go.Proofs.YtbgjelhefhcnpaaGreat.cut3, sliced]
theorem yl_cutup [Dl] {lo hi : Operand} {a b : Nat} [hS : SlTy P t e sz z] (ho : o.op = .slice t x (some lo) (some hi) none) (hx : ev E x = some r.v) (hlo : Ix E lo a) (hhi : Ix E hi b) (hab : a ≤ b) (hb : b ≤ r.cap) :
    Yl P n o E H (cut r.v a b sz) := fun f w h1 h2 => by
  have hel := hS.elem
  have hu : P.underlying t = some (.slice (P.elem t)) := by rw [hel]; exact hS.und
  obtain ⟨kd, i, hi, rfl⟩ := hhi
  obtain ⟨kd', i', hi', rfl⟩ := hlo
  rw [Row.v] at hx
  simp only [execOp, ho, h1.ev hx, Option.map_some, Option.map_none, h1.ev hi, h1.ev hi']
  rw [Sem.run_bind, run_sliceAt_slice _ _ _ _ _ _ hu, run_slice_lh _ _ _ _ _ hu _ _ _ _ (by omega) (by omega) (by omega)]
  simp [hel, hS.size, Go.Proofs.YtbgjelhefhcnpaaGreat.cut, sliced, Row.v]
theorem run_append_room {t2 e2 : Nat} {v2 : Value} {l2 : List α} (hS : SlTy P t e sz z) (hS2 : P.underlying t2 = some (.slice e2)) (hs : Enc.sz α = sz) (h : Own w r e l) (h2 : Rd w v2 l2) (hhi : r.hi ≤ w.heap.size)
    (hroom : r.len + l2.length ≤ r.cap) :
    ∃ r' w', (Builtin.append_ #[t, t2] ty #[r.v, v2]).run P w = .ok r'.v w' ∧ Own w' r' e (l ++ l2) ∧ Turned w w' r r' ∧ r'.cap = r.cap := by
  obtain ⟨i, hi, hz, hsz, hby, hzs⟩ := hS.get
  have hp := Enc.pos (α := α)
  subst hs
  have hf := run_first (P := P) h2
  obtain ⟨A2, c2, rfl, _, _, _⟩ := h2.form
  have hl := h.len
  have hc := h.lec
  have hcm := h.cap
  simp only [maxLen] at hcm
  rcases h.row with ⟨h3, h4, h5⟩ | ⟨g, o', cur, h3, h4, h5, h6, h7, h8⟩
  · have hn : l = [] := List.eq_nil_of_length_eq_zero (by omega)
    have hn2 : l2 = [] := List.eq_nil_of_length_eq_zero (by omega)
    subst hn hn2
    refine ⟨r, w, ?_, h, ⟨rfl, rfl, rfl, Nat.le_refl _, fun _ _ _ => rfl, .inl ⟨rfl, rfl⟩, hhi⟩, rfl⟩
    simp only [List.length_nil] at hf
    simp [Builtin.append_, run_underlying hS.und, run_underlying hS2, sizeOf, typeInfo, hi, hsz, Builtin.lenOf, Row.v, h3, h4, h5, hf]
  · have hfit : o' + r.len * Enc.sz α + 0 + (encs l2).length ≤ cur.size := by
      have : (r.len + l2.length) * Enc.sz α ≤ r.cap * Enc.sz α := Nat.mul_le_mul_right _ hroom
      rw [Nat.add_mul] at this
      rw [length_encs]; omega
    have hst := run_storeCells_at P g (o' + r.len * Enc.sz α) e (encs l2) 0 cur w h6 hfit (one_encs l2)
    simp only [Nat.add_zero] at hst
    have hfit' : o' + r.len * Enc.sz α + (encs l2).length ≤ cur.toList.length := by simpa using hfit
    refine ⟨{ r with len := r.len + l2.length }, w.setRow g (cur.toList.take (o' + r.len * Enc.sz α) ++ encs l2 ++ cur.toList.drop (o' + r.len * Enc.sz α + (encs l2).length)).toArray, ?_, ⟨by simp [hl], hroom, h.cap, .inr ⟨g, o', _, h3, h4, h5, setRow_heap w g cur _ e _ h6, ?_, ?_⟩⟩,
      ⟨rfl, rfl, rfl, by simp [World.setRow], fun b _ hb' => setRow_other w g b _ (by omega), .inl ⟨rfl, rfl⟩, by simpa [World.setRow] using hhi⟩, rfl⟩
    · simp [Builtin.append_, run_underlying hS.und, run_underlying hS2, sizeOf, typeInfo, hi, hsz, Builtin.lenOf, Row.v, h3, hroom, hf, add_lit, hst]
    · simp only [List.size_toArray, List.length_append, List.length_take, List.length_drop]
      show o' + r.cap * Enc.sz α ≤ _
      have : cur.toList.length = cur.size := by simp
      omega
    · show List.take ((r.len + l2.length) * Enc.sz α) (List.drop o' _) = _
      rw [encs_append, ← h8, Nat.add_mul, ← length_encs l2]
      simp only [List.append_assoc]
      have hlen : (List.take (o' + r.len * Enc.sz α) cur.toList).length = o' + r.len * Enc.sz α := by simp; simp at hfit'; omega
      rw [List.drop_append_of_le_length (by omega), List.drop_take, Nat.add_sub_cancel_left]
      have hlen2 : (List.take (r.len * Enc.sz α) (List.drop o' cur.toList)).length = r.len * Enc.sz α := by simp; simp at hfit'; omega
      rw [List.take_append, hlen2, Nat.add_sub_cancel_left, List.take_of_length_le (by omega), List.take_append_of_le_length (Nat.le_refl _), List.take_length]
/-- append(s[:a], s[b:]...) in place. -/
theorem tri_append_cut [Dl] {i a b : Nat} [hS : SlTy P t e sz z] (hd : o.dst = some d) (hn : Nat.blt d n = true) (hw : Wan ops n o E true) (ho : o.op = .call { callee := .builtin .append, args := #[x, y], argTypes := #[t, t] })
    (hx : ev E x = some (cut r.v 0 a sz)) (hy : ev E y = some (cut r.v b l.length sz)) (hi : At cs i (slC r e l)) (hs : Enc.sz α = sz) (hab : a ≤ b) (hb : b ≤ l.length)
    (k : ∀ r' : Row, l.length ≤ r'.cap → Tri n (wpList P ops.toArray Q rest) ((d, r'.v) :: E) (HpM M w0 (cs.set i (slC r' e (l.take a ++ l.drop b))))) : Tri n (wpList P ops.toArray Q (o :: rest)) E (HpM M w0 cs) := by
  subst hs
  intro f w h1 hh
  refine wpList_want (hw f h1) ?_
  unfold Oper.wp
  obtain ⟨_, _, g3, g4⟩ := hh.at_ i _ hi
  have hlen := g4.len
  have hlec := g4.lec
  have ho1 := g4.cut (a := 0) (b := a) (Nat.zero_le _) (by omega)
  have hr2 := g4.rd.cut (a := b) (b := l.length) hb (Nat.le_refl _)
  rw [List.drop_zero] at ho1
  rw [List.take_length] at hr2
  have hcap : (r.cut 0 a (Enc.sz α)).cap = r.cap := by simp [Row.cut]
  have hrl : (r.cut 0 a (Enc.sz α)).len = a := by simp [Row.cut]
  obtain ⟨r', w', hr, hown, hto, hrc⟩ := run_append_room (P := P) (ty := o.type) hS hS.und rfl ho1 hr2 g3 (by rw [hrl, hcap, List.length_drop]; omega)
  have : (execOp f.eval o).run P w = .ok (.value r'.v) w' := by
    rw [Row.cut_v] at hr
    simp only [execOp, ho, resolve, invoke, builtin, Sem.run_bind, Sem.run_pure, Result.andThen_ok, List.map_toArray, List.map_cons, List.map_nil, h1.ev hx, h1.ev hy, hr]
  rw [this, Oper.upon_value, hd]
  exact k r' (by rw [hrc, hcap]; omega) _ _ (h1.put hn _) (hh.turned hi ⟨hto.os, hto.tape, hto.output, hto.size, hto.block, hto.at_, hto.hi⟩ hown)
/-- clear behind the end of a row. -/
theorem tri_clear_up [Dl] {i m : Nat} [hS : SlTy P t e sz z] (hd : o.dst = none) (hw : Wan ops n o E true) (ho : o.op = .call { callee := .builtin .clear, args := #[x], argTypes := #[t] })
    (hx : ev E x = some (cut r.v l.length m sz)) (hi : At cs i (slC r e l)) (hs : Enc.sz α = sz) (ha : Enc.enc (default : α) = z.cells.toList) (hlm : l.length < m) (hmc : m ≤ r.cap)
    (kk : Tri n (wpList P ops.toArray Q rest) E (HpM M w0 cs)) : Tri n (wpList P ops.toArray Q (o :: rest)) E (HpM M w0 cs) := by
  subst hs
  intro b w hb h2
  refine wpList_want (hw b hb) ?_
  unfold Oper.wp
  obtain ⟨q1, q2, q3, g4⟩ := h2.at_ i _ hi
  have hlen := Own.len g4
  rcases g4.row with ⟨_, h4, h5⟩ | ⟨g, o', cur, h3, h4, h5, h6, h7, h8⟩
  · omega
  · obtain ⟨ti, hti, hz, hsz, _, hzs⟩ := hS.get
    have hkl : m * Enc.sz α ≤ r.cap * Enc.sz α := Nat.mul_le_mul_right _ hmc
    have hsub : (m - l.length) * Enc.sz α = m * Enc.sz α - l.length * Enc.sz α := Nat.sub_mul _ _ _
    have hal2 : l.length * Enc.sz α ≤ m * Enc.sz α := Nat.mul_le_mul_right _ (by omega)
    have hvs : (Builtin.zeroCells z.cells (m - l.length)).toList = encs (List.replicate (m - l.length) (default : α)) := by
      have := made_cells (default : α) z.cells.toList ha (m - l.length)
      rw [← this]
      have e1 : z.cells.toList.toArray = z.cells := by simp
      rw [e1, ← hzs]
      rfl
    have hvl : (encs (List.replicate (m - l.length) (default : α))).length = m * Enc.sz α - l.length * Enc.sz α := by rw [length_encs, List.length_replicate, hsub]
    have hst := run_storeCells_at (P := P) g (o' + l.length * Enc.sz α) e (encs (List.replicate (m - l.length) (default : α))) 0 cur w h6 (by rw [hvl]; omega) (one_encs _)
    have hr : (execOp b.eval o).run P w = .ok (.value (.tuple #[])) (w.setRow g (cur.toList.take (o' + l.length * Enc.sz α + 0) ++ encs (List.replicate (m - l.length) (default : α)) ++ cur.toList.drop (o' + l.length * Enc.sz α + 0 + (encs (List.replicate (m - l.length) (default : α))).length)).toArray) := by
      have hca : ¬ r.cap = l.length := by omega
      have hcut : Go.Proofs.YtbgjelhefhcnpaaGreat.cut r.v l.length m (Enc.sz α) = .slice (some ⟨g, o' + l.length * Enc.sz α, none⟩) (m - l.length) (r.cap - l.length) := by
        rw [Row.v, h3]
        simp only [Go.Proofs.YtbgjelhefhcnpaaGreat.cut, if_neg hca, Option.map_some, add_lit]
      rw [hcut] at hx
      obtain ⟨k, hk⟩ : ∃ k, m - l.length = k + 1 := ⟨m - l.length - 1, by omega⟩
      simp only [execOp, ho, resolve, invoke, builtin, Sem.run_bind, Sem.run_pure, Result.andThen_ok, List.map_toArray, List.map_cons, List.map_nil, hb.ev hx]
      rw [hk] at hvs hst ⊢
      simp [Builtin.clear_, run_underlying hS.und, zeroValue, typeInfo, hti, hz, hvs, hst]
    rw [hr, Oper.upon_value, hd]
    have hcs : cs.set i (slC r e l) = cs := by
      apply List.ext_getElem?
      intro j
      by_cases h : i = j
      · subst h
        have : cs[i]? = some (slC r e l) := hi
        rw [List.getElem?_set_self (List.getElem?_eq_some_iff.1 this).1, this]
      · rw [List.getElem?_set_ne h]
    rw [← hcs] at kk
    refine kk _ _ hb (h2.set hi ⟨rfl, rfl, rfl, by simp [World.setRow]⟩ (fun b' _ hb' => setRow_other w g b' _ ?_) (.inl ⟨rfl, rfl⟩) (by have q3' : r.hi ≤ w.heap.size := q3; show r.hi ≤ _; simpa [World.setRow] using q3') ?_)
    · have : b' < r.lo ∨ r.hi ≤ b' := hb'
      omega
    · have hal3 : cur.toList.length = cur.size := by simp
      have hel : (encs l).length = l.length * Enc.sz α := length_encs l
      refine ⟨hlen, g4.lec, g4.cap, .inr ⟨g, o', _, h3, h4, h5, setRow_heap w g _ _ e _ h6, ?_, ?_⟩⟩
      · simp only [List.size_toArray, List.length_append, List.length_take, List.length_drop, hvl]
        omega
      · simp only [List.append_assoc, Nat.add_zero]
        rw [List.drop_append_of_le_length (by rw [List.length_take]; omega), List.drop_take, Nat.add_sub_cancel_left, hlen]
        rw [hlen] at h8
        rw [h8, ← hel, List.take_left]
end
end Go.Proofs.YtbgjelhefhcnpaaGreat

/- What a page table takes from the library. No conditions. -/
set_option linter.unusedSimpArgs false
set_option linter.unusedVariables false
namespace Go.Proofs.YtbgjelhefhcnpaaGreat
open Go Go.RowKit
attribute [local irreducible] Code.wp wpList bodyPost Exit.then Exit.inBlock Calls wpQuiet Tri TriQ
theorem cloneN_c (w0 : World) (cs : List Chunk) {v : Value} {l : List ND} (hR : RdH (Hp w0 cs) v l) (hlen : l.length ≤ 1000000) :
    Cal Tryz.prog 79 [v] (Hp w0 cs) (fun r : Row => r.v) (fun r => Hp w0 (slC r 89 l :: cs)) := by
  refine cal_of_tri Tryz.func79 rfl Tryz.ntmps79 rfl ?_
  (repeat' (first | refine au_pure ?_ | refine au_pass ?_ | refine au_box (fun _ => ?_) | refine au_alloc (fun _ => ?_) | refine au_store ?_ | refine au_make rfl rfl (fun _ => ?_) | refine au_lit rfl rfl rfl (fun _ => ?_) | refine au_append rfl rfl rfl rfl (fun _ => au_norm ?_) | refine au_storeE rfl rfl rfl rfl ?_ | refine tri_seq ?_ | refine tri_then ?_ | refine tri_region ?_ | refine tri_nil ?_ | refine tri_skip ?_ | refine tri_ret ?_ | refine tri_exit ?_ | refine tri_thenr ?_ | refine tri_thene ?_ | refine tri_blkn ?_ | refine tri_blkr ?_ | refine tri_blke ?_ | refine tri_blko (by rfl) ?_ | refine tri_if_t (by rfl) ?_ | refine tri_if_f (by rfl) ?_ | ((first | refine tri_cond (by rfl) (fun hc => ?_) (fun hc => ?_) | refine tri_gsplit (by rfl) (by rfl) (by (fail_if_success exact (rfl : _ = some (Value.bool true))); (fail_if_success exact (rfl : _ = some (Value.bool false))); rfl) (fun hc => ?_) (fun hc => ?_)) <;> (try simp only [decide_eq_true_eq, decide_eq_false_iff_not, beq_iff_eq, bne_iff_ne, ne_eq, Bool.not_eq_true', Bool.not_eq_false', beq_eq_false_iff_ne, bne_eq_false_iff_eq, Int.not_lt, Int.not_le, gt_iff_lt, ge_iff_le, Bool.and_eq_true, Bool.or_eq_true, Bool.and_eq_false_iff, Bool.or_eq_false_iff, Decidable.not_not, not_true_eq_false, not_false_eq_true, and_true, true_and, or_false, false_or, or_true, true_or, and_false, false_and, eq_self, Bool.true_eq_false, Bool.false_eq_true] at hc) <;> (try (exfalso; omega))) | fail))
  · refine tri_nilrow ND 89 ?_
    refine au_done1 rfl ?_
    intro w hw
    refine ⟨Row.nil w0.heap.size, rfl, ?_⟩
    have : l = [] := (hR w hw.tail).isNil hc
    exact this ▸ hw
  · refine au_done1 rfl ?_
    intro w hw
    exact ⟨_, rfl, hw⟩
theorem cloneD_c (w0 : World) (cs : List Chunk) {v : Value} {l : List DP} (hR : RdH (Hp w0 cs) v l) (hlen : l.length ≤ 1000000) :
    Cal Tryz.prog 80 [v] (Hp w0 cs) (fun r : Row => r.v) (fun r => Hp w0 (slC r 116 l :: cs)) := by
  refine cal_of_tri Tryz.func80 rfl Tryz.ntmps80 rfl ?_
  (repeat' (first | refine au_pure ?_ | refine au_pass ?_ | refine au_box (fun _ => ?_) | refine au_alloc (fun _ => ?_) | refine au_store ?_ | refine au_make rfl rfl (fun _ => ?_) | refine au_lit rfl rfl rfl (fun _ => ?_) | refine au_append rfl rfl rfl rfl (fun _ => au_norm ?_) | refine au_storeE rfl rfl rfl rfl ?_ | refine tri_seq ?_ | refine tri_then ?_ | refine tri_region ?_ | refine tri_nil ?_ | refine tri_skip ?_ | refine tri_ret ?_ | refine tri_exit ?_ | refine tri_thenr ?_ | refine tri_thene ?_ | refine tri_blkn ?_ | refine tri_blkr ?_ | refine tri_blke ?_ | refine tri_blko (by rfl) ?_ | refine tri_if_t (by rfl) ?_ | refine tri_if_f (by rfl) ?_ | ((first | refine tri_cond (by rfl) (fun hc => ?_) (fun hc => ?_) | refine tri_gsplit (by rfl) (by rfl) (by (fail_if_success exact (rfl : _ = some (Value.bool true))); (fail_if_success exact (rfl : _ = some (Value.bool false))); rfl) (fun hc => ?_) (fun hc => ?_)) <;> (try simp only [decide_eq_true_eq, decide_eq_false_iff_not, beq_iff_eq, bne_iff_ne, ne_eq, Bool.not_eq_true', Bool.not_eq_false', beq_eq_false_iff_ne, bne_eq_false_iff_eq, Int.not_lt, Int.not_le, gt_iff_lt, ge_iff_le, Bool.and_eq_true, Bool.or_eq_true, Bool.and_eq_false_iff, Bool.or_eq_false_iff, Decidable.not_not, not_true_eq_false, not_false_eq_true, and_true, true_and, or_false, false_or, or_true, true_or, and_false, false_and, eq_self, Bool.true_eq_false, Bool.false_eq_true] at hc) <;> (try (exfalso; omega))) | fail))
  · refine tri_nilrow DP 116 ?_
    refine au_done1 rfl ?_
    intro w hw
    refine ⟨Row.nil w0.heap.size, rfl, ?_⟩
    have : l = [] := (hR w hw.tail).isNil hc
    exact this ▸ hw
  · refine au_done1 rfl ?_
    intro w hw
    exact ⟨_, rfl, hw⟩
theorem deleteN_c (w0 : World) (cs : List Chunk) {r : Row} {l : List ND} {i : Nat} (hi : i < l.length) (hlen : l.length ≤ 1000000) :
    Cal Tryz.prog 53 [r.v, .int .i64 (i : Int), .int .i64 ((i : Int) + 1)] (Hp w0 (ndS r l :: cs)) (fun r' : Row => r'.v) (fun r' => Hp w0 (ndS r' (l.take i ++ l.drop (i + 1)) :: cs)) := by
  refine cal_of_tri Tryz.func53 rfl Tryz.ntmps53 rfl ?_
  (repeat (first | refine au_pure ?_ | refine au_pass ?_ | refine au_box (fun _ => ?_) | refine au_alloc (fun _ => ?_) | refine au_store ?_ | refine au_make rfl rfl (fun _ => ?_) | refine au_lit rfl rfl rfl (fun _ => ?_) | refine au_append rfl rfl rfl rfl (fun _ => au_norm ?_) | refine au_storeE rfl rfl rfl rfl ?_ | refine tri_seq ?_ | refine tri_then ?_ | refine tri_region ?_ | refine tri_nil ?_ | refine tri_skip ?_ | refine tri_ret ?_ | refine tri_exit ?_ | refine tri_thenr ?_ | refine tri_thene ?_ | refine tri_blkn ?_ | refine tri_blkr ?_ | refine tri_blke ?_ | refine tri_blko (by rfl) ?_ | refine tri_if_t (by rfl) ?_ | refine tri_if_f (by rfl) ?_ | fail))
  refine au_pure (hy := yl_cut3 (a := i) (b := i + 1) (m := l.length) rfl rfl (rd_chunk (by first | (apply has_at; (repeat (first | exact at0 | apply atS)); done) | (repeat (first | assumption | apply has_cons)))) (ix_nat rfl) (ix_nat rfl) (ix_nat rfl) (by omega) (by omega) (Nat.le_refl _)) ?_
  (repeat (first | refine au_pure ?_ | refine au_pass ?_ | refine au_box (fun _ => ?_) | refine au_alloc (fun _ => ?_) | refine au_store ?_ | refine au_make rfl rfl (fun _ => ?_) | refine au_lit rfl rfl rfl (fun _ => ?_) | refine au_append rfl rfl rfl rfl (fun _ => au_norm ?_) | refine au_storeE rfl rfl rfl rfl ?_ | refine tri_seq ?_ | refine tri_then ?_ | refine tri_region ?_ | refine tri_nil ?_ | refine tri_skip ?_ | refine tri_ret ?_ | refine tri_exit ?_ | refine tri_thenr ?_ | refine tri_thene ?_ | refine tri_blkn ?_ | refine tri_blkr ?_ | refine tri_blke ?_ | refine tri_blko (by rfl) ?_ | refine tri_if_t (by rfl) ?_ | refine tri_if_f (by rfl) ?_ | fail))
  ((first | refine tri_cond (by rfl) (fun hc => ?_) (fun hc => ?_) | refine tri_gsplit (by rfl) (by rfl) (by (fail_if_success exact (rfl : _ = some (Value.bool true))); (fail_if_success exact (rfl : _ = some (Value.bool false))); rfl) (fun hc => ?_) (fun hc => ?_)) <;> (try simp only [decide_eq_true_eq, decide_eq_false_iff_not, beq_iff_eq, bne_iff_ne, ne_eq, Bool.not_eq_true', Bool.not_eq_false', beq_eq_false_iff_ne, bne_eq_false_iff_eq, Int.not_lt, Int.not_le, gt_iff_lt, ge_iff_le, Bool.and_eq_true, Bool.or_eq_true, Bool.and_eq_false_iff, Bool.or_eq_false_iff, Decidable.not_not, not_true_eq_false, not_false_eq_true, and_true, true_and, or_false, false_or, or_true, true_or, and_false, false_and, eq_self, Bool.true_eq_false, Bool.false_eq_true] at hc) <;> (try (exfalso; omega)))
  (repeat (first | refine au_pure ?_ | refine au_pass ?_ | refine au_box (fun _ => ?_) | refine au_alloc (fun _ => ?_) | refine au_store ?_ | refine au_make rfl rfl (fun _ => ?_) | refine au_lit rfl rfl rfl (fun _ => ?_) | refine au_append rfl rfl rfl rfl (fun _ => au_norm ?_) | refine au_storeE rfl rfl rfl rfl ?_ | refine tri_seq ?_ | refine tri_then ?_ | refine tri_region ?_ | refine tri_nil ?_ | refine tri_skip ?_ | refine tri_ret ?_ | refine tri_exit ?_ | refine tri_thenr ?_ | refine tri_thene ?_ | refine tri_blkn ?_ | refine tri_blkr ?_ | refine tri_blke ?_ | refine tri_blko (by rfl) ?_ | refine tri_if_t (by rfl) ?_ | refine tri_if_f (by rfl) ?_ | fail))
  refine ak_held [6, 7] (ndS r l :: cs) rfl ?_
  refine ak_take 0 rfl rfl rfl ?_; refine ak_take 1 rfl rfl rfl ?_
  refine ak_take 2 rfl rfl rfl ?_ (hy := yl_cut (a := 0) (b := i) rfl rfl (rd_chunk (by first | (apply has_at; (repeat (first | exact at0 | apply atS)); done) | (repeat (first | assumption | apply has_cons)))) ixo_none (ixo_some (ix_nat rfl)) (by omega) (by omega))
  refine ak_take 3 rfl rfl rfl ?_; refine ak_take 4 rfl rfl rfl ?_
  refine ak_take 5 rfl rfl rfl ?_ (hy := yl_cut (a := i + 1) (b := l.length) rfl rfl (rd_chunk (by first | (apply has_at; (repeat (first | exact at0 | apply atS)); done) | (repeat (first | assumption | apply has_cons)))) (ixo_some (ix_nat rfl)) ixo_none (by omega) (by omega))
  refine ak_op 6 rfl ?_
  refine tri_append_cut (a := i) (b := i + 1) rfl rfl (by first | exact wan_plain rfl | exact wan_yes rfl rfl rfl) rfl rfl rfl (by repeat (first | exact at0 | apply atS)) rfl (by omega) (by omega) (fun r' hcap => ?_)
  refine tri_nil ?_; refine ak_ink ?_
  refine ak_op 7 rfl ?_
  refine au_pure ?_
  refine tri_nil ?_; refine ak_ink ?_
  refine ak_done ?_
  (repeat (first | refine au_pure ?_ | refine au_pass ?_ | refine au_box (fun _ => ?_) | refine au_alloc (fun _ => ?_) | refine au_store ?_ | refine au_make rfl rfl (fun _ => ?_) | refine au_lit rfl rfl rfl (fun _ => ?_) | refine au_append rfl rfl rfl rfl (fun _ => au_norm ?_) | refine au_storeE rfl rfl rfl rfl ?_ | refine tri_seq ?_ | refine tri_then ?_ | refine tri_region ?_ | refine tri_nil ?_ | refine tri_skip ?_ | refine tri_ret ?_ | refine tri_exit ?_ | refine tri_thenr ?_ | refine tri_thene ?_ | refine tri_blkn ?_ | refine tri_blkr ?_ | refine tri_blke ?_ | refine tri_blko (by rfl) ?_ | refine tri_if_t (by rfl) ?_ | refine tri_if_f (by rfl) ?_ | fail))
  refine au_pure (hy := yl_cutup (a := (l.take i ++ l.drop (i + 1)).length) (b := l.length) rfl rfl (ix_nat rfl) (ix_nat rfl) (by rw [List.length_append, List.length_take, List.length_drop]; omega) hcap) ?_
  refine tri_clear_up (m := l.length) rfl (by first | exact wan_plain rfl | exact wan_yes rfl rfl rfl) rfl rfl at0 rfl rfl (by rw [List.length_append, List.length_take, List.length_drop]; omega) hcap ?_
  (repeat (first | refine au_pure ?_ | refine au_pass ?_ | refine au_box (fun _ => ?_) | refine au_alloc (fun _ => ?_) | refine au_store ?_ | refine au_make rfl rfl (fun _ => ?_) | refine au_lit rfl rfl rfl (fun _ => ?_) | refine au_append rfl rfl rfl rfl (fun _ => au_norm ?_) | refine au_storeE rfl rfl rfl rfl ?_ | refine tri_seq ?_ | refine tri_then ?_ | refine tri_region ?_ | refine tri_nil ?_ | refine tri_skip ?_ | refine tri_ret ?_ | refine tri_exit ?_ | refine tri_thenr ?_ | refine tri_thene ?_ | refine tri_blkn ?_ | refine tri_blkr ?_ | refine tri_blke ?_ | refine tri_blko (by rfl) ?_ | refine tri_if_t (by rfl) ?_ | refine tri_if_f (by rfl) ?_ | fail))
  refine au_done1 rfl ?_
  intro w hw
  exact ⟨r', rfl, hw⟩
theorem deleteD_c (w0 : World) (cs : List Chunk) {r : Row} {l : List DP} {i : Nat} (hi : i < l.length) (hlen : l.length ≤ 1000000) :
    Cal Tryz.prog 84 [r.v, .int .i64 (i : Int), .int .i64 ((i : Int) + 1)] (Hp w0 (dpS r l :: cs)) (fun r' : Row => r'.v) (fun r' => Hp w0 (dpS r' (l.take i ++ l.drop (i + 1)) :: cs)) := by
  refine cal_of_tri Tryz.func84 rfl Tryz.ntmps84 rfl ?_
  (repeat (first | refine au_pure ?_ | refine au_pass ?_ | refine au_box (fun _ => ?_) | refine au_alloc (fun _ => ?_) | refine au_store ?_ | refine au_make rfl rfl (fun _ => ?_) | refine au_lit rfl rfl rfl (fun _ => ?_) | refine au_append rfl rfl rfl rfl (fun _ => au_norm ?_) | refine au_storeE rfl rfl rfl rfl ?_ | refine tri_seq ?_ | refine tri_then ?_ | refine tri_region ?_ | refine tri_nil ?_ | refine tri_skip ?_ | refine tri_ret ?_ | refine tri_exit ?_ | refine tri_thenr ?_ | refine tri_thene ?_ | refine tri_blkn ?_ | refine tri_blkr ?_ | refine tri_blke ?_ | refine tri_blko (by rfl) ?_ | refine tri_if_t (by rfl) ?_ | refine tri_if_f (by rfl) ?_ | fail))
  refine au_pure (hy := yl_cut3 (a := i) (b := i + 1) (m := l.length) rfl rfl (rd_chunk (by first | (apply has_at; (repeat (first | exact at0 | apply atS)); done) | (repeat (first | assumption | apply has_cons)))) (ix_nat rfl) (ix_nat rfl) (ix_nat rfl) (by omega) (by omega) (Nat.le_refl _)) ?_
  (repeat (first | refine au_pure ?_ | refine au_pass ?_ | refine au_box (fun _ => ?_) | refine au_alloc (fun _ => ?_) | refine au_store ?_ | refine au_make rfl rfl (fun _ => ?_) | refine au_lit rfl rfl rfl (fun _ => ?_) | refine au_append rfl rfl rfl rfl (fun _ => au_norm ?_) | refine au_storeE rfl rfl rfl rfl ?_ | refine tri_seq ?_ | refine tri_then ?_ | refine tri_region ?_ | refine tri_nil ?_ | refine tri_skip ?_ | refine tri_ret ?_ | refine tri_exit ?_ | refine tri_thenr ?_ | refine tri_thene ?_ | refine tri_blkn ?_ | refine tri_blkr ?_ | refine tri_blke ?_ | refine tri_blko (by rfl) ?_ | refine tri_if_t (by rfl) ?_ | refine tri_if_f (by rfl) ?_ | fail))
  ((first | refine tri_cond (by rfl) (fun hc => ?_) (fun hc => ?_) | refine tri_gsplit (by rfl) (by rfl) (by (fail_if_success exact (rfl : _ = some (Value.bool true))); (fail_if_success exact (rfl : _ = some (Value.bool false))); rfl) (fun hc => ?_) (fun hc => ?_)) <;> (try simp only [decide_eq_true_eq, decide_eq_false_iff_not, beq_iff_eq, bne_iff_ne, ne_eq, Bool.not_eq_true', Bool.not_eq_false', beq_eq_false_iff_ne, bne_eq_false_iff_eq, Int.not_lt, Int.not_le, gt_iff_lt, ge_iff_le, Bool.and_eq_true, Bool.or_eq_true, Bool.and_eq_false_iff, Bool.or_eq_false_iff, Decidable.not_not, not_true_eq_false, not_false_eq_true, and_true, true_and, or_false, false_or, or_true, true_or, and_false, false_and, eq_self, Bool.true_eq_false, Bool.false_eq_true] at hc) <;> (try (exfalso; omega)))
  (repeat (first | refine au_pure ?_ | refine au_pass ?_ | refine au_box (fun _ => ?_) | refine au_alloc (fun _ => ?_) | refine au_store ?_ | refine au_make rfl rfl (fun _ => ?_) | refine au_lit rfl rfl rfl (fun _ => ?_) | refine au_append rfl rfl rfl rfl (fun _ => au_norm ?_) | refine au_storeE rfl rfl rfl rfl ?_ | refine tri_seq ?_ | refine tri_then ?_ | refine tri_region ?_ | refine tri_nil ?_ | refine tri_skip ?_ | refine tri_ret ?_ | refine tri_exit ?_ | refine tri_thenr ?_ | refine tri_thene ?_ | refine tri_blkn ?_ | refine tri_blkr ?_ | refine tri_blke ?_ | refine tri_blko (by rfl) ?_ | refine tri_if_t (by rfl) ?_ | refine tri_if_f (by rfl) ?_ | fail))
  refine ak_held [6, 7] (dpS r l :: cs) rfl ?_
  refine ak_take 0 rfl rfl rfl ?_; refine ak_take 1 rfl rfl rfl ?_
  refine ak_take 2 rfl rfl rfl ?_ (hy := yl_cut (a := 0) (b := i) rfl rfl (rd_chunk (by first | (apply has_at; (repeat (first | exact at0 | apply atS)); done) | (repeat (first | assumption | apply has_cons)))) ixo_none (ixo_some (ix_nat rfl)) (by omega) (by omega))
  refine ak_take 3 rfl rfl rfl ?_; refine ak_take 4 rfl rfl rfl ?_
  refine ak_take 5 rfl rfl rfl ?_ (hy := yl_cut (a := i + 1) (b := l.length) rfl rfl (rd_chunk (by first | (apply has_at; (repeat (first | exact at0 | apply atS)); done) | (repeat (first | assumption | apply has_cons)))) (ixo_some (ix_nat rfl)) ixo_none (by omega) (by omega))
  refine ak_op 6 rfl ?_
  refine tri_append_cut (a := i) (b := i + 1) rfl rfl (by first | exact wan_plain rfl | exact wan_yes rfl rfl rfl) rfl rfl rfl (by repeat (first | exact at0 | apply atS)) rfl (by omega) (by omega) (fun r' hcap => ?_)
  refine tri_nil ?_; refine ak_ink ?_
  refine ak_op 7 rfl ?_
  refine au_pure ?_
  refine tri_nil ?_; refine ak_ink ?_
  refine ak_done ?_
  (repeat (first | refine au_pure ?_ | refine au_pass ?_ | refine au_box (fun _ => ?_) | refine au_alloc (fun _ => ?_) | refine au_store ?_ | refine au_make rfl rfl (fun _ => ?_) | refine au_lit rfl rfl rfl (fun _ => ?_) | refine au_append rfl rfl rfl rfl (fun _ => au_norm ?_) | refine au_storeE rfl rfl rfl rfl ?_ | refine tri_seq ?_ | refine tri_then ?_ | refine tri_region ?_ | refine tri_nil ?_ | refine tri_skip ?_ | refine tri_ret ?_ | refine tri_exit ?_ | refine tri_thenr ?_ | refine tri_thene ?_ | refine tri_blkn ?_ | refine tri_blkr ?_ | refine tri_blke ?_ | refine tri_blko (by rfl) ?_ | refine tri_if_t (by rfl) ?_ | refine tri_if_f (by rfl) ?_ | fail))
  refine au_pure (hy := yl_cutup (a := (l.take i ++ l.drop (i + 1)).length) (b := l.length) rfl rfl (ix_nat rfl) (ix_nat rfl) (by rw [List.length_append, List.length_take, List.length_drop]; omega) hcap) ?_
  refine tri_clear_up (m := l.length) rfl (by first | exact wan_plain rfl | exact wan_yes rfl rfl rfl) rfl rfl at0 rfl rfl (by rw [List.length_append, List.length_take, List.length_drop]; omega) hcap ?_
  (repeat (first | refine au_pure ?_ | refine au_pass ?_ | refine au_box (fun _ => ?_) | refine au_alloc (fun _ => ?_) | refine au_store ?_ | refine au_make rfl rfl (fun _ => ?_) | refine au_lit rfl rfl rfl (fun _ => ?_) | refine au_append rfl rfl rfl rfl (fun _ => au_norm ?_) | refine au_storeE rfl rfl rfl rfl ?_ | refine tri_seq ?_ | refine tri_then ?_ | refine tri_region ?_ | refine tri_nil ?_ | refine tri_skip ?_ | refine tri_ret ?_ | refine tri_exit ?_ | refine tri_thenr ?_ | refine tri_thene ?_ | refine tri_blkn ?_ | refine tri_blkr ?_ | refine tri_blke ?_ | refine tri_blko (by rfl) ?_ | refine tri_if_t (by rfl) ?_ | refine tri_if_f (by rfl) ?_ | fail))
  refine au_done1 rfl ?_
  intro w hw
  exact ⟨r', rfl, hw⟩
theorem indexI_c (w0 : World) (cs : List Chunk) {v : Value} {l : List Int} (s : Int) (hR : RdH (Hp w0 cs) v l) (hlen : l.length ≤ 9223372036854775807) :
    Cal Tryz.prog 94 [v, .int .i64 s] (Hp w0 cs) (fun _ : Unit => .int .i64 (idxM (eqB s) l)) (fun _ => Hp w0 cs) := by
  refine cal_of_tri Tryz.func94 rfl Tryz.ntmps94 rfl ?_
  (repeat (first | refine au_pure ?_ | refine au_pass ?_ | refine au_box (fun _ => ?_) | refine au_alloc (fun _ => ?_) | refine au_store ?_ | refine au_make rfl rfl (fun _ => ?_) | refine au_lit rfl rfl rfl (fun _ => ?_) | refine au_append rfl rfl rfl rfl (fun _ => au_norm ?_) | refine au_storeE rfl rfl rfl rfl ?_ | refine tri_seq ?_ | refine tri_then ?_ | refine tri_region ?_ | refine tri_nil ?_ | refine tri_skip ?_ | refine tri_ret ?_ | refine tri_exit ?_ | refine tri_thenr ?_ | refine tri_thene ?_ | refine tri_blkn ?_ | refine tri_blkr ?_ | refine tri_blke ?_ | refine tri_blko (by rfl) ?_ | refine tri_if_t (by rfl) ?_ | refine tri_if_f (by rfl) ?_ | fail))
  refine tri_block ?_
  refine tri_loop1 (fun k => k ≤ l.length ∧ ∀ j, j < k → eqB s (l.getD j default) = false) (fun k => [(0, v), (1, .int .i64 s), (7, .int .i64 (l.length : Int)), (8, .int .i64 (k : Int))]) (fun _ => Hp w0 cs) (fun k => l.length - k)
    0 ⟨by omega, fun j hj => by omega⟩ (by repeat (first | exact trivial | refine ⟨rfl, ?_⟩)) (fun _ h => h) ?_
  rintro k ⟨hk, hp⟩
  (repeat' (first | refine au_pure ?_ | refine au_pass ?_ | refine au_box (fun _ => ?_) | refine au_alloc (fun _ => ?_) | refine au_store ?_ | refine au_make rfl rfl (fun _ => ?_) | refine au_lit rfl rfl rfl (fun _ => ?_) | refine au_append rfl rfl rfl rfl (fun _ => au_norm ?_) | refine au_storeE rfl rfl rfl rfl ?_ | refine tri_seq ?_ | refine tri_then ?_ | refine tri_region ?_ | refine tri_nil ?_ | refine tri_skip ?_ | refine tri_ret ?_ | refine tri_exit ?_ | refine tri_thenr ?_ | refine tri_thene ?_ | refine tri_blkn ?_ | refine tri_blkr ?_ | refine tri_blke ?_ | refine tri_blko (by rfl) ?_ | refine tri_if_t (by rfl) ?_ | refine tri_if_f (by rfl) ?_ | ((first | refine tri_cond (by rfl) (fun hc => ?_) (fun hc => ?_) | refine tri_gsplit (by rfl) (by rfl) (by (fail_if_success exact (rfl : _ = some (Value.bool true))); (fail_if_success exact (rfl : _ = some (Value.bool false))); rfl) (fun hc => ?_) (fun hc => ?_)) <;> (try simp only [decide_eq_true_eq, decide_eq_false_iff_not, beq_iff_eq, bne_iff_ne, ne_eq, Bool.not_eq_true', Bool.not_eq_false', beq_eq_false_iff_ne, bne_eq_false_iff_eq, Int.not_lt, Int.not_le, gt_iff_lt, ge_iff_le, Bool.and_eq_true, Bool.or_eq_true, Bool.and_eq_false_iff, Bool.or_eq_false_iff, Decidable.not_not, not_true_eq_false, not_false_eq_true, and_true, true_and, or_false, false_or, or_true, true_or, and_false, false_and, eq_self, Bool.true_eq_false, Bool.false_eq_true] at hc) <;> (try (exfalso; omega))) | fail))
  · refine tri_block ?_
    (repeat' (first | refine au_pure ?_ | refine au_pass ?_ | refine au_box (fun _ => ?_) | refine au_alloc (fun _ => ?_) | refine au_store ?_ | refine au_make rfl rfl (fun _ => ?_) | refine au_lit rfl rfl rfl (fun _ => ?_) | refine au_append rfl rfl rfl rfl (fun _ => au_norm ?_) | refine au_storeE rfl rfl rfl rfl ?_ | refine tri_seq ?_ | refine tri_then ?_ | refine tri_region ?_ | refine tri_nil ?_ | refine tri_skip ?_ | refine tri_ret ?_ | refine tri_exit ?_ | refine tri_thenr ?_ | refine tri_thene ?_ | refine tri_blkn ?_ | refine tri_blkr ?_ | refine tri_blke ?_ | refine tri_blko (by rfl) ?_ | refine tri_if_t (by rfl) ?_ | refine tri_if_f (by rfl) ?_ | ((first | refine tri_cond (by rfl) (fun hc => ?_) (fun hc => ?_) | refine tri_gsplit (by rfl) (by rfl) (by (fail_if_success exact (rfl : _ = some (Value.bool true))); (fail_if_success exact (rfl : _ = some (Value.bool false))); rfl) (fun hc => ?_) (fun hc => ?_)) <;> (try simp only [decide_eq_true_eq, decide_eq_false_iff_not, beq_iff_eq, bne_iff_ne, ne_eq, Bool.not_eq_true', Bool.not_eq_false', beq_eq_false_iff_ne, bne_eq_false_iff_eq, Int.not_lt, Int.not_le, gt_iff_lt, ge_iff_le, Bool.and_eq_true, Bool.or_eq_true, Bool.and_eq_false_iff, Bool.or_eq_false_iff, Decidable.not_not, not_true_eq_false, not_false_eq_true, and_true, true_and, or_false, false_or, or_true, true_or, and_false, false_and, eq_self, Bool.true_eq_false, Bool.false_eq_true] at hc) <;> (try (exfalso; omega))) | fail))
    · refine au_done1 rfl ?_
      exact fun w hw => ⟨(), by rw [idxM_some (p := eqB s) (k := k) (by omega) (decide_eq_true hc) hp], hw⟩
    · exact tri_nx1 (k + 1) (by omega) ⟨by omega, all_step (p := eqB s) hp (decide_eq_false hc)⟩ (by repeat (first | exact trivial | refine ⟨rfl, ?_⟩)) (fun _ h => h)
  · refine au_done1 rfl ?_
    exact fun w hw => ⟨(), by rw [idxM_none fun j hj => hp j (by omega)], hw⟩
theorem containsI_c (w0 : World) (cs : List Chunk) {v : Value} {l : List Int} (s : Int) (hR : RdH (Hp w0 cs) v l) (hlen : l.length ≤ 9223372036854775807) :
    Cal Tryz.prog 78 [v, .int .i64 s] (Hp w0 cs) (fun _ : Unit => .bool (l.any (eqB s))) (fun _ => Hp w0 cs) := by
  refine cal_of_tri Tryz.func78 rfl Tryz.ntmps78 rfl ?_
  (repeat (first | refine au_pure ?_ | refine au_pass ?_ | refine au_box (fun _ => ?_) | refine au_alloc (fun _ => ?_) | refine au_store ?_ | refine au_make rfl rfl (fun _ => ?_) | refine au_lit rfl rfl rfl (fun _ => ?_) | refine au_append rfl rfl rfl rfl (fun _ => au_norm ?_) | refine au_storeE rfl rfl rfl rfl ?_ | refine tri_seq ?_ | refine tri_then ?_ | refine tri_region ?_ | refine tri_nil ?_ | refine tri_skip ?_ | refine tri_ret ?_ | refine tri_exit ?_ | refine tri_thenr ?_ | refine tri_thene ?_ | refine tri_blkn ?_ | refine tri_blkr ?_ | refine tri_blke ?_ | refine tri_blko (by rfl) ?_ | refine tri_if_t (by rfl) ?_ | refine tri_if_f (by rfl) ?_ | fail))
  refine au_callC rfl rfl rfl rfl rfl (indexI_c w0 cs s hR hlen) (fun _ => ?_)
  (repeat (first | refine au_pure ?_ | refine au_pass ?_ | refine au_box (fun _ => ?_) | refine au_alloc (fun _ => ?_) | refine au_store ?_ | refine au_make rfl rfl (fun _ => ?_) | refine au_lit rfl rfl rfl (fun _ => ?_) | refine au_append rfl rfl rfl rfl (fun _ => au_norm ?_) | refine au_storeE rfl rfl rfl rfl ?_ | refine tri_seq ?_ | refine tri_then ?_ | refine tri_region ?_ | refine tri_nil ?_ | refine tri_skip ?_ | refine tri_ret ?_ | refine tri_exit ?_ | refine tri_thenr ?_ | refine tri_thene ?_ | refine tri_blkn ?_ | refine tri_blkr ?_ | refine tri_blke ?_ | refine tri_blko (by rfl) ?_ | refine tri_if_t (by rfl) ?_ | refine tri_if_f (by rfl) ?_ | fail))
  refine au_done1 rfl ?_
  intro w hw; refine ⟨(), ?_, hw.sub (by repeat (first | exact List.Sublist.refl _ | assumption | apply List.Sublist.cons_cons | apply List.Sublist.cons))⟩
  rw [idxM_ge]
end Go.Proofs.YtbgjelhefhcnpaaGreat

/- sort.Search with a test that reads memory only, and the two tests of a page table's deposits. No conditions. -/
set_option linter.unusedSimpArgs false
set_option linter.unusedVariables false
namespace Go.Proofs.YtbgjelhefhcnpaaGreat
open Go Go.RowKit
attribute [local irreducible] Code.wp wpList bodyPost Exit.then Exit.inBlock Calls wpQuiet Tri TriQ
/-- What Search finds. -/
structure Fnd (n : Nat) (p : Nat → Bool) (k : Nat) : Prop where
  le : k ≤ n
  lo : ∀ j, j < k → p j = false
  hi : ∀ j, k ≤ j → j < n → p j = true
section
variable (w0 : World) (cs : List Chunk)
set_option maxHeartbeats 1000000 in
theorem search_c {n : Nat} (hn : n ≤ 1000000) {g : Nat} {capd : List Value} {p : Nat → Bool} (hm : ∀ i j, i ≤ j → j < n → p i = true → p j = true)
    (hg : ∀ k : Nat, k < n → Cal Tryz.prog g ([.int .i64 (k : Int)] ++ capd) (Hp w0 cs) (fun _ : Unit => .bool (p k)) (fun _ => Hp w0 cs)) [Fun_ Tryz.prog g] :
    Cal Tryz.prog 82 [.int .i64 (n : Int), .func (.func g) #[] capd.toArray] (Hp w0 cs) (fun k : {k // Fnd n p k} => .int .i64 (k.1 : Int)) (fun _ => Hp w0 cs) := by
  refine cal_of_tri Tryz.func82 rfl Tryz.ntmps82 rfl ?_
  (repeat (first | refine tri_seq ?_ | refine tri_then ?_)); refine tri_region ?_; (repeat (first | refine au_pure ?_ | refine au_pass ?_ | refine au_box (fun _ => ?_) | refine au_alloc (fun _ => ?_) | refine au_store ?_ | refine au_make rfl rfl (fun _ => ?_) | refine au_lit rfl rfl rfl (fun _ => ?_) | refine au_append rfl rfl rfl rfl (fun _ => au_norm ?_) | refine au_storeE rfl rfl rfl rfl ?_)); refine tri_nil ?_; (repeat refine tri_then ?_)
  (repeat (first | refine zz ?_ | refine zv fun _ => ?_))
  refine tri_block ?_
  refine tri_loop2 (fun (i j : Nat) => i ≤ j ∧ j ≤ n ∧ (∀ k, k < i → p k = false) ∧ (∀ k, j ≤ k → k < n → p k = true)) (fun i j => [(1, .func (.func g) #[] capd.toArray), (5, .int .i64 (i : Int)), (6, .int .i64 (j : Int))]) (fun _ _ => Hp w0 cs) (fun i j => j - i) 0 n ⟨by omega, by omega, fun k hk => by omega, fun k hk hk2 => by omega⟩ (by repeat (first | exact trivial | refine ⟨rfl, ?_⟩)) (fun _ h => h) ?_
  rintro i j ⟨h1, h2, h3, h4⟩
  (repeat (first | refine zz ?_ | refine zv fun _ => ?_))
  ((first | refine tri_cond (by rfl) (fun hc => ?_) (fun hc => ?_) | refine tri_gsplit (by rfl) (by rfl) (by (fail_if_success exact (rfl : _ = some (Value.bool true))); (fail_if_success exact (rfl : _ = some (Value.bool false))); rfl) (fun hc => ?_) (fun hc => ?_)) <;> (try simp only [decide_eq_true_eq, decide_eq_false_iff_not, beq_iff_eq, bne_iff_ne, ne_eq, Bool.not_eq_true', Bool.not_eq_false', beq_eq_false_iff_ne, bne_eq_false_iff_eq, Int.not_lt, Int.not_le, gt_iff_lt, ge_iff_le, Bool.and_eq_true, Bool.or_eq_true, Bool.and_eq_false_iff, Bool.or_eq_false_iff, Decidable.not_not, not_true_eq_false, not_false_eq_true, and_true, true_and, or_false, false_or, or_true, true_or, and_false, false_and, eq_self, Bool.true_eq_false, Bool.false_eq_true] at hc) <;> (try (exfalso; omega)))
  case refine_1 =>
    (repeat (first | refine zz ?_ | refine zv fun _ => ?_))
    refine tri_block ?_
    (repeat (first | refine zz ?_ | refine zv fun _ => ?_))
    refine au_pure ?_ (hy := yl_conv rfl rfl)
    rw [show IntKind.u64.wrap ((i : Int) + (j : Int)) = (i : Int) + (j : Int) from wrap_u64 (by omega)]
    refine au_pure ?_ (hy := yl_shr rfl rfl rfl (by decide))
    rw [show Int.fdiv ((i : Int) + (j : Int)) (2 ^ (min (1 : Int).toNat IntKind.u64.bits)) = (((i + j) / 2 : Nat) : Int) by
      show Int.fdiv ((i : Int) + (j : Int)) 2 = _
      rw [Int.fdiv_eq_ediv_of_nonneg _ (by decide)]; omega]
    refine au_pure ?_ (hy := yl_convn rfl rfl (by omega))
    obtain ⟨m, hm0⟩ : ∃ m, m = (i + j) / 2 := ⟨_, rfl⟩
    have hm1 : i ≤ m ∧ m < j := by omega
    rw [← hm0]
    (repeat (first | refine zz ?_ | refine zv fun _ => ?_))
    refine au_callC rfl rfl rfl rfl rfl (hg m (by omega)) (fun _ => ?_)
    (repeat (first | refine zz ?_ | refine zv fun _ => ?_))
    cases hp : p m
    · have hlo : ∀ k, k < m + 1 → p k = false := fun k hk => by
        cases hk2 : p k with
        | false => rfl
        | true => exact absurd (hm k m (by omega) (by omega) hk2) (by rw [hp]; decide)
      (repeat (first | refine zz ?_ | refine zv fun _ => ?_))
      exact tri_nx2 (m + 1) j (by omega) ⟨by omega, by omega, hlo, h4⟩ (by repeat (first | exact trivial | refine ⟨rfl, ?_⟩)) (fun _ h => h)
    · (repeat (first | refine zz ?_ | refine zv fun _ => ?_))
      exact tri_nx2 i m (by omega) ⟨by omega, by omega, h3, fun k hk hk2 => hm m k hk hk2 hp⟩ (by repeat (first | exact trivial | refine ⟨rfl, ?_⟩)) (fun _ h => h)
  have hij : i = j := by omega
  subst hij
  (repeat (first | refine zz ?_ | refine zv fun _ => ?_))
  refine au_done1 rfl ?_
  exact fun w hw => ⟨⟨i, h2, h3, h4⟩, rfl, hw⟩
/-- The test of a deposit's group. -/
def geG (ds : List DP) (g : Int) (k : Nat) : Bool := decide (g ≤ (ds.getD k default).g)
abbrev sgC (g3 g2 gT : Nat) (g root : Int) (vn : Value) (rd : Row) (ds : List DP) (cs : List Chunk) : List Chunk := blkC g3 3 [.int .i64 g] :: blkC g2 99 [pR gT] :: dpS rd ds :: ptC gT root vn rd.v :: cs
theorem wtest_c {g3 g2 gT : Nat} {g root : Int} {vn : Value} {rd : Row} {ds : List DP} (hl : ds.length ≤ 1000000) (k : Nat) (hk : k < ds.length) :
    Cal Tryz.prog 83 ([.int .i64 (k : Int)] ++ [pR g2, pR g3]) (Hp w0 (sgC g3 g2 gT g root vn rd ds cs)) (fun _ : Unit => .bool (geG ds g k)) (fun _ => Hp w0 (sgC g3 g2 gT g root vn rd ds cs)) := by
  refine cal_of_tri Tryz.func83 rfl Tryz.ntmps83 rfl ?_
  (repeat (first | refine tri_seq ?_ | refine tri_then ?_)); refine tri_region ?_; (repeat (first | refine au_pure ?_ | refine au_pass ?_ | refine au_box (fun _ => ?_) | refine au_alloc (fun _ => ?_) | refine au_store ?_ | refine au_make rfl rfl (fun _ => ?_) | refine au_lit rfl rfl rfl (fun _ => ?_) | refine au_append rfl rfl rfl rfl (fun _ => au_norm ?_) | refine au_storeE rfl rfl rfl rfl ?_)); refine tri_nil ?_; (repeat refine tri_then ?_)
  (repeat (first | refine zz ?_ | refine zv fun _ => ?_))
  (repeat (first | refine tri_seq ?_ | refine tri_then ?_))
  refine au_draw rfl ?_
  (repeat (first | refine z1 ?_ | refine au_qpass rfl rfl ?_ | refine triq_nil ?_))
  refine au_qpure rfl rfl ?_ (hy := yl_idx (k := k) rfl rfl (rd_chunk (r := rd) (l := ds) ⟨2, rfl⟩) (ix_nat rfl) (by rfl) (by omega))
  refine au_qpure rfl rfl ?_ (hy := yl_fieldE rfl rfl)
  refine au_qpure rfl rfl ?_ (hy := yl_loadE rfl rfl (rd_chunk (r := rd) (l := ds) ⟨2, rfl⟩) (by rfl) (by omega) (by rfl))
  (repeat (first | refine z1 ?_ | refine au_qpass rfl rfl ?_ | refine triq_nil ?_))
  (repeat (first | refine zz ?_ | refine zv fun _ => ?_))
  refine au_done1 rfl ?_
  exact fun w hw => ⟨(), rfl, hw⟩
theorem dtest_c {g3 g2 gT : Nat} {g root : Int} {vn : Value} {rd : Row} {ds : List DP} (hl : ds.length ≤ 1000000) (k : Nat) (hk : k < ds.length) :
    Cal Tryz.prog 85 ([.int .i64 (k : Int)] ++ [pR g2, pR g3]) (Hp w0 (sgC g3 g2 gT g root vn rd ds cs)) (fun _ : Unit => .bool (geG ds g k)) (fun _ => Hp w0 (sgC g3 g2 gT g root vn rd ds cs)) := by
  refine cal_of_tri Tryz.func85 rfl Tryz.ntmps85 rfl ?_
  (repeat (first | refine tri_seq ?_ | refine tri_then ?_)); refine tri_region ?_; (repeat (first | refine au_pure ?_ | refine au_pass ?_ | refine au_box (fun _ => ?_) | refine au_alloc (fun _ => ?_) | refine au_store ?_ | refine au_make rfl rfl (fun _ => ?_) | refine au_lit rfl rfl rfl (fun _ => ?_) | refine au_append rfl rfl rfl rfl (fun _ => au_norm ?_) | refine au_storeE rfl rfl rfl rfl ?_)); refine tri_nil ?_; (repeat refine tri_then ?_)
  (repeat (first | refine zz ?_ | refine zv fun _ => ?_))
  (repeat (first | refine tri_seq ?_ | refine tri_then ?_))
  refine au_draw rfl ?_
  (repeat (first | refine z1 ?_ | refine au_qpass rfl rfl ?_ | refine triq_nil ?_))
  refine au_qpure rfl rfl ?_ (hy := yl_idx (k := k) rfl rfl (rd_chunk (r := rd) (l := ds) ⟨2, rfl⟩) (ix_nat rfl) (by rfl) (by omega))
  refine au_qpure rfl rfl ?_ (hy := yl_fieldE rfl rfl)
  refine au_qpure rfl rfl ?_ (hy := yl_loadE rfl rfl (rd_chunk (r := rd) (l := ds) ⟨2, rfl⟩) (by rfl) (by omega) (by rfl))
  (repeat (first | refine z1 ?_ | refine au_qpass rfl rfl ?_ | refine triq_nil ?_))
  (repeat (first | refine zz ?_ | refine zv fun _ => ?_))
  refine au_done1 rfl ?_
  exact fun w hw => ⟨(), rfl, hw⟩
end
theorem geG_mono {ds : List DP} (h : ds.Pairwise fun a b => a.g < b.g) (g : Int) (i j : Nat) (hij : i ≤ j) (hj : j < ds.length) (hi : geG ds g i = true) : geG ds g j = true := by
  unfold geG at *
  have hi := of_decide_eq_true hi
  refine decide_eq_true ?_
  rcases Nat.lt_or_ge i j with h1 | h1
  · have := List.pairwise_iff_getElem.1 h i j (by omega) hj h1
    rw [getD_get (by omega)] at hi ⊢
    omega
  · rw [show j = i by omega]; exact hi
end Go.Proofs.YtbgjelhefhcnpaaGreat
