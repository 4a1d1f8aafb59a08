/- Texts joined: Clr, TlbLib, Seq. Each part's own remark says what it proves. -/
import Derived.Test.YtbgjelhefhcnpaaGreatM05
import Derived.Test.YtbgjelhefhcnpaaGreatM08
/- The built-in clear on the rest of a row of the call's own. No conditions. -/
set_option linter.unusedSimpArgs false
set_option linter.unusedVariables false
namespace Go.Proofs.YtbgjelhefhcnpaaGreat
open Go Go.RowKit
section
variable {M : List Nat} {P : Program} {n : Nat} {Q : Exit → Act → World → Prop} {ops rest : List Oper} {o : Oper} {E : Env} {w0 w : World} {cs : List Chunk} {x : Operand} {t e sz : Nat} {z : Value} {α : Type} [Enc α] {l : List α} {r : Row}
theorem tri_clear [Dl] {i a : Nat} {cs' : List Chunk} [hS : SlTy P t e sz z] (hd : o.dst = none) (hw : Wan ops n o E true) (ho : o.op = .call { callee := .builtin .clear, args := #[x], argTypes := #[t] })
    (hx : ev E x = some (cut r.v a l.length sz)) (hi : At cs i (slC r e l)) (hs : Enc.sz α = sz) (ha : Enc.enc (default : α) = z.cells.toList) (hal : a ≤ l.length) (hcs : Nf (cs.set i (slC r e (l.take a ++ List.replicate (l.length - a) default))) cs')
    (kk : Tri n (wpList P ops.toArray Q rest) E (HpM M w0 cs')) : Tri n (wpList P ops.toArray Q (o :: rest)) E (HpM M w0 cs) := by
  subst hcs
  subst hs
  intro b w hb h2
  refine wpList_want (hw b hb) ?_
  unfold Oper.wp
  obtain ⟨q1, q2, q3, g4⟩ := h2.at_ i _ hi
  have hlen := Own.len g4
  by_cases hae : a = l.length
  · have hr : (execOp b.eval o).run P w = .ok (.value (.tuple #[])) w := by
      have hz : l.length - a = 0 := by omega
      simp only [execOp, ho, resolve, invoke, builtin, Sem.run_bind, Sem.run_pure, Result.andThen_ok, List.map_toArray, List.map_cons, List.map_nil, hb.ev hx]
      simp only [Go.Proofs.YtbgjelhefhcnpaaGreat.cut, Row.v, hz]
      generalize (if r.cap = a then r.A else Option.map (fun x => x.add (a * Enc.sz α)) r.A) = A
      cases A <;> simp [Builtin.clear_, run_underlying hS.und]
    rw [hr, Oper.upon_value, hd]
    have hl : l.take a ++ List.replicate (l.length - a) (default : α) = l := by rw [hae, List.take_length, Nat.sub_self]; simp
    rw [hl] at kk
    have hcs : cs.set i (slC r e l) = cs := by
      apply List.ext_getElem?
      intro j
      by_cases h : i = j
      · subst h
        have : cs[i]? = some (slC r e l) := hi
        rw [List.getElem?_set_self (List.getElem?_eq_some_iff.1 this).1, this]
      · rw [List.getElem?_set_ne h]
    rw [hcs] at kk
    exact kk _ _ hb h2
  · rcases g4.row with ⟨_, h4, _⟩ | ⟨g, o', cur, h3, h4, h5, h6, h7, h8⟩
    · omega
    · obtain ⟨ti, hti, hz, hsz, _, hzs⟩ := hS.get
      have hal' : a < l.length := by omega
      have hkl : l.length * Enc.sz α ≤ r.cap * Enc.sz α := Nat.mul_le_mul_right _ (by rw [← hlen]; exact g4.lec)
      have hsub : (l.length - a) * Enc.sz α = l.length * Enc.sz α - a * Enc.sz α := Nat.sub_mul _ _ _
      have hal2 : a * Enc.sz α ≤ l.length * Enc.sz α := Nat.mul_le_mul_right _ hal
      have hvs : (Builtin.zeroCells z.cells (l.length - a)).toList = encs (List.replicate (l.length - a) (default : α)) := by
        have := made_cells (default : α) z.cells.toList ha (l.length - a)
        rw [← this]
        have e1 : z.cells.toList.toArray = z.cells := by simp
        rw [e1, ← hzs]
        rfl
      have hvl : (encs (List.replicate (l.length - a) (default : α))).length = l.length * Enc.sz α - a * Enc.sz α := by rw [length_encs, List.length_replicate, hsub]
      have hst := run_storeCells_at (P := P) g (o' + a * Enc.sz α) e (encs (List.replicate (l.length - a) (default : α))) 0 cur w h6 (by rw [hvl]; omega) (one_encs _)
      have hr : (execOp b.eval o).run P w = .ok (.value (.tuple #[])) (w.setRow g (cur.toList.take (o' + a * Enc.sz α + 0) ++ encs (List.replicate (l.length - a) (default : α)) ++ cur.toList.drop (o' + a * Enc.sz α + 0 + (encs (List.replicate (l.length - a) (default : α))).length)).toArray) := by
        have hca : ¬ r.cap = a := by have := g4.lec; omega
        have hcut : Go.Proofs.YtbgjelhefhcnpaaGreat.cut r.v a l.length (Enc.sz α) = .slice (some ⟨g, o' + a * Enc.sz α, none⟩) (l.length - a) (r.cap - a) := by
          rw [Row.v, h3]
          simp only [Go.Proofs.YtbgjelhefhcnpaaGreat.cut, if_neg hca, Option.map_some, add_lit]
        rw [hcut] at hx
        obtain ⟨m, hm⟩ : ∃ m, l.length - a = m + 1 := ⟨l.length - a - 1, by omega⟩
        simp only [execOp, ho, resolve, invoke, builtin, Sem.run_bind, Sem.run_pure, Result.andThen_ok, List.map_toArray, List.map_cons, List.map_nil, hb.ev hx]
        rw [hm] at hvs hst ⊢
        simp [Builtin.clear_, run_underlying hS.und, zeroValue, typeInfo, hti, hz, hvs, hst]
      rw [hr, Oper.upon_value, hd]
      refine kk _ _ hb (h2.set hi ⟨rfl, rfl, rfl, by simp [World.setRow]⟩ (fun b' _ hb' => setRow_other w g b' _ ?_) (.inl ⟨rfl, rfl⟩) (by have q3' : r.hi ≤ w.heap.size := q3; show r.hi ≤ _; simpa [World.setRow] using q3') ?_)
      · have : b' < r.lo ∨ r.hi ≤ b' := hb'
        omega
      · have hnl : (l.take a ++ List.replicate (l.length - a) (default : α)).length = l.length := by simp; omega
        have hal3 : cur.toList.length = cur.size := by simp
        have hall : cur.toList = cur.toList.take o' ++ (encs l ++ (cur.toList.drop o').drop (r.len * Enc.sz α)) := by
          rw [← h8, List.take_append_drop, List.take_append_drop]
        have ht : (cur.toList.take o').length = o' := by rw [List.length_take]; omega
        have hel : (encs l).length = l.length * Enc.sz α := length_encs l
        have ht1 : cur.toList.take (o' + a * Enc.sz α + 0) = cur.toList.take o' ++ encs (l.take a) := by
          conv => lhs; rw [hall]
          rw [List.take_append, ht, List.take_of_length_le (by rw [ht]; omega), show o' + a * Enc.sz α + 0 - o' = a * Enc.sz α by omega, List.take_append_of_le_length (by omega), encs_take]
        have hd1 : cur.toList.drop (o' + a * Enc.sz α + 0 + (encs (List.replicate (l.length - a) (default : α))).length) = (cur.toList.drop o').drop (r.len * Enc.sz α) := by
          rw [List.drop_drop, hvl, hlen]
          congr 1
          omega
        have hnew : cur.toList.take (o' + a * Enc.sz α + 0) ++ encs (List.replicate (l.length - a) (default : α)) ++ cur.toList.drop (o' + a * Enc.sz α + 0 + (encs (List.replicate (l.length - a) (default : α))).length)
            = cur.toList.take o' ++ (encs (l.take a ++ List.replicate (l.length - a) (default : α)) ++ (cur.toList.drop o').drop (r.len * Enc.sz α)) := by
          rw [ht1, hd1, encs_append]; simp only [List.append_assoc]
        refine ⟨by rw [hnl]; exact hlen, g4.lec, g4.cap, .inr ⟨g, o', _, h3, h4, h5, setRow_heap w g _ _ e _ h6, ?_, ?_⟩⟩
        · simp only [List.size_toArray, List.length_append, List.length_take, List.length_drop, hvl]
          omega
        · simp only
          rw [hnew, List.drop_append_of_le_length (by omega), List.drop_of_length_le (by omega)]
          simp only [List.nil_append]
          have hlen2 : (encs (l.take a ++ List.replicate (l.length - a) (default : α))).length = r.len * Enc.sz α := by rw [length_encs, hnl, hlen]
          rw [← hlen2, List.take_left]
end
end Go.Proofs.YtbgjelhefhcnpaaGreat

/- The walks of package tlb: what it takes from the library. No conditions. -/
set_option linter.unusedSimpArgs false
set_option linter.unusedVariables false
namespace Go.Proofs.YtbgjelhefhcnpaaGreat
open Go Go.RowKit
attribute [local irreducible] Code.wp wpList bodyPost Exit.then Exit.inBlock Calls wpQuiet Tri TriQ
theorem mem_getD' {α : Type} [Inhabited α] {l : List α} {k : Nat} (h : k < l.length) : l.getD k default ∈ l := by rw [getD_get h]; exact List.getElem_mem h
theorem has_app {c : Chunk} {cs ds : List Chunk} (h : Has cs c) : Has (ds ++ cs) c := by
  induction ds with
  | nil => exact h
  | cons d ds ih => exact has_cons ih
theorem calr {P : Program} {f : Nat} {args : List Value} {H : World → Prop} {v : Value} (h : Cal P f args H (fun _ : Unit => v) (fun _ => H)) : ∀ w, H w → Calls P f args.toArray w fun e w' => e = .returned v ∧ H w' := fun w hw => (h w hw).mono fun _ _ ⟨_, h1, h2⟩ => ⟨h1, h2⟩
abbrev teS (r : Row) (l : List TE) : Chunk := slC r 118 l
def Tst (w0 : World) (cs : List Chunk) (g : Nat) (capd : List Value) (p : TE → Bool) (l : List TE) : Prop := ∀ ds s, s ∈ l → Cal Tryz.prog g ([.agg #[.int .i64 s.s, .int .i64 s.p, .int .u64 s.w]] ++ capd) (Hp w0 (ds ++ cs)) (fun _ : Unit => .bool (p s)) (fun _ => Hp w0 (ds ++ cs))
theorem indexFunc_c (w0 : World) (cs : List Chunk) {v : Value} {l : List TE} (hR : RdH (Hp w0 cs) v l) (hlen : l.length ≤ 9223372036854775807) {g : Nat} {capd : List Value} {p : TE → Bool} (hg : Tst w0 cs g capd p l) [Fun_ Tryz.prog g] :
    Cal Tryz.prog 88 [v, .func (.func g) #[] capd.toArray] (Hp w0 cs) (fun _ : Unit => .int .i64 (idxM p l)) (fun _ => Hp w0 cs) := by
  refine cal_of_tri Tryz.func88 rfl Tryz.ntmps88 rfl ?_
  (repeat (first | refine au_pure ?_ | refine au_pass ?_ | refine au_box (fun _ => ?_) | refine au_alloc (fun _ => ?_) | refine au_store ?_ | refine au_make rfl rfl (fun _ => ?_) | refine au_lit rfl rfl rfl (fun _ => ?_) | refine au_append rfl rfl rfl rfl (fun _ => au_norm ?_) | refine au_storeE rfl rfl rfl rfl ?_ | refine tri_seq ?_ | refine tri_then ?_ | refine tri_region ?_ | refine tri_nil ?_ | refine tri_skip ?_ | refine tri_ret ?_ | refine tri_exit ?_ | refine tri_thenr ?_ | refine tri_thene ?_ | refine tri_blkn ?_ | refine tri_blkr ?_ | refine tri_blke ?_ | refine tri_blko (by rfl) ?_ | refine tri_if_t (by rfl) ?_ | refine tri_if_f (by rfl) ?_ | fail))
  refine tri_block ?_
  refine tri_loop1 (fun k => k ≤ l.length ∧ ∀ j, j < k → p (l.getD j default) = false) (fun k => [(0, v), (1, .func (.func g) #[] capd.toArray), (7, .int .i64 (l.length : Int)), (8, .int .i64 (k : Int))]) (fun _ => Hp w0 cs) (fun k => l.length - k)
    0 ⟨by omega, fun j hj => by omega⟩ (by repeat (first | exact trivial | refine ⟨rfl, ?_⟩)) (fun _ h => h) ?_
  rintro k ⟨hk, hp⟩
  (repeat' (first | refine au_pure ?_ | refine au_pass ?_ | refine au_box (fun _ => ?_) | refine au_alloc (fun _ => ?_) | refine au_store ?_ | refine au_make rfl rfl (fun _ => ?_) | refine au_lit rfl rfl rfl (fun _ => ?_) | refine au_append rfl rfl rfl rfl (fun _ => au_norm ?_) | refine au_storeE rfl rfl rfl rfl ?_ | refine tri_seq ?_ | refine tri_then ?_ | refine tri_region ?_ | refine tri_nil ?_ | refine tri_skip ?_ | refine tri_ret ?_ | refine tri_exit ?_ | refine tri_thenr ?_ | refine tri_thene ?_ | refine tri_blkn ?_ | refine tri_blkr ?_ | refine tri_blke ?_ | refine tri_blko (by rfl) ?_ | refine tri_if_t (by rfl) ?_ | refine tri_if_f (by rfl) ?_ | ((first | refine tri_cond (by rfl) (fun hc => ?_) (fun hc => ?_) | refine tri_gsplit (by rfl) (by rfl) (by (fail_if_success exact (rfl : _ = some (Value.bool true))); (fail_if_success exact (rfl : _ = some (Value.bool false))); rfl) (fun hc => ?_) (fun hc => ?_)) <;> (try simp only [decide_eq_true_eq, decide_eq_false_iff_not, beq_iff_eq, bne_iff_ne, ne_eq, Bool.not_eq_true', Bool.not_eq_false', beq_eq_false_iff_ne, bne_eq_false_iff_eq, Int.not_lt, Int.not_le, gt_iff_lt, ge_iff_le, Bool.and_eq_true, Bool.or_eq_true, Bool.and_eq_false_iff, Bool.or_eq_false_iff, Decidable.not_not, not_true_eq_false, not_false_eq_true, and_true, true_and, or_false, false_or, or_true, true_or, and_false, false_and, eq_self, Bool.true_eq_false, Bool.false_eq_true] at hc) <;> (try (exfalso; omega))) | fail))
  · refine tri_block ?_
    (repeat (first | refine au_pure ?_ | refine au_pass ?_ | refine au_box (fun _ => ?_) | refine au_alloc (fun _ => ?_) | refine au_store ?_ | refine au_make rfl rfl (fun _ => ?_) | refine au_lit rfl rfl rfl (fun _ => ?_) | refine au_append rfl rfl rfl rfl (fun _ => au_norm ?_) | refine au_storeE rfl rfl rfl rfl ?_ | refine tri_seq ?_ | refine tri_then ?_ | refine tri_region ?_ | refine tri_nil ?_ | refine tri_skip ?_ | refine tri_ret ?_ | refine tri_exit ?_ | refine tri_thenr ?_ | refine tri_thene ?_ | refine tri_blkn ?_ | refine tri_blkr ?_ | refine tri_blke ?_ | refine tri_blko (by rfl) ?_ | refine tri_if_t (by rfl) ?_ | refine tri_if_f (by rfl) ?_ | fail))
    refine au_callC rfl rfl rfl rfl rfl (hg [] (l.getD k default) (mem_getD' (by omega))) (fun _ => ?_)
    (repeat' (first | refine au_pure ?_ | refine au_pass ?_ | refine au_box (fun _ => ?_) | refine au_alloc (fun _ => ?_) | refine au_store ?_ | refine au_make rfl rfl (fun _ => ?_) | refine au_lit rfl rfl rfl (fun _ => ?_) | refine au_append rfl rfl rfl rfl (fun _ => au_norm ?_) | refine au_storeE rfl rfl rfl rfl ?_ | refine tri_seq ?_ | refine tri_then ?_ | refine tri_region ?_ | refine tri_nil ?_ | refine tri_skip ?_ | refine tri_ret ?_ | refine tri_exit ?_ | refine tri_thenr ?_ | refine tri_thene ?_ | refine tri_blkn ?_ | refine tri_blkr ?_ | refine tri_blke ?_ | refine tri_blko (by rfl) ?_ | refine tri_if_t (by rfl) ?_ | refine tri_if_f (by rfl) ?_ | ((first | refine tri_cond (by rfl) (fun hc => ?_) (fun hc => ?_) | refine tri_gsplit (by rfl) (by rfl) (by (fail_if_success exact (rfl : _ = some (Value.bool true))); (fail_if_success exact (rfl : _ = some (Value.bool false))); rfl) (fun hc => ?_) (fun hc => ?_)) <;> (try simp only [decide_eq_true_eq, decide_eq_false_iff_not, beq_iff_eq, bne_iff_ne, ne_eq, Bool.not_eq_true', Bool.not_eq_false', beq_eq_false_iff_ne, bne_eq_false_iff_eq, Int.not_lt, Int.not_le, gt_iff_lt, ge_iff_le, Bool.and_eq_true, Bool.or_eq_true, Bool.and_eq_false_iff, Bool.or_eq_false_iff, Decidable.not_not, not_true_eq_false, not_false_eq_true, and_true, true_and, or_false, false_or, or_true, true_or, and_false, false_and, eq_self, Bool.true_eq_false, Bool.false_eq_true] at hc) <;> (try (exfalso; omega))) | fail))
    · refine au_done1 rfl ?_
      exact fun w hw => ⟨(), by rw [idxM_some (k := k) (by omega) (by assumption) hp], hw⟩
    · exact tri_nx1 (k + 1) (by omega) ⟨by omega, all_step hp (by assumption)⟩ (by repeat (first | exact trivial | refine ⟨rfl, ?_⟩)) (fun _ h => h)
  · refine au_done1 rfl ?_
    exact fun w hw => ⟨(), by rw [idxM_none fun j hj => hp j (by omega)], hw⟩
theorem containsFunc_c (w0 : World) (cs : List Chunk) {v : Value} {l : List TE} (hR : RdH (Hp w0 cs) v l) (hlen : l.length ≤ 9223372036854775807) {g : Nat} {capd : List Value} {p : TE → Bool} (hg : Tst w0 cs g capd p l) [Fun_ Tryz.prog g] :
    Cal Tryz.prog 62 [v, .func (.func g) #[] capd.toArray] (Hp w0 cs) (fun _ : Unit => .bool (l.any p)) (fun _ => Hp w0 cs) := by
  refine cal_of_tri Tryz.func62 rfl Tryz.ntmps62 rfl ?_
  (repeat (first | refine au_pure ?_ | refine au_pass ?_ | refine au_box (fun _ => ?_) | refine au_alloc (fun _ => ?_) | refine au_store ?_ | refine au_make rfl rfl (fun _ => ?_) | refine au_lit rfl rfl rfl (fun _ => ?_) | refine au_append rfl rfl rfl rfl (fun _ => au_norm ?_) | refine au_storeE rfl rfl rfl rfl ?_ | refine tri_seq ?_ | refine tri_then ?_ | refine tri_region ?_ | refine tri_nil ?_ | refine tri_skip ?_ | refine tri_ret ?_ | refine tri_exit ?_ | refine tri_thenr ?_ | refine tri_thene ?_ | refine tri_blkn ?_ | refine tri_blkr ?_ | refine tri_blke ?_ | refine tri_blko (by rfl) ?_ | refine tri_if_t (by rfl) ?_ | refine tri_if_f (by rfl) ?_ | fail))
  refine au_callC rfl rfl rfl rfl rfl (indexFunc_c w0 cs hR hlen hg) (fun _ => ?_)
  (repeat (first | refine au_pure ?_ | refine au_pass ?_ | refine au_box (fun _ => ?_) | refine au_alloc (fun _ => ?_) | refine au_store ?_ | refine au_make rfl rfl (fun _ => ?_) | refine au_lit rfl rfl rfl (fun _ => ?_) | refine au_append rfl rfl rfl rfl (fun _ => au_norm ?_) | refine au_storeE rfl rfl rfl rfl ?_ | refine tri_seq ?_ | refine tri_then ?_ | refine tri_region ?_ | refine tri_nil ?_ | refine tri_skip ?_ | refine tri_ret ?_ | refine tri_exit ?_ | refine tri_thenr ?_ | refine tri_thene ?_ | refine tri_blkn ?_ | refine tri_blkr ?_ | refine tri_blke ?_ | refine tri_blko (by rfl) ?_ | refine tri_if_t (by rfl) ?_ | refine tri_if_f (by rfl) ?_ | fail))
  refine au_done1 rfl ?_
  intro w hw; refine ⟨(), ?_, hw.sub (by repeat (first | exact List.Sublist.refl _ | assumption | apply List.Sublist.cons_cons | apply List.Sublist.cons))⟩
  rw [idxM_ge]
theorem clone_c (w0 : World) (cs : List Chunk) {v : Value} {l : List TE} (hR : RdH (Hp w0 cs) v l) (hlen : l.length ≤ 1000000) :
    Cal Tryz.prog 91 [v] (Hp w0 cs) (fun r : Row => r.v) (fun r => Hp w0 (slC r 118 l :: cs)) := by
  refine cal_of_tri Tryz.func91 rfl Tryz.ntmps91 rfl ?_
  (repeat' (first | refine au_pure ?_ | refine au_pass ?_ | refine au_box (fun _ => ?_) | refine au_alloc (fun _ => ?_) | refine au_store ?_ | refine au_make rfl rfl (fun _ => ?_) | refine au_lit rfl rfl rfl (fun _ => ?_) | refine au_append rfl rfl rfl rfl (fun _ => au_norm ?_) | refine au_storeE rfl rfl rfl rfl ?_ | refine tri_seq ?_ | refine tri_then ?_ | refine tri_region ?_ | refine tri_nil ?_ | refine tri_skip ?_ | refine tri_ret ?_ | refine tri_exit ?_ | refine tri_thenr ?_ | refine tri_thene ?_ | refine tri_blkn ?_ | refine tri_blkr ?_ | refine tri_blke ?_ | refine tri_blko (by rfl) ?_ | refine tri_if_t (by rfl) ?_ | refine tri_if_f (by rfl) ?_ | ((first | refine tri_cond (by rfl) (fun hc => ?_) (fun hc => ?_) | refine tri_gsplit (by rfl) (by rfl) (by (fail_if_success exact (rfl : _ = some (Value.bool true))); (fail_if_success exact (rfl : _ = some (Value.bool false))); rfl) (fun hc => ?_) (fun hc => ?_)) <;> (try simp only [decide_eq_true_eq, decide_eq_false_iff_not, beq_iff_eq, bne_iff_ne, ne_eq, Bool.not_eq_true', Bool.not_eq_false', beq_eq_false_iff_ne, bne_eq_false_iff_eq, Int.not_lt, Int.not_le, gt_iff_lt, ge_iff_le, Bool.and_eq_true, Bool.or_eq_true, Bool.and_eq_false_iff, Bool.or_eq_false_iff, Decidable.not_not, not_true_eq_false, not_false_eq_true, and_true, true_and, or_false, false_or, or_true, true_or, and_false, false_and, eq_self, Bool.true_eq_false, Bool.false_eq_true] at hc) <;> (try (exfalso; omega))) | fail))
  · refine tri_nilrow TE 118 ?_
    refine au_done1 rfl ?_
    intro w hw
    refine ⟨Row.nil w0.heap.size, rfl, ?_⟩
    have : l = [] := (hR w hw.tail).isNil hc
    exact this ▸ hw
  · refine au_done1 rfl ?_
    intro w hw
    exact ⟨_, rfl, hw⟩
theorem Tst.cons {w0 : World} {cs : List Chunk} {g : Nat} {capd : List Value} {p : TE → Bool} {l : List TE} (h : Tst w0 cs g capd p l) (c : Chunk) : Tst w0 (c :: cs) g capd p l := fun ds s hs => by
  have := h (ds ++ [c]) s hs
  simpa using this
theorem filter_step (p : TE → Bool) {l : List TE} {k : Nat} (hk : k < l.length) : (l.take (k + 1)).filter p = (l.take k).filter p ++ if p (l.getD k default) then [l.getD k default] else [] := by
  rw [take_step hk, List.filter_append]
  congr 1
  simp only [List.filter_cons, List.filter_nil]
set_option maxHeartbeats 2000000 in
theorem deleteFunc_c (w0 : World) (cs : List Chunk) {r : Row} {l : List TE} (hlen : l.length ≤ 1000000) {g : Nat} {capd : List Value} {p : TE → Bool} (hg : Tst w0 cs g capd p l) [Fun_ Tryz.prog g] :
    Cal Tryz.prog 90 [r.v, .func (.func g) #[] capd.toArray] (Hp w0 (teS r l :: cs)) (fun r' : Row => r'.v) (fun r' => Hp w0 (teS r' (l.filter fun x => !p x) :: cs)) := by
  refine cal_of_tri Tryz.func90 rfl Tryz.ntmps90 rfl ?_
  (repeat (first | refine au_pure ?_ | refine au_pass ?_ | refine au_box (fun _ => ?_) | refine au_alloc (fun _ => ?_) | refine au_store ?_ | refine au_make rfl rfl (fun _ => ?_) | refine au_lit rfl rfl rfl (fun _ => ?_) | refine au_append rfl rfl rfl rfl (fun _ => au_norm ?_) | refine au_storeE rfl rfl rfl rfl ?_ | refine tri_seq ?_ | refine tri_then ?_ | refine tri_region ?_ | refine tri_nil ?_ | refine tri_skip ?_ | refine tri_ret ?_ | refine tri_exit ?_ | refine tri_thenr ?_ | refine tri_thene ?_ | refine tri_blkn ?_ | refine tri_blkr ?_ | refine tri_blke ?_ | refine tri_blko (by rfl) ?_ | refine tri_if_t (by rfl) ?_ | refine tri_if_f (by rfl) ?_ | fail))
  refine au_callC rfl rfl rfl rfl rfl (indexFunc_c w0 _ (l := l) (by repeat (first | assumption | exact rd_chunk (by first | (apply has_at; (repeat (first | exact at0 | apply atS)); done) | (repeat (first | assumption | apply has_cons))) | apply RdH.cons | refine RdH.cut ?_ rfl (by omega) (by omega))) (by omega) (hg.cons _)) (fun _ => ?_)
  cases ha : l.any p
  · have hi : idxM p l = -1 := by unfold idxM; rw [ha]; rfl
    rw [hi]
    (repeat (first | refine au_pure ?_ | refine au_pass ?_ | refine au_box (fun _ => ?_) | refine au_alloc (fun _ => ?_) | refine au_store ?_ | refine au_make rfl rfl (fun _ => ?_) | refine au_lit rfl rfl rfl (fun _ => ?_) | refine au_append rfl rfl rfl rfl (fun _ => au_norm ?_) | refine au_storeE rfl rfl rfl rfl ?_ | refine tri_seq ?_ | refine tri_then ?_ | refine tri_region ?_ | refine tri_nil ?_ | refine tri_skip ?_ | refine tri_ret ?_ | refine tri_exit ?_ | refine tri_thenr ?_ | refine tri_thene ?_ | refine tri_blkn ?_ | refine tri_blkr ?_ | refine tri_blke ?_ | refine tri_blko (by rfl) ?_ | refine tri_if_t (by rfl) ?_ | refine tri_if_f (by rfl) ?_ | fail))
    refine au_done1 rfl ?_
    intro w hw
    have hf : (l.filter fun x => !p x) = l := by
      rw [List.filter_eq_self]
      intro x hx
      rw [List.any_eq_false] at ha
      simpa using ha x hx
    exact ⟨r, rfl, by rw [hf]; exact hw⟩
  · obtain ⟨h1, h2⟩ := idxM_lt ha
    obtain ⟨k0, hk0⟩ : ∃ k0 : Nat, idxM p l = (k0 : Int) := ⟨(idxM p l).toNat, by omega⟩
    have hk1 : k0 < l.length := by omega
    have hk2 : p (l.getD k0 default) = true := by have := idxM_at ha; rwa [hk0] at this
    have hk3 : ∀ j, j < k0 → p (l.getD j default) = false := fun j hj => by
      have he : l.findIdx p = k0 := by
        have : idxM p l = (l.findIdx p : Int) := by unfold idxM; rw [ha]; rfl
        omega
      rw [getD_get (by omega)]
      have := List.not_of_lt_findIdx (p := p) (xs := l) (i := j) (by omega)
      simpa using this
    rw [hk0]
    (repeat' (first | refine au_pure ?_ | refine au_pass ?_ | refine au_box (fun _ => ?_) | refine au_alloc (fun _ => ?_) | refine au_store ?_ | refine au_make rfl rfl (fun _ => ?_) | refine au_lit rfl rfl rfl (fun _ => ?_) | refine au_append rfl rfl rfl rfl (fun _ => au_norm ?_) | refine au_storeE rfl rfl rfl rfl ?_ | refine tri_seq ?_ | refine tri_then ?_ | refine tri_region ?_ | refine tri_nil ?_ | refine tri_skip ?_ | refine tri_ret ?_ | refine tri_exit ?_ | refine tri_thenr ?_ | refine tri_thene ?_ | refine tri_blkn ?_ | refine tri_blkr ?_ | refine tri_blke ?_ | refine tri_blko (by rfl) ?_ | refine tri_if_t (by rfl) ?_ | refine tri_if_f (by rfl) ?_ | ((first | refine tri_cond (by rfl) (fun hc => ?_) (fun hc => ?_) | refine tri_gsplit (by rfl) (by rfl) (by (fail_if_success exact (rfl : _ = some (Value.bool true))); (fail_if_success exact (rfl : _ = some (Value.bool false))); rfl) (fun hc => ?_) (fun hc => ?_)) <;> (try simp only [decide_eq_true_eq, decide_eq_false_iff_not, beq_iff_eq, bne_iff_ne, ne_eq, Bool.not_eq_true', Bool.not_eq_false', beq_eq_false_iff_ne, bne_eq_false_iff_eq, Int.not_lt, Int.not_le, gt_iff_lt, ge_iff_le, Bool.and_eq_true, Bool.or_eq_true, Bool.and_eq_false_iff, Bool.or_eq_false_iff, Decidable.not_not, not_true_eq_false, not_false_eq_true, and_true, true_and, or_false, false_or, or_true, true_or, and_false, false_and, eq_self, Bool.true_eq_false, Bool.false_eq_true] at hc) <;> (try (exfalso; omega))) | fail))
    refine tri_block ?_
    refine tri_loop3 (fun i j m => i < j ∧ j ≤ l.length ∧ (m : List TE).length = l.length ∧ m.take i = (l.take j).filter (fun x => !p x) ∧ ∀ k, j ≤ k → m.getD k default = l.getD k default) (fun i j m => [(0, r.v), (1, .func (.func g) #[] capd.toArray), (5, .int .i64 (i : Int)), (6, .int .i64 (j : Int))])
      (fun i j m => Hp w0 (teS r m :: cs)) (fun i j m => l.length - j) k0 (k0 + 1) l ⟨by omega, by omega, rfl, ?_, fun _ _ => rfl⟩ (by repeat (first | exact trivial | refine ⟨rfl, ?_⟩)) (fun _ h => h) ?_
    · rw [filter_step _ hk1, hk2]
      simp only [Bool.not_true, Bool.false_eq_true, if_false, List.append_nil]
      symm
      rw [List.filter_eq_self]
      intro x hx
      obtain ⟨j, hj, rfl⟩ := List.getElem_of_mem hx
      have := hk3 j (by rw [List.length_take] at hj; omega)
      rw [getD_get (by rw [List.length_take] at hj; omega)] at this
      simp [List.getElem_take, this]
    rintro i j m ⟨h1, h2, h3, h4, h5⟩
    (repeat' (first | refine au_pure ?_ | refine au_pass ?_ | refine au_box (fun _ => ?_) | refine au_alloc (fun _ => ?_) | refine au_store ?_ | refine au_make rfl rfl (fun _ => ?_) | refine au_lit rfl rfl rfl (fun _ => ?_) | refine au_append rfl rfl rfl rfl (fun _ => au_norm ?_) | refine au_storeE rfl rfl rfl rfl ?_ | refine tri_seq ?_ | refine tri_then ?_ | refine tri_region ?_ | refine tri_nil ?_ | refine tri_skip ?_ | refine tri_ret ?_ | refine tri_exit ?_ | refine tri_thenr ?_ | refine tri_thene ?_ | refine tri_blkn ?_ | refine tri_blkr ?_ | refine tri_blke ?_ | refine tri_blko (by rfl) ?_ | refine tri_if_t (by rfl) ?_ | refine tri_if_f (by rfl) ?_ | ((first | refine tri_cond (by rfl) (fun hc => ?_) (fun hc => ?_) | refine tri_gsplit (by rfl) (by rfl) (by (fail_if_success exact (rfl : _ = some (Value.bool true))); (fail_if_success exact (rfl : _ = some (Value.bool false))); rfl) (fun hc => ?_) (fun hc => ?_)) <;> (try simp only [decide_eq_true_eq, decide_eq_false_iff_not, beq_iff_eq, bne_iff_ne, ne_eq, Bool.not_eq_true', Bool.not_eq_false', beq_eq_false_iff_ne, bne_eq_false_iff_eq, Int.not_lt, Int.not_le, gt_iff_lt, ge_iff_le, Bool.and_eq_true, Bool.or_eq_true, Bool.and_eq_false_iff, Bool.or_eq_false_iff, Decidable.not_not, not_true_eq_false, not_false_eq_true, and_true, true_and, or_false, false_or, or_true, true_or, and_false, false_and, eq_self, Bool.true_eq_false, Bool.false_eq_true] at hc) <;> (try (exfalso; omega))) | fail))
    · refine tri_block ?_
      have h6 : m.getD j default = l.getD j default := h5 j (Nat.le_refl _)
      have hmem : m.getD j default ∈ l := by rw [h6]; exact mem_getD' (by omega)
      (repeat (first | refine au_pure ?_ | refine au_pass ?_ | refine au_box (fun _ => ?_) | refine au_alloc (fun _ => ?_) | refine au_store ?_ | refine au_make rfl rfl (fun _ => ?_) | refine au_lit rfl rfl rfl (fun _ => ?_) | refine au_append rfl rfl rfl rfl (fun _ => au_norm ?_) | refine au_storeE rfl rfl rfl rfl ?_ | refine tri_seq ?_ | refine tri_then ?_ | refine tri_region ?_ | refine tri_nil ?_ | refine tri_skip ?_ | refine tri_ret ?_ | refine tri_exit ?_ | refine tri_thenr ?_ | refine tri_thene ?_ | refine tri_blkn ?_ | refine tri_blkr ?_ | refine tri_blke ?_ | refine tri_blko (by rfl) ?_ | refine tri_if_t (by rfl) ?_ | refine tri_if_f (by rfl) ?_ | fail))
      refine au_callC rfl rfl rfl rfl rfl (hg [_, _] (m.getD j default) hmem) (fun _ => ?_)
      (repeat' (first | refine au_pure ?_ | refine au_pass ?_ | refine au_box (fun _ => ?_) | refine au_alloc (fun _ => ?_) | refine au_store ?_ | refine au_make rfl rfl (fun _ => ?_) | refine au_lit rfl rfl rfl (fun _ => ?_) | refine au_append rfl rfl rfl rfl (fun _ => au_norm ?_) | refine au_storeE rfl rfl rfl rfl ?_ | refine tri_seq ?_ | refine tri_then ?_ | refine tri_region ?_ | refine tri_nil ?_ | refine tri_skip ?_ | refine tri_ret ?_ | refine tri_exit ?_ | refine tri_thenr ?_ | refine tri_thene ?_ | refine tri_blkn ?_ | refine tri_blkr ?_ | refine tri_blke ?_ | refine tri_blko (by rfl) ?_ | refine tri_if_t (by rfl) ?_ | refine tri_if_f (by rfl) ?_ | ((first | refine tri_cond (by rfl) (fun hc => ?_) (fun hc => ?_) | refine tri_gsplit (by rfl) (by rfl) (by (fail_if_success exact (rfl : _ = some (Value.bool true))); (fail_if_success exact (rfl : _ = some (Value.bool false))); rfl) (fun hc => ?_) (fun hc => ?_)) <;> (try simp only [decide_eq_true_eq, decide_eq_false_iff_not, beq_iff_eq, bne_iff_ne, ne_eq, Bool.not_eq_true', Bool.not_eq_false', beq_eq_false_iff_ne, bne_eq_false_iff_eq, Int.not_lt, Int.not_le, gt_iff_lt, ge_iff_le, Bool.and_eq_true, Bool.or_eq_true, Bool.and_eq_false_iff, Bool.or_eq_false_iff, Decidable.not_not, not_true_eq_false, not_false_eq_true, and_true, true_and, or_false, false_or, or_true, true_or, and_false, false_and, eq_self, Bool.true_eq_false, Bool.false_eq_true] at hc) <;> (try (exfalso; omega))) | fail))
      · have hp : p (m.getD j default) = false := by assumption
        refine tri_nx3 (i + 1) (j + 1) (m.set i (m.getD j default)) (by omega) ⟨by omega, by omega, by rw [List.length_set]; exact h3, ?_, fun k hk => ?_⟩ (by repeat (first | exact trivial | refine ⟨rfl, ?_⟩)) (fun _ h => h.sub (by repeat (first | exact List.Sublist.refl _ | assumption | apply List.Sublist.cons_cons | apply List.Sublist.cons)))
        · rw [filter_step _ (by omega), ← h4, ← h6, hp]
          rw [take_step (by rw [List.length_set]; omega), getD_set_self (by omega), List.take_set_of_le (Nat.le_refl _)]
          rfl
        · rw [getD_set k (by omega), if_neg (by omega)]
          exact h5 k (by omega)
      · have hp : p (m.getD j default) = true := by assumption
        refine tri_nx3 i (j + 1) m (by omega) ⟨by omega, by omega, h3, ?_, fun k hk => h5 k (by omega)⟩ (by repeat (first | exact trivial | refine ⟨rfl, ?_⟩)) (fun _ h => h.sub (by repeat (first | exact List.Sublist.refl _ | assumption | apply List.Sublist.cons_cons | apply List.Sublist.cons)))
        rw [filter_step _ (by omega), ← h4, ← h6, hp]
        simp
    · have hj : j = l.length := by omega
      subst hj
      rw [List.take_length] at h4
      (repeat (first | refine au_pure ?_ | refine au_pass ?_ | refine au_box (fun _ => ?_) | refine au_alloc (fun _ => ?_) | refine au_store ?_ | refine au_make rfl rfl (fun _ => ?_) | refine au_lit rfl rfl rfl (fun _ => ?_) | refine au_append rfl rfl rfl rfl (fun _ => au_norm ?_) | refine au_storeE rfl rfl rfl rfl ?_ | refine tri_seq ?_ | refine tri_then ?_ | refine tri_region ?_ | refine tri_nil ?_ | refine tri_skip ?_ | refine tri_ret ?_ | refine tri_exit ?_ | refine tri_thenr ?_ | refine tri_thene ?_ | refine tri_blkn ?_ | refine tri_blkr ?_ | refine tri_blke ?_ | refine tri_blko (by rfl) ?_ | refine tri_if_t (by rfl) ?_ | refine tri_if_f (by rfl) ?_ | fail))
      have hl' : (m.take i ++ List.replicate (m.length - i) (default : TE)).length = m.length := by simp; omega
      refine tri_clear rfl (by first | exact wan_plain rfl | exact wan_yes rfl rfl rfl) rfl rfl (by repeat (first | exact at0 | apply atS)) rfl rfl (by omega) (by repeat (first | exact nf0 rfl | apply nfS rfl | exact nfR)) ?_
      (repeat (first | refine au_pure ?_ | refine au_pass ?_ | refine au_box (fun _ => ?_) | refine au_alloc (fun _ => ?_) | refine au_store ?_ | refine au_make rfl rfl (fun _ => ?_) | refine au_lit rfl rfl rfl (fun _ => ?_) | refine au_append rfl rfl rfl rfl (fun _ => au_norm ?_) | refine au_storeE rfl rfl rfl rfl ?_ | refine tri_seq ?_ | refine tri_then ?_ | refine tri_region ?_ | refine tri_nil ?_ | refine tri_skip ?_ | refine tri_ret ?_ | refine tri_exit ?_ | refine tri_thenr ?_ | refine tri_thene ?_ | refine tri_blkn ?_ | refine tri_blkr ?_ | refine tri_blke ?_ | refine tri_blko (by rfl) ?_ | refine tri_if_t (by rfl) ?_ | refine tri_if_f (by rfl) ?_ | fail))
      refine tri_recut (a := 0) (b := i) at0 (by omega) (by simp; omega) (by repeat (first | exact nf0 rfl | apply nfS rfl | exact nfR)) ?_
      refine au_done1 rfl ?_
      intro w hw
      refine ⟨r.cut 0 i 3, rfl, ?_⟩
      have e : ((m.take i ++ List.replicate (m.length - i) default).take i).drop 0 = l.filter fun x => !p x := by
        rw [List.drop_zero, List.take_append_of_le_length (by simp; omega), List.take_take, Nat.min_self, h4]
      rw [← e]
      exact hw
end Go.Proofs.YtbgjelhefhcnpaaGreat

/- A region that draws its order, taken in the order of its text: what reads is taken first, what makes new rows or calls comes up alone. No conditions. -/
set_option linter.unusedSimpArgs false
set_option linter.unusedVariables false
namespace Go.Proofs.YtbgjelhefhcnpaaGreat
open Go Go.RowKit
section
variable {M : List Nat} {P : Program} {n d : Nat} {Q : Exit → Act → World → Prop} {F : Act → World → Prop} {l : List Oper} {o : Oper} {E : Env} {w0 : World} {cs cs0 : List Chunk} {v : Value} {fuel : Nat} {listed : Array Bool}
theorem ap_held [Dl] {id : Nat} (hm : P.follows .mixedOrders = true) (k : TH P n l (HpM M w0 cs) l.length (Array.replicate l.length false) (Q .normal) E (HpM M w0 cs)) : Tri n ((Code.region id l.toArray true).wp P Q) E (HpM M w0 cs) := tri_held _ hm k
theorem ap_take [Dl] (i : Nat) (hi : l[i]? = some o) (hd : o.dst = some d) (hn : Nat.blt d n = true) (k : TH P n l (HpM M w0 cs0) fuel (listed.setIfInBounds i true) F ((d, v) :: E) (HpM M w0 cs)) (hns : Region.noSelect l.toArray = true := by kernel_rfl) (hf : Region.free .any l.toArray listed i = true := by kernel_rfl) (hr : (Region.ready .any l.toArray listed).contains i = true := by kernel_rfl)
    (hs : cs0.Sublist cs := by repeat (first | exact List.Sublist.refl _ | assumption | apply List.Sublist.cons_cons | apply List.Sublist.cons)) (hw : Wan l n o E true := by first | exact wan_plain rfl | exact wan_yes rfl rfl rfl) (hy : Yl P n o E (HpM M w0 cs0) v := by first | exact yl_mv rfl rfl | exact yl_field rfl rfl | exact yl_load rfl rfl (by first | (apply has_at; (repeat (first | exact at0 | apply atS)); done) | (repeat (first | assumption | apply has_cons))) rfl | exact yl_addn rfl rfl rfl (by omega) | exact yl_subn rfl rfl rfl (by omega) | exact yl_int2 rfl rfl rfl rfl | exact yl_pick_t rfl rfl rfl | exact yl_pick_f rfl rfl rfl | exact yl_not rfl rfl | exact yl_ext rfl rfl rfl | exact yl_loadN rfl rfl (by first | (apply has_at; (repeat (first | exact at0 | apply atS)); done) | (repeat (first | assumption | apply has_cons))) (by repeat (first | exact nf0 rfl | apply nfS rfl | exact nfR)) (by rfl) | exact yl_build rfl rfl rfl (by repeat (first | exact nf0 rfl | apply nfS rfl | exact nfR)) | exact yl_shl rfl rfl rfl (by decide) | exact yl_shr rfl rfl rfl (by decide) | exact yl_convn rfl rfl (by omega) | exact yl_conv rfl rfl | exact yl_remn rfl rfl rfl (by omega) | exact yl_quon rfl rfl rfl (by omega) | exact yl_eqs rfl rfl rfl | exact yl_neqs rfl rfl rfl | exact yl_eqlb rfl rfl rfl | exact yl_neqb rfl rfl rfl | exact yl_neg rfl rfl | exact yl_len rfl rfl (by repeat (first | assumption | exact rd_chunk (by first | (apply has_at; (repeat (first | exact at0 | apply atS)); done) | (repeat (first | assumption | apply has_cons))) | apply RdH.cons | refine RdH.cut ?_ rfl (by omega) (by omega))) | exact yl_idx rfl rfl (by repeat (first | assumption | exact rd_chunk (by first | (apply has_at; (repeat (first | exact at0 | apply atS)); done) | (repeat (first | assumption | apply has_cons))) | apply RdH.cons | refine RdH.cut ?_ rfl (by omega) (by omega))) (by first | exact ix_nat rfl | exact ix_int rfl (by omega)) (by rfl) (by first | assumption | omega | decide | (simp only [List.length_set, List.length_append, List.length_replicate, List.length_cons, List.length_nil, List.length_drop, List.length_take] at *; omega)) | exact yl_fieldE rfl rfl | exact yl_loadE rfl rfl (by repeat (first | assumption | exact rd_chunk (by first | (apply has_at; (repeat (first | exact at0 | apply atS)); done) | (repeat (first | assumption | apply has_cons))) | apply RdH.cons | refine RdH.cut ?_ rfl (by omega) (by omega))) (by rfl) (by first | assumption | omega | decide | (simp only [List.length_set, List.length_append, List.length_replicate, List.length_cons, List.length_nil, List.length_drop, List.length_take] at *; omega)) (by rfl) | exact yl_loadEN rfl rfl (by repeat (first | assumption | exact rd_chunk (by first | (apply has_at; (repeat (first | exact at0 | apply atS)); done) | (repeat (first | assumption | apply has_cons))) | apply RdH.cons | refine RdH.cut ?_ rfl (by omega) (by omega))) (by rfl) (by first | assumption | omega | decide | (simp only [List.length_set, List.length_append, List.length_replicate, List.length_cons, List.length_nil, List.length_drop, List.length_take] at *; omega)) (by repeat (first | exact nf0 rfl | apply nfS rfl | exact nfR)) (by rfl) | exact yl_nilchk rfl rfl | exact yl_nilchkE rfl rfl | exact yl_eqnil rfl rfl rfl (by repeat (first | assumption | exact rd_chunk (by first | (apply has_at; (repeat (first | exact at0 | apply atS)); done) | (repeat (first | assumption | apply has_cons))) | apply RdH.cons | refine RdH.cut ?_ rfl (by omega) (by omega))) | exact yl_neqnil rfl rfl rfl (by repeat (first | assumption | exact rd_chunk (by first | (apply has_at; (repeat (first | exact at0 | apply atS)); done) | (repeat (first | assumption | apply has_cons))) | apply RdH.cons | refine RdH.cut ?_ rfl (by omega) (by omega))) | exact yl_cut rfl rfl (by repeat (first | assumption | exact rd_chunk (by first | (apply has_at; (repeat (first | exact at0 | apply atS)); done) | (repeat (first | assumption | apply has_cons))) | apply RdH.cons | refine RdH.cut ?_ rfl (by omega) (by omega))) (by first | exact ixo_none | exact ixo_some (by first | exact ix_nat rfl | exact ix_int rfl (by omega))) (by first | exact ixo_none | exact ixo_some (by first | exact ix_nat rfl | exact ix_int rfl (by omega))) (by omega) (by omega) | exact yl_func rfl rfl) : TH P n l (HpM M w0 cs0) (fuel + 1) listed F E (HpM M w0 cs) :=
  th_take i hi hd hn hns hf hr (fun _ h => h.sub hs) k hw hy
theorem ap_pass [Dl] (i : Nat) (hi : l[i]? = some o) (hd : o.dst = some d) (hn : Nat.blt d n = true) (k : TH P n l (HpM M w0 cs0) fuel (listed.setIfInBounds i true) F ((d, undef) :: E) (HpM M w0 cs)) (hns : Region.noSelect l.toArray = true := by kernel_rfl) (hf : Region.free .any l.toArray listed i = true := by kernel_rfl) (hr : (Region.ready .any l.toArray listed).contains i = true := by kernel_rfl)
    (hs : cs0.Sublist cs := by repeat (first | exact List.Sublist.refl _ | assumption | apply List.Sublist.cons_cons | apply List.Sublist.cons)) (hw : Wan l n o E false := by first | exact wan_no rfl rfl rfl | exact wan_un rfl rfl rfl) : TH P n l (HpM M w0 cs0) (fuel + 1) listed F E (HpM M w0 cs) := fun a w h1 h2 => by
  refine wpAnyH_take (by simpa using hi) hns hf hr (fun _ _ _ h => h.elim) (.inr ⟨hw a h1, rfl⟩) (h2.sub hs) ?_
  rw [hd]
  exact k _ _ (h1.put hn undef) h2
theorem ap_op [Dl] (i : Nat) (hi : l[i]? = some o) (k : Tri n (wpList P l.toArray (Exit.then (fun a w => HpM M w0 cs0 w ∧ wpAnyH P .any l.toArray (Exit.then F NoQ) (HpM M w0 cs0) fuel (listed.setIfInBounds i true) a w) NoQ) [o]) E (HpM M w0 cs)) (hr : Region.ready .any l.toArray listed = [i] := by kernel_rfl) :
    TH P n l (HpM M w0 cs0) (fuel + 1) listed F E (HpM M w0 cs) := th_op i hi hr k
theorem ap_in [Dl] (k : TH P n l (HpM M w0 cs0) fuel listed F E (HpM M w0 cs)) (hs : cs0.Sublist cs := by repeat (first | exact List.Sublist.refl _ | assumption | apply List.Sublist.cons_cons | apply List.Sublist.cons)) :
    Tri n (Exit.then (fun a w => HpM M w0 cs0 w ∧ wpAnyH P .any l.toArray (Exit.then F NoQ) (HpM M w0 cs0) fuel listed a w) NoQ .normal) E (HpM M w0 cs) := th_in (fun _ h => h.sub hs) k
theorem ap_done [Dl] (k : Tri n F E (HpM M w0 cs)) (hr : Region.ready .any l.toArray listed = [] := by kernel_rfl) : TH P n l (HpM M w0 cs0) fuel listed F E (HpM M w0 cs) := th_done hr k
end
end Go.Proofs.YtbgjelhefhcnpaaGreat
