/- Texts joined: Seq, TlbCheck. Each part's own remark says what it proves. -/
import Derived.Test.YtojfaelafakemaaM05
import Derived.Test.YtojfaelafakemaaM10
/- A region that draws its order, taken in the order of its text: what reads is taken first, what makes new rows or calls comes up alone. No conditions. -/
set_option linter.unusedSimpArgs false
set_option linter.unusedVariables false
namespace Go.Proofs.Ytojfaelafakemaa
open Go Go.RowKit
section
variable {M : List Nat} {P : Program} {n d : Nat} {Q : Exit → Act → World → Prop} {F : Act → World → Prop} {l : List Oper} {o : Oper} {E : Env} {w0 : World} {cs cs0 : List Chunk} {v : Value} {fuel : Nat} {listed : Array Bool}
theorem ap_held [Dl] {id : Nat} (hm : P.follows .mixedOrders = true) (k : TH P n l (HpM M w0 cs) l.length (Array.replicate l.length false) (Q .normal) E (HpM M w0 cs)) : Tri n ((Code.region id l.toArray true).wp P Q) E (HpM M w0 cs) := tri_held _ hm k
theorem ap_take [Dl] (i : Nat) (hi : l[i]? = some o) (hd : o.dst = some d) (hn : Nat.blt d n = true) (k : TH P n l (HpM M w0 cs0) fuel (listed.setIfInBounds i true) F ((d, v) :: E) (HpM M w0 cs)) (hns : Region.noSelect l.toArray = true := by kernel_rfl) (hf : Region.free .any l.toArray listed i = true := by kernel_rfl) (hr : (Region.ready .any l.toArray listed).contains i = true := by kernel_rfl)
    (hs : cs0.Sublist cs := by repeat (first | exact List.Sublist.refl _ | assumption | apply List.Sublist.cons_cons | apply List.Sublist.cons)) (hw : Wan l n o E true := by first | exact wan_plain rfl | exact wan_yes rfl rfl rfl) (hy : Yl P n o E (HpM M w0 cs0) v := by first | exact yl_mv rfl rfl | exact yl_field rfl rfl | exact yl_load rfl rfl (by first | (apply has_at; (repeat (first | exact at0 | apply atS)); done) | (repeat (first | assumption | apply has_cons))) rfl | exact yl_addn rfl rfl rfl (by omega) | exact yl_subn rfl rfl rfl (by omega) | exact yl_int2 rfl rfl rfl rfl | exact yl_pick_t rfl rfl rfl | exact yl_pick_f rfl rfl rfl | exact yl_not rfl rfl | exact yl_ext rfl rfl rfl | exact yl_loadN rfl rfl (by first | (apply has_at; (repeat (first | exact at0 | apply atS)); done) | (repeat (first | assumption | apply has_cons))) (by repeat (first | exact nf0 rfl | apply nfS rfl | exact nfR)) (by rfl) | exact yl_build rfl rfl rfl (by repeat (first | exact nf0 rfl | apply nfS rfl | exact nfR)) | exact yl_shl rfl rfl rfl (by decide) | exact yl_shr rfl rfl rfl (by decide) | exact yl_convn rfl rfl (by omega) | exact yl_conv rfl rfl | exact yl_remn rfl rfl rfl (by omega) | exact yl_quon rfl rfl rfl (by omega) | exact yl_eqs rfl rfl rfl | exact yl_neqs rfl rfl rfl | exact yl_eqlb rfl rfl rfl | exact yl_neqb rfl rfl rfl | exact yl_neg rfl rfl | exact yl_len rfl rfl (by repeat (first | assumption | exact rd_chunk (by first | (apply has_at; (repeat (first | exact at0 | apply atS)); done) | (repeat (first | assumption | apply has_cons))) | apply RdH.cons | refine RdH.cut ?_ rfl (by omega) (by omega))) | exact yl_idx rfl rfl (by repeat (first | assumption | exact rd_chunk (by first | (apply has_at; (repeat (first | exact at0 | apply atS)); done) | (repeat (first | assumption | apply has_cons))) | apply RdH.cons | refine RdH.cut ?_ rfl (by omega) (by omega))) (by first | exact ix_nat rfl | exact ix_int rfl (by omega)) (by rfl) (by first | assumption | omega | decide | (simp only [List.length_set, List.length_append, List.length_replicate, List.length_cons, List.length_nil, List.length_drop, List.length_take] at *; omega)) | exact yl_fieldE rfl rfl | exact yl_loadE rfl rfl (by repeat (first | assumption | exact rd_chunk (by first | (apply has_at; (repeat (first | exact at0 | apply atS)); done) | (repeat (first | assumption | apply has_cons))) | apply RdH.cons | refine RdH.cut ?_ rfl (by omega) (by omega))) (by rfl) (by first | assumption | omega | decide | (simp only [List.length_set, List.length_append, List.length_replicate, List.length_cons, List.length_nil, List.length_drop, List.length_take] at *; omega)) (by rfl) | exact yl_loadEN rfl rfl (by repeat (first | assumption | exact rd_chunk (by first | (apply has_at; (repeat (first | exact at0 | apply atS)); done) | (repeat (first | assumption | apply has_cons))) | apply RdH.cons | refine RdH.cut ?_ rfl (by omega) (by omega))) (by rfl) (by first | assumption | omega | decide | (simp only [List.length_set, List.length_append, List.length_replicate, List.length_cons, List.length_nil, List.length_drop, List.length_take] at *; omega)) (by repeat (first | exact nf0 rfl | apply nfS rfl | exact nfR)) (by rfl) | exact yl_nilchk rfl rfl | exact yl_nilchkE rfl rfl | exact yl_eqnil rfl rfl rfl (by repeat (first | assumption | exact rd_chunk (by first | (apply has_at; (repeat (first | exact at0 | apply atS)); done) | (repeat (first | assumption | apply has_cons))) | apply RdH.cons | refine RdH.cut ?_ rfl (by omega) (by omega))) | exact yl_neqnil rfl rfl rfl (by repeat (first | assumption | exact rd_chunk (by first | (apply has_at; (repeat (first | exact at0 | apply atS)); done) | (repeat (first | assumption | apply has_cons))) | apply RdH.cons | refine RdH.cut ?_ rfl (by omega) (by omega))) | exact yl_cut rfl rfl (by repeat (first | assumption | exact rd_chunk (by first | (apply has_at; (repeat (first | exact at0 | apply atS)); done) | (repeat (first | assumption | apply has_cons))) | apply RdH.cons | refine RdH.cut ?_ rfl (by omega) (by omega))) (by first | exact ixo_none | exact ixo_some (by first | exact ix_nat rfl | exact ix_int rfl (by omega))) (by first | exact ixo_none | exact ixo_some (by first | exact ix_nat rfl | exact ix_int rfl (by omega))) (by omega) (by omega) | exact yl_func rfl rfl) : TH P n l (HpM M w0 cs0) (fuel + 1) listed F E (HpM M w0 cs) :=
  th_take i hi hd hn hns hf hr (fun _ h => h.sub hs) k hw hy
theorem ap_pass [Dl] (i : Nat) (hi : l[i]? = some o) (hd : o.dst = some d) (hn : Nat.blt d n = true) (k : TH P n l (HpM M w0 cs0) fuel (listed.setIfInBounds i true) F ((d, undef) :: E) (HpM M w0 cs)) (hns : Region.noSelect l.toArray = true := by kernel_rfl) (hf : Region.free .any l.toArray listed i = true := by kernel_rfl) (hr : (Region.ready .any l.toArray listed).contains i = true := by kernel_rfl)
    (hs : cs0.Sublist cs := by repeat (first | exact List.Sublist.refl _ | assumption | apply List.Sublist.cons_cons | apply List.Sublist.cons)) (hw : Wan l n o E false := by first | exact wan_no rfl rfl rfl | exact wan_un rfl rfl rfl) : TH P n l (HpM M w0 cs0) (fuel + 1) listed F E (HpM M w0 cs) := fun a w h1 h2 => by
  refine wpAnyH_take (by simpa using hi) hns hf hr (fun _ _ _ h => h.elim) (.inr ⟨hw a h1, rfl⟩) (h2.sub hs) ?_
  rw [hd]
  exact k _ _ (h1.put hn undef) h2
theorem ap_op [Dl] (i : Nat) (hi : l[i]? = some o) (k : Tri n (wpList P l.toArray (Exit.then (fun a w => HpM M w0 cs0 w ∧ wpAnyH P .any l.toArray (Exit.then F NoQ) (HpM M w0 cs0) fuel (listed.setIfInBounds i true) a w) NoQ) [o]) E (HpM M w0 cs)) (hr : Region.ready .any l.toArray listed = [i] := by kernel_rfl) :
    TH P n l (HpM M w0 cs0) (fuel + 1) listed F E (HpM M w0 cs) := th_op i hi hr k
theorem ap_in [Dl] (k : TH P n l (HpM M w0 cs0) fuel listed F E (HpM M w0 cs)) (hs : cs0.Sublist cs := by repeat (first | exact List.Sublist.refl _ | assumption | apply List.Sublist.cons_cons | apply List.Sublist.cons)) :
    Tri n (Exit.then (fun a w => HpM M w0 cs0 w ∧ wpAnyH P .any l.toArray (Exit.then F NoQ) (HpM M w0 cs0) fuel listed a w) NoQ .normal) E (HpM M w0 cs) := th_in (fun _ h => h.sub hs) k
theorem ap_done [Dl] (k : Tri n F E (HpM M w0 cs)) (hr : Region.ready .any l.toArray listed = [] := by kernel_rfl) : TH P n l (HpM M w0 cs0) fuel listed F E (HpM M w0 cs) := th_done hr k
end
end Go.Proofs.Ytojfaelafakemaa

/- The walks of package tlb and its reference: Check, and what Fill, Invalidate and Flush leave. No conditions. -/
set_option linter.unusedSimpArgs false
set_option linter.unusedVariables false
namespace Go.Proofs.Ytojfaelafakemaa
open Go Go.RowKit
attribute [local irreducible] Code.wp wpList bodyPost Exit.then Exit.inBlock Calls wpQuiet Tri TriQ
abbrev teC (g : Nat) (x : TE) : Chunk := blkC g 71 [.int .i64 x.s, .int .i64 x.p, .int .u64 x.w]
abbrev tlbV (z : Int) (v : Value) : Value := .agg #[.int .i64 z, v]
abbrev tlbC (g : Nat) (z : Int) (v : Value) : Chunk := blkC g 52 [.int .i64 z, v]
theorem Vd.wf {x : TE} (h : Vd x) (hx : 0 ≤ x.w ∧ x.w < 18446744073709551616) : Wf x := ⟨by have := h.s; omega, by have := h.p; omega, hx⟩
section
variable (w0 : World) (cs : List Chunk)
theorem checkf_c {g : Nat} {x : TE} {l : List TE} (hi : Has cs (teC g x)) (hx : Wf x) (bx : x.p ≤ 4611686018427387904) (hl : ∀ y ∈ l, Wf y ∧ y.p ≤ 4611686018427387904) : Tst w0 cs 66 [.pointer (some ⟨g, 0, none⟩)] (ovM x) l := fun ds y hy => by
  have hi' : Has (ds ++ cs) (teC g x) := has_app hi
  show Cal _ _ [teV y, .pointer (some ⟨g, 0, none⟩)] _ _ _
  refine cal_of_tri Try.func66 rfl Try.ntmps66 rfl ?_
  (repeat (first | refine au_pure ?_ | refine au_pass ?_ | refine au_box (fun _ => ?_) | refine au_alloc (fun _ => ?_) | refine au_store ?_ | refine au_make rfl rfl (fun _ => ?_) | refine au_lit rfl rfl rfl (fun _ => ?_) | refine au_append rfl rfl rfl rfl (fun _ => au_norm ?_) | refine au_storeE rfl rfl rfl rfl ?_ | refine tri_seq ?_ | refine tri_then ?_ | refine tri_region ?_ | refine tri_nil ?_ | refine tri_skip ?_ | refine tri_ret ?_ | refine tri_exit ?_ | refine tri_thenr ?_ | refine tri_thene ?_ | refine tri_blkn ?_ | refine tri_blkr ?_ | refine tri_blke ?_ | refine tri_blko (by rfl) ?_ | refine tri_if_t (by rfl) ?_ | refine tri_if_f (by rfl) ?_ | fail))
  refine au_call rfl rfl (cl_of rfl rfl rfl (fun _ h => Ret.hp (overlap_any x y _ hx (hl y hy).1 bx (hl y hy).2) h)) ?_
  (repeat (first | refine au_pure ?_ | refine au_pass ?_ | refine au_box (fun _ => ?_) | refine au_alloc (fun _ => ?_) | refine au_store ?_ | refine au_make rfl rfl (fun _ => ?_) | refine au_lit rfl rfl rfl (fun _ => ?_) | refine au_append rfl rfl rfl rfl (fun _ => au_norm ?_) | refine au_storeE rfl rfl rfl rfl ?_ | refine tri_seq ?_ | refine tri_then ?_ | refine tri_region ?_ | refine tri_nil ?_ | refine tri_skip ?_ | refine tri_ret ?_ | refine tri_exit ?_ | refine tri_thenr ?_ | refine tri_thene ?_ | refine tri_blkn ?_ | refine tri_blkr ?_ | refine tri_blke ?_ | refine tri_blko (by rfl) ?_ | refine tri_if_t (by rfl) ?_ | refine tri_if_f (by rfl) ?_ | fail))
  refine au_done1 rfl ?_
  intro w hw; exact ⟨(), rfl, hw.sub (by repeat (first | exact List.Sublist.refl _ | assumption | apply List.Sublist.cons_cons | apply List.Sublist.cons))⟩
theorem fillf_c {g : Nat} {x : TE} {l : List TE} (hi : Has cs (teC g x)) (hx : Wf x) (bx : x.p ≤ 4611686018427387904) (hl : ∀ y ∈ l, Wf y ∧ y.p ≤ 4611686018427387904) : Tst w0 cs 72 [.pointer (some ⟨g, 0, none⟩)] (ovM x) l := fun ds y hy => by
  have hi' : Has (ds ++ cs) (teC g x) := has_app hi
  show Cal _ _ [teV y, .pointer (some ⟨g, 0, none⟩)] _ _ _
  refine cal_of_tri Try.func72 rfl Try.ntmps72 rfl ?_
  (repeat (first | refine au_pure ?_ | refine au_pass ?_ | refine au_box (fun _ => ?_) | refine au_alloc (fun _ => ?_) | refine au_store ?_ | refine au_make rfl rfl (fun _ => ?_) | refine au_lit rfl rfl rfl (fun _ => ?_) | refine au_append rfl rfl rfl rfl (fun _ => au_norm ?_) | refine au_storeE rfl rfl rfl rfl ?_ | refine tri_seq ?_ | refine tri_then ?_ | refine tri_region ?_ | refine tri_nil ?_ | refine tri_skip ?_ | refine tri_ret ?_ | refine tri_exit ?_ | refine tri_thenr ?_ | refine tri_thene ?_ | refine tri_blkn ?_ | refine tri_blkr ?_ | refine tri_blke ?_ | refine tri_blko (by rfl) ?_ | refine tri_if_t (by rfl) ?_ | refine tri_if_f (by rfl) ?_ | fail))
  refine au_call rfl rfl (cl_of rfl rfl rfl (fun _ h => Ret.hp (overlap_any x y _ hx (hl y hy).1 bx (hl y hy).2) h)) ?_
  (repeat (first | refine au_pure ?_ | refine au_pass ?_ | refine au_box (fun _ => ?_) | refine au_alloc (fun _ => ?_) | refine au_store ?_ | refine au_make rfl rfl (fun _ => ?_) | refine au_lit rfl rfl rfl (fun _ => ?_) | refine au_append rfl rfl rfl rfl (fun _ => au_norm ?_) | refine au_storeE rfl rfl rfl rfl ?_ | refine tri_seq ?_ | refine tri_then ?_ | refine tri_region ?_ | refine tri_nil ?_ | refine tri_skip ?_ | refine tri_ret ?_ | refine tri_exit ?_ | refine tri_thenr ?_ | refine tri_thene ?_ | refine tri_blkn ?_ | refine tri_blkr ?_ | refine tri_blke ?_ | refine tri_blko (by rfl) ?_ | refine tri_if_t (by rfl) ?_ | refine tri_if_f (by rfl) ?_ | fail))
  refine au_done1 rfl ?_
  intro w hw; exact ⟨(), rfl, hw.sub (by repeat (first | exact List.Sublist.refl _ | assumption | apply List.Sublist.cons_cons | apply List.Sublist.cons))⟩
theorem invf_c {g g' : Nat} {s p : Int} {l : List TE} (hi : Has cs (blkC g 3 [.int .i64 s])) (hj : Has cs (blkC g' 3 [.int .i64 p])) (hl : ∀ y ∈ l, Wf y ∧ y.p ≤ 4611686018427387904) : Tst w0 cs 61 [.pointer (some ⟨g, 0, none⟩), .pointer (some ⟨g', 0, none⟩)] (fun y => covM y s p) l := fun ds y hy => by
  have hi' : Has (ds ++ cs) (blkC g 3 [.int .i64 s]) := has_app hi
  have hj' : Has (ds ++ cs) (blkC g' 3 [.int .i64 p]) := has_app hj
  show Cal _ _ [teV y, .pointer (some ⟨g, 0, none⟩), .pointer (some ⟨g', 0, none⟩)] _ _ _
  refine cal_of_tri Try.func61 rfl Try.ntmps61 rfl ?_
  (repeat (first | refine au_pure ?_ | refine au_pass ?_ | refine au_box (fun _ => ?_) | refine au_alloc (fun _ => ?_) | refine au_store ?_ | refine au_make rfl rfl (fun _ => ?_) | refine au_lit rfl rfl rfl (fun _ => ?_) | refine au_append rfl rfl rfl rfl (fun _ => au_norm ?_) | refine au_storeE rfl rfl rfl rfl ?_ | refine tri_seq ?_ | refine tri_then ?_ | refine tri_region ?_ | refine tri_nil ?_ | refine tri_skip ?_ | refine tri_ret ?_ | refine tri_exit ?_ | refine tri_thenr ?_ | refine tri_thene ?_ | refine tri_blkn ?_ | refine tri_blkr ?_ | refine tri_blke ?_ | refine tri_blko (by rfl) ?_ | refine tri_if_t (by rfl) ?_ | refine tri_if_f (by rfl) ?_ | fail))
  refine au_call rfl rfl (cl_of rfl rfl rfl (fun _ h => Ret.hp (covers_any y s p _ (hl y hy).1 (hl y hy).2) h)) ?_
  (repeat (first | refine au_pure ?_ | refine au_pass ?_ | refine au_box (fun _ => ?_) | refine au_alloc (fun _ => ?_) | refine au_store ?_ | refine au_make rfl rfl (fun _ => ?_) | refine au_lit rfl rfl rfl (fun _ => ?_) | refine au_append rfl rfl rfl rfl (fun _ => au_norm ?_) | refine au_storeE rfl rfl rfl rfl ?_ | refine tri_seq ?_ | refine tri_then ?_ | refine tri_region ?_ | refine tri_nil ?_ | refine tri_skip ?_ | refine tri_ret ?_ | refine tri_exit ?_ | refine tri_thenr ?_ | refine tri_thene ?_ | refine tri_blkn ?_ | refine tri_blkr ?_ | refine tri_blke ?_ | refine tri_blko (by rfl) ?_ | refine tri_if_t (by rfl) ?_ | refine tri_if_f (by rfl) ?_ | fail))
  refine au_done1 rfl ?_
  intro w hw; exact ⟨(), rfl, hw.sub (by repeat (first | exact List.Sublist.refl _ | assumption | apply List.Sublist.cons_cons | apply List.Sublist.cons))⟩
theorem any_drop0 (l : List TE) (k : Nat) (p : TE → Bool) : ((l.take k).drop 0).any p = (l.take k).any p := by rw [List.drop_zero]
set_option maxHeartbeats 2000000 in
theorem check_c {z : Int} {v : Value} {l : List TE} (hR : RdH (Hp w0 cs) v l) (hlen : l.length ≤ 9223372036854775807) (hw : ∀ x ∈ l, Wf x) :
    Cal Try.prog 34 [tlbV z v] (Hp w0 cs) (fun _ : Unit => .int .i64 (checkM z l)) (fun _ => Hp w0 cs) := by
  refine cal_of_tri Try.func34 rfl Try.ntmps34 rfl ?_
  (repeat (first | refine au_pure ?_ | refine au_pass ?_ | refine au_box (fun _ => ?_) | refine au_alloc (fun _ => ?_) | refine au_store ?_ | refine au_make rfl rfl (fun _ => ?_) | refine au_lit rfl rfl rfl (fun _ => ?_) | refine au_append rfl rfl rfl rfl (fun _ => au_norm ?_) | refine au_storeE rfl rfl rfl rfl ?_ | refine tri_seq ?_ | refine tri_then ?_ | refine tri_region ?_ | refine tri_nil ?_ | refine tri_skip ?_ | refine tri_ret ?_ | refine tri_exit ?_ | refine tri_thenr ?_ | refine tri_thene ?_ | refine tri_blkn ?_ | refine tri_blkr ?_ | refine tri_blke ?_ | refine tri_blko (by rfl) ?_ | refine tri_if_t (by rfl) ?_ | refine tri_if_f (by rfl) ?_ | fail))
  rename_i g1
  (repeat' (first | refine au_pure ?_ | refine au_pass ?_ | refine au_box (fun _ => ?_) | refine au_alloc (fun _ => ?_) | refine au_store ?_ | refine au_make rfl rfl (fun _ => ?_) | refine au_lit rfl rfl rfl (fun _ => ?_) | refine au_append rfl rfl rfl rfl (fun _ => au_norm ?_) | refine au_storeE rfl rfl rfl rfl ?_ | refine tri_seq ?_ | refine tri_then ?_ | refine tri_region ?_ | refine tri_nil ?_ | refine tri_skip ?_ | refine tri_ret ?_ | refine tri_exit ?_ | refine tri_thenr ?_ | refine tri_thene ?_ | refine tri_blkn ?_ | refine tri_blkr ?_ | refine tri_blke ?_ | refine tri_blko (by rfl) ?_ | refine tri_if_t (by rfl) ?_ | refine tri_if_f (by rfl) ?_ | ((first | refine tri_cond (by rfl) (fun hc => ?_) (fun hc => ?_) | refine tri_gsplit (by rfl) (by rfl) (by (fail_if_success exact (rfl : _ = some (Value.bool true))); (fail_if_success exact (rfl : _ = some (Value.bool false))); rfl) (fun hc => ?_) (fun hc => ?_)) <;> (try simp only [decide_eq_true_eq, decide_eq_false_iff_not, beq_iff_eq, bne_iff_ne, ne_eq, Bool.not_eq_true', Bool.not_eq_false', beq_eq_false_iff_ne, bne_eq_false_iff_eq, Int.not_lt, Int.not_le, gt_iff_lt, ge_iff_le, Bool.and_eq_true, Bool.or_eq_true, Bool.and_eq_false_iff, Bool.or_eq_false_iff, Decidable.not_not, not_true_eq_false, not_false_eq_true, and_true, true_and, or_false, false_or, or_true, true_or, and_false, false_and, eq_self, Bool.true_eq_false, Bool.false_eq_true] at hc) <;> (try (exfalso; omega))) | fail))
  · refine au_done1 rfl ?_
    intro w hw; refine ⟨(), ?_, hw.sub (by repeat (first | exact List.Sublist.refl _ | assumption | apply List.Sublist.cons_cons | apply List.Sublist.cons))⟩
    rw [checkM, if_pos (by omega)]
  · refine au_done1 rfl ?_
    intro w hw; refine ⟨(), ?_, hw.sub (by repeat (first | exact List.Sublist.refl _ | assumption | apply List.Sublist.cons_cons | apply List.Sublist.cons))⟩
    rw [checkM, if_pos (by omega)]
  · refine au_done1 rfl ?_
    intro w hw; refine ⟨(), ?_, hw.sub (by repeat (first | exact List.Sublist.refl _ | assumption | apply List.Sublist.cons_cons | apply List.Sublist.cons))⟩
    rw [checkM, if_neg (by omega), if_pos (by omega)]
  have hcm : ∀ c, errG (badAt l) l.length 0 = c → checkM z l = c := fun c h => by rw [checkM, if_neg (by omega), if_neg (by omega), h]
  refine tri_block ?_
  refine tri_loop1 (fun k => k ≤ l.length ∧ ∀ j, j < k → badAt l j = 0) (fun k => [(1, .pointer (some ⟨g1, 0, none⟩)), (2, .int .i64 0), (23, v), (24, .int .i64 (l.length : Int)), (25, .int .i64 (k : Int))]) (fun _ => Hp w0 (tlbC g1 z v :: cs)) (fun k => l.length - k)
    0 ⟨by omega, fun j hj => by omega⟩ (by repeat (first | exact trivial | refine ⟨rfl, ?_⟩)) (fun _ h => h) ?_
  rintro k ⟨hk, hp⟩
  (repeat' (first | refine au_pure ?_ | refine au_pass ?_ | refine au_box (fun _ => ?_) | refine au_alloc (fun _ => ?_) | refine au_store ?_ | refine au_make rfl rfl (fun _ => ?_) | refine au_lit rfl rfl rfl (fun _ => ?_) | refine au_append rfl rfl rfl rfl (fun _ => au_norm ?_) | refine au_storeE rfl rfl rfl rfl ?_ | refine tri_seq ?_ | refine tri_then ?_ | refine tri_region ?_ | refine tri_nil ?_ | refine tri_skip ?_ | refine tri_ret ?_ | refine tri_exit ?_ | refine tri_thenr ?_ | refine tri_thene ?_ | refine tri_blkn ?_ | refine tri_blkr ?_ | refine tri_blke ?_ | refine tri_blko (by rfl) ?_ | refine tri_if_t (by rfl) ?_ | refine tri_if_f (by rfl) ?_ | ((first | refine tri_cond (by rfl) (fun hc => ?_) (fun hc => ?_) | refine tri_gsplit (by rfl) (by rfl) (by (fail_if_success exact (rfl : _ = some (Value.bool true))); (fail_if_success exact (rfl : _ = some (Value.bool false))); rfl) (fun hc => ?_) (fun hc => ?_)) <;> (try simp only [decide_eq_true_eq, decide_eq_false_iff_not, beq_iff_eq, bne_iff_ne, ne_eq, Bool.not_eq_true', Bool.not_eq_false', beq_eq_false_iff_ne, bne_eq_false_iff_eq, Int.not_lt, Int.not_le, gt_iff_lt, ge_iff_le, Bool.and_eq_true, Bool.or_eq_true, Bool.and_eq_false_iff, Bool.or_eq_false_iff, Decidable.not_not, not_true_eq_false, not_false_eq_true, and_true, true_and, or_false, false_or, or_true, true_or, and_false, false_and, eq_self, Bool.true_eq_false, Bool.false_eq_true] at hc) <;> (try (exfalso; omega))) | fail))
  · refine tri_block ?_
    have hwk := wf_at hw k
    obtain ⟨x, hx⟩ : ∃ x, x = l.getD k default := ⟨_, rfl⟩
    rw [← hx] at hwk
    have hbk : badAt l k = if okT x = 0 then (if (l.take k).any (ovM x) then 7 else 0) else okT x := by rw [badAt, ← hx]
    have hat : ∀ c, ¬ c = 0 → badAt l k = c → checkM z l = c := fun c h1 h2 => hcm c (errG_at h1 h2 _ _ (by omega) (by omega) fun j _ hj => hp j hj)
    (repeat (first | refine au_pure ?_ | refine au_pass ?_ | refine au_box (fun _ => ?_) | refine au_alloc (fun _ => ?_) | refine au_store ?_ | refine au_make rfl rfl (fun _ => ?_) | refine au_lit rfl rfl rfl (fun _ => ?_) | refine au_append rfl rfl rfl rfl (fun _ => au_norm ?_) | refine au_storeE rfl rfl rfl rfl ?_ | refine tri_seq ?_ | refine tri_then ?_ | refine tri_region ?_ | refine tri_nil ?_ | refine tri_skip ?_ | refine tri_ret ?_ | refine tri_exit ?_ | refine tri_thenr ?_ | refine tri_thene ?_ | refine tri_blkn ?_ | refine tri_blkr ?_ | refine tri_blke ?_ | refine tri_blko (by rfl) ?_ | refine tri_if_t (by rfl) ?_ | refine tri_if_f (by rfl) ?_ | fail))
    rename_i g4
    rw [← hx]
    refine au_call rfl rfl (cl_of rfl rfl rfl (fun _ h => Ret.hp (place_any _ _ _) h)) ?_
    (repeat' (first | refine au_pure ?_ | refine au_pass ?_ | refine au_box (fun _ => ?_) | refine au_alloc (fun _ => ?_) | refine au_store ?_ | refine au_make rfl rfl (fun _ => ?_) | refine au_lit rfl rfl rfl (fun _ => ?_) | refine au_append rfl rfl rfl rfl (fun _ => au_norm ?_) | refine au_storeE rfl rfl rfl rfl ?_ | refine tri_seq ?_ | refine tri_then ?_ | refine tri_region ?_ | refine tri_nil ?_ | refine tri_skip ?_ | refine tri_ret ?_ | refine tri_exit ?_ | refine tri_thenr ?_ | refine tri_thene ?_ | refine tri_blkn ?_ | refine tri_blkr ?_ | refine tri_blke ?_ | refine tri_blko (by rfl) ?_ | refine tri_if_t (by rfl) ?_ | refine tri_if_f (by rfl) ?_ | ((first | refine tri_cond (by rfl) (fun hc => ?_) (fun hc => ?_) | refine tri_gsplit (by rfl) (by rfl) (by (fail_if_success exact (rfl : _ = some (Value.bool true))); (fail_if_success exact (rfl : _ = some (Value.bool false))); rfl) (fun hc => ?_) (fun hc => ?_)) <;> (try simp only [decide_eq_true_eq, decide_eq_false_iff_not, beq_iff_eq, bne_iff_ne, ne_eq, Bool.not_eq_true', Bool.not_eq_false', beq_eq_false_iff_ne, bne_eq_false_iff_eq, Int.not_lt, Int.not_le, gt_iff_lt, ge_iff_le, Bool.and_eq_true, Bool.or_eq_true, Bool.and_eq_false_iff, Bool.or_eq_false_iff, Decidable.not_not, not_true_eq_false, not_false_eq_true, and_true, true_and, or_false, false_or, or_true, true_or, and_false, false_and, eq_self, Bool.true_eq_false, Bool.false_eq_true] at hc) <;> (try (exfalso; omega))) | fail))
    · have hne : ¬ plcM x.s x.p = 0 := by assumption
      have hok : okT x = plcM x.s x.p := by
        unfold okT
        rw [if_neg hne]
        unfold plcM at hne ⊢
        split at hne
        · exact absurd rfl hne
        · rw [if_neg (by assumption)]
      refine au_done1 rfl ?_
      intro w hw; refine ⟨(), ?_, hw.sub (by repeat (first | exact List.Sublist.refl _ | assumption | apply List.Sublist.cons_cons | apply List.Sublist.cons))⟩
      rw [hat _ hne (by rw [hbk, if_neg (by rw [hok]; exact hne), hok])]
    have hpl : plcM x.s x.p = 0 := by assumption
    obtain ⟨ps, pp⟩ := plc_ok hpl
    refine au_call rfl rfl (cl_of rfl rfl rfl (fun _ h => Ret.hp (trans_any _ _ hwk.2.2.1 hwk.2.2.2) h)) ?_
    (repeat' (first | refine au_pure ?_ | refine au_pass ?_ | refine au_box (fun _ => ?_) | refine au_alloc (fun _ => ?_) | refine au_store ?_ | refine au_make rfl rfl (fun _ => ?_) | refine au_lit rfl rfl rfl (fun _ => ?_) | refine au_append rfl rfl rfl rfl (fun _ => au_norm ?_) | refine au_storeE rfl rfl rfl rfl ?_ | refine tri_seq ?_ | refine tri_then ?_ | refine tri_region ?_ | refine tri_nil ?_ | refine tri_skip ?_ | refine tri_ret ?_ | refine tri_exit ?_ | refine tri_thenr ?_ | refine tri_thene ?_ | refine tri_blkn ?_ | refine tri_blkr ?_ | refine tri_blke ?_ | refine tri_blko (by rfl) ?_ | refine tri_if_t (by rfl) ?_ | refine tri_if_f (by rfl) ?_ | ((first | refine tri_cond (by rfl) (fun hc => ?_) (fun hc => ?_) | refine tri_gsplit (by rfl) (by rfl) (by (fail_if_success exact (rfl : _ = some (Value.bool true))); (fail_if_success exact (rfl : _ = some (Value.bool false))); rfl) (fun hc => ?_) (fun hc => ?_)) <;> (try simp only [decide_eq_true_eq, decide_eq_false_iff_not, beq_iff_eq, bne_iff_ne, ne_eq, Bool.not_eq_true', Bool.not_eq_false', beq_eq_false_iff_ne, bne_eq_false_iff_eq, Int.not_lt, Int.not_le, gt_iff_lt, ge_iff_le, Bool.and_eq_true, Bool.or_eq_true, Bool.and_eq_false_iff, Bool.or_eq_false_iff, Decidable.not_not, not_true_eq_false, not_false_eq_true, and_true, true_and, or_false, false_or, or_true, true_or, and_false, false_and, eq_self, Bool.true_eq_false, Bool.false_eq_true] at hc) <;> (try (exfalso; omega))) | fail))
    · have ht : tr x.w = false := by assumption
      have hok : okT x = 3 := by unfold okT formT; rw [if_pos hpl, ht]; rfl
      refine au_done1 rfl ?_
      intro w hw; refine ⟨(), ?_, hw.sub (by repeat (first | exact List.Sublist.refl _ | assumption | apply List.Sublist.cons_cons | apply List.Sublist.cons))⟩
      rw [hat 3 (by decide) (by rw [hbk, hok]; rfl)]
    · have hh : hu x.w = true := by assumption
      have hok : okT x = 3 := by unfold okT formT; rw [if_pos hpl, hh, if_neg]; simp; intro _; assumption
      refine au_done1 rfl ?_
      intro w hw; refine ⟨(), ?_, hw.sub (by repeat (first | exact List.Sublist.refl _ | assumption | apply List.Sublist.cons_cons | apply List.Sublist.cons))⟩
      rw [hat 3 (by decide) (by rw [hbk, hok]; rfl)]
    all_goals
      have hvd : Vd x := ⟨ps, pp, by assumption, fun hh => by first | assumption | (exfalso; simp_all; done)⟩
      have hok : okT x = 0 := okT_vd.2 hvd
      have hpre : ∀ y ∈ (l.take k).drop 0, Wf y ∧ y.p ≤ 4611686018427387904 := fun y hy => by
        rw [List.drop_zero] at hy
        refine ⟨hw y (List.mem_of_mem_take hy), ?_⟩
        rw [List.mem_take_iff_getElem] at hy
        obtain ⟨j, hj, rfl⟩ := hy
        have := (bad_zero.1 (hp j (by omega))).1.p
        rw [getD_get (by omega)] at this
        omega
      have hlk : ((l.take k).drop 0).length ≤ 9223372036854775807 := by simp; omega
      refine au_callC rfl rfl rfl rfl rfl (containsFunc_c w0 _ (l := (l.take k).drop 0) (by repeat (first | assumption | exact rd_chunk (by first | (apply has_at; (repeat (first | exact at0 | apply atS)); done) | (repeat (first | assumption | apply has_cons))) | apply RdH.cons | refine RdH.cut ?_ rfl (by omega) (by omega))) hlk (checkf_c w0 _ (x := x) (by first | (apply has_at; (repeat (first | exact at0 | apply atS)); done) | (repeat (first | assumption | apply has_cons))) hwk (by omega) hpre)) (fun _ => ?_)
      rw [any_drop0]
      (repeat' (first | refine au_pure ?_ | refine au_pass ?_ | refine au_box (fun _ => ?_) | refine au_alloc (fun _ => ?_) | refine au_store ?_ | refine au_make rfl rfl (fun _ => ?_) | refine au_lit rfl rfl rfl (fun _ => ?_) | refine au_append rfl rfl rfl rfl (fun _ => au_norm ?_) | refine au_storeE rfl rfl rfl rfl ?_ | refine tri_seq ?_ | refine tri_then ?_ | refine tri_region ?_ | refine tri_nil ?_ | refine tri_skip ?_ | refine tri_ret ?_ | refine tri_exit ?_ | refine tri_thenr ?_ | refine tri_thene ?_ | refine tri_blkn ?_ | refine tri_blkr ?_ | refine tri_blke ?_ | refine tri_blko (by rfl) ?_ | refine tri_if_t (by rfl) ?_ | refine tri_if_f (by rfl) ?_ | ((first | refine tri_cond (by rfl) (fun hc => ?_) (fun hc => ?_) | refine tri_gsplit (by rfl) (by rfl) (by (fail_if_success exact (rfl : _ = some (Value.bool true))); (fail_if_success exact (rfl : _ = some (Value.bool false))); rfl) (fun hc => ?_) (fun hc => ?_)) <;> (try simp only [decide_eq_true_eq, decide_eq_false_iff_not, beq_iff_eq, bne_iff_ne, ne_eq, Bool.not_eq_true', Bool.not_eq_false', beq_eq_false_iff_ne, bne_eq_false_iff_eq, Int.not_lt, Int.not_le, gt_iff_lt, ge_iff_le, Bool.and_eq_true, Bool.or_eq_true, Bool.and_eq_false_iff, Bool.or_eq_false_iff, Decidable.not_not, not_true_eq_false, not_false_eq_true, and_true, true_and, or_false, false_or, or_true, true_or, and_false, false_and, eq_self, Bool.true_eq_false, Bool.false_eq_true] at hc) <;> (try (exfalso; omega))) | fail))
      · have ha : (l.take k).any (ovM x) = true := by assumption
        refine au_done1 rfl ?_
        intro w hw; refine ⟨(), ?_, hw.sub (by repeat (first | exact List.Sublist.refl _ | assumption | apply List.Sublist.cons_cons | apply List.Sublist.cons))⟩
        rw [hat 7 (by decide) (by rw [hbk, if_pos hok, if_pos ha])]
      · have ha : (l.take k).any (ovM x) = false := by assumption
        exact tri_nx1 (k + 1) (by omega) ⟨by omega, all_next hp (by rw [hbk, if_pos hok, ha]; rfl)⟩ (by repeat (first | exact trivial | refine ⟨rfl, ?_⟩)) (fun _ h => h.sub (by repeat (first | exact List.Sublist.refl _ | assumption | apply List.Sublist.cons_cons | apply List.Sublist.cons)))
  · refine au_done1 rfl ?_
    intro w hw; refine ⟨(), ?_, hw.sub (by repeat (first | exact List.Sublist.refl _ | assumption | apply List.Sublist.cons_cons | apply List.Sublist.cons))⟩
    rw [hcm 0 (errG_no _ _ fun j _ hj => hp j (by omega))]
end
end Go.Proofs.Ytojfaelafakemaa
