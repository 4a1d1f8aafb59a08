/- Texts joined: ShNew. Each part's own remark says what it proves. -/
import Derived.Test.YtojfaelafakemaaM22
import Derived.Test.YtojfaelafakemaaM20
/- The walk of the shootdown machine's New. No conditions. -/
set_option linter.unusedSimpArgs false
set_option linter.unusedVariables false
namespace Go.Proofs.Ytojfaelafakemaa
open Go Go.RowKit
def snewBad (c z f p : Int) : Bool := decide (c < 1 ∨ 4 < c ∨ z < 1 ∨ 16 < z ∨ f < 1 ∨ 256 < f ∨ p < 1 ∨ 512 < p)
theorem nil_rows {w0 w : World} {e : Nat} {α : Type} [Enc α] {X : List Chunk} (hw : Hp w0 X w) : ∀ n, Hp w0 (nestE e (List.replicate n (Row.nil w0.heap.size)) (List.replicate n ([] : List α)) ++ X) w
  | 0 => hw
  | n + 1 => (nil_rows hw n).push0 rfl rfl (Own.nil w _ _)
theorem new_perm (L A B C D : Chunk) (NB NP cs : List Chunk) : (L :: (NB ++ (NP ++ (A :: B :: C :: D :: cs)))).Perm (A :: C :: B :: L :: D :: ((NB ++ NP) ++ cs)) := by
  rw [← List.append_assoc]
  have h : ((NB ++ NP) ++ (A :: B :: C :: D :: cs)).Perm (A :: B :: C :: D :: ((NB ++ NP) ++ cs)) := List.perm_middle.trans (.cons _ (List.perm_middle.trans (.cons _ (List.perm_middle.trans (.cons _ List.perm_middle)))))
  refine (List.Perm.cons L h).trans ?_
  exact lit_perm (p := [0, 1, 2, 3, 4]) (q := [1, 3, 2, 0, 4]) (by decide) (fun i => match i with | 0 => L | 1 => A | 2 => B | 3 => C | _ => D) ((NB ++ NP) ++ cs)
theorem tlx_rep (n N : Nat) (z : Int) : tlx (List.replicate n (Row.nil N)) (List.replicate n ⟨z, []⟩) = List.replicate n ⟨z, ⟨none, 0, 0⟩⟩ := by
  unfold tlx
  rw [List.zipWith_replicate]
  simp [row_nil_sv]
attribute [local irreducible] decR enOk pgOk teOk ivOk tlOk checkM lbOk formM limM schk lookM markR mkL invL mkX mkE invE
attribute [local irreducible] Code.wp wpList bodyPost Exit.then Exit.inBlock Calls wpQuiet Tri TriQ
section
variable (w0 : World) (cs : List Chunk)
set_option maxHeartbeats 4000000 in
theorem snew_c (c z f p : Int) : Cal Try.prog 19 [.int .i64 c, .int .i64 z, .int .i64 f, .int .i64 p] (Hp w0 cs) (fun q : {q : SR // SOk q (snewM c z f p).1} => .tuple #[hdV (hd q.1), .int .i64 (snewM c z f p).2]) (fun q => Hp w0 (SC q.1 (snewM c z f p).1 ++ cs)) := by
  refine cal_of_tri Try.func19 rfl Try.ntmps19 rfl ?_
  (repeat (first | refine tri_seq ?_ | refine tri_then ?_)); refine tri_region ?_; (repeat (first | refine au_pure ?_ | refine au_pass ?_ | refine au_box (fun _ => ?_) | refine au_alloc (fun _ => ?_) | refine au_store ?_ | refine au_make rfl rfl (fun _ => ?_) | refine au_lit rfl rfl rfl (fun _ => ?_) | refine au_append rfl rfl rfl rfl (fun _ => au_norm ?_) | refine au_storeE rfl rfl rfl rfl ?_)); refine tri_nil ?_; (repeat refine tri_then ?_)
  rename_i g8
  refine tri_weak (H' := Hp w0 (hdC g8 hdN :: cs)) (fun w h => h) ?_
  refine tri_seq ?_
  refine tri_cut1 (fun _ : Unit => snewBad c z f p = false) (fun _ => [(0, .int .i64 c), (1, .int .i64 z), (2, .int .i64 f), (3, .int .i64 p), (8, .pointer (some ⟨g8, 0, none⟩))]) (fun _ => Hp w0 (hdC g8 hdN :: cs)) ?_ ?_
  · have hbad : snewBad c z f p = true → snewM c z f p = (.zero, 2) := fun h => by unfold snewM; rw [if_pos (of_decide_eq_true h)]
    have hno : ∀ w, snewBad c z f p = true → Hp w0 (hdC g8 hdN :: cs) w → ∃ q : {q : SR // SOk q (snewM c z f p).1}, Ending.returned (.tuple #[hdV hdN, .int .i64 2]) = .returned (.tuple #[hdV (hd q.1), .int .i64 (snewM c z f p).2]) ∧ Hp w0 (SC q.1 (snewM c z f p).1 ++ cs) w := fun w h hw => zero_res hw (hbad h) (by repeat (first | exact List.Sublist.refl _ | assumption | apply List.Sublist.cons_cons | apply List.Sublist.cons))
    (repeat (first | refine zz ?_ | refine zv fun _ => ?_))
    cases h1 : decide (c < 1)
    case true =>
      have h1 := of_decide_eq_true h1
      (repeat (first | refine zz ?_ | refine zv fun _ => ?_))
      refine au_done2 rfl ?_
      exact fun w hw => hno w (decide_eq_true (by omega)) hw
    have h1 := of_decide_eq_false h1
    (repeat (first | refine zz ?_ | refine zv fun _ => ?_))
    cases h2 : decide (c > 4)
    case true =>
      have h2 := of_decide_eq_true h2
      (repeat (first | refine zz ?_ | refine zv fun _ => ?_))
      refine au_done2 rfl ?_
      exact fun w hw => hno w (decide_eq_true (by omega)) hw
    have h2 := of_decide_eq_false h2
    (repeat (first | refine zz ?_ | refine zv fun _ => ?_))
    cases h3 : decide (z < 1)
    case true =>
      have h3 := of_decide_eq_true h3
      (repeat (first | refine zz ?_ | refine zv fun _ => ?_))
      refine au_done2 rfl ?_
      exact fun w hw => hno w (decide_eq_true (by omega)) hw
    have h3 := of_decide_eq_false h3
    (repeat (first | refine zz ?_ | refine zv fun _ => ?_))
    cases h4 : decide (z > 16)
    case true =>
      have h4 := of_decide_eq_true h4
      (repeat (first | refine zz ?_ | refine zv fun _ => ?_))
      refine au_done2 rfl ?_
      exact fun w hw => hno w (decide_eq_true (by omega)) hw
    have h4 := of_decide_eq_false h4
    (repeat (first | refine zz ?_ | refine zv fun _ => ?_))
    cases h5 : decide (f < 1)
    case true =>
      have h5 := of_decide_eq_true h5
      (repeat (first | refine zz ?_ | refine zv fun _ => ?_))
      refine au_done2 rfl ?_
      exact fun w hw => hno w (decide_eq_true (by omega)) hw
    have h5 := of_decide_eq_false h5
    (repeat (first | refine zz ?_ | refine zv fun _ => ?_))
    cases h6 : decide (f > 256)
    case true =>
      have h6 := of_decide_eq_true h6
      (repeat (first | refine zz ?_ | refine zv fun _ => ?_))
      refine au_done2 rfl ?_
      exact fun w hw => hno w (decide_eq_true (by omega)) hw
    have h6 := of_decide_eq_false h6
    (repeat (first | refine zz ?_ | refine zv fun _ => ?_))
    cases h7 : decide (p < 1)
    case true =>
      have h7 := of_decide_eq_true h7
      (repeat (first | refine zz ?_ | refine zv fun _ => ?_))
      refine au_done2 rfl ?_
      exact fun w hw => hno w (decide_eq_true (by omega)) hw
    have h7 := of_decide_eq_false h7
    (repeat (first | refine zz ?_ | refine zv fun _ => ?_))
    cases h8 : decide (p > 512)
    case true =>
      have h8 := of_decide_eq_true h8
      (repeat (first | refine zz ?_ | refine zv fun _ => ?_))
      refine au_done2 rfl ?_
      exact fun w hw => hno w (decide_eq_true (by omega)) hw
    have h8 := of_decide_eq_false h8
    (repeat (first | refine zz ?_ | refine zv fun _ => ?_))
    exact tri_mt1 () (decide_eq_false (by omega)) (by repeat (first | exact trivial | refine ⟨rfl, ?_⟩)) (fun _ h => h)
  intro _ hnb
  unfold snewBad at hnb
  have hnb := of_decide_eq_false hnb
  have e1 : snewM c z f p = (⟨List.replicate p.toNat ⟨0⟩, List.replicate c.toNat ⟨z, []⟩, List.replicate c.toNat [], [], List.replicate f.toNat 0⟩, 0) := by unfold snewM; rw [if_neg hnb]
  obtain ⟨cn, rfl⟩ : ∃ k : Nat, c = (k : Int) := ⟨c.toNat, by omega⟩
  obtain ⟨fn, rfl⟩ : ∃ k : Nat, f = (k : Int) := ⟨f.toNat, by omega⟩
  obtain ⟨pn, rfl⟩ : ∃ k : Nat, p = (k : Int) := ⟨p.toNat, by omega⟩
  rw [Int.toNat_natCast, Int.toNat_natCast, Int.toNat_natCast] at e1
  have hpn : pn ≤ 512 := by omega
  have hp1 : 1 ≤ pn := by omega
  (repeat (first | refine tri_seq ?_ | refine tri_then ?_))
  refine an_held rfl ?_
  refine ar_free 0 rfl rfl rfl ?_ (hy := yl_build rfl rfl rfl (by repeat (first | exact nf0 rfl | apply nfS rfl | exact nfR)))
  refine ar_free 3 rfl rfl rfl ?_; refine ar_free 5 rfl rfl rfl ?_; refine ar_free 7 rfl rfl rfl ?_
  refine an_start [true, false, false, true, false, true, false, true, false, false, false, false] (by rfl) ?_
  refine tn_have (V := Row × Row × Row × Row × Nat) 1 [true, true, true, true, true, true, true, true, true, true, true, false] (fun v => [(1, .int .i64 z), (0, .int .i64 (cn : Int)), (8, .pointer (some ⟨g8, 0, none⟩)), (44, entV 0 0 false false false false), (47, .int .i64 (pn : Int)), (49, .int .i64 (cn : Int)), (51, .int .i64 (fn : Int)), (45, .int .u64 0), (46, v.1.v), (48, v.2.1.v), (50, v.2.2.1.v), (52, v.2.2.2.1.v), (53, .agg #[v.2.1.v, .slice none 0 0, v.2.2.1.v, .slice none 0 0, v.2.2.2.1.v]), (10, .pointer (some ⟨v.2.2.2.2, 0, none⟩))]) (fun v => u64S v.1 [⟨0⟩] :: u64S v.2.1 (List.replicate pn ⟨0⟩) :: pdS v.2.2.1 (List.replicate cn default) :: inS v.2.2.2.1 (List.replicate fn 0) :: hdC v.2.2.2.2 hdN :: hdC g8 hdN :: cs) ?_ (fun h1_2_4_6_8_9_10 => ?_)
  · rintro ⟨r1, r2, r3, r4, g10⟩
    refine tn_op1 (i := 11) rfl ?_
    refine au_store ?_
    refine tri_nil ?_; refine tn_next ?_
    refine tn_done ?_
    refine tri_nilrow TB 52 ?_
    (repeat (first | refine zz ?_ | refine zv fun _ => ?_))
    refine tri_block ?_
    refine tri_loop2 (fun (k : Nat) (_ : Row) => k ≤ cn) (fun k _ => [(1, .int .i64 z), (8, .pointer (some ⟨g8, 0, none⟩)), (10, .pointer (some ⟨g10, 0, none⟩)), (54, .int .i64 (cn : Int)), (55, .int .i64 (k : Int))])
      (fun k rb => Hp w0 (tlS rb (List.replicate k (⟨z, ⟨none, 0, 0⟩⟩ : TB)) :: u64S r2 (List.replicate pn ⟨0⟩) :: pdS r3 (List.replicate cn default) :: inS r4 (List.replicate fn 0) :: shC g10 r2.v rb.v r3.v (.slice none 0 0) r4.v :: hdC g8 hdN :: cs)) (fun k _ => cn - k)
      0 (Row.nil w0.heap.size) (by omega) (by repeat (first | exact trivial | refine ⟨rfl, ?_⟩)) (fun w h => h.sub (by repeat (first | exact List.Sublist.refl _ | assumption | apply List.Sublist.cons_cons | apply List.Sublist.cons))) ?_
    rintro k rb hk
    (repeat (first | refine zz ?_ | refine zv fun _ => ?_))
    ((first | refine tri_cond (by rfl) (fun hc => ?_) (fun hc => ?_) | refine tri_gsplit (by rfl) (by rfl) (by (fail_if_success exact (rfl : _ = some (Value.bool true))); (fail_if_success exact (rfl : _ = some (Value.bool false))); rfl) (fun hc => ?_) (fun hc => ?_)) <;> (try simp only [decide_eq_true_eq, decide_eq_false_iff_not, beq_iff_eq, bne_iff_ne, ne_eq, Bool.not_eq_true', Bool.not_eq_false', beq_eq_false_iff_ne, bne_eq_false_iff_eq, Int.not_lt, Int.not_le, gt_iff_lt, ge_iff_le, Bool.and_eq_true, Bool.or_eq_true, Bool.and_eq_false_iff, Bool.or_eq_false_iff, Decidable.not_not, not_true_eq_false, not_false_eq_true, and_true, true_and, or_false, false_or, or_true, true_or, and_false, false_and, eq_self, Bool.true_eq_false, Bool.false_eq_true] at hc) <;> (try (exfalso; omega)))
    · (repeat (first | refine zz ?_ | refine zv fun _ => ?_))
      refine tri_block ?_
      (repeat (first | refine zz ?_ | refine zv fun _ => ?_))
      refine au_call rfl rfl (cl_of rfl rfl rfl (fun _ h => Ret.hp (new_any z _) h)) ?_
      rw [show newZ z = z from if_neg (by omega), show newE z = 0 from if_neg (by omega)]
      (repeat (first | refine zz ?_ | refine zv fun _ => ?_))
      refine au_lit (l := ([⟨z, ⟨none, 0, 0⟩⟩] : List TB)) rfl rfl rfl (fun rx => ?_)
      refine au_append (r := rb) (l2 := ([⟨z, ⟨none, 0, 0⟩⟩] : List TB)) rfl rfl rfl rfl (fun ry => au_norm ?_) (h2 := rd_chunk ⟨0, rfl⟩) (hb := by rw [List.length_replicate, List.length_singleton]; omega)
      (repeat (first | refine zz ?_ | refine zv fun _ => ?_))
      exact tri_nx2 (k + 1) ry (by omega) (by omega) (by repeat (first | exact trivial | refine ⟨rfl, ?_⟩)) (fun w h => by rw [List.replicate_succ']; exact h.sub (by repeat (first | exact List.Sublist.refl _ | assumption | apply List.Sublist.cons_cons | apply List.Sublist.cons)))
    · have hke : k = cn := by omega
      subst hke
      (repeat (first | refine zz ?_ | refine zv fun _ => ?_))
      refine au_done2 rfl ?_
      intro w hw
      have h0 : Hp w0 (tlS rb (List.replicate k (⟨z, ⟨none, 0, 0⟩⟩ : TB)) :: u64S r2 (List.replicate pn ⟨0⟩) :: pdS r3 (List.replicate k default) :: inS r4 (List.replicate fn 0) :: cs) w := hw.sub (by repeat (first | exact List.Sublist.refl _ | assumption | apply List.Sublist.cons_cons | apply List.Sublist.cons))
      have h2 := nil_rows (e := 71) (α := TE) (nil_rows (e := 62) (α := IV) h0 k) k
      have h3 := h2.push0 (c := lbS (Row.nil w0.heap.size) []) rfl rfl (Own.nil w _ _)
      have h4 := HpM.perm h3 (new_perm _ _ _ _ _ _ _ _)
      refine good_res (m' := ⟨List.replicate pn ⟨0⟩, List.replicate k ⟨z, []⟩, List.replicate k [], [], List.replicate fn 0⟩) (q := ⟨r2, rb, r3, Row.nil w0.heap.size, r4, List.replicate k (Row.nil w0.heap.size), List.replicate k (Row.nil w0.heap.size)⟩) e1 ⟨by simp, by simp⟩ h4 ?_
      show (tlS rb (tlx (List.replicate k (Row.nil w0.heap.size)) (List.replicate k ⟨z, []⟩)) :: pdS r3 ((List.replicate k (Row.nil w0.heap.size)).map Row.sv) :: u64S r2 (List.replicate pn ⟨0⟩) :: lbS (Row.nil w0.heap.size) [] :: inS r4 (List.replicate fn 0) :: ((nestE 71 (List.replicate k (Row.nil w0.heap.size)) ((List.replicate k (⟨z, []⟩ : TL)).map TL.l) ++ nestE 62 (List.replicate k (Row.nil w0.heap.size)) (List.replicate k [])) ++ cs)).Sublist _
      rw [tlx_rep, List.map_replicate, List.map_replicate, row_nil_sv]
      exact List.Sublist.refl _
  refine tn_have (V := Row × Row × Row × Row) 2 [true, true, true, true, true, true, true, true, true, true, false, false] (fun v => [(1, .int .i64 z), (0, .int .i64 (cn : Int)), (8, .pointer (some ⟨g8, 0, none⟩)), (44, entV 0 0 false false false false), (47, .int .i64 (pn : Int)), (49, .int .i64 (cn : Int)), (51, .int .i64 (fn : Int)), (45, .int .u64 0), (46, v.1.v), (48, v.2.1.v), (50, v.2.2.1.v), (52, v.2.2.2.v), (53, .agg #[v.2.1.v, .slice none 0 0, v.2.2.1.v, .slice none 0 0, v.2.2.2.v])]) (fun v => u64S v.1 [⟨0⟩] :: u64S v.2.1 (List.replicate pn ⟨0⟩) :: pdS v.2.2.1 (List.replicate cn default) :: inS v.2.2.2 (List.replicate fn 0) :: hdC g8 hdN :: cs) ?_ (fun h1_2_4_6_8_9 => ?_)
  · rintro ⟨r1, r2, r3, r4⟩
    refine tn_op1 rfl ?_ (i := 10) 
    · refine au_alloc (fun g10 => ?_)
      refine tri_front 4 rfl (by repeat (first | exact nf0 rfl | apply nfS rfl | exact nfR)) ?_
      refine tri_front 4 rfl (by repeat (first | exact nf0 rfl | apply nfS rfl | exact nfR)) ?_
      refine tri_front 4 rfl (by repeat (first | exact nf0 rfl | apply nfS rfl | exact nfR)) ?_
      refine tri_front 4 rfl (by repeat (first | exact nf0 rfl | apply nfS rfl | exact nfR)) ?_
      refine tri_nil ?_
      exact tn_in (h1_2_4_6_8_9_10 ⟨r1, r2, r3, r4, g10⟩) (by repeat (first | exact trivial | refine ⟨rfl, ?_⟩)) (fun w h => h)
  refine tn_have (V := Row × Row × Row × Row × Nat) 2 [true, true, true, true, true, true, true, true, true, false, true, false] (fun v => [(1, .int .i64 z), (0, .int .i64 (cn : Int)), (8, .pointer (some ⟨g8, 0, none⟩)), (44, entV 0 0 false false false false), (47, .int .i64 (pn : Int)), (49, .int .i64 (cn : Int)), (51, .int .i64 (fn : Int)), (45, .int .u64 0), (46, v.1.v), (48, v.2.1.v), (50, v.2.2.1.v), (52, v.2.2.2.1.v), (10, .pointer (some ⟨v.2.2.2.2, 0, none⟩))]) (fun v => u64S v.1 [⟨0⟩] :: u64S v.2.1 (List.replicate pn ⟨0⟩) :: pdS v.2.2.1 (List.replicate cn default) :: inS v.2.2.2.1 (List.replicate fn 0) :: hdC v.2.2.2.2 hdN :: hdC g8 hdN :: cs) ?_ (fun h1_2_4_6_8_10 => ?_)
  · rintro ⟨r1, r2, r3, r4, g10⟩
    refine tn_op1 rfl ?_ (i := 9) 
    · refine au_pure ?_
      refine tri_nil ?_
      exact tn_in (h1_2_4_6_8_9_10 ⟨r1, r2, r3, r4, g10⟩) (by repeat (first | exact trivial | refine ⟨rfl, ?_⟩)) (fun w h => h)
  refine tn_have (V := Row × Row × Row × Row) 3 [true, true, true, true, true, true, true, true, true, false, false, false] (fun v => [(1, .int .i64 z), (0, .int .i64 (cn : Int)), (8, .pointer (some ⟨g8, 0, none⟩)), (44, entV 0 0 false false false false), (47, .int .i64 (pn : Int)), (49, .int .i64 (cn : Int)), (51, .int .i64 (fn : Int)), (45, .int .u64 0), (46, v.1.v), (48, v.2.1.v), (50, v.2.2.1.v), (52, v.2.2.2.v)]) (fun v => u64S v.1 [⟨0⟩] :: u64S v.2.1 (List.replicate pn ⟨0⟩) :: pdS v.2.2.1 (List.replicate cn default) :: inS v.2.2.2 (List.replicate fn 0) :: hdC g8 hdN :: cs) ?_ (fun h1_2_4_6_8 => ?_)
  · rintro ⟨r1, r2, r3, r4⟩
    refine tn_op2 rfl rfl ?_ ?_ (i := 9) (j := 10) 
    · refine au_pure ?_
      refine tri_nil ?_
      exact tn_in (h1_2_4_6_8_9 ⟨r1, r2, r3, r4⟩) (by repeat (first | exact trivial | refine ⟨rfl, ?_⟩)) (fun w h => h)
    · refine au_alloc (fun g10 => ?_)
      refine tri_front 4 rfl (by repeat (first | exact nf0 rfl | apply nfS rfl | exact nfR)) ?_
      refine tri_front 4 rfl (by repeat (first | exact nf0 rfl | apply nfS rfl | exact nfR)) ?_
      refine tri_front 4 rfl (by repeat (first | exact nf0 rfl | apply nfS rfl | exact nfR)) ?_
      refine tri_front 4 rfl (by repeat (first | exact nf0 rfl | apply nfS rfl | exact nfR)) ?_
      refine tri_nil ?_
      exact tn_in (h1_2_4_6_8_10 ⟨r1, r2, r3, r4, g10⟩) (by repeat (first | exact trivial | refine ⟨rfl, ?_⟩)) (fun w h => h)
  refine tn_have (V := Row × Row × Row × Nat) 3 [true, true, true, true, true, true, true, true, false, false, true, false] (fun v => [(1, .int .i64 z), (0, .int .i64 (cn : Int)), (8, .pointer (some ⟨g8, 0, none⟩)), (44, entV 0 0 false false false false), (47, .int .i64 (pn : Int)), (49, .int .i64 (cn : Int)), (51, .int .i64 (fn : Int)), (45, .int .u64 0), (46, v.1.v), (48, v.2.1.v), (50, v.2.2.1.v), (10, .pointer (some ⟨v.2.2.2, 0, none⟩))]) (fun v => u64S v.1 [⟨0⟩] :: u64S v.2.1 (List.replicate pn ⟨0⟩) :: pdS v.2.2.1 (List.replicate cn default) :: hdC v.2.2.2 hdN :: hdC g8 hdN :: cs) ?_ (fun h1_2_4_6_10 => ?_)
  · rintro ⟨r1, r2, r3, g10⟩
    refine tn_op1 rfl ?_ (i := 8) 
    · refine au_make (α := Int) (k := fn) (c := fn) rfl rfl (fun r4 => ?_)
      refine tri_front 3 rfl (by repeat (first | exact nf0 rfl | apply nfS rfl | exact nfR)) ?_
      refine tri_front 3 rfl (by repeat (first | exact nf0 rfl | apply nfS rfl | exact nfR)) ?_
      refine tri_front 3 rfl (by repeat (first | exact nf0 rfl | apply nfS rfl | exact nfR)) ?_
      refine tri_nil ?_
      exact tn_in (h1_2_4_6_8_10 ⟨r1, r2, r3, r4, g10⟩) (by repeat (first | exact trivial | refine ⟨rfl, ?_⟩)) (fun w h => h)
  refine tn_have (V := Row × Row × Row × Nat) 3 [true, true, true, true, true, true, false, true, true, false, true, false] (fun v => [(1, .int .i64 z), (0, .int .i64 (cn : Int)), (8, .pointer (some ⟨g8, 0, none⟩)), (44, entV 0 0 false false false false), (47, .int .i64 (pn : Int)), (49, .int .i64 (cn : Int)), (51, .int .i64 (fn : Int)), (45, .int .u64 0), (46, v.1.v), (48, v.2.1.v), (52, v.2.2.1.v), (10, .pointer (some ⟨v.2.2.2, 0, none⟩))]) (fun v => u64S v.1 [⟨0⟩] :: u64S v.2.1 (List.replicate pn ⟨0⟩) :: inS v.2.2.1 (List.replicate fn 0) :: hdC v.2.2.2 hdN :: hdC g8 hdN :: cs) ?_ (fun h1_2_4_8_10 => ?_)
  · rintro ⟨r1, r2, r4, g10⟩
    refine tn_op1 rfl ?_ (i := 6) 
    · refine au_make (α := SV) (k := cn) (c := cn) rfl rfl (fun r3 => ?_)
      refine tri_front 2 rfl (by repeat (first | exact nf0 rfl | apply nfS rfl | exact nfR)) ?_
      refine tri_front 2 rfl (by repeat (first | exact nf0 rfl | apply nfS rfl | exact nfR)) ?_
      refine tri_nil ?_
      exact tn_in (h1_2_4_6_8_10 ⟨r1, r2, r3, r4, g10⟩) (by repeat (first | exact trivial | refine ⟨rfl, ?_⟩)) (fun w h => h)
  refine tn_have (V := Row × Row × Row × Nat) 3 [true, true, true, true, false, true, true, true, true, false, true, false] (fun v => [(1, .int .i64 z), (0, .int .i64 (cn : Int)), (8, .pointer (some ⟨g8, 0, none⟩)), (44, entV 0 0 false false false false), (47, .int .i64 (pn : Int)), (49, .int .i64 (cn : Int)), (51, .int .i64 (fn : Int)), (45, .int .u64 0), (46, v.1.v), (50, v.2.1.v), (52, v.2.2.1.v), (10, .pointer (some ⟨v.2.2.2, 0, none⟩))]) (fun v => u64S v.1 [⟨0⟩] :: pdS v.2.1 (List.replicate cn default) :: inS v.2.2.1 (List.replicate fn 0) :: hdC v.2.2.2 hdN :: hdC g8 hdN :: cs) ?_ (fun h1_2_6_8_10 => ?_)
  · rintro ⟨r1, r3, r4, g10⟩
    refine tn_op1 rfl ?_ (i := 4) 
    · refine au_callC rfl rfl rfl rfl rfl (rep_c w0 _ (v := r1.v) (p := (⟨0⟩ : W64)) pn hpn hp1 (rd_chunk (r := r1) (l := ([⟨0⟩] : List W64)) (e := 47) (by first | (apply has_at; (repeat (first | exact at0 | apply atS)); done) | (repeat (first | assumption | apply has_cons))))) ?_
      intro r2
      refine tri_front 1 rfl (by repeat (first | exact nf0 rfl | apply nfS rfl | exact nfR)) ?_
      refine tri_nil ?_
      exact tn_in (h1_2_4_6_8_10 ⟨r1, r2, r3, r4, g10⟩) (by repeat (first | exact trivial | refine ⟨rfl, ?_⟩)) (fun w h => h)
  refine tn_have (V := Row × Row × Row) 4 [true, true, true, true, true, true, true, true, false, false, false, false] (fun v => [(1, .int .i64 z), (0, .int .i64 (cn : Int)), (8, .pointer (some ⟨g8, 0, none⟩)), (44, entV 0 0 false false false false), (47, .int .i64 (pn : Int)), (49, .int .i64 (cn : Int)), (51, .int .i64 (fn : Int)), (45, .int .u64 0), (46, v.1.v), (48, v.2.1.v), (50, v.2.2.v)]) (fun v => u64S v.1 [⟨0⟩] :: u64S v.2.1 (List.replicate pn ⟨0⟩) :: pdS v.2.2 (List.replicate cn default) :: hdC g8 hdN :: cs) ?_ (fun h1_2_4_6 => ?_)
  · rintro ⟨r1, r2, r3⟩
    refine tn_op2 rfl rfl ?_ ?_ (i := 8) (j := 10) 
    · refine au_make (α := Int) (k := fn) (c := fn) rfl rfl (fun r4 => ?_)
      refine tri_front 3 rfl (by repeat (first | exact nf0 rfl | apply nfS rfl | exact nfR)) ?_
      refine tri_front 3 rfl (by repeat (first | exact nf0 rfl | apply nfS rfl | exact nfR)) ?_
      refine tri_front 3 rfl (by repeat (first | exact nf0 rfl | apply nfS rfl | exact nfR)) ?_
      refine tri_nil ?_
      exact tn_in (h1_2_4_6_8 ⟨r1, r2, r3, r4⟩) (by repeat (first | exact trivial | refine ⟨rfl, ?_⟩)) (fun w h => h)
    · refine au_alloc (fun g10 => ?_)
      refine tri_front 3 rfl (by repeat (first | exact nf0 rfl | apply nfS rfl | exact nfR)) ?_
      refine tri_front 3 rfl (by repeat (first | exact nf0 rfl | apply nfS rfl | exact nfR)) ?_
      refine tri_front 3 rfl (by repeat (first | exact nf0 rfl | apply nfS rfl | exact nfR)) ?_
      refine tri_nil ?_
      exact tn_in (h1_2_4_6_10 ⟨r1, r2, r3, g10⟩) (by repeat (first | exact trivial | refine ⟨rfl, ?_⟩)) (fun w h => h)
  refine tn_have (V := Row × Row × Row) 4 [true, true, true, true, true, true, false, true, true, false, false, false] (fun v => [(1, .int .i64 z), (0, .int .i64 (cn : Int)), (8, .pointer (some ⟨g8, 0, none⟩)), (44, entV 0 0 false false false false), (47, .int .i64 (pn : Int)), (49, .int .i64 (cn : Int)), (51, .int .i64 (fn : Int)), (45, .int .u64 0), (46, v.1.v), (48, v.2.1.v), (52, v.2.2.v)]) (fun v => u64S v.1 [⟨0⟩] :: u64S v.2.1 (List.replicate pn ⟨0⟩) :: inS v.2.2 (List.replicate fn 0) :: hdC g8 hdN :: cs) ?_ (fun h1_2_4_8 => ?_)
  · rintro ⟨r1, r2, r4⟩
    refine tn_op2 rfl rfl ?_ ?_ (i := 6) (j := 10) 
    · refine au_make (α := SV) (k := cn) (c := cn) rfl rfl (fun r3 => ?_)
      refine tri_front 2 rfl (by repeat (first | exact nf0 rfl | apply nfS rfl | exact nfR)) ?_
      refine tri_front 2 rfl (by repeat (first | exact nf0 rfl | apply nfS rfl | exact nfR)) ?_
      refine tri_nil ?_
      exact tn_in (h1_2_4_6_8 ⟨r1, r2, r3, r4⟩) (by repeat (first | exact trivial | refine ⟨rfl, ?_⟩)) (fun w h => h)
    · refine au_alloc (fun g10 => ?_)
      refine tri_front 3 rfl (by repeat (first | exact nf0 rfl | apply nfS rfl | exact nfR)) ?_
      refine tri_front 3 rfl (by repeat (first | exact nf0 rfl | apply nfS rfl | exact nfR)) ?_
      refine tri_front 3 rfl (by repeat (first | exact nf0 rfl | apply nfS rfl | exact nfR)) ?_
      refine tri_nil ?_
      exact tn_in (h1_2_4_8_10 ⟨r1, r2, r4, g10⟩) (by repeat (first | exact trivial | refine ⟨rfl, ?_⟩)) (fun w h => h)
  refine tn_have (V := Row × Row × Nat) 4 [true, true, true, true, true, true, false, true, false, false, true, false] (fun v => [(1, .int .i64 z), (0, .int .i64 (cn : Int)), (8, .pointer (some ⟨g8, 0, none⟩)), (44, entV 0 0 false false false false), (47, .int .i64 (pn : Int)), (49, .int .i64 (cn : Int)), (51, .int .i64 (fn : Int)), (45, .int .u64 0), (46, v.1.v), (48, v.2.1.v), (10, .pointer (some ⟨v.2.2, 0, none⟩))]) (fun v => u64S v.1 [⟨0⟩] :: u64S v.2.1 (List.replicate pn ⟨0⟩) :: hdC v.2.2 hdN :: hdC g8 hdN :: cs) ?_ (fun h1_2_4_10 => ?_)
  · rintro ⟨r1, r2, g10⟩
    refine tn_op2 rfl rfl ?_ ?_ (i := 6) (j := 8) 
    · refine au_make (α := SV) (k := cn) (c := cn) rfl rfl (fun r3 => ?_)
      refine tri_front 2 rfl (by repeat (first | exact nf0 rfl | apply nfS rfl | exact nfR)) ?_
      refine tri_front 2 rfl (by repeat (first | exact nf0 rfl | apply nfS rfl | exact nfR)) ?_
      refine tri_nil ?_
      exact tn_in (h1_2_4_6_10 ⟨r1, r2, r3, g10⟩) (by repeat (first | exact trivial | refine ⟨rfl, ?_⟩)) (fun w h => h)
    · refine au_make (α := Int) (k := fn) (c := fn) rfl rfl (fun r4 => ?_)
      refine tri_front 2 rfl (by repeat (first | exact nf0 rfl | apply nfS rfl | exact nfR)) ?_
      refine tri_front 2 rfl (by repeat (first | exact nf0 rfl | apply nfS rfl | exact nfR)) ?_
      refine tri_nil ?_
      exact tn_in (h1_2_4_8_10 ⟨r1, r2, r4, g10⟩) (by repeat (first | exact trivial | refine ⟨rfl, ?_⟩)) (fun w h => h)
  refine tn_have (V := Row × Row × Row) 4 [true, true, true, true, false, true, true, true, true, false, false, false] (fun v => [(1, .int .i64 z), (0, .int .i64 (cn : Int)), (8, .pointer (some ⟨g8, 0, none⟩)), (44, entV 0 0 false false false false), (47, .int .i64 (pn : Int)), (49, .int .i64 (cn : Int)), (51, .int .i64 (fn : Int)), (45, .int .u64 0), (46, v.1.v), (50, v.2.1.v), (52, v.2.2.v)]) (fun v => u64S v.1 [⟨0⟩] :: pdS v.2.1 (List.replicate cn default) :: inS v.2.2 (List.replicate fn 0) :: hdC g8 hdN :: cs) ?_ (fun h1_2_6_8 => ?_)
  · rintro ⟨r1, r3, r4⟩
    refine tn_op2 rfl rfl ?_ ?_ (i := 4) (j := 10) 
    · refine au_callC rfl rfl rfl rfl rfl (rep_c w0 _ (v := r1.v) (p := (⟨0⟩ : W64)) pn hpn hp1 (rd_chunk (r := r1) (l := ([⟨0⟩] : List W64)) (e := 47) (by first | (apply has_at; (repeat (first | exact at0 | apply atS)); done) | (repeat (first | assumption | apply has_cons))))) ?_
      intro r2
      refine tri_front 1 rfl (by repeat (first | exact nf0 rfl | apply nfS rfl | exact nfR)) ?_
      refine tri_nil ?_
      exact tn_in (h1_2_4_6_8 ⟨r1, r2, r3, r4⟩) (by repeat (first | exact trivial | refine ⟨rfl, ?_⟩)) (fun w h => h)
    · refine au_alloc (fun g10 => ?_)
      refine tri_front 3 rfl (by repeat (first | exact nf0 rfl | apply nfS rfl | exact nfR)) ?_
      refine tri_front 3 rfl (by repeat (first | exact nf0 rfl | apply nfS rfl | exact nfR)) ?_
      refine tri_front 3 rfl (by repeat (first | exact nf0 rfl | apply nfS rfl | exact nfR)) ?_
      refine tri_nil ?_
      exact tn_in (h1_2_6_8_10 ⟨r1, r3, r4, g10⟩) (by repeat (first | exact trivial | refine ⟨rfl, ?_⟩)) (fun w h => h)
  refine tn_have (V := Row × Row × Nat) 4 [true, true, true, true, false, true, true, true, false, false, true, false] (fun v => [(1, .int .i64 z), (0, .int .i64 (cn : Int)), (8, .pointer (some ⟨g8, 0, none⟩)), (44, entV 0 0 false false false false), (47, .int .i64 (pn : Int)), (49, .int .i64 (cn : Int)), (51, .int .i64 (fn : Int)), (45, .int .u64 0), (46, v.1.v), (50, v.2.1.v), (10, .pointer (some ⟨v.2.2, 0, none⟩))]) (fun v => u64S v.1 [⟨0⟩] :: pdS v.2.1 (List.replicate cn default) :: hdC v.2.2 hdN :: hdC g8 hdN :: cs) ?_ (fun h1_2_6_10 => ?_)
  · rintro ⟨r1, r3, g10⟩
    refine tn_op2 rfl rfl ?_ ?_ (i := 4) (j := 8) 
    · refine au_callC rfl rfl rfl rfl rfl (rep_c w0 _ (v := r1.v) (p := (⟨0⟩ : W64)) pn hpn hp1 (rd_chunk (r := r1) (l := ([⟨0⟩] : List W64)) (e := 47) (by first | (apply has_at; (repeat (first | exact at0 | apply atS)); done) | (repeat (first | assumption | apply has_cons))))) ?_
      intro r2
      refine tri_front 1 rfl (by repeat (first | exact nf0 rfl | apply nfS rfl | exact nfR)) ?_
      refine tri_nil ?_
      exact tn_in (h1_2_4_6_10 ⟨r1, r2, r3, g10⟩) (by repeat (first | exact trivial | refine ⟨rfl, ?_⟩)) (fun w h => h)
    · refine au_make (α := Int) (k := fn) (c := fn) rfl rfl (fun r4 => ?_)
      refine tri_front 2 rfl (by repeat (first | exact nf0 rfl | apply nfS rfl | exact nfR)) ?_
      refine tri_front 2 rfl (by repeat (first | exact nf0 rfl | apply nfS rfl | exact nfR)) ?_
      refine tri_nil ?_
      exact tn_in (h1_2_6_8_10 ⟨r1, r3, r4, g10⟩) (by repeat (first | exact trivial | refine ⟨rfl, ?_⟩)) (fun w h => h)
  refine tn_have (V := Row × Row × Nat) 4 [true, true, true, true, false, true, false, true, true, false, true, false] (fun v => [(1, .int .i64 z), (0, .int .i64 (cn : Int)), (8, .pointer (some ⟨g8, 0, none⟩)), (44, entV 0 0 false false false false), (47, .int .i64 (pn : Int)), (49, .int .i64 (cn : Int)), (51, .int .i64 (fn : Int)), (45, .int .u64 0), (46, v.1.v), (52, v.2.1.v), (10, .pointer (some ⟨v.2.2, 0, none⟩))]) (fun v => u64S v.1 [⟨0⟩] :: inS v.2.1 (List.replicate fn 0) :: hdC v.2.2 hdN :: hdC g8 hdN :: cs) ?_ (fun h1_2_8_10 => ?_)
  · rintro ⟨r1, r4, g10⟩
    refine tn_op2 rfl rfl ?_ ?_ (i := 4) (j := 6) 
    · refine au_callC rfl rfl rfl rfl rfl (rep_c w0 _ (v := r1.v) (p := (⟨0⟩ : W64)) pn hpn hp1 (rd_chunk (r := r1) (l := ([⟨0⟩] : List W64)) (e := 47) (by first | (apply has_at; (repeat (first | exact at0 | apply atS)); done) | (repeat (first | assumption | apply has_cons))))) ?_
      intro r2
      refine tri_front 1 rfl (by repeat (first | exact nf0 rfl | apply nfS rfl | exact nfR)) ?_
      refine tri_nil ?_
      exact tn_in (h1_2_4_8_10 ⟨r1, r2, r4, g10⟩) (by repeat (first | exact trivial | refine ⟨rfl, ?_⟩)) (fun w h => h)
    · refine au_make (α := SV) (k := cn) (c := cn) rfl rfl (fun r3 => ?_)
      refine tri_front 1 rfl (by repeat (first | exact nf0 rfl | apply nfS rfl | exact nfR)) ?_
      refine tri_nil ?_
      exact tn_in (h1_2_6_8_10 ⟨r1, r3, r4, g10⟩) (by repeat (first | exact trivial | refine ⟨rfl, ?_⟩)) (fun w h => h)
  refine tn_have (V := Row × Row × Nat) 4 [true, true, false, true, false, true, true, true, true, false, true, false] (fun v => [(1, .int .i64 z), (0, .int .i64 (cn : Int)), (8, .pointer (some ⟨g8, 0, none⟩)), (44, entV 0 0 false false false false), (47, .int .i64 (pn : Int)), (49, .int .i64 (cn : Int)), (51, .int .i64 (fn : Int)), (45, .int .u64 0), (50, v.1.v), (52, v.2.1.v), (10, .pointer (some ⟨v.2.2, 0, none⟩))]) (fun v => pdS v.1 (List.replicate cn default) :: inS v.2.1 (List.replicate fn 0) :: hdC v.2.2 hdN :: hdC g8 hdN :: cs) ?_ (fun h1_6_8_10 => ?_)
  · rintro ⟨r3, r4, g10⟩
    refine tn_op1 rfl ?_ (i := 2) 
    · refine au_lit (l := ([⟨0⟩] : List W64)) rfl rfl rfl (fun r1 => ?_)
      refine tri_nil ?_
      exact tn_in (h1_2_6_8_10 ⟨r1, r3, r4, g10⟩) (by repeat (first | exact trivial | refine ⟨rfl, ?_⟩)) (fun w h => h)
  refine tn_have (V := Row × Row) 5 [true, true, true, true, true, true, false, true, false, false, false, false] (fun v => [(1, .int .i64 z), (0, .int .i64 (cn : Int)), (8, .pointer (some ⟨g8, 0, none⟩)), (44, entV 0 0 false false false false), (47, .int .i64 (pn : Int)), (49, .int .i64 (cn : Int)), (51, .int .i64 (fn : Int)), (45, .int .u64 0), (46, v.1.v), (48, v.2.v)]) (fun v => u64S v.1 [⟨0⟩] :: u64S v.2 (List.replicate pn ⟨0⟩) :: hdC g8 hdN :: cs) ?_ (fun h1_2_4 => ?_)
  · rintro ⟨r1, r2⟩
    refine tn_op3 rfl rfl rfl ?_ ?_ ?_ (i := 6) (j := 8) (m := 10) 
    · refine au_make (α := SV) (k := cn) (c := cn) rfl rfl (fun r3 => ?_)
      refine tri_front 2 rfl (by repeat (first | exact nf0 rfl | apply nfS rfl | exact nfR)) ?_
      refine tri_front 2 rfl (by repeat (first | exact nf0 rfl | apply nfS rfl | exact nfR)) ?_
      refine tri_nil ?_
      exact tn_in (h1_2_4_6 ⟨r1, r2, r3⟩) (by repeat (first | exact trivial | refine ⟨rfl, ?_⟩)) (fun w h => h)
    · refine au_make (α := Int) (k := fn) (c := fn) rfl rfl (fun r4 => ?_)
      refine tri_front 2 rfl (by repeat (first | exact nf0 rfl | apply nfS rfl | exact nfR)) ?_
      refine tri_front 2 rfl (by repeat (first | exact nf0 rfl | apply nfS rfl | exact nfR)) ?_
      refine tri_nil ?_
      exact tn_in (h1_2_4_8 ⟨r1, r2, r4⟩) (by repeat (first | exact trivial | refine ⟨rfl, ?_⟩)) (fun w h => h)
    · refine au_alloc (fun g10 => ?_)
      refine tri_front 2 rfl (by repeat (first | exact nf0 rfl | apply nfS rfl | exact nfR)) ?_
      refine tri_front 2 rfl (by repeat (first | exact nf0 rfl | apply nfS rfl | exact nfR)) ?_
      refine tri_nil ?_
      exact tn_in (h1_2_4_10 ⟨r1, r2, g10⟩) (by repeat (first | exact trivial | refine ⟨rfl, ?_⟩)) (fun w h => h)
  refine tn_have (V := Row × Row) 5 [true, true, true, true, false, true, true, true, false, false, false, false] (fun v => [(1, .int .i64 z), (0, .int .i64 (cn : Int)), (8, .pointer (some ⟨g8, 0, none⟩)), (44, entV 0 0 false false false false), (47, .int .i64 (pn : Int)), (49, .int .i64 (cn : Int)), (51, .int .i64 (fn : Int)), (45, .int .u64 0), (46, v.1.v), (50, v.2.v)]) (fun v => u64S v.1 [⟨0⟩] :: pdS v.2 (List.replicate cn default) :: hdC g8 hdN :: cs) ?_ (fun h1_2_6 => ?_)
  · rintro ⟨r1, r3⟩
    refine tn_op3 rfl rfl rfl ?_ ?_ ?_ (i := 4) (j := 8) (m := 10) 
    · refine au_callC rfl rfl rfl rfl rfl (rep_c w0 _ (v := r1.v) (p := (⟨0⟩ : W64)) pn hpn hp1 (rd_chunk (r := r1) (l := ([⟨0⟩] : List W64)) (e := 47) (by first | (apply has_at; (repeat (first | exact at0 | apply atS)); done) | (repeat (first | assumption | apply has_cons))))) ?_
      intro r2
      refine tri_front 1 rfl (by repeat (first | exact nf0 rfl | apply nfS rfl | exact nfR)) ?_
      refine tri_nil ?_
      exact tn_in (h1_2_4_6 ⟨r1, r2, r3⟩) (by repeat (first | exact trivial | refine ⟨rfl, ?_⟩)) (fun w h => h)
    · refine au_make (α := Int) (k := fn) (c := fn) rfl rfl (fun r4 => ?_)
      refine tri_front 2 rfl (by repeat (first | exact nf0 rfl | apply nfS rfl | exact nfR)) ?_
      refine tri_front 2 rfl (by repeat (first | exact nf0 rfl | apply nfS rfl | exact nfR)) ?_
      refine tri_nil ?_
      exact tn_in (h1_2_6_8 ⟨r1, r3, r4⟩) (by repeat (first | exact trivial | refine ⟨rfl, ?_⟩)) (fun w h => h)
    · refine au_alloc (fun g10 => ?_)
      refine tri_front 2 rfl (by repeat (first | exact nf0 rfl | apply nfS rfl | exact nfR)) ?_
      refine tri_front 2 rfl (by repeat (first | exact nf0 rfl | apply nfS rfl | exact nfR)) ?_
      refine tri_nil ?_
      exact tn_in (h1_2_6_10 ⟨r1, r3, g10⟩) (by repeat (first | exact trivial | refine ⟨rfl, ?_⟩)) (fun w h => h)
  refine tn_have (V := Row × Row) 5 [true, true, true, true, false, true, false, true, true, false, false, false] (fun v => [(1, .int .i64 z), (0, .int .i64 (cn : Int)), (8, .pointer (some ⟨g8, 0, none⟩)), (44, entV 0 0 false false false false), (47, .int .i64 (pn : Int)), (49, .int .i64 (cn : Int)), (51, .int .i64 (fn : Int)), (45, .int .u64 0), (46, v.1.v), (52, v.2.v)]) (fun v => u64S v.1 [⟨0⟩] :: inS v.2 (List.replicate fn 0) :: hdC g8 hdN :: cs) ?_ (fun h1_2_8 => ?_)
  · rintro ⟨r1, r4⟩
    refine tn_op3 rfl rfl rfl ?_ ?_ ?_ (i := 4) (j := 6) (m := 10) 
    · refine au_callC rfl rfl rfl rfl rfl (rep_c w0 _ (v := r1.v) (p := (⟨0⟩ : W64)) pn hpn hp1 (rd_chunk (r := r1) (l := ([⟨0⟩] : List W64)) (e := 47) (by first | (apply has_at; (repeat (first | exact at0 | apply atS)); done) | (repeat (first | assumption | apply has_cons))))) ?_
      intro r2
      refine tri_front 1 rfl (by repeat (first | exact nf0 rfl | apply nfS rfl | exact nfR)) ?_
      refine tri_nil ?_
      exact tn_in (h1_2_4_8 ⟨r1, r2, r4⟩) (by repeat (first | exact trivial | refine ⟨rfl, ?_⟩)) (fun w h => h)
    · refine au_make (α := SV) (k := cn) (c := cn) rfl rfl (fun r3 => ?_)
      refine tri_front 1 rfl (by repeat (first | exact nf0 rfl | apply nfS rfl | exact nfR)) ?_
      refine tri_nil ?_
      exact tn_in (h1_2_6_8 ⟨r1, r3, r4⟩) (by repeat (first | exact trivial | refine ⟨rfl, ?_⟩)) (fun w h => h)
    · refine au_alloc (fun g10 => ?_)
      refine tri_front 2 rfl (by repeat (first | exact nf0 rfl | apply nfS rfl | exact nfR)) ?_
      refine tri_front 2 rfl (by repeat (first | exact nf0 rfl | apply nfS rfl | exact nfR)) ?_
      refine tri_nil ?_
      exact tn_in (h1_2_8_10 ⟨r1, r4, g10⟩) (by repeat (first | exact trivial | refine ⟨rfl, ?_⟩)) (fun w h => h)
  refine tn_have (V := Row × Nat) 5 [true, true, true, true, false, true, false, true, false, false, true, false] (fun v => [(1, .int .i64 z), (0, .int .i64 (cn : Int)), (8, .pointer (some ⟨g8, 0, none⟩)), (44, entV 0 0 false false false false), (47, .int .i64 (pn : Int)), (49, .int .i64 (cn : Int)), (51, .int .i64 (fn : Int)), (45, .int .u64 0), (46, v.1.v), (10, .pointer (some ⟨v.2, 0, none⟩))]) (fun v => u64S v.1 [⟨0⟩] :: hdC v.2 hdN :: hdC g8 hdN :: cs) ?_ (fun h1_2_10 => ?_)
  · rintro ⟨r1, g10⟩
    refine tn_op3 rfl rfl rfl ?_ ?_ ?_ (i := 4) (j := 6) (m := 8) 
    · refine au_callC rfl rfl rfl rfl rfl (rep_c w0 _ (v := r1.v) (p := (⟨0⟩ : W64)) pn hpn hp1 (rd_chunk (r := r1) (l := ([⟨0⟩] : List W64)) (e := 47) (by first | (apply has_at; (repeat (first | exact at0 | apply atS)); done) | (repeat (first | assumption | apply has_cons))))) ?_
      intro r2
      refine tri_front 1 rfl (by repeat (first | exact nf0 rfl | apply nfS rfl | exact nfR)) ?_
      refine tri_nil ?_
      exact tn_in (h1_2_4_10 ⟨r1, r2, g10⟩) (by repeat (first | exact trivial | refine ⟨rfl, ?_⟩)) (fun w h => h)
    · refine au_make (α := SV) (k := cn) (c := cn) rfl rfl (fun r3 => ?_)
      refine tri_front 1 rfl (by repeat (first | exact nf0 rfl | apply nfS rfl | exact nfR)) ?_
      refine tri_nil ?_
      exact tn_in (h1_2_6_10 ⟨r1, r3, g10⟩) (by repeat (first | exact trivial | refine ⟨rfl, ?_⟩)) (fun w h => h)
    · refine au_make (α := Int) (k := fn) (c := fn) rfl rfl (fun r4 => ?_)
      refine tri_front 1 rfl (by repeat (first | exact nf0 rfl | apply nfS rfl | exact nfR)) ?_
      refine tri_nil ?_
      exact tn_in (h1_2_8_10 ⟨r1, r4, g10⟩) (by repeat (first | exact trivial | refine ⟨rfl, ?_⟩)) (fun w h => h)
  refine tn_have (V := Row × Row) 5 [true, true, false, true, false, true, true, true, true, false, false, false] (fun v => [(1, .int .i64 z), (0, .int .i64 (cn : Int)), (8, .pointer (some ⟨g8, 0, none⟩)), (44, entV 0 0 false false false false), (47, .int .i64 (pn : Int)), (49, .int .i64 (cn : Int)), (51, .int .i64 (fn : Int)), (45, .int .u64 0), (50, v.1.v), (52, v.2.v)]) (fun v => pdS v.1 (List.replicate cn default) :: inS v.2 (List.replicate fn 0) :: hdC g8 hdN :: cs) ?_ (fun h1_6_8 => ?_)
  · rintro ⟨r3, r4⟩
    refine tn_op2 rfl rfl ?_ ?_ (i := 2) (j := 10) 
    · refine au_lit (l := ([⟨0⟩] : List W64)) rfl rfl rfl (fun r1 => ?_)
      refine tri_nil ?_
      exact tn_in (h1_2_6_8 ⟨r1, r3, r4⟩) (by repeat (first | exact trivial | refine ⟨rfl, ?_⟩)) (fun w h => h)
    · refine au_alloc (fun g10 => ?_)
      refine tri_front 2 rfl (by repeat (first | exact nf0 rfl | apply nfS rfl | exact nfR)) ?_
      refine tri_front 2 rfl (by repeat (first | exact nf0 rfl | apply nfS rfl | exact nfR)) ?_
      refine tri_nil ?_
      exact tn_in (h1_6_8_10 ⟨r3, r4, g10⟩) (by repeat (first | exact trivial | refine ⟨rfl, ?_⟩)) (fun w h => h)
  refine tn_have (V := Row × Nat) 5 [true, true, false, true, false, true, true, true, false, false, true, false] (fun v => [(1, .int .i64 z), (0, .int .i64 (cn : Int)), (8, .pointer (some ⟨g8, 0, none⟩)), (44, entV 0 0 false false false false), (47, .int .i64 (pn : Int)), (49, .int .i64 (cn : Int)), (51, .int .i64 (fn : Int)), (45, .int .u64 0), (50, v.1.v), (10, .pointer (some ⟨v.2, 0, none⟩))]) (fun v => pdS v.1 (List.replicate cn default) :: hdC v.2 hdN :: hdC g8 hdN :: cs) ?_ (fun h1_6_10 => ?_)
  · rintro ⟨r3, g10⟩
    refine tn_op2 rfl rfl ?_ ?_ (i := 2) (j := 8) 
    · refine au_lit (l := ([⟨0⟩] : List W64)) rfl rfl rfl (fun r1 => ?_)
      refine tri_nil ?_
      exact tn_in (h1_2_6_10 ⟨r1, r3, g10⟩) (by repeat (first | exact trivial | refine ⟨rfl, ?_⟩)) (fun w h => h)
    · refine au_make (α := Int) (k := fn) (c := fn) rfl rfl (fun r4 => ?_)
      refine tri_front 1 rfl (by repeat (first | exact nf0 rfl | apply nfS rfl | exact nfR)) ?_
      refine tri_nil ?_
      exact tn_in (h1_6_8_10 ⟨r3, r4, g10⟩) (by repeat (first | exact trivial | refine ⟨rfl, ?_⟩)) (fun w h => h)
  refine tn_have (V := Row × Nat) 5 [true, true, false, true, false, true, false, true, true, false, true, false] (fun v => [(1, .int .i64 z), (0, .int .i64 (cn : Int)), (8, .pointer (some ⟨g8, 0, none⟩)), (44, entV 0 0 false false false false), (47, .int .i64 (pn : Int)), (49, .int .i64 (cn : Int)), (51, .int .i64 (fn : Int)), (45, .int .u64 0), (52, v.1.v), (10, .pointer (some ⟨v.2, 0, none⟩))]) (fun v => inS v.1 (List.replicate fn 0) :: hdC v.2 hdN :: hdC g8 hdN :: cs) ?_ (fun h1_8_10 => ?_)
  · rintro ⟨r4, g10⟩
    refine tn_op2 rfl rfl ?_ ?_ (i := 2) (j := 6) 
    · refine au_lit (l := ([⟨0⟩] : List W64)) rfl rfl rfl (fun r1 => ?_)
      refine tri_nil ?_
      exact tn_in (h1_2_8_10 ⟨r1, r4, g10⟩) (by repeat (first | exact trivial | refine ⟨rfl, ?_⟩)) (fun w h => h)
    · refine au_make (α := SV) (k := cn) (c := cn) rfl rfl (fun r3 => ?_)
      refine tri_nil ?_
      exact tn_in (h1_6_8_10 ⟨r3, r4, g10⟩) (by repeat (first | exact trivial | refine ⟨rfl, ?_⟩)) (fun w h => h)
  refine tn_have (V := Row × Row × Nat) 5 [true, false, false, true, false, true, true, true, true, false, true, false] (fun v => [(1, .int .i64 z), (0, .int .i64 (cn : Int)), (8, .pointer (some ⟨g8, 0, none⟩)), (44, entV 0 0 false false false false), (47, .int .i64 (pn : Int)), (49, .int .i64 (cn : Int)), (51, .int .i64 (fn : Int)), (50, v.1.v), (52, v.2.1.v), (10, .pointer (some ⟨v.2.2, 0, none⟩))]) (fun v => pdS v.1 (List.replicate cn default) :: inS v.2.1 (List.replicate fn 0) :: hdC v.2.2 hdN :: hdC g8 hdN :: cs) ?_ (fun h6_8_10 => ?_)
  · rintro ⟨r3, r4, g10⟩
    refine tn_op1 rfl ?_ (i := 1) 
    · refine au_callC rfl rfl rfl rfl rfl (word_c w0 _ 0 0 false false false false) (fun _ => ?_)
      rw [show (encS 0 0 false false false false).1 = 0 from by decide]
      refine tri_nil ?_
      exact tn_in (h1_6_8_10 ⟨r3, r4, g10⟩) (by repeat (first | exact trivial | refine ⟨rfl, ?_⟩)) (fun w h => h)
  refine tn_have (V := Row) 6 [true, true, true, true, false, true, false, true, false, false, false, false] (fun v => [(1, .int .i64 z), (0, .int .i64 (cn : Int)), (8, .pointer (some ⟨g8, 0, none⟩)), (44, entV 0 0 false false false false), (47, .int .i64 (pn : Int)), (49, .int .i64 (cn : Int)), (51, .int .i64 (fn : Int)), (45, .int .u64 0), (46, v.v)]) (fun v => u64S v [⟨0⟩] :: hdC g8 hdN :: cs) ?_ (fun h1_2 => ?_)
  · rintro r1
    refine tn_op4 rfl rfl rfl rfl ?_ ?_ ?_ ?_ (i := 4) (j := 6) (m := 8) (n4 := 10) 
    · refine au_callC rfl rfl rfl rfl rfl (rep_c w0 _ (v := r1.v) (p := (⟨0⟩ : W64)) pn hpn hp1 (rd_chunk (r := r1) (l := ([⟨0⟩] : List W64)) (e := 47) (by first | (apply has_at; (repeat (first | exact at0 | apply atS)); done) | (repeat (first | assumption | apply has_cons))))) ?_
      intro r2
      refine tri_front 1 rfl (by repeat (first | exact nf0 rfl | apply nfS rfl | exact nfR)) ?_
      refine tri_nil ?_
      exact tn_in (h1_2_4 ⟨r1, r2⟩) (by repeat (first | exact trivial | refine ⟨rfl, ?_⟩)) (fun w h => h)
    · refine au_make (α := SV) (k := cn) (c := cn) rfl rfl (fun r3 => ?_)
      refine tri_front 1 rfl (by repeat (first | exact nf0 rfl | apply nfS rfl | exact nfR)) ?_
      refine tri_nil ?_
      exact tn_in (h1_2_6 ⟨r1, r3⟩) (by repeat (first | exact trivial | refine ⟨rfl, ?_⟩)) (fun w h => h)
    · refine au_make (α := Int) (k := fn) (c := fn) rfl rfl (fun r4 => ?_)
      refine tri_front 1 rfl (by repeat (first | exact nf0 rfl | apply nfS rfl | exact nfR)) ?_
      refine tri_nil ?_
      exact tn_in (h1_2_8 ⟨r1, r4⟩) (by repeat (first | exact trivial | refine ⟨rfl, ?_⟩)) (fun w h => h)
    · refine au_alloc (fun g10 => ?_)
      refine tri_front 1 rfl (by repeat (first | exact nf0 rfl | apply nfS rfl | exact nfR)) ?_
      refine tri_nil ?_
      exact tn_in (h1_2_10 ⟨r1, g10⟩) (by repeat (first | exact trivial | refine ⟨rfl, ?_⟩)) (fun w h => h)
  refine tn_have (V := Row) 6 [true, true, false, true, false, true, true, true, false, false, false, false] (fun v => [(1, .int .i64 z), (0, .int .i64 (cn : Int)), (8, .pointer (some ⟨g8, 0, none⟩)), (44, entV 0 0 false false false false), (47, .int .i64 (pn : Int)), (49, .int .i64 (cn : Int)), (51, .int .i64 (fn : Int)), (45, .int .u64 0), (50, v.v)]) (fun v => pdS v (List.replicate cn default) :: hdC g8 hdN :: cs) ?_ (fun h1_6 => ?_)
  · rintro r3
    refine tn_op3 rfl rfl rfl ?_ ?_ ?_ (i := 2) (j := 8) (m := 10) 
    · refine au_lit (l := ([⟨0⟩] : List W64)) rfl rfl rfl (fun r1 => ?_)
      refine tri_nil ?_
      exact tn_in (h1_2_6 ⟨r1, r3⟩) (by repeat (first | exact trivial | refine ⟨rfl, ?_⟩)) (fun w h => h)
    · refine au_make (α := Int) (k := fn) (c := fn) rfl rfl (fun r4 => ?_)
      refine tri_front 1 rfl (by repeat (first | exact nf0 rfl | apply nfS rfl | exact nfR)) ?_
      refine tri_nil ?_
      exact tn_in (h1_6_8 ⟨r3, r4⟩) (by repeat (first | exact trivial | refine ⟨rfl, ?_⟩)) (fun w h => h)
    · refine au_alloc (fun g10 => ?_)
      refine tri_front 1 rfl (by repeat (first | exact nf0 rfl | apply nfS rfl | exact nfR)) ?_
      refine tri_nil ?_
      exact tn_in (h1_6_10 ⟨r3, g10⟩) (by repeat (first | exact trivial | refine ⟨rfl, ?_⟩)) (fun w h => h)
  refine tn_have (V := Row) 6 [true, true, false, true, false, true, false, true, true, false, false, false] (fun v => [(1, .int .i64 z), (0, .int .i64 (cn : Int)), (8, .pointer (some ⟨g8, 0, none⟩)), (44, entV 0 0 false false false false), (47, .int .i64 (pn : Int)), (49, .int .i64 (cn : Int)), (51, .int .i64 (fn : Int)), (45, .int .u64 0), (52, v.v)]) (fun v => inS v (List.replicate fn 0) :: hdC g8 hdN :: cs) ?_ (fun h1_8 => ?_)
  · rintro r4
    refine tn_op3 rfl rfl rfl ?_ ?_ ?_ (i := 2) (j := 6) (m := 10) 
    · refine au_lit (l := ([⟨0⟩] : List W64)) rfl rfl rfl (fun r1 => ?_)
      refine tri_nil ?_
      exact tn_in (h1_2_8 ⟨r1, r4⟩) (by repeat (first | exact trivial | refine ⟨rfl, ?_⟩)) (fun w h => h)
    · refine au_make (α := SV) (k := cn) (c := cn) rfl rfl (fun r3 => ?_)
      refine tri_nil ?_
      exact tn_in (h1_6_8 ⟨r3, r4⟩) (by repeat (first | exact trivial | refine ⟨rfl, ?_⟩)) (fun w h => h)
    · refine au_alloc (fun g10 => ?_)
      refine tri_front 1 rfl (by repeat (first | exact nf0 rfl | apply nfS rfl | exact nfR)) ?_
      refine tri_nil ?_
      exact tn_in (h1_8_10 ⟨r4, g10⟩) (by repeat (first | exact trivial | refine ⟨rfl, ?_⟩)) (fun w h => h)
  refine tn_have (V := Nat) 6 [true, true, false, true, false, true, false, true, false, false, true, false] (fun v => [(1, .int .i64 z), (0, .int .i64 (cn : Int)), (8, .pointer (some ⟨g8, 0, none⟩)), (44, entV 0 0 false false false false), (47, .int .i64 (pn : Int)), (49, .int .i64 (cn : Int)), (51, .int .i64 (fn : Int)), (45, .int .u64 0), (10, .pointer (some ⟨v, 0, none⟩))]) (fun v => hdC v hdN :: hdC g8 hdN :: cs) ?_ (fun h1_10 => ?_)
  · rintro g10
    refine tn_op3 rfl rfl rfl ?_ ?_ ?_ (i := 2) (j := 6) (m := 8) 
    · refine au_lit (l := ([⟨0⟩] : List W64)) rfl rfl rfl (fun r1 => ?_)
      refine tri_nil ?_
      exact tn_in (h1_2_10 ⟨r1, g10⟩) (by repeat (first | exact trivial | refine ⟨rfl, ?_⟩)) (fun w h => h)
    · refine au_make (α := SV) (k := cn) (c := cn) rfl rfl (fun r3 => ?_)
      refine tri_nil ?_
      exact tn_in (h1_6_10 ⟨r3, g10⟩) (by repeat (first | exact trivial | refine ⟨rfl, ?_⟩)) (fun w h => h)
    · refine au_make (α := Int) (k := fn) (c := fn) rfl rfl (fun r4 => ?_)
      refine tri_nil ?_
      exact tn_in (h1_8_10 ⟨r4, g10⟩) (by repeat (first | exact trivial | refine ⟨rfl, ?_⟩)) (fun w h => h)
  refine tn_have (V := Row × Row) 6 [true, false, false, true, false, true, true, true, true, false, false, false] (fun v => [(1, .int .i64 z), (0, .int .i64 (cn : Int)), (8, .pointer (some ⟨g8, 0, none⟩)), (44, entV 0 0 false false false false), (47, .int .i64 (pn : Int)), (49, .int .i64 (cn : Int)), (51, .int .i64 (fn : Int)), (50, v.1.v), (52, v.2.v)]) (fun v => pdS v.1 (List.replicate cn default) :: inS v.2 (List.replicate fn 0) :: hdC g8 hdN :: cs) ?_ (fun h6_8 => ?_)
  · rintro ⟨r3, r4⟩
    refine tn_op2 rfl rfl ?_ ?_ (i := 1) (j := 10) 
    · refine au_callC rfl rfl rfl rfl rfl (word_c w0 _ 0 0 false false false false) (fun _ => ?_)
      rw [show (encS 0 0 false false false false).1 = 0 from by decide]
      refine tri_nil ?_
      exact tn_in (h1_6_8 ⟨r3, r4⟩) (by repeat (first | exact trivial | refine ⟨rfl, ?_⟩)) (fun w h => h)
    · refine au_alloc (fun g10 => ?_)
      refine tri_front 2 rfl (by repeat (first | exact nf0 rfl | apply nfS rfl | exact nfR)) ?_
      refine tri_front 2 rfl (by repeat (first | exact nf0 rfl | apply nfS rfl | exact nfR)) ?_
      refine tri_nil ?_
      exact tn_in (h6_8_10 ⟨r3, r4, g10⟩) (by repeat (first | exact trivial | refine ⟨rfl, ?_⟩)) (fun w h => h)
  refine tn_have (V := Row × Nat) 6 [true, false, false, true, false, true, true, true, false, false, true, false] (fun v => [(1, .int .i64 z), (0, .int .i64 (cn : Int)), (8, .pointer (some ⟨g8, 0, none⟩)), (44, entV 0 0 false false false false), (47, .int .i64 (pn : Int)), (49, .int .i64 (cn : Int)), (51, .int .i64 (fn : Int)), (50, v.1.v), (10, .pointer (some ⟨v.2, 0, none⟩))]) (fun v => pdS v.1 (List.replicate cn default) :: hdC v.2 hdN :: hdC g8 hdN :: cs) ?_ (fun h6_10 => ?_)
  · rintro ⟨r3, g10⟩
    refine tn_op2 rfl rfl ?_ ?_ (i := 1) (j := 8) 
    · refine au_callC rfl rfl rfl rfl rfl (word_c w0 _ 0 0 false false false false) (fun _ => ?_)
      rw [show (encS 0 0 false false false false).1 = 0 from by decide]
      refine tri_nil ?_
      exact tn_in (h1_6_10 ⟨r3, g10⟩) (by repeat (first | exact trivial | refine ⟨rfl, ?_⟩)) (fun w h => h)
    · refine au_make (α := Int) (k := fn) (c := fn) rfl rfl (fun r4 => ?_)
      refine tri_front 1 rfl (by repeat (first | exact nf0 rfl | apply nfS rfl | exact nfR)) ?_
      refine tri_nil ?_
      exact tn_in (h6_8_10 ⟨r3, r4, g10⟩) (by repeat (first | exact trivial | refine ⟨rfl, ?_⟩)) (fun w h => h)
  refine tn_have (V := Row × Nat) 6 [true, false, false, true, false, true, false, true, true, false, true, false] (fun v => [(1, .int .i64 z), (0, .int .i64 (cn : Int)), (8, .pointer (some ⟨g8, 0, none⟩)), (44, entV 0 0 false false false false), (47, .int .i64 (pn : Int)), (49, .int .i64 (cn : Int)), (51, .int .i64 (fn : Int)), (52, v.1.v), (10, .pointer (some ⟨v.2, 0, none⟩))]) (fun v => inS v.1 (List.replicate fn 0) :: hdC v.2 hdN :: hdC g8 hdN :: cs) ?_ (fun h8_10 => ?_)
  · rintro ⟨r4, g10⟩
    refine tn_op2 rfl rfl ?_ ?_ (i := 1) (j := 6) 
    · refine au_callC rfl rfl rfl rfl rfl (word_c w0 _ 0 0 false false false false) (fun _ => ?_)
      rw [show (encS 0 0 false false false false).1 = 0 from by decide]
      refine tri_nil ?_
      exact tn_in (h1_8_10 ⟨r4, g10⟩) (by repeat (first | exact trivial | refine ⟨rfl, ?_⟩)) (fun w h => h)
    · refine au_make (α := SV) (k := cn) (c := cn) rfl rfl (fun r3 => ?_)
      refine tri_nil ?_
      exact tn_in (h6_8_10 ⟨r3, r4, g10⟩) (by repeat (first | exact trivial | refine ⟨rfl, ?_⟩)) (fun w h => h)
  refine tn_have (V := Unit) 7 [true, true, false, true, false, true, false, true, false, false, false, false] (fun v => [(1, .int .i64 z), (0, .int .i64 (cn : Int)), (8, .pointer (some ⟨g8, 0, none⟩)), (44, entV 0 0 false false false false), (47, .int .i64 (pn : Int)), (49, .int .i64 (cn : Int)), (51, .int .i64 (fn : Int)), (45, .int .u64 0)]) (fun v => hdC g8 hdN :: cs) ?_ (fun h1 => ?_)
  · rintro _
    refine tn_op4 rfl rfl rfl rfl ?_ ?_ ?_ ?_ (i := 2) (j := 6) (m := 8) (n4 := 10) 
    · refine au_lit (l := ([⟨0⟩] : List W64)) rfl rfl rfl (fun r1 => ?_)
      refine tri_nil ?_
      exact tn_in (h1_2 r1) (by repeat (first | exact trivial | refine ⟨rfl, ?_⟩)) (fun w h => h)
    · refine au_make (α := SV) (k := cn) (c := cn) rfl rfl (fun r3 => ?_)
      refine tri_nil ?_
      exact tn_in (h1_6 r3) (by repeat (first | exact trivial | refine ⟨rfl, ?_⟩)) (fun w h => h)
    · refine au_make (α := Int) (k := fn) (c := fn) rfl rfl (fun r4 => ?_)
      refine tri_nil ?_
      exact tn_in (h1_8 r4) (by repeat (first | exact trivial | refine ⟨rfl, ?_⟩)) (fun w h => h)
    · refine au_alloc (fun g10 => ?_)
      refine tri_nil ?_
      exact tn_in (h1_10 g10) (by repeat (first | exact trivial | refine ⟨rfl, ?_⟩)) (fun w h => h)
  refine tn_have (V := Row) 7 [true, false, false, true, false, true, true, true, false, false, false, false] (fun v => [(1, .int .i64 z), (0, .int .i64 (cn : Int)), (8, .pointer (some ⟨g8, 0, none⟩)), (44, entV 0 0 false false false false), (47, .int .i64 (pn : Int)), (49, .int .i64 (cn : Int)), (51, .int .i64 (fn : Int)), (50, v.v)]) (fun v => pdS v (List.replicate cn default) :: hdC g8 hdN :: cs) ?_ (fun h6 => ?_)
  · rintro r3
    refine tn_op3 rfl rfl rfl ?_ ?_ ?_ (i := 1) (j := 8) (m := 10) 
    · refine au_callC rfl rfl rfl rfl rfl (word_c w0 _ 0 0 false false false false) (fun _ => ?_)
      rw [show (encS 0 0 false false false false).1 = 0 from by decide]
      refine tri_nil ?_
      exact tn_in (h1_6 r3) (by repeat (first | exact trivial | refine ⟨rfl, ?_⟩)) (fun w h => h)
    · refine au_make (α := Int) (k := fn) (c := fn) rfl rfl (fun r4 => ?_)
      refine tri_front 1 rfl (by repeat (first | exact nf0 rfl | apply nfS rfl | exact nfR)) ?_
      refine tri_nil ?_
      exact tn_in (h6_8 ⟨r3, r4⟩) (by repeat (first | exact trivial | refine ⟨rfl, ?_⟩)) (fun w h => h)
    · refine au_alloc (fun g10 => ?_)
      refine tri_front 1 rfl (by repeat (first | exact nf0 rfl | apply nfS rfl | exact nfR)) ?_
      refine tri_nil ?_
      exact tn_in (h6_10 ⟨r3, g10⟩) (by repeat (first | exact trivial | refine ⟨rfl, ?_⟩)) (fun w h => h)
  refine tn_have (V := Row) 7 [true, false, false, true, false, true, false, true, true, false, false, false] (fun v => [(1, .int .i64 z), (0, .int .i64 (cn : Int)), (8, .pointer (some ⟨g8, 0, none⟩)), (44, entV 0 0 false false false false), (47, .int .i64 (pn : Int)), (49, .int .i64 (cn : Int)), (51, .int .i64 (fn : Int)), (52, v.v)]) (fun v => inS v (List.replicate fn 0) :: hdC g8 hdN :: cs) ?_ (fun h8 => ?_)
  · rintro r4
    refine tn_op3 rfl rfl rfl ?_ ?_ ?_ (i := 1) (j := 6) (m := 10) 
    · refine au_callC rfl rfl rfl rfl rfl (word_c w0 _ 0 0 false false false false) (fun _ => ?_)
      rw [show (encS 0 0 false false false false).1 = 0 from by decide]
      refine tri_nil ?_
      exact tn_in (h1_8 r4) (by repeat (first | exact trivial | refine ⟨rfl, ?_⟩)) (fun w h => h)
    · refine au_make (α := SV) (k := cn) (c := cn) rfl rfl (fun r3 => ?_)
      refine tri_nil ?_
      exact tn_in (h6_8 ⟨r3, r4⟩) (by repeat (first | exact trivial | refine ⟨rfl, ?_⟩)) (fun w h => h)
    · refine au_alloc (fun g10 => ?_)
      refine tri_front 1 rfl (by repeat (first | exact nf0 rfl | apply nfS rfl | exact nfR)) ?_
      refine tri_nil ?_
      exact tn_in (h8_10 ⟨r4, g10⟩) (by repeat (first | exact trivial | refine ⟨rfl, ?_⟩)) (fun w h => h)
  refine tn_have (V := Nat) 7 [true, false, false, true, false, true, false, true, false, false, true, false] (fun v => [(1, .int .i64 z), (0, .int .i64 (cn : Int)), (8, .pointer (some ⟨g8, 0, none⟩)), (44, entV 0 0 false false false false), (47, .int .i64 (pn : Int)), (49, .int .i64 (cn : Int)), (51, .int .i64 (fn : Int)), (10, .pointer (some ⟨v, 0, none⟩))]) (fun v => hdC v hdN :: hdC g8 hdN :: cs) ?_ (fun h10 => ?_)
  · rintro g10
    refine tn_op3 rfl rfl rfl ?_ ?_ ?_ (i := 1) (j := 6) (m := 8) 
    · refine au_callC rfl rfl rfl rfl rfl (word_c w0 _ 0 0 false false false false) (fun _ => ?_)
      rw [show (encS 0 0 false false false false).1 = 0 from by decide]
      refine tri_nil ?_
      exact tn_in (h1_10 g10) (by repeat (first | exact trivial | refine ⟨rfl, ?_⟩)) (fun w h => h)
    · refine au_make (α := SV) (k := cn) (c := cn) rfl rfl (fun r3 => ?_)
      refine tri_nil ?_
      exact tn_in (h6_10 ⟨r3, g10⟩) (by repeat (first | exact trivial | refine ⟨rfl, ?_⟩)) (fun w h => h)
    · refine au_make (α := Int) (k := fn) (c := fn) rfl rfl (fun r4 => ?_)
      refine tri_nil ?_
      exact tn_in (h8_10 ⟨r4, g10⟩) (by repeat (first | exact trivial | refine ⟨rfl, ?_⟩)) (fun w h => h)
  refine tn_have (V := Unit) 8 [true, false, false, true, false, true, false, true, false, false, false, false] (fun v => [(1, .int .i64 z), (0, .int .i64 (cn : Int)), (8, .pointer (some ⟨g8, 0, none⟩)), (44, entV 0 0 false false false false), (47, .int .i64 (pn : Int)), (49, .int .i64 (cn : Int)), (51, .int .i64 (fn : Int))]) (fun v => hdC g8 hdN :: cs) ?_ (fun h_ => ?_)
  · rintro _
    refine tn_op4 rfl rfl rfl rfl ?_ ?_ ?_ ?_ (i := 1) (j := 6) (m := 8) (n4 := 10) 
    · refine au_callC rfl rfl rfl rfl rfl (word_c w0 _ 0 0 false false false false) (fun _ => ?_)
      rw [show (encS 0 0 false false false false).1 = 0 from by decide]
      refine tri_nil ?_
      exact tn_in (h1 ()) (by repeat (first | exact trivial | refine ⟨rfl, ?_⟩)) (fun w h => h)
    · refine au_make (α := SV) (k := cn) (c := cn) rfl rfl (fun r3 => ?_)
      refine tri_nil ?_
      exact tn_in (h6 r3) (by repeat (first | exact trivial | refine ⟨rfl, ?_⟩)) (fun w h => h)
    · refine au_make (α := Int) (k := fn) (c := fn) rfl rfl (fun r4 => ?_)
      refine tri_nil ?_
      exact tn_in (h8 r4) (by repeat (first | exact trivial | refine ⟨rfl, ?_⟩)) (fun w h => h)
    · refine au_alloc (fun g10 => ?_)
      refine tri_nil ?_
      exact tn_in (h10 g10) (by repeat (first | exact trivial | refine ⟨rfl, ?_⟩)) (fun w h => h)
  exact tn_meet (h_ ()) (by repeat (first | exact trivial | refine ⟨rfl, ?_⟩)) (fun w h => h)
end
end Go.Proofs.Ytojfaelafakemaa
