/- Texts joined: ShRNew. Each part's own remark says what it proves. -/
import Derived.Test.YtojfaelafakemaaGreatM33
import Derived.Test.YtojfaelafakemaaGreatM34
/- The walk of the reference of the shootdown machine's New. No conditions. -/
set_option linter.unusedSimpArgs false
set_option linter.unusedVariables false
namespace Go.Proofs.YtojfaelafakemaaGreat
open Go Go.RowKit
attribute [local irreducible] decR enOk pgOk teOk ivOk tlOk checkM lbOk formM limM schk lookM markR mkL invL mkX mkE invE
attribute [local irreducible] Code.wp wpList bodyPost Exit.then Exit.inBlock Calls wpQuiet Tri TriQ
section
variable (w0 : World) (cs : List Chunk)
set_option maxHeartbeats 4000000 in
theorem rsnew_c (c z f p : Int) : Cal Tryz.prog 7 [.int .i64 c, .int .i64 z, .int .i64 f, .int .i64 p] (Hp w0 cs) (fun q : {q : SR // SOk q (snewM c z f p).1} => .tuple #[hdV (hd q.1), .int .i64 (snewM c z f p).2]) (fun q => Hp w0 (SC q.1 (snewM c z f p).1 ++ cs)) := by
  refine cal_of_tri Tryz.func7 rfl Tryz.ntmps7 rfl ?_
  (repeat (first | refine tri_seq ?_ | refine tri_then ?_)); refine tri_region ?_; (repeat (first | refine au_pure ?_ | refine au_pass ?_ | refine au_box (fun _ => ?_) | refine au_alloc (fun _ => ?_) | refine au_store ?_ | refine au_make rfl rfl (fun _ => ?_) | refine au_lit rfl rfl rfl (fun _ => ?_) | refine au_append rfl rfl rfl rfl (fun _ => au_norm ?_) | refine au_storeE rfl rfl rfl rfl ?_)); refine tri_nil ?_; (repeat refine tri_then ?_)
  rename_i g8
  refine tri_weak (H' := Hp w0 (hdC g8 hdN :: cs)) (fun w h => h) ?_
  refine tri_seq ?_
  refine tri_cut1 (fun _ : Unit => snewBad c z f p = false) (fun _ => [(0, .int .i64 c), (1, .int .i64 z), (2, .int .i64 f), (3, .int .i64 p), (8, .pointer (some ⟨g8, 0, none⟩))]) (fun _ => Hp w0 (hdC g8 hdN :: cs)) ?_ ?_
  · have hbad : snewBad c z f p = true → snewM c z f p = (.zero, 2) := fun h => by unfold snewM; rw [if_pos (of_decide_eq_true h)]
    have hno : ∀ w, snewBad c z f p = true → Hp w0 (hdC g8 hdN :: cs) w → ∃ q : {q : SR // SOk q (snewM c z f p).1}, Ending.returned (.tuple #[hdV hdN, .int .i64 2]) = .returned (.tuple #[hdV (hd q.1), .int .i64 (snewM c z f p).2]) ∧ Hp w0 (SC q.1 (snewM c z f p).1 ++ cs) w := fun w h hw => zero_res hw (hbad h) (by repeat (first | exact List.Sublist.refl _ | assumption | apply List.Sublist.cons_cons | apply List.Sublist.cons))
    (repeat (first | refine zz ?_ | refine zv fun _ => ?_))
    cases h1 : decide (c < 1)
    case true =>
      have h1 := of_decide_eq_true h1
      (repeat (first | refine zz ?_ | refine zv fun _ => ?_))
      refine au_done2 rfl ?_
      exact fun w hw => hno w (decide_eq_true (by omega)) hw
    have h1 := of_decide_eq_false h1
    (repeat (first | refine zz ?_ | refine zv fun _ => ?_))
    cases h2 : decide (c > 4)
    case true =>
      have h2 := of_decide_eq_true h2
      (repeat (first | refine zz ?_ | refine zv fun _ => ?_))
      refine au_done2 rfl ?_
      exact fun w hw => hno w (decide_eq_true (by omega)) hw
    have h2 := of_decide_eq_false h2
    (repeat (first | refine zz ?_ | refine zv fun _ => ?_))
    cases h3 : decide (z < 1)
    case true =>
      have h3 := of_decide_eq_true h3
      (repeat (first | refine zz ?_ | refine zv fun _ => ?_))
      refine au_done2 rfl ?_
      exact fun w hw => hno w (decide_eq_true (by omega)) hw
    have h3 := of_decide_eq_false h3
    (repeat (first | refine zz ?_ | refine zv fun _ => ?_))
    cases h4 : decide (z > 16)
    case true =>
      have h4 := of_decide_eq_true h4
      (repeat (first | refine zz ?_ | refine zv fun _ => ?_))
      refine au_done2 rfl ?_
      exact fun w hw => hno w (decide_eq_true (by omega)) hw
    have h4 := of_decide_eq_false h4
    (repeat (first | refine zz ?_ | refine zv fun _ => ?_))
    cases h5 : decide (f < 1)
    case true =>
      have h5 := of_decide_eq_true h5
      (repeat (first | refine zz ?_ | refine zv fun _ => ?_))
      refine au_done2 rfl ?_
      exact fun w hw => hno w (decide_eq_true (by omega)) hw
    have h5 := of_decide_eq_false h5
    (repeat (first | refine zz ?_ | refine zv fun _ => ?_))
    cases h6 : decide (f > 256)
    case true =>
      have h6 := of_decide_eq_true h6
      (repeat (first | refine zz ?_ | refine zv fun _ => ?_))
      refine au_done2 rfl ?_
      exact fun w hw => hno w (decide_eq_true (by omega)) hw
    have h6 := of_decide_eq_false h6
    (repeat (first | refine zz ?_ | refine zv fun _ => ?_))
    cases h7 : decide (p < 1)
    case true =>
      have h7 := of_decide_eq_true h7
      (repeat (first | refine zz ?_ | refine zv fun _ => ?_))
      refine au_done2 rfl ?_
      exact fun w hw => hno w (decide_eq_true (by omega)) hw
    have h7 := of_decide_eq_false h7
    (repeat (first | refine zz ?_ | refine zv fun _ => ?_))
    cases h8 : decide (p > 512)
    case true =>
      have h8 := of_decide_eq_true h8
      (repeat (first | refine zz ?_ | refine zv fun _ => ?_))
      refine au_done2 rfl ?_
      exact fun w hw => hno w (decide_eq_true (by omega)) hw
    have h8 := of_decide_eq_false h8
    (repeat (first | refine zz ?_ | refine zv fun _ => ?_))
    exact tri_mt1 () (decide_eq_false (by omega)) (by repeat (first | exact trivial | refine ⟨rfl, ?_⟩)) (fun _ h => h)
  intro _ hnb
  unfold snewBad at hnb
  have hnb := of_decide_eq_false hnb
  have e1 : snewM c z f p = (⟨List.replicate p.toNat ⟨0⟩, List.replicate c.toNat ⟨z, []⟩, List.replicate c.toNat [], [], List.replicate f.toNat 0⟩, 0) := by unfold snewM; rw [if_neg hnb]
  obtain ⟨cn, rfl⟩ : ∃ k : Nat, c = (k : Int) := ⟨c.toNat, by omega⟩
  obtain ⟨fn, rfl⟩ : ∃ k : Nat, f = (k : Int) := ⟨f.toNat, by omega⟩
  obtain ⟨pn, rfl⟩ : ∃ k : Nat, p = (k : Int) := ⟨p.toNat, by omega⟩
  rw [Int.toNat_natCast, Int.toNat_natCast, Int.toNat_natCast] at e1
  have hpn : pn ≤ 512 := by omega
  (repeat (first | refine zz ?_ | refine zv fun _ => ?_))
  rename_i g10
  refine tri_nilrow W64 51 ?_
  refine tri_block ?_
  refine tri_loop2 (fun (k : Nat) (_ : Row) => k ≤ pn) (fun k _ => [(0, .int .i64 (cn : Int)), (1, .int .i64 z), (2, .int .i64 (fn : Int)), (3, .int .i64 (pn : Int)), (8, .pointer (some ⟨g8, 0, none⟩)), (10, .pointer (some ⟨g10, 0, none⟩)), (11, .int .i64 (k : Int))])
    (fun k rt => Hp w0 (u64S rt (List.replicate k ⟨0⟩) :: shC g10 rt.v (.slice none 0 0) (.slice none 0 0) (.slice none 0 0) (.slice none 0 0) :: hdC g8 hdN :: cs)) (fun k _ => pn - k)
    0 (Row.nil w0.heap.size) (by omega) (by repeat (first | exact trivial | refine ⟨rfl, ?_⟩)) (fun w h => h.sub (by repeat (first | exact List.Sublist.refl _ | assumption | apply List.Sublist.cons_cons | apply List.Sublist.cons))) ?_
  rintro k rt hk
  (repeat (first | refine zz ?_ | refine zv fun _ => ?_))
  ((first | refine tri_cond (by rfl) (fun hc => ?_) (fun hc => ?_) | refine tri_gsplit (by rfl) (by rfl) (by (fail_if_success exact (rfl : _ = some (Value.bool true))); (fail_if_success exact (rfl : _ = some (Value.bool false))); rfl) (fun hc => ?_) (fun hc => ?_)) <;> (try simp only [decide_eq_true_eq, decide_eq_false_iff_not, beq_iff_eq, bne_iff_ne, ne_eq, Bool.not_eq_true', Bool.not_eq_false', beq_eq_false_iff_ne, bne_eq_false_iff_eq, Int.not_lt, Int.not_le, gt_iff_lt, ge_iff_le, Bool.and_eq_true, Bool.or_eq_true, Bool.and_eq_false_iff, Bool.or_eq_false_iff, Decidable.not_not, not_true_eq_false, not_false_eq_true, and_true, true_and, or_false, false_or, or_true, true_or, and_false, false_and, eq_self, Bool.true_eq_false, Bool.false_eq_true] at hc) <;> (try (exfalso; omega)))
  · (repeat (first | refine zz ?_ | refine zv fun _ => ?_))
    refine tri_block ?_
    (repeat (first | refine tri_seq ?_ | refine tri_then ?_))
    refine ar_held [7] (shC g10 rt.v (.slice none 0 0) (.slice none 0 0) (.slice none 0 0) (.slice none 0 0) :: cs) rfl ?_
    refine ar_free 0 rfl rfl rfl ?_
    refine ar_take 1 rfl rfl rfl ?_
    refine ar_free 2 rfl rfl rfl ?_ (hy := yl_build rfl rfl rfl (by repeat (first | exact nf0 rfl | apply nfS rfl | exact nfR)))
    refine ar_op 3 rfl ?_
    refine au_callC rfl rfl rfl rfl rfl (rword_c w0 _ 0 0 false false false false) (fun _ => ?_)
    rw [show (encS 0 0 false false false false).1 = 0 from by decide]
    refine tri_nil ?_; refine ar_in ?_
    refine ar_op 4 rfl ?_
    refine au_lit (l := ([⟨0⟩] : List W64)) rfl rfl rfl (fun r1 => ?_)
    refine tri_nil ?_; refine ar_in ?_
    refine ar_op 5 rfl ?_
    refine au_append (r := rt) (l2 := ([⟨0⟩] : List W64)) rfl rfl rfl rfl (fun r2 => au_norm ?_) (h2 := rd_chunk ⟨0, rfl⟩) (hb := by rw [List.length_replicate, List.length_singleton]; omega)
    refine tri_nil ?_; refine ar_in ?_
    refine ar_free 6 rfl rfl rfl ?_
    refine ar_op 7 rfl ?_
    refine au_store ?_
    refine tri_nil ?_; refine ar_ink ?_
    refine ar_done ?_
    (repeat (first | refine zz ?_ | refine zv fun _ => ?_))
    exact tri_nx2 (k + 1) r2 (by omega) (by omega) (by repeat (first | exact trivial | refine ⟨rfl, ?_⟩)) (fun w h => by rw [List.replicate_succ']; exact h.sub (by repeat (first | exact List.Sublist.refl _ | assumption | apply List.Sublist.cons_cons | apply List.Sublist.cons)))
  have hke : k = pn := by omega
  subst hke
  (repeat (first | refine zz ?_ | refine zv fun _ => ?_))
  refine tri_nilrow TB 57 ?_
  refine tri_nilrow SV 61 ?_
  refine tri_block ?_
  refine tri_loop3 (fun (c : Nat) (_ : Row) (_ : Row) => c ≤ cn) (fun c _ _ => [(0, .int .i64 (cn : Int)), (1, .int .i64 z), (2, .int .i64 (fn : Int)), (8, .pointer (some ⟨g8, 0, none⟩)), (10, .pointer (some ⟨g10, 0, none⟩)), (12, .int .i64 (c : Int))])
    (fun c rb rp => Hp w0 (pdS rp (List.replicate c default) :: tlS rb (List.replicate c (⟨z, ⟨none, 0, 0⟩⟩ : TB)) :: u64S rt (List.replicate k ⟨0⟩) :: shC g10 rt.v rb.v rp.v (.slice none 0 0) (.slice none 0 0) :: hdC g8 hdN :: cs)) (fun c _ _ => cn - c)
    0 (Row.nil w0.heap.size) (Row.nil w0.heap.size) (by omega) (by repeat (first | exact trivial | refine ⟨rfl, ?_⟩)) (fun w h => h.sub (by repeat (first | exact List.Sublist.refl _ | assumption | apply List.Sublist.cons_cons | apply List.Sublist.cons))) ?_
  rintro c rb rp hc
  (repeat (first | refine zz ?_ | refine zv fun _ => ?_))
  ((first | refine tri_cond (by rfl) (fun hc => ?_) (fun hc => ?_) | refine tri_gsplit (by rfl) (by rfl) (by (fail_if_success exact (rfl : _ = some (Value.bool true))); (fail_if_success exact (rfl : _ = some (Value.bool false))); rfl) (fun hc => ?_) (fun hc => ?_)) <;> (try simp only [decide_eq_true_eq, decide_eq_false_iff_not, beq_iff_eq, bne_iff_ne, ne_eq, Bool.not_eq_true', Bool.not_eq_false', beq_eq_false_iff_ne, bne_eq_false_iff_eq, Int.not_lt, Int.not_le, gt_iff_lt, ge_iff_le, Bool.and_eq_true, Bool.or_eq_true, Bool.and_eq_false_iff, Bool.or_eq_false_iff, Decidable.not_not, not_true_eq_false, not_false_eq_true, and_true, true_and, or_false, false_or, or_true, true_or, and_false, false_and, eq_self, Bool.true_eq_false, Bool.false_eq_true] at hc) <;> (try (exfalso; omega)))
  · (repeat (first | refine zz ?_ | refine zv fun _ => ?_))
    refine tri_block ?_
    (repeat (first | refine zz ?_ | refine zv fun _ => ?_))
    refine au_call rfl rfl (cl_of rfl rfl rfl (fun _ h => Ret.hp (rnew_any z _) h)) ?_
    rw [show newZ z = z from if_neg (by omega), show newE z = 0 from if_neg (by omega)]
    (repeat (first | refine zz ?_ | refine zv fun _ => ?_))
    refine au_lit (l := ([⟨z, ⟨none, 0, 0⟩⟩] : List TB)) rfl rfl rfl (fun rx => ?_)
    refine au_append (r := rb) (l2 := ([⟨z, ⟨none, 0, 0⟩⟩] : List TB)) rfl rfl rfl rfl (fun ry => au_norm ?_) (h2 := rd_chunk ⟨0, rfl⟩) (hb := by rw [List.length_replicate, List.length_singleton]; omega)
    (repeat (first | refine zz ?_ | refine zv fun _ => ?_))
    refine au_lit (l := ([⟨none, 0, 0⟩] : List SV)) rfl rfl rfl (fun rx2 => ?_)
    refine au_append (r := rp) (l2 := ([⟨none, 0, 0⟩] : List SV)) rfl rfl rfl rfl (fun ry2 => au_norm ?_) (h2 := rd_chunk ⟨0, rfl⟩) (hb := by rw [List.length_replicate, List.length_singleton]; omega)
    (repeat (first | refine zz ?_ | refine zv fun _ => ?_))
    refine tri_nx3 (c + 1) ry ry2 (by omega) (by omega) (by repeat (first | exact trivial | refine ⟨rfl, ?_⟩)) (fun w hw => ?_)
    rw [List.replicate_succ', List.replicate_succ']
    exact hw.sub (by repeat (first | exact List.Sublist.refl _ | assumption | apply List.Sublist.cons_cons | apply List.Sublist.cons))
  have hce : c = cn := by omega
  subst hce
  (repeat (first | refine zz ?_ | refine zv fun _ => ?_))
  refine tri_nilrow Int 3 ?_
  refine tri_block ?_
  refine tri_loop2 (fun (i : Nat) (_ : Row) => i ≤ fn) (fun i _ => [(2, .int .i64 (fn : Int)), (8, .pointer (some ⟨g8, 0, none⟩)), (10, .pointer (some ⟨g10, 0, none⟩)), (15, .int .i64 (i : Int))])
    (fun i r4 => Hp w0 (inS r4 (List.replicate i 0) :: pdS rp (List.replicate c default) :: tlS rb (List.replicate c (⟨z, ⟨none, 0, 0⟩⟩ : TB)) :: u64S rt (List.replicate k ⟨0⟩) :: shC g10 rt.v rb.v rp.v (.slice none 0 0) r4.v :: hdC g8 hdN :: cs)) (fun i _ => fn - i)
    0 (Row.nil w0.heap.size) (by omega) (by repeat (first | exact trivial | refine ⟨rfl, ?_⟩)) (fun w h => h.sub (by repeat (first | exact List.Sublist.refl _ | assumption | apply List.Sublist.cons_cons | apply List.Sublist.cons))) ?_
  rintro i r4 hi
  (repeat (first | refine zz ?_ | refine zv fun _ => ?_))
  ((first | refine tri_cond (by rfl) (fun hc => ?_) (fun hc => ?_) | refine tri_gsplit (by rfl) (by rfl) (by (fail_if_success exact (rfl : _ = some (Value.bool true))); (fail_if_success exact (rfl : _ = some (Value.bool false))); rfl) (fun hc => ?_) (fun hc => ?_)) <;> (try simp only [decide_eq_true_eq, decide_eq_false_iff_not, beq_iff_eq, bne_iff_ne, ne_eq, Bool.not_eq_true', Bool.not_eq_false', beq_eq_false_iff_ne, bne_eq_false_iff_eq, Int.not_lt, Int.not_le, gt_iff_lt, ge_iff_le, Bool.and_eq_true, Bool.or_eq_true, Bool.and_eq_false_iff, Bool.or_eq_false_iff, Decidable.not_not, not_true_eq_false, not_false_eq_true, and_true, true_and, or_false, false_or, or_true, true_or, and_false, false_and, eq_self, Bool.true_eq_false, Bool.false_eq_true] at hc) <;> (try (exfalso; omega)))
  · (repeat (first | refine zz ?_ | refine zv fun _ => ?_))
    refine tri_block ?_
    (repeat (first | refine zz ?_ | refine zv fun _ => ?_))
    refine au_lit (l := ([0] : List Int)) rfl rfl rfl (fun rx => ?_)
    refine au_append (r := r4) (l2 := ([0] : List Int)) rfl rfl rfl rfl (fun ry => au_norm ?_) (h2 := rd_chunk ⟨0, rfl⟩) (hb := by rw [List.length_replicate, List.length_singleton]; omega)
    (repeat (first | refine zz ?_ | refine zv fun _ => ?_))
    exact tri_nx2 (i + 1) ry (by omega) (by omega) (by repeat (first | exact trivial | refine ⟨rfl, ?_⟩)) (fun w h => by rw [List.replicate_succ']; exact h.sub (by repeat (first | exact List.Sublist.refl _ | assumption | apply List.Sublist.cons_cons | apply List.Sublist.cons)))
  have hie : i = fn := by omega
  subst hie
  (repeat (first | refine zz ?_ | refine zv fun _ => ?_))
  refine au_done2 rfl ?_
  intro w hw
  have h9 : Hp w0 (inS r4 (List.replicate i 0) :: pdS rp (List.replicate c default) :: tlS rb (List.replicate c (⟨z, ⟨none, 0, 0⟩⟩ : TB)) :: u64S rt (List.replicate k ⟨0⟩) :: cs) w := hw.sub (by repeat (first | exact List.Sublist.refl _ | assumption | apply List.Sublist.cons_cons | apply List.Sublist.cons))
  have h0 : Hp w0 (tlS rb (List.replicate c (⟨z, ⟨none, 0, 0⟩⟩ : TB)) :: u64S rt (List.replicate k ⟨0⟩) :: pdS rp (List.replicate c default) :: inS r4 (List.replicate i 0) :: cs) w := HpM.perm h9 (lit_perm (p := [0, 1, 2, 3]) (q := [2, 3, 1, 0]) (by decide) (fun j => match j with | 0 => inS r4 (List.replicate i 0) | 1 => pdS rp (List.replicate c default) | 2 => tlS rb (List.replicate c (⟨z, ⟨none, 0, 0⟩⟩ : TB)) | _ => u64S rt (List.replicate k ⟨0⟩)) cs)
  have h2 := nil_rows (e := 72) (α := TE) (nil_rows (e := 63) (α := IV) h0 c) c
  have h3 := h2.push0 (c := lbS (Row.nil w0.heap.size) []) rfl rfl (Own.nil w _ _)
  have h4 := HpM.perm h3 (new_perm _ _ _ _ _ _ _ _)
  refine good_res (m' := ⟨List.replicate k ⟨0⟩, List.replicate c ⟨z, []⟩, List.replicate c [], [], List.replicate i 0⟩) (q := ⟨rt, rb, rp, Row.nil w0.heap.size, r4, List.replicate c (Row.nil w0.heap.size), List.replicate c (Row.nil w0.heap.size)⟩) e1 ⟨by simp, by simp⟩ h4 ?_
  show (tlS rb (tlx (List.replicate c (Row.nil w0.heap.size)) (List.replicate c ⟨z, []⟩)) :: pdS rp ((List.replicate c (Row.nil w0.heap.size)).map Row.sv) :: u64S rt (List.replicate k ⟨0⟩) :: lbS (Row.nil w0.heap.size) [] :: inS r4 (List.replicate i 0) :: ((nestE 72 (List.replicate c (Row.nil w0.heap.size)) ((List.replicate c (⟨z, []⟩ : TL)).map TL.l) ++ nestE 63 (List.replicate c (Row.nil w0.heap.size)) (List.replicate c [])) ++ cs)).Sublist _
  rw [tlx_rep, List.map_replicate, List.map_replicate, row_nil_sv]
  exact List.Sublist.refl _
end
end Go.Proofs.YtojfaelafakemaaGreat
