/- Texts joined: ShRCopy. Each part's own remark says what it proves. -/
import Derived.Test.YtojfaelafakemaaGreatM20
import Derived.Test.YtojfaelafakemaaGreatM22
/- The walk of the reference's copy of a shootdown machine. No conditions. -/
set_option linter.unusedSimpArgs false
set_option linter.unusedVariables false
namespace Go.Proofs.YtojfaelafakemaaGreat
open Go Go.RowKit
theorem perm_snoc {c : Chunk} (ps N cs : List Chunk) : (c :: (ps ++ (N ++ cs))).Perm (ps ++ ((N ++ [c]) ++ cs)) := by
  refine List.perm_middle.symm.trans (List.Perm.append_left ps ?_)
  rw [List.append_assoc]
  exact List.perm_middle.symm
theorem perm_snoc2 {c : Chunk} (ps NB N cs : List Chunk) : (c :: (ps ++ ((NB ++ N) ++ cs))).Perm (ps ++ ((NB ++ (N ++ [c])) ++ cs)) := by
  have := perm_snoc (c := c) ps (NB ++ N) cs
  rw [List.append_assoc NB N [c]] at this
  exact this
attribute [local irreducible] decR enOk pgOk teOk ivOk tlOk checkM lbOk formM limM schk rlbOk rmapN rlimM
attribute [local irreducible] Code.wp wpList bodyPost Exit.then Exit.inBlock Calls wpQuiet Tri TriQ
section
variable (w0 : World) (cs : List Chunk)
set_option maxHeartbeats 4000000 in
theorem rcopy_c {h : SH} {xb : List TB} {xp : List SV} {m : SM} (hC : RdS (Hp w0 cs) h xb xp m) (hpl : m.pd.length = m.tl.length) (hb : m.tl.length ≤ 4 ∧ m.wd.length ≤ 256 ∧ m.tb.length ≤ 512) (hlm : m.lm.length ≤ 1000000) (hte : ∀ i, (m.tl.getD i default).l.length ≤ 1000000) (hpe : ∀ i, (m.pd.getD i default).length ≤ 1000000) :
    Cal Tryz.prog 65 [hdV h] (Hp w0 cs) (fun q : {q : SR // SOk q m} => hdV (hd q.1)) (fun q => Hp w0 (SC q.1 m ++ cs)) := by
  have htl := hC.tll
  have hpdl := hC.pdl
  refine cal_of_tri Tryz.func65 rfl Tryz.ntmps65 rfl ?_
  (repeat (first | refine tri_seq ?_ | refine tri_then ?_)); refine tri_region ?_; (repeat (first | refine au_pure ?_ | refine au_pass ?_ | refine au_box (fun _ => ?_) | refine au_alloc (fun _ => ?_) | refine au_store ?_ | refine au_make rfl rfl (fun _ => ?_) | refine au_lit rfl rfl rfl (fun _ => ?_) | refine au_append rfl rfl rfl rfl (fun _ => au_norm ?_) | refine au_storeE rfl rfl rfl rfl ?_)); refine tri_nil ?_; (repeat refine tri_then ?_)
  rename_i g1 g2
  have hC1 := hC.cons (c := hdC g1 h)
  refine tri_weak (H' := Hp w0 (hdC g2 hdN :: hdC g1 h :: cs)) (fun w h => h) ?_
  (repeat (first | refine zz ?_ | refine zv fun _ => ?_))
  rename_i g3
  refine tri_nilrow W64 51 ?_
  (repeat (first | refine zz ?_ | refine zv fun _ => ?_))
  refine tri_block ?_
  refine tri_loop2 (fun (k : Nat) (_ : Row) => k ≤ m.tb.length) (fun k _ => [(1, .pointer (some ⟨g1, 0, none⟩)), (2, .pointer (some ⟨g2, 0, none⟩)), (3, .pointer (some ⟨g3, 0, none⟩)), (4, .int .i64 (k : Int))])
    (fun k rt => Hp w0 (u64S rt (m.tb.take k) :: shC g3 rt.v (.slice none 0 0) (.slice none 0 0) (.slice none 0 0) (.slice none 0 0) :: hdC g2 hdN :: hdC g1 h :: cs)) (fun k _ => m.tb.length - k)
    0 (Row.nil w0.heap.size) (by omega) (by repeat (first | exact trivial | refine ⟨rfl, ?_⟩)) (fun w h => h) ?_
  rintro k rt hk
  (repeat (first | refine zz ?_ | refine zv fun _ => ?_))
  refine au_pure ?_ (hy := yl_len rfl rfl (hC1.tb.cons.cons.cons))
  (repeat (first | refine zz ?_ | refine zv fun _ => ?_))
  ((first | refine tri_cond (by rfl) (fun hc => ?_) (fun hc => ?_) | refine tri_gsplit (by rfl) (by rfl) (by (fail_if_success exact (rfl : _ = some (Value.bool true))); (fail_if_success exact (rfl : _ = some (Value.bool false))); rfl) (fun hc => ?_) (fun hc => ?_)) <;> (try simp only [decide_eq_true_eq, decide_eq_false_iff_not, beq_iff_eq, bne_iff_ne, ne_eq, Bool.not_eq_true', Bool.not_eq_false', beq_eq_false_iff_ne, bne_eq_false_iff_eq, Int.not_lt, Int.not_le, gt_iff_lt, ge_iff_le, Bool.and_eq_true, Bool.or_eq_true, Bool.and_eq_false_iff, Bool.or_eq_false_iff, Decidable.not_not, not_true_eq_false, not_false_eq_true, and_true, true_and, or_false, false_or, or_true, true_or, and_false, false_and, eq_self, Bool.true_eq_false, Bool.false_eq_true] at hc) <;> (try (exfalso; omega)))
  · have hkl : k < m.tb.length := by omega
    have hst := take_step hkl
    (repeat (first | refine zz ?_ | refine zv fun _ => ?_))
    refine tri_block ?_
    (repeat (first | refine tri_seq ?_ | refine tri_then ?_))
    have hT := hC1.tb.cons (c := shC g3 rt.v (.slice none 0 0) (.slice none 0 0) (.slice none 0 0) (.slice none 0 0))
    refine ar_held [10] (shC g3 rt.v (.slice none 0 0) (.slice none 0 0) (.slice none 0 0) (.slice none 0 0) :: hdC g1 h :: cs) rfl ?_
    refine ar_free 0 rfl rfl rfl ?_; refine ar_free 2 rfl rfl rfl ?_; refine ar_free 4 rfl rfl rfl ?_
    refine ar_take 1 rfl rfl rfl ?_; refine ar_take 3 rfl rfl rfl ?_
    refine ar_take 5 rfl rfl rfl ?_ (hy := yl_idx (k := k) rfl rfl hT (ix_nat rfl) (by rfl) (by omega))
    refine ar_take 6 rfl rfl rfl ?_ (hy := yl_loadE rfl rfl hT (by rfl) (by omega) (by rfl))
    obtain ⟨x, hx⟩ : ∃ x, x = m.tb.getD k default := ⟨_, rfl⟩
    rw [← hx] at hst ⊢
    refine ar_op 7 rfl ?_
    refine au_lit (l := ([x] : List W64)) rfl rfl rfl (fun r1 => ?_)
    refine tri_nil ?_; refine ar_in ?_
    refine ar_op 8 rfl ?_
    refine au_append (r := rt) (l2 := ([x] : List W64)) rfl rfl rfl rfl (fun r2 => au_norm ?_) (h2 := rd_chunk ⟨0, rfl⟩) (hb := by rw [List.length_take, List.length_singleton]; omega)
    refine tri_nil ?_; refine ar_in ?_
    refine ar_free 9 rfl rfl rfl ?_
    refine ar_op 10 rfl ?_
    refine au_store ?_
    refine tri_nil ?_; refine ar_ink ?_
    refine ar_done ?_
    (repeat (first | refine zz ?_ | refine zv fun _ => ?_))
    exact tri_nx2 (k + 1) r2 (by omega) (by omega) (by repeat (first | exact trivial | refine ⟨rfl, ?_⟩)) (fun w h => by rw [hst]; exact h.sub (by repeat (first | exact List.Sublist.refl _ | assumption | apply List.Sublist.cons_cons | apply List.Sublist.cons)))
  have hkt : k = m.tb.length := by omega
  subst hkt
  rw [List.take_length]
  (repeat (first | refine zz ?_ | refine zv fun _ => ?_))
  refine tri_nilrow TB 57 ?_
  refine tri_block ?_
  refine tri_loop3 (fun (c : Nat) (_ : Row) (bs : List Row) => c ≤ m.tl.length ∧ bs.length = c) (fun c _ _ => [(1, .pointer (some ⟨g1, 0, none⟩)), (2, .pointer (some ⟨g2, 0, none⟩)), (3, .pointer (some ⟨g3, 0, none⟩)), (5, .int .i64 (c : Int))])
    (fun c rb bs => Hp w0 (tlS rb (tlx bs (m.tl.take c)) :: u64S rt m.tb :: shC g3 rt.v rb.v (.slice none 0 0) (.slice none 0 0) (.slice none 0 0) :: hdC g2 hdN :: hdC g1 h :: (nestE 72 bs ((tls m).take c) ++ cs))) (fun c _ _ => m.tl.length - c)
    0 (Row.nil w0.heap.size) [] ⟨by omega, rfl⟩ (by repeat (first | exact trivial | refine ⟨rfl, ?_⟩)) (fun w h => h) ?_
  rintro c rb bs ⟨hcl, hbs⟩
  have hsub : cs.Sublist (nestE 72 bs ((tls m).take c) ++ cs) := List.sublist_append_right _ _
  have hCn : ∀ X : List Chunk, (hdC g1 h :: cs).Sublist X → RdS (Hp w0 X) h xb xp m := fun X hX => hC1.sub hX
  (repeat (first | refine zz ?_ | refine zv fun _ => ?_))
  refine au_pure ?_ (hy := yl_len rfl rfl (hCn _ (by repeat (first | exact List.Sublist.refl _ | assumption | apply List.Sublist.cons_cons | apply List.Sublist.cons))).tl)
  (repeat (first | refine zz ?_ | refine zv fun _ => ?_))
  ((first | refine tri_cond (by rfl) (fun hc => ?_) (fun hc => ?_) | refine tri_gsplit (by rfl) (by rfl) (by (fail_if_success exact (rfl : _ = some (Value.bool true))); (fail_if_success exact (rfl : _ = some (Value.bool false))); rfl) (fun hc => ?_) (fun hc => ?_)) <;> (try simp only [decide_eq_true_eq, decide_eq_false_iff_not, beq_iff_eq, bne_iff_ne, ne_eq, Bool.not_eq_true', Bool.not_eq_false', beq_eq_false_iff_ne, bne_eq_false_iff_eq, Int.not_lt, Int.not_le, gt_iff_lt, ge_iff_le, Bool.and_eq_true, Bool.or_eq_true, Bool.and_eq_false_iff, Bool.or_eq_false_iff, Decidable.not_not, not_true_eq_false, not_false_eq_true, and_true, true_and, or_false, false_or, or_true, true_or, and_false, false_and, eq_self, Bool.true_eq_false, Bool.false_eq_true] at hc) <;> (try (exfalso; omega)))
  · have hcc : c < m.tl.length := by omega
    have hz := hC.tz c
    have hle := hte c
    have hst : m.tl.take (c + 1) = m.tl.take c ++ [m.tl.getD c default] := take_step hcc
    have hst2 : (tls m).take (c + 1) = (tls m).take c ++ [(m.tl.getD c default).l] := by rw [← tls_get]; exact take_step (by simp; omega)
    have hxl : (tlx bs (m.tl.take c)).length ≤ 4 := by rw [tlx_len (by rw [hbs, List.length_take]; omega), List.length_take]; omega
    have hxs : ∀ re : Row, tlx bs (m.tl.take c) ++ [(⟨(m.tl.getD c default).z, re.sv⟩ : TB)] = tlx (bs ++ [re]) (m.tl.take (c + 1)) := fun re => by rw [hst, tlx_snoc (by rw [hbs, List.length_take]; omega)]
    have hns : ∀ re : Row, nestE 72 (bs ++ [re]) ((tls m).take (c + 1)) = nestE 72 bs ((tls m).take c) ++ [eS re (m.tl.getD c default).l] := fun re => by rw [hst2, nestE_snoc (by rw [hbs, List.length_take]; simp; omega)]
    have hEn : ∀ X : List Chunk, (hdC g1 h :: cs).Sublist X → RdH (Hp w0 X) (xb.getD c default).s.v (m.tl.getD c default).l := fun X hX => (hCn X hX).te c
    obtain ⟨b, hb'⟩ : ∃ b, b = m.tl.getD c default := ⟨_, rfl⟩
    obtain ⟨NB, hNB⟩ : ∃ N, N = nestE 72 bs ((tls m).take c) := ⟨_, rfl⟩
    obtain ⟨XX, hXX⟩ : ∃ X, X = tlx bs (m.tl.take c) := ⟨_, rfl⟩
    rw [← hb'] at hz hle hxs hns hEn
    rw [← hNB] at hns hsub ⊢
    rw [← hXX] at hxl hxs ⊢
    (repeat (first | refine zz ?_ | refine zv fun _ => ?_))
    refine tri_block ?_
    (repeat (first | refine zz ?_ | refine zv fun _ => ?_))
    refine au_pure ?_ (hy := yl_idx (k := c) rfl rfl (hCn _ (by repeat (first | exact List.Sublist.refl _ | assumption | apply List.Sublist.cons_cons | apply List.Sublist.cons))).tl (ix_nat rfl) (by rfl) (by omega))
    refine au_pure ?_ (hy := yl_fieldE rfl rfl)
    refine au_pure ?_ (hy := yl_loadE rfl rfl (hCn _ (by repeat (first | exact List.Sublist.refl _ | assumption | apply List.Sublist.cons_cons | apply List.Sublist.cons))).tl (by rfl) (by omega) (by rfl))
    rw [hz]
    (repeat (first | refine zz ?_ | refine zv fun _ => ?_))
    rename_i g6
    refine tri_nilrow TE 72 ?_
    (repeat (first | refine zz ?_ | refine zv fun _ => ?_))
    refine tri_block ?_
    refine tri_loop2 (fun (k : Nat) (_ : Row) => k ≤ b.l.length) (fun k _ => [(1, .pointer (some ⟨g1, 0, none⟩)), (2, .pointer (some ⟨g2, 0, none⟩)), (3, .pointer (some ⟨g3, 0, none⟩)), (5, .int .i64 (c : Int)), (6, .pointer (some ⟨g6, 0, none⟩)), (7, .int .i64 (k : Int))])
      (fun k re => Hp w0 (eS re (b.l.take k) :: tlbC g6 b.z re.v :: tlS rb XX :: u64S rt m.tb :: shC g3 rt.v rb.v (.slice none 0 0) (.slice none 0 0) (.slice none 0 0) :: hdC g2 hdN :: hdC g1 h :: (NB ++ cs))) (fun k _ => b.l.length - k)
      0 (Row.nil w0.heap.size) (by omega) (by repeat (first | exact trivial | refine ⟨rfl, ?_⟩)) (fun w h => h) ?_
    rintro k re hk
    (repeat (first | refine zz ?_ | refine zv fun _ => ?_))
    refine au_pure ?_ (hy := yl_idx (k := c) rfl rfl (hCn _ (by repeat (first | exact List.Sublist.refl _ | assumption | apply List.Sublist.cons_cons | apply List.Sublist.cons))).tl (ix_nat rfl) (by rfl) (by omega))
    refine au_pure ?_ (hy := yl_fieldE rfl rfl)
    refine au_pure ?_ (hy := yl_loadE rfl rfl (hCn _ (by repeat (first | exact List.Sublist.refl _ | assumption | apply List.Sublist.cons_cons | apply List.Sublist.cons))).tl (by rfl) (by omega) (by rfl))
    refine au_pure ?_ (hy := yl_len rfl rfl (hEn _ (by repeat (first | exact List.Sublist.refl _ | assumption | apply List.Sublist.cons_cons | apply List.Sublist.cons))))
    (repeat (first | refine zz ?_ | refine zv fun _ => ?_))
    ((first | refine tri_cond (by rfl) (fun hc => ?_) (fun hc => ?_) | refine tri_gsplit (by rfl) (by rfl) (by (fail_if_success exact (rfl : _ = some (Value.bool true))); (fail_if_success exact (rfl : _ = some (Value.bool false))); rfl) (fun hc => ?_) (fun hc => ?_)) <;> (try simp only [decide_eq_true_eq, decide_eq_false_iff_not, beq_iff_eq, bne_iff_ne, ne_eq, Bool.not_eq_true', Bool.not_eq_false', beq_eq_false_iff_ne, bne_eq_false_iff_eq, Int.not_lt, Int.not_le, gt_iff_lt, ge_iff_le, Bool.and_eq_true, Bool.or_eq_true, Bool.and_eq_false_iff, Bool.or_eq_false_iff, Decidable.not_not, not_true_eq_false, not_false_eq_true, and_true, true_and, or_false, false_or, or_true, true_or, and_false, false_and, eq_self, Bool.true_eq_false, Bool.false_eq_true] at hc) <;> (try (exfalso; omega)))
    · have hkl : k < b.l.length := by omega
      have hst3 := take_step hkl
      (repeat (first | refine zz ?_ | refine zv fun _ => ?_))
      refine tri_block ?_
      (repeat (first | refine tri_seq ?_ | refine tri_then ?_))
      have hTx := (hCn (tlbC g6 b.z re.v :: hdC g1 h :: cs) (by repeat (first | exact List.Sublist.refl _ | assumption | apply List.Sublist.cons_cons | apply List.Sublist.cons))).tl
      have hEx := hEn (tlbC g6 b.z re.v :: hdC g1 h :: cs) (by repeat (first | exact List.Sublist.refl _ | assumption | apply List.Sublist.cons_cons | apply List.Sublist.cons))
      refine ar_held [14] (tlbC g6 b.z re.v :: hdC g1 h :: cs) rfl ?_
      refine ar_free 0 rfl rfl rfl ?_; refine ar_free 2 rfl rfl rfl ?_; refine ar_free 4 rfl rfl rfl ?_; refine ar_free 8 rfl rfl rfl ?_
      refine ar_take 1 rfl rfl rfl ?_; refine ar_take 3 rfl rfl rfl ?_
      refine ar_take 5 rfl rfl rfl ?_ (hy := yl_idx (k := c) rfl rfl hTx (ix_nat rfl) (by rfl) (by omega))
      refine ar_take 6 rfl rfl rfl ?_
      refine ar_take 7 rfl rfl rfl ?_ (hy := yl_loadE rfl rfl hTx (by rfl) (by omega) (by rfl))
      refine ar_take 9 rfl rfl rfl ?_ (hy := yl_idx (k := k) rfl rfl hEx (ix_nat rfl) (by rfl) (by omega))
      refine ar_take 10 rfl rfl rfl ?_ (hy := yl_loadEN rfl rfl hEx (by rfl) (by omega) (by repeat (first | exact nf0 rfl | apply nfS rfl | exact nfR)) (by rfl))
      obtain ⟨x, hx⟩ : ∃ x, x = b.l.getD k default := ⟨_, rfl⟩
      rw [← hx] at hst3 ⊢
      refine ar_op 11 rfl ?_
      refine au_lit (l := ([x] : List TE)) rfl rfl rfl (fun r1 => ?_)
      refine tri_nil ?_; refine ar_in ?_
      refine ar_op 12 rfl ?_
      refine au_append (r := re) (l2 := ([x] : List TE)) rfl rfl rfl rfl (fun r2 => au_norm ?_) (h2 := rd_chunk ⟨0, rfl⟩) (hb := by rw [List.length_take, List.length_singleton]; omega)
      refine tri_nil ?_; refine ar_in ?_
      refine ar_free 13 rfl rfl rfl ?_
      refine ar_op 14 rfl ?_
      refine au_store ?_
      refine tri_nil ?_; refine ar_ink ?_
      refine ar_done ?_
      (repeat (first | refine zz ?_ | refine zv fun _ => ?_))
      exact tri_nx2 (k + 1) r2 (by omega) (by omega) (by repeat (first | exact trivial | refine ⟨rfl, ?_⟩)) (fun w h => by rw [hst3]; exact h.sub (by repeat (first | exact List.Sublist.refl _ | assumption | apply List.Sublist.cons_cons | apply List.Sublist.cons)))
    · have hke : k = b.l.length := by omega
      subst hke
      rw [List.take_length]
      (repeat (first | refine zz ?_ | refine zv fun _ => ?_))
      refine au_lit (l := ([⟨b.z, re.sv⟩] : List TB)) rfl rfl rfl (fun r1 => ?_)
      refine au_append (r := rb) (l2 := ([⟨b.z, re.sv⟩] : List TB)) rfl rfl rfl rfl (fun r2 => au_norm ?_) (h2 := rd_chunk ⟨0, rfl⟩) (hb := by rw [List.length_singleton]; omega)
      (repeat (first | refine zz ?_ | refine zv fun _ => ?_))
      refine tri_nx3 (c + 1) r2 (bs ++ [re]) (by omega) ⟨by omega, by simp [hbs]⟩ (by repeat (first | exact trivial | refine ⟨rfl, ?_⟩)) (fun w hw => ?_)
      rw [hns re, ← hxs re]
      have h2 : Hp w0 (eS re b.l :: tlS r2 (XX ++ [⟨b.z, re.sv⟩]) :: u64S rt m.tb :: shC g3 rt.v r2.v (.slice none 0 0) (.slice none 0 0) (.slice none 0 0) :: hdC g2 hdN :: hdC g1 h :: (NB ++ cs)) w := hw.sub (by repeat (first | exact List.Sublist.refl _ | assumption | apply List.Sublist.cons_cons | apply List.Sublist.cons))
      exact HpM.perm h2 (perm_snoc [_, _, _, _, _] NB cs)
  have hcx : c = m.tl.length := by omega
  subst hcx
  have e1 : (tls m).take m.tl.length = tls m := List.take_of_length_le (by simp)
  rw [List.take_length] 
  rw [e1] at hsub ⊢
  obtain ⟨NB, hNB⟩ : ∃ N, N = nestE 72 bs (tls m) := ⟨_, rfl⟩
  obtain ⟨XX, hXX⟩ : ∃ X, X = tlx bs m.tl := ⟨_, rfl⟩
  rw [← hNB] at hsub ⊢
  rw [← hXX]
  (repeat (first | refine zz ?_ | refine zv fun _ => ?_))
  refine tri_nilrow SV 61 ?_
  refine tri_block ?_
  refine tri_loop3 (fun (c : Nat) (_ : Row) (ps : List Row) => c ≤ m.pd.length ∧ ps.length = c) (fun c _ _ => [(1, .pointer (some ⟨g1, 0, none⟩)), (2, .pointer (some ⟨g2, 0, none⟩)), (3, .pointer (some ⟨g3, 0, none⟩)), (8, .int .i64 (c : Int))])
    (fun c rp ps => Hp w0 (tlS rb XX :: pdS rp (ps.map Row.sv) :: u64S rt m.tb :: shC g3 rt.v rb.v rp.v (.slice none 0 0) (.slice none 0 0) :: hdC g2 hdN :: hdC g1 h :: ((NB ++ nestE 63 ps (m.pd.take c)) ++ cs))) (fun c _ _ => m.pd.length - c)
    0 (Row.nil w0.heap.size) [] ⟨by omega, rfl⟩ (by repeat (first | exact trivial | refine ⟨rfl, ?_⟩)) (fun w hw => ?_) ?_
  · have h2 : Hp w0 (pdS (Row.nil w0.heap.size) [] :: tlS rb XX :: u64S rt m.tb :: shC g3 rt.v rb.v (.slice none 0 0) (.slice none 0 0) (.slice none 0 0) :: hdC g2 hdN :: hdC g1 h :: (NB ++ cs)) w := hw
    show Hp w0 (tlS rb XX :: pdS (Row.nil w0.heap.size) [] :: u64S rt m.tb :: shC g3 rt.v rb.v (.slice none 0 0) (.slice none 0 0) (.slice none 0 0) :: hdC g2 hdN :: hdC g1 h :: ((NB ++ []) ++ cs)) w
    rw [List.append_nil]
    exact HpM.perm h2 (List.Perm.swap _ _ _)
  rintro c rp ps ⟨hcl2, hps⟩
  have hsub2 : cs.Sublist ((NB ++ nestE 63 ps (m.pd.take c)) ++ cs) := List.sublist_append_right _ _
  (repeat (first | refine zz ?_ | refine zv fun _ => ?_))
  refine au_pure ?_ (hy := yl_len rfl rfl (hCn _ (by repeat (first | exact List.Sublist.refl _ | assumption | apply List.Sublist.cons_cons | apply List.Sublist.cons))).pd)
  (repeat (first | refine zz ?_ | refine zv fun _ => ?_))
  ((first | refine tri_cond (by rfl) (fun hc => ?_) (fun hc => ?_) | refine tri_gsplit (by rfl) (by rfl) (by (fail_if_success exact (rfl : _ = some (Value.bool true))); (fail_if_success exact (rfl : _ = some (Value.bool false))); rfl) (fun hc => ?_) (fun hc => ?_)) <;> (try simp only [decide_eq_true_eq, decide_eq_false_iff_not, beq_iff_eq, bne_iff_ne, ne_eq, Bool.not_eq_true', Bool.not_eq_false', beq_eq_false_iff_ne, bne_eq_false_iff_eq, Int.not_lt, Int.not_le, gt_iff_lt, ge_iff_le, Bool.and_eq_true, Bool.or_eq_true, Bool.and_eq_false_iff, Bool.or_eq_false_iff, Decidable.not_not, not_true_eq_false, not_false_eq_true, and_true, true_and, or_false, false_or, or_true, true_or, and_false, false_and, eq_self, Bool.true_eq_false, Bool.false_eq_true] at hc) <;> (try (exfalso; omega)))
  · have hcc : c < m.pd.length := by omega
    have hpc := hpe c
    have hst2 : m.pd.take (c + 1) = m.pd.take c ++ [m.pd.getD c default] := take_step hcc
    have hns : ∀ re : Row, nestE 63 (ps ++ [re]) (m.pd.take (c + 1)) = nestE 63 ps (m.pd.take c) ++ [ivS re (m.pd.getD c default)] := fun re => by rw [hst2, nestE_snoc (by rw [hps, List.length_take]; omega)]
    have hEn : ∀ X : List Chunk, (hdC g1 h :: cs).Sublist X → RdH (Hp w0 X) (xp.getD c default).v (m.pd.getD c default) := fun X hX => (hCn X hX).pe c
    have hyl : (ps.map Row.sv).length ≤ 4 := by rw [List.length_map, hps]; omega
    have hys : ∀ re : Row, ps.map Row.sv ++ [re.sv] = (ps ++ [re]).map Row.sv := fun re => by rw [List.map_append]; rfl
    obtain ⟨pl, hpl'⟩ : ∃ b, b = m.pd.getD c default := ⟨_, rfl⟩
    obtain ⟨NP, hNP⟩ : ∃ N, N = nestE 63 ps (m.pd.take c) := ⟨_, rfl⟩
    obtain ⟨YY, hYY⟩ : ∃ X, X = ps.map Row.sv := ⟨_, rfl⟩
    rw [← hpl'] at hpc hns hEn
    rw [← hNP] at hns hsub2 ⊢
    rw [← hYY] at hyl hys ⊢
    (repeat (first | refine zz ?_ | refine zv fun _ => ?_))
    refine tri_block ?_
    refine tri_nilrow IV 63 ?_
    (repeat (first | refine zz ?_ | refine zv fun _ => ?_))
    refine tri_block ?_
    refine tri_loop2 (fun (k : Nat) (_ : Row) => k ≤ pl.length) (fun k re => [(1, .pointer (some ⟨g1, 0, none⟩)), (2, .pointer (some ⟨g2, 0, none⟩)), (3, .pointer (some ⟨g3, 0, none⟩)), (8, .int .i64 (c : Int)), (9, re.v), (10, .int .i64 (k : Int))])
      (fun k re => Hp w0 (ivS re (pl.take k) :: tlS rb XX :: pdS rp YY :: u64S rt m.tb :: shC g3 rt.v rb.v rp.v (.slice none 0 0) (.slice none 0 0) :: hdC g2 hdN :: hdC g1 h :: ((NB ++ NP) ++ cs))) (fun k _ => pl.length - k)
      0 (Row.nil w0.heap.size) (by omega) (by repeat (first | exact trivial | refine ⟨rfl, ?_⟩)) (fun w h => h) ?_
    rintro k re hk
    (repeat (first | refine zz ?_ | refine zv fun _ => ?_))
    refine au_pure ?_ (hy := yl_idx (k := c) rfl rfl (hCn _ (by repeat (first | exact List.Sublist.refl _ | assumption | apply List.Sublist.cons_cons | apply List.Sublist.cons))).pd (ix_nat rfl) (by rfl) (by omega))
    refine au_pure ?_ (hy := yl_loadE rfl rfl (hCn _ (by repeat (first | exact List.Sublist.refl _ | assumption | apply List.Sublist.cons_cons | apply List.Sublist.cons))).pd (by rfl) (by omega) (by rfl))
    refine au_pure ?_ (hy := yl_len rfl rfl (hEn _ (by repeat (first | exact List.Sublist.refl _ | assumption | apply List.Sublist.cons_cons | apply List.Sublist.cons))))
    (repeat (first | refine zz ?_ | refine zv fun _ => ?_))
    ((first | refine tri_cond (by rfl) (fun hc => ?_) (fun hc => ?_) | refine tri_gsplit (by rfl) (by rfl) (by (fail_if_success exact (rfl : _ = some (Value.bool true))); (fail_if_success exact (rfl : _ = some (Value.bool false))); rfl) (fun hc => ?_) (fun hc => ?_)) <;> (try simp only [decide_eq_true_eq, decide_eq_false_iff_not, beq_iff_eq, bne_iff_ne, ne_eq, Bool.not_eq_true', Bool.not_eq_false', beq_eq_false_iff_ne, bne_eq_false_iff_eq, Int.not_lt, Int.not_le, gt_iff_lt, ge_iff_le, Bool.and_eq_true, Bool.or_eq_true, Bool.and_eq_false_iff, Bool.or_eq_false_iff, Decidable.not_not, not_true_eq_false, not_false_eq_true, and_true, true_and, or_false, false_or, or_true, true_or, and_false, false_and, eq_self, Bool.true_eq_false, Bool.false_eq_true] at hc) <;> (try (exfalso; omega)))
    · have hkl : k < pl.length := by omega
      have hst3 := take_step hkl
      (repeat (first | refine zz ?_ | refine zv fun _ => ?_))
      refine tri_block ?_
      (repeat (first | refine zz ?_ | refine zv fun _ => ?_))
      refine au_pure ?_ (hy := yl_idx (k := c) rfl rfl (hCn _ (by repeat (first | exact List.Sublist.refl _ | assumption | apply List.Sublist.cons_cons | apply List.Sublist.cons))).pd (ix_nat rfl) (by rfl) (by omega))
      refine au_pure ?_ (hy := yl_loadE rfl rfl (hCn _ (by repeat (first | exact List.Sublist.refl _ | assumption | apply List.Sublist.cons_cons | apply List.Sublist.cons))).pd (by rfl) (by omega) (by rfl))
      (repeat (first | refine zz ?_ | refine zv fun _ => ?_))
      refine au_pure ?_ (hy := yl_idx (k := k) rfl rfl (hEn _ (by repeat (first | exact List.Sublist.refl _ | assumption | apply List.Sublist.cons_cons | apply List.Sublist.cons))) (ix_nat rfl) (by rfl) (by omega))
      refine au_pure ?_ (hy := yl_loadEN rfl rfl (hEn _ (by repeat (first | exact List.Sublist.refl _ | assumption | apply List.Sublist.cons_cons | apply List.Sublist.cons))) (by rfl) (by omega) (by repeat (first | exact nf0 rfl | apply nfS rfl | exact nfR)) (by rfl))
      obtain ⟨x, hx⟩ : ∃ x, x = pl.getD k default := ⟨_, rfl⟩
      rw [← hx] at hst3 ⊢
      refine au_lit (l := ([x] : List IV)) rfl rfl rfl (fun r1 => ?_)
      refine au_append (r := re) (l2 := ([x] : List IV)) rfl rfl rfl rfl (fun r2 => au_norm ?_) (h2 := rd_chunk ⟨0, rfl⟩) (hb := by rw [List.length_take, List.length_singleton]; omega)
      (repeat (first | refine zz ?_ | refine zv fun _ => ?_))
      exact tri_nx2 (k + 1) r2 (by omega) (by omega) (by repeat (first | exact trivial | refine ⟨rfl, ?_⟩)) (fun w h => by rw [hst3]; exact h.sub (by repeat (first | exact List.Sublist.refl _ | assumption | apply List.Sublist.cons_cons | apply List.Sublist.cons)))
    · have hke : k = pl.length := by omega
      subst hke
      rw [List.take_length]
      (repeat (first | refine zz ?_ | refine zv fun _ => ?_))
      refine au_lit (l := ([re.sv] : List SV)) rfl rfl rfl (fun r1 => ?_)
      refine au_append (r := rp) (l2 := ([re.sv] : List SV)) rfl rfl rfl rfl (fun r2 => au_norm ?_) (h2 := rd_chunk ⟨0, rfl⟩) (hb := by rw [List.length_singleton]; omega)
      (repeat (first | refine zz ?_ | refine zv fun _ => ?_))
      refine tri_nx3 (c + 1) r2 (ps ++ [re]) (by omega) ⟨by omega, by simp [hps]⟩ (by repeat (first | exact trivial | refine ⟨rfl, ?_⟩)) (fun w hw => ?_)
      rw [hns re, ← hys re]
      have h2 : Hp w0 (ivS re pl :: tlS rb XX :: pdS r2 (YY ++ [re.sv]) :: u64S rt m.tb :: shC g3 rt.v rb.v r2.v (.slice none 0 0) (.slice none 0 0) :: hdC g2 hdN :: hdC g1 h :: ((NB ++ NP) ++ cs)) w := hw.sub (by repeat (first | exact List.Sublist.refl _ | assumption | apply List.Sublist.cons_cons | apply List.Sublist.cons))
      exact HpM.perm h2 (perm_snoc2 [_, _, _, _, _, _] NB NP cs)
  have hcy : c = m.pd.length := by omega
  subst hcy
  rw [List.take_length] at hsub2 ⊢
  obtain ⟨NP, hNP⟩ : ∃ N, N = nestE 63 ps m.pd := ⟨_, rfl⟩
  obtain ⟨YY, hYY⟩ : ∃ X, X = ps.map Row.sv := ⟨_, rfl⟩
  rw [← hNP] at hsub2 ⊢
  rw [← hYY]
  (repeat (first | refine zz ?_ | refine zv fun _ => ?_))
  refine tri_nilrow LB 47 ?_
  refine tri_block ?_
  refine tri_loop2 (fun (k : Nat) (_ : Row) => k ≤ m.lm.length) (fun k _ => [(1, .pointer (some ⟨g1, 0, none⟩)), (2, .pointer (some ⟨g2, 0, none⟩)), (3, .pointer (some ⟨g3, 0, none⟩)), (11, .int .i64 (k : Int))])
    (fun k rl => Hp w0 (lbS rl (m.lm.take k) :: tlS rb XX :: pdS rp YY :: u64S rt m.tb :: shC g3 rt.v rb.v rp.v rl.v (.slice none 0 0) :: hdC g2 hdN :: hdC g1 h :: ((NB ++ NP) ++ cs))) (fun k _ => m.lm.length - k)
    0 (Row.nil w0.heap.size) (by omega) (by repeat (first | exact trivial | refine ⟨rfl, ?_⟩)) (fun w h => h) ?_
  rintro k rl hk
  (repeat (first | refine zz ?_ | refine zv fun _ => ?_))
  refine au_pure ?_ (hy := yl_len rfl rfl (hCn _ (by repeat (first | exact List.Sublist.refl _ | assumption | apply List.Sublist.cons_cons | apply List.Sublist.cons))).lm)
  (repeat (first | refine zz ?_ | refine zv fun _ => ?_))
  ((first | refine tri_cond (by rfl) (fun hc => ?_) (fun hc => ?_) | refine tri_gsplit (by rfl) (by rfl) (by (fail_if_success exact (rfl : _ = some (Value.bool true))); (fail_if_success exact (rfl : _ = some (Value.bool false))); rfl) (fun hc => ?_) (fun hc => ?_)) <;> (try simp only [decide_eq_true_eq, decide_eq_false_iff_not, beq_iff_eq, bne_iff_ne, ne_eq, Bool.not_eq_true', Bool.not_eq_false', beq_eq_false_iff_ne, bne_eq_false_iff_eq, Int.not_lt, Int.not_le, gt_iff_lt, ge_iff_le, Bool.and_eq_true, Bool.or_eq_true, Bool.and_eq_false_iff, Bool.or_eq_false_iff, Decidable.not_not, not_true_eq_false, not_false_eq_true, and_true, true_and, or_false, false_or, or_true, true_or, and_false, false_and, eq_self, Bool.true_eq_false, Bool.false_eq_true] at hc) <;> (try (exfalso; omega)))
  · have hkl : k < m.lm.length := by omega
    have hst := take_step hkl
    (repeat (first | refine zz ?_ | refine zv fun _ => ?_))
    refine tri_block ?_
    (repeat (first | refine tri_seq ?_ | refine tri_then ?_))
    have hT := (hCn (shC g3 rt.v rb.v rp.v rl.v (.slice none 0 0) :: hdC g1 h :: cs) (by repeat (first | exact List.Sublist.refl _ | assumption | apply List.Sublist.cons_cons | apply List.Sublist.cons))).lm
    refine ar_held [10] (shC g3 rt.v rb.v rp.v rl.v (.slice none 0 0) :: hdC g1 h :: cs) rfl ?_
    refine ar_free 0 rfl rfl rfl ?_; refine ar_free 2 rfl rfl rfl ?_; refine ar_free 4 rfl rfl rfl ?_
    refine ar_take 1 rfl rfl rfl ?_; refine ar_take 3 rfl rfl rfl ?_
    refine ar_take 5 rfl rfl rfl ?_ (hy := yl_idx (k := k) rfl rfl hT (ix_nat rfl) (by rfl) (by omega))
    refine ar_take 6 rfl rfl rfl ?_ (hy := yl_loadEN rfl rfl hT (by rfl) (by omega) (by repeat (first | exact nf0 rfl | apply nfS rfl | exact nfR)) (by rfl))
    obtain ⟨x, hx⟩ : ∃ x, x = m.lm.getD k default := ⟨_, rfl⟩
    rw [← hx] at hst ⊢
    refine ar_op 7 rfl ?_
    refine au_lit (l := ([x] : List LB)) rfl rfl rfl (fun r1 => ?_)
    refine tri_nil ?_; refine ar_in ?_
    refine ar_op 8 rfl ?_
    refine au_append (r := rl) (l2 := ([x] : List LB)) rfl rfl rfl rfl (fun r2 => au_norm ?_) (h2 := rd_chunk ⟨0, rfl⟩) (hb := by rw [List.length_take, List.length_singleton]; omega)
    refine tri_nil ?_; refine ar_in ?_
    refine ar_free 9 rfl rfl rfl ?_
    refine ar_op 10 rfl ?_
    refine au_store ?_
    refine tri_nil ?_; refine ar_ink ?_
    refine ar_done ?_
    (repeat (first | refine zz ?_ | refine zv fun _ => ?_))
    exact tri_nx2 (k + 1) r2 (by omega) (by omega) (by repeat (first | exact trivial | refine ⟨rfl, ?_⟩)) (fun w h => by rw [hst]; exact h.sub (by repeat (first | exact List.Sublist.refl _ | assumption | apply List.Sublist.cons_cons | apply List.Sublist.cons)))
  have hkt : k = m.lm.length := by omega
  subst hkt
  rw [List.take_length]
  (repeat (first | refine zz ?_ | refine zv fun _ => ?_))
  refine tri_nilrow Int 3 ?_
  refine tri_block ?_
  refine tri_loop2 (fun (k : Nat) (_ : Row) => k ≤ m.wd.length) (fun k _ => [(1, .pointer (some ⟨g1, 0, none⟩)), (2, .pointer (some ⟨g2, 0, none⟩)), (3, .pointer (some ⟨g3, 0, none⟩)), (12, .int .i64 (k : Int))])
    (fun k rw' => Hp w0 (inS rw' (m.wd.take k) :: lbS rl m.lm :: tlS rb XX :: pdS rp YY :: u64S rt m.tb :: shC g3 rt.v rb.v rp.v rl.v rw'.v :: hdC g2 hdN :: hdC g1 h :: ((NB ++ NP) ++ cs))) (fun k _ => m.wd.length - k)
    0 (Row.nil w0.heap.size) (by omega) (by repeat (first | exact trivial | refine ⟨rfl, ?_⟩)) (fun w h => h) ?_
  rintro k rw' hk
  (repeat (first | refine zz ?_ | refine zv fun _ => ?_))
  refine au_pure ?_ (hy := yl_len rfl rfl (hCn _ (by repeat (first | exact List.Sublist.refl _ | assumption | apply List.Sublist.cons_cons | apply List.Sublist.cons))).wd)
  (repeat (first | refine zz ?_ | refine zv fun _ => ?_))
  ((first | refine tri_cond (by rfl) (fun hc => ?_) (fun hc => ?_) | refine tri_gsplit (by rfl) (by rfl) (by (fail_if_success exact (rfl : _ = some (Value.bool true))); (fail_if_success exact (rfl : _ = some (Value.bool false))); rfl) (fun hc => ?_) (fun hc => ?_)) <;> (try simp only [decide_eq_true_eq, decide_eq_false_iff_not, beq_iff_eq, bne_iff_ne, ne_eq, Bool.not_eq_true', Bool.not_eq_false', beq_eq_false_iff_ne, bne_eq_false_iff_eq, Int.not_lt, Int.not_le, gt_iff_lt, ge_iff_le, Bool.and_eq_true, Bool.or_eq_true, Bool.and_eq_false_iff, Bool.or_eq_false_iff, Decidable.not_not, not_true_eq_false, not_false_eq_true, and_true, true_and, or_false, false_or, or_true, true_or, and_false, false_and, eq_self, Bool.true_eq_false, Bool.false_eq_true] at hc) <;> (try (exfalso; omega)))
  · have hkl : k < m.wd.length := by omega
    have hst := take_step hkl
    (repeat (first | refine zz ?_ | refine zv fun _ => ?_))
    refine tri_block ?_
    (repeat (first | refine tri_seq ?_ | refine tri_then ?_))
    have hT := (hCn (shC g3 rt.v rb.v rp.v rl.v rw'.v :: hdC g1 h :: cs) (by repeat (first | exact List.Sublist.refl _ | assumption | apply List.Sublist.cons_cons | apply List.Sublist.cons))).wd
    refine ar_held [10] (shC g3 rt.v rb.v rp.v rl.v rw'.v :: hdC g1 h :: cs) rfl ?_
    refine ar_free 0 rfl rfl rfl ?_; refine ar_free 2 rfl rfl rfl ?_; refine ar_free 4 rfl rfl rfl ?_
    refine ar_take 1 rfl rfl rfl ?_; refine ar_take 3 rfl rfl rfl ?_
    refine ar_take 5 rfl rfl rfl ?_ (hy := yl_idx (k := k) rfl rfl hT (ix_nat rfl) (by rfl) (by omega))
    refine ar_take 6 rfl rfl rfl ?_ (hy := yl_loadE rfl rfl hT (by rfl) (by omega) (by rfl))
    obtain ⟨x, hx⟩ : ∃ x, x = m.wd.getD k default := ⟨_, rfl⟩
    rw [← hx] at hst ⊢
    refine ar_op 7 rfl ?_
    refine au_lit (l := ([x] : List Int)) rfl rfl rfl (fun r1 => ?_)
    refine tri_nil ?_; refine ar_in ?_
    refine ar_op 8 rfl ?_
    refine au_append (r := rw') (l2 := ([x] : List Int)) rfl rfl rfl rfl (fun r2 => au_norm ?_) (h2 := rd_chunk ⟨0, rfl⟩) (hb := by rw [List.length_take, List.length_singleton]; omega)
    refine tri_nil ?_; refine ar_in ?_
    refine ar_free 9 rfl rfl rfl ?_
    refine ar_op 10 rfl ?_
    refine au_store ?_
    refine tri_nil ?_; refine ar_ink ?_
    refine ar_done ?_
    (repeat (first | refine zz ?_ | refine zv fun _ => ?_))
    exact tri_nx2 (k + 1) r2 (by omega) (by omega) (by repeat (first | exact trivial | refine ⟨rfl, ?_⟩)) (fun w h => by rw [hst]; exact h.sub (by repeat (first | exact List.Sublist.refl _ | assumption | apply List.Sublist.cons_cons | apply List.Sublist.cons)))
  have hkt : k = m.wd.length := by omega
  subst hkt
  rw [List.take_length]
  (repeat (first | refine zz ?_ | refine zv fun _ => ?_))
  refine au_done1 rfl ?_
  intro w hw
  refine ⟨⟨⟨rt, rb, rp, rl, rw', bs, ps⟩, ⟨hbs, hps⟩⟩, rfl, ?_⟩
  have h2 : Hp w0 (inS rw' m.wd :: lbS rl m.lm :: tlS rb XX :: pdS rp YY :: u64S rt m.tb :: ((NB ++ NP) ++ cs)) w := hw.sub (by repeat (first | exact List.Sublist.refl _ | assumption | apply List.Sublist.cons_cons | apply List.Sublist.cons))
  have h3 := HpM.perm h2 (lit_perm (p := [0, 1, 2, 3, 4]) (q := [2, 3, 4, 1, 0]) (by decide) (fun i => match i with | 0 => inS rw' m.wd | 1 => lbS rl m.lm | 2 => tlS rb XX | 3 => pdS rp YY | _ => u64S rt m.tb) ((NB ++ NP) ++ cs))
  rw [hNB, hNP, hXX, hYY] at h3
  exact h3
end
end Go.Proofs.YtojfaelafakemaaGreat
