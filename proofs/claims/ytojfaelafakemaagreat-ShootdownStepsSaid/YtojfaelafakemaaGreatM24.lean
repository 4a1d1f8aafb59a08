/- Texts joined: ShOps2, ShOps3. Each part's own remark says what it proves. -/
import Derived.Test.YtojfaelafakemaaGreatM22
/- The walks of the shootdown machine's parts: use, notify. No conditions. -/
set_option linter.unusedSimpArgs false
set_option linter.unusedVariables false
namespace Go.Proofs.YtojfaelafakemaaGreat
open Go Go.RowKit
theorem focusP {α : Type} [Enc α] {e : Nat} {rs : List Row} {L : List (List α)} (hl : rs.length = L.length) {i : Nat} (hi : i < L.length) (K NB cs : List Chunk) : (K ++ ((NB ++ nestE e rs L) ++ cs)).Perm (slC (rs.getD i (Row.nil 0)) e (L.getD i default) :: (K ++ ((NB ++ nxE e rs L i) ++ cs))) := by
  have h := nestE_focus (e := e) hl hi (K ++ NB) cs
  have e1 : ∀ X : List Chunk, K ++ ((NB ++ X) ++ cs) = (K ++ NB) ++ (X ++ cs) := fun X => by simp
  rw [e1, e1]
  exact h
theorem unfocusP {α : Type} [Enc α] {e : Nat} {rs : List Row} {L : List (List α)} (hl : rs.length = L.length) {i : Nat} (hi : i < L.length) (r' : Row) (l' : List α) (K NB cs : List Chunk) : (slC r' e l' :: (K ++ ((NB ++ nxE e rs L i) ++ cs))).Perm (K ++ ((NB ++ nestE e (rs.set i r') (L.set i l')) ++ cs)) := by
  have h := nestE_unfocus (e := e) hl hi r' l' (K ++ NB) cs
  have e1 : ∀ X : List Chunk, K ++ ((NB ++ X) ++ cs) = (K ++ NB) ++ (X ++ cs) := fun X => by simp
  rw [e1, e1]
  exact h
theorem focusB {α : Type} [Enc α] {e : Nat} {rs : List Row} {L : List (List α)} (hl : rs.length = L.length) {i : Nat} (hi : i < L.length) (K NP cs : List Chunk) : (K ++ ((nestE e rs L ++ NP) ++ cs)).Perm (slC (rs.getD i (Row.nil 0)) e (L.getD i default) :: (K ++ ((nxE e rs L i ++ NP) ++ cs))) := by
  rw [List.append_assoc, List.append_assoc]
  exact nestE_focus (e := e) hl hi K (NP ++ cs)
theorem unfocusB {α : Type} [Enc α] {e : Nat} {rs : List Row} {L : List (List α)} (hl : rs.length = L.length) {i : Nat} (hi : i < L.length) (r' : Row) (l' : List α) (K NP cs : List Chunk) : (slC r' e l' :: (K ++ ((nxE e rs L i ++ NP) ++ cs))).Perm (K ++ ((nestE e (rs.set i r') (L.set i l') ++ NP) ++ cs)) := by
  rw [List.append_assoc, List.append_assoc]
  exact nestE_unfocus (e := e) hl hi r' l' K (NP ++ cs)
section
variable {m : SM} {p : Int}
theorem ntf_len : ∀ k, (ntfM m p k).1.length = m.pd.length
  | 0 => rfl
  | k + 1 => by
    unfold ntfM
    split
    · simp [ntf_len k]
    · exact ntf_len k
theorem ntf_get : ∀ k j, k ≤ j → (ntfM m p k).1.getD j default = m.pd.getD j default
  | 0, _, _ => rfl
  | k + 1, j, h => by
    unfold ntfM
    split
    · rcases Nat.lt_or_ge k (ntfM m p k).1.length with hk | hk
      · rw [gd_set hk, if_neg (by omega)]; exact ntf_get k j (by omega)
      · rw [List.set_eq_of_length_le hk]; exact ntf_get k j (by omega)
    · exact ntf_get k j (by omega)
theorem ntf_bd : ∀ k, 0 ≤ (ntfM m p k).2 ∧ (ntfM m p k).2 < 2 ^ k
  | 0 => by unfold ntfM; simp
  | k + 1 => by
    have := ntf_bd k
    have e : (2 : Int) ^ (k + 1) = 2 ^ k * 2 := Int.pow_succ ..
    unfold ntfM
    split
    · simp only; omega
    · omega
theorem ntf_yes {k : Nat} (h : covsM m k p = true) : ntfM m p (k + 1) = ((ntfM m p k).1.set k ((m.pd.getD k default) ++ [⟨0, p, false⟩]), (ntfM m p k).2 + 2 ^ k) := by
  conv => lhs; unfold ntfM
  rw [if_pos h]
theorem ntf_no {k : Nat} (h : covsM m k p = false) : ntfM m p (k + 1) = ntfM m p k := by
  conv => lhs; unfold ntfM
  rw [if_neg (by rw [h]; simp)]
end
attribute [local irreducible] decR enOk pgOk teOk ivOk tlOk checkM lbOk formM limM schk lookM
attribute [local irreducible] Code.wp wpList bodyPost Exit.then Exit.inBlock Calls wpQuiet Tri TriQ
section
variable (w0 : World) (cs : List Chunk)
set_option maxHeartbeats 1000000 in
theorem use_c {q : SR} {m : SM} (f : Int) (w : Bool) (v : Int) (hk : SOk q m) (hf : 0 ≤ f ∧ f < m.wd.length) (hl : m.wd.length ≤ 9223372036854775807) :
    Cal Tryz.prog 54 [hdV (hd q), .int .i64 f, .bool w, .int .i64 v] (Hp w0 (SC q m ++ cs)) (fun _ : Unit => .tuple #[hdV (hd q), .int .i64 (m.wd.getD f.toNat default), .int .i64 0]) (fun _ => Hp w0 (SC q (useM m f w v) ++ cs)) := by
  refine cal_of_tri Tryz.func54 rfl Tryz.ntmps54 rfl ?_
  (repeat (first | refine tri_seq ?_ | refine tri_then ?_)); refine tri_region ?_; (repeat (first | refine au_pure ?_ | refine au_pass ?_ | refine au_box (fun _ => ?_) | refine au_alloc (fun _ => ?_) | refine au_store ?_ | refine au_make rfl rfl (fun _ => ?_) | refine au_lit rfl rfl rfl (fun _ => ?_) | refine au_append rfl rfl rfl rfl (fun _ => au_norm ?_) | refine au_storeE rfl rfl rfl rfl ?_)); refine tri_nil ?_; (repeat refine tri_then ?_)
  rename_i g4 g8
  have hR : ∀ l : List Int, RdH (Hp w0 (shC g8 (.slice none 0 0) (.slice none 0 0) (.slice none 0 0) (.slice none 0 0) (.slice none 0 0) :: hdC g4 (hd q) :: tlS q.b (tlx q.bs m.tl) :: pdS q.p (q.ps.map Row.sv) :: u64S q.t m.tb :: lbS q.l m.lm :: inS q.w l :: ((SNb q m ++ SNp q m) ++ cs))) q.w.v l := fun l => rd_chunk ⟨6, rfl⟩
  (repeat (first | refine zz ?_ | refine zv fun _ => ?_))
  refine au_pure ?_ (hy := yl_idx (k := f.toNat) rfl rfl (hR _) (ix_int rfl (by omega)) (by rfl) (by omega))
  refine au_pure ?_ (hy := yl_loadE rfl rfl (hR _) (by rfl) (by omega) (by rfl))
  (repeat (first | refine zz ?_ | refine zv fun _ => ?_))
  cases w with
  | false =>
    (repeat (first | refine zz ?_ | refine zv fun _ => ?_))
    refine au_done3 rfl ?_
    exact fun w hw => ⟨(), rfl, hw.sub (by repeat (first | exact List.Sublist.refl _ | assumption | apply List.Sublist.cons_cons | apply List.Sublist.cons))⟩
  | true =>
    (repeat (first | refine zz ?_ | refine zv fun _ => ?_))
    refine au_pure ?_ (hy := yl_idx (k := f.toNat) rfl rfl (hR _) (ix_int rfl (by omega)) (by rfl) (by omega))
    refine au_storeE (r := q.w) (a := v) rfl rfl rfl rfl ?_
    (repeat (first | refine zz ?_ | refine zv fun _ => ?_))
    refine au_done3 rfl ?_
    exact fun w hw => ⟨(), rfl, hw.sub (by repeat (first | exact List.Sublist.refl _ | assumption | apply List.Sublist.cons_cons | apply List.Sublist.cons))⟩
set_option maxHeartbeats 2000000 in
theorem notify_c {q : SR} {m : SM} (p : Int) (hk : SOk q m) (hL : SLe m) (hpl : m.pd.length = m.tl.length) (hc4 : m.tl.length ≤ 4) (hpe : ∀ i, (m.pd.getD i default).length ≤ 1000000) :
    Cal Tryz.prog 63 [hdV (hd q), .int .i64 p] (Hp w0 (SC q m ++ cs)) (fun _ : {ps : List Row // ps.length = m.pd.length} => .int .i64 (ntfM m p m.tl.length).2)
      (fun s => Hp w0 (SC { q with ps := s.1 } { m with pd := (ntfM m p m.tl.length).1 } ++ cs)) := by
  refine cal_of_tri Tryz.func63 rfl Tryz.ntmps63 rfl ?_
  (repeat (first | refine tri_seq ?_ | refine tri_then ?_)); refine tri_region ?_; (repeat (first | refine au_pure ?_ | refine au_pass ?_ | refine au_box (fun _ => ?_) | refine au_alloc (fun _ => ?_) | refine au_store ?_ | refine au_make rfl rfl (fun _ => ?_) | refine au_lit rfl rfl rfl (fun _ => ?_) | refine au_append rfl rfl rfl rfl (fun _ => au_norm ?_) | refine au_storeE rfl rfl rfl rfl ?_)); refine tri_nil ?_; (repeat refine tri_then ?_)
  rename_i g2
  obtain ⟨rt, rb, rp, rl, rw', bs, ps0⟩ := q
  obtain ⟨hbs, hps⟩ := hk
  simp only at hbs hps
  have hT : ∀ (Y : List SV) (X : List Chunk), RdH (Hp w0 (shC g2 rt.v rb.v rp.v rl.v rw'.v :: tlS rb (tlx bs m.tl) :: pdS rp Y :: X)) rb.v (tlx bs m.tl) := fun _ _ => rd_chunk ⟨1, rfl⟩
  have hxl := tlx_len hbs
  refine tri_weak (H' := Hp w0 (shC g2 rt.v rb.v rp.v rl.v rw'.v :: tlS rb (tlx bs m.tl) :: pdS rp (ps0.map Row.sv) :: u64S rt m.tb :: lbS rl m.lm :: inS rw' m.wd :: ((nestE 72 bs (tls m) ++ nestE 63 ps0 m.pd) ++ cs))) (fun w h => h) ?_
  (repeat (first | refine zz ?_ | refine zv fun _ => ?_))
  refine au_pure ?_ (hy := yl_len rfl rfl (hT _ _))
  (repeat (first | refine zz ?_ | refine zv fun _ => ?_))
  refine tri_block ?_
  refine tri_loop2 (fun (c : Nat) (ps : List Row) => c ≤ m.tl.length ∧ ps.length = m.pd.length) (fun c _ => [(1, .int .i64 p), (2, .pointer (some ⟨g2, 0, none⟩)), (5, .int .i64 (ntfM m p c).2), (9, .int .i64 ((tlx bs m.tl).length : Int)), (10, .int .i64 (c : Int))])
    (fun c ps => Hp w0 (shC g2 rt.v rb.v rp.v rl.v rw'.v :: tlS rb (tlx bs m.tl) :: pdS rp (ps.map Row.sv) :: u64S rt m.tb :: lbS rl m.lm :: inS rw' m.wd :: ((nestE 72 bs (tls m) ++ nestE 63 ps (ntfM m p c).1) ++ cs))) (fun c _ => m.tl.length - c)
    0 ps0 ⟨by omega, hps⟩ (by repeat (first | exact trivial | refine ⟨rfl, ?_⟩)) (fun w h => h) ?_
  rintro c ps ⟨hcl, hpsl⟩
  have hnl := ntf_len (m := m) (p := p) c
  have hnb := ntf_bd (m := m) (p := p) c
  have hng := ntf_get (m := m) (p := p) c c (Nat.le_refl _)
  (repeat (first | refine zz ?_ | refine zv fun _ => ?_))
  rw [hxl]
  ((first | refine tri_cond (by rfl) (fun hc => ?_) (fun hc => ?_) | refine tri_gsplit (by rfl) (by rfl) (by (fail_if_success exact (rfl : _ = some (Value.bool true))); (fail_if_success exact (rfl : _ = some (Value.bool false))); rfl) (fun hc => ?_) (fun hc => ?_)) <;> (try simp only [decide_eq_true_eq, decide_eq_false_iff_not, beq_iff_eq, bne_iff_ne, ne_eq, Bool.not_eq_true', Bool.not_eq_false', beq_eq_false_iff_ne, bne_eq_false_iff_eq, Int.not_lt, Int.not_le, gt_iff_lt, ge_iff_le, Bool.and_eq_true, Bool.or_eq_true, Bool.and_eq_false_iff, Bool.or_eq_false_iff, Decidable.not_not, not_true_eq_false, not_false_eq_true, and_true, true_and, or_false, false_or, or_true, true_or, and_false, false_and, eq_self, Bool.true_eq_false, Bool.false_eq_true] at hc) <;> (try (exfalso; omega)))
  · have hy := ntf_yes (m := m) (p := p) (k := c)
    have hn := ntf_no (m := m) (p := p) (k := c)
    have hE : RdH (Hp w0 (shC g2 rt.v rb.v rp.v rl.v rw'.v :: tlS rb (tlx bs m.tl) :: pdS rp (ps.map Row.sv) :: u64S rt m.tb :: lbS rl m.lm :: inS rw' m.wd :: ((nestE 72 bs (tls m) ++ nestE 63 ps (ntfM m p c).1) ++ cs))) ((tlx bs m.tl).getD c default).s.v (m.tl.getD c default).l := by
      rw [tlx_get hbs (by omega), ← tls_get]
      refine rd_chunk (r := bs.getD c (Row.nil 0)) (e := 72) (has_mem ?_)
      exact List.mem_cons_of_mem _ (List.mem_cons_of_mem _ (List.mem_cons_of_mem _ (List.mem_cons_of_mem _ (List.mem_cons_of_mem _ (List.mem_cons_of_mem _ (List.mem_append_left _ (List.mem_append_left _ (nestE_mem (by simp [hbs]) (by simp; omega)))))))))
    have hz : ((tlx bs m.tl).getD c default).z = (m.tl.getD c default).z := by rw [tlx_get hbs (by omega)]
    have hle := hL.te c
    have hew := hL.ew c
    have hpc := hpe c
    (repeat (first | refine zz ?_ | refine zv fun _ => ?_))
    refine tri_block ?_
    (repeat (first | refine tri_seq ?_ | refine tri_then ?_)); refine tri_region ?_; (repeat (first | refine au_pure ?_ | refine au_pass ?_ | refine au_box (fun _ => ?_) | refine au_alloc (fun _ => ?_) | refine au_store ?_ | refine au_make rfl rfl (fun _ => ?_) | refine au_lit rfl rfl rfl (fun _ => ?_) | refine au_append rfl rfl rfl rfl (fun _ => au_norm ?_) | refine au_storeE rfl rfl rfl rfl ?_)); refine tri_nil ?_; (repeat refine tri_then ?_)
    refine tri_seq ?_
    refine tri_region ?_
    (repeat (first | refine zz ?_ | refine zv fun _ => ?_))
    refine au_pure ?_ (hy := yl_idx (k := c) rfl rfl (hT _ _) (ix_nat rfl) (by rfl) (by omega))
    refine au_pure ?_ (hy := yl_loadEN rfl rfl (hT _ _) (by rfl) (by omega) (by repeat (first | exact nf0 rfl | apply nfS rfl | exact nfR)) (by rfl))
    rw [hz]
    (repeat (first | refine zz ?_ | refine zv fun _ => ?_))
    refine au_callC rfl rfl rfl rfl rfl (covers_c w0 _ 0 p hE hle hew) (fun _ => ?_)
    rw [show (lookM (m.tl.getD c default).z (m.tl.getD c default).l 0 p).2 = covsM m c p from rfl]
    cases hcv : covsM m c p
    · (repeat (first | refine zz ?_ | refine zv fun _ => ?_))
      exact tri_nx2 (c + 1) ps (by omega) ⟨by omega, hpsl⟩ (by rw [hn hcv]; repeat (first | exact trivial | refine ⟨rfl, ?_⟩)) (fun w h => by rw [hn hcv]; exact h)
    · (repeat (first | refine au_pure ?_ | refine au_pass ?_ | refine au_box (fun _ => ?_) | refine au_alloc (fun _ => ?_) | refine au_store ?_ | refine au_make rfl rfl (fun _ => ?_) | refine au_lit rfl rfl rfl (fun _ => ?_) | refine au_append rfl rfl rfl rfl (fun _ => au_norm ?_) | refine au_storeE rfl rfl rfl rfl ?_)); refine tri_nil ?_; (repeat refine tri_then ?_)
      refine tri_if_t (by rfl) ?_
      have hfoc := focusP (e := 63) (rs := ps) (L := (ntfM m p c).1) (i := c) (by omega) (by omega) [shC g2 rt.v rb.v rp.v rl.v rw'.v, tlS rb (tlx bs m.tl), pdS rp (ps.map Row.sv), u64S rt m.tb, lbS rl m.lm, inS rw' m.wd] (nestE 72 bs (tls m)) cs
      have hunf := fun (r' : Row) (l' : List IV) => unfocusP (e := 63) (rs := ps) (L := (ntfM m p c).1) (i := c) (by omega) (by omega) r' l' [shC g2 rt.v rb.v rp.v rl.v rw'.v, tlS rb (tlx bs m.tl), pdS rp ((ps.map Row.sv).set c r'.sv), u64S rt m.tb, lbS rl m.lm, inS rw' m.wd] (nestE 72 bs (tls m)) cs
      rw [hng] at hfoc
      have hpg : (ps.map Row.sv).getD c default = (ps.getD c (Row.nil 0)).sv := map_getD_sv ps (by omega)
      have hpml : (ps.map Row.sv).length = ps.length := by simp
      obtain ⟨YY, hYY⟩ : ∃ Y, Y = ps.map Row.sv := ⟨_, rfl⟩
      obtain ⟨R0, hR0⟩ : ∃ R, R = ps.getD c (Row.nil 0) := ⟨_, rfl⟩
      obtain ⟨l0, hl0⟩ : ∃ l, l = m.pd.getD c default := ⟨_, rfl⟩
      obtain ⟨NX, hNX⟩ : ∃ X, X = (nestE 72 bs (tls m) ++ nxE 63 ps (ntfM m p c).1 c) ++ cs := ⟨_, rfl⟩
      rw [← hYY, ← hR0, ← hl0] at hfoc
      rw [← hYY, ← hR0] at hpg
      rw [← hYY] at hpml hunf ⊢
      rw [← hl0] at hpc hy
      refine tri_weak (H' := Hp w0 (ivS R0 l0 :: shC g2 rt.v rb.v rp.v rl.v rw'.v :: tlS rb (tlx bs m.tl) :: pdS rp YY :: u64S rt m.tb :: lbS rl m.lm :: inS rw' m.wd :: NX)) (fun w h => by rw [hNX]; exact HpM.perm h hfoc) ?_
      refine tri_seq ?_
      have hRy : RdH (Hp w0 (shC g2 rt.v rb.v rp.v rl.v rw'.v :: pdS rp YY :: NX)) rp.v YY := rd_chunk ⟨1, rfl⟩
      refine ar_held [13] (shC g2 rt.v rb.v rp.v rl.v rw'.v :: pdS rp YY :: NX) rfl ?_
      refine ar_free 0 rfl rfl rfl ?_; refine ar_free 2 rfl rfl rfl ?_; refine ar_free 3 rfl rfl rfl ?_; refine ar_free 5 rfl rfl rfl ?_; refine ar_free 8 rfl rfl rfl ?_
      refine ar_take 1 rfl rfl rfl ?_; refine ar_take 4 rfl rfl rfl ?_
      refine ar_take 6 rfl rfl rfl ?_ (hy := yl_idx (k := c) rfl rfl hRy (ix_nat rfl) (by rfl) (by omega))
      refine ar_take 7 rfl rfl rfl ?_ (hy := yl_loadE rfl rfl hRy (by rfl) (by omega) (by rfl))
      rw [hpg]
      refine ar_take 9 rfl rfl rfl ?_
      refine ar_op 10 rfl ?_
      refine au_lit (l := ([⟨0, p, false⟩] : List IV)) rfl rfl rfl (fun r1 => ?_)
      refine tri_nil ?_; refine ar_in ?_
      refine ar_op 11 rfl ?_
      refine au_append (r := R0) (l2 := ([⟨0, p, false⟩] : List IV)) rfl rfl rfl rfl (fun r2 => au_norm ?_) (h2 := rd_chunk ⟨0, rfl⟩) (hb := by rw [List.length_singleton]; omega)
      refine tri_nil ?_; refine ar_in ?_
      refine ar_take 12 rfl rfl rfl ?_ (hy := yl_idx (k := c) rfl rfl hRy (ix_nat rfl) (by rfl) (by omega))
      refine ar_op 13 rfl ?_
      refine au_storeE (a := r2.sv) rfl rfl rfl rfl ?_
      refine tri_nil ?_; refine ar_ink ?_
      refine ar_done ?_
      refine tri_weak (H' := Hp w0 (shC g2 rt.v rb.v rp.v rl.v rw'.v :: tlS rb (tlx bs m.tl) :: pdS rp ((ps.set c r2).map Row.sv) :: u64S rt m.tb :: lbS rl m.lm :: inS rw' m.wd :: ((nestE 72 bs (tls m) ++ nestE 63 (ps.set c r2) ((ntfM m p c).1.set c (l0 ++ [⟨0, p, false⟩]))) ++ cs))) (fun w h => ?_) ?_
      · rw [List.map_set, ← hYY]
        have h2 : Hp w0 (ivS r2 (l0 ++ [⟨0, p, false⟩]) :: shC g2 rt.v rb.v rp.v rl.v rw'.v :: tlS rb (tlx bs m.tl) :: pdS rp (YY.set c r2.sv) :: u64S rt m.tb :: lbS rl m.lm :: inS rw' m.wd :: NX) w := h.sub (by repeat (first | exact List.Sublist.refl _ | assumption | apply List.Sublist.cons_cons | apply List.Sublist.cons))
        rw [hNX] at h2
        exact HpM.perm h2 (hunf r2 (l0 ++ [⟨0, p, false⟩]))
      (repeat (first | refine zz ?_ | refine zv fun _ => ?_))
      refine au_pure ?_ (hy := yl_shl rfl rfl rfl (by omega))
      rw [shl_eq (by omega)]
      refine au_pure ?_ (hy := yl_or rfl rfl rfl)
      rw [or_eq hnb (by omega)]
      (repeat (first | refine zz ?_ | refine zv fun _ => ?_))
      exact tri_nx2 (c + 1) (ps.set c r2) (by omega) ⟨by omega, by simp [hpsl]⟩ (by rw [hy hcv]; repeat (first | exact trivial | refine ⟨rfl, ?_⟩)) (fun w h => by rw [hy hcv]; exact h)
  · have hce : c = m.tl.length := by omega
    subst hce
    (repeat (first | refine zz ?_ | refine zv fun _ => ?_))
    refine au_done1 rfl ?_
    exact fun w hw => ⟨⟨ps, hpsl⟩, rfl, hw.sub (by repeat (first | exact List.Sublist.refl _ | assumption | apply List.Sublist.cons_cons | apply List.Sublist.cons))⟩
end
end Go.Proofs.YtojfaelafakemaaGreat

/- The walks of the shootdown machine: Free, Quiet, Map, Unmap, Protect. No conditions. -/
set_option linter.unusedSimpArgs false
set_option linter.unusedVariables false
namespace Go.Proofs.YtojfaelafakemaaGreat
open Go Go.RowKit
attribute [local irreducible] decR enOk pgOk teOk ivOk tlOk checkM lbOk formM limM schk lookM
theorem zero_res {w0 w : World} {cs cs' : List Chunk} {X : SM × Int} {e : Int} (hw : Hp w0 cs' w) (hX : X = (SM.zero, e)) (hs : cs.Sublist cs') : ∃ q : {q : SR // SOk q X.1}, Ending.returned (.tuple #[hdV hdN, .int .i64 e]) = .returned (.tuple #[hdV (hd q.1), .int .i64 X.2]) ∧ Hp w0 (SC q.1 X.1 ++ cs) w := by
  subst hX
  obtain ⟨q, h1, h2⟩ := zero_rows hw hs
  exact ⟨q, by rw [h1], h2⟩
theorem zero_res3 {w0 w : World} {cs cs' : List Chunk} {X : SM × Int × Int} {e : Int} (hw : Hp w0 cs' w) (hX : X = (SM.zero, 0, e)) (hs : cs.Sublist cs') : ∃ q : {q : SR // SOk q X.1}, Ending.returned (.tuple #[hdV hdN, .int .i64 0, .int .i64 e]) = .returned (.tuple #[hdV (hd q.1), .int .i64 X.2.1, .int .i64 X.2.2]) ∧ Hp w0 (SC q.1 X.1 ++ cs) w := by
  subst hX
  obtain ⟨q, h1, h2⟩ := zero_rows hw hs
  exact ⟨q, by rw [h1], h2⟩
theorem good_res {w0 w : World} {cs cs' : List Chunk} {X : SM × Int} {m' : SM} {q : SR} (hX : X = (m', 0)) (hq : SOk q m') (hw : Hp w0 cs' w) (hs : (SC q m' ++ cs).Sublist cs') : ∃ s : {q : SR // SOk q X.1}, Ending.returned (.tuple #[hdV (hd q), .int .i64 0]) = .returned (.tuple #[hdV (hd s.1), .int .i64 X.2]) ∧ Hp w0 (SC s.1 X.1 ++ cs) w := by
  subst hX
  exact ⟨⟨q, hq⟩, rfl, hw.sub hs⟩
theorem good_res3 {w0 w : World} {cs cs' : List Chunk} {X : SM × Int × Int} {m' : SM} {x e : Int} {q : SR} (hX : X = (m', x, e)) (hq : SOk q m') (hw : Hp w0 cs' w) (hs : (SC q m' ++ cs).Sublist cs') : ∃ s : {q : SR // SOk q X.1}, Ending.returned (.tuple #[hdV (hd q), .int .i64 x, .int .i64 e]) = .returned (.tuple #[hdV (hd s.1), .int .i64 X.2.1, .int .i64 X.2.2]) ∧ Hp w0 (SC s.1 X.1 ++ cs) w := by
  subst hX
  exact ⟨⟨q, hq⟩, rfl, hw.sub hs⟩
theorem sc_mid2 {w0 w : World} {q : SR} {m : SM} {A B : Chunk} {cs X : List Chunk} (h : Hp w0 (SC q m ++ X) w) (hs : (A :: B :: cs).Sublist X) : Hp w0 (A :: B :: (SC q m ++ cs)) w :=
  HpM.perm (h.sub (List.Sublist.append_left hs (SC q m))) (List.perm_middle.trans (List.Perm.cons _ List.perm_middle))
theorem sc_mid3 {w0 w : World} {q : SR} {m : SM} {A B C : Chunk} {cs X : List Chunk} (h : Hp w0 (SC q m ++ X) w) (hs : (A :: B :: C :: cs).Sublist X) : Hp w0 (A :: B :: C :: (SC q m ++ cs)) w :=
  HpM.perm (h.sub (List.Sublist.append_left hs (SC q m))) (List.perm_middle.trans (List.Perm.cons _ (List.perm_middle.trans (List.Perm.cons _ List.perm_middle))))
theorem free_step {m : SM} {k : Nat} : (((List.range (k + 1)).map fun (i : Nat) => (i : Int)).filter (freeB m)) = (((List.range k).map fun (i : Nat) => (i : Int)).filter (freeB m)) ++ if freeB m (k : Int) = true then [(k : Int)] else [] := by
  rw [List.range_succ, List.map_append, List.filter_append]
  simp only [List.map_cons, List.map_nil, List.filter_cons, List.filter_nil]
theorem free_any {m : SM} (h0 : schk m = 0) {f : Int} (hf : 0 ≤ f ∧ f < m.wd.length) : (freeM m).any (eqB f) = freeB m f := by
  unfold freeM
  rw [if_neg fun x => x h0, Bool.eq_iff_iff, List.any_eq_true]
  constructor
  · rintro ⟨x, hx, he⟩
    have : f = x := by simpa [eqB] using he
    rw [this]
    exact (List.mem_filter.1 hx).2
  · intro h
    exact ⟨f, List.mem_filter.2 ⟨List.mem_map.2 ⟨f.toNat, List.mem_range.2 (by omega), by show ((f.toNat : Nat) : Int) = f; omega⟩, h⟩, by simp [eqB]⟩
attribute [local irreducible] Code.wp wpList bodyPost Exit.then Exit.inBlock Calls wpQuiet Tri TriQ
section
variable (w0 : World) (cs : List Chunk)
set_option maxHeartbeats 2000000 in
theorem free_c {h : SH} {xb : List TB} {xp : List SV} {m : SM} (hC : RdS (Hp w0 cs) h xb xp m) (hL : SLe m) :
    Cal Tryz.prog 15 [hdV h] (Hp w0 cs) (fun r : Row => r.v) (fun r => Hp w0 (inS r (freeM m) :: cs)) := by
  refine cal_of_tri Tryz.func15 rfl Tryz.ntmps15 rfl ?_
  (repeat (first | refine tri_seq ?_ | refine tri_then ?_)); refine tri_region ?_; (repeat (first | refine au_pure ?_ | refine au_pass ?_ | refine au_box (fun _ => ?_) | refine au_alloc (fun _ => ?_) | refine au_store ?_ | refine au_make rfl rfl (fun _ => ?_) | refine au_lit rfl rfl rfl (fun _ => ?_) | refine au_append rfl rfl rfl rfl (fun _ => au_norm ?_) | refine au_storeE rfl rfl rfl rfl ?_)); refine tri_nil ?_; (repeat refine tri_then ?_)
  rename_i g1
  have hC1 := hC.cons (c := hdC g1 h)
  (repeat (first | refine zz ?_ | refine zv fun _ => ?_))
  refine au_callC rfl rfl rfl rfl rfl (scheck_c w0 _ hC1 hL) (fun _ => ?_)
  (repeat (first | refine zz ?_ | refine zv fun _ => ?_))
  cases h1 : (schk m != 0)
  case true =>
    have h1 := bne_iff_ne.1 h1
    have e1 : freeM m = [] := by unfold freeM; rw [if_pos h1]
    (repeat (first | refine zz ?_ | refine zv fun _ => ?_))
    refine au_done1 rfl ?_
    intro w hw
    refine ⟨Row.nil w0.heap.size, rfl, ?_⟩
    rw [e1]
    exact (hw.sub (show cs.Sublist _ from (by repeat (first | exact List.Sublist.refl _ | assumption | apply List.Sublist.cons_cons | apply List.Sublist.cons)))).push0 rfl rfl (Own.nil w _ _)
  have h1 : schk m = 0 := by simpa using h1
  have hV := schk_zero.1 h1
  have hr := hV.r
  (repeat (first | refine zz ?_ | refine zv fun _ => ?_))
  refine au_pure ?_ (hy := yl_len rfl rfl hC1.wd)
  refine au_make (α := Bool) (k := m.wd.length) (c := m.wd.length) rfl rfl (fun r => ?_)
  (repeat (first | refine zz ?_ | refine zv fun _ => ?_))
  refine au_callC rfl rfl rfl rfl rfl (limbo_c w0 _ r hC1 hL (by omega) (by omega)) ?_
  rintro ⟨U, hU1, hU2⟩
  have hU2 := hU2 hV.lim
  have hfr : ∀ k, k < m.wd.length → (!U.getD k default) = freeB m (k : Int) := fun k hk => by
    rw [hU2 k hk]; rfl
  refine tri_weak (H' := Hp w0 (boS r U :: hdC g1 h :: cs)) (fun w h => h) ?_
  have hRU : ∀ X : List Chunk, RdH (Hp w0 (boS r U :: X)) r.v U := fun X => rd_chunk ⟨0, rfl⟩
  refine tri_nil ?_
  refine tri_nilrow Int 3 ?_
  (repeat (first | refine zz ?_ | refine zv fun _ => ?_))
  refine au_pure ?_ (hy := yl_len rfl rfl (RdH.cons (hRU _)))
  (repeat (first | refine zz ?_ | refine zv fun _ => ?_))
  refine tri_block ?_
  refine tri_loop2 (fun (k : Nat) (_ : Row) => k ≤ U.length) (fun k ro => [(3, r.v), (4, ro.v), (17, .int .i64 (U.length : Int)), (18, .int .i64 (k : Int))]) (fun k ro => Hp w0 (inS ro (((List.range k).map fun (i : Nat) => (i : Int)).filter (freeB m)) :: boS r U :: hdC g1 h :: cs)) (fun k _ => U.length - k)
    0 (Row.nil w0.heap.size) (by omega) (by repeat (first | exact trivial | refine ⟨rfl, ?_⟩)) (fun w h => h) ?_
  rintro k ro hk
  (repeat (first | refine zz ?_ | refine zv fun _ => ?_))
  ((first | refine tri_cond (by rfl) (fun hc => ?_) (fun hc => ?_) | refine tri_gsplit (by rfl) (by rfl) (by (fail_if_success exact (rfl : _ = some (Value.bool true))); (fail_if_success exact (rfl : _ = some (Value.bool false))); rfl) (fun hc => ?_) (fun hc => ?_)) <;> (try simp only [decide_eq_true_eq, decide_eq_false_iff_not, beq_iff_eq, bne_iff_ne, ne_eq, Bool.not_eq_true', Bool.not_eq_false', beq_eq_false_iff_ne, bne_eq_false_iff_eq, Int.not_lt, Int.not_le, gt_iff_lt, ge_iff_le, Bool.and_eq_true, Bool.or_eq_true, Bool.and_eq_false_iff, Bool.or_eq_false_iff, Decidable.not_not, not_true_eq_false, not_false_eq_true, and_true, true_and, or_false, false_or, or_true, true_or, and_false, false_and, eq_self, Bool.true_eq_false, Bool.false_eq_true] at hc) <;> (try (exfalso; omega)))
  · (repeat (first | refine zz ?_ | refine zv fun _ => ?_))
    refine tri_block ?_
    have hst := free_step (m := m) (k := k)
    have hfk := hfr k (by omega)
    have hflen : (((List.range k).map fun (i : Nat) => (i : Int)).filter (freeB m)).length ≤ k := by
      have := List.length_filter_le (freeB m) ((List.range k).map fun (i : Nat) => (i : Int))
      simpa using this
    obtain ⟨L, hL0⟩ : ∃ L, L = ((List.range k).map fun (i : Nat) => (i : Int)).filter (freeB m) := ⟨_, rfl⟩
    rw [← hL0] at hst hflen ⊢
    (repeat (first | refine zz ?_ | refine zv fun _ => ?_))
    refine au_pure ?_ (hy := yl_idx (k := k) rfl rfl (RdH.cons (hRU _)) (ix_nat rfl) (by rfl) (by omega))
    refine au_pure ?_ (hy := yl_loadE rfl rfl (RdH.cons (hRU _)) (by rfl) (by omega) (by rfl))
    (repeat (first | refine zz ?_ | refine zv fun _ => ?_))
    rw [hfk]
    cases hf : freeB m (k : Int)
    · rw [if_neg (by rw [hf]; simp), List.append_nil] at hst
      (repeat (first | refine zz ?_ | refine zv fun _ => ?_))
      exact tri_nx2 (k + 1) ro (by omega) (by omega) (by repeat (first | exact trivial | refine ⟨rfl, ?_⟩)) (fun w h => by rw [hst]; exact h)
    · rw [if_pos hf] at hst
      (repeat (first | refine zz ?_ | refine zv fun _ => ?_))
      refine au_lit (l := ([(k : Int)] : List Int)) rfl rfl rfl (fun r1 => ?_)
      refine au_append (r := ro) (l2 := ([(k : Int)] : List Int)) rfl rfl rfl rfl (fun r2 => au_norm ?_) (h2 := rd_chunk ⟨0, rfl⟩) (hb := by rw [List.length_singleton]; omega)
      (repeat (first | refine zz ?_ | refine zv fun _ => ?_))
      exact tri_nx2 (k + 1) r2 (by omega) (by omega) (by repeat (first | exact trivial | refine ⟨rfl, ?_⟩)) (fun w h => by rw [hst]; exact h.sub (by repeat (first | exact List.Sublist.refl _ | assumption | apply List.Sublist.cons_cons | apply List.Sublist.cons)))
  · have hke : k = m.wd.length := by omega
    subst hke
    have e1 : ((List.range m.wd.length).map fun (i : Nat) => (i : Int)).filter (freeB m) = freeM m := by unfold freeM; rw [if_neg fun x => x h1]
    rw [e1]
    (repeat (first | refine zz ?_ | refine zv fun _ => ?_))
    refine au_done1 rfl ?_
    exact fun w hw => ⟨ro, rfl, hw.sub (by repeat (first | exact List.Sublist.refl _ | assumption | apply List.Sublist.cons_cons | apply List.Sublist.cons))⟩
theorem quietf_c {l : List SV} (hl : ∀ s ∈ l, ∃ (x : List IV), RdH (Hp w0 cs) s.v x) : TstPD w0 cs 37 [] (fun s => decide ((s.len : Int) > 0)) l := fun ds s hs => by
  obtain ⟨x, hx⟩ := hl s hs
  have hx' : RdH (Hp w0 (ds ++ cs)) s.v x := hx.app
  have hcal : Cal Tryz.prog 37 [s.v] (Hp w0 (ds ++ cs)) (fun _ : Unit => .bool (decide ((x.length : Int) > 0))) (fun _ => Hp w0 (ds ++ cs)) := by
    refine cal_of_tri Tryz.func37 rfl Tryz.ntmps37 rfl ?_
    (repeat (first | refine zz ?_ | refine zv fun _ => ?_))
    refine au_pure ?_ (hy := yl_len rfl rfl hx')
    (repeat (first | refine zz ?_ | refine zv fun _ => ?_))
    refine au_done1 rfl ?_
    exact fun w hw => ⟨(), rfl, hw⟩
  intro w hw
  have hlen : (x.length : Int) = (s.len : Int) := by
    obtain ⟨A, c, h1, _⟩ := (hx' w hw).form
    unfold SV.v at h1
    simp only [Value.slice.injEq] at h1
    rw [h1.2.1]
  have h2 := hcal w hw
  rw [hlen] at h2
  exact h2
theorem sv_len {w : World} {s : SV} {x : List IV} (h : Rd w s.v x) : s.len = x.length := by
  obtain ⟨A, c, h1, _⟩ := h.form
  unfold SV.v at h1
  simp only [Value.slice.injEq] at h1
  exact h1.2.1
set_option maxHeartbeats 1000000 in
theorem quiet_c {h : SH} {xb : List TB} {xp : List SV} {m : SM} (hC : RdS (Hp w0 cs) h xb xp m) (hL : SLe m) :
    Cal Tryz.prog 12 [hdV h] (Hp w0 cs) (fun _ : Unit => .bool (quietM m)) (fun _ => Hp w0 cs) := by
  have hpl := hC.pdl
  have l3 := hL.pd
  refine cal_of_tri Tryz.func12 rfl Tryz.ntmps12 rfl ?_
  (repeat (first | refine tri_seq ?_ | refine tri_then ?_)); refine tri_region ?_; (repeat (first | refine au_pure ?_ | refine au_pass ?_ | refine au_box (fun _ => ?_) | refine au_alloc (fun _ => ?_) | refine au_store ?_ | refine au_make rfl rfl (fun _ => ?_) | refine au_lit rfl rfl rfl (fun _ => ?_) | refine au_append rfl rfl rfl rfl (fun _ => au_norm ?_) | refine au_storeE rfl rfl rfl rfl ?_)); refine tri_nil ?_; (repeat refine tri_then ?_)
  rename_i g1
  have hC1 := hC.cons (c := hdC g1 h)
  (repeat (first | refine zz ?_ | refine zv fun _ => ?_))
  refine au_callC rfl rfl rfl rfl rfl (scheck_c w0 _ hC1 hL) (fun _ => ?_)
  (repeat (first | refine zz ?_ | refine zv fun _ => ?_))
  cases h1 : (schk m == 0)
  · have h1 := beq_eq_false_iff_ne.1 h1
    (repeat (first | refine zz ?_ | refine zv fun _ => ?_))
    refine au_done1 rfl ?_
    exact fun w hw => ⟨(), by unfold quietM; rw [decide_eq_false h1]; rfl, hw.sub (by repeat (first | exact List.Sublist.refl _ | assumption | apply List.Sublist.cons_cons | apply List.Sublist.cons))⟩
  · have h1 := beq_iff_eq.1 h1
    (repeat (first | refine zz ?_ | refine zv fun _ => ?_))
    have hrd : ∀ s ∈ xp, ∃ (x : List IV), RdH (Hp w0 (hdC g1 h :: cs)) s.v x := fun s hs => by
      obtain ⟨i, hi, rfl⟩ := List.getElem_of_mem hs
      have := hC1.pe i
      rw [getD_get hi] at this
      exact ⟨_, this⟩
    refine au_callC rfl rfl rfl rfl rfl (containsFuncPD_c w0 _ hC1.pd (by omega) (quietf_c w0 _ hrd) (capd := [])) (fun _ => ?_)
    (repeat (first | refine zz ?_ | refine zv fun _ => ?_))
    refine au_done1 rfl ?_
    intro w hw
    refine ⟨(), ?_, hw.sub (by repeat (first | exact List.Sublist.refl _ | assumption | apply List.Sublist.cons_cons | apply List.Sublist.cons))⟩
    have hlen : ∀ i, (xp.getD i default).len = (m.pd.getD i default).length := fun i => sv_len (hC1.pe i w hw)
    have e1 : quietM m = !(xp.any fun s => decide ((s.len : Int) > 0)) := by
      unfold quietM
      rw [decide_eq_true h1, Bool.true_and, Bool.eq_iff_iff, all_get, Bool.not_eq_true', List.any_eq_false]
      constructor
      · intro ha s hs
        obtain ⟨i, hi, rfl⟩ := List.getElem_of_mem hs
        have h2 := ha i (by omega)
        have h3 := hlen i
        rw [getD_get hi] at h3
        rw [List.isEmpty_iff] at h2
        rw [h2] at h3
        simp at h3
        simp [h3]
      · intro ha i hi
        have h2 := ha (xp.getD i default) (mem_getD' (by omega))
        have h3 := hlen i
        rw [decide_eq_true_eq] at h2
        rw [List.isEmpty_iff, ← List.length_eq_zero_iff]
        omega
    rw [e1]
set_option maxHeartbeats 2000000 in
theorem map_c {h : SH} {xb : List TB} {xp : List SV} {m : SM} (p f : Int) (wr : Bool) (hC : RdS (Hp w0 cs) h xb xp m) (hL : SLe m) (hpe : ∀ i, (m.pd.getD i default).length ≤ 1000000) :
    Cal Tryz.prog 28 [hdV h, .int .i64 p, .int .i64 f, .bool wr] (Hp w0 cs) (fun q : {q : SR // SOk q (mapM m p f wr).1} => .tuple #[hdV (hd q.1), .int .i64 (mapM m p f wr).2]) (fun q => Hp w0 (SC q.1 (mapM m p f wr).1 ++ cs)) := by
  refine cal_of_tri Tryz.func28 rfl Tryz.ntmps28 rfl ?_
  (repeat (first | refine tri_seq ?_ | refine tri_then ?_)); refine tri_region ?_; (repeat (first | refine au_pure ?_ | refine au_pass ?_ | refine au_box (fun _ => ?_) | refine au_alloc (fun _ => ?_) | refine au_store ?_ | refine au_make rfl rfl (fun _ => ?_) | refine au_lit rfl rfl rfl (fun _ => ?_) | refine au_append rfl rfl rfl rfl (fun _ => au_norm ?_) | refine au_storeE rfl rfl rfl rfl ?_)); refine tri_nil ?_; (repeat refine tri_then ?_)
  rename_i g4 g8
  have hC1 := hC.cons (c := hdC g4 h) |>.cons (c := hdC g8 hdN)
  refine tri_weak (H' := Hp w0 (hdC g8 hdN :: hdC g4 h :: cs)) (fun w h => h) ?_
  (repeat (first | refine zz ?_ | refine zv fun _ => ?_))
  refine au_callC rfl rfl rfl rfl rfl (scheck_c w0 _ hC1 hL) (fun _ => ?_)
  (repeat (first | refine zz ?_ | refine zv fun _ => ?_))
  cases h1 : (schk m != 0)
  case true =>
    have h1 := bne_iff_ne.1 h1
    (repeat (first | refine zz ?_ | refine zv fun _ => ?_))
    refine au_done2 rfl ?_
    exact fun w hw => zero_res hw (by unfold mapM; rw [if_pos h1]) (by repeat (first | exact List.Sublist.refl _ | assumption | apply List.Sublist.cons_cons | apply List.Sublist.cons))
  have h1 : schk m = 0 := by simpa using h1
  have hV := schk_zero.1 h1
  have hr := hV.r
  have e1 : mapM m p f wr = if ¬ (isP m p = true ∧ 0 ≤ f ∧ f < m.wd.length) then (.zero, 2) else if pgOk m.wd.length (tbW m p.toNat) = true then (.zero, 7) else if freeB m f = false then (.zero, 21)
    else ({ m with tb := m.tb.set p.toNat ⟨wordM ⟨1, f, wr, false, false, false⟩⟩, wd := m.wd.set f.toNat 0 }, 0) := by unfold mapM; rw [if_neg fun x => x h1]
  (repeat (first | refine zz ?_ | refine zv fun _ => ?_))
  refine au_callC rfl rfl rfl rfl rfl (is_c w0 _ p hC1.tb hL.tb) (fun _ => ?_)
  cases h2 : isP m p
  case false =>
    (repeat (first | refine zz ?_ | refine zv fun _ => ?_))
    refine au_done2 rfl ?_
    exact fun w hw => zero_res hw (by rw [e1, if_pos (by rw [h2]; simp)]) (by repeat (first | exact List.Sublist.refl _ | assumption | apply List.Sublist.cons_cons | apply List.Sublist.cons))
  (repeat (first | refine zz ?_ | refine zv fun _ => ?_))
  cases h3 : decide (f < 0)
  case true =>
    have h3 := of_decide_eq_true h3
    (repeat (first | refine zz ?_ | refine zv fun _ => ?_))
    refine au_done2 rfl ?_
    exact fun w hw => zero_res hw (by rw [e1, if_pos (by omega)]) (by repeat (first | exact List.Sublist.refl _ | assumption | apply List.Sublist.cons_cons | apply List.Sublist.cons))
  have h3 := of_decide_eq_false h3
  (repeat (first | refine zz ?_ | refine zv fun _ => ?_))
  refine au_pure ?_ (hy := yl_len rfl rfl hC1.wd)
  (repeat (first | refine zz ?_ | refine zv fun _ => ?_))
  cases h4 : decide (f ≥ (m.wd.length : Int))
  case true =>
    have h4 := of_decide_eq_true h4
    (repeat (first | refine zz ?_ | refine zv fun _ => ?_))
    refine au_done2 rfl ?_
    exact fun w hw => zero_res hw (by rw [e1, if_pos (by omega)]) (by repeat (first | exact List.Sublist.refl _ | assumption | apply List.Sublist.cons_cons | apply List.Sublist.cons))
  have h4 := of_decide_eq_false h4
  rw [if_neg (fun x => x ⟨h2, by omega, by omega⟩)] at e1
  have hp := isP_iff.1 h2
  (repeat (first | refine zz ?_ | refine zv fun _ => ?_))
  refine au_callC rfl rfl rfl rfl rfl (mapped_c w0 _ p hC1 hL hp) (fun _ => ?_)
  cases h5 : pgOk m.wd.length (tbW m p.toNat)
  case true =>
    (repeat (first | refine zz ?_ | refine zv fun _ => ?_))
    refine au_done2 rfl ?_
    exact fun w hw => zero_res hw (by rw [e1, if_pos h5]) (by repeat (first | exact List.Sublist.refl _ | assumption | apply List.Sublist.cons_cons | apply List.Sublist.cons))
  rw [if_neg (by rw [h5]; simp)] at e1
  (repeat (first | refine zz ?_ | refine zv fun _ => ?_))
  rename_i g11
  have hC2 := hC1.cons (c := enE g11 (decR (tbW m p.toNat)).1)
  refine au_callC rfl rfl rfl rfl rfl (free_c w0 _ hC2 hL) ?_
  intro rf
  have hfl : (freeM m).length ≤ 256 := by
    unfold freeM
    rw [if_neg fun x => x h1]
    have := List.length_filter_le (freeB m) ((List.range m.wd.length).map fun (i : Nat) => (i : Int))
    rw [List.length_map, List.length_range] at this
    omega
  (repeat (first | refine zz ?_ | refine zv fun _ => ?_))
  refine au_callC rfl rfl rfl rfl rfl (containsI_c w0 _ f (rd_chunk (r := rf) (l := freeM m) ⟨0, rfl⟩) (by omega)) (fun _ => ?_)
  rw [free_any h1 (by omega)]
  (repeat (first | refine zz ?_ | refine zv fun _ => ?_))
  cases h6 : freeB m f
  case false =>
    (repeat (first | refine zz ?_ | refine zv fun _ => ?_))
    refine au_done2 rfl ?_
    exact fun w hw => zero_res hw (by rw [e1, if_pos h6]) (by repeat (first | exact List.Sublist.refl _ | assumption | apply List.Sublist.cons_cons | apply List.Sublist.cons))
  rw [if_neg (by rw [h6]; simp)] at e1
  (repeat (first | refine zz ?_ | refine zv fun _ => ?_))
  refine au_callC rfl rfl rfl rfl rfl (own_c w0 _ hC2.cons hr.2.2.1 (by omega) (by have := hV.lml; omega) (fun i => by have := hV.tel i; omega) hpe) ?_
  rintro ⟨q, hq⟩
  refine tri_weak (H' := Hp w0 (hdC g8 hdN :: hdC g4 h :: (SC q m ++ cs))) (fun w h => sc_mid2 (X := _ :: _ :: _ :: _ :: cs) h (by repeat (first | exact List.Sublist.refl _ | assumption | apply List.Sublist.cons_cons | apply List.Sublist.cons))) ?_
  (repeat (first | refine au_pure ?_ | refine au_pass ?_ | refine au_box (fun _ => ?_) | refine au_alloc (fun _ => ?_) | refine au_store ?_ | refine au_make rfl rfl (fun _ => ?_) | refine au_lit rfl rfl rfl (fun _ => ?_) | refine au_append rfl rfl rfl rfl (fun _ => au_norm ?_) | refine au_storeE rfl rfl rfl rfl ?_)); refine tri_nil ?_; (repeat refine tri_then ?_)
  obtain ⟨NX, hNX⟩ : ∃ X, X = (SNb q m ++ SNp q m) ++ cs := ⟨_, rfl⟩
  have hRt : RdH (Hp w0 (hdC g4 (hd q) :: u64S q.t m.tb :: NX)) q.t.v m.tb := rd_chunk ⟨1, rfl⟩
  refine tri_weak (H' := Hp w0 (hdC g8 hdN :: hdC g4 (hd q) :: tlS q.b (tlx q.bs m.tl) :: pdS q.p (q.ps.map Row.sv) :: u64S q.t m.tb :: lbS q.l m.lm :: inS q.w m.wd :: NX)) (fun w h => by rw [hNX]; exact h) ?_
  (repeat (first | refine tri_seq ?_ | refine tri_then ?_))
  refine ar_held [8] (hdC g4 (hd q) :: u64S q.t m.tb :: NX) rfl ?_
  refine ar_free 0 rfl rfl rfl ?_; refine ar_free 2 rfl rfl rfl ?_; refine ar_free 3 rfl rfl rfl ?_; refine ar_free 4 rfl rfl rfl ?_
  refine ar_take 1 rfl rfl rfl ?_; refine ar_take 5 rfl rfl rfl ?_
  refine ar_op 6 rfl ?_
  refine au_callC rfl rfl rfl rfl rfl (word_c w0 _ 1 f wr false false false) (fun _ => ?_)
  refine tri_nil ?_; refine ar_in ?_
  refine ar_take 7 rfl rfl rfl ?_ (hy := yl_idx (k := p.toNat) rfl rfl hRt (ix_int rfl (by omega)) (by rfl) (by omega))
  refine ar_op 8 rfl ?_
  refine au_storeE (r := q.t) (a := (⟨(encS 1 f wr false false false).1⟩ : W64)) rfl rfl rfl rfl ?_
  refine tri_nil ?_; refine ar_ink ?_
  refine ar_done ?_
  obtain ⟨T, hT⟩ : ∃ T, T = m.tb.set p.toNat (⟨(encS 1 f wr false false false).1⟩ : W64) := ⟨_, rfl⟩
  rw [← hT]
  have hRw : RdH (Hp w0 (hdC g8 hdN :: hdC g4 (hd q) :: tlS q.b (tlx q.bs m.tl) :: pdS q.p (q.ps.map Row.sv) :: u64S q.t T :: lbS q.l m.lm :: inS q.w m.wd :: NX)) q.w.v m.wd := rd_chunk ⟨6, rfl⟩
  (repeat (first | refine zz ?_ | refine zv fun _ => ?_))
  refine au_pure ?_ (hy := yl_idx (k := f.toNat) rfl rfl hRw (ix_int rfl (by omega)) (by rfl) (by omega))
  refine au_storeE (r := q.w) (a := (0 : Int)) rfl rfl rfl rfl ?_
  (repeat (first | refine zz ?_ | refine zv fun _ => ?_))
  refine au_done2 rfl ?_
  intro w hw
  refine good_res (m' := { m with tb := m.tb.set p.toNat ⟨wordM ⟨1, f, wr, false, false, false⟩⟩, wd := m.wd.set f.toNat 0 }) e1 ⟨hq.hb, hq.hp⟩ hw ?_
  rw [hT, hNX]
  exact (by repeat (first | exact List.Sublist.refl _ | assumption | apply List.Sublist.cons_cons | apply List.Sublist.cons))
end
end Go.Proofs.YtojfaelafakemaaGreat
