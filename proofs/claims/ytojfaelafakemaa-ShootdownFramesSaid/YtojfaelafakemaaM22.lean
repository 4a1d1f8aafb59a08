/- Texts joined: ShAck, ShRAck, SeqN. Each part's own remark says what it proves. -/
import Derived.Test.YtojfaelafakemaaM21
import Derived.Test.YtojfaelafakemaaM13
/- The walk of the shootdown machine's Ack. No conditions. -/
set_option linter.unusedSimpArgs false
set_option linter.unusedVariables false
namespace Go.Proofs.Ytojfaelafakemaa
open Go Go.RowKit
theorem invs_step {l0 : List TE} {pl : List IV} {k : Nat} (hk : k < pl.length) : invsL l0 (pl.take (k + 1)) = invL (invsL l0 (pl.take k)) 0 (pl.getD k default).p := by
  unfold invsL
  rw [take_step hk, List.foldl_append]; rfl
theorem invs_ok {z : Int} : ∀ {ps : List IV} {l : List TE}, Ok z l → Ok z (invsL l ps)
  | [], _, h => h
  | v :: ps, l, h => by
    show Ok z (invsL (invL l 0 v.p) ps)
    exact invs_ok (inv_ok h 0 v.p)
theorem invs_wf : ∀ {ps : List IV} {l : List TE}, (∀ t ∈ l, Wf t) → ∀ t ∈ invsL l ps, Wf t
  | [], _, h => h
  | v :: ps, l, h => by
    show ∀ t ∈ invsL (invL l 0 v.p) ps, Wf t
    exact invs_wf (inv_wf h 0 v.p)
theorem pd_ok {m : SM} (h : Vl m) {c : Nat} (hc : c < m.pd.length) : ∀ v ∈ m.pd.getD c default, v.s = 0 ∧ 0 ≤ v.p ∧ v.p < m.tb.length ∧ v.o = false := fun v hv => by
  have := h.frm
  unfold formM at this
  simp only [Bool.and_eq_true] at this
  have h2 := all_get.1 this.2.2 c hc
  have h3 := List.all_eq_true.1 h2 v hv
  unfold ivOk at h3
  exact of_decide_eq_true h3
theorem replP {α : Type} [Enc α] {w0 w : World} {e : Nat} {rs : List Row} {L : List (List α)} (hl : rs.length = L.length) {i : Nat} (hi : i < L.length) (r' : Row) (l' : List α) (K NB cs : List Chunk) (h : Hp w0 (slC r' e l' :: (K ++ ((NB ++ nestE e rs L) ++ cs))) w) : Hp w0 (K ++ ((NB ++ nestE e (rs.set i r') (L.set i l')) ++ cs)) w := by
  have h1 := HpM.perm h (List.Perm.cons _ (focusP (e := e) hl hi K NB cs))
  have h2 : Hp w0 (slC r' e l' :: (K ++ ((NB ++ nxE e rs L i) ++ cs))) w := h1.sub (List.Sublist.cons_cons _ (List.Sublist.cons _ (List.Sublist.refl _)))
  exact HpM.perm h2 (unfocusP (e := e) hl hi r' l' K NB cs)
theorem row_nil_sv (n : Nat) : (Row.nil n).sv = ⟨none, 0, 0⟩ := rfl
attribute [local irreducible] decR enOk pgOk teOk ivOk tlOk checkM lbOk formM limM schk lookM markR mkL invL mkX mkE invE
attribute [local irreducible] Code.wp wpList bodyPost Exit.then Exit.inBlock Calls wpQuiet Tri TriQ
section
variable (w0 : World) (cs : List Chunk)
theorem ackf_c {l : List LB} : TstLB w0 cs 31 [] (fun x => x.a == 0) l := fun ds x _ => by
  show Cal _ _ [.agg #[.int .i64 x.f, .int .i64 x.a]] _ _ _
  refine cal_of_tri Try.func31 rfl Try.ntmps31 rfl ?_
  (repeat (first | refine au_pure ?_ | refine au_pass ?_ | refine au_box (fun _ => ?_) | refine au_alloc (fun _ => ?_) | refine au_store ?_ | refine au_make rfl rfl (fun _ => ?_) | refine au_lit rfl rfl rfl (fun _ => ?_) | refine au_append rfl rfl rfl rfl (fun _ => au_norm ?_) | refine au_storeE rfl rfl rfl rfl ?_ | refine tri_seq ?_ | refine tri_then ?_ | refine tri_region ?_ | refine tri_nil ?_ | refine tri_skip ?_ | refine tri_ret ?_ | refine tri_exit ?_ | refine tri_thenr ?_ | refine tri_thene ?_ | refine tri_blkn ?_ | refine tri_blkr ?_ | refine tri_blke ?_ | refine tri_blko (by rfl) ?_ | refine tri_if_t (by rfl) ?_ | refine tri_if_f (by rfl) ?_ | fail))
  refine au_done1 rfl ?_
  intro w hw; refine ⟨(), ?_, hw.sub (by repeat (first | exact List.Sublist.refl _ | assumption | apply List.Sublist.cons_cons | apply List.Sublist.cons))⟩
  rfl
set_option maxHeartbeats 4000000 in
theorem ack_c {h : SH} {xb : List TB} {xp : List SV} {m : SM} (c : Int) (hC : RdS (Hp w0 cs) h xb xp m) (hL : SLe m) (hpe : ∀ i, (m.pd.getD i default).length ≤ 1000000) :
    Cal Try.prog 13 [hdV h, .int .i64 c] (Hp w0 cs) (fun q : {q : SR // SOk q (ackM m c).1} => .tuple #[hdV (hd q.1), .int .i64 (ackM m c).2]) (fun q => Hp w0 (SC q.1 (ackM m c).1 ++ cs)) := by
  have htl := hC.tll
  refine cal_of_tri Try.func13 rfl Try.ntmps13 rfl ?_
  (repeat (first | refine tri_seq ?_ | refine tri_then ?_)); refine tri_region ?_; (repeat (first | refine au_pure ?_ | refine au_pass ?_ | refine au_box (fun _ => ?_) | refine au_alloc (fun _ => ?_) | refine au_store ?_ | refine au_make rfl rfl (fun _ => ?_) | refine au_lit rfl rfl rfl (fun _ => ?_) | refine au_append rfl rfl rfl rfl (fun _ => au_norm ?_) | refine au_storeE rfl rfl rfl rfl ?_)); refine tri_nil ?_; (repeat refine tri_then ?_)
  rename_i g2 g4
  have hC1 := hC.cons (c := hdC g2 h) |>.cons (c := hdC g4 hdN)
  refine tri_weak (H' := Hp w0 (hdC g4 hdN :: hdC g2 h :: cs)) (fun w h => h) ?_
  (repeat (first | refine zz ?_ | refine zv fun _ => ?_))
  refine au_callC rfl rfl rfl rfl rfl (scheck_c w0 _ hC1 hL) (fun _ => ?_)
  (repeat (first | refine zz ?_ | refine zv fun _ => ?_))
  cases h1 : (schk m != 0)
  case true =>
    have h1 := bne_iff_ne.1 h1
    (repeat (first | refine zz ?_ | refine zv fun _ => ?_))
    refine au_done2 rfl ?_
    exact fun w hw => zero_res hw (by unfold ackM; rw [if_pos h1]) (by repeat (first | exact List.Sublist.refl _ | assumption | apply List.Sublist.cons_cons | apply List.Sublist.cons))
  have h1 : schk m = 0 := by simpa using h1
  have hV := schk_zero.1 h1
  have hr := hV.r
  have e1 : ackM m c = if ¬ (0 ≤ c ∧ c < m.tl.length) then (.zero, 2) else (ackG m c.toNat, 0) := by unfold ackM; rw [if_neg fun x => x h1]
  (repeat (first | refine zz ?_ | refine zv fun _ => ?_))
  cases h2 : decide (c < 0)
  case true =>
    have h2 := of_decide_eq_true h2
    (repeat (first | refine zz ?_ | refine zv fun _ => ?_))
    refine au_done2 rfl ?_
    exact fun w hw => zero_res hw (by rw [e1, if_pos (by omega)]) (by repeat (first | exact List.Sublist.refl _ | assumption | apply List.Sublist.cons_cons | apply List.Sublist.cons))
  have h2 := of_decide_eq_false h2
  (repeat (first | refine zz ?_ | refine zv fun _ => ?_))
  refine au_pure ?_ (hy := yl_len rfl rfl hC1.tl)
  (repeat (first | refine zz ?_ | refine zv fun _ => ?_))
  cases h3 : decide (c ≥ (xb.length : Int))
  case true =>
    have h3 := of_decide_eq_true h3
    (repeat (first | refine zz ?_ | refine zv fun _ => ?_))
    refine au_done2 rfl ?_
    exact fun w hw => zero_res hw (by rw [e1, if_pos (by omega)]) (by repeat (first | exact List.Sublist.refl _ | assumption | apply List.Sublist.cons_cons | apply List.Sublist.cons))
  have h3 := of_decide_eq_false h3
  rw [if_neg (fun x => x ⟨by omega, by omega⟩)] at e1
  obtain ⟨c, rfl⟩ : ∃ k : Nat, c = (k : Int) := ⟨c.toNat, by omega⟩
  rw [Int.toNat_natCast] at e1
  have hcl : c < m.tl.length := by omega
  (repeat (first | refine zz ?_ | refine zv fun _ => ?_))
  refine au_callC rfl rfl rfl rfl rfl (own_c w0 _ hC1 hr.2.2.1 (by omega) (by have := hV.lml; omega) (fun i => by have := hV.tel i; omega) hpe) ?_
  rintro ⟨q, hq⟩
  refine tri_weak (H' := Hp w0 (hdC g4 hdN :: hdC g2 h :: (SC q m ++ cs))) (fun w h => sc_mid2 (X := _ :: _ :: cs) h (List.Sublist.refl _)) ?_
  (repeat (first | refine au_pure ?_ | refine au_pass ?_ | refine au_box (fun _ => ?_) | refine au_alloc (fun _ => ?_) | refine au_store ?_ | refine au_make rfl rfl (fun _ => ?_) | refine au_lit rfl rfl rfl (fun _ => ?_) | refine au_append rfl rfl rfl rfl (fun _ => au_norm ?_) | refine au_storeE rfl rfl rfl rfl ?_)); refine tri_nil ?_; (repeat refine tri_then ?_)
  refine tri_weak (H' := Hp w0 (hdC g4 hdN :: hdC g2 (hd q) :: (SC q m ++ cs))) (fun w h => h) ?_
  have hOt := hV.tlb hcl
  have hew := hL.ew c
  have hpdk := pd_ok hV (c := c) (by omega)
  have hpc := hpe c
  obtain ⟨b, hb⟩ : ∃ b, b = m.tl.getD c default := ⟨_, rfl⟩
  rw [← hb] at hOt hew
  have hC3 : ∀ (bs : List Row) (l : List TE), bs.length = m.tl.length → RdS (Hp w0 (hdC g4 hdN :: hdC g2 (hd q) :: (SC { q with bs := bs } (setTl m c l) ++ cs))) (hd q) (tlx bs (setTl m c l).tl) (q.ps.map Row.sv) (setTl m c l) := fun bs l hbs =>
    ((rdS_own (w0 := w0) (cs := cs) (q := { q with bs := bs }) (m := setTl m c l) ⟨by show bs.length = (m.tl.set _ _).length; simp [hbs], hq.hp⟩).cons (c := hdC g2 (hd q))).cons (c := hdC g4 hdN)
  have e0 : setTl m c b.l = m := by
    unfold setTl
    rw [← hb, show (⟨b.z, b.l⟩ : TL) = b from rfl, hb, set_getD_self hcl]
  have hPe0 : ∀ (bs : List Row) (l : List TE), bs.length = m.tl.length → RdH (Hp w0 (hdC g4 hdN :: hdC g2 (hd q) :: (SC { q with bs := bs } (setTl m c l) ++ cs))) ((q.ps.map Row.sv).getD c default).v (m.pd.getD c default) := fun bs l hbs => (hC3 bs l hbs).pe c
  obtain ⟨pl, hpl⟩ : ∃ pl, pl = m.pd.getD c default := ⟨_, rfl⟩
  have hpsl : (q.ps.map Row.sv).length = m.pd.length := by rw [List.length_map, hq.hp]
  have hps := hq.hp
  rw [← hpl] at hpdk hpc hPe0
  obtain ⟨pv, hpv⟩ : ∃ s, s = (q.ps.map Row.sv).getD c default := ⟨_, rfl⟩
  rw [← hpv] at hPe0
  have hrd0 : RdS (Hp w0 (hdC g4 hdN :: hdC g2 (hd q) :: (SC q m ++ cs))) (hd q) (tlx q.bs m.tl) (q.ps.map Row.sv) m := by
    have := hC3 q.bs b.l hq.hb
    rw [e0] at this
    exact this
  (repeat (first | refine zz ?_ | refine zv fun _ => ?_))
  refine au_pure ?_ (hy := yl_idx (k := c) rfl rfl hrd0.pd (ix_nat rfl) (by rfl) (by omega))
  refine au_pure ?_ (hy := yl_loadE rfl rfl hrd0.pd (by rfl) (by omega) (by rfl))
  rw [← hpv]
  have hPe1 := hPe0 q.bs b.l hq.hb
  rw [e0] at hPe1
  refine au_pure ?_ (hy := yl_len rfl rfl hPe1)
  (repeat (first | refine zz ?_ | refine zv fun _ => ?_))
  refine tri_block ?_
  refine tri_loop2 (fun (k : Nat) (bs : List Row) => k ≤ pl.length ∧ bs.length = m.tl.length) (fun k _ => [(1, .int .i64 (c : Int)), (2, .pointer (some ⟨g2, 0, none⟩)), (4, .pointer (some ⟨g4, 0, none⟩)), (32, pv.v), (33, .int .i64 (pl.length : Int)), (34, .int .i64 (k : Int))])
    (fun k bs => Hp w0 (hdC g4 hdN :: hdC g2 (hd q) :: (SC { q with bs := bs } (setTl m c (invsL b.l (pl.take k))) ++ cs))) (fun k _ => pl.length - k)
    0 q.bs ⟨by omega, hq.hb⟩ (by repeat (first | exact trivial | refine ⟨rfl, ?_⟩)) (fun w h => by rw [show invsL b.l (pl.take 0) = b.l from rfl, e0]; exact h) ?_
  rintro k bs ⟨hk, hbs⟩
  (repeat (first | refine zz ?_ | refine zv fun _ => ?_))
  ((first | refine tri_cond (by rfl) (fun hc => ?_) (fun hc => ?_) | refine tri_gsplit (by rfl) (by rfl) (by (fail_if_success exact (rfl : _ = some (Value.bool true))); (fail_if_success exact (rfl : _ = some (Value.bool false))); rfl) (fun hc => ?_) (fun hc => ?_)) <;> (try simp only [decide_eq_true_eq, decide_eq_false_iff_not, beq_iff_eq, bne_iff_ne, ne_eq, Bool.not_eq_true', Bool.not_eq_false', beq_eq_false_iff_ne, bne_eq_false_iff_eq, Int.not_lt, Int.not_le, gt_iff_lt, ge_iff_le, Bool.and_eq_true, Bool.or_eq_true, Bool.and_eq_false_iff, Bool.or_eq_false_iff, Decidable.not_not, not_true_eq_false, not_false_eq_true, and_true, true_and, or_false, false_or, or_true, true_or, and_false, false_and, eq_self, Bool.true_eq_false, Bool.false_eq_true] at hc) <;> (try (exfalso; omega)))
  · have hkl : k < pl.length := by omega
    have hst := invs_step (l0 := b.l) hkl
    have hO1 := invs_ok (ps := pl.take k) hOt.1
    have hW1 := invs_wf (ps := pl.take k) hew
    have hvk := hpdk _ (mem_getD' hkl)
    have hCk := hC3 bs (invsL b.l (pl.take k)) hbs
    have hPk := hPe0 bs (invsL b.l (pl.take k)) hbs
    have hl1 : (invsL b.l (pl.take k)).length ≤ 9223372036854775807 := by have := hO1.n; have := hO1.z; omega
    obtain ⟨l1, hl1e⟩ : ∃ l, l = invsL b.l (pl.take k) := ⟨_, rfl⟩
    rw [← hl1e] at hst hO1 hW1 hCk hPk hl1 ⊢
    (repeat (first | refine zz ?_ | refine zv fun _ => ?_))
    refine tri_block ?_
    (repeat (first | refine zz ?_ | refine zv fun _ => ?_))
    refine au_pure ?_ (hy := yl_idx (k := k) rfl rfl hPk (ix_nat rfl) (by rfl) (by omega))
    refine au_pure ?_ (hy := yl_loadEN rfl rfl hPk (by rfl) (by omega) (by repeat (first | exact nf0 rfl | apply nfS rfl | exact nfR)) (by rfl))
    obtain ⟨v, hv⟩ : ∃ v, v = pl.getD k default := ⟨_, rfl⟩
    rw [← hv] at hst hvk ⊢
    (repeat (first | refine au_pure ?_ | refine au_pass ?_ | refine au_box (fun _ => ?_) | refine au_alloc (fun _ => ?_) | refine au_store ?_ | refine au_make rfl rfl (fun _ => ?_) | refine au_lit rfl rfl rfl (fun _ => ?_) | refine au_append rfl rfl rfl rfl (fun _ => au_norm ?_) | refine au_storeE rfl rfl rfl rfl ?_)); refine tri_nil ?_; (repeat refine tri_then ?_)
    rename_i g8
    have hXg : (tlx bs (setTl m c l1).tl).getD c default = ⟨b.z, (bs.getD c (Row.nil 0)).sv⟩ := by
      rw [tlx_get (by show bs.length = (m.tl.set _ _).length; simp [hbs]) (by show c < (m.tl.set _ _).length; simpa using hcl)]
      unfold setTl
      show (⟨((m.tl.set c _).getD c default).z, _⟩ : TB) = _
      rw [gd_set hcl, if_pos rfl, ← hb]
    have hxl : (tlx bs (setTl m c l1).tl).length = m.tl.length := by rw [tlx_len (by show bs.length = (m.tl.set _ _).length; simp [hbs])]; show (m.tl.set _ _).length = _; simp
    have hXs : ∀ (r : Row) (l : List TE), (tlx bs (setTl m c l1).tl).set c ⟨b.z, r.sv⟩ = tlx (bs.set c r) (setTl m c l).tl := fun r l => by
      have := tlx_set bs (setTl m c l1).tl c r ⟨b.z, l⟩
      rw [this]
      unfold setTl
      show tlx _ ((m.tl.set c _).set c _) = _
      rw [List.set_set, ← hb]
    have hE4 := (hCk.te c).cons (c := blkC g8 62 [.int .i64 v.s, .int .i64 v.p, .bool v.o])
    rw [show ((setTl m c l1).tl.getD c default).l = l1 by unfold setTl; show ((m.tl.set c _).getD c default).l = _; rw [gd_set hcl, if_pos rfl]] at hE4
    have hIe : invE b.z l1 0 v.p = 0 := by unfold invE; rw [if_pos (check_ok.2 hO1)]; exact plc_of (by omega) (by omega)
    obtain ⟨XX, hXX⟩ : ∃ X, X = tlx bs (setTl m c l1).tl := ⟨_, rfl⟩
    obtain ⟨NX, hNX⟩ : ∃ X, X = (SNb { q with bs := bs } (setTl m c l1) ++ SNp q m) ++ cs := ⟨_, rfl⟩
    rw [← hXX] at hXg hxl hXs hE4
    have hE5 : RdH (Hp w0 (blkC g8 62 [.int .i64 v.s, .int .i64 v.p, .bool v.o] :: hdC g4 hdN :: hdC g2 (hd q) :: tlS q.b XX :: pdS q.p (q.ps.map Row.sv) :: u64S q.t m.tb :: lbS q.l m.lm :: inS q.w m.wd :: NX)) (XX.getD c default).s.v l1 := by rw [hNX]; rw [hXX]; rw [hXX] at hE4; exact hE4
    have hRb : RdH (Hp w0 (blkC g8 62 [.int .i64 v.s, .int .i64 v.p, .bool v.o] :: hdC g2 (hd q) :: tlS q.b XX :: NX)) q.b.v XX := rd_chunk ⟨2, rfl⟩
    refine tri_weak (H' := Hp w0 (blkC g8 62 [.int .i64 v.s, .int .i64 v.p, .bool v.o] :: hdC g4 hdN :: hdC g2 (hd q) :: tlS q.b XX :: pdS q.p (q.ps.map Row.sv) :: u64S q.t m.tb :: lbS q.l m.lm :: inS q.w m.wd :: NX)) (fun w h => by rw [hNX, hXX]; exact h) ?_
    (repeat (first | refine tri_seq ?_ | refine tri_then ?_))
    refine ar_held [15] (blkC g8 62 [.int .i64 v.s, .int .i64 v.p, .bool v.o] :: hdC g2 (hd q) :: tlS q.b XX :: NX) rfl ?_
    refine ar_free 0 rfl rfl rfl ?_; refine ar_free 2 rfl rfl rfl ?_; refine ar_free 3 rfl rfl rfl ?_; refine ar_free 5 rfl rfl rfl ?_; refine ar_free 8 rfl rfl rfl ?_
    refine ar_take 1 rfl rfl rfl ?_; refine ar_take 4 rfl rfl rfl ?_
    refine ar_take 6 rfl rfl rfl ?_ (hy := yl_idx (k := c) rfl rfl hRb (ix_nat rfl) (by rfl) (by omega))
    refine ar_take 7 rfl rfl rfl ?_ (hy := yl_loadEN rfl rfl hRb (by rfl) (by omega) (by repeat (first | exact nf0 rfl | apply nfS rfl | exact nfR)) (by rfl))
    rw [show (XX.getD c default).z = b.z by rw [hXg]]
    refine ar_take 9 rfl rfl rfl ?_
    refine ar_op 10 rfl ?_
    refine au_callC rfl rfl rfl rfl rfl (inval_c w0 _ 0 v.p hE5 hl1 hW1) ?_
    intro r1
    rw [hIe, show resZ 0 b.z = b.z from rfl, show resL 0 (invL l1 0 v.p) = invL l1 0 v.p from rfl, ← hst]
    refine tri_nil ?_; refine ar_in ?_
    refine ar_take 11 rfl rfl rfl ?_; refine ar_take 12 rfl rfl rfl ?_
    refine ar_free 13 rfl rfl rfl ?_
    refine ar_take 14 rfl rfl rfl ?_ (hy := yl_idx (k := c) rfl rfl hRb (ix_nat rfl) (by rfl) (by omega))
    refine ar_op 15 rfl ?_
    refine au_storeE (r := q.b) (a := (⟨b.z, r1.sv⟩ : TB)) rfl rfl rfl rfl ?_
    refine tri_nil ?_; refine ar_ink ?_
    refine ar_done ?_
    obtain ⟨l2, hl2⟩ : ∃ l, l = invsL b.l (pl.take (k + 1)) := ⟨_, rfl⟩
    rw [← hl2]
    refine tri_weak (H' := Hp w0 (hdC g4 hdN :: hdC g2 (hd q) :: (SC { q with bs := bs.set c r1 } (setTl m c l2) ++ cs))) (fun w h => ?_) ?_
    · rw [hNX, hXs r1 l2] at h
      have h2 := replB (e := 71) (rs := bs) (L := tls (setTl m c l1)) (i := c) (by rw [tls_set]; simp [hbs]) (by rw [tls_set]; simpa using hcl) r1 l2 [blkC g8 62 [.int .i64 v.s, .int .i64 v.p, .bool v.o], hdC g4 hdN, hdC g2 (hd q), tlS q.b (tlx (bs.set c r1) (setTl m c l2).tl), pdS q.p (q.ps.map Row.sv), u64S q.t m.tb, lbS q.l m.lm, inS q.w m.wd] (SNp q m) cs h
      rw [tls_set, List.set_set, ← tls_set] at h2
      exact h2.sub (List.Sublist.cons _ (List.Sublist.refl _))
    (repeat (first | refine zz ?_ | refine zv fun _ => ?_))
    exact tri_nx2 (k + 1) (bs.set c r1) (by omega) ⟨by omega, by simp [hbs]⟩ (by repeat (first | exact trivial | refine ⟨rfl, ?_⟩)) (fun w h => by rw [← hl2]; exact h)
  · have hke : k = pl.length := by omega
    subst hke
    rw [List.take_length]
    obtain ⟨l1, hl1⟩ : ∃ l, l = invsL b.l pl := ⟨_, rfl⟩
    rw [← hl1]
    have e2 : ackG m c = { (setTl m c l1) with pd := m.pd.set c [], lm := (m.lm.map (clrA c)).filter fun x => !(x.a == 0) } := by unfold ackG; rw [← hb, ← hpl, ← hl1]
    have hlb := lim_bd hV.lim
    have hpw := pow_le (c := m.tl.length) (by omega)
    have hlml := hV.lml
    obtain ⟨XX, hXX⟩ : ∃ X, X = tlx bs (setTl m c l1).tl := ⟨_, rfl⟩
    obtain ⟨YY, hYY⟩ : ∃ Y, Y = q.ps.map Row.sv := ⟨_, rfl⟩
    have hYl : YY.length = m.pd.length := by rw [hYY]; exact hpsl
    obtain ⟨NX, hNX⟩ : ∃ X, X = (SNb { q with bs := bs } (setTl m c l1) ++ SNp q m) ++ cs := ⟨_, rfl⟩
    refine tri_weak (H' := Hp w0 (hdC g4 hdN :: hdC g2 (hd q) :: tlS q.b XX :: pdS q.p YY :: u64S q.t m.tb :: lbS q.l m.lm :: inS q.w m.wd :: NX)) (fun w h => by rw [hNX, hXX, hYY]; exact h) ?_
    have hRp : RdH (Hp w0 (hdC g4 hdN :: hdC g2 (hd q) :: tlS q.b XX :: pdS q.p YY :: u64S q.t m.tb :: lbS q.l m.lm :: inS q.w m.wd :: NX)) q.p.v YY := rd_chunk ⟨3, rfl⟩
    (repeat (first | refine zz ?_ | refine zv fun _ => ?_))
    refine au_pure ?_ (hy := yl_idx (k := c) rfl rfl hRp (ix_nat rfl) (by rfl) (by omega))
    refine au_storeE (r := q.p) (a := (⟨none, 0, 0⟩ : SV)) rfl rfl rfl rfl ?_
    refine tri_nilrow IV 62 ?_
    obtain ⟨q2, hq2e⟩ : ∃ x, x = ({ q with bs := bs, ps := q.ps.set c (Row.nil w0.heap.size) } : SR) := ⟨_, rfl⟩
    obtain ⟨NY, hNY⟩ : ∃ X, X = (SNb { q with bs := bs } (setTl m c l1) ++ nestE 62 (q.ps.set c (Row.nil w0.heap.size)) (m.pd.set c [])) ++ cs := ⟨_, rfl⟩
    obtain ⟨YZ, hYZ⟩ : ∃ Y, Y = (q.ps.set c (Row.nil w0.heap.size)).map Row.sv := ⟨_, rfl⟩
    refine tri_weak (H' := Hp w0 (hdC g4 hdN :: hdC g2 (hd q) :: tlS q.b XX :: pdS q.p YZ :: u64S q.t m.tb :: lbS q.l m.lm :: inS q.w m.wd :: NY)) (fun w h => ?_) ?_
    · rw [hNX] at h
      have h2 := replP (e := 62) (rs := q.ps) (L := m.pd) (i := c) (by omega) (by omega) (Row.nil w0.heap.size) [] [hdC g4 hdN, hdC g2 (hd q), tlS q.b XX, pdS q.p (YY.set c ⟨none, 0, 0⟩), u64S q.t m.tb, lbS q.l m.lm, inS q.w m.wd] (SNb { q with bs := bs } (setTl m c l1)) cs h
      rw [hNY, hYZ, List.map_set, row_nil_sv, ← hYY]
      exact h2
    have hRl : ∀ (L : List LB), RdH (Hp w0 (hdC g4 hdN :: hdC g2 (hd q) :: tlS q.b XX :: pdS q.p YZ :: u64S q.t m.tb :: lbS q.l L :: inS q.w m.wd :: NY)) q.l.v L := fun _ => rd_chunk ⟨5, rfl⟩
    (repeat (first | refine zz ?_ | refine zv fun _ => ?_))
    refine au_pure ?_ (hy := yl_len rfl rfl (hRl _))
    (repeat (first | refine zz ?_ | refine zv fun _ => ?_))
    refine tri_block ?_
    refine tri_loop1 (fun (i : Nat) => i ≤ m.lm.length) (fun i => [(1, .int .i64 (c : Int)), (2, .pointer (some ⟨g2, 0, none⟩)), (4, .pointer (some ⟨g4, 0, none⟩)), (60, .int .i64 (m.lm.length : Int)), (61, .int .i64 (i : Int))])
      (fun i => Hp w0 (hdC g4 hdN :: hdC g2 (hd q) :: tlS q.b XX :: pdS q.p YZ :: u64S q.t m.tb :: lbS q.l (mixT ((m.lm.take i).map (clrA c)) m.lm i) :: inS q.w m.wd :: NY)) (fun i => m.lm.length - i)
      0 (by omega) (by repeat (first | exact trivial | refine ⟨rfl, ?_⟩)) (fun w h => h) ?_
    intro i hi
    have hAl : ((m.lm.take i).map (clrA c)).length = i := by simp; omega
    (repeat (first | refine zz ?_ | refine zv fun _ => ?_))
    ((first | refine tri_cond (by rfl) (fun hc => ?_) (fun hc => ?_) | refine tri_gsplit (by rfl) (by rfl) (by (fail_if_success exact (rfl : _ = some (Value.bool true))); (fail_if_success exact (rfl : _ = some (Value.bool false))); rfl) (fun hc => ?_) (fun hc => ?_)) <;> (try simp only [decide_eq_true_eq, decide_eq_false_iff_not, beq_iff_eq, bne_iff_ne, ne_eq, Bool.not_eq_true', Bool.not_eq_false', beq_eq_false_iff_ne, bne_eq_false_iff_eq, Int.not_lt, Int.not_le, gt_iff_lt, ge_iff_le, Bool.and_eq_true, Bool.or_eq_true, Bool.and_eq_false_iff, Bool.or_eq_false_iff, Decidable.not_not, not_true_eq_false, not_false_eq_true, and_true, true_and, or_false, false_or, or_true, true_or, and_false, false_and, eq_self, Bool.true_eq_false, Bool.false_eq_true] at hc) <;> (try (exfalso; omega)))
    · (repeat (first | refine zz ?_ | refine zv fun _ => ?_))
      refine tri_block ?_
      have hil : i < m.lm.length := by omega
      have hxb := hlb _ (mem_getD' hil)
      have hMg : (mixT ((m.lm.take i).map (clrA c)) m.lm i).getD i default = m.lm.getD i default := mixT_get hAl
      have hMl : (mixT ((m.lm.take i).map (clrA c)) m.lm i).length = m.lm.length := mixT_len hAl (by omega)
      have hMs : (mixT ((m.lm.take i).map (clrA c)) m.lm i).set i (clrA c (m.lm.getD i default)) = mixT ((m.lm.take (i + 1)).map (clrA c)) m.lm (i + 1) := by
        rw [mixT_set hAl hil, take_step hil, List.map_append]; rfl
      obtain ⟨LL, hLL⟩ : ∃ L, L = mixT ((m.lm.take i).map (clrA c)) m.lm i := ⟨_, rfl⟩
      obtain ⟨x, hx⟩ : ∃ x, x = m.lm.getD i default := ⟨_, rfl⟩
      rw [← hLL, ← hx] at hMg hMs
      rw [← hLL] at hMl ⊢
      rw [← hx] at hxb
      have hclr := clr_eq (a := x.a) (c := c) (by omega) (by omega)
      (repeat (first | refine tri_seq ?_ | refine tri_then ?_)); refine tri_region ?_; (repeat (first | refine au_pure ?_ | refine au_pass ?_ | refine au_box (fun _ => ?_) | refine au_alloc (fun _ => ?_) | refine au_store ?_ | refine au_make rfl rfl (fun _ => ?_) | refine au_lit rfl rfl rfl (fun _ => ?_) | refine au_append rfl rfl rfl rfl (fun _ => au_norm ?_) | refine au_storeE rfl rfl rfl rfl ?_)); refine tri_nil ?_; (repeat refine tri_then ?_)
      have hRh : RdH (Hp w0 (hdC g2 (hd q) :: lbS q.l LL :: NY)) q.l.v LL := rd_chunk ⟨1, rfl⟩
      refine ar_held [11] (hdC g2 (hd q) :: lbS q.l LL :: NY) rfl ?_
      refine ar_free 0 rfl rfl rfl ?_; refine ar_free 2 rfl rfl rfl ?_; refine ar_free 6 rfl rfl rfl ?_
      refine ar_take 1 rfl rfl rfl ?_
      refine ar_take 3 rfl rfl rfl ?_ (hy := yl_idx (k := i) rfl rfl hRh (ix_nat rfl) (by rfl) (by omega))
      refine ar_take 4 rfl rfl rfl ?_
      refine ar_take 5 rfl rfl rfl ?_ (hy := yl_loadE rfl rfl hRh (by rfl) (by omega) (by rfl))
      rw [hMg]
      refine ar_take 7 rfl rfl rfl ?_ (hy := yl_shl rfl rfl rfl (by omega))
      rw [shl_eq (show c ≤ 4 by omega)]
      refine ar_take 8 rfl rfl rfl ?_ (hy := yl_andNot rfl rfl rfl)
      rw [hclr]
      refine ar_take 9 rfl rfl rfl ?_ (hy := yl_idx (k := i) rfl rfl hRh (ix_nat rfl) (by rfl) (by omega))
      refine ar_take 10 rfl rfl rfl ?_
      refine ar_op 11 rfl ?_
      refine au_storeE (r := q.l) (a := (⟨(LL.getD i default).f, if bitA x.a c = true then x.a - 2 ^ c else x.a⟩ : LB)) rfl rfl rfl rfl ?_
      refine tri_nil ?_; refine ar_ink ?_
      refine ar_done ?_
      rw [show (⟨(LL.getD i default).f, if bitA x.a c = true then x.a - 2 ^ c else x.a⟩ : LB) = clrA c x by rw [hMg]; rfl, hMs]
      (repeat (first | refine zz ?_ | refine zv fun _ => ?_))
      exact tri_nx1 (i + 1) (by omega) (by omega) (by repeat (first | exact trivial | refine ⟨rfl, ?_⟩)) (fun w h => h)
    · have hie : i = m.lm.length := by omega
      subst hie
      rw [mixT_end (Nat.le_refl _), List.take_length]
      obtain ⟨LL, hLL⟩ : ∃ L, L = m.lm.map (clrA c) := ⟨_, rfl⟩
      have hLl : LL.length ≤ 1000000 := by rw [hLL]; simp; omega
      rw [← hLL] at e2 ⊢
      (repeat (first | refine zz ?_ | refine zv fun _ => ?_))
      refine tri_front 5 rfl (by repeat (first | exact nf0 rfl | apply nfS rfl | exact nfR)) ?_
      refine au_callC rfl rfl rfl rfl rfl (deleteFuncLB_c w0 _ (r := q.l) (l := LL) hLl (ackf_c w0 _) (capd := [])) ?_
      intro r2
      (repeat (first | refine zz ?_ | refine zv fun _ => ?_))
      refine tri_front 5 rfl (by repeat (first | exact nf0 rfl | apply nfS rfl | exact nfR)) ?_
      refine tri_front 5 rfl (by repeat (first | exact nf0 rfl | apply nfS rfl | exact nfR)) ?_
      refine tri_front 5 rfl (by repeat (first | exact nf0 rfl | apply nfS rfl | exact nfR)) ?_
      refine tri_front 5 rfl (by repeat (first | exact nf0 rfl | apply nfS rfl | exact nfR)) ?_
      refine tri_front 5 rfl (by repeat (first | exact nf0 rfl | apply nfS rfl | exact nfR)) ?_
      refine au_done2 rfl ?_
      intro w hw
      have hq3 : SOk { q with bs := bs, ps := q.ps.set c (Row.nil w0.heap.size), l := r2 } (ackG m c) := by
        rw [e2]
        exact ⟨by show bs.length = (m.tl.set _ _).length; simp [hbs], by show (q.ps.set _ _).length = (m.pd.set _ _).length; simp [hps]⟩
      refine good_res (q := { q with bs := bs, ps := q.ps.set c (Row.nil w0.heap.size), l := r2 }) e1 hq3 hw ?_
      rw [e2, hNY, hXX, hYZ]
      exact (by repeat (first | exact List.Sublist.refl _ | assumption | apply List.Sublist.cons_cons | apply List.Sublist.cons))
end
end Go.Proofs.Ytojfaelafakemaa

/- The walk of the reference of the shootdown machine's Ack. No conditions. -/
set_option linter.unusedSimpArgs false
set_option linter.unusedVariables false
namespace Go.Proofs.Ytojfaelafakemaa
open Go Go.RowKit
theorem clr_step {c : Nat} {l : List LB} {i : Nat} (hk : i < l.length) : ((l.take (i + 1)).map (clrA c)).filter (fun x => !(x.a == 0)) = ((l.take i).map (clrA c)).filter (fun x => !(x.a == 0)) ++ if (!((clrA c (l.getD i default)).a == 0)) = true then [clrA c (l.getD i default)] else [] := by
  rw [take_step hk, List.map_append, List.filter_append]
  simp only [List.map_cons, List.map_nil, List.filter_cons, List.filter_nil]
attribute [local irreducible] decR enOk pgOk teOk ivOk tlOk checkM lbOk formM limM schk lookM markR mkL invL mkX mkE invE rlbOk rlimM
attribute [local irreducible] Code.wp wpList bodyPost Exit.then Exit.inBlock Calls wpQuiet Tri TriQ
section
variable (w0 : World) (cs : List Chunk)
end
end Go.Proofs.Ytojfaelafakemaa

/- A region that draws its order, when several operations may come up at a time: one lemma for each set of done operations. No conditions. -/
set_option linter.unusedSimpArgs false
set_option linter.unusedVariables false
namespace Go.Proofs.Ytojfaelafakemaa
open Go Go.RowKit
def TN [Dl] (P : Program) (n : Nat) (l : List Oper) (fuel : Nat) (bs : List Bool) (F : Act → World → Prop) (E : Env) (H : World → Prop) : Prop := ∀ a w, FrOk n E a → H w → wpAny P .any l.toArray (Exit.then F NoQ) fuel bs.toArray a w
section
variable {M : List Nat} {P : Program} {n d : Nat} {Q : Exit → Act → World → Prop} {F : Act → World → Prop} {l : List Oper} {o : Oper} {E : Env} {H S : World → Prop} {w0 : World} {cs cs0 : List Chunk} {v : Value} {fuel : Nat} {bs : List Bool} {listed : Array Bool}
theorem wpAnyR_of : ∀ (fuel : Nat) (listed : Array Bool) (a : Act) (w : World), wpAny P .any l.toArray Q fuel listed a w → wpAnyR P .any l.toArray Q (fun _ => True) [] fuel listed a w
  | 0, _, _, _, h => h
  | fuel + 1, _, _, _, h => ⟨h.1, fun i hi => wpOp_mono (fun a' w' h' => ⟨fun _ _ => trivial, wpAnyR_of fuel _ a' w' h'⟩) (h.2 i hi)⟩
/-- The region, what reads no memory ahead (ar_free). -/
theorem an_held [Dl] {id : Nat} (hm : P.follows .mixedOrders = true) (k : TR P n l (fun _ => True) [] l.length (Array.replicate l.length false) (Q .normal) E (HpM M w0 cs)) : Tri n ((Code.region id l.toArray true).wp P Q) E (HpM M w0 cs) := fun a w h1 h2 => by
  refine wp_mono (Q := Exit.then (Q .normal) NoQ) (wp_region_any hm (wpAny_of_r _ _ _ _ (k a _ h1 h2.drawn))) fun e a' w' q => ?_
  cases e with
  | normal => exact q
  | exit id => exact q.elim
  | goto l => exact q.elim
  | ret => exact q.elim
  | panic ch => exact q.elim
  | outgrown => exact q.elim
theorem an_start [Dl] (bs : List Bool) (hl : listed = bs.toArray) (k : TN P n l fuel bs F E H) : TR P n l (fun _ => True) [] fuel listed F E H := fun a w h1 h2 => by
  subst hl
  exact wpAnyR_of _ _ _ _ (k a w h1 h2)
/-- What holds of a set of done operations, for use in the others. -/
theorem tn_have [Dl] {V : Type} (f' : Nat) (bs' : List Bool) (E' : V → Env) (C' : V → List Chunk) (h1 : ∀ v, TN P n l f' bs' F (E' v) (HpM M w0 (C' v)))
    (h2 : (∀ v, TN P n l f' bs' F (E' v) (HpM M w0 (C' v))) → TN P n l fuel bs F E (HpM M w0 cs)) : TN P n l fuel bs F E (HpM M w0 cs) := h2 h1
theorem tn_all [Dl] {is : List Nat} (hr : Region.ready .any l.toArray bs.toArray = is) (hne : is ≠ []) (k : ∀ i ∈ is, ∃ o, l[i]? = some o ∧ Tri n (wpList P l.toArray (Exit.then (fun a w => wpAny P .any l.toArray (Exit.then F NoQ) fuel (bs.set i true).toArray a w) NoQ) [o]) E H) : TN P n l (fuel + 1) bs F E H := fun a w h1 h2 => by
  refine ⟨fun h0 => absurd (hr ▸ h0) hne, fun i hi => ?_⟩
  obtain ⟨o, ho, hk⟩ := k i (hr ▸ hi)
  have := wpop_ofk (F := F) ho (hk a w h1 h2)
  rw [List.setIfInBounds_toArray]
  exact this
theorem tn_op1 [Dl] {i : Nat} {o : Oper} (hi : l[i]? = some o) (k : Tri n (wpList P l.toArray (Exit.then (fun a w => wpAny P .any l.toArray (Exit.then F NoQ) fuel (bs.set i true).toArray a w) NoQ) [o]) E H) (hr : Region.ready .any l.toArray bs.toArray = [i] := by kernel_rfl) : TN P n l (fuel + 1) bs F E H :=
  tn_all hr (by simp) fun j hj => by
    have : j = i := by simpa using hj
    subst this
    exact ⟨o, hi, k⟩
theorem tn_op2 [Dl] {i j : Nat} {o o2 : Oper} (hi : l[i]? = some o) (hj : l[j]? = some o2) (k : Tri n (wpList P l.toArray (Exit.then (fun a w => wpAny P .any l.toArray (Exit.then F NoQ) fuel (bs.set i true).toArray a w) NoQ) [o]) E H)
    (k2 : Tri n (wpList P l.toArray (Exit.then (fun a w => wpAny P .any l.toArray (Exit.then F NoQ) fuel (bs.set j true).toArray a w) NoQ) [o2]) E H) (hr : Region.ready .any l.toArray bs.toArray = [i, j] := by kernel_rfl) : TN P n l (fuel + 1) bs F E H :=
  tn_all hr (by simp) fun x hx => by
    have : x = i ∨ x = j := by simpa using hx
    rcases this with rfl | rfl
    · exact ⟨o, hi, k⟩
    · exact ⟨o2, hj, k2⟩
theorem tn_op3 [Dl] {i j m : Nat} {o o2 o3 : Oper} (hi : l[i]? = some o) (hj : l[j]? = some o2) (hm : l[m]? = some o3) (k : Tri n (wpList P l.toArray (Exit.then (fun a w => wpAny P .any l.toArray (Exit.then F NoQ) fuel (bs.set i true).toArray a w) NoQ) [o]) E H)
    (k2 : Tri n (wpList P l.toArray (Exit.then (fun a w => wpAny P .any l.toArray (Exit.then F NoQ) fuel (bs.set j true).toArray a w) NoQ) [o2]) E H)
    (k3 : Tri n (wpList P l.toArray (Exit.then (fun a w => wpAny P .any l.toArray (Exit.then F NoQ) fuel (bs.set m true).toArray a w) NoQ) [o3]) E H) (hr : Region.ready .any l.toArray bs.toArray = [i, j, m] := by kernel_rfl) : TN P n l (fuel + 1) bs F E H :=
  tn_all hr (by simp) fun x hx => by
    have : x = i ∨ x = j ∨ x = m := by simpa using hx
    rcases this with rfl | rfl | rfl
    · exact ⟨o, hi, k⟩
    · exact ⟨o2, hj, k2⟩
    · exact ⟨o3, hm, k3⟩
theorem tn_op4 [Dl] {i j m n4 : Nat} {o o2 o3 o4 : Oper} (hi : l[i]? = some o) (hj : l[j]? = some o2) (hm : l[m]? = some o3) (h4 : l[n4]? = some o4) (k : Tri n (wpList P l.toArray (Exit.then (fun a w => wpAny P .any l.toArray (Exit.then F NoQ) fuel (bs.set i true).toArray a w) NoQ) [o]) E H)
    (k2 : Tri n (wpList P l.toArray (Exit.then (fun a w => wpAny P .any l.toArray (Exit.then F NoQ) fuel (bs.set j true).toArray a w) NoQ) [o2]) E H)
    (k3 : Tri n (wpList P l.toArray (Exit.then (fun a w => wpAny P .any l.toArray (Exit.then F NoQ) fuel (bs.set m true).toArray a w) NoQ) [o3]) E H)
    (k4 : Tri n (wpList P l.toArray (Exit.then (fun a w => wpAny P .any l.toArray (Exit.then F NoQ) fuel (bs.set n4 true).toArray a w) NoQ) [o4]) E H) (hr : Region.ready .any l.toArray bs.toArray = [i, j, m, n4] := by kernel_rfl) : TN P n l (fuel + 1) bs F E H :=
  tn_all hr (by simp) fun x hx => by
    have : x = i ∨ x = j ∨ x = m ∨ x = n4 := by simpa using hx
    rcases this with rfl | rfl | rfl | rfl
    · exact ⟨o, hi, k⟩
    · exact ⟨o2, hj, k2⟩
    · exact ⟨o3, hm, k3⟩
    · exact ⟨o4, h4, k4⟩
theorem tn_in [Dl] {E' : Env} {H' : World → Prop} (k : TN P n l fuel bs F E' H') (hs : Sub E' E) (hH : ∀ w, H w → H' w) : Tri n (Exit.then (fun a w => wpAny P .any l.toArray (Exit.then F NoQ) fuel bs.toArray a w) NoQ .normal) E H := fun a w h1 h2 => k a w (h1.sub hs) (hH w h2)
theorem tn_next [Dl] (k : TN P n l fuel bs F E H) : Tri n (Exit.then (fun a w => wpAny P .any l.toArray (Exit.then F NoQ) fuel bs.toArray a w) NoQ .normal) E H := k
theorem tn_meet [Dl] {E' : Env} {H' : World → Prop} (k : TN P n l fuel bs F E' H') (hs : Sub E' E) (hH : ∀ w, H w → H' w) : TN P n l fuel bs F E H := fun a w h1 h2 => k a w (h1.sub hs) (hH w h2)
theorem tn_done [Dl] (k : Tri n F E H) (hr : Region.ready .any l.toArray bs.toArray = [] := by kernel_rfl) : TN P n l fuel bs F E H := fun a w h1 h2 => by
  cases fuel with
  | zero => exact ⟨hr, k a w h1 h2⟩
  | succ f => exact ⟨fun _ => k a w h1 h2, by rw [hr]; simp⟩
end
end Go.Proofs.Ytojfaelafakemaa
