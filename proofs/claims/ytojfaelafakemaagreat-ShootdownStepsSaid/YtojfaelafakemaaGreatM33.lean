/- Texts joined: ShRAck, SeqN. Each part's own remark says what it proves. -/
import Derived.Test.YtojfaelafakemaaGreatM31
import Derived.Test.YtojfaelafakemaaGreatM32
import Derived.Test.YtojfaelafakemaaGreatM13
/- The walk of the reference of the shootdown machine's Ack. No conditions. -/
set_option linter.unusedSimpArgs false
set_option linter.unusedVariables false
namespace Go.Proofs.YtojfaelafakemaaGreat
open Go Go.RowKit
theorem clr_step {c : Nat} {l : List LB} {i : Nat} (hk : i < l.length) : ((l.take (i + 1)).map (clrA c)).filter (fun x => !(x.a == 0)) = ((l.take i).map (clrA c)).filter (fun x => !(x.a == 0)) ++ if (!((clrA c (l.getD i default)).a == 0)) = true then [clrA c (l.getD i default)] else [] := by
  rw [take_step hk, List.map_append, List.filter_append]
  simp only [List.map_cons, List.map_nil, List.filter_cons, List.filter_nil]
attribute [local irreducible] decR enOk pgOk teOk ivOk tlOk checkM lbOk formM limM schk lookM markR mkL invL mkX mkE invE rlbOk rlimM
attribute [local irreducible] Code.wp wpList bodyPost Exit.then Exit.inBlock Calls wpQuiet Tri TriQ
section
variable (w0 : World) (cs : List Chunk)
set_option maxHeartbeats 4000000 in
theorem rack_c {h : SH} {xb : List TB} {xp : List SV} {m : SM} (c : Int) (hC : RdS (Hp w0 cs) h xb xp m) (hL : SLe m) (hpe : ∀ i, (m.pd.getD i default).length ≤ 1000000) :
    Cal Tryz.prog 32 [hdV h, .int .i64 c] (Hp w0 cs) (fun q : {q : SR // SOk q (ackM m c).1} => .tuple #[hdV (hd q.1), .int .i64 (ackM m c).2]) (fun q => Hp w0 (SC q.1 (ackM m c).1 ++ cs)) := by
  have htl := hC.tll
  have hpdl := hC.pdl
  refine cal_of_tri Tryz.func32 rfl Tryz.ntmps32 rfl ?_
  (repeat (first | refine tri_seq ?_ | refine tri_then ?_)); refine tri_region ?_; (repeat (first | refine au_pure ?_ | refine au_pass ?_ | refine au_box (fun _ => ?_) | refine au_alloc (fun _ => ?_) | refine au_store ?_ | refine au_make rfl rfl (fun _ => ?_) | refine au_lit rfl rfl rfl (fun _ => ?_) | refine au_append rfl rfl rfl rfl (fun _ => au_norm ?_) | refine au_storeE rfl rfl rfl rfl ?_)); refine tri_nil ?_; (repeat refine tri_then ?_)
  rename_i g2 g4
  have hC1 := hC.cons (c := hdC g2 h) |>.cons (c := hdC g4 hdN)
  refine tri_weak (H' := Hp w0 (hdC g4 hdN :: hdC g2 h :: cs)) (fun w h => h) ?_
  (repeat (first | refine zz ?_ | refine zv fun _ => ?_))
  refine au_callC rfl rfl rfl rfl rfl (rscheck_c w0 _ hC1 hL) (fun _ => ?_)
  (repeat (first | refine zz ?_ | refine zv fun _ => ?_))
  cases h1 : (schk m != 0)
  case true =>
    have h1 := bne_iff_ne.1 h1
    (repeat (first | refine zz ?_ | refine zv fun _ => ?_))
    refine au_done2 rfl ?_
    exact fun w hw => zero_res hw (by unfold ackM; rw [if_pos h1]) (by repeat (first | exact List.Sublist.refl _ | assumption | apply List.Sublist.cons_cons | apply List.Sublist.cons))
  have h1 : schk m = 0 := by simpa using h1
  have hV := schk_zero.1 h1
  have hr := hV.r
  have e1 : ackM m c = if ¬ (0 ≤ c ∧ c < m.tl.length) then (.zero, 2) else (ackG m c.toNat, 0) := by unfold ackM; rw [if_neg fun x => x h1]
  (repeat (first | refine zz ?_ | refine zv fun _ => ?_))
  cases h2 : decide (c < 0)
  case true =>
    have h2 := of_decide_eq_true h2
    (repeat (first | refine zz ?_ | refine zv fun _ => ?_))
    refine au_done2 rfl ?_
    exact fun w hw => zero_res hw (by rw [e1, if_pos (by omega)]) (by repeat (first | exact List.Sublist.refl _ | assumption | apply List.Sublist.cons_cons | apply List.Sublist.cons))
  have h2 := of_decide_eq_false h2
  (repeat (first | refine zz ?_ | refine zv fun _ => ?_))
  refine au_pure ?_ (hy := yl_len rfl rfl hC1.tl)
  (repeat (first | refine zz ?_ | refine zv fun _ => ?_))
  cases h3 : decide (c ≥ (xb.length : Int))
  case true =>
    have h3 := of_decide_eq_true h3
    (repeat (first | refine zz ?_ | refine zv fun _ => ?_))
    refine au_done2 rfl ?_
    exact fun w hw => zero_res hw (by rw [e1, if_pos (by omega)]) (by repeat (first | exact List.Sublist.refl _ | assumption | apply List.Sublist.cons_cons | apply List.Sublist.cons))
  have h3 := of_decide_eq_false h3
  rw [if_neg (fun x => x ⟨by omega, by omega⟩)] at e1
  obtain ⟨c, rfl⟩ : ∃ k : Nat, c = (k : Int) := ⟨c.toNat, by omega⟩
  rw [Int.toNat_natCast] at e1
  have hcl : c < m.tl.length := by omega
  (repeat (first | refine zz ?_ | refine zv fun _ => ?_))
  refine au_callC rfl rfl rfl rfl rfl (rcopy_c w0 _ hC1 hr.2.2.1 (by omega) (by have := hV.lml; omega) (fun i => by have := hV.tel i; omega) hpe) ?_
  rintro ⟨q, hq⟩
  (repeat (first | refine au_pure ?_ | refine au_pass ?_ | refine au_box (fun _ => ?_) | refine au_alloc (fun _ => ?_) | refine au_store ?_ | refine au_make rfl rfl (fun _ => ?_) | refine au_lit rfl rfl rfl (fun _ => ?_) | refine au_append rfl rfl rfl rfl (fun _ => au_norm ?_) | refine au_storeE rfl rfl rfl rfl ?_)); refine tri_nil ?_; (repeat refine tri_then ?_)
  rename_i g7
  refine tri_weak (H' := Hp w0 (hdC g4 hdN :: hdC g2 h :: hdC g7 (hd q) :: (SC q m ++ cs))) (fun w h => sc_up2 (X := _ :: _ :: cs) h (List.Sublist.refl _)) ?_
  have hOt := hV.tlb hcl
  have hew := hL.ew c
  have hpdk := pd_ok hV (c := c) (by omega)
  have hpc := hpe c
  have hps := hq.hp
  obtain ⟨b, hb⟩ : ∃ b, b = m.tl.getD c default := ⟨_, rfl⟩
  rw [← hb] at hOt hew
  have e0 : setTl m c b.l = m := by
    unfold setTl
    rw [← hb, show (⟨b.z, b.l⟩ : TL) = b from rfl, hb, set_getD_self hcl]
  have hCo : ∀ (bs : List Row) (l : List TE), RdS (Hp w0 (hdC g4 hdN :: hdC g2 h :: hdC g7 (hd q) :: (SC { q with bs := bs } (setTl m c l) ++ cs))) h xb xp m := fun _ _ => (RdS.app hC).cons.cons.cons
  have hPo : ∀ (X : List Chunk), cs.Sublist X → RdH (Hp w0 X) (xp.getD c default).v (m.pd.getD c default) := fun X hX => (hC.sub hX).pe c
  obtain ⟨pl, hpl⟩ : ∃ pl, pl = m.pd.getD c default := ⟨_, rfl⟩
  rw [← hpl] at hpdk hpc hPo
  (repeat (first | refine zz ?_ | refine zv fun _ => ?_))
  refine tri_block ?_
  refine tri_loop2 (fun (k : Nat) (bs : List Row) => k ≤ pl.length ∧ bs.length = m.tl.length) (fun k _ => [(1, .int .i64 (c : Int)), (2, .pointer (some ⟨g2, 0, none⟩)), (4, .pointer (some ⟨g4, 0, none⟩)), (7, .pointer (some ⟨g7, 0, none⟩)), (8, .int .i64 (k : Int))])
    (fun k bs => Hp w0 (hdC g4 hdN :: hdC g2 h :: hdC g7 (hd q) :: (SC { q with bs := bs } (setTl m c (invsL b.l (pl.take k))) ++ cs))) (fun k _ => pl.length - k)
    0 q.bs ⟨by omega, hq.hb⟩ (by repeat (first | exact trivial | refine ⟨rfl, ?_⟩)) (fun w h => by rw [show invsL b.l (pl.take 0) = b.l from rfl, e0]; exact h) ?_
  rintro k bs ⟨hk, hbs⟩
  have hCk := hCo bs (invsL b.l (pl.take k))
  (repeat (first | refine zz ?_ | refine zv fun _ => ?_))
  refine au_pure ?_ (hy := yl_idx (k := c) rfl rfl hCk.pd (ix_nat rfl) (by rfl) (by omega))
  refine au_pure ?_ (hy := yl_loadE rfl rfl hCk.pd (by rfl) (by omega) (by rfl))
  refine au_pure ?_ (hy := yl_len rfl rfl (by have := hCk.pe c; rw [← hpl] at this; exact this))
  (repeat (first | refine zz ?_ | refine zv fun _ => ?_))
  ((first | refine tri_cond (by rfl) (fun hc => ?_) (fun hc => ?_) | refine tri_gsplit (by rfl) (by rfl) (by (fail_if_success exact (rfl : _ = some (Value.bool true))); (fail_if_success exact (rfl : _ = some (Value.bool false))); rfl) (fun hc => ?_) (fun hc => ?_)) <;> (try simp only [decide_eq_true_eq, decide_eq_false_iff_not, beq_iff_eq, bne_iff_ne, ne_eq, Bool.not_eq_true', Bool.not_eq_false', beq_eq_false_iff_ne, bne_eq_false_iff_eq, Int.not_lt, Int.not_le, gt_iff_lt, ge_iff_le, Bool.and_eq_true, Bool.or_eq_true, Bool.and_eq_false_iff, Bool.or_eq_false_iff, Decidable.not_not, not_true_eq_false, not_false_eq_true, and_true, true_and, or_false, false_or, or_true, true_or, and_false, false_and, eq_self, Bool.true_eq_false, Bool.false_eq_true] at hc) <;> (try (exfalso; omega)))
  · have hkl : k < pl.length := by omega
    have hst := invs_step (l0 := b.l) hkl
    have hO1 := invs_ok (ps := pl.take k) hOt.1
    have hW1 := invs_wf (ps := pl.take k) hew
    have hvk := hpdk _ (mem_getD' hkl)
    have hl1 : (invsL b.l (pl.take k)).length ≤ 9223372036854775807 := by have := hO1.n; have := hO1.z; omega
    clear hCk
    obtain ⟨l1, hl1e⟩ : ∃ l, l = invsL b.l (pl.take k) := ⟨_, rfl⟩
    rw [← hl1e] at hst hO1 hW1 hl1 ⊢
    (repeat (first | refine zz ?_ | refine zv fun _ => ?_))
    refine tri_block ?_
    have hXg : (tlx bs (setTl m c l1).tl).getD c default = ⟨b.z, (bs.getD c (Row.nil 0)).sv⟩ := by
      rw [tlx_get (by show bs.length = (m.tl.set _ _).length; simp [hbs]) (by show c < (m.tl.set _ _).length; simpa using hcl)]
      unfold setTl
      show (⟨((m.tl.set c _).getD c default).z, _⟩ : TB) = _
      rw [gd_set hcl, if_pos rfl, ← hb]
    have hxl : (tlx bs (setTl m c l1).tl).length = m.tl.length := by rw [tlx_len (by show bs.length = (m.tl.set _ _).length; simp [hbs])]; show (m.tl.set _ _).length = _; simp
    have hXs : ∀ (r : Row) (l : List TE), (tlx bs (setTl m c l1).tl).set c ⟨b.z, r.sv⟩ = tlx (bs.set c r) (setTl m c l).tl := fun r l => by
      have := tlx_set bs (setTl m c l1).tl c r ⟨b.z, l⟩
      rw [this]
      unfold setTl
      show tlx _ ((m.tl.set c _).set c _) = _
      rw [List.set_set, ← hb]
    have hIe : invE b.z l1 0 (pl.getD k default).p = 0 := by unfold invE; rw [if_pos (check_ok.2 hO1)]; exact plc_of (by omega) (by omega)
    obtain ⟨XX, hXX⟩ : ∃ X, X = tlx bs (setTl m c l1).tl := ⟨_, rfl⟩
    obtain ⟨NX, hNX⟩ : ∃ X, X = (SNb { q with bs := bs } (setTl m c l1) ++ SNp q m) ++ cs := ⟨_, rfl⟩
    have hsubN : cs.Sublist NX := by rw [hNX]; exact List.sublist_append_right _ _
    rw [← hXX] at hXg hxl hXs
    have hE5 : RdH (Hp w0 (hdC g4 hdN :: hdC g2 h :: hdC g7 (hd q) :: tlS q.b XX :: pdS q.p (q.ps.map Row.sv) :: u64S q.t m.tb :: lbS q.l m.lm :: inS q.w m.wd :: NX)) (XX.getD c default).s.v l1 := by
      have hl1' : (tls (setTl m c l1)).getD c default = l1 := by rw [tls_set, gd_set (by simpa using hcl), if_pos rfl]
      rw [hXg, ← hl1']
      refine rd_chunk (r := bs.getD c (Row.nil 0)) (e := 72) (has_mem ?_)
      rw [hNX]
      exact List.mem_cons_of_mem _ (List.mem_cons_of_mem _ (List.mem_cons_of_mem _ (List.mem_cons_of_mem _ (List.mem_cons_of_mem _ (List.mem_cons_of_mem _ (List.mem_cons_of_mem _ (List.mem_cons_of_mem _ (List.mem_append_left _ (List.mem_append_left _ (nestE_mem (by rw [tls_set]; simp [hbs]) (by rw [tls_set]; simpa using hcl)))))))))))
    have hRb : RdH (Hp w0 (hdC g2 h :: hdC g7 (hd q) :: tlS q.b XX :: NX)) q.b.v XX := rd_chunk ⟨2, rfl⟩
    have hS3 : cs.Sublist (hdC g2 h :: hdC g7 (hd q) :: tlS q.b XX :: NX) := List.Sublist.cons _ (List.Sublist.cons _ (List.Sublist.cons _ hsubN))
    have hPd := (hC.sub hS3).pd
    have hPe := hPo _ hS3
    refine tri_weak (H' := Hp w0 (hdC g4 hdN :: hdC g2 h :: hdC g7 (hd q) :: tlS q.b XX :: pdS q.p (q.ps.map Row.sv) :: u64S q.t m.tb :: lbS q.l m.lm :: inS q.w m.wd :: NX)) (fun w h => by rw [hNX, hXX]; exact h) ?_
    (repeat (first | refine tri_seq ?_ | refine tri_then ?_))
    refine ar_held [22] (hdC g2 h :: hdC g7 (hd q) :: tlS q.b XX :: NX) rfl ?_
    refine ar_free 0 rfl rfl rfl ?_; refine ar_free 2 rfl rfl rfl ?_; refine ar_free 3 rfl rfl rfl ?_; refine ar_free 5 rfl rfl rfl ?_; refine ar_free 8 rfl rfl rfl ?_; refine ar_free 10 rfl rfl rfl ?_; refine ar_free 13 rfl rfl rfl ?_
    refine ar_take 1 rfl rfl rfl ?_; refine ar_take 4 rfl rfl rfl ?_; refine ar_take 9 rfl rfl rfl ?_
    refine ar_take 6 rfl rfl rfl ?_ (hy := yl_idx (k := c) rfl rfl hRb (ix_nat rfl) (by rfl) (by omega))
    refine ar_take 7 rfl rfl rfl ?_ (hy := yl_loadEN rfl rfl hRb (by rfl) (by omega) (by repeat (first | exact nf0 rfl | apply nfS rfl | exact nfR)) (by rfl))
    rw [show (XX.getD c default).z = b.z by rw [hXg]]
    refine ar_take 11 rfl rfl rfl ?_ (hy := yl_idx (k := c) rfl rfl hPd (ix_nat rfl) (by rfl) (by omega))
    refine ar_take 12 rfl rfl rfl ?_ (hy := yl_loadE rfl rfl hPd (by rfl) (by omega) (by rfl))
    refine ar_take 14 rfl rfl rfl ?_ (hy := yl_idx (k := k) rfl rfl hPe (ix_nat rfl) (by rfl) (by omega))
    refine ar_take 15 rfl rfl rfl ?_
    refine ar_take 16 rfl rfl rfl ?_ (hy := yl_loadE rfl rfl hPe (by rfl) (by omega) (by rfl))
    refine ar_op 17 rfl ?_
    refine au_callC rfl rfl rfl rfl rfl (rinval_c w0 _ 0 (pl.getD k default).p hE5 hl1 hW1) ?_
    intro r1
    rw [hIe, show resZ 0 b.z = b.z from rfl, show resL 0 (invL l1 0 (pl.getD k default).p) = invL l1 0 (pl.getD k default).p from rfl, ← hst]
    refine tri_nil ?_; refine ar_in ?_
    refine ar_take 18 rfl rfl rfl ?_; refine ar_take 19 rfl rfl rfl ?_
    refine ar_free 20 rfl rfl rfl ?_
    refine ar_take 21 rfl rfl rfl ?_ (hy := yl_idx (k := c) rfl rfl hRb (ix_nat rfl) (by rfl) (by omega))
    refine ar_op 22 rfl ?_
    refine au_storeE (r := q.b) (a := (⟨b.z, r1.sv⟩ : TB)) rfl rfl rfl rfl ?_
    refine tri_nil ?_; refine ar_ink ?_
    refine ar_done ?_
    obtain ⟨l2, hl2⟩ : ∃ l, l = invsL b.l (pl.take (k + 1)) := ⟨_, rfl⟩
    rw [← hl2]
    refine tri_weak (H' := Hp w0 (hdC g4 hdN :: hdC g2 h :: hdC g7 (hd q) :: (SC { q with bs := bs.set c r1 } (setTl m c l2) ++ cs))) (fun w hw => ?_) ?_
    · rw [hNX, hXs r1 l2] at hw
      have h2 := replB (e := 72) (rs := bs) (L := tls (setTl m c l1)) (i := c) (by rw [tls_set]; simp [hbs]) (by rw [tls_set]; simpa using hcl) r1 l2 [hdC g4 hdN, hdC g2 h, hdC g7 (hd q), tlS q.b (tlx (bs.set c r1) (setTl m c l2).tl), pdS q.p (q.ps.map Row.sv), u64S q.t m.tb, lbS q.l m.lm, inS q.w m.wd] (SNp q m) cs hw
      rw [tls_set, List.set_set, ← tls_set] at h2
      exact h2
    (repeat (first | refine zz ?_ | refine zv fun _ => ?_))
    exact tri_nx2 (k + 1) (bs.set c r1) (by omega) ⟨by omega, by simp [hbs]⟩ (by repeat (first | exact trivial | refine ⟨rfl, ?_⟩)) (fun w h => by rw [← hl2]; exact h)
  have hke : k = pl.length := by omega
  subst hke
  clear hCk
  rw [List.take_length]
  obtain ⟨l1, hl1⟩ : ∃ l, l = invsL b.l pl := ⟨_, rfl⟩
  rw [← hl1]
  have e2 : ackG m c = { (setTl m c l1) with pd := m.pd.set c [], lm := (m.lm.map (clrA c)).filter fun x => !(x.a == 0) } := by unfold ackG; rw [← hb, ← hpl, ← hl1]
  have hlb := lim_bd hV.lim
  have hpw := pow_le (c := m.tl.length) (by omega)
  have hlml := hV.lml
  have hpw2 := pow_le (c := c) (by omega)
  obtain ⟨XX, hXX⟩ : ∃ X, X = tlx bs (setTl m c l1).tl := ⟨_, rfl⟩
  obtain ⟨YY, hYY⟩ : ∃ Y, Y = q.ps.map Row.sv := ⟨_, rfl⟩
  have hYl : YY.length = m.pd.length := by rw [hYY, List.length_map]; exact hps
  obtain ⟨NX, hNX⟩ : ∃ X, X = (SNb { q with bs := bs } (setTl m c l1) ++ SNp q m) ++ cs := ⟨_, rfl⟩
  refine tri_weak (H' := Hp w0 (hdC g4 hdN :: hdC g2 h :: hdC g7 (hd q) :: tlS q.b XX :: pdS q.p YY :: u64S q.t m.tb :: lbS q.l m.lm :: inS q.w m.wd :: NX)) (fun w h => by rw [hNX, hXX, hYY]; exact h) ?_
  have hRp : RdH (Hp w0 (hdC g4 hdN :: hdC g2 h :: hdC g7 (hd q) :: tlS q.b XX :: pdS q.p YY :: u64S q.t m.tb :: lbS q.l m.lm :: inS q.w m.wd :: NX)) q.p.v YY := rd_chunk ⟨4, rfl⟩
  (repeat (first | refine zz ?_ | refine zv fun _ => ?_))
  refine au_pure ?_ (hy := yl_idx (k := c) rfl rfl hRp (ix_nat rfl) (by rfl) (by omega))
  refine au_storeE (r := q.p) (a := (⟨none, 0, 0⟩ : SV)) rfl rfl rfl rfl ?_
  refine tri_nilrow IV 63 ?_
  obtain ⟨NY, hNY⟩ : ∃ X, X = (SNb { q with bs := bs } (setTl m c l1) ++ nestE 63 (q.ps.set c (Row.nil w0.heap.size)) (m.pd.set c [])) ++ cs := ⟨_, rfl⟩
  have hsubN : cs.Sublist NY := by rw [hNY]; exact List.sublist_append_right _ _
  obtain ⟨YZ, hYZ⟩ : ∃ Y, Y = (q.ps.set c (Row.nil w0.heap.size)).map Row.sv := ⟨_, rfl⟩
  refine tri_weak (H' := Hp w0 (hdC g4 hdN :: hdC g2 h :: hdC g7 (hd q) :: tlS q.b XX :: pdS q.p YZ :: u64S q.t m.tb :: inS q.w m.wd :: NY)) (fun w hw => ?_) ?_
  · rw [hNX] at hw
    have h2 := replP (e := 63) (rs := q.ps) (L := m.pd) (i := c) (by omega) (by omega) (Row.nil w0.heap.size) [] [hdC g4 hdN, hdC g2 h, hdC g7 (hd q), tlS q.b XX, pdS q.p (YY.set c ⟨none, 0, 0⟩), u64S q.t m.tb, lbS q.l m.lm, inS q.w m.wd] (SNb { q with bs := bs } (setTl m c l1)) cs hw
    rw [hNY, hYZ, List.map_set, row_nil_sv, ← hYY]
    exact h2.sub (by repeat (first | exact List.Sublist.refl _ | assumption | apply List.Sublist.cons_cons | apply List.Sublist.cons))
  (repeat (first | refine zz ?_ | refine zv fun _ => ?_))
  refine tri_nilrow LB 47 ?_
  refine tri_block ?_
  refine tri_loop2 (fun (i : Nat) (_ : Row) => i ≤ m.lm.length) (fun i _ => [(1, .int .i64 (c : Int)), (2, .pointer (some ⟨g2, 0, none⟩)), (4, .pointer (some ⟨g4, 0, none⟩)), (7, .pointer (some ⟨g7, 0, none⟩)), (9, .int .i64 (i : Int))])
    (fun i ro => Hp w0 (lbS ro (((m.lm.take i).map (clrA c)).filter fun x => !(x.a == 0)) :: hdC g4 hdN :: hdC g2 h :: shC g7 q.t.v q.b.v q.p.v ro.v q.w.v :: tlS q.b XX :: pdS q.p YZ :: u64S q.t m.tb :: inS q.w m.wd :: NY)) (fun i _ => m.lm.length - i)
    0 (Row.nil w0.heap.size) (by omega) (by repeat (first | exact trivial | refine ⟨rfl, ?_⟩)) (fun w h => h) ?_
  rintro i ro hi
  have hAl : (((m.lm.take i).map (clrA c)).filter fun x => !(x.a == 0)).length ≤ i := by
    have := List.length_filter_le (fun x : LB => !(x.a == 0)) ((m.lm.take i).map (clrA c))
    rw [List.length_map, List.length_take] at this
    omega
  have hend : i = m.lm.length → ackG m c = { (setTl m c l1) with pd := m.pd.set c [], lm := ((m.lm.take i).map (clrA c)).filter fun x => !(x.a == 0) } := fun e => by rw [e2, e, List.take_length]
  have hst := @clr_step c m.lm i
  obtain ⟨LL, hLL⟩ : ∃ L, L = ((m.lm.take i).map (clrA c)).filter (fun x => !(x.a == 0)) := ⟨_, rfl⟩
  rw [← hLL] at hAl hst hend ⊢
  have hS3 : cs.Sublist (lbS ro LL :: hdC g4 hdN :: hdC g2 h :: shC g7 q.t.v q.b.v q.p.v ro.v q.w.v :: tlS q.b XX :: pdS q.p YZ :: u64S q.t m.tb :: inS q.w m.wd :: NY) := List.Sublist.cons _ (List.Sublist.cons _ (List.Sublist.cons _ (List.Sublist.cons _ (List.Sublist.cons _ (List.Sublist.cons _ (List.Sublist.cons _ (List.Sublist.cons _ hsubN)))))))
  have hRl := (hC.sub hS3).lm
  (repeat (first | refine zz ?_ | refine zv fun _ => ?_))
  refine au_pure ?_ (hy := yl_len rfl rfl hRl)
  (repeat (first | refine zz ?_ | refine zv fun _ => ?_))
  ((first | refine tri_cond (by rfl) (fun hc => ?_) (fun hc => ?_) | refine tri_gsplit (by rfl) (by rfl) (by (fail_if_success exact (rfl : _ = some (Value.bool true))); (fail_if_success exact (rfl : _ = some (Value.bool false))); rfl) (fun hc => ?_) (fun hc => ?_)) <;> (try simp only [decide_eq_true_eq, decide_eq_false_iff_not, beq_iff_eq, bne_iff_ne, ne_eq, Bool.not_eq_true', Bool.not_eq_false', beq_eq_false_iff_ne, bne_eq_false_iff_eq, Int.not_lt, Int.not_le, gt_iff_lt, ge_iff_le, Bool.and_eq_true, Bool.or_eq_true, Bool.and_eq_false_iff, Bool.or_eq_false_iff, Decidable.not_not, not_true_eq_false, not_false_eq_true, and_true, true_and, or_false, false_or, or_true, true_or, and_false, false_and, eq_self, Bool.true_eq_false, Bool.false_eq_true] at hc) <;> (try (exfalso; omega)))
  · have hil : i < m.lm.length := by omega
    have hst := hst hil
    have hxb := hlb _ (mem_getD' hil)
    have hbit := bit2_eq (a := (m.lm.getD i default).a) (c := c) (by omega) (by omega)
    have hfd := fdiv_bd (a := (m.lm.getD i default).a) (c := c) (by omega) (by omega)
    (repeat (first | refine zz ?_ | refine zv fun _ => ?_))
    refine tri_block ?_
    (repeat (first | refine zz ?_ | refine zv fun _ => ?_))
    refine au_pure ?_ (hy := yl_idx (k := i) rfl rfl hRl (ix_nat rfl) (by rfl) (by omega))
    refine au_pure ?_ (hy := yl_loadEN rfl rfl hRl (by rfl) (by omega) (by repeat (first | exact nf0 rfl | apply nfS rfl | exact nfR)) (by rfl))
    obtain ⟨x, hx⟩ : ∃ x, x = m.lm.getD i default := ⟨_, rfl⟩
    rw [← hx] at hxb hst hbit hfd ⊢
    (repeat (first | refine au_pure ?_ | refine au_pass ?_ | refine au_box (fun _ => ?_) | refine au_alloc (fun _ => ?_) | refine au_store ?_ | refine au_make rfl rfl (fun _ => ?_) | refine au_lit rfl rfl rfl (fun _ => ?_) | refine au_append rfl rfl rfl rfl (fun _ => au_norm ?_) | refine au_storeE rfl rfl rfl rfl ?_)); refine tri_nil ?_; (repeat refine tri_then ?_)
    rename_i g10
    obtain ⟨xf, xa⟩ := x
    simp only at hxb hbit hfd
    refine tri_seq ?_
    refine tri_cut1 (fun _ : Unit => True) (fun _ => [(1, .int .i64 (c : Int)), (2, .pointer (some ⟨g2, 0, none⟩)), (4, .pointer (some ⟨g4, 0, none⟩)), (7, .pointer (some ⟨g7, 0, none⟩)), (9, .int .i64 (i : Int)), (10, .pointer (some ⟨g10, 0, none⟩))])
      (fun _ => Hp w0 (blkC g10 47 [.int .i64 xf, .int .i64 (clrA c ⟨xf, xa⟩).a] :: lbS ro LL :: hdC g4 hdN :: hdC g2 h :: shC g7 q.t.v q.b.v q.p.v ro.v q.w.v :: tlS q.b XX :: pdS q.p YZ :: u64S q.t m.tb :: inS q.w m.wd :: NY)) ?_ ?_
    · refine tri_weak (H' := Hp w0 (blkC g10 47 [.int .i64 xf, .int .i64 xa] :: lbS ro LL :: hdC g4 hdN :: hdC g2 h :: shC g7 q.t.v q.b.v q.p.v ro.v q.w.v :: tlS q.b XX :: pdS q.p YZ :: u64S q.t m.tb :: inS q.w m.wd :: NY)) (fun w h => h) ?_
      (repeat (first | refine zz ?_ | refine zv fun _ => ?_))
      refine au_pure ?_ (hy := yl_shr rfl rfl rfl (by omega))
      refine au_pure ?_ (hy := yl_remn rfl rfl rfl (by omega))
      (repeat (first | refine zz ?_ | refine zv fun _ => ?_))
      rw [hbit]
      cases h7 : bitA xa c
      · have e3 : (clrA c ⟨xf, xa⟩).a = xa := by show (if bitA xa c = true then xa - 2 ^ c else xa) = xa; rw [h7]; rfl
        rw [e3]
        (repeat (first | refine zz ?_ | refine zv fun _ => ?_))
        exact tri_mt1 () trivial (by repeat (first | exact trivial | refine ⟨rfl, ?_⟩)) (fun _ h => h)
      · have e3 : (clrA c ⟨xf, xa⟩).a = xa - 2 ^ c := by show (if bitA xa c = true then xa - 2 ^ c else xa) = _; rw [h7]; rfl
        rw [e3]
        refine tri_if_t rfl ?_
        (repeat (first | refine tri_seq ?_ | refine tri_then ?_))
        refine ar_held [6] (blkC g10 47 [.int .i64 xf, .int .i64 xa] :: NY) rfl ?_
        refine ar_free 0 rfl rfl rfl ?_; refine ar_free 2 rfl rfl rfl ?_
        refine ar_take 1 rfl rfl rfl ?_
        refine ar_take 3 rfl rfl rfl ?_ (hy := yl_shl rfl rfl rfl (by omega))
        rw [shl_eq (show c ≤ 4 by omega)]
        refine ar_take 4 rfl rfl rfl ?_ (hy := yl_subn rfl rfl rfl (by omega))
        refine ar_free 5 rfl rfl rfl ?_
        refine ar_op 6 rfl ?_
        refine au_store ?_
        refine tri_nil ?_; refine ar_ink ?_
        refine ar_done ?_
        (repeat (first | refine tri_seq ?_ | refine tri_then ?_))
        exact tri_mt1 () trivial (by repeat (first | exact trivial | refine ⟨rfl, ?_⟩)) (fun _ h => h)
    rintro ⟨⟩ -
    rw [show clrA c ⟨xf, xa⟩ = ⟨xf, (clrA c ⟨xf, xa⟩).a⟩ from rfl] at hst
    obtain ⟨ya, hya⟩ : ∃ y, y = (clrA c ⟨xf, xa⟩).a := ⟨_, rfl⟩
    rw [← hya] at hst ⊢
    (repeat (first | refine zz ?_ | refine zv fun _ => ?_))
    cases h8 : (ya != 0)
    · rw [if_neg (by show ¬ (!(ya == 0)) = true; rw [show (!(ya == 0)) = (ya != 0) from rfl, h8]; simp), List.append_nil] at hst
      (repeat (first | refine zz ?_ | refine zv fun _ => ?_))
      exact tri_nx2 (i + 1) ro (by omega) (by omega) (by repeat (first | exact trivial | refine ⟨rfl, ?_⟩)) (fun w h => by rw [hst]; exact h.sub (by repeat (first | exact List.Sublist.refl _ | assumption | apply List.Sublist.cons_cons | apply List.Sublist.cons)))
    · rw [if_pos (show (!(ya == 0)) = true from h8)] at hst
      (repeat (first | refine zz ?_ | refine zv fun _ => ?_))
      refine au_lit (l := ([⟨xf, ya⟩] : List LB)) rfl rfl rfl (fun r1 => ?_)
      refine au_append (r := ro) (l2 := ([⟨xf, ya⟩] : List LB)) rfl rfl rfl rfl (fun r2 => au_norm ?_) (h2 := rd_chunk ⟨0, rfl⟩) (hb := by rw [List.length_singleton]; omega)
      (repeat (first | refine zz ?_ | refine zv fun _ => ?_))
      exact tri_nx2 (i + 1) r2 (by omega) (by omega) (by repeat (first | exact trivial | refine ⟨rfl, ?_⟩)) (fun w h => by rw [hst]; exact h.sub (by repeat (first | exact List.Sublist.refl _ | assumption | apply List.Sublist.cons_cons | apply List.Sublist.cons)))
  · have hie : i = m.lm.length := by omega
    have e3 := hend hie
    (repeat (first | refine zz ?_ | refine zv fun _ => ?_))
    refine au_done2 rfl ?_
    intro w hw
    have hq3 : SOk { q with bs := bs, ps := q.ps.set c (Row.nil w0.heap.size), l := ro } (ackG m c) := by
      rw [e2]
      exact ⟨by show bs.length = (m.tl.set _ _).length; simp [hbs], by show (q.ps.set _ _).length = (m.pd.set _ _).length; simp [hps]⟩
    have h2 : Hp w0 (tlS q.b XX :: pdS q.p YZ :: u64S q.t m.tb :: lbS ro LL :: inS q.w m.wd :: NY) w := by
      have h3 : Hp w0 (lbS ro LL :: tlS q.b XX :: pdS q.p YZ :: u64S q.t m.tb :: inS q.w m.wd :: NY) w := hw.sub (by repeat (first | exact List.Sublist.refl _ | assumption | apply List.Sublist.cons_cons | apply List.Sublist.cons))
      exact HpM.perm h3 (lit_perm (p := [0, 1, 2, 3, 4]) (q := [1, 2, 3, 0, 4]) (by decide) (fun i => match i with | 0 => lbS ro LL | 1 => tlS q.b XX | 2 => pdS q.p YZ | 3 => u64S q.t m.tb | _ => inS q.w m.wd) NY)
    refine good_res (q := { q with bs := bs, ps := q.ps.set c (Row.nil w0.heap.size), l := ro }) e1 hq3 h2 ?_
    rw [e3, hNY, hXX, hYZ]
    exact List.Sublist.refl _
end
end Go.Proofs.YtojfaelafakemaaGreat

/- A region that draws its order, when several operations may come up at a time: one lemma for each set of done operations. No conditions. -/
set_option linter.unusedSimpArgs false
set_option linter.unusedVariables false
namespace Go.Proofs.YtojfaelafakemaaGreat
open Go Go.RowKit
def TN [Dl] (P : Program) (n : Nat) (l : List Oper) (fuel : Nat) (bs : List Bool) (F : Act → World → Prop) (E : Env) (H : World → Prop) : Prop := ∀ a w, FrOk n E a → H w → wpAny P .any l.toArray (Exit.then F NoQ) fuel bs.toArray a w
section
variable {M : List Nat} {P : Program} {n d : Nat} {Q : Exit → Act → World → Prop} {F : Act → World → Prop} {l : List Oper} {o : Oper} {E : Env} {H S : World → Prop} {w0 : World} {cs cs0 : List Chunk} {v : Value} {fuel : Nat} {bs : List Bool} {listed : Array Bool}
theorem wpAnyR_of : ∀ (fuel : Nat) (listed : Array Bool) (a : Act) (w : World), wpAny P .any l.toArray Q fuel listed a w → wpAnyR P .any l.toArray Q (fun _ => True) [] fuel listed a w
  | 0, _, _, _, h => h
  | fuel + 1, _, _, _, h => ⟨h.1, fun i hi => wpOp_mono (fun a' w' h' => ⟨fun _ _ => trivial, wpAnyR_of fuel _ a' w' h'⟩) (h.2 i hi)⟩
/-- The region, what reads no memory ahead (ar_free). -/
theorem an_held [Dl] {id : Nat} (hm : P.follows .mixedOrders = true) (k : TR P n l (fun _ => True) [] l.length (Array.replicate l.length false) (Q .normal) E (HpM M w0 cs)) : Tri n ((Code.region id l.toArray true).wp P Q) E (HpM M w0 cs) := fun a w h1 h2 => by
  refine wp_mono (Q := Exit.then (Q .normal) NoQ) (wp_region_any hm (wpAny_of_r _ _ _ _ (k a _ h1 h2.drawn))) fun e a' w' q => ?_
  cases e with
  | normal => exact q
  | exit id => exact q.elim
  | goto l => exact q.elim
  | ret => exact q.elim
  | panic ch => exact q.elim
  | outgrown => exact q.elim
theorem an_start [Dl] (bs : List Bool) (hl : listed = bs.toArray) (k : TN P n l fuel bs F E H) : TR P n l (fun _ => True) [] fuel listed F E H := fun a w h1 h2 => by
  subst hl
  exact wpAnyR_of _ _ _ _ (k a w h1 h2)
/-- What holds of a set of done operations, for use in the others. -/
theorem tn_have [Dl] {V : Type} (f' : Nat) (bs' : List Bool) (E' : V → Env) (C' : V → List Chunk) (h1 : ∀ v, TN P n l f' bs' F (E' v) (HpM M w0 (C' v)))
    (h2 : (∀ v, TN P n l f' bs' F (E' v) (HpM M w0 (C' v))) → TN P n l fuel bs F E (HpM M w0 cs)) : TN P n l fuel bs F E (HpM M w0 cs) := h2 h1
theorem tn_all [Dl] {is : List Nat} (hr : Region.ready .any l.toArray bs.toArray = is) (hne : is ≠ []) (k : ∀ i ∈ is, ∃ o, l[i]? = some o ∧ Tri n (wpList P l.toArray (Exit.then (fun a w => wpAny P .any l.toArray (Exit.then F NoQ) fuel (bs.set i true).toArray a w) NoQ) [o]) E H) : TN P n l (fuel + 1) bs F E H := fun a w h1 h2 => by
  refine ⟨fun h0 => absurd (hr ▸ h0) hne, fun i hi => ?_⟩
  obtain ⟨o, ho, hk⟩ := k i (hr ▸ hi)
  have := wpop_ofk (F := F) ho (hk a w h1 h2)
  rw [List.setIfInBounds_toArray]
  exact this
theorem tn_op1 [Dl] {i : Nat} {o : Oper} (hi : l[i]? = some o) (k : Tri n (wpList P l.toArray (Exit.then (fun a w => wpAny P .any l.toArray (Exit.then F NoQ) fuel (bs.set i true).toArray a w) NoQ) [o]) E H) (hr : Region.ready .any l.toArray bs.toArray = [i] := by kernel_rfl) : TN P n l (fuel + 1) bs F E H :=
  tn_all hr (by simp) fun j hj => by
    have : j = i := by simpa using hj
    subst this
    exact ⟨o, hi, k⟩
theorem tn_op2 [Dl] {i j : Nat} {o o2 : Oper} (hi : l[i]? = some o) (hj : l[j]? = some o2) (k : Tri n (wpList P l.toArray (Exit.then (fun a w => wpAny P .any l.toArray (Exit.then F NoQ) fuel (bs.set i true).toArray a w) NoQ) [o]) E H)
    (k2 : Tri n (wpList P l.toArray (Exit.then (fun a w => wpAny P .any l.toArray (Exit.then F NoQ) fuel (bs.set j true).toArray a w) NoQ) [o2]) E H) (hr : Region.ready .any l.toArray bs.toArray = [i, j] := by kernel_rfl) : TN P n l (fuel + 1) bs F E H :=
  tn_all hr (by simp) fun x hx => by
    have : x = i ∨ x = j := by simpa using hx
    rcases this with rfl | rfl
    · exact ⟨o, hi, k⟩
    · exact ⟨o2, hj, k2⟩
theorem tn_op3 [Dl] {i j m : Nat} {o o2 o3 : Oper} (hi : l[i]? = some o) (hj : l[j]? = some o2) (hm : l[m]? = some o3) (k : Tri n (wpList P l.toArray (Exit.then (fun a w => wpAny P .any l.toArray (Exit.then F NoQ) fuel (bs.set i true).toArray a w) NoQ) [o]) E H)
    (k2 : Tri n (wpList P l.toArray (Exit.then (fun a w => wpAny P .any l.toArray (Exit.then F NoQ) fuel (bs.set j true).toArray a w) NoQ) [o2]) E H)
    (k3 : Tri n (wpList P l.toArray (Exit.then (fun a w => wpAny P .any l.toArray (Exit.then F NoQ) fuel (bs.set m true).toArray a w) NoQ) [o3]) E H) (hr : Region.ready .any l.toArray bs.toArray = [i, j, m] := by kernel_rfl) : TN P n l (fuel + 1) bs F E H :=
  tn_all hr (by simp) fun x hx => by
    have : x = i ∨ x = j ∨ x = m := by simpa using hx
    rcases this with rfl | rfl | rfl
    · exact ⟨o, hi, k⟩
    · exact ⟨o2, hj, k2⟩
    · exact ⟨o3, hm, k3⟩
theorem tn_op4 [Dl] {i j m n4 : Nat} {o o2 o3 o4 : Oper} (hi : l[i]? = some o) (hj : l[j]? = some o2) (hm : l[m]? = some o3) (h4 : l[n4]? = some o4) (k : Tri n (wpList P l.toArray (Exit.then (fun a w => wpAny P .any l.toArray (Exit.then F NoQ) fuel (bs.set i true).toArray a w) NoQ) [o]) E H)
    (k2 : Tri n (wpList P l.toArray (Exit.then (fun a w => wpAny P .any l.toArray (Exit.then F NoQ) fuel (bs.set j true).toArray a w) NoQ) [o2]) E H)
    (k3 : Tri n (wpList P l.toArray (Exit.then (fun a w => wpAny P .any l.toArray (Exit.then F NoQ) fuel (bs.set m true).toArray a w) NoQ) [o3]) E H)
    (k4 : Tri n (wpList P l.toArray (Exit.then (fun a w => wpAny P .any l.toArray (Exit.then F NoQ) fuel (bs.set n4 true).toArray a w) NoQ) [o4]) E H) (hr : Region.ready .any l.toArray bs.toArray = [i, j, m, n4] := by kernel_rfl) : TN P n l (fuel + 1) bs F E H :=
  tn_all hr (by simp) fun x hx => by
    have : x = i ∨ x = j ∨ x = m ∨ x = n4 := by simpa using hx
    rcases this with rfl | rfl | rfl | rfl
    · exact ⟨o, hi, k⟩
    · exact ⟨o2, hj, k2⟩
    · exact ⟨o3, hm, k3⟩
    · exact ⟨o4, h4, k4⟩
theorem tn_in [Dl] {E' : Env} {H' : World → Prop} (k : TN P n l fuel bs F E' H') (hs : Sub E' E) (hH : ∀ w, H w → H' w) : Tri n (Exit.then (fun a w => wpAny P .any l.toArray (Exit.then F NoQ) fuel bs.toArray a w) NoQ .normal) E H := fun a w h1 h2 => k a w (h1.sub hs) (hH w h2)
theorem tn_next [Dl] (k : TN P n l fuel bs F E H) : Tri n (Exit.then (fun a w => wpAny P .any l.toArray (Exit.then F NoQ) fuel bs.toArray a w) NoQ .normal) E H := k
theorem tn_meet [Dl] {E' : Env} {H' : World → Prop} (k : TN P n l fuel bs F E' H') (hs : Sub E' E) (hH : ∀ w, H w → H' w) : TN P n l fuel bs F E H := fun a w h1 h2 => k a w (h1.sub hs) (hH w h2)
theorem tn_done [Dl] (k : Tri n F E H) (hr : Region.ready .any l.toArray bs.toArray = [] := by kernel_rfl) : TN P n l fuel bs F E H := fun a w h1 h2 => by
  cases fuel with
  | zero => exact ⟨hr, k a w h1 h2⟩
  | succ f => exact ⟨fun _ => k a w h1 h2, by rw [hr]; simp⟩
end
end Go.Proofs.YtojfaelafakemaaGreat
