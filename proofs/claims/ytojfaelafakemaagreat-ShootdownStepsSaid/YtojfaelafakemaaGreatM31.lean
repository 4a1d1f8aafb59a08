/- Texts joined: ShRAcc. Each part's own remark says what it proves. -/
import Derived.Test.YtojfaelafakemaaGreatM29
import Derived.Test.YtojfaelafakemaaGreatM30
/- The walk of the reference of the shootdown machine's Access. No conditions. -/
set_option linter.unusedSimpArgs false
set_option linter.unusedVariables false
namespace Go.Proofs.YtojfaelafakemaaGreat
open Go Go.RowKit
attribute [local irreducible] decR enOk pgOk teOk ivOk tlOk checkM lbOk formM limM schk lookM markR markQ mkL invL mkX mkE invE
/-- An access as the last steps of Access leave it. -/
structure AccOk (m : SM) (c p : Int) (wr : Bool) (v : Int) (y : SR × SM × Ent) : Prop where
  q : SOk y.1 y.2.1
  n : 0 ≤ y.2.2.n ∧ y.2.2.n < y.2.1.wd.length
  w : y.2.1.wd.length ≤ 9223372036854775807
  e : accM m c p wr v = (useM y.2.1 y.2.2.n wr v, y.2.1.wd.getD y.2.2.n.toNat default, 0)
attribute [local irreducible] Code.wp wpList bodyPost Exit.then Exit.inBlock Calls wpQuiet Tri TriQ
section
variable (w0 : World) (cs : List Chunk)
theorem rmark_c (x : Int) (wr : Bool) (h0 : 0 ≤ x) (h1 : x < 18446744073709551616) : Cal Tryz.prog 69 [.int .u64 x, .bool wr] (Hp w0 cs) (fun _ : Unit => .tuple #[.int .u64 (markR x wr).1, .int .i64 (markR x wr).2]) (fun _ => Hp w0 cs) := by
  rw [mark_same]
  exact fun w hw => (Ret.hp (rmark_any x wr w h0 h1) hw).mono fun _ _ ⟨h1, h2⟩ => ⟨(), h1, h2⟩
set_option maxHeartbeats 4000000 in
theorem racc_c {h : SH} {xb : List TB} {xp : List SV} {m : SM} (c p : Int) (wr : Bool) (v : Int) (hC : RdS (Hp w0 cs) h xb xp m) (hL : SLe m) (hpe : ∀ i, (m.pd.getD i default).length ≤ 1000000) :
    Cal Tryz.prog 31 [hdV h, .int .i64 c, .int .i64 p, .bool wr, .int .i64 v] (Hp w0 cs) (fun q : {q : SR // SOk q (accM m c p wr v).1} => .tuple #[hdV (hd q.1), .int .i64 (accM m c p wr v).2.1, .int .i64 (accM m c p wr v).2.2]) (fun q => Hp w0 (SC q.1 (accM m c p wr v).1 ++ cs)) := by
  have htl := hC.tll
  refine cal_of_tri Tryz.func31 rfl Tryz.ntmps31 rfl ?_
  (repeat (first | refine tri_seq ?_ | refine tri_then ?_)); refine tri_region ?_; (repeat (first | refine au_pure ?_ | refine au_pass ?_ | refine au_box (fun _ => ?_) | refine au_alloc (fun _ => ?_) | refine au_store ?_ | refine au_make rfl rfl (fun _ => ?_) | refine au_lit rfl rfl rfl (fun _ => ?_) | refine au_append rfl rfl rfl rfl (fun _ => au_norm ?_) | refine au_storeE rfl rfl rfl rfl ?_)); refine tri_nil ?_; (repeat refine tri_then ?_)
  rename_i g5 g10
  have hC1 := hC.cons (c := hdC g5 h) |>.cons (c := hdC g10 hdN)
  refine tri_weak (H' := Hp w0 (hdC g10 hdN :: hdC g5 h :: cs)) (fun w h => h) ?_
  (repeat (first | refine zz ?_ | refine zv fun _ => ?_))
  refine au_callC rfl rfl rfl rfl rfl (rscheck_c w0 _ hC1 hL) (fun _ => ?_)
  (repeat (first | refine zz ?_ | refine zv fun _ => ?_))
  cases h1 : (schk m != 0)
  case true =>
    have h1 := bne_iff_ne.1 h1
    (repeat (first | refine zz ?_ | refine zv fun _ => ?_))
    refine au_done3 rfl ?_
    exact fun w hw => zero_res3 hw (by unfold accM; rw [if_pos h1]) (by repeat (first | exact List.Sublist.refl _ | assumption | apply List.Sublist.cons_cons | apply List.Sublist.cons))
  have h1 : schk m = 0 := by simpa using h1
  have hV := schk_zero.1 h1
  have hr := hV.r
  have e1 : accM m c p wr v = if ¬ (0 ≤ c ∧ c < m.tl.length ∧ isP m p = true) then (.zero, 0, 2) else accG m c p wr v := by unfold accM; rw [if_neg fun x => x h1]
  (repeat (first | refine zz ?_ | refine zv fun _ => ?_))
  cases h2 : decide (c < 0)
  case true =>
    have h2 := of_decide_eq_true h2
    (repeat (first | refine zz ?_ | refine zv fun _ => ?_))
    refine au_done3 rfl ?_
    exact fun w hw => zero_res3 hw (by rw [e1, if_pos (by omega)]) (by repeat (first | exact List.Sublist.refl _ | assumption | apply List.Sublist.cons_cons | apply List.Sublist.cons))
  have h2 := of_decide_eq_false h2
  (repeat (first | refine zz ?_ | refine zv fun _ => ?_))
  refine au_pure ?_ (hy := yl_len rfl rfl hC1.tl)
  (repeat (first | refine zz ?_ | refine zv fun _ => ?_))
  cases h3 : decide (c ≥ (xb.length : Int))
  case true =>
    have h3 := of_decide_eq_true h3
    (repeat (first | refine zz ?_ | refine zv fun _ => ?_))
    refine au_done3 rfl ?_
    exact fun w hw => zero_res3 hw (by rw [e1, if_pos (by omega)]) (by repeat (first | exact List.Sublist.refl _ | assumption | apply List.Sublist.cons_cons | apply List.Sublist.cons))
  have h3 := of_decide_eq_false h3
  (repeat (first | refine zz ?_ | refine zv fun _ => ?_))
  refine au_callC rfl rfl rfl rfl rfl (ris_c w0 _ p hC1.tb hL.tb) (fun _ => ?_)
  cases h4 : isP m p
  case false =>
    (repeat (first | refine zz ?_ | refine zv fun _ => ?_))
    refine au_done3 rfl ?_
    exact fun w hw => zero_res3 hw (by rw [e1, if_pos (fun x => by rw [x.2.2] at h4; cases h4)]) (by repeat (first | exact List.Sublist.refl _ | assumption | apply List.Sublist.cons_cons | apply List.Sublist.cons))
  rw [if_neg (fun x => x ⟨by omega, by omega, h4⟩)] at e1
  have hp := isP_iff.1 h4
  obtain ⟨c, rfl⟩ : ∃ k : Nat, c = (k : Int) := ⟨c.toNat, by omega⟩
  have hcl : c < m.tl.length := by omega
  (repeat (first | refine zz ?_ | refine zv fun _ => ?_))
  refine au_callC rfl rfl rfl rfl rfl (rcopy_c w0 _ hC1 hr.2.2.1 (by omega) (by have := hV.lml; omega) (fun i => by have := hV.tel i; omega) hpe) ?_
  rintro ⟨q, hq⟩
  (repeat (first | refine au_pure ?_ | refine au_pass ?_ | refine au_box (fun _ => ?_) | refine au_alloc (fun _ => ?_) | refine au_store ?_ | refine au_make rfl rfl (fun _ => ?_) | refine au_lit rfl rfl rfl (fun _ => ?_) | refine au_append rfl rfl rfl rfl (fun _ => au_norm ?_) | refine au_storeE rfl rfl rfl rfl ?_)); refine tri_nil ?_; (repeat refine tri_then ?_)
  rename_i g14
  have hC3 : RdS (Hp w0 (hdC g10 hdN :: hdC g5 h :: hdC g14 (hd q) :: (SC q m ++ cs))) h xb xp m := (RdS.app hC).cons.cons.cons
  have hz := hC3.tz c
  have hOt := hV.tlb hcl
  have hle := hL.te c
  have hew := hL.ew c
  have hxl := tlx_len hq.hb
  have hwd := hL.wd
  have htbl := hL.tb
  unfold accG hitA at e1
  rw [Int.toNat_natCast, look_ok hOt.1] at e1
  obtain ⟨b, hb⟩ : ∃ b, b = m.tl.getD c default := ⟨_, rfl⟩
  rw [← hb] at hz hOt hle hew e1
  have hlk := look_ok hOt.1 0 p
  obtain ⟨⟨u, ok⟩, hlu⟩ : ∃ y, lookL b.l 0 p = y := ⟨_, rfl⟩
  rw [hlu] at hlk e1
  simp only at e1
  have hE3 := hC3.te c
  rw [← hb] at hE3
  have hub : 0 ≤ u ∧ u < 18446744073709551616 := by
    cases ok
    · have := look_false (l := b.l) (s := 0) (p := p) (by rw [hlu])
      rw [hlu] at this
      have : u = 0 := this
      omega
    · obtain ⟨t, ht, _, hut⟩ := look_mem (l := b.l) (s := 0) (p := p) (by rw [hlu])
      rw [hlu] at hut
      rw [show u = t.w from hut]
      exact (hew t ht).2.2
  have hun : ok = true → 0 ≤ (decR u).1.n ∧ (decR u).1.n < m.wd.length := fun hk => by
    obtain ⟨t, ht, _, hut⟩ := look_mem (l := b.l) (s := 0) (p := p) (by rw [hlu]; exact hk)
    rw [hlu] at hut
    rw [show u = t.w from hut]
    exact pg_bd (hOt.2 t ht).1
  obtain ⟨e0, he0⟩ : ∃ e, e = (decR u).1 := ⟨_, rfl⟩
  rw [← he0] at e1 hun
  refine tri_weak (H' := Hp w0 (hdC g10 hdN :: hdC g5 h :: hdC g14 (hd q) :: (SC q m ++ cs))) (fun w h => sc_up2 (X := _ :: _ :: cs) h (List.Sublist.refl _)) ?_
  (repeat (first | refine zz ?_ | refine zv fun _ => ?_))
  refine au_pure ?_ (hy := yl_idx (k := c) rfl rfl hC3.tl (ix_nat rfl) (by rfl) (by omega))
  refine au_pure ?_ (hy := yl_loadEN rfl rfl hC3.tl (by rfl) (by omega) (by repeat (first | exact nf0 rfl | apply nfS rfl | exact nfR)) (by rfl))
  rw [hz]
  (repeat (first | refine zz ?_ | refine zv fun _ => ?_))
  refine au_callC rfl rfl rfl rfl rfl (rlookup_c w0 _ 0 p hE3 hle hew (by omega)) (fun _ => ?_)
  rw [hlk]
  (repeat (first | refine au_pure ?_ | refine au_pass ?_ | refine au_box (fun _ => ?_) | refine au_alloc (fun _ => ?_) | refine au_store ?_ | refine au_make rfl rfl (fun _ => ?_) | refine au_lit rfl rfl rfl (fun _ => ?_) | refine au_append rfl rfl rfl rfl (fun _ => au_norm ?_) | refine au_storeE rfl rfl rfl rfl ?_)); refine tri_nil ?_; (repeat refine tri_then ?_)
  (repeat (first | refine zz ?_ | refine zv fun _ => ?_))
  refine au_pure ?_ (hy := yl_len rfl rfl hC3.wd)
  (repeat (first | refine zz ?_ | refine zv fun _ => ?_))
  refine au_callC rfl rfl rfl rfl rfl (rentry_c w0 _ u m.wd.length hub.1 hub.2) (fun _ => ?_)
  rw [← he0]
  (repeat (first | refine au_pure ?_ | refine au_pass ?_ | refine au_box (fun _ => ?_) | refine au_alloc (fun _ => ?_) | refine au_store ?_ | refine au_make rfl rfl (fun _ => ?_) | refine au_lit rfl rfl rfl (fun _ => ?_) | refine au_append rfl rfl rfl rfl (fun _ => au_norm ?_) | refine au_storeE rfl rfl rfl rfl ?_)); refine tri_nil ?_; (repeat refine tri_then ?_)
  rename_i g17
  refine tri_weak (H' := Hp w0 (enE g17 e0 :: hdC g10 hdN :: hdC g5 h :: hdC g14 (hd q) :: (SC q m ++ cs))) (fun w h => h) ?_
  refine tri_seq ?_
  refine tri_cut1 (fun y : SR × SM × Ent => AccOk m c p wr v y) (fun _ => [(3, .bool wr), (4, .int .i64 v), (10, .pointer (some ⟨g10, 0, none⟩)), (14, .pointer (some ⟨g14, 0, none⟩)), (17, .pointer (some ⟨g17, 0, none⟩))]) (fun y => Hp w0 (enE g17 y.2.2 :: hdC g10 hdN :: hdC g14 (hd y.1) :: (SC y.1 y.2.1 ++ cs))) ?_ ?_
  rotate_left
  · rintro ⟨q4, m4, e4⟩ ⟨hq4, hn4, hw4, he4⟩
    simp only at hq4 hn4 hw4 he4
    have hRw : RdH (Hp w0 (enE g17 e4 :: hdC g10 hdN :: hdC g14 (hd q4) :: (SC q4 m4 ++ cs))) q4.w.v m4.wd := rd_chunk ⟨7, rfl⟩
    refine tri_weak (H' := Hp w0 (enE g17 e4 :: hdC g10 hdN :: hdC g14 (hd q4) :: (SC q4 m4 ++ cs))) (fun w h => h) ?_
    (repeat (first | refine zz ?_ | refine zv fun _ => ?_))
    refine au_pure ?_ (hy := yl_idx (k := e4.n.toNat) rfl rfl hRw (ix_int rfl (by omega)) (by rfl) (by omega))
    refine au_pure ?_ (hy := yl_loadE rfl rfl hRw (by rfl) (by omega) (by rfl))
    (repeat (first | refine zz ?_ | refine zv fun _ => ?_))
    cases wr
    · (repeat (first | refine zz ?_ | refine zv fun _ => ?_))
      refine au_done3 rfl ?_
      exact fun w hw => good_res3 (q := q4) he4 hq4 hw (by repeat (first | exact List.Sublist.refl _ | assumption | apply List.Sublist.cons_cons | apply List.Sublist.cons))
    · (repeat (first | refine zz ?_ | refine zv fun _ => ?_))
      refine au_pure ?_ (hy := yl_idx (k := e4.n.toNat) rfl rfl hRw (ix_int rfl (by omega)) (by rfl) (by omega))
      refine au_storeE (r := q4.w) (a := (v : Int)) rfl rfl rfl rfl ?_
      (repeat (first | refine zz ?_ | refine zv fun _ => ?_))
      refine au_done3 rfl ?_
      exact fun w hw => good_res3 (q := q4) he4 ⟨hq4.hb, hq4.hp⟩ hw (by repeat (first | exact List.Sublist.refl _ | assumption | apply List.Sublist.cons_cons | apply List.Sublist.cons))
  refine tri_seq ?_
  refine tri_cut1 (fun _ : Unit => True) (fun _ => [(1, .int .i64 (c : Int)), (2, .int .i64 p), (3, .bool wr), (4, .int .i64 v), (5, .pointer (some ⟨g5, 0, none⟩)), (10, .pointer (some ⟨g10, 0, none⟩)), (14, .pointer (some ⟨g14, 0, none⟩)), (17, .pointer (some ⟨g17, 0, none⟩)), (75, .bool !(ok && (!wr || (e0.a && e0.c))))]) (fun _ => Hp w0 (enE g17 e0 :: hdC g10 hdN :: hdC g5 h :: hdC g14 (hd q) :: (SC q m ++ cs))) ?_ ?_
  · obtain ⟨ek, en, ea, eb, ec, ed⟩ := e0
    cases ok
    · (repeat (first | refine zz ?_ | refine zv fun _ => ?_))
      exact tri_mt1 () trivial (by repeat (first | exact trivial | refine ⟨rfl, ?_⟩)) (fun _ h => h)
    cases wr
    · (repeat (first | refine zz ?_ | refine zv fun _ => ?_))
      exact tri_mt1 () trivial (by repeat (first | exact trivial | refine ⟨rfl, ?_⟩)) (fun _ h => h)
    cases ea
    · (repeat (first | refine zz ?_ | refine zv fun _ => ?_))
      exact tri_mt1 () trivial (by repeat (first | exact trivial | refine ⟨rfl, ?_⟩)) (fun _ h => h)
    cases ec
    · (repeat (first | refine zz ?_ | refine zv fun _ => ?_))
      exact tri_mt1 () trivial (by repeat (first | exact trivial | refine ⟨rfl, ?_⟩)) (fun _ h => h)
    · (repeat (first | refine zz ?_ | refine zv fun _ => ?_))
      exact tri_mt1 () trivial (by repeat (first | exact trivial | refine ⟨rfl, ?_⟩)) (fun _ h => h)
  rintro ⟨⟩ -
  cases hh : (ok && (!wr || (e0.a && e0.c)))
  case true =>
    rw [hh, if_pos rfl] at e1
    (repeat (first | refine zz ?_ | refine zv fun _ => ?_))
    exact tri_mt1 (q, m, e0) ⟨hq, hun (by cases ok <;> simp_all), hwd, e1⟩ (by repeat (first | exact trivial | refine ⟨rfl, ?_⟩)) (fun _ h => h.sub (by repeat (first | exact List.Sublist.refl _ | assumption | apply List.Sublist.cons_cons | apply List.Sublist.cons)))
  rw [hh, if_neg (by simp)] at e1
  clear he0 hun hub hlk hlu hE3
  have hO1 := inv_ok hOt.1 0 p
  have hW1 := inv_wf hew 0 p
  have hIe : invE b.z b.l 0 p = 0 := by unfold invE; rw [if_pos (check_ok.2 hOt.1)]; exact plc_of (by omega) (by omega)
  have hl1 : (invL b.l 0 p).length ≤ 9223372036854775807 := by have := hO1.n; have := hO1.z; omega
  obtain ⟨l1, hl1e⟩ : ∃ l, l = invL b.l 0 p := ⟨_, rfl⟩
  rw [← hl1e] at hO1 hW1 hl1 e1
  have hXg : (tlx q.bs m.tl).getD c default = ⟨b.z, (q.bs.getD c (Row.nil 0)).sv⟩ := by rw [tlx_get hq.hb hcl, ← hb]
  have hXs : ∀ (r : Row) (l : List TE), (tlx q.bs m.tl).set c ⟨b.z, r.sv⟩ = tlx (q.bs.set c r) (setTl m c l).tl := fun r l => by
    have := tlx_set q.bs m.tl c r ⟨b.z, l⟩
    rw [this]
    unfold setTl
    rw [← hb]
  have htw := hL.tw p.toNat
  rw [show (m.tb.getD p.toNat default).v = tbW m p.toNat from rfl] at htw
  have hnp := none_pg hV.frm (k := p.toNat) (by omega)
  obtain ⟨x, hx⟩ : ∃ x, x = tgtX m p := ⟨_, rfl⟩
  have e2 : x = (decR (tbW m p.toNat)).1 := hx
  rw [← e2] at hnp
  (repeat (first | refine zz ?_ | refine zv fun _ => ?_))
  obtain ⟨XX, hXX⟩ : ∃ X, X = tlx q.bs m.tl := ⟨_, rfl⟩
  obtain ⟨NX, hNX⟩ : ∃ X, X = (SNb q m ++ SNp q m) ++ cs := ⟨_, rfl⟩
  have hE4 : RdH (Hp w0 (enE g17 x :: hdC g10 hdN :: hdC g5 h :: hdC g14 (hd q) :: tlS q.b XX :: pdS q.p (q.ps.map Row.sv) :: u64S q.t m.tb :: lbS q.l m.lm :: inS q.w m.wd :: NX)) (XX.getD c default).s.v b.l := by
    have hl1' : (tls m).getD c default = b.l := by rw [tls_get, hb]
    rw [hXX, hXg, ← hl1']
    refine rd_chunk (r := q.bs.getD c (Row.nil 0)) (e := 72) (has_mem ?_)
    rw [hNX]
    exact List.mem_cons_of_mem _ (List.mem_cons_of_mem _ (List.mem_cons_of_mem _ (List.mem_cons_of_mem _ (List.mem_cons_of_mem _ (List.mem_cons_of_mem _ (List.mem_cons_of_mem _ (List.mem_cons_of_mem _ (List.mem_cons_of_mem _ (List.mem_append_left _ (List.mem_append_left _ (nestE_mem (by simp [hq.hb]) (by simp; omega))))))))))))
  have hRb : RdH (Hp w0 (hdC g14 (hd q) :: tlS q.b XX :: NX)) q.b.v XX := rd_chunk ⟨1, rfl⟩
  rw [← hXX] at hXg hXs hxl
  have hsubN : cs.Sublist NX := by rw [hNX]; exact List.sublist_append_right _ _
  refine tri_weak (H' := Hp w0 (enE g17 e0 :: hdC g10 hdN :: hdC g5 h :: hdC g14 (hd q) :: tlS q.b XX :: pdS q.p (q.ps.map Row.sv) :: u64S q.t m.tb :: lbS q.l m.lm :: inS q.w m.wd :: NX)) (fun w h => by rw [hNX, hXX]; exact h) ?_
  (repeat (first | refine tri_seq ?_ | refine tri_then ?_))
  have hT := (hC.sub hsubN).tb.cons (c := hdC g5 h)
  have hW := (hC.sub hsubN).wd.cons (c := hdC g5 h)
  refine ar_held [12] (hdC g5 h :: NX) rfl ?_
  refine ar_free 0 rfl rfl rfl ?_; refine ar_free 2 rfl rfl rfl ?_; refine ar_free 5 rfl rfl rfl ?_
  refine ar_take 1 rfl rfl rfl ?_
  refine ar_take 3 rfl rfl rfl ?_ (hy := yl_idx (k := p.toNat) rfl rfl hT (ix_int rfl (by omega)) (by rfl) (by omega))
  refine ar_take 4 rfl rfl rfl ?_ (hy := yl_loadE rfl rfl hT (by rfl) (by omega) (by rfl))
  rw [show (m.tb.getD p.toNat default).v = tbW m p.toNat from rfl]
  refine ar_take 6 rfl rfl rfl ?_
  refine ar_take 7 rfl rfl rfl ?_ (hy := yl_len rfl rfl hW)
  refine ar_op 8 rfl ?_
  refine au_callC rfl rfl rfl rfl rfl (rentry_c w0 _ (tbW m p.toNat) m.wd.length htw.1 htw.2) (fun _ => ?_)
  rw [← e2]
  refine tri_nil ?_; refine ar_in ?_
  refine ar_free 9 rfl rfl rfl ?_; refine ar_free 10 rfl rfl rfl ?_; refine ar_free 11 rfl rfl rfl ?_
  refine ar_op 12 rfl ?_
  refine au_store ?_
  refine tri_nil ?_; refine ar_ink ?_
  refine ar_done ?_
  (repeat (first | refine tri_seq ?_ | refine tri_then ?_))
  refine ar_held [14] (hdC g14 (hd q) :: tlS q.b XX :: NX) rfl ?_
  refine ar_free 0 rfl rfl rfl ?_; refine ar_free 2 rfl rfl rfl ?_; refine ar_free 3 rfl rfl rfl ?_; refine ar_free 5 rfl rfl rfl ?_; refine ar_free 8 rfl rfl rfl ?_
  refine ar_take 1 rfl rfl rfl ?_; refine ar_take 4 rfl rfl rfl ?_
  refine ar_take 6 rfl rfl rfl ?_ (hy := yl_idx (k := c) rfl rfl hRb (ix_nat rfl) (by rfl) (by omega))
  refine ar_take 7 rfl rfl rfl ?_ (hy := yl_loadEN rfl rfl hRb (by rfl) (by omega) (by repeat (first | exact nf0 rfl | apply nfS rfl | exact nfR)) (by rfl))
  rw [show (XX.getD c default).z = b.z by rw [hXg]]
  refine ar_op 9 rfl ?_
  refine au_callC rfl rfl rfl rfl rfl (rinval_c w0 _ 0 p hE4 hle hew) ?_
  intro r1
  rw [hIe, show resZ 0 b.z = b.z from rfl, show resL 0 (invL b.l 0 p) = invL b.l 0 p from rfl, ← hl1e]
  refine tri_nil ?_; refine ar_in ?_
  refine ar_take 10 rfl rfl rfl ?_; refine ar_take 11 rfl rfl rfl ?_
  refine ar_free 12 rfl rfl rfl ?_
  refine ar_take 13 rfl rfl rfl ?_ (hy := yl_idx (k := c) rfl rfl hRb (ix_nat rfl) (by rfl) (by omega))
  refine ar_op 14 rfl ?_
  refine au_storeE (r := q.b) (a := (⟨b.z, r1.sv⟩ : TB)) rfl rfl rfl rfl ?_
  refine tri_nil ?_; refine ar_ink ?_
  refine ar_done ?_
  have hq1 : SOk { q with bs := q.bs.set c r1 } (setTl m c l1) := ⟨by show (q.bs.set c r1).length = (m.tl.set _ _).length; simp [hq.hb], hq.hp⟩
  have hL1 := hL.setTl c hl1 hW1
  obtain ⟨q1, hq1e⟩ : ∃ x, x = { q with bs := q.bs.set c r1 } := ⟨_, rfl⟩
  have hhd : hd q1 = hd q := by rw [hq1e]
  refine tri_weak (H' := Hp w0 (enE g17 x :: hdC g10 hdN :: hdC g5 h :: hdC g14 (hd q1) :: (SC q1 (setTl m c l1) ++ cs))) (fun w hw => ?_) ?_
  · rw [hhd]; rw [hNX, hXs r1 l1] at hw
    have h2 := replB (e := 72) (rs := q.bs) (L := tls m) (i := c) (by simp [hq.hb]) (by simpa using hcl) r1 l1 [enE g17 x, hdC g10 hdN, hdC g5 h, hdC g14 (hd q), tlS q.b (tlx (q.bs.set c r1) (setTl m c l1).tl), pdS q.p (q.ps.map Row.sv), u64S q.t m.tb, lbS q.l m.lm, inS q.w m.wd] (SNp q m) cs hw
    rw [← tls_set] at h2
    rw [hq1e]
    exact h2
  rw [← hq1e] at hq1
  clear hXs hXg hE4 hRb hXX hNX hxl hsubN hT hW
  obtain ⟨m1, hm1⟩ : ∃ x, x = setTl m c l1 := ⟨_, rfl⟩
  have hm1t : m1.tb = m.tb := by rw [hm1]; rfl
  have hm1w : m1.wd = m.wd := by rw [hm1]; rfl
  have hm1b : m1.tl.getD c default = ⟨b.z, l1⟩ := by rw [hm1]; unfold setTl; rw [← hb]; show (m.tl.set c _).getD c default = _; rw [gd_set hcl, if_pos rfl]
  have hm1l : m1.tl.length = m.tl.length := by rw [hm1]; unfold setTl; simp
  rw [← hm1] at hq1 hL1 e1 ⊢
  rw [← hx] at e1
  obtain ⟨xk, xn, xa, xb', xc, xd⟩ := x
  simp only at e1 hnp
  (repeat (first | refine zz ?_ | refine zv fun _ => ?_))
  rw [hnp]
  cases h5 : pgOk m.wd.length (tbW m p.toNat)
  case false =>
    rw [if_pos h5] at e1
    (repeat (first | refine zz ?_ | refine zv fun _ => ?_))
    refine au_done3 rfl ?_
    exact fun w hw => good_res3 (q := q1) e1 hq1 hw (by repeat (first | exact List.Sublist.refl _ | assumption | apply List.Sublist.cons_cons | apply List.Sublist.cons))
  rw [if_neg (by rw [h5]; simp)] at e1
  by_cases h6 : wr = true ∧ xa = false
  · rw [if_pos h6] at e1
    obtain ⟨rfl, rfl⟩ := h6
    (repeat (first | refine zz ?_ | refine zv fun _ => ?_))
    refine au_done3 rfl ?_
    exact fun w hw => good_res3 (q := q1) e1 hq1 hw (by repeat (first | exact List.Sublist.refl _ | assumption | apply List.Sublist.cons_cons | apply List.Sublist.cons))
  rw [if_neg h6] at e1
  refine tri_weak (H' := Hp w0 (enC g17 xk xn xa xb' xc xd :: hdC g10 hdN :: hdC g5 h :: hdC g14 (hd q1) :: (SC q1 m1 ++ cs))) (fun w h => h) ?_
  refine tri_if_f rfl ?_
  refine tri_skip ?_
  (repeat (first | refine tri_seq ?_ | refine tri_then ?_))
  refine tri_cut1 (fun _ : Unit => True) (fun _ => [(1, .int .i64 (c : Int)), (2, .int .i64 p), (3, .bool wr), (4, .int .i64 v), (5, .pointer (some ⟨g5, 0, none⟩)), (10, .pointer (some ⟨g10, 0, none⟩)), (14, .pointer (some ⟨g14, 0, none⟩)), (17, .pointer (some ⟨g17, 0, none⟩)), (111, .bool false)]) (fun _ => Hp w0 (enC g17 xk xn xa xb' xc xd :: hdC g10 hdN :: hdC g5 h :: hdC g14 (hd q1) :: (SC q1 m1 ++ cs))) ?_ ?_
  · cases wr
    · (repeat (first | refine zz ?_ | refine zv fun _ => ?_))
      exact tri_mt1 () trivial (by repeat (first | exact trivial | refine ⟨rfl, ?_⟩)) (fun _ h => h)
    · cases xa
      · exact absurd ⟨rfl, rfl⟩ h6
      · (repeat (first | refine zz ?_ | refine zv fun _ => ?_))
        exact tri_mt1 () trivial (by repeat (first | exact trivial | refine ⟨rfl, ?_⟩)) (fun _ h => h)
  rintro ⟨⟩ -
  (repeat (first | refine zz ?_ | refine zv fun _ => ?_))
  have hmp := mark_pg (wr := wr) h5 (fun hw => by
    have hxa : (decR (tbW m p.toNat)).1.a = xa := by
      have : (tgtX m p).a = xa := by rw [← hx]
      exact this
    rw [hxa]
    cases xa
    · exact absurd ⟨hw, rfl⟩ h6
    · rfl)
  have hxn : (decR (tbW m p.toNat)).1.n = xn := by
    have : (tgtX m p).n = xn := by rw [← hx]
    exact this
  have hnb := pg_bd h5
  rw [hxn] at hnb
  obtain ⟨-, hmk1, -, hmk2⟩ := hmp
  obtain ⟨mk, hmk⟩ : ∃ k, k = (markR (tbW m p.toNat) wr).1 := ⟨_, rfl⟩
  rw [← hmk] at hmk1 hmk2 e1
  have hFe : mkE b.z l1 0 p mk = 0 := by
    unfold mkE
    rw [if_pos (check_ok.2 hO1), if_pos (plc_of (by omega) (by omega)), if_pos (tr_pg hmk1).1]
  obtain ⟨XX, hXX⟩ : ∃ X, X = tlx q1.bs m1.tl := ⟨_, rfl⟩
  obtain ⟨NX, hNX⟩ : ∃ X, X = (SNb q1 m1 ++ SNp q1 m1) ++ cs := ⟨_, rfl⟩
  obtain ⟨T0, hT0⟩ : ∃ T, T = m1.tb := ⟨_, rfl⟩
  have hT0l : p.toNat < T0.length := by rw [hT0, hm1t]; omega
  have hsubN : cs.Sublist NX := by rw [hNX]; exact List.sublist_append_right _ _
  refine tri_weak (H' := Hp w0 (enC g17 xk xn xa xb' xc xd :: hdC g10 hdN :: hdC g5 h :: hdC g14 (hd q1) :: tlS q1.b XX :: pdS q1.p (q1.ps.map Row.sv) :: u64S q1.t T0 :: lbS q1.l m1.lm :: inS q1.w m1.wd :: NX)) (fun w h => by rw [hNX, hXX, hT0]; exact h) ?_
  have hRt0 : RdH (Hp w0 (hdC g5 h :: hdC g14 (hd q1) :: u64S q1.t T0 :: NX)) q1.t.v T0 := rd_chunk ⟨2, rfl⟩
  have hTm : RdH (Hp w0 (hdC g5 h :: hdC g14 (hd q1) :: u64S q1.t T0 :: NX)) h.t.v m.tb := (hC.sub (List.Sublist.cons _ (List.Sublist.cons _ (List.Sublist.cons _ hsubN)))).tb
  (repeat (first | refine tri_seq ?_ | refine tri_then ?_))
  refine ar_held [14] (hdC g5 h :: hdC g14 (hd q1) :: u64S q1.t T0 :: NX) rfl ?_
  refine ar_free 0 rfl rfl rfl ?_; refine ar_free 2 rfl rfl rfl ?_; refine ar_free 3 rfl rfl rfl ?_; refine ar_free 5 rfl rfl rfl ?_; refine ar_free 8 rfl rfl rfl ?_
  refine ar_take 1 rfl rfl rfl ?_; refine ar_take 4 rfl rfl rfl ?_
  refine ar_take 6 rfl rfl rfl ?_ (hy := yl_idx (k := p.toNat) rfl rfl hTm (ix_int rfl (by omega)) (by rfl) (by omega))
  refine ar_take 7 rfl rfl rfl ?_ (hy := yl_loadE rfl rfl hTm (by rfl) (by omega) (by rfl))
  rw [show (m.tb.getD p.toNat default).v = tbW m p.toNat from rfl]
  refine ar_op 9 rfl ?_
  refine au_callC rfl rfl rfl rfl rfl (rmark_c w0 _ (tbW m p.toNat) wr htw.1 htw.2) (fun _ => ?_)
  rw [← hmk]
  refine tri_nil ?_; refine ar_in ?_
  refine ar_take 10 rfl rfl rfl ?_; refine ar_take 11 rfl rfl rfl ?_
  refine ar_free 12 rfl rfl rfl ?_
  refine ar_take 13 rfl rfl rfl ?_ (hy := yl_idx (k := p.toNat) rfl rfl hRt0 (ix_int rfl (by omega)) (by rfl) (by omega))
  refine ar_op 14 rfl ?_
  refine au_storeE (r := q1.t) (a := (⟨mk⟩ : W64)) rfl rfl rfl rfl ?_
  refine tri_nil ?_; refine ar_ink ?_
  refine ar_done ?_
  obtain ⟨TT, hTT⟩ : ∃ T, T = T0.set p.toNat (⟨mk⟩ : W64) := ⟨_, rfl⟩
  have hTl : p.toNat < TT.length := by rw [hTT]; simpa using hT0l
  have hTg : (TT.getD p.toNat default).v = mk := by rw [hTT, gd_set hT0l, if_pos rfl]
  rw [← hTT]
  have hXg : XX.getD c default = ⟨b.z, (q1.bs.getD c (Row.nil 0)).sv⟩ := by rw [hXX, tlx_get hq1.hb (by omega), hm1b]
  have hxl : XX.length = m.tl.length := by rw [hXX, tlx_len hq1.hb, hm1l]
  have hXs : ∀ (r : Row) (l : List TE), XX.set c ⟨b.z, r.sv⟩ = tlx (q1.bs.set c r) (setTl m1 c l).tl := fun r l => by
    have := tlx_set q1.bs m1.tl c r ⟨b.z, l⟩
    rw [hXX, this]
    unfold setTl
    rw [hm1b]
  have hE4 : RdH (Hp w0 (enC g17 xk xn xa xb' xc xd :: hdC g10 hdN :: hdC g5 h :: hdC g14 (hd q1) :: tlS q1.b XX :: pdS q1.p (q1.ps.map Row.sv) :: u64S q1.t TT :: lbS q1.l m1.lm :: inS q1.w m1.wd :: NX)) (XX.getD c default).s.v l1 := by
    have hl1' : (tls m1).getD c default = l1 := by rw [tls_get, hm1b]
    rw [hXg, ← hl1']
    refine rd_chunk (r := q1.bs.getD c (Row.nil 0)) (e := 72) (has_mem ?_)
    rw [hNX]
    exact List.mem_cons_of_mem _ (List.mem_cons_of_mem _ (List.mem_cons_of_mem _ (List.mem_cons_of_mem _ (List.mem_cons_of_mem _ (List.mem_cons_of_mem _ (List.mem_cons_of_mem _ (List.mem_cons_of_mem _ (List.mem_cons_of_mem _ (List.mem_append_left _ (List.mem_append_left _ (nestE_mem (by simp [hq1.hb]) (by simp; omega))))))))))))
  have hRb : RdH (Hp w0 (hdC g14 (hd q1) :: tlS q1.b XX :: u64S q1.t TT :: NX)) q1.b.v XX := rd_chunk ⟨1, rfl⟩
  have hRt : RdH (Hp w0 (hdC g14 (hd q1) :: tlS q1.b XX :: u64S q1.t TT :: NX)) q1.t.v TT := rd_chunk ⟨2, rfl⟩
  (repeat (first | refine tri_seq ?_ | refine tri_then ?_))
  refine ar_held [19] (hdC g14 (hd q1) :: tlS q1.b XX :: u64S q1.t TT :: NX) rfl ?_
  refine ar_free 0 rfl rfl rfl ?_; refine ar_free 2 rfl rfl rfl ?_; refine ar_free 3 rfl rfl rfl ?_; refine ar_free 5 rfl rfl rfl ?_; refine ar_free 8 rfl rfl rfl ?_; refine ar_free 9 rfl rfl rfl ?_; refine ar_free 11 rfl rfl rfl ?_
  refine ar_take 1 rfl rfl rfl ?_; refine ar_take 4 rfl rfl rfl ?_; refine ar_take 10 rfl rfl rfl ?_
  refine ar_take 6 rfl rfl rfl ?_ (hy := yl_idx (k := c) rfl rfl hRb (ix_nat rfl) (by rfl) (by omega))
  refine ar_take 7 rfl rfl rfl ?_ (hy := yl_loadEN rfl rfl hRb (by rfl) (by omega) (by repeat (first | exact nf0 rfl | apply nfS rfl | exact nfR)) (by rfl))
  rw [show (XX.getD c default).z = b.z by rw [hXg]]
  refine ar_take 12 rfl rfl rfl ?_ (hy := yl_idx (k := p.toNat) rfl rfl hRt (ix_int rfl (by omega)) (by rfl) (by omega))
  refine ar_take 13 rfl rfl rfl ?_ (hy := yl_loadE rfl rfl hRt (by rfl) (by omega) (by rfl))
  rw [hTg]
  refine ar_op 14 rfl ?_
  refine au_callC rfl rfl rfl rfl rfl (rfill_c w0 _ 0 p mk hE4 hl1 hW1 hmk2.1 hmk2.2) ?_
  intro r2
  rw [hFe, show resZ 0 b.z = b.z from rfl, show resL 0 (mkL b.z l1 (mkX 0 p mk)) = mkL b.z l1 (mkX 0 p mk) from rfl]
  obtain ⟨l2, hl2⟩ : ∃ l, l = mkL b.z l1 (mkX 0 p mk) := ⟨_, rfl⟩
  rw [← hl2] at e1 ⊢
  refine tri_nil ?_; refine ar_in ?_
  refine ar_take 15 rfl rfl rfl ?_; refine ar_take 16 rfl rfl rfl ?_
  refine ar_free 17 rfl rfl rfl ?_
  refine ar_take 18 rfl rfl rfl ?_ (hy := yl_idx (k := c) rfl rfl hRb (ix_nat rfl) (by rfl) (by omega))
  refine ar_op 19 rfl ?_
  refine au_storeE (r := q1.b) (a := (⟨b.z, r2.sv⟩ : TB)) rfl rfl rfl rfl ?_
  refine tri_nil ?_; refine ar_ink ?_
  refine ar_done ?_
  obtain ⟨m3, hm3⟩ : ∃ x, x = ({ (setTl m1 c l2) with tb := TT } : SM) := ⟨_, rfl⟩
  have hq3 : SOk { q1 with bs := q1.bs.set c r2 } m3 := by
    rw [hm3]
    exact ⟨by show (q1.bs.set c r2).length = (m1.tl.set _ _).length; simp [hq1.hb], hq1.hp⟩
  obtain ⟨q3, hq3e⟩ : ∃ x, x = ({ q1 with bs := q1.bs.set c r2 } : SR) := ⟨_, rfl⟩
  have hhd3 : hd q3 = hd q1 := by rw [hq3e]
  refine tri_weak (H' := Hp w0 (enC g17 xk xn xa xb' xc xd :: hdC g10 hdN :: hdC g5 h :: hdC g14 (hd q3) :: (SC q3 m3 ++ cs))) (fun w hw => ?_) ?_
  · rw [hhd3]; rw [hNX, hXs r2 l2] at hw
    have h2 := replB (e := 72) (rs := q1.bs) (L := tls m1) (i := c) (by simp [hq1.hb]) (by simp; omega) r2 l2 [enC g17 xk xn xa xb' xc xd, hdC g10 hdN, hdC g5 h, hdC g14 (hd q1), tlS q1.b (tlx (q1.bs.set c r2) (setTl m1 c l2).tl), pdS q1.p (q1.ps.map Row.sv), u64S q1.t TT, lbS q1.l m1.lm, inS q1.w m1.wd] (SNp q1 m1) cs hw
    rw [← tls_set] at h2
    rw [hq3e, hm3]
    exact h2
  rw [← hq3e] at hq3
  have hm3w : m3.wd = m.wd := by rw [hm3]; exact hm1w
  have he3 : accM m (c : Int) p wr v = (useM m3 xn wr v, m3.wd.getD xn.toNat default, 0) := by
    rw [e1, hm3w]
    have : m3 = { (setTl m c l2) with tb := m.tb.set p.toNat ⟨mk⟩ } := by
      rw [hm3, hTT, hT0, hm1t, hm1, setTl_twice m c l1 l2 hcl]
    rw [this]
  (repeat (first | refine zz ?_ | refine zv fun _ => ?_))
  exact tri_mt1 (q3, m3, ⟨xk, xn, xa, xb', xc, xd⟩) ⟨hq3, by show 0 ≤ xn ∧ xn < m3.wd.length; rw [hm3w]; exact hnb, by show m3.wd.length ≤ _; rw [hm3w]; exact hwd, he3⟩ (by repeat (first | exact trivial | refine ⟨rfl, ?_⟩)) (fun _ h => h.sub (by repeat (first | exact List.Sublist.refl _ | assumption | apply List.Sublist.cons_cons | apply List.Sublist.cons)))
end
end Go.Proofs.YtojfaelafakemaaGreat
