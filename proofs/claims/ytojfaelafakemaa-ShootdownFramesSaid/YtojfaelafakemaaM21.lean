/- Texts joined: ShOps5, ShAcc, ShRAcc. Each part's own remark says what it proves. -/
import Derived.Test.YtojfaelafakemaaM19
import Derived.Test.YtojfaelafakemaaM20
/- The walk of the shootdown machine's Access. No conditions. -/
set_option linter.unusedSimpArgs false
set_option linter.unusedVariables false
namespace Go.Proofs.Ytojfaelafakemaa
open Go Go.RowKit
theorem tr_pg {n : Nat} {w : Int} (h : pgOk n w = true) : tr w = true ∧ hu w = false := by
  unfold pgOk at h
  have h := of_decide_eq_true h
  exact ⟨by unfold tr; exact decide_eq_true ⟨h.1, h.2.1⟩, by unfold hu; rw [h.2.2.1, Bool.and_false]⟩
theorem mark_pg {n : Nat} {w : Int} {wr : Bool} (h : pgOk n w = true) (ha : wr = true → (decR w).1.a = true) :
    (markR w wr).2 = 0 ∧ pgOk n (markR w wr).1 = true ∧ (decR (markR w wr).1).1 = ⟨1, (decR w).1.n, (decR w).1.a, true, (if wr = true then true else (decR w).1.c), false⟩ ∧ (0 ≤ (markR w wr).1 ∧ (markR w wr).1 < 18446744073709551616) := by
  unfold pgOk at h
  obtain ⟨h1, h2, h3, h4⟩ := of_decide_eq_true h
  obtain ⟨⟨k, n', a, b, c, d⟩, u, hp⟩ : ∃ e u, decR w = (e, u) := ⟨_, _, rfl⟩
  rw [hp] at h1 h2 h3 h4 ha ⊢
  simp only at h1 h2 h3 h4 ha
  subst h1 h2 h3
  obtain ⟨ho, hw⟩ := decR_zero hp
  have hpg : pageR w = (⟨1, n', a, b, c, false⟩, 0) := by unfold pageR; rw [hp]; rfl
  have key : ∀ e : Ent, okE e → e.k = 1 → e.d = false → e.n = n' → pgOk n (wrd e) = true ∧ (decR (wrd e)).1 = e ∧ (0 ≤ wrd e ∧ wrd e < 18446744073709551616) := fun e he hk hd hn => by
    have h5 := wrd_rng he
    refine ⟨?_, by rw [decR_wrd he], by omega⟩
    unfold pgOk
    rw [decR_wrd he]
    exact decide_eq_true ⟨rfl, hk, hd, by rw [hn]; exact h4⟩
  cases wr with
  | false =>
    have e1 : markR w false = (wrd ⟨1, n', a, true, c, false⟩, 0) := by
      unfold markR
      rw [hpg]
      show (bits .or .u64 w 16, (0 : Int)) = _
      rw [hw, w_mark ho]
    rw [e1]
    obtain ⟨k1, k2, k3⟩ := key ⟨1, n', a, true, c, false⟩ (ok_page ho) rfl rfl rfl
    exact ⟨rfl, k1, by rw [k2]; rfl, k3⟩
  | true =>
    have ha := ha rfl
    subst ha
    have e1 : markR w true = (wrd ⟨1, n', true, true, true, false⟩, 0) := by
      unfold markR
      rw [hpg]
      show (bits .or .u64 (bits .or .u64 w 16) 32, (0 : Int)) = _
      rw [hw, w_mark ho, w_mark32 (ok_page ho)]
    rw [e1]
    obtain ⟨k1, k2, k3⟩ := key ⟨1, n', true, true, true, false⟩ (ok_page ho) rfl rfl rfl
    exact ⟨rfl, k1, by rw [k2]; rfl, k3⟩
theorem inv_ok {z : Int} {l : List TE} (h : Ok z l) (s p : Int) : Ok z (invL l s p) := by
  have hs : (invL l s p).Sublist l := List.filter_sublist
  exact ⟨h.z, by have := hs.length_le; have := h.n; omega, fun x hx => h.v x (hs.subset hx), h.d.sublist hs⟩
theorem inv_wf {l : List TE} (h : ∀ t ∈ l, Wf t) (s p : Int) : ∀ t ∈ invL l s p, Wf t := fun t ht => h t (List.mem_filter.1 ht).1
theorem look_mem {l : List TE} {s p : Int} (h : (lookL l s p).2 = true) : ∃ t ∈ l, covM t s p = true ∧ (lookL l s p).1 = t.w := by
  unfold lookL at h ⊢
  cases hf : l.find? (fun x => covM x s p) with
  | none => rw [hf] at h; cases h
  | some t => exact ⟨t, List.mem_of_find?_eq_some hf, by have := List.find?_some (p := fun x => covM x s p) hf; exact this, rfl⟩
theorem look_ok {z : Int} {l : List TE} (h : Ok z l) (s p : Int) : lookM z l s p = lookL l s p := by unfold lookM; rw [if_pos (check_ok.2 h)]
theorem look_false {l : List TE} {s p : Int} (h : (lookL l s p).2 = false) : (lookL l s p).1 = 0 := by
  unfold lookL at h ⊢
  cases hf : l.find? (fun x => covM x s p) with
  | none => rfl
  | some t => rw [hf] at h; cases h
theorem replB {α : Type} [Enc α] {w0 w : World} {e : Nat} {rs : List Row} {L : List (List α)} (hl : rs.length = L.length) {i : Nat} (hi : i < L.length) (r' : Row) (l' : List α) (K NP cs : List Chunk) (h : Hp w0 (slC r' e l' :: (K ++ ((nestE e rs L ++ NP) ++ cs))) w) : Hp w0 (K ++ ((nestE e (rs.set i r') (L.set i l') ++ NP) ++ cs)) w := by
  have h1 := HpM.perm h (List.Perm.cons _ (focusB (e := e) hl hi K NP cs))
  have h2 : Hp w0 (slC r' e l' :: (K ++ ((nxE e rs L i ++ NP) ++ cs))) w := h1.sub (List.Sublist.cons_cons _ (List.Sublist.cons _ (List.Sublist.refl _)))
  exact HpM.perm h2 (unfocusB (e := e) hl hi r' l' K NP cs)
theorem tls_set (m : SM) (c : Nat) (l : List TE) : tls (setTl m c l) = (tls m).set c l := by
  unfold setTl tls
  rw [List.map_set]
theorem setTl_twice (m : SM) (c : Nat) (l l2 : List TE) (hc : c < m.tl.length) : setTl (setTl m c l) c l2 = setTl m c l2 := by
  unfold setTl
  simp only [gd_set hc, if_true, List.set_set]
theorem SLe.setTl {m : SM} (h : SLe m) (c : Nat) {l : List TE} (hl : l.length ≤ 9223372036854775807) (hw : ∀ t ∈ l, Wf t) : SLe (Go.Proofs.Ytojfaelafakemaa.setTl m c l) := by
  have key : ∀ i, ((m.tl.set c (⟨(m.tl.getD c default).z, l⟩ : TL)).getD i default).l = l ∨ ((m.tl.set c (⟨(m.tl.getD c default).z, l⟩ : TL)).getD i default).l = (m.tl.getD i default).l := fun i => by
    rcases Nat.lt_or_ge c m.tl.length with hc | hc
    · rw [gd_set hc]
      by_cases e : c = i
      · rw [if_pos e]; exact .inl rfl
      · rw [if_neg e]; exact .inr rfl
    · rw [List.set_eq_of_length_le hc]; exact .inr rfl
  exact ⟨h.tb, by show (m.tl.set _ _).length ≤ _; simpa using h.tl, fun i => by
    show ((m.tl.set c (⟨(m.tl.getD c default).z, l⟩ : TL)).getD i default).l.length ≤ _
    rcases key i with e | e
    · rw [e]; exact hl
    · rw [e]; exact h.te i, h.pd, h.pe, h.lm, h.wd, h.tw, fun i t ht => by
    have ht : t ∈ ((m.tl.set c (⟨(m.tl.getD c default).z, l⟩ : TL)).getD i default).l := ht
    rcases key i with e | e
    · rw [e] at ht; exact hw t ht
    · rw [e] at ht; exact h.ew i t ht⟩
end Go.Proofs.Ytojfaelafakemaa

/- The walk of the shootdown machine's Access. No conditions. -/
set_option linter.unusedSimpArgs false
set_option linter.unusedVariables false
namespace Go.Proofs.Ytojfaelafakemaa
open Go Go.RowKit
attribute [local irreducible] decR enOk pgOk teOk ivOk tlOk checkM lbOk formM limM schk lookM markR mkL invL mkX mkE invE
attribute [local irreducible] Code.wp wpList bodyPost Exit.then Exit.inBlock Calls wpQuiet Tri TriQ
section
variable (w0 : World) (cs : List Chunk)
set_option maxHeartbeats 4000000 in
theorem access_c {h : SH} {xb : List TB} {xp : List SV} {m : SM} (c p : Int) (wr : Bool) (v : Int) (hC : RdS (Hp w0 cs) h xb xp m) (hL : SLe m) (hpe : ∀ i, (m.pd.getD i default).length ≤ 1000000) :
    Cal Try.prog 17 [hdV h, .int .i64 c, .int .i64 p, .bool wr, .int .i64 v] (Hp w0 cs) (fun q : {q : SR // SOk q (accM m c p wr v).1} => .tuple #[hdV (hd q.1), .int .i64 (accM m c p wr v).2.1, .int .i64 (accM m c p wr v).2.2]) (fun q => Hp w0 (SC q.1 (accM m c p wr v).1 ++ cs)) := by
  have htl := hC.tll
  refine cal_of_tri Try.func17 rfl Try.ntmps17 rfl ?_
  (repeat (first | refine tri_seq ?_ | refine tri_then ?_)); refine tri_region ?_; (repeat (first | refine au_pure ?_ | refine au_pass ?_ | refine au_box (fun _ => ?_) | refine au_alloc (fun _ => ?_) | refine au_store ?_ | refine au_make rfl rfl (fun _ => ?_) | refine au_lit rfl rfl rfl (fun _ => ?_) | refine au_append rfl rfl rfl rfl (fun _ => au_norm ?_) | refine au_storeE rfl rfl rfl rfl ?_)); refine tri_nil ?_; (repeat refine tri_then ?_)
  rename_i g5 g10
  have hC1 := hC.cons (c := hdC g5 h) |>.cons (c := hdC g10 hdN)
  refine tri_weak (H' := Hp w0 (hdC g10 hdN :: hdC g5 h :: cs)) (fun w h => h) ?_
  (repeat (first | refine zz ?_ | refine zv fun _ => ?_))
  refine au_callC rfl rfl rfl rfl rfl (scheck_c w0 _ hC1 hL) (fun _ => ?_)
  (repeat (first | refine zz ?_ | refine zv fun _ => ?_))
  cases h1 : (schk m != 0)
  case true =>
    have h1 := bne_iff_ne.1 h1
    (repeat (first | refine zz ?_ | refine zv fun _ => ?_))
    refine au_done3 rfl ?_
    exact fun w hw => zero_res3 hw (by unfold accM; rw [if_pos h1]) (by repeat (first | exact List.Sublist.refl _ | assumption | apply List.Sublist.cons_cons | apply List.Sublist.cons))
  have h1 : schk m = 0 := by simpa using h1
  have hV := schk_zero.1 h1
  have hr := hV.r
  have e1 : accM m c p wr v = if ¬ (0 ≤ c ∧ c < m.tl.length ∧ isP m p = true) then (.zero, 0, 2) else accG m c p wr v := by unfold accM; rw [if_neg fun x => x h1]
  (repeat (first | refine zz ?_ | refine zv fun _ => ?_))
  cases h2 : decide (c < 0)
  case true =>
    have h2 := of_decide_eq_true h2
    (repeat (first | refine zz ?_ | refine zv fun _ => ?_))
    refine au_done3 rfl ?_
    exact fun w hw => zero_res3 hw (by rw [e1, if_pos (by omega)]) (by repeat (first | exact List.Sublist.refl _ | assumption | apply List.Sublist.cons_cons | apply List.Sublist.cons))
  have h2 := of_decide_eq_false h2
  (repeat (first | refine zz ?_ | refine zv fun _ => ?_))
  refine au_pure ?_ (hy := yl_len rfl rfl hC1.tl)
  (repeat (first | refine zz ?_ | refine zv fun _ => ?_))
  cases h3 : decide (c ≥ (xb.length : Int))
  case true =>
    have h3 := of_decide_eq_true h3
    (repeat (first | refine zz ?_ | refine zv fun _ => ?_))
    refine au_done3 rfl ?_
    exact fun w hw => zero_res3 hw (by rw [e1, if_pos (by omega)]) (by repeat (first | exact List.Sublist.refl _ | assumption | apply List.Sublist.cons_cons | apply List.Sublist.cons))
  have h3 := of_decide_eq_false h3
  (repeat (first | refine zz ?_ | refine zv fun _ => ?_))
  refine au_callC rfl rfl rfl rfl rfl (is_c w0 _ p hC1.tb hL.tb) (fun _ => ?_)
  cases h4 : isP m p
  case false =>
    (repeat (first | refine zz ?_ | refine zv fun _ => ?_))
    refine au_done3 rfl ?_
    exact fun w hw => zero_res3 hw (by rw [e1, if_pos (fun x => by rw [x.2.2] at h4; cases h4)]) (by repeat (first | exact List.Sublist.refl _ | assumption | apply List.Sublist.cons_cons | apply List.Sublist.cons))
  rw [if_neg (fun x => x ⟨by omega, by omega, h4⟩)] at e1
  have hp := isP_iff.1 h4
  obtain ⟨c, rfl⟩ : ∃ k : Nat, c = (k : Int) := ⟨c.toNat, by omega⟩
  have hcl : c < m.tl.length := by omega
  (repeat (first | refine zz ?_ | refine zv fun _ => ?_))
  refine au_callC rfl rfl rfl rfl rfl (own_c w0 _ hC1 hr.2.2.1 (by omega) (by have := hV.lml; omega) (fun i => by have := hV.tel i; omega) hpe) ?_
  rintro ⟨q, hq⟩
  refine tri_weak (H' := Hp w0 (hdC g10 hdN :: hdC g5 h :: (SC q m ++ cs))) (fun w h => sc_mid2 (X := _ :: _ :: cs) h (List.Sublist.refl _)) ?_
  (repeat (first | refine au_pure ?_ | refine au_pass ?_ | refine au_box (fun _ => ?_) | refine au_alloc (fun _ => ?_) | refine au_store ?_ | refine au_make rfl rfl (fun _ => ?_) | refine au_lit rfl rfl rfl (fun _ => ?_) | refine au_append rfl rfl rfl rfl (fun _ => au_norm ?_) | refine au_storeE rfl rfl rfl rfl ?_)); refine tri_nil ?_; (repeat refine tri_then ?_)
  have hC3 := (rdS_own (w0 := w0) (cs := cs) hq).cons (c := hdC g5 (hd q)) |>.cons (c := hdC g10 hdN)
  have hz := hC3.tz c
  have hOt := hV.tlb hcl
  have hle := hL.te c
  have hew := hL.ew c
  have hxl := tlx_len hq.hb
  unfold accG hitA at e1
  rw [Int.toNat_natCast, look_ok hOt.1] at e1
  obtain ⟨b, hb⟩ : ∃ b, b = m.tl.getD c default := ⟨_, rfl⟩
  rw [← hb] at hz hOt hle hew e1
  have hlk := look_ok hOt.1 0 p
  obtain ⟨⟨u, ok⟩, hlu⟩ : ∃ y, lookL b.l 0 p = y := ⟨_, rfl⟩
  rw [hlu] at hlk e1
  simp only at e1
  have hE3 := hC3.te c
  rw [← hb] at hE3
  refine tri_weak (H' := Hp w0 (hdC g10 hdN :: hdC g5 (hd q) :: (SC q m ++ cs))) (fun w h => h) ?_
  refine tri_seq ?_
  refine tri_cut1 (fun _ : Unit => (ok && (!wr || ((decR u).1.a && (decR u).1.c))) = false) (fun _ => [(1, .int .i64 (c : Int)), (2, .int .i64 p), (3, .bool wr), (4, .int .i64 v), (5, .pointer (some ⟨g5, 0, none⟩)), (10, .pointer (some ⟨g10, 0, none⟩))]) (fun _ => Hp w0 (hdC g10 hdN :: hdC g5 (hd q) :: (SC q m ++ cs))) ?_ ?_
  · (repeat (first | refine zz ?_ | refine zv fun _ => ?_))
    refine au_pure ?_ (hy := yl_idx (k := c) rfl rfl hC3.tl (ix_nat rfl) (by rfl) (by omega))
    refine au_pure ?_ (hy := yl_loadEN rfl rfl hC3.tl (by rfl) (by omega) (by repeat (first | exact nf0 rfl | apply nfS rfl | exact nfR)) (by rfl))
    rw [hz]
    (repeat (first | refine zz ?_ | refine zv fun _ => ?_))
    refine au_callC rfl rfl rfl rfl rfl (lookup_c w0 _ 0 p hE3 hle hew) (fun _ => ?_)
    rw [hlk]
    cases ok
    case false =>
      (repeat (first | refine zz ?_ | refine zv fun _ => ?_))
      exact tri_mt1 () rfl (by repeat (first | exact trivial | refine ⟨rfl, ?_⟩)) (fun _ h => h)
    obtain ⟨t, ht, _, hut⟩ := look_mem (l := b.l) (s := 0) (p := p) (by rw [hlu])
    rw [hlu] at hut
    have hut : u = t.w := hut
    have hpu := (hOt.2 t ht).1
    have hwu := (hew t ht).2.2
    rw [← hut] at hpu hwu
    have hnb := pg_bd hpu
    (repeat (first | refine zz ?_ | refine zv fun _ => ?_))
    refine au_callC rfl rfl rfl rfl rfl (page_c w0 _ u hwu.1 hwu.2 hC3.wd hL.wd) (fun _ => ?_)
    obtain ⟨e, he⟩ : ∃ e, e = (decR u).1 := ⟨_, rfl⟩
    rw [← he] at e1 hnb ⊢
    obtain ⟨ek, en, ea, eb, ec, ed⟩ := e
    simp only at e1 hnb
    cases wr
    case false =>
      rw [if_pos (show (true && (!false || (ea && ec))) = true from rfl)] at e1
      (repeat (first | refine zz ?_ | refine zv fun _ => ?_))
      refine tri_weak (fun w h => sc_front3 h) ?_
      refine au_callC rfl rfl rfl rfl rfl (use_c w0 _ en false v hq hnb hL.wd) (fun _ => ?_)
      refine tri_weak (fun w h => sc_mid3 (X := _ :: _ :: _ :: cs) h (List.Sublist.refl _)) ?_
      (repeat (first | refine zz ?_ | refine zv fun _ => ?_))
      refine au_done3 rfl ?_
      exact fun w hw => good_res3 e1 ⟨hq.hb, hq.hp⟩ hw (by repeat (first | exact List.Sublist.refl _ | assumption | apply List.Sublist.cons_cons | apply List.Sublist.cons))
    cases ea
    case false =>
      (repeat (first | refine zz ?_ | refine zv fun _ => ?_))
      exact tri_mt1 () rfl (by repeat (first | exact trivial | refine ⟨rfl, ?_⟩)) (fun _ h => h.sub (by repeat (first | exact List.Sublist.refl _ | assumption | apply List.Sublist.cons_cons | apply List.Sublist.cons)))
    cases ec
    case false =>
      (repeat (first | refine zz ?_ | refine zv fun _ => ?_))
      exact tri_mt1 () rfl (by repeat (first | exact trivial | refine ⟨rfl, ?_⟩)) (fun _ h => h.sub (by repeat (first | exact List.Sublist.refl _ | assumption | apply List.Sublist.cons_cons | apply List.Sublist.cons)))
    rw [if_pos (show (true && (!true || (true && true))) = true from rfl)] at e1
    (repeat (first | refine zz ?_ | refine zv fun _ => ?_))
    refine tri_weak (fun w h => sc_front3 h) ?_
    refine au_callC rfl rfl rfl rfl rfl (use_c w0 _ en true v hq hnb hL.wd) (fun _ => ?_)
    refine tri_weak (fun w h => sc_mid3 (X := _ :: _ :: _ :: cs) h (List.Sublist.refl _)) ?_
    (repeat (first | refine zz ?_ | refine zv fun _ => ?_))
    refine au_done3 rfl ?_
    exact fun w hw => good_res3 e1 ⟨hq.hb, hq.hp⟩ hw (by repeat (first | exact List.Sublist.refl _ | assumption | apply List.Sublist.cons_cons | apply List.Sublist.cons))
  intro _ hnh
  rw [if_neg (by rw [hnh]; simp)] at e1
  have hO1 := inv_ok hOt.1 0 p
  have hW1 := inv_wf hew 0 p
  have hIe : invE b.z b.l 0 p = 0 := by unfold invE; rw [if_pos (check_ok.2 hOt.1)]; exact plc_of (by omega) (by omega)
  have hl1 : (invL b.l 0 p).length ≤ 9223372036854775807 := by have := hO1.n; have := hO1.z; omega
  obtain ⟨l1, hl1e⟩ : ∃ l, l = invL b.l 0 p := ⟨_, rfl⟩
  rw [← hl1e] at hO1 hW1 hl1 e1
  have hXg : (tlx q.bs m.tl).getD c default = ⟨b.z, (q.bs.getD c (Row.nil 0)).sv⟩ := by rw [tlx_get hq.hb hcl, ← hb]
  have hXs : ∀ (r : Row) (l : List TE), (tlx q.bs m.tl).set c ⟨b.z, r.sv⟩ = tlx (q.bs.set c r) (setTl m c l).tl := fun r l => by
    have := tlx_set q.bs m.tl c r ⟨b.z, l⟩
    rw [this]
    unfold setTl
    rw [← hb]
  obtain ⟨XX, hXX⟩ : ∃ X, X = tlx q.bs m.tl := ⟨_, rfl⟩
  obtain ⟨NX, hNX⟩ : ∃ X, X = (SNb q m ++ SNp q m) ++ cs := ⟨_, rfl⟩
  obtain ⟨TT, hTT⟩ : ∃ T, T = m.tb := ⟨_, rfl⟩
  have hE4 : RdH (Hp w0 (hdC g10 hdN :: hdC g5 (hd q) :: tlS q.b XX :: pdS q.p (q.ps.map Row.sv) :: u64S q.t TT :: lbS q.l m.lm :: inS q.w m.wd :: NX)) (XX.getD c default).s.v b.l := by rw [hNX, hXX, hTT]; exact hE3
  have hRb : RdH (Hp w0 (hdC g5 (hd q) :: tlS q.b XX :: NX)) q.b.v XX := rd_chunk ⟨1, rfl⟩
  rw [← hXX] at hXg hXs hxl
  refine tri_weak (H' := Hp w0 (hdC g10 hdN :: hdC g5 (hd q) :: tlS q.b XX :: pdS q.p (q.ps.map Row.sv) :: u64S q.t TT :: lbS q.l m.lm :: inS q.w m.wd :: NX)) (fun w h => by rw [hNX, hXX, hTT]; exact h) ?_
  refine tri_seq ?_
  refine ar_held [14] (hdC g5 (hd q) :: tlS q.b XX :: NX) rfl ?_
  refine ar_free 0 rfl rfl rfl ?_; refine ar_free 2 rfl rfl rfl ?_; refine ar_free 3 rfl rfl rfl ?_; refine ar_free 5 rfl rfl rfl ?_; refine ar_free 8 rfl rfl rfl ?_
  refine ar_take 1 rfl rfl rfl ?_; refine ar_take 4 rfl rfl rfl ?_
  refine ar_take 6 rfl rfl rfl ?_ (hy := yl_idx (k := c) rfl rfl hRb (ix_nat rfl) (by rfl) (by omega))
  refine ar_take 7 rfl rfl rfl ?_ (hy := yl_loadEN rfl rfl hRb (by rfl) (by omega) (by repeat (first | exact nf0 rfl | apply nfS rfl | exact nfR)) (by rfl))
  rw [show (XX.getD c default).z = b.z by rw [hXg]]
  refine ar_op 9 rfl ?_
  refine au_callC rfl rfl rfl rfl rfl (inval_c w0 _ 0 p hE4 hle hew) ?_
  intro r1
  rw [hIe, show resZ 0 b.z = b.z from rfl, show resL 0 (invL b.l 0 p) = invL b.l 0 p from rfl, ← hl1e]
  refine tri_nil ?_; refine ar_in ?_
  refine ar_take 10 rfl rfl rfl ?_; refine ar_take 11 rfl rfl rfl ?_
  refine ar_free 12 rfl rfl rfl ?_
  refine ar_take 13 rfl rfl rfl ?_ (hy := yl_idx (k := c) rfl rfl hRb (ix_nat rfl) (by rfl) (by omega))
  refine ar_op 14 rfl ?_
  refine au_storeE (r := q.b) (a := (⟨b.z, r1.sv⟩ : TB)) rfl rfl rfl rfl ?_
  refine tri_nil ?_; refine ar_ink ?_
  refine ar_done ?_
  have hq1 : SOk { q with bs := q.bs.set c r1 } (setTl m c l1) := ⟨by show (q.bs.set c r1).length = (m.tl.set _ _).length; simp [hq.hb], hq.hp⟩
  have hL1 := hL.setTl c hl1 hW1
  obtain ⟨q1, hq1e⟩ : ∃ x, x = { q with bs := q.bs.set c r1 } := ⟨_, rfl⟩
  have hhd : hd q1 = hd q := by rw [hq1e]
  refine tri_weak (H' := Hp w0 (hdC g10 hdN :: hdC g5 (hd q1) :: (SC q1 (setTl m c l1) ++ cs))) (fun w h => ?_) ?_
  · rw [hhd]; rw [hNX, hTT, hXs r1 l1] at h
    have h2 := replB (e := 71) (rs := q.bs) (L := tls m) (i := c) (by simp [hq.hb]) (by simpa using hcl) r1 l1 [hdC g10 hdN, hdC g5 (hd q), tlS q.b (tlx (q.bs.set c r1) (setTl m c l1).tl), pdS q.p (q.ps.map Row.sv), u64S q.t m.tb, lbS q.l m.lm, inS q.w m.wd] (SNp q m) cs h
    rw [← tls_set] at h2
    rw [hq1e]
    exact h2
  rw [← hq1e] at hq1
  clear hXs hXg hE4 hRb hE3 hXX hNX hTT hxl
  obtain ⟨m1, hm1⟩ : ∃ x, x = setTl m c l1 := ⟨_, rfl⟩
  have hm1t : m1.tb = m.tb := by rw [hm1]; rfl
  have hm1w : m1.wd = m.wd := by rw [hm1]; rfl
  have hm1b : m1.tl.getD c default = ⟨b.z, l1⟩ := by rw [hm1]; unfold setTl; rw [← hb]; show (m.tl.set c _).getD c default = _; rw [gd_set hcl, if_pos rfl]
  have hm1l : m1.tl.length = m.tl.length := by rw [hm1]; unfold setTl; simp
  rw [← hm1] at hq1 hL1 e1 ⊢
  have hC4 := (rdS_own (w0 := w0) (cs := cs) hq1).cons (c := hdC g5 (hd q1)) |>.cons (c := hdC g10 hdN)
  have hpx : pgOk m1.wd.length (tbW m1 p.toNat) = pgOk m.wd.length (tbW m p.toNat) := by unfold tbW; rw [hm1t, hm1w]
  have htx : (decR (tbW m1 p.toNat)).1 = tgtX m p := by unfold tgtX tbW; rw [hm1t]
  (repeat (first | refine zz ?_ | refine zv fun _ => ?_))
  refine au_callC rfl rfl rfl rfl rfl (mapped_c w0 _ p hC4 hL1 (by rw [hm1t]; exact hp)) (fun _ => ?_)
  rw [hpx, htx]
  obtain ⟨x, hx⟩ : ∃ x, x = tgtX m p := ⟨_, rfl⟩
  rw [← hx] at e1 ⊢
  obtain ⟨xk, xn, xa, xb', xc, xd⟩ := x
  simp only at e1
  (repeat (first | refine zz ?_ | refine zv fun _ => ?_))
  rename_i g18
  refine tri_cut1 (fun _ : Unit => pgOk m.wd.length (tbW m p.toNat) = true ∧ ¬ (wr = true ∧ xa = false)) (fun _ => [(1, .int .i64 (c : Int)), (2, .int .i64 p), (3, .bool wr), (4, .int .i64 v), (5, .pointer (some ⟨g5, 0, none⟩)), (10, .pointer (some ⟨g10, 0, none⟩)), (18, .pointer (some ⟨g18, 0, none⟩))]) (fun _ => Hp w0 (enC g18 xk xn xa xb' xc xd :: hdC g10 hdN :: hdC g5 (hd q1) :: (SC q1 m1 ++ cs))) ?_ ?_
  · refine tri_block ?_
    cases h5 : pgOk m.wd.length (tbW m p.toNat)
    case false =>
      rw [if_pos h5] at e1
      (repeat (first | refine zz ?_ | refine zv fun _ => ?_))
      refine au_done3 rfl ?_
      exact fun w hw => good_res3 (q := q1) e1 hq1 hw (by repeat (first | exact List.Sublist.refl _ | assumption | apply List.Sublist.cons_cons | apply List.Sublist.cons))
    rw [if_neg (by rw [h5]; simp)] at e1
    by_cases h6 : wr = true ∧ xa = false
    · rw [if_pos h6] at e1
      obtain ⟨rfl, rfl⟩ := h6
      (repeat (first | refine zz ?_ | refine zv fun _ => ?_))
      refine au_done3 rfl ?_
      exact fun w hw => good_res3 (q := q1) e1 hq1 hw (by repeat (first | exact List.Sublist.refl _ | assumption | apply List.Sublist.cons_cons | apply List.Sublist.cons))
    cases wr
    · (repeat (first | refine zz ?_ | refine zv fun _ => ?_))
      exact tri_mt1 () ⟨rfl, h6⟩ (by repeat (first | exact trivial | refine ⟨rfl, ?_⟩)) (fun _ h => h)
    · cases xa
      · exact absurd ⟨rfl, rfl⟩ h6
      · (repeat (first | refine zz ?_ | refine zv fun _ => ?_))
        exact tri_mt1 () ⟨rfl, h6⟩ (by repeat (first | exact trivial | refine ⟨rfl, ?_⟩)) (fun _ h => h)
  rintro _ ⟨h5, h6⟩
  rw [if_neg (by rw [h5]; simp), if_neg h6] at e1
  have hmp := mark_pg (wr := wr) h5 (fun hw => by
    have hxa : (decR (tbW m p.toNat)).1.a = xa := by
      have : (tgtX m p).a = xa := by rw [← hx]
      exact this
    rw [hxa]
    cases xa
    · exact absurd ⟨hw, rfl⟩ h6
    · rfl)
  have hxn : (decR (tbW m p.toNat)).1.n = xn := by
    have : (tgtX m p).n = xn := by rw [← hx]
    exact this
  have hnb := pg_bd h5
  rw [hxn] at hnb
  obtain ⟨-, hmk1, -, hmk2⟩ := hmp
  have htw := hL.tw p.toNat
  rw [show (m.tb.getD p.toNat default).v = tbW m p.toNat from rfl] at htw
  have hRt := hC4.tb.cons (c := enC g18 xk xn xa xb' xc xd)
  refine tri_weak (H' := Hp w0 (enC g18 xk xn xa xb' xc xd :: hdC g10 hdN :: hdC g5 (hd q1) :: (SC q1 m1 ++ cs))) (fun w h => h) ?_
  (repeat (first | refine zz ?_ | refine zv fun _ => ?_))
  refine au_pure ?_ (hy := yl_idx (k := p.toNat) rfl rfl hRt (ix_int rfl (by omega)) (by rfl) (by rw [hm1t]; omega))
  refine au_pure ?_ (hy := yl_loadE rfl rfl hRt (by rfl) (by rw [hm1t]; omega) (by rfl))
  rw [show (m1.tb.getD p.toNat default).v = tbW m p.toNat by rw [hm1t]; rfl]
  (repeat (first | refine zz ?_ | refine zv fun _ => ?_))
  refine au_call rfl rfl (cl_of rfl rfl rfl (fun _ h => Ret.hp (mark_any (tbW m p.toNat) wr _ htw.1 htw.2) h)) ?_
  obtain ⟨mk, hmk⟩ : ∃ k, k = (markR (tbW m p.toNat) wr).1 := ⟨_, rfl⟩
  rw [← hmk] at hmk1 hmk2 e1 ⊢
  have hFe : mkE b.z l1 0 p mk = 0 := by
    unfold mkE
    rw [if_pos (check_ok.2 hO1), if_pos (plc_of (by omega) (by omega)), if_pos (tr_pg hmk1).1]
  obtain ⟨XX, hXX⟩ : ∃ X, X = tlx q1.bs m1.tl := ⟨_, rfl⟩
  obtain ⟨NX, hNX⟩ : ∃ X, X = (SNb q1 m1 ++ SNp q1 m1) ++ cs := ⟨_, rfl⟩
  obtain ⟨T0, hT0⟩ : ∃ T, T = m1.tb := ⟨_, rfl⟩
  have hT0l : p.toNat < T0.length := by rw [hT0, hm1t]; omega
  refine tri_weak (H' := Hp w0 (enC g18 xk xn xa xb' xc xd :: hdC g10 hdN :: hdC g5 (hd q1) :: tlS q1.b XX :: pdS q1.p (q1.ps.map Row.sv) :: u64S q1.t T0 :: lbS q1.l m1.lm :: inS q1.w m1.wd :: NX)) (fun w h => by rw [hNX, hXX, hT0]; exact h) ?_
  have hRt0 : RdH (Hp w0 (enC g18 xk xn xa xb' xc xd :: hdC g10 hdN :: hdC g5 (hd q1) :: tlS q1.b XX :: pdS q1.p (q1.ps.map Row.sv) :: u64S q1.t T0 :: lbS q1.l m1.lm :: inS q1.w m1.wd :: NX)) q1.t.v T0 := rd_chunk ⟨5, rfl⟩
  (repeat (first | refine zz ?_ | refine zv fun _ => ?_))
  refine au_pure ?_ (hy := yl_idx (k := p.toNat) rfl rfl hRt0 (ix_int rfl (by omega)) (by rfl) (by omega))
  refine au_storeE (r := q1.t) (a := (⟨mk⟩ : W64)) rfl rfl rfl rfl ?_
  (repeat (first | refine au_pure ?_ | refine au_pass ?_ | refine au_box (fun _ => ?_) | refine au_alloc (fun _ => ?_) | refine au_store ?_ | refine au_make rfl rfl (fun _ => ?_) | refine au_lit rfl rfl rfl (fun _ => ?_) | refine au_append rfl rfl rfl rfl (fun _ => au_norm ?_) | refine au_storeE rfl rfl rfl rfl ?_)); refine tri_nil ?_; (repeat refine tri_then ?_)
  obtain ⟨TT, hTT⟩ : ∃ T, T = T0.set p.toNat (⟨mk⟩ : W64) := ⟨_, rfl⟩
  rw [← hTT]
  have hXg : XX.getD c default = ⟨b.z, (q1.bs.getD c (Row.nil 0)).sv⟩ := by rw [hXX, tlx_get hq1.hb (by omega), hm1b]
  have hxl : XX.length = m.tl.length := by rw [hXX, tlx_len hq1.hb, hm1l]
  have hXs : ∀ (r : Row) (l : List TE), XX.set c ⟨b.z, r.sv⟩ = tlx (q1.bs.set c r) (setTl m1 c l).tl := fun r l => by
    have := tlx_set q1.bs m1.tl c r ⟨b.z, l⟩
    rw [hXX, this]
    unfold setTl
    rw [hm1b]
  have hE4 : RdH (Hp w0 (enC g18 xk xn xa xb' xc xd :: hdC g10 hdN :: hdC g5 (hd q1) :: tlS q1.b XX :: pdS q1.p (q1.ps.map Row.sv) :: u64S q1.t TT :: lbS q1.l m1.lm :: inS q1.w m1.wd :: NX)) (XX.getD c default).s.v l1 := by
    have hl1' : (tls m1).getD c default = l1 := by rw [tls_get, hm1b]
    rw [hXg, ← hl1']
    refine rd_chunk (r := q1.bs.getD c (Row.nil 0)) (e := 71) (has_mem ?_)
    rw [hNX]
    exact List.mem_cons_of_mem _ (List.mem_cons_of_mem _ (List.mem_cons_of_mem _ (List.mem_cons_of_mem _ (List.mem_cons_of_mem _ (List.mem_cons_of_mem _ (List.mem_cons_of_mem _ (List.mem_cons_of_mem _ (List.mem_append_left _ (List.mem_append_left _ (nestE_mem (by simp [hq1.hb]) (by simp; omega)))))))))))
  have hRb : RdH (Hp w0 (hdC g5 (hd q1) :: tlS q1.b XX :: NX)) q1.b.v XX := rd_chunk ⟨1, rfl⟩
  (repeat (first | refine tri_seq ?_ | refine tri_then ?_))
  refine ar_held [15] (hdC g5 (hd q1) :: tlS q1.b XX :: NX) rfl ?_
  refine ar_free 0 rfl rfl rfl ?_; refine ar_free 2 rfl rfl rfl ?_; refine ar_free 3 rfl rfl rfl ?_; refine ar_free 5 rfl rfl rfl ?_; refine ar_free 8 rfl rfl rfl ?_; refine ar_free 9 rfl rfl rfl ?_
  refine ar_take 1 rfl rfl rfl ?_; refine ar_take 4 rfl rfl rfl ?_
  refine ar_take 6 rfl rfl rfl ?_ (hy := yl_idx (k := c) rfl rfl hRb (ix_nat rfl) (by rfl) (by omega))
  refine ar_take 7 rfl rfl rfl ?_ (hy := yl_loadEN rfl rfl hRb (by rfl) (by omega) (by repeat (first | exact nf0 rfl | apply nfS rfl | exact nfR)) (by rfl))
  rw [show (XX.getD c default).z = b.z by rw [hXg]]
  refine ar_op 10 rfl ?_
  refine au_callC rfl rfl rfl rfl rfl (fill_c w0 _ 0 p mk hE4 hl1 hW1 hmk2.1 hmk2.2) ?_
  intro r2
  rw [hFe, show resZ 0 b.z = b.z from rfl, show resL 0 (mkL b.z l1 (mkX 0 p mk)) = mkL b.z l1 (mkX 0 p mk) from rfl]
  obtain ⟨l2, hl2⟩ : ∃ l, l = mkL b.z l1 (mkX 0 p mk) := ⟨_, rfl⟩
  rw [← hl2] at e1 ⊢
  refine tri_nil ?_; refine ar_in ?_
  refine ar_take 11 rfl rfl rfl ?_; refine ar_take 12 rfl rfl rfl ?_
  refine ar_free 13 rfl rfl rfl ?_
  refine ar_take 14 rfl rfl rfl ?_ (hy := yl_idx (k := c) rfl rfl hRb (ix_nat rfl) (by rfl) (by omega))
  refine ar_op 15 rfl ?_
  refine au_storeE (r := q1.b) (a := (⟨b.z, r2.sv⟩ : TB)) rfl rfl rfl rfl ?_
  refine tri_nil ?_; refine ar_ink ?_
  refine ar_done ?_
  obtain ⟨m3, hm3⟩ : ∃ x, x = ({ (setTl m1 c l2) with tb := TT } : SM) := ⟨_, rfl⟩
  have hq3 : SOk { q1 with bs := q1.bs.set c r2 } m3 := by
    rw [hm3]
    exact ⟨by show (q1.bs.set c r2).length = (m1.tl.set _ _).length; simp [hq1.hb], hq1.hp⟩
  obtain ⟨q3, hq3e⟩ : ∃ x, x = ({ q1 with bs := q1.bs.set c r2 } : SR) := ⟨_, rfl⟩
  have hhd3 : hd q3 = hd q1 := by rw [hq3e]
  refine tri_weak (H' := Hp w0 (enC g18 xk xn xa xb' xc xd :: hdC g10 hdN :: hdC g5 (hd q3) :: (SC q3 m3 ++ cs))) (fun w h => ?_) ?_
  · rw [hhd3]; rw [hNX, hXs r2 l2] at h
    have h2 := replB (e := 71) (rs := q1.bs) (L := tls m1) (i := c) (by simp [hq1.hb]) (by simp; omega) r2 l2 [enC g18 xk xn xa xb' xc xd, hdC g10 hdN, hdC g5 (hd q1), tlS q1.b (tlx (q1.bs.set c r2) (setTl m1 c l2).tl), pdS q1.p (q1.ps.map Row.sv), u64S q1.t TT, lbS q1.l m1.lm, inS q1.w m1.wd] (SNp q1 m1) cs h
    rw [← tls_set] at h2
    rw [hq3e, hm3]
    exact h2
  rw [← hq3e] at hq3
  have hm3w : m3.wd = m.wd := by rw [hm3]; exact hm1w
  have he3 : accM m (c : Int) p wr v = (useM m3 xn wr v, m3.wd.getD xn.toNat default, 0) := by
    rw [e1, hm3w]
    have : m3 = { (setTl m c l2) with tb := m.tb.set p.toNat ⟨mk⟩ } := by
      rw [hm3, hTT, hT0, hm1t, hm1, setTl_twice m c l1 l2 hcl]
    rw [this]
  (repeat (first | refine zz ?_ | refine zv fun _ => ?_))
  refine tri_weak (fun w h => sc_front3 h) ?_
  refine au_callC rfl rfl rfl rfl rfl (use_c w0 _ xn wr v hq3 (by rw [hm3w]; exact hnb) (by rw [hm3w]; exact hL.wd)) (fun _ => ?_)
  refine tri_weak (fun w h => sc_mid3 (X := _ :: _ :: _ :: cs) h (List.Sublist.refl _)) ?_
  (repeat (first | refine zz ?_ | refine zv fun _ => ?_))
  refine au_done3 rfl ?_
  refine fun w hw => good_res3 (q := q3) he3 ?_ hw (by repeat (first | exact List.Sublist.refl _ | assumption | apply List.Sublist.cons_cons | apply List.Sublist.cons))
  unfold useM
  split
  · exact ⟨hq3.hb, hq3.hp⟩
  · exact hq3
end
end Go.Proofs.Ytojfaelafakemaa

/- The walk of the reference of the shootdown machine's Access. No conditions. -/
set_option linter.unusedSimpArgs false
set_option linter.unusedVariables false
namespace Go.Proofs.Ytojfaelafakemaa
open Go Go.RowKit
attribute [local irreducible] decR enOk pgOk teOk ivOk tlOk checkM lbOk formM limM schk lookM markR markQ mkL invL mkX mkE invE
/-- An access as the last steps of Access leave it. -/
structure AccOk (m : SM) (c p : Int) (wr : Bool) (v : Int) (y : SR × SM × Ent) : Prop where
  q : SOk y.1 y.2.1
  n : 0 ≤ y.2.2.n ∧ y.2.2.n < y.2.1.wd.length
  w : y.2.1.wd.length ≤ 9223372036854775807
  e : accM m c p wr v = (useM y.2.1 y.2.2.n wr v, y.2.1.wd.getD y.2.2.n.toNat default, 0)
attribute [local irreducible] Code.wp wpList bodyPost Exit.then Exit.inBlock Calls wpQuiet Tri TriQ
section
variable (w0 : World) (cs : List Chunk)
end
end Go.Proofs.Ytojfaelafakemaa
