/- Texts joined: ShOps4, Seq2, TlbOpsR. Each part's own remark says what it proves. -/
import Derived.Test.YtojfaelafakemaaGreatM24
import Derived.Test.YtojfaelafakemaaGreatM12
import Derived.Test.YtojfaelafakemaaGreatM18
import Derived.Test.YtojfaelafakemaaGreatM07
/- The walks of the shootdown machine: Unmap, Protect. No conditions. -/
set_option linter.unusedSimpArgs false
set_option linter.unusedVariables false
namespace Go.Proofs.YtojfaelafakemaaGreat
open Go Go.RowKit
attribute [local irreducible] decR enOk pgOk teOk ivOk tlOk checkM lbOk formM limM schk lookM
theorem tgt_zero {m : SM} {p : Int} (h : tgtE m p = 0) : Vl m ∧ (0 ≤ p ∧ p < m.tb.length) ∧ pgOk m.wd.length (tbW m p.toNat) = true := by
  unfold tgtE at h
  split at h
  · rename_i h1; exact absurd h h1
  · rename_i h1
    split at h
    · cases h
    · rename_i h2
      split at h
      · cases h
      · rename_i h3
        exact ⟨schk_zero.1 (by omega), isP_iff.1 (by simpa using h2), by simpa using h3⟩
theorem ntf_tb (m : SM) (T : List W64) (p : Int) : ∀ k, ntfM { m with tb := T } p k = ntfM m p k
  | 0 => rfl
  | k + 1 => by
    unfold ntfM
    rw [ntf_tb m T p k]
    rfl
theorem SLe.setTb {m : SM} (h : SLe m) (i : Nat) {v : Int} (hv : 0 ≤ v ∧ v < 18446744073709551616) : SLe { m with tb := m.tb.set i ⟨v⟩ } :=
  ⟨by simpa using h.tb, h.tl, h.te, h.pd, h.pe, h.lm, h.wd, fun j => by
    show 0 ≤ ((m.tb.set i ⟨v⟩).getD j default).v ∧ _
    rcases Nat.lt_or_ge i m.tb.length with hi | hi
    · rw [gd_set hi]
      by_cases e : i = j
      · rw [if_pos e]; exact hv
      · rw [if_neg e]; exact h.tw j
    · rw [List.set_eq_of_length_le hi]; exact h.tw j, h.ew⟩
theorem enc_bd (k n : Int) (a b c d : Bool) : 0 ≤ (encS k n a b c d).1 ∧ (encS k n a b c d).1 < 18446744073709551616 := enc_err (v := (encS k n a b c d).1) (u := (encS k n a b c d).2) rfl
theorem sc_front3 {w0 w : World} {q : SR} {m : SM} {A B C : Chunk} {cs : List Chunk} (h : Hp w0 (A :: B :: C :: (SC q m ++ cs)) w) : Hp w0 (SC q m ++ (A :: B :: C :: cs)) w :=
  HpM.perm h ((List.perm_middle.trans (List.Perm.cons _ (List.perm_middle.trans (List.Perm.cons _ List.perm_middle)))).symm)
attribute [local irreducible] Code.wp wpList bodyPost Exit.then Exit.inBlock Calls wpQuiet Tri TriQ
section
variable (w0 : World) (cs : List Chunk)
set_option maxHeartbeats 2000000 in
theorem unmap_c {h : SH} {xb : List TB} {xp : List SV} {m : SM} (p : Int) (hC : RdS (Hp w0 cs) h xb xp m) (hL : SLe m) (hpe : ∀ i, (m.pd.getD i default).length ≤ 1000000) :
    Cal Tryz.prog 29 [hdV h, .int .i64 p] (Hp w0 cs) (fun q : {q : SR // SOk q (unmapM m p).1} => .tuple #[hdV (hd q.1), .int .i64 (unmapM m p).2]) (fun q => Hp w0 (SC q.1 (unmapM m p).1 ++ cs)) := by
  refine cal_of_tri Tryz.func29 rfl Tryz.ntmps29 rfl ?_
  (repeat (first | refine tri_seq ?_ | refine tri_then ?_)); refine tri_region ?_; (repeat (first | refine au_pure ?_ | refine au_pass ?_ | refine au_box (fun _ => ?_) | refine au_alloc (fun _ => ?_) | refine au_store ?_ | refine au_make rfl rfl (fun _ => ?_) | refine au_lit rfl rfl rfl (fun _ => ?_) | refine au_append rfl rfl rfl rfl (fun _ => au_norm ?_) | refine au_storeE rfl rfl rfl rfl ?_)); refine tri_nil ?_; (repeat refine tri_then ?_)
  rename_i g2 g4
  have hC1 := hC.cons (c := hdC g2 h) |>.cons (c := hdC g4 hdN)
  refine tri_weak (H' := Hp w0 (hdC g4 hdN :: hdC g2 h :: cs)) (fun w h => h) ?_
  (repeat (first | refine zz ?_ | refine zv fun _ => ?_))
  refine au_callC rfl rfl rfl rfl rfl (target_c w0 _ p hC1 hL) (fun _ => ?_)
  by_cases h1 : tgtE m p = 0
  case neg =>
    rw [if_neg h1]
    (repeat (first | refine zz ?_ | refine zv fun _ => ?_))
    rw [show (tgtE m p != 0) = true by simpa using h1]
    (repeat (first | refine zz ?_ | refine zv fun _ => ?_))
    refine au_done2 rfl ?_
    exact fun w hw => zero_res hw (by unfold unmapM; rw [if_pos h1]) (by repeat (first | exact List.Sublist.refl _ | assumption | apply List.Sublist.cons_cons | apply List.Sublist.cons))
  rw [if_pos h1]
  obtain ⟨hV, hp, hpg⟩ := tgt_zero h1
  have hr := hV.r
  have e1 : unmapM m p = ({ m with tb := m.tb.set p.toNat ⟨0⟩, pd := (ntfM m p m.tl.length).1, lm := if (ntfM m p m.tl.length).2 = 0 then m.lm else m.lm ++ [⟨(tgtX m p).n, (ntfM m p m.tl.length).2⟩] }, 0) := by unfold unmapM; rw [if_neg fun x => x h1]
  obtain ⟨x, hx⟩ : ∃ x, x = tgtX m p := ⟨_, rfl⟩
  rw [← hx] at e1 ⊢
  (repeat (first | refine zz ?_ | refine zv fun _ => ?_))
  rw [show (tgtE m p != 0) = false by simpa using h1]
  rename_i g6
  have hC2 := hC1.cons (c := enE g6 x)
  (repeat (first | refine zz ?_ | refine zv fun _ => ?_))
  refine au_callC rfl rfl rfl rfl rfl (own_c w0 _ hC2 hr.2.2.1 (by omega) (by have := hV.lml; omega) (fun i => by have := hV.tel i; omega) hpe) ?_
  rintro ⟨q, hq⟩
  refine tri_weak (H' := Hp w0 (enE g6 x :: hdC g4 hdN :: hdC g2 h :: (SC q m ++ cs))) (fun w h => sc_mid3 (X := _ :: _ :: _ :: cs) h (List.Sublist.refl _)) ?_
  (repeat (first | refine au_pure ?_ | refine au_pass ?_ | refine au_box (fun _ => ?_) | refine au_alloc (fun _ => ?_) | refine au_store ?_ | refine au_make rfl rfl (fun _ => ?_) | refine au_lit rfl rfl rfl (fun _ => ?_) | refine au_append rfl rfl rfl rfl (fun _ => au_norm ?_) | refine au_storeE rfl rfl rfl rfl ?_)); refine tri_nil ?_; (repeat refine tri_then ?_)
  obtain ⟨NX, hNX⟩ : ∃ X, X = (SNb q m ++ SNp q m) ++ cs := ⟨_, rfl⟩
  have hRt : RdH (Hp w0 (hdC g2 (hd q) :: u64S q.t m.tb :: NX)) q.t.v m.tb := rd_chunk ⟨1, rfl⟩
  refine tri_weak (H' := Hp w0 (enE g6 x :: hdC g4 hdN :: hdC g2 (hd q) :: tlS q.b (tlx q.bs m.tl) :: pdS q.p (q.ps.map Row.sv) :: u64S q.t m.tb :: lbS q.l m.lm :: inS q.w m.wd :: NX)) (fun w h => by rw [hNX]; exact h) ?_
  (repeat (first | refine tri_seq ?_ | refine tri_then ?_))
  refine ar_held [6] (hdC g2 (hd q) :: u64S q.t m.tb :: NX) rfl ?_
  refine ar_free 0 rfl rfl rfl ?_; refine ar_free 2 rfl rfl rfl ?_
  refine ar_take 1 rfl rfl rfl ?_; refine ar_take 3 rfl rfl rfl ?_
  refine ar_op 4 rfl ?_
  refine au_callC rfl rfl rfl rfl rfl (word_c w0 _ 0 0 false false false false) (fun _ => ?_)
  refine tri_nil ?_; refine ar_in ?_
  refine ar_take 5 rfl rfl rfl ?_ (hy := yl_idx (k := p.toNat) rfl rfl hRt (ix_int rfl (by omega)) (by rfl) (by omega))
  refine ar_op 6 rfl ?_
  refine au_storeE (r := q.t) (a := (⟨(encS 0 0 false false false false).1⟩ : W64)) rfl rfl rfl rfl ?_
  refine tri_nil ?_; refine ar_ink ?_
  refine ar_done ?_
  rw [show (encS 0 0 false false false false).1 = 0 from by decide]
  refine tri_weak (H' := Hp w0 (enE g6 x :: hdC g4 hdN :: hdC g2 (hd q) :: (SC q { m with tb := m.tb.set p.toNat ⟨0⟩ } ++ cs))) (fun w h => by rw [hNX] at h; exact h) ?_
  (repeat (first | refine zz ?_ | refine zv fun _ => ?_))
  refine tri_weak (H' := Hp w0 (SC q { m with tb := m.tb.set p.toNat ⟨0⟩ } ++ (enE g6 x :: hdC g4 hdN :: hdC g2 (hd q) :: cs))) (fun w h => sc_front3 h) ?_
  have hq1 : SOk q { m with tb := m.tb.set p.toNat ⟨0⟩ } := ⟨hq.hb, hq.hp⟩
  refine au_callC rfl rfl rfl rfl rfl (notify_c w0 _ p hq1 (hL.setTb p.toNat ⟨by decide, by decide⟩) hr.2.2.1 hr.2.1 hpe) ?_
  rintro ⟨ps, hps⟩
  rw [ntf_tb]
  have hnl := ntf_len (m := m) (p := p) m.tl.length
  obtain ⟨PD, hPD⟩ : ∃ P, P = (ntfM m p m.tl.length).1 := ⟨_, rfl⟩
  obtain ⟨mk, hmk⟩ : ∃ k, k = (ntfM m p m.tl.length).2 := ⟨_, rfl⟩
  rw [← hPD] at e1 hnl ⊢
  rw [← hmk] at e1 ⊢
  have hq2 : ∀ (T : List W64) (L : List LB) (r2 : Row), SOk { q with ps := ps, l := r2 } { m with tb := T, pd := PD, lm := L } := fun _ _ _ => ⟨hq.hb, by show ps.length = PD.length; rw [hps, hnl]⟩
  refine tri_weak (H' := Hp w0 (enE g6 x :: hdC g4 hdN :: hdC g2 (hd q) :: (SC { q with ps := ps } { m with tb := m.tb.set p.toNat ⟨0⟩, pd := PD } ++ cs))) (fun w h => sc_mid3 (X := _ :: _ :: _ :: cs) h (List.Sublist.refl _)) ?_
  (repeat (first | refine zz ?_ | refine zv fun _ => ?_))
  have hml := hV.lml
  cases h3 : (mk != 0)
  · have h3 : mk = 0 := by simpa using h3
    rw [if_pos h3] at e1
    (repeat (first | refine zz ?_ | refine zv fun _ => ?_))
    refine au_done2 rfl ?_
    exact fun w hw => good_res (q := { q with ps := ps }) e1 (hq2 _ _ q.l) hw (by repeat (first | exact List.Sublist.refl _ | assumption | apply List.Sublist.cons_cons | apply List.Sublist.cons))
  · have h3 := bne_iff_ne.1 h3
    rw [if_neg h3] at e1
    (repeat (first | refine zz ?_ | refine zv fun _ => ?_))
    refine au_lit (l := ([⟨x.n, mk⟩] : List LB)) rfl rfl rfl (fun r1 => ?_)
    refine au_append (r := q.l) (l2 := ([⟨x.n, mk⟩] : List LB)) rfl rfl rfl rfl (fun r2 => au_norm ?_) (h2 := rd_chunk ⟨0, rfl⟩) (hb := by show m.lm.length + 1 ≤ _; omega)
    (repeat (first | refine zz ?_ | refine zv fun _ => ?_))
    refine au_done2 rfl ?_
    exact fun w hw => good_res (q := { q with ps := ps, l := r2 }) e1 (hq2 _ _ r2) hw (by repeat (first | exact List.Sublist.refl _ | assumption | apply List.Sublist.cons_cons | apply List.Sublist.cons))
set_option maxHeartbeats 2000000 in
theorem protect_c {h : SH} {xb : List TB} {xp : List SV} {m : SM} (p : Int) (hC : RdS (Hp w0 cs) h xb xp m) (hL : SLe m) (hpe : ∀ i, (m.pd.getD i default).length ≤ 1000000) :
    Cal Tryz.prog 30 [hdV h, .int .i64 p] (Hp w0 cs) (fun q : {q : SR // SOk q (protM m p).1} => .tuple #[hdV (hd q.1), .int .i64 (protM m p).2]) (fun q => Hp w0 (SC q.1 (protM m p).1 ++ cs)) := by
  refine cal_of_tri Tryz.func30 rfl Tryz.ntmps30 rfl ?_
  (repeat (first | refine tri_seq ?_ | refine tri_then ?_)); refine tri_region ?_; (repeat (first | refine au_pure ?_ | refine au_pass ?_ | refine au_box (fun _ => ?_) | refine au_alloc (fun _ => ?_) | refine au_store ?_ | refine au_make rfl rfl (fun _ => ?_) | refine au_lit rfl rfl rfl (fun _ => ?_) | refine au_append rfl rfl rfl rfl (fun _ => au_norm ?_) | refine au_storeE rfl rfl rfl rfl ?_)); refine tri_nil ?_; (repeat refine tri_then ?_)
  rename_i g2 g4
  have hC1 := hC.cons (c := hdC g2 h) |>.cons (c := hdC g4 hdN)
  refine tri_weak (H' := Hp w0 (hdC g4 hdN :: hdC g2 h :: cs)) (fun w h => h) ?_
  (repeat (first | refine zz ?_ | refine zv fun _ => ?_))
  refine au_callC rfl rfl rfl rfl rfl (target_c w0 _ p hC1 hL) (fun _ => ?_)
  by_cases h1 : tgtE m p = 0
  case neg =>
    rw [if_neg h1]
    (repeat (first | refine zz ?_ | refine zv fun _ => ?_))
    rw [show (tgtE m p != 0) = true by simpa using h1]
    (repeat (first | refine zz ?_ | refine zv fun _ => ?_))
    refine au_done2 rfl ?_
    exact fun w hw => zero_res hw (by unfold protM; rw [if_pos h1]) (by repeat (first | exact List.Sublist.refl _ | assumption | apply List.Sublist.cons_cons | apply List.Sublist.cons))
  rw [if_pos h1]
  obtain ⟨hV, hp, hpg⟩ := tgt_zero h1
  have hr := hV.r
  have e1 : protM m p = if (tgtX m p).a = true then
    ({ m with tb := m.tb.set p.toNat ⟨wordM ⟨(tgtX m p).k, (tgtX m p).n, false, (tgtX m p).b, (tgtX m p).c, (tgtX m p).d⟩⟩, pd := (ntfM m p m.tl.length).1 }, 0) else (m, 0) := by unfold protM; rw [if_neg fun x => x h1]
  obtain ⟨x, hx⟩ : ∃ x, x = tgtX m p := ⟨_, rfl⟩
  rw [← hx] at e1 ⊢
  obtain ⟨xk, xn, xa, xb', xc, xd⟩ := x
  simp only at e1
  (repeat (first | refine zz ?_ | refine zv fun _ => ?_))
  rw [show (tgtE m p != 0) = false by simpa using h1]
  rename_i g6
  have hC2 := hC1.cons (c := enC g6 xk xn xa xb' xc xd)
  (repeat (first | refine zz ?_ | refine zv fun _ => ?_))
  refine au_callC rfl rfl rfl rfl rfl (own_c w0 _ hC2 hr.2.2.1 (by omega) (by have := hV.lml; omega) (fun i => by have := hV.tel i; omega) hpe) ?_
  rintro ⟨q, hq⟩
  refine tri_weak (H' := Hp w0 (enC g6 xk xn xa xb' xc xd :: hdC g4 hdN :: hdC g2 h :: (SC q m ++ cs))) (fun w h => sc_mid3 (X := _ :: _ :: _ :: cs) h (List.Sublist.refl _)) ?_
  cases xa with
  | false =>
    rw [if_neg (by simp)] at e1
    (repeat (first | refine zz ?_ | refine zv fun _ => ?_))
    refine au_done2 rfl ?_
    exact fun w hw => good_res e1 hq hw (by repeat (first | exact List.Sublist.refl _ | assumption | apply List.Sublist.cons_cons | apply List.Sublist.cons))
  | true =>
    rw [if_pos rfl] at e1
    obtain ⟨NX, hNX⟩ : ∃ X, X = (SNb q m ++ SNp q m) ++ cs := ⟨_, rfl⟩
    have hRt : RdH (Hp w0 (enC g6 xk xn false xb' xc xd :: hdC g2 (hd q) :: u64S q.t m.tb :: NX)) q.t.v m.tb := rd_chunk ⟨2, rfl⟩
    refine tri_weak (H' := Hp w0 (enC g6 xk xn true xb' xc xd :: hdC g4 hdN :: hdC g2 h :: tlS q.b (tlx q.bs m.tl) :: pdS q.p (q.ps.map Row.sv) :: u64S q.t m.tb :: lbS q.l m.lm :: inS q.w m.wd :: NX)) (fun w h => by rw [hNX]; exact h) ?_
    (repeat (first | refine zz ?_ | refine zv fun _ => ?_))
    (repeat (first | refine tri_seq ?_ | refine tri_then ?_))
    refine ar_held [6] (enC g6 xk xn false xb' xc xd :: hdC g2 (hd q) :: u64S q.t m.tb :: NX) rfl ?_
    refine ar_free 0 rfl rfl rfl ?_; refine ar_free 2 rfl rfl rfl ?_
    refine ar_take 1 rfl rfl rfl ?_; refine ar_take 3 rfl rfl rfl ?_
    refine ar_op 4 rfl ?_
    refine au_callC rfl rfl rfl rfl rfl (word_c w0 _ xk xn false xb' xc xd) (fun _ => ?_)
    refine tri_nil ?_; refine ar_in ?_
    refine ar_take 5 rfl rfl rfl ?_ (hy := yl_idx (k := p.toNat) rfl rfl hRt (ix_int rfl (by omega)) (by rfl) (by omega))
    refine ar_op 6 rfl ?_
    refine au_storeE (r := q.t) (a := (⟨(encS xk xn false xb' xc xd).1⟩ : W64)) rfl rfl rfl rfl ?_
    refine tri_nil ?_; refine ar_ink ?_
    refine ar_done ?_
    have hbd := enc_bd xk xn false xb' xc xd
    obtain ⟨v, hv⟩ : ∃ v, v = (encS xk xn false xb' xc xd).1 := ⟨_, rfl⟩
    rw [← hv] at hbd ⊢
    rw [show wordM ⟨xk, xn, false, xb', xc, xd⟩ = v from hv.symm] at e1
    refine tri_weak (H' := Hp w0 (enC g6 xk xn false xb' xc xd :: hdC g4 hdN :: hdC g2 (hd q) :: (SC q { m with tb := m.tb.set p.toNat ⟨v⟩ } ++ cs))) (fun w h => by rw [hNX] at h; exact h) ?_
    (repeat (first | refine zz ?_ | refine zv fun _ => ?_))
    refine tri_weak (H' := Hp w0 (SC q { m with tb := m.tb.set p.toNat ⟨v⟩ } ++ (enC g6 xk xn false xb' xc xd :: hdC g4 hdN :: hdC g2 (hd q) :: cs))) (fun w h => sc_front3 h) ?_
    have hq1 : SOk q { m with tb := m.tb.set p.toNat ⟨v⟩ } := ⟨hq.hb, hq.hp⟩
    refine au_callC rfl rfl rfl rfl rfl (notify_c w0 _ p hq1 (hL.setTb p.toNat hbd) hr.2.2.1 hr.2.1 hpe) ?_
    rintro ⟨ps, hps⟩
    rw [ntf_tb]
    have hnl := ntf_len (m := m) (p := p) m.tl.length
    obtain ⟨PD, hPD⟩ : ∃ P, P = (ntfM m p m.tl.length).1 := ⟨_, rfl⟩
    rw [← hPD] at e1 hnl ⊢
    refine tri_weak (H' := Hp w0 (enC g6 xk xn false xb' xc xd :: hdC g4 hdN :: hdC g2 (hd q) :: (SC { q with ps := ps } { m with tb := m.tb.set p.toNat ⟨v⟩, pd := PD } ++ cs))) (fun w h => sc_mid3 (X := _ :: _ :: _ :: cs) h (List.Sublist.refl _)) ?_
    (repeat (first | refine zz ?_ | refine zv fun _ => ?_))
    refine au_done2 rfl ?_
    exact fun w hw => good_res (q := { q with ps := ps }) e1 ⟨hq.hb, by show ps.length = PD.length; rw [hps, hnl]⟩ hw (by repeat (first | exact List.Sublist.refl _ | assumption | apply List.Sublist.cons_cons | apply List.Sublist.cons))
end
end Go.Proofs.YtojfaelafakemaaGreat

/- A region that draws its order, when two of its operations may come up. No conditions. -/
set_option linter.unusedSimpArgs false
set_option linter.unusedVariables false
namespace Go.Proofs.YtojfaelafakemaaGreat
open Go Go.RowKit
section
variable {M : List Nat} {P : Program} {n d : Nat} {Q : Exit → Act → World → Prop} {F : Act → World → Prop} {l : List Oper} {E : Env} {w0 : World} {cs cs0 : List Chunk} {fuel : Nat} {listed : Array Bool} {S : World → Prop}
theorem wpop_of {i : Nat} {o : Oper} (hi : l[i]? = some o) {a : Act} {w : World} (h : wpList P l.toArray (Exit.then (fun a w => S w ∧ wpAnyH P .any l.toArray (Exit.then F NoQ) S fuel (listed.setIfInBounds i true) a w) NoQ) [o] a w) :
    wpOp P l.toArray (Exit.then F NoQ) i (fun a' w' => S w' ∧ wpAnyH P .any l.toArray (Exit.then F NoQ) S fuel (listed.setIfInBounds i true) a' w') a w := by
  have hi' : l.toArray[i]? = some o := by simpa using hi
  unfold wpList at h
  unfold wpOp
  rw [hi']
  simp only
  by_cases hw : Region.wanted o (yielded l.toArray a.tmps) = true
  · rw [if_pos hw] at h ⊢
    rcases h with h | ⟨_, a', w', h⟩
    · left
      have e : wpList P l.toArray (Exit.then (fun a w => S w ∧ wpAnyH P .any l.toArray (Exit.then F NoQ) S fuel (listed.setIfInBounds i true) a w) NoQ) [] = fun a w => S w ∧ wpAnyH P .any l.toArray (Exit.then F NoQ) S fuel (listed.setIfInBounds i true) a w := by
        funext a w; rfl
      rw [e] at h
      unfold Oper.wp at h ⊢
      unfold Oper.upon at h ⊢
      split at h <;> exact h
    · exact h.elim
  · rw [if_neg hw] at h ⊢
    exact h
theorem ap_op2 [Dl] (i j : Nat) {oi oj : Oper} (hi : l[i]? = some oi) (hj : l[j]? = some oj)
    (ki : Tri n (wpList P l.toArray (Exit.then (fun a w => HpM M w0 cs0 w ∧ wpAnyH P .any l.toArray (Exit.then F NoQ) (HpM M w0 cs0) fuel (listed.setIfInBounds i true) a w) NoQ) [oi]) E (HpM M w0 cs))
    (kj : Tri n (wpList P l.toArray (Exit.then (fun a w => HpM M w0 cs0 w ∧ wpAnyH P .any l.toArray (Exit.then F NoQ) (HpM M w0 cs0) fuel (listed.setIfInBounds j true) a w) NoQ) [oj]) E (HpM M w0 cs))
    (hr : Region.ready .any l.toArray listed = [i, j] := by kernel_rfl) : TH P n l (HpM M w0 cs0) (fuel + 1) listed F E (HpM M w0 cs) := fun a w h1 h2 => by
  refine wpAnyH_all hr (by simp) fun k hk => ?_
  have : k = i ∨ k = j := by simpa using hk
  rcases this with rfl | rfl
  · exact wpop_of hi (ki a w h1 h2)
  · exact wpop_of hj (kj a w h1 h2)
end
end Go.Proofs.YtojfaelafakemaaGreat

/- The walks of the reference's Fill, Invalidate and Flush, of Same. No conditions. -/
set_option linter.unusedSimpArgs false
set_option linter.unusedVariables false
namespace Go.Proofs.YtojfaelafakemaaGreat
open Go Go.RowKit
attribute [local irreducible] Code.wp wpList bodyPost Exit.then Exit.inBlock Calls wpQuiet Tri TriQ
section
variable (w0 : World) (cs : List Chunk)
set_option maxHeartbeats 4000000 in
theorem rfill_c {z : Int} {v : Value} {l : List TE} (s p u : Int) (hR : RdH (Hp w0 cs) v l) (hlen : l.length ≤ 9223372036854775807) (hw : ∀ x ∈ l, Wf x) (hu0 : 0 ≤ u) (hu1 : u < 18446744073709551616) :
    Cal Tryz.prog 70 [tlbV z v, .int .i64 s, .int .i64 p, .int .u64 u] (Hp w0 cs) (fun r : Row => .tuple #[tlbV (resZ (mkE z l s p u) z) r.v, .int .i64 (mkE z l s p u)]) (fun r => Hp w0 (teS r (resL (mkE z l s p u) (mkL z l (mkX s p u))) :: cs)) := by
  refine cal_of_tri Tryz.func70 rfl Tryz.ntmps70 rfl ?_
  (repeat (first | refine au_pure ?_ | refine au_pass ?_ | refine au_box (fun _ => ?_) | refine au_alloc (fun _ => ?_) | refine au_store ?_ | refine au_make rfl rfl (fun _ => ?_) | refine au_lit rfl rfl rfl (fun _ => ?_) | refine au_append rfl rfl rfl rfl (fun _ => au_norm ?_) | refine au_storeE rfl rfl rfl rfl ?_ | refine tri_seq ?_ | refine tri_then ?_ | refine tri_region ?_ | refine tri_nil ?_ | refine tri_skip ?_ | refine tri_ret ?_ | refine tri_exit ?_ | refine tri_thenr ?_ | refine tri_thene ?_ | refine tri_blkn ?_ | refine tri_blkr ?_ | refine tri_blke ?_ | refine tri_blko (by rfl) ?_ | refine tri_if_t (by rfl) ?_ | refine tri_if_f (by rfl) ?_ | fail))
  rename_i g4 g8
  refine au_callC rfl rfl rfl rfl rfl (rcheck_c w0 _ (l := l) (by repeat (first | assumption | exact rd_chunk (by first | (apply has_at; (repeat (first | exact at0 | apply atS)); done) | (repeat (first | assumption | apply has_cons))) | apply RdH.cons | refine RdH.cut ?_ rfl (by omega) (by omega))) hlen hw) (fun _ => ?_)
  (repeat' (first | refine au_pure ?_ | refine au_pass ?_ | refine au_box (fun _ => ?_) | refine au_alloc (fun _ => ?_) | refine au_store ?_ | refine au_make rfl rfl (fun _ => ?_) | refine au_lit rfl rfl rfl (fun _ => ?_) | refine au_append rfl rfl rfl rfl (fun _ => au_norm ?_) | refine au_storeE rfl rfl rfl rfl ?_ | refine tri_seq ?_ | refine tri_then ?_ | refine tri_region ?_ | refine tri_nil ?_ | refine tri_skip ?_ | refine tri_ret ?_ | refine tri_exit ?_ | refine tri_thenr ?_ | refine tri_thene ?_ | refine tri_blkn ?_ | refine tri_blkr ?_ | refine tri_blke ?_ | refine tri_blko (by rfl) ?_ | refine tri_if_t (by rfl) ?_ | refine tri_if_f (by rfl) ?_ | ((first | refine tri_cond (by rfl) (fun hc => ?_) (fun hc => ?_) | refine tri_gsplit (by rfl) (by rfl) (by (fail_if_success exact (rfl : _ = some (Value.bool true))); (fail_if_success exact (rfl : _ = some (Value.bool false))); rfl) (fun hc => ?_) (fun hc => ?_)) <;> (try simp only [decide_eq_true_eq, decide_eq_false_iff_not, beq_iff_eq, bne_iff_ne, ne_eq, Bool.not_eq_true', Bool.not_eq_false', beq_eq_false_iff_ne, bne_eq_false_iff_eq, Int.not_lt, Int.not_le, gt_iff_lt, ge_iff_le, Bool.and_eq_true, Bool.or_eq_true, Bool.and_eq_false_iff, Bool.or_eq_false_iff, Decidable.not_not, not_true_eq_false, not_false_eq_true, and_true, true_and, or_false, false_or, or_true, true_or, and_false, false_and, eq_self, Bool.true_eq_false, Bool.false_eq_true] at hc) <;> (try (exfalso; omega))) | fail))
  · have hne : ¬ checkM z l = 0 := by assumption
    have he : mkE z l s p u = checkM z l := by unfold mkE; rw [if_neg hne]
    refine tri_nilrow TE 72 ?_
    refine au_done2 rfl ?_
    intro w hw
    refine ⟨Row.nil w0.heap.size, ?_, ?_⟩
    · rw [he, resZ, if_neg hne]; rfl
    · rw [he, resL, if_neg hne]; exact hw.sub (by repeat (first | exact List.Sublist.refl _ | assumption | apply List.Sublist.cons_cons | apply List.Sublist.cons))
  have hok : checkM z l = 0 := by assumption
  have hO := check_ok.1 hok
  have hvd := hO.v
  have hz := hO.z
  have hln := hO.n
  have he2 : ¬ (spR s = true ∧ pgR p = true) → mkE z l s p u = 2 := fun h => by
    have hp : plcM s p = 2 := if_neg h
    unfold mkE; rw [if_pos hok, hp]; rfl
  refine au_call rfl rfl (cl_of rfl rfl rfl (fun _ h => Ret.hp (space_any _ _) h)) ?_
  (repeat' (first | refine au_pure ?_ | refine au_pass ?_ | refine au_box (fun _ => ?_) | refine au_alloc (fun _ => ?_) | refine au_store ?_ | refine au_make rfl rfl (fun _ => ?_) | refine au_lit rfl rfl rfl (fun _ => ?_) | refine au_append rfl rfl rfl rfl (fun _ => au_norm ?_) | refine au_storeE rfl rfl rfl rfl ?_ | refine tri_seq ?_ | refine tri_then ?_ | refine tri_region ?_ | refine tri_nil ?_ | refine tri_skip ?_ | refine tri_ret ?_ | refine tri_exit ?_ | refine tri_thenr ?_ | refine tri_thene ?_ | refine tri_blkn ?_ | refine tri_blkr ?_ | refine tri_blke ?_ | refine tri_blko (by rfl) ?_ | refine tri_if_t (by rfl) ?_ | refine tri_if_f (by rfl) ?_ | ((first | refine tri_cond (by rfl) (fun hc => ?_) (fun hc => ?_) | refine tri_gsplit (by rfl) (by rfl) (by (fail_if_success exact (rfl : _ = some (Value.bool true))); (fail_if_success exact (rfl : _ = some (Value.bool false))); rfl) (fun hc => ?_) (fun hc => ?_)) <;> (try simp only [decide_eq_true_eq, decide_eq_false_iff_not, beq_iff_eq, bne_iff_ne, ne_eq, Bool.not_eq_true', Bool.not_eq_false', beq_eq_false_iff_ne, bne_eq_false_iff_eq, Int.not_lt, Int.not_le, gt_iff_lt, ge_iff_le, Bool.and_eq_true, Bool.or_eq_true, Bool.and_eq_false_iff, Bool.or_eq_false_iff, Decidable.not_not, not_true_eq_false, not_false_eq_true, and_true, true_and, or_false, false_or, or_true, true_or, and_false, false_and, eq_self, Bool.true_eq_false, Bool.false_eq_true] at hc) <;> (try (exfalso; omega))) | fail))
  · have he := he2 (fun h => by have := h.1; simp_all)
    refine tri_nilrow TE 72 ?_
    refine au_done2 rfl ?_
    intro w hw
    refine ⟨Row.nil w0.heap.size, ?_, ?_⟩
    · rw [he]; rfl
    · rw [he]; exact hw.sub (by repeat (first | exact List.Sublist.refl _ | assumption | apply List.Sublist.cons_cons | apply List.Sublist.cons))
  have hsp : spR s = true := by assumption
  refine au_call rfl rfl (cl_of rfl rfl rfl (fun _ h => Ret.hp (page_any _ _) h)) ?_
  (repeat' (first | refine au_pure ?_ | refine au_pass ?_ | refine au_box (fun _ => ?_) | refine au_alloc (fun _ => ?_) | refine au_store ?_ | refine au_make rfl rfl (fun _ => ?_) | refine au_lit rfl rfl rfl (fun _ => ?_) | refine au_append rfl rfl rfl rfl (fun _ => au_norm ?_) | refine au_storeE rfl rfl rfl rfl ?_ | refine tri_seq ?_ | refine tri_then ?_ | refine tri_region ?_ | refine tri_nil ?_ | refine tri_skip ?_ | refine tri_ret ?_ | refine tri_exit ?_ | refine tri_thenr ?_ | refine tri_thene ?_ | refine tri_blkn ?_ | refine tri_blkr ?_ | refine tri_blke ?_ | refine tri_blko (by rfl) ?_ | refine tri_if_t (by rfl) ?_ | refine tri_if_f (by rfl) ?_ | ((first | refine tri_cond (by rfl) (fun hc => ?_) (fun hc => ?_) | refine tri_gsplit (by rfl) (by rfl) (by (fail_if_success exact (rfl : _ = some (Value.bool true))); (fail_if_success exact (rfl : _ = some (Value.bool false))); rfl) (fun hc => ?_) (fun hc => ?_)) <;> (try simp only [decide_eq_true_eq, decide_eq_false_iff_not, beq_iff_eq, bne_iff_ne, ne_eq, Bool.not_eq_true', Bool.not_eq_false', beq_eq_false_iff_ne, bne_eq_false_iff_eq, Int.not_lt, Int.not_le, gt_iff_lt, ge_iff_le, Bool.and_eq_true, Bool.or_eq_true, Bool.and_eq_false_iff, Bool.or_eq_false_iff, Decidable.not_not, not_true_eq_false, not_false_eq_true, and_true, true_and, or_false, false_or, or_true, true_or, and_false, false_and, eq_self, Bool.true_eq_false, Bool.false_eq_true] at hc) <;> (try (exfalso; omega))) | fail))
  · have he := he2 (fun h => by have := h.2; simp_all)
    refine tri_nilrow TE 72 ?_
    refine au_done2 rfl ?_
    intro w hw
    refine ⟨Row.nil w0.heap.size, ?_, ?_⟩
    · rw [he]; rfl
    · rw [he]; exact hw.sub (by repeat (first | exact List.Sublist.refl _ | assumption | apply List.Sublist.cons_cons | apply List.Sublist.cons))
  have hpp : pgR p = true := by assumption
  have hpl : plcM s p = 0 := if_pos ⟨hsp, hpp⟩
  obtain ⟨hs8, hp8⟩ := plc_ok hpl
  refine au_call rfl rfl (cl_of rfl rfl rfl (fun _ h => Ret.hp (rtrans_any _ _ hu0 hu1) h)) ?_
  cases ht : tr u
  · have he : mkE z l s p u = 3 := by unfold mkE; rw [if_pos hok, if_pos hpl, ht]; rfl
    (repeat (first | refine au_pure ?_ | refine au_pass ?_ | refine au_box (fun _ => ?_) | refine au_alloc (fun _ => ?_) | refine au_store ?_ | refine au_make rfl rfl (fun _ => ?_) | refine au_lit rfl rfl rfl (fun _ => ?_) | refine au_append rfl rfl rfl rfl (fun _ => au_norm ?_) | refine au_storeE rfl rfl rfl rfl ?_ | refine tri_seq ?_ | refine tri_then ?_ | refine tri_region ?_ | refine tri_nil ?_ | refine tri_skip ?_ | refine tri_ret ?_ | refine tri_exit ?_ | refine tri_thenr ?_ | refine tri_thene ?_ | refine tri_blkn ?_ | refine tri_blkr ?_ | refine tri_blke ?_ | refine tri_blko (by rfl) ?_ | refine tri_if_t (by rfl) ?_ | refine tri_if_f (by rfl) ?_ | fail))
    refine tri_nilrow TE 72 ?_
    refine au_done2 rfl ?_
    intro w hw
    refine ⟨Row.nil w0.heap.size, ?_, ?_⟩
    · rw [he]; rfl
    · rw [he]; exact hw.sub (by repeat (first | exact List.Sublist.refl _ | assumption | apply List.Sublist.cons_cons | apply List.Sublist.cons))
  have he : mkE z l s p u = 0 := by unfold mkE; rw [if_pos hok, if_pos hpl, ht]; rfl
  have hxd := mkX_vd hpl ht
  have hxp := hxd.p
  (repeat (first | refine au_pure ?_ | refine au_pass ?_ | refine au_box (fun _ => ?_) | refine au_alloc (fun _ => ?_) | refine au_store ?_ | refine au_make rfl rfl (fun _ => ?_) | refine au_lit rfl rfl rfl (fun _ => ?_) | refine au_append rfl rfl rfl rfl (fun _ => au_norm ?_) | refine au_storeE rfl rfl rfl rfl ?_ | refine tri_seq ?_ | refine tri_then ?_ | refine tri_region ?_ | refine tri_nil ?_ | refine tri_skip ?_ | refine tri_ret ?_ | refine tri_exit ?_ | refine tri_thenr ?_ | refine tri_thene ?_ | refine tri_blkn ?_ | refine tri_blkr ?_ | refine tri_blke ?_ | refine tri_blko (by rfl) ?_ | refine tri_if_t (by rfl) ?_ | refine tri_if_f (by rfl) ?_ | fail))
  rename_i g13
  refine tri_cut1 (fun px => px = (mkX s p u).p) (fun px => [(4, .pointer (some ⟨g4, 0, none⟩)), (8, .pointer (some ⟨g8, 0, none⟩)), (9, .int .i64 0), (13, .pointer (some ⟨g13, 0, none⟩))]) (fun px => Hp w0 (teC g13 ⟨s, px, u⟩ :: tlbC g8 0 (.slice none 0 0) :: tlbC g4 z v :: cs)) ?_ ?_
  · (repeat' (first | refine au_pure ?_ | refine au_pass ?_ | refine au_box (fun _ => ?_) | refine au_alloc (fun _ => ?_) | refine au_store ?_ | refine au_make rfl rfl (fun _ => ?_) | refine au_lit rfl rfl rfl (fun _ => ?_) | refine au_append rfl rfl rfl rfl (fun _ => au_norm ?_) | refine au_storeE rfl rfl rfl rfl ?_ | refine tri_seq ?_ | refine tri_then ?_ | refine tri_region ?_ | refine tri_nil ?_ | refine tri_skip ?_ | refine tri_ret ?_ | refine tri_exit ?_ | refine tri_thenr ?_ | refine tri_thene ?_ | refine tri_blkn ?_ | refine tri_blkr ?_ | refine tri_blke ?_ | refine tri_blko (by rfl) ?_ | refine tri_if_t (by rfl) ?_ | refine tri_if_f (by rfl) ?_ | ((first | refine tri_cond (by rfl) (fun hc => ?_) (fun hc => ?_) | refine tri_gsplit (by rfl) (by rfl) (by (fail_if_success exact (rfl : _ = some (Value.bool true))); (fail_if_success exact (rfl : _ = some (Value.bool false))); rfl) (fun hc => ?_) (fun hc => ?_)) <;> (try simp only [decide_eq_true_eq, decide_eq_false_iff_not, beq_iff_eq, bne_iff_ne, ne_eq, Bool.not_eq_true', Bool.not_eq_false', beq_eq_false_iff_ne, bne_eq_false_iff_eq, Int.not_lt, Int.not_le, gt_iff_lt, ge_iff_le, Bool.and_eq_true, Bool.or_eq_true, Bool.and_eq_false_iff, Bool.or_eq_false_iff, Decidable.not_not, not_true_eq_false, not_false_eq_true, and_true, true_and, or_false, false_or, or_true, true_or, and_false, false_and, eq_self, Bool.true_eq_false, Bool.false_eq_true] at hc) <;> (try (exfalso; omega))) | fail))
    · have hh : hu u = true := by assumption
      refine au_call rfl rfl (cl_of rfl rfl rfl (fun _ h => Ret.hp (group_any _ _ hp8.1 (by omega)) h)) ?_
      (repeat (first | refine au_pure ?_ | refine au_pass ?_ | refine au_box (fun _ => ?_) | refine au_alloc (fun _ => ?_) | refine au_store ?_ | refine au_make rfl rfl (fun _ => ?_) | refine au_lit rfl rfl rfl (fun _ => ?_) | refine au_append rfl rfl rfl rfl (fun _ => au_norm ?_) | refine au_storeE rfl rfl rfl rfl ?_ | refine tri_seq ?_ | refine tri_then ?_ | refine tri_region ?_ | refine tri_nil ?_ | refine tri_skip ?_ | refine tri_ret ?_ | refine tri_exit ?_ | refine tri_thenr ?_ | refine tri_thene ?_ | refine tri_blkn ?_ | refine tri_blkr ?_ | refine tri_blke ?_ | refine tri_blko (by rfl) ?_ | refine tri_if_t (by rfl) ?_ | refine tri_if_f (by rfl) ?_ | fail))
      refine tri_mt1 _ ?_ (by repeat (first | exact trivial | refine ⟨rfl, ?_⟩)) (fun _ h => h)
      unfold mkX
      rw [if_pos hh]
      rfl
    · have hh : hu u = false := by assumption
      refine tri_mt1 _ ?_ (by repeat (first | exact trivial | refine ⟨rfl, ?_⟩)) (fun _ h => h)
      unfold mkX
      rw [hh]; rfl
  intro px hpx
  subst hpx
  obtain ⟨x, hx⟩ : ∃ x, x = mkX s p u := ⟨_, rfl⟩
  have hs : s = x.s := by rw [hx]; rfl
  have hu : u = x.w := by rw [hx]; rfl
  rw [← hx] at hxd hxp ⊢
  rw [hs, hu] at he ⊢
  have hwx : Wf x := hxd.wf (by rw [← hu]; exact ⟨hu0, hu1⟩)
  refine tri_nilrow TE 72 ?_
  (repeat (first | refine au_pure ?_ | refine au_pass ?_ | refine au_box (fun _ => ?_) | refine au_alloc (fun _ => ?_) | refine au_store ?_ | refine au_make rfl rfl (fun _ => ?_) | refine au_lit rfl rfl rfl (fun _ => ?_) | refine au_append rfl rfl rfl rfl (fun _ => au_norm ?_) | refine au_storeE rfl rfl rfl rfl ?_ | refine tri_seq ?_ | refine tri_then ?_ | refine tri_region ?_ | refine tri_nil ?_ | refine tri_skip ?_ | refine tri_ret ?_ | refine tri_exit ?_ | refine tri_thenr ?_ | refine tri_thene ?_ | refine tri_blkn ?_ | refine tri_blkr ?_ | refine tri_blke ?_ | refine tri_blko (by rfl) ?_ | refine tri_if_t (by rfl) ?_ | refine tri_if_f (by rfl) ?_ | fail))
  refine tri_block ?_
  refine tri_loop3 (fun i (r : Row) k => i ≤ l.length ∧ k = mkK (l.take i) x) (fun i r k => [(4, .pointer (some ⟨g4, 0, none⟩)), (8, .pointer (some ⟨g8, 0, none⟩)), (9, .int .i64 0), (13, .pointer (some ⟨g13, 0, none⟩)), (14, r.v), (15, .int .i64 (i : Int))])
    (fun i r k => Hp w0 (teS r k :: teC g13 x :: tlbC g8 0 (.slice none 0 0) :: tlbC g4 z v :: cs)) (fun i r k => l.length - i) 0 (Row.nil w0.heap.size) [] ⟨by omega, rfl⟩ (by repeat (first | exact trivial | refine ⟨rfl, ?_⟩)) (fun _ h => h) ?_
  rintro i r k ⟨hi, hk⟩
  (repeat (first | refine au_pure ?_ | refine au_pass ?_ | refine au_box (fun _ => ?_) | refine au_alloc (fun _ => ?_) | refine au_store ?_ | refine au_make rfl rfl (fun _ => ?_) | refine au_lit rfl rfl rfl (fun _ => ?_) | refine au_append rfl rfl rfl rfl (fun _ => au_norm ?_) | refine au_storeE rfl rfl rfl rfl ?_ | refine tri_seq ?_ | refine tri_then ?_ | refine tri_region ?_ | refine tri_nil ?_ | refine tri_skip ?_ | refine tri_ret ?_ | refine tri_exit ?_ | refine tri_thenr ?_ | refine tri_thene ?_ | refine tri_blkn ?_ | refine tri_blkr ?_ | refine tri_blke ?_ | refine tri_blko (by rfl) ?_ | refine tri_if_t (by rfl) ?_ | refine tri_if_f (by rfl) ?_ | fail))
  ((first | refine tri_cond (by rfl) (fun hc => ?_) (fun hc => ?_) | refine tri_gsplit (by rfl) (by rfl) (by (fail_if_success exact (rfl : _ = some (Value.bool true))); (fail_if_success exact (rfl : _ = some (Value.bool false))); rfl) (fun hc => ?_) (fun hc => ?_)) <;> (try simp only [decide_eq_true_eq, decide_eq_false_iff_not, beq_iff_eq, bne_iff_ne, ne_eq, Bool.not_eq_true', Bool.not_eq_false', beq_eq_false_iff_ne, bne_eq_false_iff_eq, Int.not_lt, Int.not_le, gt_iff_lt, ge_iff_le, Bool.and_eq_true, Bool.or_eq_true, Bool.and_eq_false_iff, Bool.or_eq_false_iff, Decidable.not_not, not_true_eq_false, not_false_eq_true, and_true, true_and, or_false, false_or, or_true, true_or, and_false, false_and, eq_self, Bool.true_eq_false, Bool.false_eq_true] at hc) <;> (try (exfalso; omega)))
  · (repeat (first | refine au_pure ?_ | refine au_pass ?_ | refine au_box (fun _ => ?_) | refine au_alloc (fun _ => ?_) | refine au_store ?_ | refine au_make rfl rfl (fun _ => ?_) | refine au_lit rfl rfl rfl (fun _ => ?_) | refine au_append rfl rfl rfl rfl (fun _ => au_norm ?_) | refine au_storeE rfl rfl rfl rfl ?_ | refine tri_seq ?_ | refine tri_then ?_ | refine tri_region ?_ | refine tri_nil ?_ | refine tri_skip ?_ | refine tri_ret ?_ | refine tri_exit ?_ | refine tri_thenr ?_ | refine tri_thene ?_ | refine tri_blkn ?_ | refine tri_blkr ?_ | refine tri_blke ?_ | refine tri_blko (by rfl) ?_ | refine tri_if_t (by rfl) ?_ | refine tri_if_f (by rfl) ?_ | fail))
    refine tri_block ?_
    have hvi := hvd _ (mem_getD' (k := i) (by omega))
    have hov := ov_ref hvi hxd
    have hstep : mkK (l.take (i + 1)) x = mkK (l.take i) x ++ if ovM x (l.getD i default) then [] else [l.getD i default] := by
      unfold mkK
      rw [filter_step _ (by omega)]
      cases ovM x (l.getD i default) <;> rfl
    have hkl : k.length ≤ 16 := by
      have : (mkK (l.take i) x).length ≤ (l.take i).length := List.length_filter_le ..
      rw [List.length_take, ← hk] at this
      omega
    (repeat (first | refine au_pure ?_ | refine au_pass ?_ | refine au_box (fun _ => ?_) | refine au_alloc (fun _ => ?_) | refine au_store ?_ | refine au_make rfl rfl (fun _ => ?_) | refine au_lit rfl rfl rfl (fun _ => ?_) | refine au_append rfl rfl rfl rfl (fun _ => au_norm ?_) | refine au_storeE rfl rfl rfl rfl ?_ | refine tri_seq ?_ | refine tri_then ?_ | refine tri_region ?_ | refine tri_nil ?_ | refine tri_skip ?_ | refine tri_ret ?_ | refine tri_exit ?_ | refine tri_thenr ?_ | refine tri_thene ?_ | refine tri_blkn ?_ | refine tri_blkr ?_ | refine tri_blke ?_ | refine tri_blko (by rfl) ?_ | refine tri_if_t (by rfl) ?_ | refine tri_if_f (by rfl) ?_ | fail))
    refine au_draw rfl ?_
    (repeat (first | refine au_qpure rfl rfl ?_ | refine au_qpass rfl rfl ?_ | refine triq_nil ?_))
    refine triq_call rfl rfl (by first | exact wan_plain rfl | exact wan_yes rfl rfl rfl) (cl_of rfl rfl rfl (calr (overlaps_c w0 _ (l.getD i default) x (wf_at hw i) hwx hxp.1 (by omega)))) ?_
    rw [hov]
    (repeat (first | refine au_qpure rfl rfl ?_ | refine au_qpass rfl rfl ?_ | refine triq_nil ?_))
    (repeat' (first | refine au_pure ?_ | refine au_pass ?_ | refine au_box (fun _ => ?_) | refine au_alloc (fun _ => ?_) | refine au_store ?_ | refine au_make rfl rfl (fun _ => ?_) | refine au_lit rfl rfl rfl (fun _ => ?_) | refine au_append rfl rfl rfl rfl (fun _ => au_norm ?_) | refine au_storeE rfl rfl rfl rfl ?_ | refine tri_seq ?_ | refine tri_then ?_ | refine tri_region ?_ | refine tri_nil ?_ | refine tri_skip ?_ | refine tri_ret ?_ | refine tri_exit ?_ | refine tri_thenr ?_ | refine tri_thene ?_ | refine tri_blkn ?_ | refine tri_blkr ?_ | refine tri_blke ?_ | refine tri_blko (by rfl) ?_ | refine tri_if_t (by rfl) ?_ | refine tri_if_f (by rfl) ?_ | ((first | refine tri_cond (by rfl) (fun hc => ?_) (fun hc => ?_) | refine tri_gsplit (by rfl) (by rfl) (by (fail_if_success exact (rfl : _ = some (Value.bool true))); (fail_if_success exact (rfl : _ = some (Value.bool false))); rfl) (fun hc => ?_) (fun hc => ?_)) <;> (try simp only [decide_eq_true_eq, decide_eq_false_iff_not, beq_iff_eq, bne_iff_ne, ne_eq, Bool.not_eq_true', Bool.not_eq_false', beq_eq_false_iff_ne, bne_eq_false_iff_eq, Int.not_lt, Int.not_le, gt_iff_lt, ge_iff_le, Bool.and_eq_true, Bool.or_eq_true, Bool.and_eq_false_iff, Bool.or_eq_false_iff, Decidable.not_not, not_true_eq_false, not_false_eq_true, and_true, true_and, or_false, false_or, or_true, true_or, and_false, false_and, eq_self, Bool.true_eq_false, Bool.false_eq_true] at hc) <;> (try (exfalso; omega))) | fail))
    · have hc : ovM x (l.getD i default) = false := by assumption
      rename_i r1 r2
      refine tri_nx3 (i + 1) r2 (k ++ [l.getD i default]) (by omega) ⟨by omega, by rw [hstep, hc, ← hk]; rfl⟩ (by repeat (first | exact trivial | refine ⟨rfl, ?_⟩)) (fun _ h => h.sub (by repeat (first | exact List.Sublist.refl _ | assumption | apply List.Sublist.cons_cons | apply List.Sublist.cons)))
    · have hc : ovM x (l.getD i default) = true := by assumption
      exact tri_nx3 (i + 1) r k (by omega) ⟨by omega, by rw [hstep, hc, ← hk]; simp⟩ (by repeat (first | exact trivial | refine ⟨rfl, ?_⟩)) (fun _ h => h.sub (by repeat (first | exact List.Sublist.refl _ | assumption | apply List.Sublist.cons_cons | apply List.Sublist.cons)))
  have hil : i = l.length := by omega
  rw [hil, List.take_length] at hk
  have hkl : k.length ≤ l.length := by rw [hk]; exact List.length_filter_le ..
  have hdl := dropK_le (z := z) (l := k) hz.1 (by omega)
  (repeat (first | refine au_pure ?_ | refine au_pass ?_ | refine au_box (fun _ => ?_) | refine au_alloc (fun _ => ?_) | refine au_store ?_ | refine au_make rfl rfl (fun _ => ?_) | refine au_lit rfl rfl rfl (fun _ => ?_) | refine au_append rfl rfl rfl rfl (fun _ => au_norm ?_) | refine au_storeE rfl rfl rfl rfl ?_ | refine tri_seq ?_ | refine tri_then ?_ | refine tri_region ?_ | refine tri_nil ?_ | refine tri_skip ?_ | refine tri_ret ?_ | refine tri_exit ?_ | refine tri_thenr ?_ | refine tri_thene ?_ | refine tri_blkn ?_ | refine tri_blkr ?_ | refine tri_blke ?_ | refine tri_blko (by rfl) ?_ | refine tri_if_t (by rfl) ?_ | refine tri_if_f (by rfl) ?_ | fail))
  refine tri_cut2 (fun (r' : Row) k' => k' = dropK z k) (fun r' k' => [(4, .pointer (some ⟨g4, 0, none⟩)), (8, .pointer (some ⟨g8, 0, none⟩)), (9, .int .i64 0), (13, .pointer (some ⟨g13, 0, none⟩)), (14, r'.v)]) (fun r' k' => Hp w0 (teS r' k' :: teC g13 x :: tlbC g8 0 (.slice none 0 0) :: tlbC g4 z v :: cs)) ?_ ?_
  · (repeat' (first | refine au_pure ?_ | refine au_pass ?_ | refine au_box (fun _ => ?_) | refine au_alloc (fun _ => ?_) | refine au_store ?_ | refine au_make rfl rfl (fun _ => ?_) | refine au_lit rfl rfl rfl (fun _ => ?_) | refine au_append rfl rfl rfl rfl (fun _ => au_norm ?_) | refine au_storeE rfl rfl rfl rfl ?_ | refine tri_seq ?_ | refine tri_then ?_ | refine tri_region ?_ | refine tri_nil ?_ | refine tri_skip ?_ | refine tri_ret ?_ | refine tri_exit ?_ | refine tri_thenr ?_ | refine tri_thene ?_ | refine tri_blkn ?_ | refine tri_blkr ?_ | refine tri_blke ?_ | refine tri_blko (by rfl) ?_ | refine tri_if_t (by rfl) ?_ | refine tri_if_f (by rfl) ?_ | ((first | refine tri_cond (by rfl) (fun hc => ?_) (fun hc => ?_) | refine tri_gsplit (by rfl) (by rfl) (by (fail_if_success exact (rfl : _ = some (Value.bool true))); (fail_if_success exact (rfl : _ = some (Value.bool false))); rfl) (fun hc => ?_) (fun hc => ?_)) <;> (try simp only [decide_eq_true_eq, decide_eq_false_iff_not, beq_iff_eq, bne_iff_ne, ne_eq, Bool.not_eq_true', Bool.not_eq_false', beq_eq_false_iff_ne, bne_eq_false_iff_eq, Int.not_lt, Int.not_le, gt_iff_lt, ge_iff_le, Bool.and_eq_true, Bool.or_eq_true, Bool.and_eq_false_iff, Bool.or_eq_false_iff, Decidable.not_not, not_true_eq_false, not_false_eq_true, and_true, true_and, or_false, false_or, or_true, true_or, and_false, false_and, eq_self, Bool.true_eq_false, Bool.false_eq_true] at hc) <;> (try (exfalso; omega))) | fail))
    · have hkz : (k.length : Int) = z := by omega
      refine au_pure (hy := yl_cut (a := 1) (b := k.length) rfl rfl (by repeat (first | assumption | exact rd_chunk (by first | (apply has_at; (repeat (first | exact at0 | apply atS)); done) | (repeat (first | assumption | apply has_cons))) | apply RdH.cons | refine RdH.cut ?_ rfl (by omega) (by omega))) (ixo_some (ix_nat rfl)) ixo_none (by omega) (by omega)) ?_
      (repeat (first | refine au_pure ?_ | refine au_pass ?_ | refine au_box (fun _ => ?_) | refine au_alloc (fun _ => ?_) | refine au_store ?_ | refine au_make rfl rfl (fun _ => ?_) | refine au_lit rfl rfl rfl (fun _ => ?_) | refine au_append rfl rfl rfl rfl (fun _ => au_norm ?_) | refine au_storeE rfl rfl rfl rfl ?_ | refine tri_seq ?_ | refine tri_then ?_ | refine tri_region ?_ | refine tri_nil ?_ | refine tri_skip ?_ | refine tri_ret ?_ | refine tri_exit ?_ | refine tri_thenr ?_ | refine tri_thene ?_ | refine tri_blkn ?_ | refine tri_blkr ?_ | refine tri_blke ?_ | refine tri_blko (by rfl) ?_ | refine tri_if_t (by rfl) ?_ | refine tri_if_f (by rfl) ?_ | fail))
      refine tri_recut (a := 1) (b := k.length) at0 (by omega) (Nat.le_refl _) (by repeat (first | exact nf0 rfl | apply nfS rfl | exact nfR)) ?_
      refine tri_mt2 (r.cut 1 k.length 3) ((k.take k.length).drop 1) ?_ (by repeat (first | exact trivial | refine ⟨rfl, ?_⟩)) (fun _ h => h.sub (by repeat (first | exact List.Sublist.refl _ | assumption | apply List.Sublist.cons_cons | apply List.Sublist.cons)))
      rw [List.take_length, dropK, if_pos hkz]
    · have hkz : ¬ (k.length : Int) = z := by omega
      refine tri_mt2 r k ?_ (by repeat (first | exact trivial | refine ⟨rfl, ?_⟩)) (fun _ h => h.sub (by repeat (first | exact List.Sublist.refl _ | assumption | apply List.Sublist.cons_cons | apply List.Sublist.cons)))
      rw [dropK, if_neg hkz]
  intro r' k' hk'
  rw [← hk'] at hdl
  (repeat (first | refine au_pure ?_ | refine au_pass ?_ | refine au_box (fun _ => ?_) | refine au_alloc (fun _ => ?_) | refine au_store ?_ | refine au_make rfl rfl (fun _ => ?_) | refine au_lit rfl rfl rfl (fun _ => ?_) | refine au_append rfl rfl rfl rfl (fun _ => au_norm ?_) | refine au_storeE rfl rfl rfl rfl ?_ | refine tri_seq ?_ | refine tri_then ?_ | refine tri_region ?_ | refine tri_nil ?_ | refine tri_skip ?_ | refine tri_ret ?_ | refine tri_exit ?_ | refine tri_thenr ?_ | refine tri_thene ?_ | refine tri_blkn ?_ | refine tri_blkr ?_ | refine tri_blke ?_ | refine tri_blko (by rfl) ?_ | refine tri_if_t (by rfl) ?_ | refine tri_if_f (by rfl) ?_ | fail))
  refine tri_held (Hp w0 (teC g13 x :: tlbC g4 z v :: cs)) rfl ?_
  refine ap_take 0 rfl rfl rfl ?_; refine ap_take 1 rfl rfl rfl ?_; refine ap_take 2 rfl rfl rfl ?_; refine ap_take 3 rfl rfl rfl ?_
  refine ap_op 4 rfl ?_
  refine au_lit rfl rfl rfl (fun _ => ?_)
  refine tri_nil ?_
  refine ap_in ?_
  refine ap_op 5 rfl ?_
  refine au_append rfl rfl rfl rfl (fun r2 => au_norm ?_)
  refine tri_nil ?_
  refine ap_in ?_
  refine ap_take 6 rfl rfl rfl ?_
  refine ap_op 7 rfl ?_
  refine au_store ?_
  refine tri_nil ?_
  refine ap_in ?_
  refine ap_op 8 rfl ?_
  refine au_pure ?_
  refine tri_nil ?_
  refine ap_in ?_
  refine ap_done ?_
  (repeat (first | refine au_pure ?_ | refine au_pass ?_ | refine au_box (fun _ => ?_) | refine au_alloc (fun _ => ?_) | refine au_store ?_ | refine au_make rfl rfl (fun _ => ?_) | refine au_lit rfl rfl rfl (fun _ => ?_) | refine au_append rfl rfl rfl rfl (fun _ => au_norm ?_) | refine au_storeE rfl rfl rfl rfl ?_ | refine tri_seq ?_ | refine tri_then ?_ | refine tri_region ?_ | refine tri_nil ?_ | refine tri_skip ?_ | refine tri_ret ?_ | refine tri_exit ?_ | refine tri_thenr ?_ | refine tri_thene ?_ | refine tri_blkn ?_ | refine tri_blkr ?_ | refine tri_blke ?_ | refine tri_blko (by rfl) ?_ | refine tri_if_t (by rfl) ?_ | refine tri_if_f (by rfl) ?_ | fail))
  refine au_done2 rfl ?_
  intro w hw
  refine ⟨r2, ?_, ?_⟩
  · rw [he]; rfl
  · rw [he, resL, if_pos rfl, mkL, ← hk, ← hk']; exact hw.sub (by repeat (first | exact List.Sublist.refl _ | assumption | apply List.Sublist.cons_cons | apply List.Sublist.cons))
end
end Go.Proofs.YtojfaelafakemaaGreat
