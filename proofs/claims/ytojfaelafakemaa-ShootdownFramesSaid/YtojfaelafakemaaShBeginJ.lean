/- Texts joined: ShBegin. Each part's own remark says what it proves. -/
import Derived.Test.YtojfaelafakemaaM25
import Derived.Test.YtojfaelafakemaaM27
/- The walks of the laws' begin and at. No conditions. -/
set_option linter.unusedSimpArgs false
set_option linter.unusedVariables false
namespace Go.Proofs.Ytojfaelafakemaa
open Go Go.RowKit
instance : ArTy Try.prog 22 4 5 1 := ⟨Try.underlying22, Try.sizeOf5⟩
abbrev u4C (g : Nat) (a b c d : Int) : Chunk := blkC g 22 [.int .u8 a, .int .u8 b, .int .u8 c, .int .u8 d]
/-- The machine that a law begins with. -/
def bgM (a b c d : Int) : SM := (snewM (1 + a % 3) (1 + b % 4) (1 + c % 6) (1 + d % 6)).1
theorem bg_zero (a b c d : Int) : (snewM (1 + a % 3) (1 + b % 4) (1 + c % 6) (1 + d % 6)).2 = 0 := by unfold snewM; rw [if_neg (by omega)]
theorem bg_vp (a b c d : Int) : Vp (bgM a b c d) := (new_vp (bg_zero a b c d)).1
theorem bg_kp (a b c d : Int) : Kp 0 (bgM a b c d) := new_kp _ _ _ _
theorem go_gz {e : Int} (h : goM e = true) : Gz e := by
  unfold goM at h
  simp only [Bool.or_eq_true, beq_iff_eq] at h
  unfold Gz
  omega
attribute [local irreducible] snewM schk decR
attribute [local irreducible] Code.wp wpList bodyPost Exit.then Exit.inBlock Calls wpQuiet Tri TriQ
section
variable (w0 : World) (cs : List Chunk)
set_option maxHeartbeats 4000000 in
theorem begin_c (a b c d : Int) (ha : 0 ≤ a ∧ a ≤ 255) (hb : 0 ≤ b ∧ b ≤ 255) (hc : 0 ≤ c ∧ c ≤ 255) (hd' : 0 ≤ d ∧ d ≤ 255) :
    Cal Try.prog 8 [.agg #[.int .u8 a, .int .u8 b, .int .u8 c, .int .u8 d]] (Hp w0 cs) (fun q : {q : SR // SOk q (bgM a b c d)} => .tuple #[hdV (hd q.1), .bool true]) (fun q => Hp w0 (SC q.1 (bgM a b c d) ++ cs)) := by
  refine cal_of_tri Try.func8 rfl Try.ntmps8 rfl ?_
  (repeat (first | refine tri_seq ?_ | refine tri_then ?_)); refine tri_region ?_; (repeat (first | refine au_pure ?_ | refine au_pass ?_ | refine au_box (fun _ => ?_) | refine au_alloc (fun _ => ?_) | refine au_store ?_ | refine au_make rfl rfl (fun _ => ?_) | refine au_lit rfl rfl rfl (fun _ => ?_) | refine au_append rfl rfl rfl rfl (fun _ => au_norm ?_) | refine au_storeE rfl rfl rfl rfl ?_)); refine tri_nil ?_; (repeat refine tri_then ?_)
  rename_i g1 g2
  refine tri_weak (H' := Hp w0 (hdC g2 hdN :: u4C g1 a b c d :: cs)) (fun w h => h) ?_
  (repeat (first | refine au_pure ?_ | refine au_pass ?_ | refine au_box (fun _ => ?_) | refine au_alloc (fun _ => ?_) | refine au_store ?_ | refine au_make rfl rfl (fun _ => ?_) | refine au_lit rfl rfl rfl (fun _ => ?_) | refine au_append rfl rfl rfl rfl (fun _ => au_norm ?_) | refine au_storeE rfl rfl rfl rfl ?_ | refine tri_seq ?_ | refine tri_then ?_ | refine tri_region ?_ | refine tri_nil ?_ | refine tri_skip ?_ | refine tri_ret ?_ | refine tri_exit ?_ | refine tri_thenr ?_ | refine tri_thene ?_ | refine tri_blkn ?_ | refine tri_blkr ?_ | refine tri_blke ?_ | refine tri_blko (by rfl) ?_ | refine tri_if_t (by rfl) ?_ | refine tri_if_f (by rfl) ?_ | refine au_pure (hy := yl_idxA rfl rfl (by first | exact ix_nat rfl | exact ix_int rfl (by omega)) (by decide)) ?_ | fail))
  have hz := bg_zero a b c d
  have hbg : bgM a b c d = (snewM (1 + a % 3) (1 + b % 4) (1 + c % 6) (1 + d % 6)).1 := rfl
  obtain ⟨n0, e0⟩ : ∃ n, n = 1 + a % 3 := ⟨_, rfl⟩
  obtain ⟨n1, e1⟩ : ∃ n, n = 1 + b % 4 := ⟨_, rfl⟩
  obtain ⟨n2, e2⟩ : ∃ n, n = 1 + c % 6 := ⟨_, rfl⟩
  obtain ⟨n3, e3⟩ : ∃ n, n = 1 + d % 6 := ⟨_, rfl⟩
  rw [← e0, ← e1, ← e2, ← e3] at hz hbg ⊢
  rw [hbg]
  refine au_callC rfl rfl rfl rfl rfl (snew_c w0 _ n0 n1 n2 n3) ?_
  rintro ⟨q, hq⟩
  rw [hz]
  (repeat (first | refine au_pure ?_ | refine au_pass ?_ | refine au_box (fun _ => ?_) | refine au_alloc (fun _ => ?_) | refine au_store ?_ | refine au_make rfl rfl (fun _ => ?_) | refine au_lit rfl rfl rfl (fun _ => ?_) | refine au_append rfl rfl rfl rfl (fun _ => au_norm ?_) | refine au_storeE rfl rfl rfl rfl ?_)); refine tri_nil ?_; (repeat refine tri_then ?_)
  rename_i g4
  refine tri_weak (H' := Hp w0 (hdC g4 (hd q) :: hdC g2 hdN :: (SC q (snewM n0 n1 n2 n3).1 ++ cs))) (fun w h => sc_upK [hdC g2 hdN] h (List.Sublist.cons_cons _ (List.Sublist.cons _ (List.Sublist.refl _)))) ?_
  (repeat (first | refine zz ?_ | refine zv fun _ => ?_))
  refine au_done2 rfl ?_
  exact fun w hw => ⟨⟨q, hq⟩, rfl, hw.sub (List.Sublist.cons _ (List.Sublist.cons _ (List.Sublist.refl _)))⟩
theorem at_c {h : SH} {xb : List TB} {xp : List SV} {m : SM} (p : Int) (hC : RdS (Hp w0 cs) h xb xp m) (hL : SLe m) :
    Cal Try.prog 12 [hdV h, .int .i64 p] (Hp w0 cs) (fun _ : Unit => .int .i64 (atM m p)) (fun _ => Hp w0 cs) := by
  have hno : ¬ (0 ≤ p ∧ p < m.tb.length) → atM m p = -1 := fun hn => by unfold atM; rw [if_neg fun x => hn (isP_iff.1 x.1)]
  have hl := hL.tb
  refine cal_of_tri Try.func12 rfl Try.ntmps12 rfl ?_
  (repeat (first | refine tri_seq ?_ | refine tri_then ?_)); refine tri_region ?_; (repeat (first | refine au_pure ?_ | refine au_pass ?_ | refine au_box (fun _ => ?_) | refine au_alloc (fun _ => ?_) | refine au_store ?_ | refine au_make rfl rfl (fun _ => ?_) | refine au_lit rfl rfl rfl (fun _ => ?_) | refine au_append rfl rfl rfl rfl (fun _ => au_norm ?_) | refine au_storeE rfl rfl rfl rfl ?_)); refine tri_nil ?_; (repeat refine tri_then ?_)
  rename_i g2
  have hC1 := hC.cons (c := hdC g2 h)
  refine tri_weak (H' := Hp w0 (hdC g2 h :: cs)) (fun w h => h) ?_
  (repeat (first | refine zz ?_ | refine zv fun _ => ?_))
  cases h1 : decide (p < 0)
  case true =>
    have h1 := of_decide_eq_true h1
    (repeat (first | refine zz ?_ | refine zv fun _ => ?_))
    refine au_done1 rfl ?_
    exact fun w hw => ⟨(), by rw [hno (by omega)], hw.sub (by repeat (first | exact List.Sublist.refl _ | assumption | apply List.Sublist.cons_cons | apply List.Sublist.cons))⟩
  have h1 := of_decide_eq_false h1
  (repeat (first | refine zz ?_ | refine zv fun _ => ?_))
  refine au_pure ?_ (hy := yl_len rfl rfl hC1.tb)
  (repeat (first | refine zz ?_ | refine zv fun _ => ?_))
  cases h2 : decide (p ≥ (m.tb.length : Int))
  case true =>
    have h2 := of_decide_eq_true h2
    (repeat (first | refine zz ?_ | refine zv fun _ => ?_))
    refine au_done1 rfl ?_
    exact fun w hw => ⟨(), by rw [hno (by omega)], hw.sub (by repeat (first | exact List.Sublist.refl _ | assumption | apply List.Sublist.cons_cons | apply List.Sublist.cons))⟩
  have h2 := of_decide_eq_false h2
  have hw := hL.tw p.toNat
  (repeat (first | refine zz ?_ | refine zv fun _ => ?_))
  refine au_pure ?_ (hy := yl_idx (k := p.toNat) rfl rfl hC1.tb (ix_int rfl (by omega)) (by rfl) (by omega))
  refine au_pure ?_ (hy := yl_loadE rfl rfl hC1.tb (by rfl) (by omega) (by rfl))
  obtain ⟨w, hwe⟩ : ∃ w, w = (m.tb.getD p.toNat default).v := ⟨_, rfl⟩
  have hat : atM m p = if (decR w).2 = 0 ∧ (decR w).1.k = 1 then (decR w).1.n else -1 := by
    unfold atM tbW
    rw [← hwe, isP_iff.2 ⟨by omega, by omega⟩]
    simp only [true_and]
  rw [← hwe] at hw ⊢
  obtain ⟨⟨k, n, a, b, c, d⟩, u, hp⟩ : ∃ e u, decR w = (e, u) := ⟨_, _, rfl⟩
  rw [hp] at hat
  simp only at hat
  (repeat (first | refine zz ?_ | refine zv fun _ => ?_))
  refine au_call rfl rfl (cl_of rfl rfl rfl (fun _ h => Ret.hp (decode_at _ hw.1 hw.2 hp) h)) ?_
  (repeat (first | refine au_pure ?_ | refine au_pass ?_ | refine au_box (fun _ => ?_) | refine au_alloc (fun _ => ?_) | refine au_store ?_ | refine au_make rfl rfl (fun _ => ?_) | refine au_lit rfl rfl rfl (fun _ => ?_) | refine au_append rfl rfl rfl rfl (fun _ => au_norm ?_) | refine au_storeE rfl rfl rfl rfl ?_)); refine tri_nil ?_; (repeat refine tri_then ?_)
  rename_i g5
  refine tri_weak (H' := Hp w0 (enC g5 k n a b c d :: hdC g2 h :: cs)) (fun w h => h) ?_
  (repeat (first | refine zz ?_ | refine zv fun _ => ?_))
  cases h3 : (u != 0)
  case true =>
    have h3 := bne_iff_ne.1 h3
    (repeat (first | refine zz ?_ | refine zv fun _ => ?_))
    refine au_done1 rfl ?_
    exact fun w hw => ⟨(), by rw [hat, if_neg fun x => h3 x.1], hw.sub (by repeat (first | exact List.Sublist.refl _ | assumption | apply List.Sublist.cons_cons | apply List.Sublist.cons))⟩
  have h3 : u = 0 := by simpa using h3
  (repeat (first | refine zz ?_ | refine zv fun _ => ?_))
  cases h4 : (k != 1)
  case true =>
    have h4 := bne_iff_ne.1 h4
    (repeat (first | refine zz ?_ | refine zv fun _ => ?_))
    refine au_done1 rfl ?_
    exact fun w hw => ⟨(), by rw [hat, if_neg fun x => h4 x.2], hw.sub (by repeat (first | exact List.Sublist.refl _ | assumption | apply List.Sublist.cons_cons | apply List.Sublist.cons))⟩
  have h4 : k = 1 := by simpa using h4
  (repeat (first | refine zz ?_ | refine zv fun _ => ?_))
  refine au_done1 rfl ?_
  exact fun w hw => ⟨(), by rw [hat, if_pos ⟨h3, h4⟩], hw.sub (by repeat (first | exact List.Sublist.refl _ | assumption | apply List.Sublist.cons_cons | apply List.Sublist.cons))⟩
end
end Go.Proofs.Ytojfaelafakemaa
