/- Texts joined: ShStep, Arr. Each part's own remark says what it proves. -/
import Derived.Test.YtojfaelafakemaaM26
import Derived.Test.YtojfaelafakemaaM05
/- The shootdown machine in plain Lean: what a step of a script has done, and what holds behind it. No conditions. -/
set_option linter.unusedSimpArgs false
set_option linter.unusedVariables false
namespace Go.Proofs.Ytojfaelafakemaa
open Go Go.RowKit
attribute [local irreducible] decR encS markR mkL invL schk
/-- What a step of a script has done. -/
inductive Stp (m : SM) (o : SO) : SM → Int → Int → Prop
  | mp (hk : o.k = 0) (hp : 0 ≤ o.p ∧ o.p < m.tb.length) (hf : 0 ≤ o.f ∧ o.f < m.wd.length) (hno : pgOk m.wd.length (tbW m o.p.toNat) = false) (hfr : freeB m o.f = true) (W : Int) (hW : pgOk m.wd.length W = true) (hWn : (decR W).1.n = o.f) :
      Stp m o { m with tb := m.tb.set o.p.toNat ⟨W⟩, wd := m.wd.set o.f.toNat 0 } 0 0
  | um (hk : o.k = 1) (hp : 0 ≤ o.p ∧ o.p < m.tb.length) (hpg : pgOk m.wd.length (tbW m o.p.toNat) = true) :
      Stp m o { m with tb := m.tb.set o.p.toNat ⟨0⟩, pd := (ntfM m o.p m.tl.length).1, lm := if (ntfM m o.p m.tl.length).2 = 0 then m.lm else m.lm ++ [⟨(tgtX m o.p).n, (ntfM m o.p m.tl.length).2⟩] } 0 0
  | pr (hk : o.k = 2) (hp : 0 ≤ o.p ∧ o.p < m.tb.length) (hpg : pgOk m.wd.length (tbW m o.p.toNat) = true) (W : Int) (hW : pgOk m.wd.length W = true) (hWn : (decR W).1.n = (decR (tbW m o.p.toNat)).1.n) :
      Stp m o { m with tb := m.tb.set o.p.toNat ⟨W⟩, pd := (ntfM m o.p m.tl.length).1 } 0 0
  | pn (hk : o.k = 2) : Stp m o m 0 0
  | hit (hk : o.k = 3 ∨ o.k = 4) (hc : 0 ≤ o.c ∧ o.c < m.tl.length) (hp : 0 ≤ o.p ∧ o.p < m.tb.length) (t : TE) (ht : t ∈ (m.tl.getD o.c.toNat default).l) (htp : t.p = o.p) :
      Stp m o (useM m (decR t.w).1.n (o.k == 4) o.v) (m.wd.getD (decR t.w).1.n.toNat default) 0
  | den (hk : o.k = 3 ∨ o.k = 4) (hc : 0 ≤ o.c ∧ o.c < m.tl.length) (hp : 0 ≤ o.p ∧ o.p < m.tb.length) (e : Int) (he : e = 13 ∨ e = 12) :
      Stp m o (setTl m o.c.toNat (invL (m.tl.getD o.c.toNat default).l 0 o.p)) 0 e
  | fil (hk : o.k = 3 ∨ o.k = 4) (hc : 0 ≤ o.c ∧ o.c < m.tl.length) (hp : 0 ≤ o.p ∧ o.p < m.tb.length) (hpg : pgOk m.wd.length (tbW m o.p.toNat) = true) (W : Int) (hW : pgOk m.wd.length W = true) (hWn : (decR W).1.n = (decR (tbW m o.p.toNat)).1.n)
      (hWa : (decR W).1.a = (decR (tbW m o.p.toNat)).1.a) (hWc : (decR (tbW m o.p.toNat)).1.c = true → (decR W).1.c = true) :
      Stp m o (useM { (setTl m o.c.toNat (mkL (m.tl.getD o.c.toNat default).z (invL (m.tl.getD o.c.toNat default).l 0 o.p) (mkX 0 o.p W))) with tb := m.tb.set o.p.toNat ⟨W⟩ } (decR (tbW m o.p.toNat)).1.n (o.k == 4) o.v)
        (m.wd.getD (decR (tbW m o.p.toNat)).1.n.toNat default) 0
  | ack (hk : ¬ (o.k = 0 ∨ o.k = 1 ∨ o.k = 2 ∨ o.k = 3 ∨ o.k = 4)) (hc : 0 ≤ o.c ∧ o.c < m.tl.length) : Stp m o (ackG m o.c.toNat) 0 0
/-- The machine has changed with such an answer. -/
def Gz (e : Int) : Prop := e = 0 ∨ e = 13 ∨ e = 12
theorem go_ne {e : Int} (h : Gz e) : e = 0 ∨ e = 13 ∨ e = 12 := h
theorem acc_stp {m : SM} (h : Vp m) {o : SO} (hk : o.k = 3 ∨ o.k = 4) (hg : Gz (accM m o.c o.p (o.k == 4) o.v).2.2) : Stp m o (accM m o.c o.p (o.k == 4) o.v).1 (accM m o.c o.p (o.k == 4) o.v).2.1 (accM m o.c o.p (o.k == 4) o.v).2.2 := by
  have h0 : schk m = 0 := vp_iff.2 h
  unfold accM at hg ⊢
  rw [if_neg (fun x => x h0)] at hg ⊢
  split
  · rename_i hb; rw [if_pos hb] at hg; rcases go_ne hg with x | x | x <;> simp at x
  rename_i hb
  rw [if_neg hb] at hg
  have hb := Decidable.not_not.1 hb
  have hc : 0 ≤ o.c ∧ o.c < m.tl.length := ⟨hb.1, hb.2.1⟩
  have hp := isP_iff.1 hb.2.2
  have hcn : o.c.toNat < m.tl.length := by omega
  unfold accG
  split
  · rename_i hh
    unfold hitA at hh
    rw [Bool.and_eq_true] at hh
    have hO := h.tl o.c.toNat hcn
    rw [look_ok hO.1] at hh ⊢
    obtain ⟨t, ht, hcv, e⟩ := look_mem hh.1
    rw [e]
    exact .hit hk hc hp t ht ((h.cov hcn ht o.p).1 hcv)
  split
  · exact .den hk hc hp 13 (.inl rfl)
  rename_i hpg
  have hpg : pgOk m.wd.length (tbW m o.p.toNat) = true := by simpa using hpg
  split
  · exact .den hk hc hp 12 (.inr rfl)
  rename_i hw
  obtain ⟨_, hm1, hm2, _⟩ := mark_pg (wr := o.k == 4) hpg (fun x => by
    have : ¬ (tgtX m o.p).a = false := fun y => hw ⟨x, y⟩
    have h7 : (tgtX m o.p).a = true := by simpa using this
    exact h7)
  exact .fil hk hc hp hpg _ hm1 (by rw [hm2]) (by rw [hm2]) (fun x => by rw [hm2, x]; simp)
theorem sdo_stp {m : SM} (h : Vp m) {o : SO} (hg : Gz (sdoM m o).2.2) : Stp m o (sdoM m o).1 (sdoM m o).2.1 (sdoM m o).2.2 := by
  have h0 : schk m = 0 := vp_iff.2 h
  have hr := h.r
  unfold sdoM at hg ⊢
  split
  · rename_i hk
    rw [if_pos hk] at hg
    unfold mapM at hg ⊢
    rw [if_neg (fun x => x h0)] at hg ⊢
    split
    · rename_i hb; simp only [if_pos hb] at hg; rcases go_ne hg with x | x | x <;> simp at x
    rename_i hb
    rw [if_neg hb] at hg
    have hb := Decidable.not_not.1 hb
    split
    · rename_i hq; simp only [if_pos hq] at hg; rcases go_ne hg with x | x | x <;> simp at x
    rename_i hq
    rw [if_neg hq] at hg
    split
    · rename_i hf; simp only [if_pos hf] at hg; rcases go_ne hg with x | x | x <;> simp at x
    rename_i hf
    have hd := pg_word hr.2.2.2.2.1 (f := o.f) ⟨hb.2.1, hb.2.2⟩ o.w false false
    exact .mp hk (isP_iff.1 hb.1) ⟨hb.2.1, hb.2.2⟩ (by simpa using hq) (by simpa using hf) _ (pg_of (by rw [show wordM ⟨1, o.f, o.w, false, false, false⟩ = (encS 1 o.f o.w false false false).1 from rfl, hd]; exact ⟨rfl, rfl, rfl, hb.2.2⟩)) (by rw [show wordM ⟨1, o.f, o.w, false, false, false⟩ = (encS 1 o.f o.w false false false).1 from rfl, hd])
  rename_i k0
  rw [if_neg k0] at hg
  have htg : ∀ p, Gz (tgtE m p) → tgtE m p = 0 := fun p hg => by
    unfold tgtE at hg ⊢
    rw [if_neg (fun x => x h0)] at hg ⊢
    split
    · rename_i hb; rw [if_pos hb] at hg; rcases go_ne hg with x | x | x <;> simp at x
    rename_i hb
    rw [if_neg hb] at hg
    split
    · rename_i hb; rw [if_pos hb] at hg; rcases go_ne hg with x | x | x <;> simp at x
    rfl
  split
  · rename_i hk
    rw [if_pos hk] at hg
    unfold unmapM at hg ⊢
    by_cases hb : tgtE m o.p = 0
    · rw [if_neg (fun x => x hb)]
      obtain ⟨_, hp, hpg⟩ := tgt_zero hb
      exact .um hk hp hpg
    · rw [if_pos hb] at hg; exact absurd (htg _ hg) hb
  rename_i k1
  rw [if_neg k1] at hg
  split
  · rename_i hk
    rw [if_pos hk] at hg
    unfold protM at hg ⊢
    by_cases hb : tgtE m o.p = 0
    · rw [if_neg (fun x => x hb)]
      obtain ⟨_, hp, hpg⟩ := tgt_zero hb
      split
      · obtain ⟨f1, f2, f3, f4⟩ := pg_fld hpg
        have hfb := pg_bd hpg
        have hw : wordM ⟨(tgtX m o.p).k, (tgtX m o.p).n, false, (tgtX m o.p).b, (tgtX m o.p).c, (tgtX m o.p).d⟩ = (encS 1 (tgtX m o.p).n false (tgtX m o.p).b (tgtX m o.p).c false).1 := by
          unfold wordM
          simp only
          rw [show (tgtX m o.p).k = 1 from f2, show (tgtX m o.p).d = false from f3]
        have hd := pg_word hr.2.2.2.2.1 (f := (tgtX m o.p).n) hfb false (tgtX m o.p).b (tgtX m o.p).c
        rw [hw]
        exact .pr hk hp hpg _ (pg_of (by rw [hd]; exact ⟨rfl, rfl, rfl, hfb.2⟩)) (by rw [hd]; rfl)
      · exact .pn hk
    · rw [if_pos hb] at hg; exact absurd (htg _ hg) hb
  rename_i k2
  rw [if_neg k2] at hg
  split
  · rename_i hk
    rw [if_pos hk] at hg
    exact acc_stp h hk hg
  rename_i k3
  rw [if_neg k3] at hg
  unfold ackM at hg ⊢
  rw [if_neg (fun x => x h0)] at hg ⊢
  split
  · rename_i hb; simp only [if_pos hb] at hg; rcases go_ne hg with x | x | x <;> simp at x
  rename_i hb
  have hb := Decidable.not_not.1 hb
  exact .ack (by omega) hb
theorem Stp.vp {m d : SM} {o : SO} {x e : Int} (h : Vp m) (hs : Stp m o d x e) : Vp d := by
  cases hs with
  | mp hk hp hf hno hfr W hW hWn => exact map_vp h hp hf hno hfr hW hWn
  | um hk hp hpg => exact unmap_vp h hp hpg
  | pr hk hp hpg W hW hWn => exact prot_vp h hp hpg hW hWn
  | pn hk => exact h
  | hit hk hc hp t ht htp => exact use_vp h _ _ _
  | den hk hc hp e he => exact sub_vp h (by omega) (inv_ok (h.tl _ (by omega)).1 0 o.p) fun t ht => (inv_mem.1 ht).1
  | fil hk hc hp hpg W hW hWn hWa hWc => exact use_vp (fil_vp h hc hp hpg hW hWn hWa hWc) _ _ _
  | ack hk hc => exact ack_vp h (by omega)
/- The frame of a page. -/
def atM (m : SM) (p : Int) : Int := if isP m p = true ∧ (decR (tbW m p.toNat)).2 = 0 ∧ (decR (tbW m p.toNat)).1.k = 1 then (decR (tbW m p.toNat)).1.n else -1
theorem at_fr {m : SM} (h : Vp m) {p : Int} (hp : 0 ≤ p ∧ p < m.tb.length) : atM m p = frM m p.toNat := by
  unfold atM
  cases hpg : pgOk m.wd.length (tbW m p.toNat)
  · have := h.en p.toNat (by omega)
    unfold enOk at this
    rw [hpg, Bool.or_false] at this
    have := of_decide_eq_true this
    rw [if_neg (by omega), frM_no hpg]
  · obtain ⟨f1, f2, _⟩ := pg_fld hpg
    rw [if_pos ⟨isP_iff.2 hp, f1, f2⟩, frM_yes hpg]
theorem use_wd (m : SM) {f : Int} (hf : 0 ≤ f ∧ f < m.wd.length) (w : Bool) (v : Int) (j : Nat) : (useM m f w v).wd.getD j default = if w = true ∧ f = j then v else m.wd.getD j default := by
  unfold useM
  cases w
  · simp
  · simp only [if_true, true_and]
    rw [gd_set (by omega)]
    by_cases e : f.toNat = j
    · rw [if_pos e, if_pos (by omega)]
    · rw [if_neg e, if_neg (by omega)]
theorem use_len (m : SM) (f : Int) (w : Bool) (v : Int) : (useM m f w v).wd.length = m.wd.length ∧ (useM m f w v).tb = m.tb ∧ (useM m f w v).tl = m.tl ∧ (useM m f w v).pd = m.pd ∧ (useM m f w v).lm = m.lm := by
  unfold useM
  split
  · exact ⟨List.length_set, rfl, rfl, rfl, rfl⟩
  · exact ⟨rfl, rfl, rfl, rfl, rfl⟩
/-- The frame that a cached translation leads to: the page's, or one in limbo. -/
theorem hit_fr {m : SM} (h : Vp m) {c : Nat} (hc : c < m.tl.length) {t : TE} (ht : t ∈ (m.tl.getD c default).l) : (sameM m t = true ∧ frM m t.p.toNat = (decR t.w).1.n) ∨ ∃ x ∈ m.lm, x.f = (decR t.w).1.n := by
  have key : sameM m t = true → sameM m t = true ∧ frM m t.p.toNat = (decR t.w).1.n := fun hs => ⟨hs, by rw [frM_yes (same_fr hs).1, (same_fr hs).2]⟩
  rcases h.cv c hc t ht with x | ⟨_, x | ⟨x, hx, e, _⟩⟩
  · exact .inl (key (fresh_is x))
  · exact .inl (key x)
  · exact .inr ⟨x, hx, e⟩
/-- What an operation may do to a word. -/
theorem iso_ok {m d : SM} {o : SO} {x e : Int} (h : Vp m) (hs : Stp m o d x e) : d.wd.length = m.wd.length ∧ d.tb.length = m.tb.length ∧ ∀ f : Nat, f < m.wd.length → d.wd.getD f default = m.wd.getD f default ∨ (o.k = 0 ∧ o.f = f ∧ d.wd.getD f default = 0) ∨ (o.k = 4 ∧ ((∃ x ∈ m.lm, x.f = f) ∨ atM m o.p = f) ∧ d.wd.getD f default = o.v) := by
  cases hs with
  | mp hk hp hf hno hfr W hW hWn =>
    refine ⟨List.length_set, List.length_set, fun f hf' => ?_⟩
    show (m.wd.set o.f.toNat 0).getD f default = _ ∨ (_ ∧ _ ∧ (m.wd.set o.f.toNat 0).getD f default = _) ∨ _ ∧ _ ∧ (m.wd.set o.f.toNat 0).getD f default = _
    rw [gd_set (by omega)]
    by_cases e : o.f.toNat = f
    · rw [if_pos e]; exact .inr (.inl ⟨hk, by omega, rfl⟩)
    · rw [if_neg e]; exact .inl rfl
  | um hk hp hpg => exact ⟨rfl, List.length_set, fun f _ => .inl rfl⟩
  | pr hk hp hpg W hW hWn => exact ⟨rfl, List.length_set, fun f _ => .inl rfl⟩
  | pn hk => exact ⟨rfl, rfl, fun f _ => .inl rfl⟩
  | hit hk hc hp t ht htp =>
    have hb := pg_bd ((h.tl _ (by omega)).2 t ht).1
    obtain ⟨u1, u2, _⟩ := use_len m (decR t.w).1.n (o.k == 4) o.v
    refine ⟨u1, by rw [u2], fun f hf => ?_⟩
    rw [use_wd m hb]
    split
    · rename_i e
      refine .inr (.inr ⟨by simpa using e.1, ?_, rfl⟩)
      rcases hit_fr h (by omega) ht with ⟨_, y⟩ | ⟨x, hx, y⟩
      · right; rw [at_fr h hp, ← htp, y, e.2]
      · left; exact ⟨x, hx, by rw [y, e.2]⟩
    · exact .inl rfl
  | den hk hc hp e he => exact ⟨rfl, rfl, fun f _ => .inl rfl⟩
  | fil hk hc hp hpg W hW hWn hWa hWc =>
    have hb := pg_bd hpg
    obtain ⟨u1, u2, _⟩ := use_len { (setTl m o.c.toNat (mkL (m.tl.getD o.c.toNat default).z (invL (m.tl.getD o.c.toNat default).l 0 o.p) (mkX 0 o.p W))) with tb := m.tb.set o.p.toNat ⟨W⟩ } (decR (tbW m o.p.toNat)).1.n (o.k == 4) o.v
    refine ⟨u1, by rw [u2]; exact List.length_set, fun f hf => ?_⟩
    rw [use_wd _ (by exact hb)]
    split
    · rename_i e
      exact .inr (.inr ⟨by simpa using e.1, .inr (by rw [at_fr h hp, frM_yes hpg, e.2]), rfl⟩)
    · exact .inl rfl
  | ack hk hc => exact ⟨rfl, rfl, fun f _ => .inl rfl⟩
end Go.Proofs.Ytojfaelafakemaa

/- Arrays that lie in a block: a constant index; a block seen as a row, for an index that is not known. No conditions. -/
set_option linter.unusedSimpArgs false
set_option linter.unusedVariables false
namespace Go.Proofs.Ytojfaelafakemaa
open Go Go.RowKit
class ArTy (P : Program) (t : Nat) (n e sz : outParam Nat) : Prop where
  und : P.underlying t = some (.array n e)
  size : ∀ w, (sizeOf e).run P w = .ok sz w
section
variable {P : Program} {n : Nat} {o : Oper} {E : Env} {H : World → Prop} {x y : Operand} {t m e sz g p k : Nat}
theorem yl_idxA [Dl] [hS : ArTy P t m e sz] (ho : o.op = .indexAddr t x y) (hx : ev E x = some (.pointer (some ⟨g, p, none⟩))) (hy : Ix E y k) (hk : k < m) : Yl P n o E H (.pointer (some ⟨g, p + k * sz, none⟩)) := fun a w h1 h2 => by
  obtain ⟨kd, i, hi, rfl⟩ := hy
  simp only [execOp, ho, h1.ev hx, h1.ev hi]
  simp [Instr.indexAt, run_underlying hS.und, asIntOf, Instr.sureAddr, hS.size, hk, add_lit]
/-- The row of a whole array. -/
def arR (g k : Nat) : Row := ⟨some ⟨g, 0, none⟩, k, k, g, g + 1⟩
theorem yl_idxR [Dl] [hS : ArTy P t m e sz] (ho : o.op = .indexAddr t x y) (hx : ev E x = some (.pointer (some ⟨g, 0, none⟩))) (hy : Ix E y k) (hk : k < m) : Yl P n o E H (eP (arR g m).v k sz 0) := fun a w h1 h2 => by
  obtain ⟨kd, i, hi, rfl⟩ := hy
  simp only [execOp, ho, h1.ev hx, h1.ev hi]
  simp [Instr.indexAt, run_underlying hS.und, asIntOf, Instr.sureAddr, hS.size, hk, add_lit, eP_eq, bk, of, arR, Row.v]
end
section
variable {M : List Nat} {P : Program} {n : Nat} {Q : Exit → Act → World → Prop} {F : Act → World → Prop} {ops rest : List Oper} {o : Oper} {E : Env} {w0 w : World} {cs cs' : List Chunk} {x y : Operand} {t t' g k m i : Nat} {cells : List Value} {α : Type} [Enc α] {l : List α}
theorem own_arr (h : w.heap[g]? = some (.cells (encs l).toArray t (0, 0))) (hk : l.length = k) (hl : Nat.ble k 1000000 = true) : Own w (arR g k) t l := by
  subst hk
  have hl' : l.length ≤ 1000000 := by simpa using hl
  refine ⟨rfl, Nat.le_refl _, by show l.length ≤ maxLen; simp only [maxLen]; omega, .inr ⟨g, 0, (encs l).toArray, rfl, Nat.le_refl _, Nat.lt_succ_self _, h, ?_, ?_⟩⟩
  · show 0 + l.length * Enc.sz α ≤ (encs l).toArray.size
    rw [List.size_toArray, length_encs]; omega
  · show ((encs l).drop 0).take (l.length * Enc.sz α) = encs l
    rw [List.drop_zero, ← length_encs, List.take_length]
/-- A block seen as the row of the array that it holds. -/
theorem tri_asrow [Dl] (l : List α) (hi : At cs i (blkC g t cells)) (hc : cells = encs l) (hk : l.length = k) (hl : Nat.ble k 1000000 = true) (hcs : Nf (cs.set i (slC (arR g k) t l)) cs') (kk : Tri n F E (HpM M w0 cs')) : Tri n F E (HpM M w0 cs) := by
  subst hcs
  intro a w h1 h2
  obtain ⟨q1, q2, q3, q4⟩ := h2.at_ i _ hi
  refine kk a w h1 (h2.set hi ⟨rfl, rfl, rfl, Nat.le_refl _⟩ (fun _ _ _ => rfl) (.inl ⟨rfl, rfl⟩) q3 (own_arr ?_ hk hl))
  rw [← hc]; exact q4
/-- A whole array, read. -/
theorem yl_loadA [Dl] [hA : Ag P t true] [hS : Sz P t m] (ho : o.op = .load t x) (hx : ev E x = some (.pointer (some ⟨g, 0, none⟩))) (hi : Has cs (slC (arR g k) t' l)) (hl : (encs l).length = m) : Yl P n o E (HpM M w0 cs) (.agg (encs l).toArray) := fun _ w h1 h2 => by
  have hrd := (h2.own hi).rd
  have := run_loadVarN (P := P) (t := t) (g := g) (off := 0) (vs := encs l) (w := w) hl fun j u hj => by
    have := hrd.cells hj
    have hb : bk (arR g k).v = g := rfl
    have ho : of (arR g k).v = 0 := rfl
    rw [hb, ho] at this
    exact this
  simp [execOp, ho, h1.ev hx, Instr.loadAt, Instr.sureAddr, this]
theorem encs_part {k : Nat} (hk : k < l.length) : ((encs l).drop (k * Enc.sz α)).take (Enc.sz α) = Enc.enc (l.getD k default) := by
  apply List.ext_getElem?
  intro j
  rw [List.getElem?_take]
  split
  · rename_i hj
    rw [List.getElem?_drop, encs_get hk hj]
  · rename_i hj
    rw [List.getElem?_eq_none (by rw [Enc.len]; omega)]
/-- An element of an array that is at hand. -/
theorem yl_indexV [Dl] {e sz : Nat} {vs : List Value} [hS : ArTy P t m e sz] [hA : Ag P e true] {H : World → Prop} (ho : o.op = .index t x y) (hx : ev E x = some (.agg (encs l).toArray)) (hy : Ix E y k) (hs : Enc.sz α = sz) (hl : l.length = m) (hk : k < m) (hn : Nf (Enc.enc (l.getD k default)) vs) : Yl P n o E H (.agg vs.toArray) := fun a w h1 h2 => by
  subst hs
  have hn' : Enc.enc (l.getD k default) = vs := hn
  subst hn'
  obtain ⟨kd, i, hi, rfl⟩ := hy
  simp only [execOp, ho, h1.ev hx, h1.ev hi]
  simp [Instr.index, run_underlying hS.und, asIntOf, hS.size, hk, part, hA.run]
  have := encs_part (l := l) (k := k) (by omega)
  rwa [List.getD_eq_getElem?_getD] at this
/-- A whole array, laid into a new block. -/
theorem tri_storeA [Dl] [hS : Sz P t m] (hd : o.dst = none) (ho : o.op = .store t x y) (hx : ev E x = some (.pointer (some ⟨g, 0, none⟩))) (hy : ev E y = some (.agg (encs l).toArray)) (hw : Wan ops n o E true) (hi : At cs i (blkC g t' cells)) (hl : (encs l).length = m) (hcl : cells.length = m) (hk : l.length = k) (hk' : Nat.ble k 1000000 = true) (hcs : Nf (cs.set i (slC (arR g k) t' l)) cs')
    (kk : Tri n (wpList P ops.toArray Q rest) E (HpM M w0 cs')) : Tri n (wpList P ops.toArray Q (o :: rest)) E (HpM M w0 cs) := by
  have hset : setL cells 0 (encs l) = encs l := by
    apply List.ext_getElem?
    intro j
    have hs : ∀ (vs : List Value) (f : Nat) (c : List Value), f + vs.length ≤ c.length → (setL c f vs)[j]? = if f ≤ j ∧ j < f + vs.length then vs[j - f]? else c[j]? := by
      intro vs
      induction vs with
      | nil => intro f c h; rw [setL, if_neg (by rintro ⟨h1, h2⟩; simp only [List.length_nil] at h2; omega)]
      | cons u vs ih =>
        intro f c h
        rw [setL, ih (f + 1) (c.set f u) (by simp at h ⊢; omega)]
        simp only [List.length_cons] at h ⊢
        by_cases h1 : j = f
        · subst h1
          rw [if_neg (by omega), if_pos ⟨Nat.le_refl _, by omega⟩, Nat.sub_self]
          simp [List.getElem?_set] <;> omega
        · by_cases h2 : f + 1 ≤ j ∧ j < f + 1 + vs.length
          · rw [if_pos h2, if_pos (by omega), show j - f = (j - (f + 1)) + 1 by omega, List.getElem?_cons_succ]
          · rw [if_neg h2, if_neg (by omega), List.getElem?_set_ne (by omega)]
    rw [hs (encs l) 0 cells (by omega)]
    split
    · rfl
    · rename_i h
      rw [List.getElem?_eq_none (by omega), List.getElem?_eq_none (by omega)]
  refine tri_store (t' := t') hd hw ho hx hy hi hl (List.all_eq_true.2 (one_encs l)) (by simp; omega) rfl rfl ?_
  refine tri_asrow l (i := i) (g := g) (t := t') (cells := setL cells 0 (encs l)) ?_ hset hk hk' (by rw [List.set_set]; exact hcs) kk
  have hil : i < cs.length := (List.getElem?_eq_some_iff.1 (show cs[i]? = some _ from hi)).1
  show (cs.set i _)[i]? = _
  rw [List.getElem?_set_self hil]
  rfl
end
end Go.Proofs.Ytojfaelafakemaa
