/- Texts joined: PtRep, MmuP, Mmu, MmuAcc. Each part's own remark says what it proves. -/
import Derived.Test.YtbgjelhefhcnpaaGreatM20
import Derived.Test.YtbgjelhefhcnpaaGreatM11
/- The walk of a page table's Replace. No conditions. -/
set_option linter.unusedSimpArgs false
set_option linter.unusedVariables false
namespace Go.Proofs.YtbgjelhefhcnpaaGreat
open Go Go.RowKit
theorem suit_yes {k n : Int} {a b c d : Bool} {lv : Int} (h : (lv = 0 ∧ d = false) ∨ (lv = 1 ∧ d = true)) (hk : k = 1) : suitM k d lv = true := by
  subst hk
  rcases h with ⟨rfl, rfl⟩ | ⟨rfl, rfl⟩ <;> rfl
theorem put_any {root : Int} {T : Tr} {ns : List ND} {ds : List DP} (h : PtOk root T ns ds) {p : Nat} (hp : p < 512) {lv w0 w n : Int} {a b c d : Bool} (hlv : pgT T p = (lv, w0)) (h0 : w0 ≠ 0) (hw : decR w = (⟨1, n, a, b, c, d⟩, 0)) (hb : 0 ≤ w ∧ w < 18446744073709551616) (hd : (lv = 0 ∧ d = false) ∨ (lv = 1 ∧ d = true)) :
    ∃ T', PutOk root T T' (putL ns (endP root T p).1 (dgF p (endP root T p).2.1.toNat) w) ds p lv w := by
  have e5 : (endP root T p).2 = pgT T p := by unfold endP pgT; exact end_lv ..
  rcases hd with ⟨rfl, rfl⟩ | ⟨rfl, rfl⟩
  · rw [e5, hlv]
    exact put_leaf h hp hlv ⟨by rw [hw], .inr ⟨by rw [hw], by rw [hw]⟩, hb.1, hb.2⟩
  · rw [e5, hlv]
    exact put_huge h hp hlv h0 ⟨by rw [hw], by rw [hw], by rw [hw], hb.1, hb.2⟩
attribute [local irreducible] decR ixL endP pgT suitM
attribute [local irreducible] Code.wp wpList bodyPost Exit.then Exit.inBlock Calls wpQuiet Tri TriQ
section
variable (w0 : World) (cs : List Chunk)
set_option maxHeartbeats 2000000 in
theorem Replace_c {root : Int} {T : Tr} {ns : List ND} {ds : List DP} (h : PtOk root T ns ds) {vn vd : Value} (hN : RdH (Hp w0 cs) vn ns) (hD : RdH (Hp w0 cs) vd ds) {p : Nat} (hp : p < 512)
    {lv o w n : Int} {a b c d : Bool} (hlv : pgT T p = (lv, o)) (h0 : o ≠ 0) (hw : decR w = (⟨1, n, a, b, c, d⟩, 0)) (hb : 0 ≤ w ∧ w < 18446744073709551616) (hd : (lv = 0 ∧ d = false) ∨ (lv = 1 ∧ d = true)) :
    Cal Tryz.prog 28 [ptV root vn vd, .int .i64 (p : Int), .int .u64 w] (Hp w0 cs) (fun y : {y : Row × Row × List ND × Tr // PutOk root T y.2.2.2 y.2.2.1 ds p lv w} => .tuple #[ptV root y.1.1.v y.1.2.1.v, .int .u64 o, .int .i64 0])
      (fun y => Hp w0 (ndS y.1.1 y.1.2.2.1 :: dpS y.1.2.1 ds :: cs)) := by
  have hnl := h.nlen
  have hdl := h.dlen
  have hle := last_eq ns root T p
  have e5 : (endP root T p).2 = pgT T p := by unfold endP pgT; exact end_lv ..
  have e51 : (endP root T p).2.1 = lv := by rw [e5, hlv]
  have e52 : (endP root T p).2.2 = o := by rw [e5, hlv]
  rw [e51, e52] at hle
  obtain ⟨T2, hput⟩ := put_any h hp hlv h0 hw hb hd
  have hsu := suit_yes (n := n) (a := a) (b := b) (c := c) hd rfl
  refine cal_of_tri Tryz.func28 rfl Tryz.ntmps28 rfl ?_
  (repeat (first | refine tri_seq ?_ | refine tri_then ?_)); refine tri_region ?_; (repeat (first | refine au_pure ?_ | refine au_pass ?_ | refine au_box (fun _ => ?_) | refine au_alloc (fun _ => ?_) | refine au_store ?_ | refine au_make rfl rfl (fun _ => ?_) | refine au_lit rfl rfl rfl (fun _ => ?_) | refine au_append rfl rfl rfl rfl (fun _ => au_norm ?_) | refine au_storeE rfl rfl rfl rfl ?_)); refine tri_nil ?_; (repeat refine tri_then ?_)
  rename_i g3 g6
  refine tri_weak (H' := Hp w0 (ptC g6 0 (.slice none 0 0) (.slice none 0 0) :: ptC g3 root vn vd :: cs)) (fun w h => h) ?_
  (repeat (first | refine zz ?_ | refine zv fun _ => ?_))
  refine au_callC rfl rfl rfl rfl rfl (checked_c w0 _ (vn := vn) (vd := vd) h hN.cons.cons hD.cons.cons (n := (p : Int)) (m := 512) (by omega)) (fun _ => ?_)
  (repeat (first | refine zz ?_ | refine zv fun _ => ?_))
  refine au_callC rfl rfl rfl rfl rfl (last_c w0 _ (vn := vn) (vd := vd) h hN.cons.cons (by omega) hp) (fun _ => ?_)
  rw [hle]
  refine zv fun g10 => ?_
  refine zz ?_
  refine tri_weak (H' := Hp w0 (spC g10 (plI ns (endP root T p).1) lv o :: ptC g6 0 (.slice none 0 0) (.slice none 0 0) :: ptC g3 root vn vd :: cs)) (fun w h => h) ?_
  (repeat (first | refine zz ?_ | refine zv fun _ => ?_))
  rw [show (o == 0) = false by simpa using h0]
  (repeat (first | refine zz ?_ | refine zv fun _ => ?_))
  refine au_call rfl rfl (cl_of rfl rfl rfl (fun _ h => Ret.hp (decode_at _ hb.1 hb.2 hw) h)) ?_
  refine zz ?_
  refine zz ?_
  refine zz ?_
  refine zv fun g11 => ?_
  refine zz ?_
  refine tri_weak (H' := Hp w0 (enC g11 1 n a b c d :: spC g10 (plI ns (endP root T p).1) lv o :: ptC g6 0 (.slice none 0 0) (.slice none 0 0) :: ptC g3 root vn vd :: cs)) (fun w h => h) ?_
  (repeat (first | refine zz ?_ | refine zv fun _ => ?_))
  refine au_callC rfl rfl rfl rfl rfl (suits_c w0 _ (⟨1, n, a, b, c, d⟩ : Ent) lv) (fun _ => ?_)
  rw [show suitM (⟨1, n, a, b, c, d⟩ : Ent).k (⟨1, n, a, b, c, d⟩ : Ent).d lv = true from hsu]
  (repeat (first | refine zz ?_ | refine zv fun _ => ?_))
  refine au_callC rfl rfl rfl rfl rfl (ptclone_c w0 _ (root := root) (vn := vn) (vd := vd) hN.cons.cons.cons.cons hD.cons.cons.cons.cons (by omega) (by omega)) ?_
  rintro ⟨rn, rd⟩
  refine zv fun g13 => ?_
  refine zz ?_
  refine tri_weak (H' := Hp w0 (ptC g13 root rn.v rd.v :: ndS rn ns :: dpS rd ds :: enC g11 1 n a b c d :: spC g10 (plI ns (endP root T p).1) lv o :: ptC g6 0 (.slice none 0 0) (.slice none 0 0) :: ptC g3 root vn vd :: cs)) (fun w h => h) ?_
  (repeat (first | refine zz ?_ | refine zv fun _ => ?_))
  refine au_callC rfl rfl rfl rfl rfl (put_c w0 _ h (rn := rn) (vd := rd.v) (gt := g13) hp w) (fun _ => ?_)
  obtain ⟨N2, hN2⟩ : ∃ N2, N2 = putL ns (endP root T p).1 (dgF p (endP root T p).2.1.toNat) w := ⟨_, rfl⟩
  rw [← hN2] at hput ⊢
  refine tri_weak (H' := Hp w0 (ptC g13 root rn.v rd.v :: ndS rn N2 :: dpS rd ds :: enC g11 1 n a b c d :: spC g10 (plI ns (endP root T p).1) lv o :: ptC g6 0 (.slice none 0 0) (.slice none 0 0) :: ptC g3 root vn vd :: cs)) (fun w h => h) ?_
  refine zz ?_
  (repeat (first | refine tri_seq ?_ | refine tri_then ?_))
  refine ar_held [] (ptC g13 root rn.v rd.v :: ndS rn N2 :: dpS rd ds :: enC g11 1 n a b c d :: spC g10 (plI ns (endP root T p).1) lv o :: ptC g3 root vn vd :: cs) rfl ?_
  refine ar_take 0 rfl rfl rfl ?_; refine ar_take 1 rfl rfl rfl ?_; refine ar_take 2 rfl rfl rfl ?_
  refine ar_op 3 rfl ?_
  refine au_store ?_
  refine tri_nil ?_; refine ar_in ?_
  refine ar_take 4 rfl rfl rfl ?_; refine ar_take 5 rfl rfl rfl ?_
  refine ar_done ?_
  refine tri_weak (H' := Hp w0 (ptC g13 root rn.v rd.v :: ndS rn N2 :: dpS rd ds :: enC g11 1 n a b c d :: spC g10 (plI ns (endP root T p).1) lv o :: ptC g6 root rn.v rd.v :: ptC g3 root vn vd :: cs)) (fun w h => h) ?_
  (repeat (first | refine zz ?_ | refine zv fun _ => ?_))
  refine au_done3 rfl ?_
  exact fun w hw => ⟨⟨⟨rn, rd, N2, T2⟩, hput⟩, rfl, hw.tail.sub (List.Sublist.cons_cons _ (List.Sublist.cons_cons _ (List.Sublist.cons _ (List.Sublist.cons _ (List.Sublist.cons _ (List.Sublist.cons _ (List.Sublist.refl _)))))))⟩
end
end Go.Proofs.YtbgjelhefhcnpaaGreat

/- An address space in plain Lean: what its pages and caches show, and what an access does. No conditions. -/
set_option linter.unusedSimpArgs false
set_option linter.unusedVariables false
namespace Go.Proofs.YtbgjelhefhcnpaaGreat
open Go Go.RowKit
/-- The number of an entry that maps a page. -/
def numP (d : Bool) (p : Nat) : Int := if d then ((8 * (p / 8) : Nat) : Int) else (p : Int)
/-- A page that is mapped: its entry. -/
structure PgUp (wd : Int) (p : Nat) (wr : Bool) : Prop where
  e : ∃ b c d, decR wd = (⟨1, numP d p, wr, b, c, d⟩, 0)
/-- What the table shows of the pages. -/
structure PgInv (T : Tr) (fr : Nat → Int) (wr : Nat → Bool) : Prop where
  pg : ∀ p, p < 512 → (fr p = -1 ∧ (pgT T p).2 = 0) ∨ (fr p = (p : Int) ∧ PgUp (pgT T p).2 p (wr p))
/-- A cached entry agrees with the pages. -/
structure CEnt (fr : Nat → Int) (wr : Nat → Bool) (x : TE) : Prop where
  s : x.s = 3
  c : ∀ p : Nat, p < 512 → covM x 3 (p : Int) = true → fr p = (p : Int) ∧ ∃ a b c d, decR x.w = (⟨1, numP d p, a, b, c, d⟩, 0) ∧ (a = true → wr p = true)
theorem up_ne {w : Int} {p : Nat} {b : Bool} (h : PgUp w p b) : w ≠ 0 := fun e => by
  obtain ⟨_, _, _, h⟩ := h.e
  rw [e, dec_zero] at h
  have := congrArg (fun x : Ent × Int => x.1.k) h
  simp [noEnt] at this
theorem pg_rng {root : Int} {T : Tr} (h : TrOk root T) (p : Nat) : 0 ≤ (pgT T p).2 ∧ (pgT T p).2 < 18446744073709551616 := by
  have := end_rng h p
  rwa [end_pg] at this
/-- A page's word stands at its level. -/
theorem pg_lv {root : Int} {T : Tr} (h : TrOk root T) {p : Nat} {e : Ent} (hd : decR (pgT T p).2 = (e, 0)) (hk : e.k = 1) : ((pgT T p).1 = 0 ∧ e.d = false) ∨ ((pgT T p).1 = 1 ∧ e.d = true) := by
  unfold pgT lvT at *
  cases hT : T (dgF p 2) with
  | none =>
    rw [hT] at hd
    simp only at hd
    rw [dec_zero] at hd
    have := congrArg (fun x : Ent × Int => x.1.k) hd
    simp only [noEnt] at this
    omega
  | some m =>
    rw [hT] at hd
    simp only at hd ⊢
    have hok := h.s _ m hT (dgF p 1)
    cases hs : m.s (dgF p 1) with
    | no =>
      rw [hs] at hd
      simp only [legL] at hd
      rw [dec_zero] at hd
      have := congrArg (fun x : Ent × Int => x.1.k) hd
      simp only [noEnt] at this
      omega
    | huge w f =>
      rw [hs] at hd
      simp only [legL] at hd ⊢
      have := (hok.h w f hs).2.2.1
      rw [hd] at this
      exact .inr ⟨by trivial, this⟩
    | leaf f el =>
      rw [hs] at hd
      simp only [legL] at hd ⊢
      have := (hok.l f el hs (dgF p 0)).2.1
      rw [hd] at this
      rcases this with x | x
      · simp only at x; omega
      · exact .inl ⟨by trivial, x.2⟩
theorem huge_same {T : Tr} {p q : Nat} (hp : p < 512) (hq : q < 512) (h : q / 8 = p / 8) (hl : (pgT T p).1 = 1) : pgT T q = pgT T p := by
  obtain ⟨h1, h2⟩ := (dg_eq hq hp).2 h
  unfold pgT lvT at *
  rw [h1]
  cases hT : T (dgF p 2) with
  | none => rfl
  | some m =>
    rw [hT] at hl
    simp only at hl ⊢
    rw [h2]
    cases hs : m.s (dgF p 1) with
    | no => rfl
    | huge w f => rfl
    | leaf f el => rw [hs] at hl; simp [legL] at hl
/-- A marked word. -/
theorem mark_word {w n : Int} {a b c d wr : Bool} (h : decR w = (⟨1, n, a, b, c, d⟩, 0)) (hw : wr = true → a = true) : markR w wr = (wrd ⟨1, n, a, true, c || wr, d⟩, 0) ∧ decR (wrd ⟨1, n, a, true, c || wr, d⟩) = (⟨1, n, a, true, c || wr, d⟩, 0) ∧ 0 ≤ wrd ⟨1, n, a, true, c || wr, d⟩ ∧ wrd ⟨1, n, a, true, c || wr, d⟩ < 18446744073709551616 := by
  obtain ⟨h1, h2⟩ := decR_zero h
  have ho : okE ⟨1, n, a, true, c || wr, d⟩ := ok_page h1
  have hr := wrd_rng ho
  refine ⟨?_, decR_wrd ho, hr.1, by omega⟩
  have hp : pageR w = (⟨1, n, a, b, c, d⟩, 0) := by unfold pageR; rw [h]; rfl
  unfold markR
  rw [hp]
  have e1 : bits .or .u64 w 16 = wrd ⟨1, n, a, true, c, d⟩ := by rw [h2]; exact w_mark h1
  cases wr with
  | false => simp only [if_neg (show ¬ (0 : Int) ≠ 0 by decide), if_pos, e1, Bool.or_false]
  | true =>
    have ha := hw rfl
    subst ha
    have e2 : bits .or .u64 (wrd ⟨1, n, true, true, c, d⟩) 32 = wrd ⟨1, n, true, true, true, d⟩ := w_mark32 (ok_page h1)
    simp only [if_neg (show ¬ (0 : Int) ≠ 0 by decide), e1, e2, Bool.or_true]
    rfl
/-- What an access answers. -/
def accE (fr : Nat → Int) (wr : Nat → Bool) (p : Nat) (write : Bool) : Int := if fr p < 0 then 13 else if write = true ∧ wr p = false then 12 else 0
def accF (fr : Nat → Int) (wr : Nat → Bool) (p : Nat) (write : Bool) : Int := if accE fr wr p write = 0 then (p : Int) else 0
/-- What an access leaves. -/
structure AccOk (root : Int) (T T' : Tr) (ns' : List ND) (ds : List DP) (fr : Nat → Int) (wr : Nat → Bool) (z : Int) (l' : List TE) : Prop where
  ok : PtOk root T' ns' ds
  iv : Iv z l'
  pg : PgInv T' fr wr
  ce : ∀ x ∈ l', CEnt fr wr x
  fs : ∀ x, x ∈ frT root T' → x ∈ frT root T
  hg : ∀ q, q < 512 → (decR (pgT T' q).2).1.d = (decR (pgT T q).2).1.d
theorem numP_eq {d : Bool} {p q : Nat} (h : d = false → q = p) (h2 : q / 8 = p / 8) : numP d q = numP d p := by
  unfold numP
  cases d with
  | true => simp only [if_true]; rw [h2]
  | false => rw [h rfl]
theorem acc_put {root : Int} {T T' : Tr} {ns' : List ND} {ds : List DP} {fr : Nat → Int} {wr : Nat → Bool} {p : Nat} (hp : p < 512) {b c d wt : Bool} {m : Int} (hI : PgInv T fr wr) (hfr : fr p = (p : Int)) (hw : decR (pgT T p).2 = (⟨1, numP d p, wr p, b, c, d⟩, 0)) (hd : ((pgT T p).1 = 0 ∧ d = false) ∨ ((pgT T p).1 = 1 ∧ d = true))
    (hm : decR m = (⟨1, numP d p, wr p, true, c || wt, d⟩, 0)) (hP : PutOk root T T' ns' ds p (pgT T p).1 m) : PgInv T' fr wr ∧ ∀ q, q < 512 → (decR (pgT T' q).2).1.d = (decR (pgT T q).2).1.d := by
  have key : ∀ q, q < 512 → (q / 8 = p / 8 ∧ ((pgT T p).1 = 0 → q = p)) → fr q = (q : Int) ∧ wr q = wr p ∧ numP d q = numP d p ∧ (decR (pgT T q).2).1.d = d := fun q hq ⟨h1, h2⟩ => by
    rcases hd with ⟨e1, e2⟩ | ⟨e1, e2⟩
    · have := h2 e1
      subst this
      exact ⟨hfr, rfl, rfl, by rw [hw]⟩
    · have hs := huge_same hp hq h1 e1
      subst e2
      have hn := numP_eq (d := true) (p := p) (q := q) (fun x => by cases x) h1
      rcases hI.pg q hq with ⟨x1, x2⟩ | ⟨x1, x2⟩
      · rw [hs] at x2
        rw [x2, dec_zero] at hw
        have := congrArg (fun x : Ent × Int => x.1.k) hw
        simp [noEnt] at this
      · obtain ⟨b', c', d', x3⟩ := x2.e
        rw [hs, hw] at x3
        have := congrArg (fun x : Ent × Int => x.1.a) x3
        exact ⟨x1, this.symm, hn, by rw [hs, hw]⟩
  refine ⟨⟨fun q hq => ?_⟩, fun q hq => ?_⟩
  · rw [hP.at_ q hq]
    by_cases hc : q / 8 = p / 8 ∧ ((pgT T p).1 = 0 → q = p)
    · rw [if_pos hc]
      obtain ⟨k1, k2, k3, _⟩ := key q hq hc
      refine .inr ⟨k1, ⟨true, c || wt, d, ?_⟩⟩
      rw [k3, k2]
      exact hm
    · rw [if_neg hc]; exact hI.pg q hq
  · rw [hP.at_ q hq]
    by_cases hc : q / 8 = p / 8 ∧ ((pgT T p).1 = 0 → q = p)
    · rw [if_pos hc, (key q hq hc).2.2.2, hm]
    · rw [if_neg hc]
theorem cov_iff {x : TE} {s p : Int} : covM x s p = true ↔ x.s = s ∧ x.p ≤ p ∧ p < x.p + spanM x.w := by unfold covM; exact decide_eq_true_iff
theorem hu_of {w n : Int} {a b c d : Bool} (h : decR w = (⟨1, n, a, b, c, d⟩, 0)) : hu w = d := by unfold hu; rw [h]; simp
theorem tr_dec {w n : Int} {a b c d : Bool} (h : decR w = (⟨1, n, a, b, c, d⟩, 0)) : tr w = true := by unfold tr; rw [h]; simp
/-- The entry that Fill adds agrees. -/
theorem ce_new {fr : Nat → Int} {wr : Nat → Bool} {p : Nat} (hp : p < 512) {b c d : Bool} {m : Int} (hm : decR m = (⟨1, numP d p, wr p, b, c, d⟩, 0)) (hk : ∀ q, q < 512 → q / 8 = p / 8 → (d = false → q = p) → fr q = (q : Int) ∧ wr q = wr p) : CEnt fr wr (mkX 3 p m) := by
  have hh := hu_of hm
  refine ⟨rfl, fun q hq hc => ?_⟩
  obtain ⟨_, c2, c3⟩ := cov_iff.1 hc
  have hcov : q / 8 = p / 8 ∧ (d = false → q = p) := by
    unfold spanM at c3
    rw [show (mkX 3 p m).w = m from rfl, hh] at c3
    have hxp : (mkX 3 (p : Int) m).p = if d = true then grp p else (p : Int) := by unfold mkX; rw [hh]
    rw [hxp] at c2 c3
    cases d with
    | true =>
      simp only [if_true] at c2 c3
      unfold grp at c2 c3
      exact ⟨by omega, fun x => by cases x⟩
    | false =>
      simp only [Bool.false_eq_true, if_false] at c2 c3
      have : q = p := by omega
      exact ⟨by rw [this], fun _ => this⟩
  obtain ⟨k1, k2⟩ := hk q hq hcov.1 hcov.2
  refine ⟨k1, wr p, b, c, d, ?_, fun x => by rw [k2]; exact x⟩
  rw [numP_eq hcov.2 hcov.1]
  exact hm
theorem look_mem {z : Int} {l : List TE} (h : Iv z l) {p : Nat} : lookM z l 3 p = (0, false) ∨ ∃ x ∈ l, covM x 3 (p : Int) = true ∧ lookM z l 3 p = (x.w, true) := by
  unfold lookM
  rw [if_pos (check_ok.2 h.ok)]
  unfold lookL
  cases hf : l.find? (fun x => covM x 3 (p : Int)) with
  | none => exact .inl rfl
  | some x => exact .inr ⟨x, List.mem_of_find?_eq_some hf, by simpa using List.find?_some hf, rfl⟩
end Go.Proofs.YtbgjelhefhcnpaaGreat

/- The walks of package mmu. No conditions. -/
set_option linter.unusedSimpArgs false
set_option linter.unusedVariables false
namespace Go.Proofs.YtbgjelhefhcnpaaGreat
open Go Go.RowKit
attribute [local irreducible] Code.wp wpList bodyPost Exit.then Exit.inBlock Calls wpQuiet Tri TriQ
section
variable (w0 : World) (cs : List Chunk)
theorem copyTable_c {root : Int} {vn vd : Value} {ns : List ND} {ds : List DP} (hN : RdH (Hp w0 cs) vn ns) (hD : RdH (Hp w0 cs) vd ds) (h1 : ns.length ≤ 1000) (h2 : ds.length ≤ 1000) : Cal Tryz.prog 21 [ptV root vn vd] (Hp w0 cs) (fun y : Row × Row => ptV root y.1.v y.2.v)
    (fun y => Hp w0 (ndS y.1 ns :: dpS y.2 ds :: cs)) := by
  refine cal_of_tri Tryz.func21 rfl Tryz.ntmps21 rfl ?_
  (repeat (first | refine tri_seq ?_ | refine tri_then ?_)); refine tri_region ?_; (repeat (first | refine au_pure ?_ | refine au_pass ?_ | refine au_box (fun _ => ?_) | refine au_alloc (fun _ => ?_) | refine au_store ?_ | refine au_make rfl rfl (fun _ => ?_) | refine au_lit rfl rfl rfl (fun _ => ?_) | refine au_append rfl rfl rfl rfl (fun _ => au_norm ?_) | refine au_storeE rfl rfl rfl rfl ?_)); refine tri_nil ?_; (repeat refine tri_then ?_)
  rename_i g1 g2
  refine tri_weak (H' := Hp w0 (ptC g2 0 (.slice none 0 0) (.slice none 0 0) :: ptC g1 root vn vd :: cs)) (fun w h => h) ?_
  refine tri_nilrow ND 89 ?_
  (repeat (first | refine zz ?_ | refine zv fun _ => ?_))
  refine au_append (i := 0) (l := ([] : List ND)) (l2 := ns) rfl rfl rfl rfl (fun r1 => ?_) (hi := rfl) (h2 := hN.cons.cons.cons) (hb := by simp only [List.length_nil]; omega)
  refine tri_weak (H' := Hp w0 (ndS r1 ns :: ptC g2 0 (.slice none 0 0) (.slice none 0 0) :: ptC g1 root vn vd :: cs)) (fun w h => h) ?_
  (repeat (first | refine zz ?_ | refine zv fun _ => ?_))
  refine tri_weak (H' := Hp w0 (ndS r1 ns :: ptC g2 0 (.slice none 0 0) (.slice none 0 0) :: ptC g1 root r1.v vd :: cs)) (fun w h => h) ?_
  refine tri_nilrow DP 116 ?_
  refine au_append (i := 0) (l := ([] : List DP)) (l2 := ds) rfl rfl rfl rfl (fun r2 => ?_) (hi := rfl) (h2 := hD.cons.cons.cons.cons) (hb := by simp only [List.length_nil]; omega)
  refine tri_weak (H' := Hp w0 (dpS r2 ds :: ndS r1 ns :: ptC g2 0 (.slice none 0 0) (.slice none 0 0) :: ptC g1 root r1.v vd :: cs)) (fun w h => h) ?_
  (repeat (first | refine zz ?_ | refine zv fun _ => ?_))
  refine au_done1 rfl ?_
  exact fun w hw => ⟨⟨r1, r2⟩, rfl, (hw.sub (List.Sublist.cons_cons _ (List.Sublist.cons_cons _ (List.Sublist.cons _ (List.Sublist.cons _ (List.Sublist.refl _)))))).perm (List.Perm.swap _ _ _)⟩
theorem copyTlb_c {z : Int} {v : Value} {l : List TE} (hB : RdH (Hp w0 cs) v l) (h1 : l.length ≤ 1000) : Cal Tryz.prog 22 [tlbV z v] (Hp w0 cs) (fun r : Row => tlbV z r.v) (fun r => Hp w0 (teS r l :: cs)) := by
  refine cal_of_tri Tryz.func22 rfl Tryz.ntmps22 rfl ?_
  (repeat (first | refine tri_seq ?_ | refine tri_then ?_)); refine tri_region ?_; (repeat (first | refine au_pure ?_ | refine au_pass ?_ | refine au_box (fun _ => ?_) | refine au_alloc (fun _ => ?_) | refine au_store ?_ | refine au_make rfl rfl (fun _ => ?_) | refine au_lit rfl rfl rfl (fun _ => ?_) | refine au_append rfl rfl rfl rfl (fun _ => au_norm ?_) | refine au_storeE rfl rfl rfl rfl ?_)); refine tri_nil ?_; (repeat refine tri_then ?_)
  rename_i g1 g2
  refine tri_weak (H' := Hp w0 (tlbC g2 0 (.slice none 0 0) :: tlbC g1 z v :: cs)) (fun w h => h) ?_
  refine tri_nilrow TE 118 ?_
  (repeat (first | refine zz ?_ | refine zv fun _ => ?_))
  refine au_append (i := 0) (l := ([] : List TE)) (l2 := l) rfl rfl rfl rfl (fun r1 => ?_) (hi := rfl) (h2 := hB.cons.cons.cons) (hb := by simp only [List.length_nil]; omega)
  refine tri_weak (H' := Hp w0 (teS r1 l :: tlbC g2 0 (.slice none 0 0) :: tlbC g1 z v :: cs)) (fun w h => h) ?_
  (repeat (first | refine zz ?_ | refine zv fun _ => ?_))
  refine au_done1 rfl ?_
  exact fun w hw => ⟨r1, rfl, hw.sub (List.Sublist.cons_cons _ (List.Sublist.cons _ (List.Sublist.cons _ (List.Sublist.refl _))))⟩
theorem frame_c {p : Nat} {k : Int} {a b c d : Bool} (hp : p < 512) : Cal Tryz.prog 23 [entV k (numP d p) a b c d, .int .i64 (p : Int)] (Hp w0 cs) (fun _ : Unit => .int .i64 (p : Int)) (fun _ => Hp w0 cs) := by
  cases d with
  | true =>
    rw [show numP true p = ((8 * (p / 8) : Nat) : Int) from rfl]
    refine cal_of_tri Tryz.func23 rfl Tryz.ntmps23 rfl ?_
    (repeat (first | refine zz ?_ | refine zv fun _ => ?_))
    refine au_pure ?_ (hy := yl_remn rfl rfl rfl (by omega))
    (repeat (first | refine zz ?_ | refine zv fun _ => ?_))
    rw [show ((8 * (p / 8) : Nat) : Int) + (p : Int) % 8 = (p : Int) by omega]
    (repeat (first | refine zz ?_ | refine zv fun _ => ?_))
    refine au_done1 rfl ?_
    exact fun w hw => ⟨(), rfl, hw.tail⟩
  | false =>
    rw [show numP false p = (p : Int) from rfl]
    refine cal_of_tri Tryz.func23 rfl Tryz.ntmps23 rfl ?_
    (repeat (first | refine zz ?_ | refine zv fun _ => ?_))
    refine au_done1 rfl ?_
    exact fun w hw => ⟨(), rfl, hw.tail⟩
theorem refused_c {k n : Int} {a b c d : Bool} (wt : Bool) {e : Int} (he : e = if k ≠ 1 then 13 else if wt = true ∧ a = false then 12 else 0) : Cal Tryz.prog 25 [entV k n a b c d, .bool wt] (Hp w0 cs) (fun _ : Unit => .int .i64 e) (fun _ => Hp w0 cs) := by
  subst he
  refine cal_of_tri Tryz.func25 rfl Tryz.ntmps25 rfl ?_
  (repeat (first | refine zz ?_ | refine zv fun _ => ?_))
  by_cases hk : k = 1
  · subst hk
    rw [show ((1 : Int) != 1) = false from rfl]
    cases wt with
    | false =>
      (repeat (first | refine zz ?_ | refine zv fun _ => ?_))
      refine au_done1 rfl ?_
      exact fun w hw => ⟨(), rfl, hw.tail⟩
    | true =>
      cases a with
      | true =>
        (repeat (first | refine zz ?_ | refine zv fun _ => ?_))
        refine au_done1 rfl ?_
        exact fun w hw => ⟨(), rfl, hw.tail⟩
      | false =>
        (repeat (first | refine zz ?_ | refine zv fun _ => ?_))
        refine au_done1 rfl ?_
        exact fun w hw => ⟨(), rfl, hw.tail⟩
  · rw [show (k != 1) = true by simpa using hk]
    (repeat (first | refine zz ?_ | refine zv fun _ => ?_))
    refine au_done1 rfl ?_
    exact fun w hw => ⟨(), by rw [if_pos hk], hw.tail⟩
end
end Go.Proofs.YtbgjelhefhcnpaaGreat

/- The walk of package mmu's Access. No conditions. -/
set_option linter.unusedSimpArgs false
set_option linter.unusedVariables false
namespace Go.Proofs.YtbgjelhefhcnpaaGreat
open Go Go.RowKit
abbrev AccY : Type := Row × Row × Row × List ND × Tr × List TE
theorem inv_ok {z : Int} {l : List TE} (h : Iv z l) {p : Nat} (hp : p < 512) : invE z l 3 p = 0 := by
  unfold invE
  rw [if_pos (check_ok.2 h.ok)]
  exact plc_of (by omega) (by omega)
theorem mk_ok {z : Int} {l : List TE} (h : Iv z l) {p : Nat} (hp : p < 512) {m : Int} (ht : tr m = true) : mkE z l 3 p m = 0 := by
  unfold mkE
  rw [if_pos (check_ok.2 h.ok), if_pos (plc_of (by omega) (by omega)), ht]
  rfl
attribute [local irreducible] decR ixL endP pgT invL mkL mkX markR accE accF numP
attribute [local irreducible] Code.wp wpList bodyPost Exit.then Exit.inBlock Calls wpQuiet Tri TriQ
section
variable (w0 : World) (cs : List Chunk)
set_option maxHeartbeats 8000000 in
theorem Access_c {root : Int} {T : Tr} {ns : List ND} {ds : List DP} (h : PtOk root T ns ds) {vn vd vb : Value} (hN : RdH (Hp w0 cs) vn ns) (hD : RdH (Hp w0 cs) vd ds) {z : Int} {l : List TE} (hB : RdH (Hp w0 cs) vb l) (hiv : Iv z l) {fr : Nat → Int} {wr : Nat → Bool} (hI : PgInv T fr wr) (hC : ∀ x ∈ l, CEnt fr wr x) {p : Nat} (hp : p < 512) (wt : Bool) :
    Cal Tryz.prog 8 [ptV root vn vd, tlbV z vb, .int .i64 3, .int .i64 (p : Int), .bool wt] (Hp w0 cs) (fun y : {y : AccY // AccOk root T y.2.2.2.2.1 y.2.2.2.1 ds fr wr z y.2.2.2.2.2} => .tuple #[ptV root y.1.1.v y.1.2.1.v, tlbV z y.1.2.2.1.v, .int .i64 (accF fr wr p wt), .int .i64 (accE fr wr p wt)])
      (fun y => Hp w0 (ndS y.1.1 y.1.2.2.2.1 :: dpS y.1.2.1 ds :: teS y.1.2.2.1 y.1.2.2.2.2.2 :: cs)) := by
  have hnl := h.nlen
  have hdl := h.dlen
  have hll := hiv.len
  have hchk := check_ok.2 hiv.ok
  have hrg := pg_rng h.t p
  have hend := end_pg root T p
  have hsame : AccOk root T T ns ds fr wr z l := ⟨h, hiv, hI, hC, fun _ x => x, fun _ _ => rfl⟩
  refine cal_of_tri Tryz.func8 rfl Tryz.ntmps8 rfl ?_
  (repeat (first | refine tri_seq ?_ | refine tri_then ?_)); refine tri_region ?_; (repeat (first | refine au_pure ?_ | refine au_pass ?_ | refine au_box (fun _ => ?_) | refine au_alloc (fun _ => ?_) | refine au_store ?_ | refine au_make rfl rfl (fun _ => ?_) | refine au_lit rfl rfl rfl (fun _ => ?_) | refine au_append rfl rfl rfl rfl (fun _ => au_norm ?_) | refine au_storeE rfl rfl rfl rfl ?_)); refine tri_nil ?_; (repeat refine tri_then ?_)
  rename_i g5 g6 g10 g11
  refine tri_weak (H' := Hp w0 (tlbC g11 0 (.slice none 0 0) :: ptC g10 0 (.slice none 0 0) (.slice none 0 0) :: tlbC g6 z vb :: ptC g5 root vn vd :: cs)) (fun w h => h) ?_
  have hN4 := hN.cons (c := ptC g5 root vn vd) |>.cons (c := tlbC g6 z vb) |>.cons (c := ptC g10 0 (.slice none 0 0) (.slice none 0 0)) |>.cons (c := tlbC g11 0 (.slice none 0 0))
  have hD4 := hD.cons (c := ptC g5 root vn vd) |>.cons (c := tlbC g6 z vb) |>.cons (c := ptC g10 0 (.slice none 0 0) (.slice none 0 0)) |>.cons (c := tlbC g11 0 (.slice none 0 0))
  have hB4 := hB.cons (c := ptC g5 root vn vd) |>.cons (c := tlbC g6 z vb) |>.cons (c := ptC g10 0 (.slice none 0 0) (.slice none 0 0)) |>.cons (c := tlbC g11 0 (.slice none 0 0))
  (repeat (first | refine zz ?_ | refine zv fun _ => ?_))
  refine au_callC rfl rfl rfl rfl rfl (Check_c w0 _ (vn := vn) (vd := vd) h hN4 hD4) (fun _ => ?_)
  (repeat (first | refine zz ?_ | refine zv fun _ => ?_))
  refine au_callC rfl rfl rfl rfl rfl (check_c w0 _ (z := z) (v := vb) (l := l) hB4 (by omega) hiv.wf) (fun _ => ?_)
  rw [hchk]
  (repeat (first | refine zz ?_ | refine zv fun _ => ?_))
  rw [show decide ((p : Int) < 0) = false from decide_eq_false (by omega)]
  (repeat (first | refine zz ?_ | refine zv fun _ => ?_))
  rw [show decide ((p : Int) ≥ 512) = false from decide_eq_false (by omega)]
  (repeat (first | refine zz ?_ | refine zv fun _ => ?_))
  refine au_callC rfl rfl rfl rfl rfl (lookup_c w0 _ (z := z) (v := vb) (l := l) 3 (p : Int) hB4 (by omega) hiv.wf) (fun _ => ?_)
  (repeat (first | refine zz ?_ | refine zv fun _ => ?_))
  refine tri_cut1 (fun _ : Unit => True) (fun _ => [(2, .int .i64 3), (3, .int .i64 (p : Int)), (4, .bool wt), (5, pR g5), (6, pR g6), (10, pR g10), (11, pR g11)]) (fun _ => Hp w0 (tlbC g11 0 (.slice none 0 0) :: ptC g10 0 (.slice none 0 0) (.slice none 0 0) :: tlbC g6 z vb :: ptC g5 root vn vd :: cs)) ?_ ?_
  rotate_left
  · rintro _ _
    (repeat (first | refine zz ?_ | refine zv fun _ => ?_))
    refine au_callC rfl rfl rfl rfl rfl (Walk_c w0 _ (vn := vn) (vd := vd) h hN4 hD4 hp) (fun _ => ?_)
    rw [hend]
    (repeat (first | refine zz ?_ | refine zv fun _ => ?_))
    have hinvOk : AccOk root T T ns ds fr wr z (invL l 3 p) := by
      unfold invL
      exact ⟨h, iv_filter hiv _, hI, fun x hx => hC x (List.mem_filter.1 hx).1, fun _ x => x, fun _ _ => rfl⟩
    rcases hI.pg p hp with ⟨hf0, hw0⟩ | ⟨hf1, hup⟩
    · have hE : accE fr wr p wt = 13 := by unfold accE; rw [hf0]; rfl
      have hF : accF fr wr p wt = 0 := by unfold accF; rw [hE]; rfl
      rw [hw0]
      refine au_call rfl rfl (cl_of rfl rfl rfl (fun _ h => Ret.hp (decode_at _ (by decide) (by decide) dec_zero) h)) ?_
      refine zz ?_
      refine zz ?_
      refine zz ?_
      refine zv fun g23 => ?_
      refine zz ?_
      refine tri_weak (H' := Hp w0 (enC g23 0 0 false false false false :: tlbC g11 0 (.slice none 0 0) :: ptC g10 0 (.slice none 0 0) (.slice none 0 0) :: tlbC g6 z vb :: ptC g5 root vn vd :: cs)) (fun w h => h) ?_
      (repeat (first | refine zz ?_ | refine zv fun _ => ?_))
      refine au_callC rfl rfl rfl rfl rfl (refused_c w0 _ (k := 0) (n := 0) (a := false) (b := false) (c := false) (d := false) wt (e := 13) rfl) (fun _ => ?_)
      (repeat (first | refine zz ?_ | refine zv fun _ => ?_))
      refine au_callC rfl rfl rfl rfl rfl (inval_c w0 _ (z := z) (v := vb) (l := l) 3 (p : Int) (hB4.cons) (by omega) hiv.wf) ?_
      intro rb
      rw [inv_ok hiv hp]
      (repeat (first | refine zz ?_ | refine zv fun _ => ?_))
      rename_i g26
      refine tri_weak (H' := Hp w0 (tlbC g26 z rb.v :: teS rb (invL l 3 p) :: enC g23 0 0 false false false false :: tlbC g11 0 (.slice none 0 0) :: ptC g10 0 (.slice none 0 0) (.slice none 0 0) :: tlbC g6 z vb :: ptC g5 root vn vd :: cs)) (fun w h => h) ?_
      (repeat (first | refine tri_seq ?_ | refine tri_then ?_))
      refine ar_held [] (tlbC g26 z rb.v :: teS rb (invL l 3 p) :: enC g23 0 0 false false false false :: tlbC g6 z vb :: ptC g5 root vn vd :: cs) rfl ?_
      refine ar_take 0 rfl rfl rfl ?_; refine ar_take 2 rfl rfl rfl ?_; refine ar_take 3 rfl rfl rfl ?_
      refine ar_op 1 rfl ?_
      refine au_callC rfl rfl rfl rfl rfl (copyTable_c w0 _ (vn := vn) (vd := vd) hN4.cons.cons.cons hD4.cons.cons.cons (by omega) (by omega)) ?_
      rintro ⟨rn, rd⟩
      refine tri_nil ?_; refine ar_in ?_
      refine ar_op 4 rfl ?_
      refine au_store ?_
      refine tri_nil ?_; refine ar_in ?_
      refine ar_op 5 rfl ?_
      refine au_store ?_
      refine tri_nil ?_; refine ar_in ?_
      refine ar_take 6 rfl rfl rfl ?_; refine ar_take 7 rfl rfl rfl ?_
      refine ar_done ?_
      refine tri_weak (H' := Hp w0 (ndS rn ns :: dpS rd ds :: tlbC g26 z rb.v :: teS rb (invL l 3 p) :: enC g23 0 0 false false false false :: tlbC g11 z rb.v :: ptC g10 root rn.v rd.v :: tlbC g6 z vb :: ptC g5 root vn vd :: cs)) (fun w h => h) ?_
      (repeat (first | refine zz ?_ | refine zv fun _ => ?_))
      refine au_done4 rfl ?_
      exact fun w hw => ⟨⟨⟨rn, rd, rb, ns, T, invL l 3 p⟩, hinvOk⟩, by rw [hE, hF], hw.sub (List.Sublist.cons_cons _ (List.Sublist.cons_cons _ (List.Sublist.cons _ (List.Sublist.cons_cons _ (List.Sublist.cons _ (List.Sublist.cons _ (List.Sublist.cons _ (List.Sublist.cons _ (List.Sublist.cons _ (List.Sublist.refl _))))))))))⟩
    · obtain ⟨b, c, d, hdw⟩ := hup.e
      have hne := up_ne hup
      have hlvd := pg_lv h.t hdw rfl
      obtain ⟨o, ho⟩ : ∃ o, o = (pgT T p).2 := ⟨_, rfl⟩
      obtain ⟨lv, hlv⟩ : ∃ lv, lv = (pgT T p).1 := ⟨_, rfl⟩
      have hpt : pgT T p = (lv, o) := by rw [ho, hlv]
      rw [← ho] at hrg hne ⊢
      have hdw' := hdw
      rw [← ho] at hdw'
      have hlvd' := hlvd
      rw [← hlv] at hlvd'
      refine au_call rfl rfl (cl_of rfl rfl rfl (fun _ h => Ret.hp (decode_at _ hrg.1 hrg.2 hdw') h)) ?_
      refine zz ?_
      refine zz ?_
      refine zz ?_
      refine zv fun g23 => ?_
      refine zz ?_
      refine tri_weak (H' := Hp w0 (enC g23 1 (numP d p) (wr p) b c d :: tlbC g11 0 (.slice none 0 0) :: ptC g10 0 (.slice none 0 0) (.slice none 0 0) :: tlbC g6 z vb :: ptC g5 root vn vd :: cs)) (fun w h => h) ?_
      (repeat (first | refine zz ?_ | refine zv fun _ => ?_))
      by_cases hden : wt = true ∧ wr p = false
      · have hE : accE fr wr p wt = 12 := by unfold accE; rw [hf1, if_neg (by omega), if_pos hden]
        have hF : accF fr wr p wt = 0 := by unfold accF; rw [hE]; rfl
        refine au_callC rfl rfl rfl rfl rfl (refused_c w0 _ (k := 1) (n := numP d p) (a := wr p) (b := b) (c := c) (d := d) wt (e := 12) (by rw [if_neg (by decide), if_pos hden])) (fun _ => ?_)
        (repeat (first | refine zz ?_ | refine zv fun _ => ?_))
        refine au_callC rfl rfl rfl rfl rfl (inval_c w0 _ (z := z) (v := vb) (l := l) 3 (p : Int) (hB4.cons) (by omega) hiv.wf) ?_
        intro rb
        rw [inv_ok hiv hp]
        (repeat (first | refine zz ?_ | refine zv fun _ => ?_))
        rename_i g26
        refine tri_weak (H' := Hp w0 (tlbC g26 z rb.v :: teS rb (invL l 3 p) :: enC g23 1 (numP d p) (wr p) b c d :: tlbC g11 0 (.slice none 0 0) :: ptC g10 0 (.slice none 0 0) (.slice none 0 0) :: tlbC g6 z vb :: ptC g5 root vn vd :: cs)) (fun w h => h) ?_
        (repeat (first | refine tri_seq ?_ | refine tri_then ?_))
        refine ar_held [] (tlbC g26 z rb.v :: teS rb (invL l 3 p) :: enC g23 1 (numP d p) (wr p) b c d :: tlbC g6 z vb :: ptC g5 root vn vd :: cs) rfl ?_
        refine ar_take 0 rfl rfl rfl ?_; refine ar_take 2 rfl rfl rfl ?_; refine ar_take 3 rfl rfl rfl ?_
        refine ar_op 1 rfl ?_
        refine au_callC rfl rfl rfl rfl rfl (copyTable_c w0 _ (vn := vn) (vd := vd) hN4.cons.cons.cons hD4.cons.cons.cons (by omega) (by omega)) ?_
        rintro ⟨rn, rd⟩
        refine tri_nil ?_; refine ar_in ?_
        refine ar_op 4 rfl ?_
        refine au_store ?_
        refine tri_nil ?_; refine ar_in ?_
        refine ar_op 5 rfl ?_
        refine au_store ?_
        refine tri_nil ?_; refine ar_in ?_
        refine ar_take 6 rfl rfl rfl ?_; refine ar_take 7 rfl rfl rfl ?_
        refine ar_done ?_
        refine tri_weak (H' := Hp w0 (ndS rn ns :: dpS rd ds :: tlbC g26 z rb.v :: teS rb (invL l 3 p) :: enC g23 1 (numP d p) (wr p) b c d :: tlbC g11 z rb.v :: ptC g10 root rn.v rd.v :: tlbC g6 z vb :: ptC g5 root vn vd :: cs)) (fun w h => h) ?_
        (repeat (first | refine zz ?_ | refine zv fun _ => ?_))
        refine au_done4 rfl ?_
        exact fun w hw => ⟨⟨⟨rn, rd, rb, ns, T, invL l 3 p⟩, hinvOk⟩, by rw [hE, hF], hw.sub (List.Sublist.cons_cons _ (List.Sublist.cons_cons _ (List.Sublist.cons _ (List.Sublist.cons_cons _ (List.Sublist.cons _ (List.Sublist.cons _ (List.Sublist.cons _ (List.Sublist.cons _ (List.Sublist.cons _ (List.Sublist.refl _))))))))))⟩
      · have hE : accE fr wr p wt = 0 := by unfold accE; rw [hf1, if_neg (by omega), if_neg hden]
        have hF : accF fr wr p wt = (p : Int) := by unfold accF; rw [hE]; rfl
        have hwt : wt = true → wr p = true := fun x => by
          cases hq : wr p with
          | true => rfl
          | false => exact absurd ⟨x, hq⟩ hden
        obtain ⟨m1, m2, m3, m4⟩ := mark_word hdw' hwt
        obtain ⟨m, hm⟩ : ∃ m, m = wrd ⟨1, numP d p, wr p, true, c || wt, d⟩ := ⟨_, rfl⟩
        rw [← hm] at m1 m2 m3 m4
        have htm := tr_dec m2
        refine au_callC rfl rfl rfl rfl rfl (refused_c w0 _ (k := 1) (n := numP d p) (a := wr p) (b := b) (c := c) (d := d) wt (e := 0) (by rw [if_neg (by decide), if_neg hden])) (fun _ => ?_)
        (repeat (first | refine zz ?_ | refine zv fun _ => ?_))
        refine au_call rfl rfl (cl_of rfl rfl rfl (fun _ h => Ret.hp (mark_at _ hrg.1 hrg.2 m1) h)) ?_
        (repeat (first | refine zz ?_ | refine zv fun _ => ?_))
        refine au_callC rfl rfl rfl rfl rfl (Replace_c w0 _ (vn := vn) (vd := vd) h hN4.cons hD4.cons hp hpt hne m2 ⟨m3, m4⟩ hlvd') ?_
        rintro ⟨⟨rn, rd, N2, T2⟩, hput⟩
        (repeat (first | refine zz ?_ | refine zv fun _ => ?_))
        rename_i g30
        refine tri_weak (H' := Hp w0 (ptC g30 root rn.v rd.v :: ndS rn N2 :: dpS rd ds :: enC g23 1 (numP d p) (wr p) b c d :: tlbC g11 0 (.slice none 0 0) :: ptC g10 0 (.slice none 0 0) (.slice none 0 0) :: tlbC g6 z vb :: ptC g5 root vn vd :: cs)) (fun w h => h) ?_
        refine au_callC rfl rfl rfl rfl rfl (fill_c w0 _ (z := z) (v := vb) (l := l) 3 (p : Int) m hB4.cons.cons.cons.cons (by omega) hiv.wf m3 m4) ?_
        intro rb
        rw [mk_ok hiv hp htm]
        (repeat (first | refine zz ?_ | refine zv fun _ => ?_))
        rename_i g33
        have hacc : AccOk root T T2 N2 ds fr wr z (mkL z l (mkX 3 p m)) := by
          have hput' : PutOk root T T2 N2 ds p (pgT T p).1 m := by rw [← hlv]; exact hput
          obtain ⟨a1, a2⟩ := acc_put hp hI hf1 hdw hlvd (wt := wt) m2 hput'
          have hvx := mkX_vd (s := 3) (p := (p : Int)) (plc_of (by omega) (by omega)) htm
          refine ⟨hput.ok, iv_fill hiv hvx (hvx.wf (by unfold mkX; exact ⟨m3, m4⟩)), a1, fun x hx => ?_, fun x hx => hput.fr.mem_iff.1 hx, a2⟩
          unfold mkL at hx
          rcases List.mem_append.1 hx with e | e
          · exact hC x (mkK_mem (dropK_mem e)).1
          · rw [List.mem_singleton.1 e]
            refine ce_new hp m2 fun q hq h1 h2 => ?_
            rcases hlvd with ⟨e1, e2⟩ | ⟨e1, e2⟩
            · have := h2 e2
              subst this
              exact ⟨hf1, rfl⟩
            · have hs := huge_same hp hq h1 e1
              rcases hI.pg q hq with ⟨x1, x2⟩ | ⟨x1, x2⟩
              · rw [hs, ← ho] at x2; exact absurd x2 hne
              · obtain ⟨b', c', d', x3⟩ := x2.e
                rw [hs, hdw] at x3
                exact ⟨x1, (congrArg (fun x : Ent × Int => x.1.a) x3).symm⟩
        refine tri_weak (H' := Hp w0 (tlbC g33 z rb.v :: teS rb (mkL z l (mkX 3 p m)) :: ptC g30 root rn.v rd.v :: ndS rn N2 :: dpS rd ds :: enC g23 1 (numP d p) (wr p) b c d :: tlbC g11 0 (.slice none 0 0) :: ptC g10 0 (.slice none 0 0) (.slice none 0 0) :: tlbC g6 z vb :: ptC g5 root vn vd :: cs)) (fun w h => h) ?_
        (repeat (first | refine tri_seq ?_ | refine tri_then ?_))
        refine ar_held [] (tlbC g33 z rb.v :: teS rb (mkL z l (mkX 3 p m)) :: ptC g30 root rn.v rd.v :: ndS rn N2 :: dpS rd ds :: enC g23 1 (numP d p) (wr p) b c d :: tlbC g6 z vb :: ptC g5 root vn vd :: cs) rfl ?_
        refine ar_take 0 rfl rfl rfl ?_; refine ar_take 1 rfl rfl rfl ?_; refine ar_take 2 rfl rfl rfl ?_; refine ar_take 3 rfl rfl rfl ?_
        refine ar_op 4 rfl ?_
        refine au_callC rfl rfl rfl rfl rfl (frame_c w0 _ (k := 1) (a := wr p) (b := b) (c := c) (d := d) hp) (fun _ => ?_)
        refine tri_nil ?_; refine ar_in ?_
        refine ar_op 5 rfl ?_
        refine au_store ?_
        refine tri_nil ?_; refine ar_in ?_
        refine ar_op 6 rfl ?_
        refine au_store ?_
        refine tri_nil ?_; refine ar_in ?_
        refine ar_take 7 rfl rfl rfl ?_; refine ar_take 8 rfl rfl rfl ?_
        refine ar_done ?_
        refine tri_weak (H' := Hp w0 (tlbC g33 z rb.v :: teS rb (mkL z l (mkX 3 p m)) :: ptC g30 root rn.v rd.v :: ndS rn N2 :: dpS rd ds :: enC g23 1 (numP d p) (wr p) b c d :: tlbC g11 z rb.v :: ptC g10 root rn.v rd.v :: tlbC g6 z vb :: ptC g5 root vn vd :: cs)) (fun w h => h) ?_
        (repeat (first | refine zz ?_ | refine zv fun _ => ?_))
        refine au_done4 rfl ?_
        exact fun w hw => ⟨⟨⟨rn, rd, rb, N2, T2, mkL z l (mkX 3 p m)⟩, hacc⟩, by rw [hE, hF], (hw.tail.sub (List.Sublist.cons_cons _ (List.Sublist.cons _ (List.Sublist.cons_cons _ (List.Sublist.cons_cons _ (List.Sublist.cons _ (List.Sublist.cons _ (List.Sublist.cons _ (List.Sublist.cons _ (List.Sublist.cons _ (List.Sublist.refl _))))))))))).perm ((List.Perm.swap _ _ _).trans (List.Perm.cons _ (List.Perm.swap _ _ _)))⟩
  rcases look_mem hiv (p := p) with e | ⟨x, hx, hcx, e⟩
  · rw [e]
    (repeat (first | refine zz ?_ | refine zv fun _ => ?_))
    exact tri_mt1 () trivial (by repeat (first | exact trivial | refine ⟨rfl, ?_⟩)) (fun w h => h)
  · obtain ⟨hf1, a, b, c, d, hdx, haw⟩ := (hC x hx).c p hp hcx
    have hwx := (hiv.wf x hx).2.2
    rw [e]
    (repeat (first | refine zz ?_ | refine zv fun _ => ?_))
    refine au_call rfl rfl (cl_of rfl rfl rfl (fun _ h => Ret.hp (decode_at _ hwx.1 hwx.2 hdx) h)) ?_
    refine zz ?_
    refine zz ?_
    refine zz ?_
    refine zv fun g18 => ?_
    refine zz ?_
    refine tri_weak (H' := Hp w0 (enC g18 1 (numP d p) a b c d :: tlbC g11 0 (.slice none 0 0) :: ptC g10 0 (.slice none 0 0) (.slice none 0 0) :: tlbC g6 z vb :: ptC g5 root vn vd :: cs)) (fun w h => h) ?_
    cases wt with
    | false =>
      have hE : accE fr wr p false = 0 := by unfold accE; rw [hf1, if_neg (by omega), if_neg (by simp)]
      have hF : accF fr wr p false = (p : Int) := by unfold accF; rw [hE]; rfl
      (repeat (first | refine zz ?_ | refine zv fun _ => ?_))
      (repeat (first | refine tri_seq ?_ | refine tri_then ?_))
      refine ar_held [] (enC g18 1 (numP d p) a b c d :: tlbC g6 z vb :: ptC g5 root vn vd :: cs) rfl ?_
      refine ar_take 0 rfl rfl rfl ?_; refine ar_take 2 rfl rfl rfl ?_; refine ar_take 4 rfl rfl rfl ?_; refine ar_take 5 rfl rfl rfl ?_
      refine ar_op 1 rfl ?_
      refine au_callC rfl rfl rfl rfl rfl (copyTable_c w0 _ (vn := vn) (vd := vd) hN4.cons hD4.cons (by omega) (by omega)) ?_
      rintro ⟨rn, rd⟩
      refine tri_nil ?_; refine ar_in ?_
      refine ar_op 3 rfl ?_
      refine au_callC rfl rfl rfl rfl rfl (copyTlb_c w0 _ (z := z) (v := vb) hB4.cons.cons.cons (by omega)) ?_
      intro rb
      refine tri_nil ?_; refine ar_in ?_
      refine ar_op 6 rfl ?_
      refine au_callC rfl rfl rfl rfl rfl (frame_c w0 _ (k := 1) (a := a) (b := b) (c := c) (d := d) hp) (fun _ => ?_)
      refine tri_nil ?_; refine ar_in ?_
      refine ar_op 7 rfl ?_
      refine au_store ?_
      refine tri_nil ?_; refine ar_in ?_
      refine ar_op 8 rfl ?_
      refine au_store ?_
      refine tri_nil ?_; refine ar_in ?_
      refine ar_take 9 rfl rfl rfl ?_; refine ar_take 10 rfl rfl rfl ?_
      refine ar_done ?_
      refine tri_weak (H' := Hp w0 (teS rb l :: ndS rn ns :: dpS rd ds :: enC g18 1 (numP d p) a b c d :: tlbC g11 z rb.v :: ptC g10 root rn.v rd.v :: tlbC g6 z vb :: ptC g5 root vn vd :: cs)) (fun w h => h) ?_
      (repeat (first | refine zz ?_ | refine zv fun _ => ?_))
      refine au_done4 rfl ?_
      exact fun w hw => ⟨⟨⟨rn, rd, rb, ns, T, l⟩, hsame⟩, by rw [hE, hF], (hw.sub (List.Sublist.cons_cons _ (List.Sublist.cons_cons _ (List.Sublist.cons_cons _ (List.Sublist.cons _ (List.Sublist.cons _ (List.Sublist.cons _ (List.Sublist.cons _ (List.Sublist.cons _ (List.Sublist.refl _)))))))))).perm ((List.Perm.swap _ _ _).trans (List.Perm.cons _ (List.Perm.swap _ _ _)))⟩
    | true =>
      cases a with
      | false =>
        (repeat (first | refine zz ?_ | refine zv fun _ => ?_))
        exact tri_mt1 () trivial (by repeat (first | exact trivial | refine ⟨rfl, ?_⟩)) (fun w h => h.tail)
      | true =>
        cases c with
        | false =>
          (repeat (first | refine zz ?_ | refine zv fun _ => ?_))
          exact tri_mt1 () trivial (by repeat (first | exact trivial | refine ⟨rfl, ?_⟩)) (fun w h => h.tail)
        | true =>
          have hE : accE fr wr p true = 0 := by unfold accE; rw [hf1, if_neg (by omega), if_neg (by rw [haw rfl]; simp)]
          have hF : accF fr wr p true = (p : Int) := by unfold accF; rw [hE]; rfl
          (repeat (first | refine zz ?_ | refine zv fun _ => ?_))
          (repeat (first | refine tri_seq ?_ | refine tri_then ?_))
          refine ar_held [] (enC g18 1 (numP d p) true b true d :: tlbC g6 z vb :: ptC g5 root vn vd :: cs) rfl ?_
          refine ar_take 0 rfl rfl rfl ?_; refine ar_take 2 rfl rfl rfl ?_; refine ar_take 4 rfl rfl rfl ?_; refine ar_take 5 rfl rfl rfl ?_
          refine ar_op 1 rfl ?_
          refine au_callC rfl rfl rfl rfl rfl (copyTable_c w0 _ (vn := vn) (vd := vd) hN4.cons hD4.cons (by omega) (by omega)) ?_
          rintro ⟨rn, rd⟩
          refine tri_nil ?_; refine ar_in ?_
          refine ar_op 3 rfl ?_
          refine au_callC rfl rfl rfl rfl rfl (copyTlb_c w0 _ (z := z) (v := vb) hB4.cons.cons.cons (by omega)) ?_
          intro rb
          refine tri_nil ?_; refine ar_in ?_
          refine ar_op 6 rfl ?_
          refine au_callC rfl rfl rfl rfl rfl (frame_c w0 _ (k := 1) (a := true) (b := b) (c := true) (d := d) hp) (fun _ => ?_)
          refine tri_nil ?_; refine ar_in ?_
          refine ar_op 7 rfl ?_
          refine au_store ?_
          refine tri_nil ?_; refine ar_in ?_
          refine ar_op 8 rfl ?_
          refine au_store ?_
          refine tri_nil ?_; refine ar_in ?_
          refine ar_take 9 rfl rfl rfl ?_; refine ar_take 10 rfl rfl rfl ?_
          refine ar_done ?_
          refine tri_weak (H' := Hp w0 (teS rb l :: ndS rn ns :: dpS rd ds :: enC g18 1 (numP d p) true b true d :: tlbC g11 z rb.v :: ptC g10 root rn.v rd.v :: tlbC g6 z vb :: ptC g5 root vn vd :: cs)) (fun w h => h) ?_
          (repeat (first | refine zz ?_ | refine zv fun _ => ?_))
          refine au_done4 rfl ?_
          exact fun w hw => ⟨⟨⟨rn, rd, rb, ns, T, l⟩, hsame⟩, by rw [hE, hF], (hw.sub (List.Sublist.cons_cons _ (List.Sublist.cons_cons _ (List.Sublist.cons_cons _ (List.Sublist.cons _ (List.Sublist.cons _ (List.Sublist.cons _ (List.Sublist.cons _ (List.Sublist.cons _ (List.Sublist.refl _)))))))))).perm ((List.Perm.swap _ _ _).trans (List.Perm.cons _ (List.Perm.swap _ _ _)))⟩
end
end Go.Proofs.YtbgjelhefhcnpaaGreat
