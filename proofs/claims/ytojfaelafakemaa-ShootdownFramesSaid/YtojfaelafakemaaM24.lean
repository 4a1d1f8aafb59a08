/- Texts joined: ShRNew, ShRSame, ShRFew, ShDo, TlbInv, ShKeep, ShOne, ShWake. Each part's own remark says what it proves. -/
import Derived.Test.YtojfaelafakemaaM22
import Derived.Test.YtojfaelafakemaaM23
import Derived.Test.YtojfaelafakemaaM19
import Derived.Test.YtojfaelafakemaaM21
import Derived.Test.YtojfaelafakemaaM20
/- The walk of the reference of the shootdown machine's New. No conditions. -/
set_option linter.unusedSimpArgs false
set_option linter.unusedVariables false
namespace Go.Proofs.Ytojfaelafakemaa
open Go Go.RowKit
attribute [local irreducible] decR enOk pgOk teOk ivOk tlOk checkM lbOk formM limM schk lookM markR mkL invL mkX mkE invE
attribute [local irreducible] Code.wp wpList bodyPost Exit.then Exit.inBlock Calls wpQuiet Tri TriQ
section
variable (w0 : World) (cs : List Chunk)
end
end Go.Proofs.Ytojfaelafakemaa

/- The walks of the reference of the shootdown machine: Same, Few. No conditions. -/
set_option linter.unusedSimpArgs false
set_option linter.unusedVariables false
namespace Go.Proofs.Ytojfaelafakemaa
open Go Go.RowKit
theorem iv_neq {a b : IV} (h : (!(a.s == b.s && a.p == b.p && a.o == b.o)) = true) : a ≠ b := fun e => by subst e; simp at h
theorem iv_eq {a b : IV} (h : (!(a.s == b.s && a.p == b.p && a.o == b.o)) = false) : a = b := by
  cases a; cases b; simp at h; simp [h]
theorem lb_neq {a b : LB} (h : (!(a.f == b.f && a.a == b.a)) = true) : a ≠ b := fun e => by subst e; simp at h
theorem lb_eq {a b : LB} (h : (!(a.f == b.f && a.a == b.a)) = false) : a = b := by
  cases a; cases b; simp at h; simp [h]
theorem w64_eq {a b : W64} (h : (a.v != b.v) = false) : a = b := by
  cases a; cases b; simp at h; simp [h]
theorem tl_eq {a b : TL} (h : decide (a.z = b.z ∧ a.l = b.l) = true) : a = b := by
  have h := of_decide_eq_true h
  cases a; cases b; simp at h; simp [h]
theorem all_st {p : Nat → Prop} {k : Nat} (hp : ∀ j, j < k → p j) (h : p k) : ∀ j, j < k + 1 → p j := fun j hj => by
  by_cases e : j = k
  · rw [e]; exact h
  · exact hp j (by omega)
theorem sm_eq {m m' : SM} (h1 : m.tb = m'.tb) (h2 : m.tl = m'.tl) (h3 : m.pd = m'.pd) (h4 : m.lm = m'.lm) (h5 : m.wd = m'.wd) : m = m' := by
  cases m; cases m'; simp only at h1 h2 h3 h4 h5; rw [h1, h2, h3, h4, h5]
attribute [local irreducible] decR enOk pgOk teOk ivOk tlOk checkM lbOk formM limM schk
attribute [local irreducible] Code.wp wpList bodyPost Exit.then Exit.inBlock Calls wpQuiet Tri TriQ
section
variable (w0 : World) (cs : List Chunk)
end
end Go.Proofs.Ytojfaelafakemaa

/- The walk of the reference of the shootdown machine's Few. No conditions. -/
set_option linter.unusedSimpArgs false
set_option linter.unusedVariables false
namespace Go.Proofs.Ytojfaelafakemaa
open Go Go.RowKit
/-- A small machine. -/
def fewM (m : SM) : Bool := decide (m.tb.length ≤ 40 ∧ m.tl.length ≤ 8 ∧ m.pd.length ≤ 8 ∧ m.lm.length ≤ 40 ∧ m.wd.length ≤ 40) && (m.tl.all (fun b => decide (b.l.length ≤ 20)) && m.pd.all fun l => decide (l.length ≤ 60))
attribute [local irreducible] decR enOk pgOk teOk ivOk tlOk checkM lbOk formM limM schk
attribute [local irreducible] Code.wp wpList bodyPost Exit.then Exit.inBlock Calls wpQuiet Tri TriQ
section
variable (w0 : World) (cs : List Chunk)
end
end Go.Proofs.Ytojfaelafakemaa

/- The walks of the shootdown machine's do and of the reference's Do. No conditions. -/
set_option linter.unusedSimpArgs false
set_option linter.unusedVariables false
namespace Go.Proofs.Ytojfaelafakemaa
open Go Go.RowKit
instance : Enc SO where
  default := ⟨0, 0, 0, 0, false, 0⟩
  sz := 6
  enc := fun x => [.int .i64 x.k, .int .i64 x.c, .int .i64 x.p, .int .i64 x.f, .bool x.w, .int .i64 x.v]
  dec := fun cs => match cs with | [.int _ a, .int _ b, .int _ c, .int _ d, .bool e, .int _ f] => ⟨a, b, c, d, e, f⟩ | _ => ⟨0, 0, 0, 0, false, 0⟩
  len := fun _ => rfl
  one := fun _ u hu => by simp at hu; rcases hu with rfl | rfl | rfl | rfl | rfl | rfl <;> rfl
  pos := by decide
instance : ElT Try.prog 35 SO := ⟨trivial⟩
abbrev soA (k c p f : Int) (wr : Bool) (v : Int) : Value := .agg #[.int .i64 k, .int .i64 c, .int .i64 p, .int .i64 f, .bool wr, .int .i64 v]
abbrev soV (o : SO) : Value := soA o.k o.c o.p o.f o.w o.v
abbrev soB (g : Nat) (k c p f : Int) (wr : Bool) (v : Int) : Chunk := blkC g 35 [.int .i64 k, .int .i64 c, .int .i64 p, .int .i64 f, .bool wr, .int .i64 v]
abbrev soC (g : Nat) (o : SO) : Chunk := soB g o.k o.c o.p o.f o.w o.v
theorem sc_mid1 {w0 w : World} {q : SR} {m : SM} {A : Chunk} {cs X : List Chunk} (h : Hp w0 (SC q m ++ X) w) (hs : (A :: cs).Sublist X) : Hp w0 (A :: (SC q m ++ cs)) w :=
  HpM.perm (h.sub (List.Sublist.append_left hs (SC q m))) List.perm_middle
theorem sc_up3 {w0 w : World} {q : SR} {m : SM} {G A B C : Chunk} {cs : List Chunk} (h : Hp w0 (G :: (SC q m ++ (A :: B :: C :: cs))) w) : Hp w0 (A :: B :: C :: G :: (SC q m ++ cs)) w := by
  have e : (SC q m ++ (A :: B :: C :: cs)).Perm (A :: B :: C :: (SC q m ++ cs)) := List.perm_middle.trans (List.Perm.cons _ (List.perm_middle.trans (List.Perm.cons _ List.perm_middle)))
  exact HpM.perm h ((List.Perm.cons G e).trans (lit_perm (p := [0, 1, 2, 3]) (q := [1, 2, 3, 0]) (by decide) (fun i => match i with | 0 => G | 1 => A | 2 => B | _ => C) _))
attribute [local irreducible] mapM unmapM protM accM ackM schk
attribute [local irreducible] Code.wp wpList bodyPost Exit.then Exit.inBlock Calls wpQuiet Tri TriQ
section
variable (w0 : World) (cs : List Chunk)
set_option maxHeartbeats 4000000 in
theorem do_c {h : SH} {xb : List TB} {xp : List SV} {m : SM} (o : SO) (hC : RdS (Hp w0 cs) h xb xp m) (hL : SLe m) (hpe : ∀ i, (m.pd.getD i default).length ≤ 1000000) :
    Cal Try.prog 9 [hdV h, soV o] (Hp w0 cs) (fun q : {q : SR // SOk q (sdoM m o).1} => .tuple #[hdV (hd q.1), .int .i64 (sdoM m o).2.1, .int .i64 (sdoM m o).2.2]) (fun q => Hp w0 (SC q.1 (sdoM m o).1 ++ cs)) := by
  obtain ⟨k, c, p, f, wr, v⟩ := o
  refine cal_of_tri Try.func9 rfl Try.ntmps9 rfl ?_
  (repeat (first | refine tri_seq ?_ | refine tri_then ?_)); refine tri_region ?_; (repeat (first | refine au_pure ?_ | refine au_pass ?_ | refine au_box (fun _ => ?_) | refine au_alloc (fun _ => ?_) | refine au_store ?_ | refine au_make rfl rfl (fun _ => ?_) | refine au_lit rfl rfl rfl (fun _ => ?_) | refine au_append rfl rfl rfl rfl (fun _ => au_norm ?_) | refine au_storeE rfl rfl rfl rfl ?_)); refine tri_nil ?_; (repeat refine tri_then ?_)
  rename_i g2 g3 g4
  have hC1 := hC.cons (c := hdC g2 h) |>.cons (c := soB g3 k c p f wr v) |>.cons (c := hdC g4 hdN)
  refine tri_weak (H' := Hp w0 (hdC g4 hdN :: soB g3 k c p f wr v :: hdC g2 h :: cs)) (fun w h => h) ?_
  (repeat (first | refine zz ?_ | refine zv fun _ => ?_))
  rename_i g7
  have hC2 := hC1.cons (c := hdC g7 hdN)
  refine tri_weak (H' := Hp w0 (hdC g7 hdN :: hdC g4 hdN :: soB g3 k c p f wr v :: hdC g2 h :: cs)) (fun w h => h) ?_
  refine tri_cut1 (fun y : SR × SM × Int => SOk y.1 y.2.1 ∧ sdoM m ⟨k, c, p, f, wr, v⟩ = (y.2.1, 0, y.2.2)) (fun y => [(4, .pointer (some ⟨g4, 0, none⟩)), (7, .pointer (some ⟨g7, 0, none⟩)), (8, .int .i64 y.2.2)]) (fun y => Hp w0 (hdC g7 (hd y.1) :: hdC g4 hdN :: (SC y.1 y.2.1 ++ cs))) ?_ ?_
  · refine tri_block ?_
    (repeat (first | refine zz ?_ | refine zv fun _ => ?_))
    cases h0 : (k == 0)
    case true =>
      have h0 := beq_iff_eq.1 h0
      have e1 : sdoM m ⟨k, c, p, f, wr, v⟩ = ((mapM m p f wr).1, 0, (mapM m p f wr).2) := by unfold sdoM; rw [if_pos h0]
      (repeat (first | refine zz ?_ | refine zv fun _ => ?_))
      refine au_callC rfl rfl rfl rfl rfl (map_c w0 _ p f wr hC2 hL hpe) ?_
      rintro ⟨q, hq⟩
      refine tri_weak (H' := Hp w0 (hdC g7 hdN :: hdC g4 hdN :: (SC q (mapM m p f wr).1 ++ cs))) (fun w h => sc_mid2 h (List.Sublist.cons_cons _ (List.Sublist.cons_cons _ (List.Sublist.cons _ (List.Sublist.cons _ (List.Sublist.refl _)))))) ?_
      (repeat (first | refine zz ?_ | refine zv fun _ => ?_))
      exact tri_mt1 (q, (mapM m p f wr).1, (mapM m p f wr).2) ⟨hq, e1⟩ (by repeat (first | exact trivial | refine ⟨rfl, ?_⟩)) (fun _ h => h)
    have h0 : ¬ k = 0 := by simpa using h0
    (repeat (first | refine zz ?_ | refine zv fun _ => ?_))
    cases h1 : (k == 1)
    case true =>
      have h1 := beq_iff_eq.1 h1
      have e1 : sdoM m ⟨k, c, p, f, wr, v⟩ = ((unmapM m p).1, 0, (unmapM m p).2) := by unfold sdoM; rw [if_neg h0, if_pos h1]
      (repeat (first | refine zz ?_ | refine zv fun _ => ?_))
      refine au_callC rfl rfl rfl rfl rfl (unmap_c w0 _ p hC2 hL hpe) ?_
      rintro ⟨q, hq⟩
      refine tri_weak (H' := Hp w0 (hdC g7 hdN :: hdC g4 hdN :: (SC q (unmapM m p).1 ++ cs))) (fun w h => sc_mid2 h (List.Sublist.cons_cons _ (List.Sublist.cons_cons _ (List.Sublist.cons _ (List.Sublist.cons _ (List.Sublist.refl _)))))) ?_
      (repeat (first | refine zz ?_ | refine zv fun _ => ?_))
      exact tri_mt1 (q, (unmapM m p).1, (unmapM m p).2) ⟨hq, e1⟩ (by repeat (first | exact trivial | refine ⟨rfl, ?_⟩)) (fun _ h => h)
    have h1 : ¬ k = 1 := by simpa using h1
    (repeat (first | refine zz ?_ | refine zv fun _ => ?_))
    cases h2 : (k == 2)
    case true =>
      have h2 := beq_iff_eq.1 h2
      have e1 : sdoM m ⟨k, c, p, f, wr, v⟩ = ((protM m p).1, 0, (protM m p).2) := by unfold sdoM; rw [if_neg h0, if_neg h1, if_pos h2]
      (repeat (first | refine zz ?_ | refine zv fun _ => ?_))
      refine au_callC rfl rfl rfl rfl rfl (protect_c w0 _ p hC2 hL hpe) ?_
      rintro ⟨q, hq⟩
      refine tri_weak (H' := Hp w0 (hdC g7 hdN :: hdC g4 hdN :: (SC q (protM m p).1 ++ cs))) (fun w h => sc_mid2 h (List.Sublist.cons_cons _ (List.Sublist.cons_cons _ (List.Sublist.cons _ (List.Sublist.cons _ (List.Sublist.refl _)))))) ?_
      (repeat (first | refine zz ?_ | refine zv fun _ => ?_))
      exact tri_mt1 (q, (protM m p).1, (protM m p).2) ⟨hq, e1⟩ (by repeat (first | exact trivial | refine ⟨rfl, ?_⟩)) (fun _ h => h)
    have h2 : ¬ k = 2 := by simpa using h2
    (repeat (first | refine zz ?_ | refine zv fun _ => ?_))
    have e1 : (k = 3 ∨ k = 4) → sdoM m ⟨k, c, p, f, wr, v⟩ = ((accM m c p (k == 4) v).1, (accM m c p (k == 4) v).2.1, (accM m c p (k == 4) v).2.2) := fun h => by unfold sdoM; rw [if_neg h0, if_neg h1, if_neg h2, if_pos h]
    cases h3 : (k == 3)
    case true =>
      have hk : k = 3 ∨ k = 4 := .inl (beq_iff_eq.1 h3)
      (repeat (first | refine zz ?_ | refine zv fun _ => ?_))
      refine au_callC rfl rfl rfl rfl rfl (access_c w0 _ c p (k == 4) v hC2 hL hpe) ?_
      rintro ⟨q, hq⟩
      refine tri_weak (H' := Hp w0 (hdC g7 hdN :: hdC g4 hdN :: (SC q (accM m c p (k == 4) v).1 ++ cs))) (fun w h => sc_mid2 h (List.Sublist.cons_cons _ (List.Sublist.cons_cons _ (List.Sublist.cons _ (List.Sublist.cons _ (List.Sublist.refl _)))))) ?_
      (repeat (first | refine zz ?_ | refine zv fun _ => ?_))
      refine au_done3 rfl ?_
      exact fun w hw => good_res3 (m' := (accM m c p (k == 4) v).1) (e1 hk) hq hw (by repeat (first | exact List.Sublist.refl _ | assumption | apply List.Sublist.cons_cons | apply List.Sublist.cons))
    have h3 : ¬ k = 3 := by simpa using h3
    (repeat (first | refine zz ?_ | refine zv fun _ => ?_))
    obtain ⟨b4, hb4⟩ : ∃ b, b = (k == 4) := ⟨_, rfl⟩
    rw [← hb4]
    cases b4
    case true =>
      have hk : k = 3 ∨ k = 4 := .inr (beq_iff_eq.1 hb4.symm)
      (repeat (first | refine zz ?_ | refine zv fun _ => ?_))
      refine au_callC rfl rfl rfl rfl rfl (access_c w0 _ c p (k == 4) v hC2 hL hpe) ?_
      rintro ⟨q, hq⟩
      refine tri_weak (H' := Hp w0 (hdC g7 hdN :: hdC g4 hdN :: (SC q (accM m c p (k == 4) v).1 ++ cs))) (fun w h => sc_mid2 h (List.Sublist.cons_cons _ (List.Sublist.cons_cons _ (List.Sublist.cons _ (List.Sublist.cons _ (List.Sublist.refl _)))))) ?_
      (repeat (first | refine zz ?_ | refine zv fun _ => ?_))
      refine au_done3 rfl ?_
      exact fun w hw => good_res3 (m' := (accM m c p (k == 4) v).1) (e1 hk) hq hw (by repeat (first | exact List.Sublist.refl _ | assumption | apply List.Sublist.cons_cons | apply List.Sublist.cons))
    have h4 : ¬ k = 4 := by simpa using hb4.symm
    have e2 : sdoM m ⟨k, c, p, f, wr, v⟩ = ((ackM m c).1, 0, (ackM m c).2) := by unfold sdoM; rw [if_neg h0, if_neg h1, if_neg h2, if_neg (fun x => x.elim h3 h4)]
    (repeat (first | refine zz ?_ | refine zv fun _ => ?_))
    refine au_callC rfl rfl rfl rfl rfl (ack_c w0 _ c hC2 hL hpe) ?_
    rintro ⟨q, hq⟩
    refine tri_weak (H' := Hp w0 (hdC g7 hdN :: hdC g4 hdN :: (SC q (ackM m c).1 ++ cs))) (fun w h => sc_mid2 h (List.Sublist.cons_cons _ (List.Sublist.cons_cons _ (List.Sublist.cons _ (List.Sublist.cons _ (List.Sublist.refl _)))))) ?_
    (repeat (first | refine zz ?_ | refine zv fun _ => ?_))
    exact tri_mt1 (q, (ackM m c).1, (ackM m c).2) ⟨hq, e2⟩ (by repeat (first | exact trivial | refine ⟨rfl, ?_⟩)) (fun _ h => h)
  rintro ⟨q, m', e⟩ ⟨hq, e1⟩
  simp only at hq e1
  (repeat (first | refine zz ?_ | refine zv fun _ => ?_))
  refine au_done3 rfl ?_
  exact fun w hw => good_res3 (q := q) e1 hq hw (by repeat (first | exact List.Sublist.refl _ | assumption | apply List.Sublist.cons_cons | apply List.Sublist.cons))
end
end Go.Proofs.Ytojfaelafakemaa

/- Plain laws of the translation cache. No conditions. -/
set_option linter.unusedSimpArgs false
set_option linter.unusedVariables false
namespace Go.Proofs.Ytojfaelafakemaa
open Go Go.RowKit
/-- A valid cache, with its fields of their types. -/
structure Iv (z : Int) (l : List TE) : Prop where
  ok : Ok z l
  wf : ∀ x ∈ l, Wf x
theorem iv_nil {z : Int} (h : 1 ≤ z ∧ z ≤ 16) : Iv z [] := ⟨⟨h, (by simp; omega), (fun x hx => by cases hx), List.Pairwise.nil⟩, (fun x hx => by cases hx)⟩
theorem Iv.len {z : Int} {l : List TE} (h : Iv z l) : l.length ≤ 16 := by
  have := h.ok.n
  have := h.ok.z
  omega
theorem iv_filter {z : Int} {l : List TE} (h : Iv z l) (p : TE → Bool) : Iv z (l.filter p) :=
  ⟨⟨h.ok.z, by have := h.ok.n; have : (l.filter p).length ≤ l.length := List.length_filter_le ..; omega, fun x hx => h.ok.v x (List.mem_filter.1 hx).1, h.ok.d.filter p⟩, fun x hx => h.wf x (List.mem_filter.1 hx).1⟩
theorem iv_drop {z : Int} {l : List TE} (h : Iv z l) (n : Nat) : Iv z (l.drop n) :=
  ⟨⟨h.ok.z, by have := h.ok.n; rw [List.length_drop]; omega, fun x hx => h.ok.v x (List.mem_of_mem_drop hx), h.ok.d.sublist (List.drop_sublist ..)⟩, fun x hx => h.wf x (List.mem_of_mem_drop hx)⟩
theorem iv_dropK {z : Int} {l : List TE} (h : Iv z l) : Iv z (dropK z l) := by
  unfold dropK
  split
  · exact iv_drop h 1
  · exact h
theorem dropK_mem {z : Int} {l : List TE} {x : TE} (h : x ∈ dropK z l) : x ∈ l := by
  unfold dropK at h
  split at h
  · exact List.mem_of_mem_drop h
  · exact h
theorem mkK_mem {l : List TE} {x y : TE} (h : y ∈ mkK l x) : y ∈ l ∧ ovM x y = false := by
  have := List.mem_filter.1 h
  exact ⟨this.1, by simpa using this.2⟩
theorem iv_fill {z : Int} {l : List TE} {x : TE} (h : Iv z l) (hx : Vd x) (hw : Wf x) : Iv z (mkL z l x) := by
  have hk : Iv z (mkK l x) := iv_filter h _
  have hd := iv_dropK hk
  refine ⟨⟨h.ok.z, ?_, fun y hy => ?_, ?_⟩, fun y hy => ?_⟩
  · have := dropK_le (z := z) (l := mkK l x) h.ok.z.1 hk.ok.n
    unfold mkL
    rw [List.length_append]
    simp only [List.length_cons, List.length_nil]
    omega
  · rcases List.mem_append.1 hy with h1 | h1
    · exact hd.ok.v y h1
    · rw [List.mem_singleton.1 h1]; exact hx
  · unfold mkL
    rw [List.pairwise_append]
    refine ⟨hd.ok.d, List.pairwise_singleton .., fun a ha b hb => ?_⟩
    rw [List.mem_singleton.1 hb, ov_comm]
    exact (mkK_mem (dropK_mem ha)).2
  · rcases List.mem_append.1 hy with h1 | h1
    · exact hd.wf y h1
    · rw [List.mem_singleton.1 h1]; exact hw
theorem mkE_zero {z : Int} {l : List TE} {s p u : Int} (h : mkE z l s p u = 0) : Ok z l ∧ plcM s p = 0 ∧ tr u = true := by
  unfold mkE at h
  split at h
  · rename_i h1
    split at h
    · rename_i h2
      split at h
      · rename_i h3
        exact ⟨check_ok.1 h1, h2, h3⟩
      · cases h
    · cases h
  · rename_i h1; exact absurd h h1
theorem mkX_wf {s p u : Int} (h : plcM s p = 0) (ht : tr u = true) (hu : 0 ≤ u ∧ u < 18446744073709551616) : Wf (mkX s p u) := (mkX_vd h ht).wf hu
theorem iv_do {z : Int} {l : List TE} {o : OpT} (h : Iv z l) (hu : 0 ≤ o.w ∧ o.w < 18446744073709551616) : Iv z (doL z l o) := by
  unfold doL
  split
  · rename_i he
    split
    · rename_i hk
      have hE : mkE z l o.s o.p o.w = 0 := by unfold doE at he; rwa [if_pos hk] at he
      obtain ⟨_, h1, h2⟩ := mkE_zero hE
      exact iv_fill h (mkX_vd h1 h2) (mkX_wf h1 h2 hu)
    · split
      · exact iv_filter h _
      · split
        · exact iv_filter h _
        · exact h
  · exact h
/-- What a script of calls leaves of an empty cache. -/
def runL (z : Int) (ops : List OpT) : List TE := ops.foldl (doL z) []
theorem run_step (z : Int) {ops : List OpT} {i : Nat} (hi : i < ops.length) : runL z (ops.take (i + 1)) = doL z (runL z (ops.take i)) (ops.getD i default) := by
  unfold runL
  rw [take_step hi, List.foldl_append]
  rfl
/-- The entries that cover a page. -/
def cntC (l : List TE) (s p : Int) : Nat := l.countP fun x => covM x s p
theorem cov_ov {x y : TE} {s p : Int} (h : covM x s p = true) (h' : covM y s p = true) : ovM x y = true := by
  unfold covM at h h'
  unfold ovM
  rw [decide_eq_true_eq] at *
  omega
theorem cnt_le {l : List TE} (s p : Int) (h : l.Pairwise fun a b => ovM a b = false) : cntC l s p ≤ 1 := by
  induction l with
  | nil => simp [cntC]
  | cons x l ih =>
    have h2 := List.pairwise_cons.1 h
    have ih := ih h2.2
    unfold cntC at *
    rw [List.countP_cons]
    split
    · rename_i hc
      have : l.countP (fun x => covM x s p) = 0 := by
        rw [List.countP_eq_zero]
        intro y hy hc'
        have := h2.1 y hy
        rw [cov_ov hc hc'] at this
        cases this
      omega
    · omega
theorem look_cnt (l : List TE) (s p : Int) : (lookL l s p).2 = decide (0 < cntC l s p) := by
  unfold lookL cntC
  cases h : l.find? (fun x => covM x s p) with
  | none =>
    symm
    simp only [decide_eq_false_iff_not]
    rw [List.find?_eq_none] at h
    have : l.countP (fun x => covM x s p) = 0 := List.countP_eq_zero.2 h
    omega
  | some x =>
    symm
    simp only [decide_eq_true_eq]
    have hm := List.mem_of_find?_eq_some h
    have hc := List.find?_some h
    exact List.countP_pos_iff.2 ⟨x, hm, hc⟩
theorem look_one {x : TE} (h : Vd x) (s p : Int) : (lookM 1 [x] s p).2 = covM x s p := by
  have hok : checkM 1 [x] = 0 := check_ok.2 ⟨by omega, by simp, fun y hy => by rw [List.mem_singleton.1 hy]; exact h, List.pairwise_singleton ..⟩
  unfold lookM
  rw [if_pos hok, look_cnt]
  unfold cntC
  cases hc : covM x s p <;> simp [hc]
theorem tri_slice {α : Type} [Enc α] {n : Nat} {F : Act → World → Prop} {E : Env} {w0 : World} {cs cs0 : List Chunk} {v : Value} {l : List α} (hR : RdH (Hp w0 cs0) v l) (k : ∀ A c, v = .slice A l.length c → Tri n F E (Hp w0 cs)) (hs : cs0.Sublist cs := by repeat (first | exact List.Sublist.refl _ | assumption | apply List.Sublist.cons_cons | apply List.Sublist.cons)) : Tri n F E (Hp w0 cs) := fun a w h1 h2 => by
  obtain ⟨A, c, h, _⟩ := (hR w (h2.sub hs)).form
  exact k A c h a w h1 h2
end Go.Proofs.Ytojfaelafakemaa

/- The shootdown machine in plain Lean: how long its lists become. No conditions. -/
set_option linter.unusedSimpArgs false
set_option linter.unusedVariables false
namespace Go.Proofs.Ytojfaelafakemaa
open Go Go.RowKit
theorem zero_sle : SLe SM.zero :=
  ⟨Nat.zero_le _, Nat.zero_le _, fun i => Nat.zero_le _, Nat.zero_le _, fun i => Nat.zero_le _, Nat.zero_le _, Nat.zero_le _, fun i => show 0 ≤ (default : W64).v ∧ (default : W64).v < 18446744073709551616 from ⟨by decide, by decide⟩, fun i t ht => by
    have ht : t ∈ ([] : List TE) := ht
    cases ht⟩
theorem mkL_le1 (z : Int) (l : List TE) (x : TE) : (mkL z l x).length ≤ l.length + 1 := by
  have h : (mkK l x).length ≤ l.length := List.length_filter_le ..
  unfold mkL dropK
  split <;> simp <;> omega
theorem mkL_wf {z : Int} {l : List TE} {x : TE} (h : ∀ t ∈ l, Wf t) (hx : Wf x) : ∀ t ∈ mkL z l x, Wf t := fun t ht => by
  rcases List.mem_append.1 ht with h1 | h1
  · exact h t (mkK_mem (dropK_mem h1)).1
  · rw [List.mem_singleton.1 h1]; exact hx
theorem SLe.useM {m : SM} (h : SLe m) (f : Int) (w : Bool) (v : Int) : SLe (Go.Proofs.Ytojfaelafakemaa.useM m f w v) := by
  unfold Go.Proofs.Ytojfaelafakemaa.useM
  split
  · exact ⟨h.tb, h.tl, h.te, h.pd, h.pe, h.lm, by show (m.wd.set _ _).length ≤ _; simpa using h.wd, h.tw, h.ew⟩
  · exact h
theorem useM_pd (m : SM) (f : Int) (w : Bool) (v : Int) : (useM m f w v).pd = m.pd := by
  unfold useM
  split <;> rfl
theorem setTl_pd (m : SM) (c : Nat) (l : List TE) : (setTl m c l).pd = m.pd := rfl
theorem ntf_le {m : SM} {p : Int} : ∀ k j, ((ntfM m p k).1.getD j default).length ≤ (m.pd.getD j default).length + 1
  | 0, j => Nat.le_succ _
  | k + 1, j => by
    have ih := ntf_le (m := m) (p := p) k j
    cases h : covsM m k p
    · rw [ntf_no h]; exact ih
    · rw [ntf_yes h]
      show (((ntfM m p k).1.set k ((m.pd.getD k default) ++ [⟨0, p, false⟩])).getD j default).length ≤ _
      rcases Nat.lt_or_ge k (ntfM m p k).1.length with hk | hk
      · rw [gd_set hk]
        by_cases e : k = j
        · rw [if_pos e, ← e, List.length_append, List.length_singleton]; exact Nat.le_refl _
        · rw [if_neg e]; exact ih
      · rw [List.set_eq_of_length_le hk]; exact ih
/-- What an operation may leave. -/
structure Kp (n : Nat) (m : SM) : Prop where
  s : SLe m
  p : ∀ i, (m.pd.getD i default).length ≤ n
theorem Kp.zero (n : Nat) : Kp n SM.zero := ⟨zero_sle, fun i => Nat.zero_le _⟩
theorem Kp.up {n k : Nat} {m : SM} (h : Kp n m) (hk : n ≤ k) : Kp k m := ⟨h.s, fun i => Nat.le_trans (h.p i) hk⟩
section
variable {n : Nat} {m : SM} (h : Kp n m) (hn : n ≤ 1000000)
include h hn
omit hn in
theorem map_kp (p f : Int) (w : Bool) : Kp (n + 1) (mapM m p f w).1 := by
  unfold mapM
  split
  · exact .zero _
  split
  · exact .zero _
  split
  · exact .zero _
  split
  · exact .zero _
  have h1 := h.s.setTb p.toNat (enc_bd 1 f w false false false)
  exact ⟨⟨h1.tb, h1.tl, h1.te, h1.pd, h1.pe, h1.lm, by show (m.wd.set _ _).length ≤ _; simpa using h.s.wd, h1.tw, h1.ew⟩, fun i => Nat.le_succ_of_le (h.p i)⟩
theorem unmap_kp (p : Int) : Kp (n + 1) (unmapM m p).1 := by
  unfold unmapM
  split
  · exact .zero _
  rename_i h0
  have hV := (tgt_zero (Decidable.not_not.1 h0)).1
  have hr := hV.r
  have hl := hV.lml
  have h1 := h.s.setTb p.toNat (v := 0) ⟨by decide, by decide⟩
  have hpe : ∀ i, ((ntfM m p m.tl.length).1.getD i default).length ≤ n + 1 := fun i => Nat.le_trans (ntf_le _ i) (Nat.succ_le_succ (h.p i))
  refine ⟨⟨h1.tb, h1.tl, h1.te, by show (ntfM m p m.tl.length).1.length ≤ _; rw [ntf_len]; exact h.s.pd, fun i => by have := hpe i; show ((ntfM m p m.tl.length).1.getD i default).length ≤ _; omega, ?_, h1.wd, h1.tw, h1.ew⟩, hpe⟩
  show (if (ntfM m p m.tl.length).2 = 0 then m.lm else m.lm ++ [(⟨(tgtX m p).n, (ntfM m p m.tl.length).2⟩ : LB)]).length ≤ _
  split
  · omega
  · rw [List.length_append, List.length_singleton]; omega
theorem prot_kp (p : Int) : Kp (n + 1) (protM m p).1 := by
  unfold protM
  split
  · exact .zero _
  split
  · have h1 := h.s.setTb p.toNat (enc_bd (tgtX m p).k (tgtX m p).n false (tgtX m p).b (tgtX m p).c (tgtX m p).d)
    have hpe : ∀ i, ((ntfM m p m.tl.length).1.getD i default).length ≤ n + 1 := fun i => Nat.le_trans (ntf_le _ i) (Nat.succ_le_succ (h.p i))
    exact ⟨⟨h1.tb, h1.tl, h1.te, by show (ntfM m p m.tl.length).1.length ≤ _; rw [ntf_len]; exact h.s.pd, fun i => by have := hpe i; show ((ntfM m p m.tl.length).1.getD i default).length ≤ _; omega, h1.lm, h1.wd, h1.tw, h1.ew⟩, hpe⟩
  · exact h.up (Nat.le_succ _)
omit hn in
theorem acc_kp (c p : Int) (w : Bool) (v : Int) : Kp (n + 1) (accM m c p w v).1 := by
  unfold accM
  split
  · exact .zero _
  rename_i h0
  have hV : Vl m := schk_zero.1 (Decidable.not_not.1 h0)
  have hr := hV.r
  split
  · exact .zero _
  rename_i h1
  have h1 := Decidable.not_not.1 h1
  have hip := isP_iff.1 h1.2.2
  have hcl : c.toNat < m.tl.length := by omega
  have hOt := hV.tlb hcl
  have hew := h.s.ew c.toNat
  have hlz := hV.tel c.toNat
  have hli : (invL (m.tl.getD c.toNat default).l 0 p).length ≤ 16 := Nat.le_trans (List.length_filter_le ..) hlz
  have hwi := inv_wf hew 0 p
  unfold accG
  split
  · exact ⟨h.s.useM _ _ _, fun i => by show ((useM m _ w v).pd.getD i default).length ≤ _; rw [useM_pd]; exact Nat.le_succ_of_le (h.p i)⟩
  split
  · exact ⟨h.s.setTl _ (by omega) hwi, fun i => Nat.le_succ_of_le (h.p i)⟩
  rename_i h5
  have h5 : pgOk m.wd.length (tbW m p.toNat) = true := by simpa using h5
  split
  · exact ⟨h.s.setTl _ (by omega) hwi, fun i => Nat.le_succ_of_le (h.p i)⟩
  rename_i h6
  obtain ⟨-, hmk1, -, hmk2⟩ := mark_pg (wr := w) h5 (fun hw => by
    have : ¬ (tgtX m p).a = false := fun x => h6 ⟨hw, x⟩
    have h7 : (tgtX m p).a = true := by simpa using this
    exact h7)
  have hx : Wf (mkX 0 p (markR (tbW m p.toNat) w).1) := by
    unfold mkX
    rw [(tr_pg hmk1).2]
    exact ⟨⟨by show -9223372036854775808 ≤ (0 : Int); decide, by show (0 : Int) ≤ 9223372036854775807; decide⟩, ⟨by show -9223372036854775808 ≤ p; omega, by show p ≤ 9223372036854775807; omega⟩, hmk2.1, hmk2.2⟩
  have h8 := h.s.setTl c.toNat (l := mkL (m.tl.getD c.toNat default).z (invL (m.tl.getD c.toNat default).l 0 p) (mkX 0 p (markR (tbW m p.toNat) w).1)) (by have := mkL_le1 (m.tl.getD c.toNat default).z (invL (m.tl.getD c.toNat default).l 0 p) (mkX 0 p (markR (tbW m p.toNat) w).1); omega) (mkL_wf hwi hx)
  have h9 := h8.setTb p.toNat hmk2
  refine ⟨SLe.useM (m := { (setTl m c.toNat (mkL (m.tl.getD c.toNat default).z (invL (m.tl.getD c.toNat default).l 0 p) (mkX 0 p (markR (tbW m p.toNat) w).1))) with tb := m.tb.set p.toNat ⟨(markR (tbW m p.toNat) w).1⟩ }) h9 _ _ _, fun i => ?_⟩
  show ((useM _ _ w v).pd.getD i default).length ≤ _
  rw [useM_pd]
  exact Nat.le_succ_of_le (h.p i)
theorem ack_kp (c : Int) : Kp (n + 1) (ackM m c).1 := by
  unfold ackM
  split
  · exact .zero _
  rename_i h0
  have hV : Vl m := schk_zero.1 (Decidable.not_not.1 h0)
  have hr := hV.r
  have hl := hV.lml
  split
  · exact .zero _
  rename_i h1
  have h1 := Decidable.not_not.1 h1
  have hcl : c.toNat < m.tl.length := by omega
  have hO := invs_ok (ps := m.pd.getD c.toNat default) (hV.tlb hcl).1
  have hW := invs_wf (ps := m.pd.getD c.toNat default) (h.s.ew c.toNat)
  have h8 := h.s.setTl c.toNat (l := invsL (m.tl.getD c.toNat default).l (m.pd.getD c.toNat default)) (by have := hO.n; have := hO.z; omega) hW
  have hpe : ∀ i, ((m.pd.set c.toNat []).getD i default).length ≤ n := fun i => by
    rw [gd_set (by omega)]
    split
    · exact Nat.zero_le _
    · exact h.p i
  unfold ackG
  refine ⟨⟨h8.tb, h8.tl, h8.te, by show (m.pd.set _ _).length ≤ _; simpa using h.s.pd, fun i => by have := hpe i; show ((m.pd.set c.toNat []).getD i default).length ≤ _; omega, ?_, h8.wd, h8.tw, h8.ew⟩, fun i => Nat.le_succ_of_le (hpe i)⟩
  show ((m.lm.map (clrA c.toNat)).filter fun x => !(x.a == 0)).length ≤ _
  have := List.length_filter_le (fun x : LB => !(x.a == 0)) (m.lm.map (clrA c.toNat))
  rw [List.length_map] at this
  omega
theorem sdo_kp (o : SO) : Kp (n + 1) (sdoM m o).1 := by
  unfold sdoM
  split
  · exact map_kp h _ _ _
  split
  · exact unmap_kp h hn _
  split
  · exact prot_kp h hn _
  split
  · exact acc_kp h _ _ _ _
  · exact ack_kp h hn _
end
theorem new_kp (c z f p : Int) : Kp 0 (snewM c z f p).1 := by
  unfold snewM
  split
  · exact .zero _
  rename_i hb
  have key : ∀ (α : Type) [Inhabited α] (a : α) (n i : Nat), (List.replicate n a).getD i default = a ∨ (List.replicate n a).getD i default = default := fun α _ a n i => by
    rcases Nat.lt_or_ge i n with hi | hi
    · left; simp [List.getD_eq_getElem?_getD, List.getElem?_replicate, hi]
    · right; simp [List.getD_eq_getElem?_getD, List.getElem?_replicate, Nat.not_lt.2 hi]
  have hpe : ∀ i, ((List.replicate c.toNat ([] : List IV)).getD i default).length = 0 := fun i => by
    rcases key _ ([] : List IV) c.toNat i with e | e <;> rw [e] <;> rfl
  have hte : ∀ i, ((List.replicate c.toNat (⟨z, []⟩ : TL)).getD i default).l = [] := fun i => by
    rcases key _ (⟨z, []⟩ : TL) c.toNat i with e | e <;> rw [e] <;> rfl
  have htw : ∀ i, ((List.replicate p.toNat (⟨0⟩ : W64)).getD i default).v = 0 := fun i => by
    rcases key _ (⟨0⟩ : W64) p.toNat i with e | e <;> rw [e] <;> rfl
  exact ⟨⟨by simp only [List.length_replicate]; omega, by simp only [List.length_replicate]; omega, fun i => by show ((List.replicate c.toNat (⟨z, []⟩ : TL)).getD i default).l.length ≤ _; rw [hte]; exact Nat.zero_le _, by simp only [List.length_replicate]; omega, fun i => by show ((List.replicate c.toNat ([] : List IV)).getD i default).length ≤ _; rw [hpe]; exact Nat.zero_le _, Nat.zero_le _, by simp only [List.length_replicate]; omega, fun i => by show 0 ≤ ((List.replicate p.toNat (⟨0⟩ : W64)).getD i default).v ∧ ((List.replicate p.toNat (⟨0⟩ : W64)).getD i default).v < _; rw [htw]; decide, fun i t ht => by
    have ht : t ∈ ((List.replicate c.toNat (⟨z, []⟩ : TL)).getD i default).l := ht
    rw [hte] at ht
    cases ht⟩, fun i => Nat.le_of_eq (hpe i)⟩
end Go.Proofs.Ytojfaelafakemaa

/- The walks of the laws' goes and one. No conditions. -/
set_option linter.unusedSimpArgs false
set_option linter.unusedVariables false
namespace Go.Proofs.Ytojfaelafakemaa
open Go Go.RowKit
def goM (e : Int) : Bool := e == 0 || e == 13 || e == 12
attribute [local irreducible] Code.wp wpList bodyPost Exit.then Exit.inBlock Calls wpQuiet Tri TriQ
section
variable (w0 : World) (cs : List Chunk)
theorem goes_c (e : Int) : Cal Try.prog 10 [.int .i64 e] (Hp w0 cs) (fun _ : Unit => .bool (goM e)) (fun _ => Hp w0 cs) := by
  refine cal_of_tri Try.func10 rfl Try.ntmps10 rfl ?_
  (repeat (first | refine tri_seq ?_ | refine tri_then ?_)); refine tri_region ?_; (repeat (first | refine au_pure ?_ | refine au_pass ?_ | refine au_box (fun _ => ?_) | refine au_alloc (fun _ => ?_) | refine au_store ?_ | refine au_make rfl rfl (fun _ => ?_) | refine au_lit rfl rfl rfl (fun _ => ?_) | refine au_append rfl rfl rfl rfl (fun _ => au_norm ?_) | refine au_storeE rfl rfl rfl rfl ?_)); refine tri_nil ?_; (repeat refine tri_then ?_)
  (repeat (first | refine zz ?_ | refine zv fun _ => ?_))
  cases h1 : (e == 0)
  case true =>
    (repeat (first | refine zz ?_ | refine zv fun _ => ?_))
    refine au_done1 rfl ?_
    exact fun w hw => ⟨(), by unfold goM; rw [h1]; rfl, hw.sub (by repeat (first | exact List.Sublist.refl _ | assumption | apply List.Sublist.cons_cons | apply List.Sublist.cons))⟩
  (repeat (first | refine zz ?_ | refine zv fun _ => ?_))
  cases h2 : (e == 13)
  case true =>
    (repeat (first | refine zz ?_ | refine zv fun _ => ?_))
    refine au_done1 rfl ?_
    exact fun w hw => ⟨(), by unfold goM; rw [h1, h2]; rfl, hw.sub (by repeat (first | exact List.Sublist.refl _ | assumption | apply List.Sublist.cons_cons | apply List.Sublist.cons))⟩
  (repeat (first | refine zz ?_ | refine zv fun _ => ?_))
  refine au_done1 rfl ?_
  exact fun w hw => ⟨(), by unfold goM; rw [h1, h2]; rfl, hw.sub (by repeat (first | exact List.Sublist.refl _ | assumption | apply List.Sublist.cons_cons | apply List.Sublist.cons))⟩
theorem one_c {u v : Value} {l k : List Int} (hA : RdH (Hp w0 cs) u l) (hB : RdH (Hp w0 cs) v k) (hl : l.length ≤ 1000000) : Cal Try.prog 20 [u, v] (Hp w0 cs) (fun _ : Unit => .bool (decide (l = k))) (fun _ => Hp w0 cs) := by
  refine cal_of_tri Try.func20 rfl Try.ntmps20 rfl ?_
  (repeat (first | refine tri_seq ?_ | refine tri_then ?_)); refine tri_region ?_; (repeat (first | refine au_pure ?_ | refine au_pass ?_ | refine au_box (fun _ => ?_) | refine au_alloc (fun _ => ?_) | refine au_store ?_ | refine au_make rfl rfl (fun _ => ?_) | refine au_lit rfl rfl rfl (fun _ => ?_) | refine au_append rfl rfl rfl rfl (fun _ => au_norm ?_) | refine au_storeE rfl rfl rfl rfl ?_)); refine tri_nil ?_; (repeat refine tri_then ?_)
  (repeat (first | refine zz ?_ | refine zv fun _ => ?_))
  refine au_pure ?_ (hy := yl_len rfl rfl hA)
  (repeat (first | refine zz ?_ | refine zv fun _ => ?_))
  refine au_pure ?_ (hy := yl_len rfl rfl hB)
  (repeat (first | refine zz ?_ | refine zv fun _ => ?_))
  cases h1 : ((l.length : Int) != (k.length : Int))
  case true =>
    (repeat (first | refine zz ?_ | refine zv fun _ => ?_))
    refine au_done1 rfl ?_
    exact fun w hw => ⟨(), by rw [decide_eq_false fun e => by rw [e] at h1; simp at h1], hw.sub (by repeat (first | exact List.Sublist.refl _ | assumption | apply List.Sublist.cons_cons | apply List.Sublist.cons))⟩
  have h1 : l.length = k.length := by have : (l.length : Int) = k.length := by simpa using h1
                                      omega
  (repeat (first | refine zz ?_ | refine zv fun _ => ?_))
  refine au_pure ?_ (hy := yl_len rfl rfl hA)
  (repeat (first | refine zz ?_ | refine zv fun _ => ?_))
  refine tri_block ?_
  refine tri_loop1 (fun (i : Nat) => i ≤ l.length ∧ ∀ j, j < i → l.getD j default = k.getD j default) (fun i => [(0, u), (1, v), (12, .int .i64 (l.length : Int)), (13, .int .i64 (i : Int))]) (fun _ => Hp w0 cs) (fun i => l.length - i)
    0 ⟨by omega, fun j hj => absurd hj (Nat.not_lt_zero j)⟩ (by repeat (first | exact trivial | refine ⟨rfl, ?_⟩)) (fun w h => h) ?_
  rintro i ⟨hi, hq⟩
  (repeat (first | refine zz ?_ | refine zv fun _ => ?_))
  ((first | refine tri_cond (by rfl) (fun hc => ?_) (fun hc => ?_) | refine tri_gsplit (by rfl) (by rfl) (by (fail_if_success exact (rfl : _ = some (Value.bool true))); (fail_if_success exact (rfl : _ = some (Value.bool false))); rfl) (fun hc => ?_) (fun hc => ?_)) <;> (try simp only [decide_eq_true_eq, decide_eq_false_iff_not, beq_iff_eq, bne_iff_ne, ne_eq, Bool.not_eq_true', Bool.not_eq_false', beq_eq_false_iff_ne, bne_eq_false_iff_eq, Int.not_lt, Int.not_le, gt_iff_lt, ge_iff_le, Bool.and_eq_true, Bool.or_eq_true, Bool.and_eq_false_iff, Bool.or_eq_false_iff, Decidable.not_not, not_true_eq_false, not_false_eq_true, and_true, true_and, or_false, false_or, or_true, true_or, and_false, false_and, eq_self, Bool.true_eq_false, Bool.false_eq_true] at hc) <;> (try (exfalso; omega)))
  case refine_1 =>
    (repeat (first | refine zz ?_ | refine zv fun _ => ?_))
    refine tri_block ?_
    (repeat (first | refine zz ?_ | refine zv fun _ => ?_))
    (repeat (first | refine tri_seq ?_ | refine tri_then ?_))
    refine au_draw rfl ?_
    (repeat (first | refine z1 ?_ | refine au_qpass rfl rfl ?_ | refine triq_nil ?_))
    refine au_qpure rfl rfl ?_ (hy := yl_idx (k := i) rfl rfl hA (ix_nat rfl) (by rfl) (by omega))
    refine au_qpure rfl rfl ?_ (hy := yl_loadE rfl rfl hA (by rfl) (by omega) (by rfl))
    (repeat (first | refine z1 ?_ | refine au_qpass rfl rfl ?_ | refine triq_nil ?_))
    refine au_qpure rfl rfl ?_ (hy := yl_idx (k := i) rfl rfl hB (ix_nat rfl) (by rfl) (by omega))
    refine au_qpure rfl rfl ?_ (hy := yl_loadE rfl rfl hB (by rfl) (by omega) (by rfl))
    refine au_qpure rfl rfl ?_ (hy := yl_neq rfl rfl rfl)
    (repeat (first | refine z1 ?_ | refine au_qpass rfl rfl ?_ | refine triq_nil ?_))
    cases hd : (l.getD i default != k.getD i default)
    · (repeat (first | refine zz ?_ | refine zv fun _ => ?_))
      exact tri_nx1 (i + 1) (by omega) ⟨by omega, all_st hq (by simpa using hd)⟩ (by repeat (first | exact trivial | refine ⟨rfl, ?_⟩)) (fun w h => h.sub (by repeat (first | exact List.Sublist.refl _ | assumption | apply List.Sublist.cons_cons | apply List.Sublist.cons)))
    · (repeat (first | refine zz ?_ | refine zv fun _ => ?_))
      refine au_done1 rfl ?_
      exact fun w hw => ⟨(), by rw [decide_eq_false fun e => by rw [e] at hd; simp at hd], hw.sub (by repeat (first | exact List.Sublist.refl _ | assumption | apply List.Sublist.cons_cons | apply List.Sublist.cons))⟩
  have e1 : l = k := ext_getD h1 fun j hj => hq j (by omega)
  (repeat (first | refine zz ?_ | refine zv fun _ => ?_))
  refine au_done1 rfl ?_
  exact fun w hw => ⟨(), by rw [decide_eq_true e1], hw.sub (by repeat (first | exact List.Sublist.refl _ | assumption | apply List.Sublist.cons_cons | apply List.Sublist.cons))⟩
end
end Go.Proofs.Ytojfaelafakemaa

/- The values that the laws' awake meets, in plain Lean. No conditions. -/
set_option linter.unusedSimpArgs false
set_option linter.unusedVariables false
namespace Go.Proofs.Ytojfaelafakemaa
open Go Go.RowKit
def wO : List SO := [⟨0, 0, 1, 0, true, 0⟩, ⟨4, 0, 1, 0, false, 5⟩, ⟨4, 1, 1, 0, false, 6⟩, ⟨1, 0, 1, 0, false, 0⟩, ⟨4, 1, 1, 0, false, 7⟩]
def wE : List Int := [0, 0, 5, 0, 6]
/-- The machine ahead of the step. -/
def wS : Nat → SM
  | 0 => (snewM 2 2 3 4).1
  | i + 1 => (sdoM (wS i) (wO.getD i default)).1
theorem wake_new : (snewM 2 2 3 4).2 = 0 := by kernel_rfl
theorem wake_all : ((List.range 5).all fun i => (sdoM (wS i) (wO.getD i default)).2.2 == 0 && (sdoM (wS i) (wO.getD i default)).2.1 == wE.getD i default) = true := by kernel_rfl
theorem wake_step {i : Nat} (hi : i < 5) : (sdoM (wS i) (wO.getD i default)).2.2 = 0 ∧ (sdoM (wS i) (wO.getD i default)).2.1 = wE.getD i default := by
  have h := List.all_eq_true.1 wake_all i (List.mem_range.2 hi)
  rw [Bool.and_eq_true, beq_iff_eq, beq_iff_eq] at h
  exact h
theorem wake_free : freeM (wS 5) = [1, 2] := by kernel_rfl
theorem wake_lm : (wS 5).lm = [⟨0, 3⟩] := by kernel_rfl
theorem wake_quiet : quietM (wS 5) = false := by kernel_rfl
theorem wake_chk : schk (wS 5) = 0 := by kernel_rfl
def wA : SM := (ackM (wS 5) 0).1
def wB : SM := (ackM wA 1).1
theorem wake_a : (ackM (wS 5) 0).2 = 0 := by kernel_rfl
theorem wake_b : (ackM wA 1).2 = 0 := by kernel_rfl
theorem wake_alm : wA.lm = [⟨0, 2⟩] := by kernel_rfl
theorem wake_bfree : freeM wB = [0, 1, 2] := by kernel_rfl
theorem wake_bquiet : quietM wB = true := by kernel_rfl
theorem wake_acc : (accM wB 1 1 false 0).2.2 = 13 := by kernel_rfl
theorem wS_kp : ∀ i, i ≤ 1000 → Kp i (wS i)
  | 0, _ => new_kp 2 2 3 4
  | i + 1, h => sdo_kp (wS_kp i (by omega)) (by omega) _
theorem wA_kp : Kp 6 wA := ack_kp (wS_kp 5 (by decide)) (by decide) 0
theorem wB_kp : Kp 7 wB := ack_kp wA_kp (by decide) 1
end Go.Proofs.Ytojfaelafakemaa
