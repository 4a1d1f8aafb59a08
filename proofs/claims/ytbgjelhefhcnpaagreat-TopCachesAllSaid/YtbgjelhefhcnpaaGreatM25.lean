/- Texts joined: PtSpl, PtSplit, PtClrP. Each part's own remark says what it proves. -/
import Derived.Test.YtbgjelhefhcnpaaGreatM23
import Derived.Test.YtbgjelhefhcnpaaGreatM24
/- Page tables in plain Lean: a huge page that is taken out, and its parts. No conditions. -/
set_option linter.unusedSimpArgs false
set_option linter.unusedVariables false
namespace Go.Proofs.YtbgjelhefhcnpaaGreat
open Go Go.RowKit
theorem huge_ok {n : Int} {a b c : Bool} (h : okE ⟨1, n, a, b, c, true⟩) (i : Nat) (hi : i < 8) : okE ⟨1, n + (i : Int), a, b, c, false⟩ := by
  have := h.2.2.1
  refine ⟨by simp, by simp, ?_, rfl⟩
  simp only [rngB] at this ⊢
  simp at this ⊢
  omega
theorem huge_part {x n : Int} {a b c : Bool} (h : decR x = (⟨1, n, a, b, c, true⟩, 0)) (i : Nat) (hi : i < 8) : partR x i = (wrd ⟨1, n + (i : Int), a, b, c, false⟩, 0) := by
  have ho := huge_ok (decR_zero h).1 i hi
  unfold partR
  rw [h]
  simp only
  rw [if_neg (by simp), if_neg (by simp), if_neg (by omega)]
  exact enc_of_ok ho
theorem grp_eq {p : Nat} (hp : p < 512) : 8 * ((dgF p 2).val : Int) + (dgF p 1).val = ((p / 8 : Nat) : Int) := by
  simp only [dgF, digM]
  omega
theorem get_of_mem {α : Type} [Inhabited α] {l : List α} {x : α} (h : x ∈ l) : ∃ i, i < l.length ∧ l.getD i default = x := by
  obtain ⟨i, hi, e⟩ := List.getElem_of_mem h
  exact ⟨i, hi, by rw [getD_get hi]; exact e⟩
theorem lv_group (T : Tr) {p q : Nat} (hp : p < 512) (hq : q < 512) (h : q / 8 = p / 8) : (pgT T q).1 = (pgT T p).1 := by
  obtain ⟨h1, h2⟩ := (dg_eq hq hp).2 h
  unfold pgT lvT
  rw [h1]
  split
  · rfl
  · rw [h2]; unfold legL; split <;> rfl
/-- A huge page's word and deposit taken out. -/
structure OutOk (root : Int) (T T1 : Tr) (ns1 : List ND) (ds : List DP) (p i : Nat) (f : Int) : Prop where
  ok : PtOk root T1 ns1 (ds.take i ++ ds.drop (i + 1))
  hi : i < ds.length
  d : ds.getD i default = ⟨((p / 8 : Nat) : Int), f⟩
  fs : Frsh root T1 [f]
  at_ : ∀ q, q < 512 → pgT T1 q = if q / 8 = p / 8 then (1, 0) else pgT T q
  fr : ∀ x, x ∈ frT root T1 → x ∈ frT root T
  ff : f ∈ frT root T
theorem out_ok {root : Int} {T : Tr} {ns : List ND} {ds : List DP} (h : PtOk root T ns ds) {p : Nat} (hp : p < 512) {w0 : Int} (hlv : pgT T p = (1, w0)) (h0 : w0 ≠ 0) : ∃ T1 i f, OutOk root T T1 (putL ns (endP root T p).1 (dgF p 1) 0) ds p i f := by
  obtain ⟨m, f, hT, hs⟩ := pg_huge hlv h0
  have hend : (endP root T p).1 = m.f := by unfold endP endT; rw [hT]; dsimp only; rw [hs]
  obtain ⟨k, h1, h2, h3, _⟩ := h.pl (mid_mem (root := root) hT)
  have h1 : plI ns m.f = (k : Int) := h1
  rw [hend, putL_nodes h1 h3]
  have n1 := nodes_T (root := root) hT (dgF p 1)
  have n2 := nodes_legT root T (dgF p 2) (dgF p 1) m .no
  have f1 := fr_T (root := root) hT (dgF p 1)
  have f2 := fr_legT root T (dgF p 2) (dgF p 1) m .no
  have d1 := deps_T hT (dgF p 1)
  have d2 := deps_legT T (dgF p 2) (dgF p 1) m .no
  rw [hs] at n1 f1 d1
  rw [rootE_some hT] at n2
  simp only [subN, subE, legF, subD, List.nil_append, List.cons_append] at n1 n2 f1 f2 d1 d2
  rw [grp_eq hp] at d1
  have hfr : (frT root T).Perm (f :: frT root (legT T (dgF p 2) (dgF p 1) m .no)) := by
    refine f1.trans (List.Perm.trans ?_ (List.Perm.cons f f2).symm)
    exact (List.Perm.cons _ (List.Perm.swap _ _ _)).trans (List.Perm.swap _ _ _)
  have hok := h.t.s _ m hT
  have hlg := legs_legT h.t.s (a := dgF p 2) (b := dgF p 1) hok (s := Leg.no) legok_no
  have htr : TrOk root (legT T (dgF p 2) (dgF p 1) m .no) := h.t.same (L := [f]) hlg hfr
  have hnd := hfr.nodup_iff.1 h.t.d
  have hmem : (⟨((p / 8 : Nat) : Int), f⟩ : DP) ∈ ds := by rw [h.d]; exact d1.mem_iff.2 (List.mem_cons_self ..)
  obtain ⟨i, hi, hid⟩ := get_of_mem hmem
  have hdp : (ds.take i ++ ds.drop (i + 1)).Perm (depR T (dgF p 2) (dgF p 1) m) := perm_erase_at hi hid (by rw [h.d]; exact d1)
  have hasc : (ds.take i ++ ds.drop (i + 1)).Pairwise fun a b => a.g < b.g := by
    refine List.Pairwise.sublist ?_ (show ds.Pairwise fun a b => a.g < b.g by rw [h.d]; exact deps_asc _)
    conv => rhs; rw [← List.take_append_drop i ds]
    refine List.Sublist.append_left ?_ _
    exact List.drop_sublist_drop_left ds (Nat.le_succ i)
  refine ⟨_, i, f, ⟨htr, ?_, asc_set h2 (by rw [h3]) h.o, ?_⟩, hi, hid, ⟨List.nodup_cons.2 ⟨by simp, List.nodup_nil⟩, ?_, ?_⟩, fun q hq => ?_, fun x hx => hfr.mem_iff.2 (List.mem_cons_of_mem _ hx), hfr.mem_iff.2 (List.mem_cons_self ..)⟩
  · refine (perm_set h2 h3 (h.n.trans (n1.trans (List.Perm.swap _ _ _))) _).trans (List.Perm.trans ?_ n2.symm)
    exact List.Perm.swap _ _ _
  · exact dps_eq hasc (deps_asc _) (hdp.trans d2.symm)
  · intro x hx
    rw [List.mem_singleton.1 hx]
    exact (List.nodup_cons.1 hnd).1
  · intro x hx
    rw [List.mem_singleton.1 hx]
    exact h.t.r f (hfr.mem_iff.2 (List.mem_cons_self ..))
  · have hde := dg_eq hq hp
    unfold pgT
    rw [lv_legT hT]
    by_cases c1 : q / 8 = p / 8
    · rw [if_pos (hde.2 c1), if_pos c1]; rfl
    · rw [if_neg (fun x => c1 (hde.1 x)), if_neg c1]
/-- The parts' words behind i of them. -/
def partW (n : Int) (a b c : Bool) (i j : Nat) : Int := if j < i then wrd ⟨1, n + (j : Int), a, b, c, false⟩ else 0
structure SplOk (root : Int) (T T' : Tr) (ns' : List ND) (ds' : List DP) (g i : Nat) (n : Int) (a b c : Bool) : Prop where
  ok : PtOk root T' ns' ds'
  lv : ∀ q, q < 512 → q / 8 = g → (pgT T' q).1 = 0
  at_ : ∀ q, q < 512 → (pgT T' q).2 = if q / 8 = g then partW n a b c i (q % 8) else (pgT T q).2
  fr : ∀ x, x ∈ frT root T' → x ∈ frT root T
theorem spl_step {root : Int} {T T' : Tr} {ns' : List ND} {ds' : List DP} {g i : Nat} {n : Int} {a b c : Bool} (h : SplOk root T T' ns' ds' g i n a b c) (hg : g < 64) (hi : i < 8) (ho : okE ⟨1, n, a, b, c, true⟩) :
    ∃ T2, SplOk root T T2 (putL ns' (endP root T' (8 * g + i)).1 (dgF (8 * g + i) (endP root T' (8 * g + i)).2.1.toNat) (wrd ⟨1, n + (i : Int), a, b, c, false⟩)) ds' g (i + 1) n a b c := by
  have hq : 8 * g + i < 512 := by omega
  have hl := h.lv (8 * g + i) hq (by omega)
  have ho2 := huge_ok ho i hi
  have hdw := decR_wrd ho2
  have hrg := wrd_rng ho2
  obtain ⟨T2, p1, p2, p3⟩ := put_leaf (w0 := (pgT T' (8 * g + i)).2) h.ok hq (by rw [← hl]) (w := wrd ⟨1, n + (i : Int), a, b, c, false⟩) ⟨by rw [hdw], .inr ⟨by rw [hdw], by rw [hdw]⟩, hrg.1, by omega⟩
  have e5 : (endP root T' (8 * g + i)).2 = pgT T' (8 * g + i) := by unfold endP pgT; exact end_lv ..
  rw [show (endP root T' (8 * g + i)).2.1 = 0 by rw [e5, hl]]
  refine ⟨T2, p1, fun q hq2 hqg => ?_, fun q hq2 => ?_, fun x hx => h.fr x (p3.mem_iff.1 hx)⟩
  · rw [p2 q hq2]
    split
    · rfl
    · exact h.lv q hq2 hqg
  · rw [p2 q hq2]
    by_cases e : q = 8 * g + i
    · rw [if_pos ⟨by omega, fun _ => e⟩, if_pos (by omega)]
      unfold partW
      rw [if_pos (by omega), show q % 8 = i by omega]
    · rw [if_neg (fun x => e (x.2 rfl)), h.at_ q hq2]
      split
      · unfold partW
        by_cases e2 : q % 8 < i
        · rw [if_pos e2, if_pos (by omega)]
        · rw [if_neg e2, if_neg (by omega)]
      · rfl
end Go.Proofs.YtbgjelhefhcnpaaGreat

/- The walk of a page table's Split. No conditions. -/
set_option linter.unusedSimpArgs false
set_option linter.unusedVariables false
namespace Go.Proofs.YtbgjelhefhcnpaaGreat
open Go Go.RowKit
attribute [local irreducible] decR ixL endP pgT deepL partR
attribute [local irreducible] Code.wp wpList bodyPost Exit.then Exit.inBlock Calls wpQuiet Tri TriQ
section
variable (w0 : World) (cs : List Chunk)
set_option maxHeartbeats 4000000 in
theorem Split_c {root : Int} {T : Tr} {ns : List ND} {ds : List DP} (h : PtOk root T ns ds) {vn vd : Value} (hN : RdH (Hp w0 cs) vn ns) (hD : RdH (Hp w0 cs) vd ds) {g : Nat} (hg : g < 64)
    {o n : Int} {a b c : Bool} (hlv : pgT T (8 * g) = (1, o)) (ho : decR o = (⟨1, n, a, b, c, true⟩, 0)) (hb : 0 ≤ o ∧ o < 18446744073709551616) :
    Cal Tryz.prog 15 [ptV root vn vd, .int .i64 (g : Int)] (Hp w0 cs) (fun y : {y : Row × Row × List ND × List DP × Tr // SplOk root T y.2.2.2.2 y.2.2.1 y.2.2.2.1 g 8 n a b c} => .tuple #[ptV root y.1.1.v y.1.2.1.v, .int .i64 0])
      (fun y => Hp w0 (ndS y.1.1 y.1.2.2.1 :: dpS y.1.2.1 y.1.2.2.2.1 :: cs)) := by
  have hnl := h.nlen
  have hdl := h.dlen
  have hp : 8 * g < 512 := by omega
  have h0 : o ≠ 0 := fun e => by
    rw [e, dec_zero] at ho
    have := congrArg (fun x : Ent × Int => x.1.k) ho
    simp [noEnt] at this
  have hoe := (decR_zero ho).1
  have hle := last_eq ns root T (8 * g)
  have e5 : (endP root T (8 * g)).2 = pgT T (8 * g) := by unfold endP pgT; exact end_lv ..
  have e51 : (endP root T (8 * g)).2.1 = 1 := by rw [e5, hlv]
  have e52 : (endP root T (8 * g)).2.2 = o := by rw [e5, hlv]
  rw [e51, e52] at hle
  obtain ⟨T1, i, f, x1, x2, x3, x4, x5, x6, x7⟩ := out_ok h hp hlv h0
  rw [show 8 * g / 8 = g by omega] at x3 x5
  have hdo : ds.Pairwise fun a b => a.g < b.g := by rw [h.d]; exact deps_asc _
  have x3g : (ds.getD i default).g = (g : Int) := by rw [x3]
  have x3f : (ds.getD i default).f = f := by rw [x3]
  refine cal_of_tri Tryz.func15 rfl Tryz.ntmps15 rfl ?_
  (repeat (first | refine tri_seq ?_ | refine tri_then ?_)); refine tri_region ?_; (repeat (first | refine au_pure ?_ | refine au_pass ?_ | refine au_box (fun _ => ?_) | refine au_alloc (fun _ => ?_) | refine au_store ?_ | refine au_make rfl rfl (fun _ => ?_) | refine au_lit rfl rfl rfl (fun _ => ?_) | refine au_append rfl rfl rfl rfl (fun _ => au_norm ?_) | refine au_storeE rfl rfl rfl rfl ?_)); refine tri_nil ?_; (repeat refine tri_then ?_)
  rename_i g2 g4
  refine tri_weak (H' := Hp w0 (ptC g4 0 (.slice none 0 0) (.slice none 0 0) :: ptC g2 root vn vd :: cs)) (fun w h => h) ?_
  (repeat (first | refine zz ?_ | refine zv fun _ => ?_))
  refine au_callC rfl rfl rfl rfl rfl (checked_c w0 _ (vn := vn) (vd := vd) h hN.cons.cons hD.cons.cons (n := (g : Int)) (m := 64) (by omega)) (fun _ => ?_)
  (repeat (first | refine zz ?_ | refine zv fun _ => ?_))
  rw [show IntKind.i64.wrap ((g : Int) * 8) = ((8 * g : Nat) : Int) by rw [wrap_i64 (by omega)]; omega]
  (repeat (first | refine zz ?_ | refine zv fun _ => ?_))
  refine au_callC rfl rfl rfl rfl rfl (last_c w0 _ (vn := vn) (vd := vd) h hN.cons.cons (by omega) (p := 8 * g) hp) (fun _ => ?_)
  rw [hle]
  refine zv fun g8 => ?_
  refine zz ?_
  refine tri_weak (H' := Hp w0 (spC g8 (plI ns (endP root T (8 * g)).1) 1 o :: ptC g4 0 (.slice none 0 0) (.slice none 0 0) :: ptC g2 root vn vd :: cs)) (fun w h => h) ?_
  (repeat (first | refine zz ?_ | refine zv fun _ => ?_))
  refine au_callC rfl rfl rfl rfl rfl (entry_c w0 _ o hb.1 hb.2) (fun _ => ?_)
  rw [ho]
  refine au_pure ?_ (hy := yl_entD (k := 1) (m := n) (a := a) (b := b) (c := c) (d := true) rfl rfl)
  (repeat (first | refine zz ?_ | refine zv fun _ => ?_))
  refine au_callC rfl rfl rfl rfl rfl (ptclone_c w0 _ (root := root) (vn := vn) (vd := vd) hN.cons.cons.cons hD.cons.cons.cons (by omega) (by omega)) ?_
  rintro ⟨rn, rd⟩
  refine zv fun g9 => ?_
  refine zz ?_
  obtain ⟨K, hK⟩ : ∃ K : List Chunk, K = spC g8 (plI ns (endP root T (8 * g)).1) 1 o :: ptC g4 0 (.slice none 0 0) (.slice none 0 0) :: ptC g2 root vn vd :: cs := ⟨_, rfl⟩
  refine tri_weak (H' := Hp w0 (ptC g9 root rn.v rd.v :: ndS rn ns :: dpS rd ds :: K)) (fun w h => by rw [hK]; exact h) ?_
  (repeat (first | refine zz ?_ | refine zv fun _ => ?_))
  refine au_callC rfl rfl rfl rfl rfl (put_c w0 _ h (rn := rn) (vd := rd.v) (gt := g9) hp 0) (fun _ => ?_)
  rw [e51, show (1 : Int).toNat = 1 from rfl]
  obtain ⟨N1, hN1⟩ : ∃ N1, N1 = putL ns (endP root T (8 * g)).1 (dgF (8 * g) 1) 0 := ⟨_, rfl⟩
  rw [← hN1] at x1 ⊢
  refine tri_weak (H' := Hp w0 (ptC g9 root rn.v rd.v :: dpS rd ds :: ndS rn N1 :: K)) (fun w h => (HpM.perm h (List.Perm.cons _ (List.Perm.swap _ _ _)))) ?_
  (repeat (first | refine zz ?_ | refine zv fun _ => ?_))
  refine au_callC rfl rfl rfl rfl rfl (withdraw_c w0 _ hdo (by omega) x2 (vn := rn.v) (rd := rd) (gt := g9) (root := root) x3g) ?_
  intro rd2
  rw [x3f]
  (repeat (first | refine zz ?_ | refine zv fun _ => ?_))
  refine au_lit (l := [f]) rfl rfl rfl (fun rf => ?_)
  obtain ⟨D1, hD1⟩ : ∃ D1, D1 = ds.take i ++ ds.drop (i + 1) := ⟨_, rfl⟩
  rw [← hD1] at x1
  refine tri_weak (H' := Hp w0 (ptC g9 root rn.v rd2.v :: ndS rn N1 :: inS rf [f] :: dpS rd2 D1 :: K)) (fun w h => by rw [hD1]; exact HpM.perm h ((List.Perm.swap _ _ _).trans (List.Perm.cons _ ((List.Perm.cons _ (List.Perm.swap _ _ _)).trans (List.Perm.swap _ _ _))))) ?_
  have hlv1 : pgT T1 (8 * g) = ((([f] : List Int).length : Int), 0) := by rw [x5 _ hp, if_pos (by omega)]; rfl
  (repeat (first | refine zz ?_ | refine zv fun _ => ?_))
  refine au_callC rfl rfl rfl rfl rfl (deepen_c w0 (inS rf [f] :: dpS rd2 D1 :: K) x1 (rn := rn) (vd := rd2.v) (gt := g9) (l := [f]) (rd_chunk (r := rf) ⟨0, rfl⟩) x4 hp hlv1) ?_
  rintro ⟨⟨r2, m2⟩, hdp⟩
  obtain ⟨d1, d2, d3, d4⟩ := hdp
  have hsp : SplOk root T (deepL T1 (8 * g) ([f].take ([f] : List Int).length)) m2 D1 g 0 n a b c := by
    refine ⟨d1, fun q hq hqg => ?_, fun q hq => ?_, fun x hx => ?_⟩
    · rw [lv_group _ hp hq (by omega), d2]; rfl
    · rw [d3, x5 q hq]
      split
      · rfl
      · rfl
    · rcases d4 x hx with e | e
      · rw [List.mem_singleton.1 (show x ∈ [f] from e)]; exact x7
      · exact x6 x e
  refine tri_weak (H' := Hp w0 (ptC g9 root r2.v rd2.v :: ndS r2 m2 :: dpS rd2 D1 :: K)) (fun w h => HpM.sub h (List.Sublist.cons_cons _ (List.Sublist.cons_cons _ (List.Sublist.cons _ (List.Sublist.refl _))))) ?_
  (repeat (first | refine zz ?_ | refine zv fun _ => ?_))
  refine tri_block ?_
  refine tri_loop3 (fun (i : Nat) (m : List ND) (T' : Tr) => i ≤ 8 ∧ SplOk root T T' m D1 g i n a b c) (fun i _ _ => [(7, .int .i64 ((8 * g : Nat) : Int)), (8, .pointer (some ⟨g8, 0, none⟩)), (4, .pointer (some ⟨g4, 0, none⟩)), (9, .pointer (some ⟨g9, 0, none⟩)), (45, .int .i64 (i : Int))]) (fun _ m _ => Hp w0 (ptC g9 root r2.v rd2.v :: ndS r2 m :: dpS rd2 D1 :: K)) (fun i _ _ => 8 - i) 0 m2 _ ⟨by omega, hsp⟩ (by repeat (first | exact trivial | refine ⟨rfl, ?_⟩)) (fun w h => h) ?_
  rintro i m T' ⟨hi, hS⟩
  (repeat (first | refine zz ?_ | refine zv fun _ => ?_))
  ((first | refine tri_cond (by rfl) (fun hc => ?_) (fun hc => ?_) | refine tri_gsplit (by rfl) (by rfl) (by (fail_if_success exact (rfl : _ = some (Value.bool true))); (fail_if_success exact (rfl : _ = some (Value.bool false))); rfl) (fun hc => ?_) (fun hc => ?_)) <;> (try simp only [decide_eq_true_eq, decide_eq_false_iff_not, beq_iff_eq, bne_iff_ne, ne_eq, Bool.not_eq_true', Bool.not_eq_false', beq_eq_false_iff_ne, bne_eq_false_iff_eq, Int.not_lt, Int.not_le, gt_iff_lt, ge_iff_le, Bool.and_eq_true, Bool.or_eq_true, Bool.and_eq_false_iff, Bool.or_eq_false_iff, Decidable.not_not, not_true_eq_false, not_false_eq_true, and_true, true_and, or_false, false_or, or_true, true_or, and_false, false_and, eq_self, Bool.true_eq_false, Bool.false_eq_true] at hc) <;> (try (exfalso; omega)))
  case refine_1 =>
    have hi8 : i < 8 := by omega
    obtain ⟨T2, hst⟩ := spl_step hS hg hi8 hoe
    refine tri_weak (H' := Hp w0 (ptC g9 root r2.v rd2.v :: ndS r2 m :: dpS rd2 D1 :: spC g8 (plI ns (endP root T (8 * g)).1) 1 o :: ptC g4 0 (.slice none 0 0) (.slice none 0 0) :: ptC g2 root vn vd :: cs)) (fun w h => by rw [hK] at h; exact h) ?_
    (repeat (first | refine zz ?_ | refine zv fun _ => ?_))
    refine tri_block ?_
    (repeat (first | refine zz ?_ | refine zv fun _ => ?_))
    refine au_call rfl rfl (cl_of rfl rfl rfl (fun _ h => Ret.hp (part_at _ hb.1 hb.2 (by omega) (huge_part ho i hi8)) h)) ?_
    (repeat (first | refine zz ?_ | refine zv fun _ => ?_))
    rw [show ((8 * g : Nat) : Int) + (i : Int) = ((8 * g + i : Nat) : Int) by omega]
    (repeat (first | refine zz ?_ | refine zv fun _ => ?_))
    refine au_callC rfl rfl rfl rfl rfl (put_c w0 _ hS.ok (rn := r2) (vd := rd2.v) (gt := g9) (p := 8 * g + i) (by omega) (wrd ⟨1, n + (i : Int), a, b, c, false⟩)) (fun _ => ?_)
    (repeat (first | refine zz ?_ | refine zv fun _ => ?_))
    exact tri_nx3 (i + 1) _ T2 (by omega) ⟨by omega, hst⟩ (by repeat (first | exact trivial | refine ⟨rfl, ?_⟩)) (fun w h => by rw [hK]; exact h)
  have hie : i = 8 := by omega
  subst hie
  refine tri_weak (H' := Hp w0 (ptC g9 root r2.v rd2.v :: ndS r2 m :: dpS rd2 D1 :: spC g8 (plI ns (endP root T (8 * g)).1) 1 o :: ptC g4 0 (.slice none 0 0) (.slice none 0 0) :: ptC g2 root vn vd :: cs)) (fun w h => by rw [hK] at h; exact h) ?_
  (repeat (first | refine zz ?_ | refine zv fun _ => ?_))
  refine au_done2 rfl ?_
  exact fun w hw => ⟨⟨⟨r2, rd2, m, D1, T'⟩, hS⟩, rfl, hw.tail.sub (List.Sublist.cons_cons _ (List.Sublist.cons_cons _ (List.Sublist.cons _ (List.Sublist.cons _ (List.Sublist.cons _ (List.Sublist.refl _))))))⟩
end
end Go.Proofs.YtbgjelhefhcnpaaGreat

/- Page tables in plain Lean: a page that is unmapped, and the tables that become empty. No conditions. -/
set_option linter.unusedSimpArgs false
set_option linter.unusedVariables false
namespace Go.Proofs.YtbgjelhefhcnpaaGreat
open Go Go.RowKit
def isZ (e : Fin 8 → Int) : Bool := e 0 == 0 && (e 1 == 0 && (e 2 == 0 && (e 3 == 0 && (e 4 == 0 && (e 5 == 0 && (e 6 == 0 && e 7 == 0))))))
theorem isZ_iff (e : Fin 8 → Int) : isZ e = true ↔ ∀ k, e k = 0 := by
  unfold isZ
  simp only [Bool.and_eq_true, beq_iff_eq]
  refine ⟨fun h k => ?_, fun h => ⟨h 0, h 1, h 2, h 3, h 4, h 5, h 6, h 7⟩⟩
  obtain ⟨h0, h1, h2, h3, h4, h5, h6, h7⟩ := h
  match k with
  | 0 => exact h0
  | 1 => exact h1
  | 2 => exact h2
  | 3 => exact h3
  | 4 => exact h4
  | 5 => exact h5
  | 6 => exact h6
  | 7 => exact h7
/-- The node at place i of the walk without its entry. -/
def clrX (O : Nat → ND) (p i : Nat) : ND := ⟨(O i).f, updF (O i).e (dgF p (2 - i)) 0⟩
def clrN (ns : List ND) (ks : Nat → Nat) (O : Nat → ND) (p : Nat) : Nat → List ND
  | 0 => ns
  | j + 1 => (clrN ns ks O p j).set (ks (2 - j)) (clrX O p (2 - j))
def clrF (O : Nat → ND) : Nat → List Int
  | 0 => []
  | j + 1 => clrF O j ++ [(O (2 - j)).f]
/-- What Clear leaves. -/
structure ClrOk (root : Int) (T T' : Tr) (ns' : List ND) (ds : List DP) (p : Nat) : Prop where
  ok : PtOk root T' ns' ds
  at_ : ∀ q, q < 512 → (pgT T' q).2 = if q = p then 0 else (pgT T q).2
  fr : ∀ x, x ∈ frT root T' → x ∈ frT root T
theorem filt_all {l : List ND} : l.filter (fun x => !([] : List Int).any (eqB x.f)) = l := by
  rw [List.filter_eq_self]
  intro x _
  rfl
theorem filt_one {R : List ND} {X : ND} {f : Int} (hX : X.f = f) (hn : f ∉ R.map ND.f) {l : List ND} (hp : l.Perm (X :: R)) : (l.filter (fun x => !([f] : List Int).any (eqB x.f))).Perm R := by
  refine (hp.filter _).trans ?_
  rw [List.filter_cons]
  have h1 : (!([f] : List Int).any (eqB X.f)) = false := by simp [eqB, hX]
  rw [if_neg (by rw [h1]; decide)]
  rw [List.filter_eq_self.2 fun x hx => ?_]
  have : x.f ≠ f := fun e => hn (List.mem_map.2 ⟨x, hx, e⟩)
  simp [eqB]
  first | exact fun e => this e.symm | exact this
theorem filt_two {R : List ND} {X Y : ND} {f g : Int} (hX : X.f = f) (hY : Y.f = g) (hn : f ∉ R.map ND.f) (hm : g ∉ R.map ND.f) {l : List ND} (hp : l.Perm (X :: Y :: R)) : (l.filter (fun x => !([f, g] : List Int).any (eqB x.f))).Perm R := by
  refine (hp.filter _).trans ?_
  rw [List.filter_cons, List.filter_cons]
  have h1 : (!([f, g] : List Int).any (eqB X.f)) = false := by simp [eqB, hX]
  have h2 : (!([f, g] : List Int).any (eqB Y.f)) = false := by simp [eqB, hY]
  rw [if_neg (by rw [h1]; decide), if_neg (by rw [h2]; decide)]
  rw [List.filter_eq_self.2 fun x hx => ?_]
  have : x.f ≠ f := fun e => hn (List.mem_map.2 ⟨x, hx, e⟩)
  have : x.f ≠ g := fun e => hm (List.mem_map.2 ⟨x, hx, e⟩)
  simp [eqB, *]
theorem optN_none : optN none = [] := rfl
theorem optD_none (i : Fin 8) : optD i none = [] := rfl
theorem tbl_ne {f : Int} (h : 0 ≤ f ∧ f ≤ 4294967295) : tblW f ≠ 0 := fun e => by
  have := (tbl_ok h).1
  rw [e, dec_zero] at this
  have := congrArg (fun x : Ent × Int => x.1.k) this
  simp [noEnt] at this
section
variable {root : Int} {T : Tr} {ns : List ND} {ds : List DP} (h : PtOk root T ns ds) {p : Nat} (hp : p < 512) {m : Mid} {f : Int} {e : Fin 8 → Int} (hT : T (dgF p 2) = some m) (hs : m.s (dgF p 1) = .leaf f e)
  {k0 k1 k2 : Nat} (h0 : k0 < ns.length ∧ ns.getD k0 default = ⟨root, rootE T⟩) (h1 : k1 < ns.length ∧ ns.getD k1 default = ⟨m.f, midE m⟩) (h2 : k2 < ns.length ∧ ns.getD k2 default = ⟨f, e⟩)
include h hp hT hs h0 h1 h2
omit hp in
theorem clr_ne : k0 ≠ k1 ∧ k0 ≠ k2 ∧ k1 ≠ k2 := by
  have f1 := fr_T (root := root) hT (dgF p 1)
  rw [hs] at f1
  have hd := f1.nodup_iff.1 h.t.d
  simp only [legF, List.cons_append, List.nil_append] at hd
  have a1 := (List.nodup_cons.1 hd).1
  have a2 := (List.nodup_cons.1 (List.nodup_cons.1 hd).2).1
  refine ⟨fun x => ?_, fun x => ?_, fun x => ?_⟩
  · subst x
    have := congrArg ND.f (h0.2.symm.trans h1.2)
    exact a1 (by simp only at this; rw [this]; exact List.mem_cons_self ..)
  · subst x
    have := congrArg ND.f (h0.2.symm.trans h2.2)
    exact a1 (by simp only at this; rw [this]; exact List.mem_cons_of_mem _ (List.mem_cons_self ..))
  · subst x
    have := congrArg ND.f (h1.2.symm.trans h2.2)
    exact a2 (by simp only at this; rw [this]; exact List.mem_cons_self ..)
/-- The table of pages becomes empty, the table above does not. -/
theorem clr_one (hz : ∀ k, updF e (dgF p 0) 0 k = 0) : ∃ T', ClrOk root T T' (((ns.set k2 ⟨f, updF e (dgF p 0) 0⟩).set k1 ⟨m.f, updF (midE m) (dgF p 1) 0⟩).filter fun x => !([f] : List Int).any (eqB x.f)) ds p := by
  obtain ⟨ne1, ne2, ne3⟩ := clr_ne h hT hs h0 h1 h2
  have n1 := nodes_T (root := root) hT (dgF p 1)
  have n2 := nodes_legT root T (dgF p 2) (dgF p 1) m .no
  have f1 := fr_T (root := root) hT (dgF p 1)
  have f2 := fr_legT root T (dgF p 2) (dgF p 1) m .no
  have d1 := deps_T hT (dgF p 1)
  have d2 := deps_legT T (dgF p 2) (dgF p 1) m .no
  rw [hs] at n1 f1 d1
  rw [rootE_some hT] at n2
  simp only [subN, subE, legF, subD, List.nil_append, List.cons_append] at n1 n2 f1 f2 d1 d2
  have hfr : (frT root T).Perm (f :: frT root (legT T (dgF p 2) (dgF p 1) m .no)) := by
    refine f1.trans (List.Perm.trans ?_ (List.Perm.cons f f2).symm)
    exact (List.Perm.cons _ (List.Perm.swap _ _ _)).trans (List.Perm.swap _ _ _)
  have hok := h.t.s _ m hT
  have hlg := legs_legT h.t.s (a := dgF p 2) (b := dgF p 1) hok (s := Leg.no) legok_no
  have htr : TrOk root (legT T (dgF p 2) (dgF p 1) m .no) := h.t.same (L := [f]) hlg hfr
  have hrot : ∀ A B C : ND, ∀ R : List ND, (A :: B :: C :: R).Perm (C :: A :: B :: R) := fun A B C R => (List.Perm.cons A (List.Perm.swap _ _ _)).trans (List.Perm.swap _ _ _)
  have s1 := perm_set h2.1 h2.2 (h.n.trans (n1.trans (hrot _ _ _ _))) (⟨f, updF e (dgF p 0) 0⟩ : ND)
  have g1 : (ns.set k2 ⟨f, updF e (dgF p 0) 0⟩).getD k1 default = ⟨m.f, midE m⟩ := by rw [getD_set k1 h2.1, if_neg ne3, h1.2]
  have s2 := perm_set (by rw [List.length_set]; exact h1.1) g1 (s1.trans (hrot _ _ _ _)) (⟨m.f, updF (midE m) (dgF p 1) 0⟩ : ND)
  have s3 : ((ns.set k2 ⟨f, updF e (dgF p 0) 0⟩).set k1 ⟨m.f, updF (midE m) (dgF p 1) 0⟩).Perm (⟨f, updF e (dgF p 0) 0⟩ :: nodesT root (legT T (dgF p 2) (dgF p 1) m .no)) := by
    refine s2.trans (List.Perm.trans ?_ (List.Perm.cons _ n2).symm)
    exact (hrot _ _ _ _).symm.trans (List.Perm.cons _ (List.Perm.refl _))
  have hnd := hfr.nodup_iff.1 h.t.d
  have hfn : f ∉ (nodesT root (legT T (dgF p 2) (dgF p 1) m .no)).map ND.f := fun x => (List.nodup_cons.1 hnd).1 (List.mem_append.2 (.inl x))
  have hpm := filt_one rfl hfn s3
  refine ⟨_, ⟨htr, hpm, ?_, ?_⟩, fun q hq => ?_, fun x hx => hfr.mem_iff.2 (List.mem_cons_of_mem _ hx)⟩
  · exact (asc_set (by rw [List.length_set]; exact h1.1) (y := ⟨m.f, updF (midE m) (dgF p 1) 0⟩) (by rw [g1]) (asc_set h2.1 (y := ⟨f, updF e (dgF p 0) 0⟩) (by rw [h2.2]) h.o)).sublist List.filter_sublist
  · rw [h.d]
    exact dps_eq (deps_asc _) (deps_asc _) (d1.trans d2.symm)
  · have hde := dg_eq hq hp
    unfold pgT
    rw [lv_legT hT]
    by_cases c1 : q / 8 = p / 8
    · rw [if_pos (hde.2 c1)]
      by_cases c2 : q = p
      · rw [if_pos c2]; rfl
      · rw [if_neg c2]
        obtain ⟨x1, x2⟩ := hde.2 c1
        have hd0 : dgF q 0 ≠ dgF p 0 := fun x => c2 ((dg0_eq c1).1 x)
        have := hz (dgF q 0)
        unfold updF at this
        rw [if_neg hd0] at this
        unfold lvT
        rw [x1, hT]
        dsimp only
        rw [x2, hs]
        exact this.symm
    · rw [if_neg (fun x => c1 (hde.1 x)), if_neg (fun x => c1 (by rw [x]))]
/-- The table above becomes empty, too. -/
theorem clr_two (hz : ∀ k, updF e (dgF p 0) 0 k = 0) (hz2 : ∀ k, updF (midE m) (dgF p 1) 0 k = 0) :
    ∃ T', ClrOk root T T' ((((ns.set k2 ⟨f, updF e (dgF p 0) 0⟩).set k1 ⟨m.f, updF (midE m) (dgF p 1) 0⟩).set k0 ⟨root, updF (rootE T) (dgF p 2) 0⟩).filter fun x => !([f, m.f] : List Int).any (eqB x.f)) ds p := by
  obtain ⟨ne1, ne2, ne3⟩ := clr_ne h hT hs h0 h1 h2
  have hok := h.t.s _ m hT
  have hlegs : ∀ j, j ≠ dgF p 1 → m.s j = .no := fun j hj => by
    have := hz2 j
    unfold updF at this
    rw [if_neg hj] at this
    unfold midE at this
    cases hsj : m.s j with
    | no => rfl
    | huge w g => rw [hsj] at this; exact absurd this (huge_ne ((hok j).h w g hsj))
    | leaf g e2 =>
      rw [hsj] at this
      exact absurd this (tbl_ne (h.rng (leaf_mem (root := root) hT hsj)))
  have hsub : ((rest8 (dgF p 1)).flatMap fun j => subN (m.s j)) = [] := by
    rw [List.flatMap_eq_nil_iff]
    intro j hj
    rw [hlegs j (rest_ne hj)]; rfl
  have hsubd : ((rest8 (dgF p 1)).flatMap fun j => subD (8 * ((dgF p 2).val : Int) + j.val) (m.s j)) = [] := by
    rw [List.flatMap_eq_nil_iff]
    intro j hj
    rw [hlegs j (rest_ne hj)]; rfl
  have n1 := nodes_T (root := root) hT (dgF p 1)
  have n2 := nodes_updT root T (dgF p 2) none
  have d1 := deps_T hT (dgF p 1)
  have d2 := deps_updT T (dgF p 2) none
  rw [hs] at n1 d1
  rw [rootE_upd] at n2
  unfold nodR at n1
  unfold depR at d1
  rw [hsub] at n1
  rw [hsubd] at d1
  simp only [subN, subD, optN_none, optD_none, List.nil_append, List.cons_append] at n1 n2 d1 d2
  obtain ⟨R, hR⟩ : ∃ R, R = (rest8 (dgF p 2)).flatMap fun i => optN (T i) := ⟨_, rfl⟩
  rw [← hR] at n1 n2
  have hdd : (depsT T).Perm (depsT (updA T (dgF p 2) none)) := d1.trans d2.symm
  have hfr : (frT root T).Perm ([m.f, f] ++ frT root (updA T (dgF p 2) none)) := by
    refine ((n1.map ND.f).append (hdd.map DP.f)).trans (List.Perm.trans ?_ (List.Perm.append_left [m.f, f] ((n2.map ND.f).append_right _)).symm)
    simp only [List.map_cons, List.cons_append, List.nil_append]
    exact (List.Perm.swap _ _ _).trans (List.Perm.cons _ (List.Perm.swap _ _ _))
  have hlg := legs_updT h.t.s (a := dgF p 2) (o := none) (fun m e => by cases e)
  have htr : TrOk root (updA T (dgF p 2) none) := h.t.same (L := [m.f, f]) hlg hfr
  have hrot : ∀ A B C : ND, ∀ R : List ND, (A :: B :: C :: R).Perm (C :: A :: B :: R) := fun A B C R => (List.Perm.cons A (List.Perm.swap _ _ _)).trans (List.Perm.swap _ _ _)
  have s1 := perm_set h2.1 h2.2 (h.n.trans (n1.trans (hrot _ _ _ _))) (⟨f, updF e (dgF p 0) 0⟩ : ND)
  have g1 : (ns.set k2 ⟨f, updF e (dgF p 0) 0⟩).getD k1 default = ⟨m.f, midE m⟩ := by rw [getD_set k1 h2.1, if_neg ne3, h1.2]
  have s2 := perm_set (by rw [List.length_set]; exact h1.1) g1 (s1.trans (hrot _ _ _ _)) (⟨m.f, updF (midE m) (dgF p 1) 0⟩ : ND)
  have g2 : ((ns.set k2 ⟨f, updF e (dgF p 0) 0⟩).set k1 ⟨m.f, updF (midE m) (dgF p 1) 0⟩).getD k0 default = ⟨root, rootE T⟩ := by
    rw [getD_set k0 (by rw [List.length_set]; exact h1.1), if_neg ne1, getD_set k0 h2.1, if_neg ne2, h0.2]
  have s3 := perm_set (by rw [List.length_set, List.length_set]; exact h0.1) g2 (s2.trans (hrot _ _ _ _)) (⟨root, updF (rootE T) (dgF p 2) 0⟩ : ND)
  have s4 : (((ns.set k2 ⟨f, updF e (dgF p 0) 0⟩).set k1 ⟨m.f, updF (midE m) (dgF p 1) 0⟩).set k0 ⟨root, updF (rootE T) (dgF p 2) 0⟩).Perm (⟨f, updF e (dgF p 0) 0⟩ :: ⟨m.f, updF (midE m) (dgF p 1) 0⟩ :: nodesT root (updA T (dgF p 2) none)) := by
    refine s3.trans (List.Perm.trans ?_ (List.Perm.cons _ (List.Perm.cons _ n2)).symm)
    refine (List.Perm.cons _ (List.Perm.swap _ _ _)).trans ?_
    exact (hrot _ _ _ _).symm.trans (List.Perm.refl _)
  have hnd := hfr.nodup_iff.1 h.t.d
  have hmn : m.f ∉ (nodesT root (updA T (dgF p 2) none)).map ND.f := fun x => (List.nodup_cons.1 hnd).1 (List.mem_append.2 (.inr (List.mem_append.2 (.inl x))))
  have hfn : f ∉ (nodesT root (updA T (dgF p 2) none)).map ND.f := fun x => (List.nodup_cons.1 (List.nodup_cons.1 hnd).2).1 (List.mem_append.2 (.inr (List.mem_append.2 (.inl x))))
  have hpm := filt_two rfl rfl hfn hmn s4
  refine ⟨_, ⟨htr, hpm, ?_, ?_⟩, fun q hq => ?_, fun x hx => hfr.mem_iff.2 (List.mem_append.2 (.inr hx))⟩
  · exact (asc_set (by rw [List.length_set, List.length_set]; exact h0.1) (y := ⟨root, updF (rootE T) (dgF p 2) 0⟩) (by rw [g2]) (asc_set (by rw [List.length_set]; exact h1.1) (y := ⟨m.f, updF (midE m) (dgF p 1) 0⟩) (by rw [g1]) (asc_set h2.1 (y := ⟨f, updF e (dgF p 0) 0⟩) (by rw [h2.2]) h.o))).sublist List.filter_sublist
  · rw [h.d]
    exact dps_eq (deps_asc _) (deps_asc _) hdd
  · have hde := dg_eq hq hp
    unfold pgT
    rw [lv_updT]
    by_cases c0 : dgF q 2 = dgF p 2
    · rw [if_pos c0]
      by_cases c2 : q = p
      · rw [if_pos c2]
      · rw [if_neg c2]
        unfold lvT
        rw [c0, hT]
        dsimp only
        by_cases c1 : dgF q 1 = dgF p 1
        · rw [c1, hs]
          have c3 := hde.1 ⟨c0, c1⟩
          have hd0 : dgF q 0 ≠ dgF p 0 := fun x => c2 ((dg0_eq c3).1 x)
          have := hz (dgF q 0)
          unfold updF at this
          rw [if_neg hd0] at this
          exact this.symm
        · rw [hlegs _ c1]; rfl
    · rw [if_neg c0, if_neg (fun x => c0 (by rw [x]))]
end
end Go.Proofs.YtbgjelhefhcnpaaGreat
