/- Texts joined: ShOwn, TlbLook, Map. Each part's own remark says what it proves. -/
import Derived.Test.YtojfaelafakemaaM16
import Derived.Test.YtojfaelafakemaaM07
import Derived.Test.YtojfaelafakemaaM05
import Derived.Maps.RangeRun
import Derived.MapKept
import Derived.Carry
import Derived.ChangeMaps4
/- Rows of the call's own for a shootdown machine, and the walk of the copy. No conditions. -/
set_option linter.unusedSimpArgs false
set_option linter.unusedVariables false
namespace Go.Proofs.Ytojfaelafakemaa
open Go Go.RowKit
/-- The rows of a machine. -/
structure SR where
  t : Row
  b : Row
  p : Row
  l : Row
  w : Row
  bs : List Row
  ps : List Row
def tlx (bs : List Row) (tl : List TL) : List TB := List.zipWith (fun r b => ⟨b.z, r.sv⟩) bs tl
abbrev tls (m : SM) : List (List TE) := m.tl.map TL.l
abbrev SNb (q : SR) (m : SM) : List Chunk := nestE 71 q.bs (tls m)
abbrev SNp (q : SR) (m : SM) : List Chunk := nestE 62 q.ps m.pd
abbrev SC (q : SR) (m : SM) : List Chunk := tlS q.b (tlx q.bs m.tl) :: pdS q.p (q.ps.map Row.sv) :: u64S q.t m.tb :: lbS q.l m.lm :: inS q.w m.wd :: (SNb q m ++ SNp q m)
structure SOk (q : SR) (m : SM) : Prop where
  hb : q.bs.length = m.tl.length
  hp : q.ps.length = m.pd.length
abbrev hd (q : SR) : SH := ⟨q.t.sv, q.b.sv, q.p.sv, q.l.sv, q.w.sv⟩
section
variable {bs ps : List Row} {tl : List TL}
theorem tlx_len (hl : bs.length = tl.length) : (tlx bs tl).length = tl.length := by unfold tlx; simp [hl]
theorem tlx_get (hl : bs.length = tl.length) {i : Nat} (hi : i < tl.length) : (tlx bs tl).getD i default = ⟨(tl.getD i default).z, (bs.getD i (Row.nil 0)).sv⟩ := by
  unfold tlx
  rw [List.getD_eq_getElem?_getD, List.getElem?_zipWith, List.getElem?_eq_getElem hi, List.getElem?_eq_getElem (show i < bs.length by omega)]
  simp [List.getD_eq_getElem?_getD, List.getElem?_eq_getElem hi, List.getElem?_eq_getElem (show i < bs.length by omega)]
theorem tlx_set (bs : List Row) (tl : List TL) (i : Nat) (r' : Row) (b' : TL) : (tlx bs tl).set i ⟨b'.z, r'.sv⟩ = tlx (bs.set i r') (tl.set i b') := by
  unfold tlx
  apply List.ext_getElem?
  intro j
  rw [List.getElem?_set, List.getElem?_zipWith, List.getElem?_zipWith, List.getElem?_set, List.getElem?_set, List.length_zipWith]
  by_cases h : i = j
  · subst h
    simp only [if_true]
    by_cases h1 : i < bs.length <;> by_cases h2 : i < tl.length <;> first | (simp [h1, h2]; done) | (simp [h1, h2]; omega)
  · simp [h]
theorem tlx_snoc (hl : bs.length = tl.length) (r' : Row) (b' : TL) : tlx (bs ++ [r']) (tl ++ [b']) = tlx bs tl ++ [⟨b'.z, r'.sv⟩] := by
  unfold tlx
  rw [List.zipWith_append hl]
  rfl
theorem tls_get (m : SM) (i : Nat) : (tls m).getD i default = (m.tl.getD i default).l := by
  rw [List.getD_eq_getElem?_getD, List.getElem?_map, List.getD_eq_getElem?_getD]
  cases m.tl[i]? <;> rfl
end
theorem rdS_own {w0 : World} {cs : List Chunk} {q : SR} {m : SM} (h : SOk q m) : RdS (Hp w0 (SC q m ++ cs)) (hd q) (tlx q.bs m.tl) (q.ps.map Row.sv) m where
  tb := rd_chunk ⟨2, rfl⟩
  tl := rd_chunk ⟨0, rfl⟩
  tll := tlx_len h.hb
  tz := fun i => by
    rcases Nat.lt_or_ge i m.tl.length with hi | hi
    · rw [tlx_get h.hb hi]
    · rw [getD_none (by rw [tlx_len h.hb]; exact hi), getD_none hi]; rfl
  te := fun i => by
    rcases Nat.lt_or_ge i m.tl.length with hi | hi
    · rw [tlx_get h.hb hi, ← tls_get]
      refine rd_chunk (r := q.bs.getD i (Row.nil 0)) (e := 71) (has_mem ?_)
      refine List.mem_append_left _ (List.mem_cons_of_mem _ (List.mem_cons_of_mem _ (List.mem_cons_of_mem _ (List.mem_cons_of_mem _ (List.mem_cons_of_mem _ (List.mem_append_left _ (nestE_mem (by simp [h.hb]) (by simpa using hi))))))))
    · rw [getD_none (by rw [tlx_len h.hb]; exact hi), getD_none hi]
      exact rd_nil
  pd := rd_chunk ⟨1, rfl⟩
  pdl := by rw [List.length_map, h.hp]
  pe := (rdL_own (e := 62) h.hp fun i hi => has_mem (List.mem_append_left _ (List.mem_cons_of_mem _ (List.mem_cons_of_mem _ (List.mem_cons_of_mem _ (List.mem_cons_of_mem _ (List.mem_cons_of_mem _ (List.mem_append_right _ (nestE_mem h.hp hi))))))))).inn
  lm := rd_chunk ⟨3, rfl⟩
  wd := rd_chunk ⟨4, rfl⟩
theorem two_perm {A B : Chunk} {Na Nb cs : List Chunk} (K : List Chunk) : (A :: B :: (K ++ ((Na ++ Nb) ++ cs))).Perm (K ++ (((Na ++ [B]) ++ (Nb ++ [A])) ++ cs)) := by
  have h1 : (B :: (K ++ ((Na ++ Nb) ++ cs))).Perm (K ++ (Na ++ (B :: (Nb ++ cs)))) := by
    rw [List.append_assoc, ← List.append_assoc K, ← List.append_assoc K]
    exact List.perm_middle.symm
  refine (List.Perm.cons A h1).trans ?_
  have h2 : (A :: (K ++ (Na ++ (B :: (Nb ++ cs))))).Perm (K ++ (Na ++ (B :: (Nb ++ (A :: cs))))) := by
    have e1 : ∀ X : List Chunk, K ++ (Na ++ (B :: (Nb ++ X))) = (K ++ (Na ++ (B :: Nb))) ++ X := fun X => by simp
    rw [e1, e1]
    exact List.perm_middle.symm
  refine h2.trans (List.Perm.of_eq ?_)
  simp
/-- A row of values while its first elements are turned. -/
def mixT {α : Type} (a b : List α) (i : Nat) : List α := a ++ b.drop i
section
variable {α : Type} [Inhabited α] {a b : List α} {i : Nat}
omit [Inhabited α] in
theorem mixT_len (ha : a.length = i) (hi : i ≤ b.length) : (mixT a b i).length = b.length := by unfold mixT; simp; omega
theorem mixT_get (ha : a.length = i) : (mixT a b i).getD i default = b.getD i default := by
  unfold mixT
  rw [List.getD_eq_getElem?_getD, List.getElem?_append_right (by omega), ha, Nat.sub_self, List.getElem?_drop, List.getD_eq_getElem?_getD]
  rfl
omit [Inhabited α] in
theorem mixT_set (ha : a.length = i) (hi : i < b.length) (x : α) : (mixT a b i).set i x = mixT (a ++ [x]) b (i + 1) := by
  unfold mixT
  rw [List.set_append_right _ _ (by omega), ha, Nat.sub_self, List.append_assoc]
  congr 1
  rw [List.drop_eq_getElem_cons hi]
  rfl
omit [Inhabited α] in
theorem mixT_end (h : b.length ≤ i) : mixT a b i = a := by unfold mixT; rw [List.drop_of_length_le h, List.append_nil]
end
attribute [local irreducible] decR enOk pgOk teOk ivOk tlOk checkM lbOk formM limM schk
attribute [local irreducible] Code.wp wpList bodyPost Exit.then Exit.inBlock Calls wpQuiet Tri TriQ
section
variable (w0 : World) (cs : List Chunk)
set_option maxHeartbeats 4000000 in
theorem own_c {h : SH} {xb : List TB} {xp : List SV} {m : SM} (hC : RdS (Hp w0 cs) h xb xp m) (hpl : m.pd.length = m.tl.length) (hb : m.tl.length ≤ 4 ∧ m.wd.length ≤ 256 ∧ m.tb.length ≤ 512) (hlm : m.lm.length ≤ 1000000) (hte : ∀ i, (m.tl.getD i default).l.length ≤ 1000000) (hpe : ∀ i, (m.pd.getD i default).length ≤ 1000000) :
    Cal Try.prog 28 [hdV h] (Hp w0 cs) (fun q : {q : SR // SOk q m} => hdV (hd q.1)) (fun q => Hp w0 (SC q.1 m ++ cs)) := by
  have htl := hC.tll
  have hpdl := hC.pdl
  refine cal_of_tri Try.func28 rfl Try.ntmps28 rfl ?_
  (repeat (first | refine tri_seq ?_ | refine tri_then ?_)); refine tri_region ?_; (repeat (first | refine au_pure ?_ | refine au_pass ?_ | refine au_box (fun _ => ?_) | refine au_alloc (fun _ => ?_) | refine au_store ?_ | refine au_make rfl rfl (fun _ => ?_) | refine au_lit rfl rfl rfl (fun _ => ?_) | refine au_append rfl rfl rfl rfl (fun _ => au_norm ?_) | refine au_storeE rfl rfl rfl rfl ?_)); refine tri_nil ?_; (repeat refine tri_then ?_)
  rename_i g1 g2
  have hC1 := hC.cons (c := hdC g1 h)
  (repeat (first | refine tri_seq ?_ | refine tri_then ?_))
  refine tri_weak (H' := Hp w0 (shC g2 (.slice none 0 0) (.slice none 0 0) (.slice none 0 0) (.slice none 0 0) (.slice none 0 0) :: hdC g1 h :: cs)) (fun w h => h) ?_
  refine ar_held [10, 12, 14] (hdC g1 h :: cs) rfl ?_
  refine ar_free 0 rfl rfl rfl ?_; refine ar_free 3 rfl rfl rfl ?_; refine ar_free 6 rfl rfl rfl ?_
  refine ar_take 1 rfl rfl rfl ?_; refine ar_take 4 rfl rfl rfl ?_; refine ar_take 7 rfl rfl rfl ?_
  refine ar_op 2 rfl ?_
  refine au_callC rfl rfl rfl rfl rfl (cloneW64_c w0 _ hC1.tb.cons (by omega)) ?_
  intro rt
  refine tri_nil ?_; refine ar_in ?_
  refine ar_free 9 rfl rfl rfl ?_
  refine ar_op 5 rfl ?_
  refine au_callC rfl rfl rfl rfl rfl (cloneLB_c w0 _ hC1.lm.cons.cons hlm) ?_
  intro rl
  refine tri_nil ?_; refine ar_in ?_
  refine ar_op 8 rfl ?_
  refine au_callC rfl rfl rfl rfl rfl (cloneI_c w0 _ hC1.wd.cons.cons.cons (by omega)) ?_
  intro rw'
  refine tri_nil ?_; refine ar_in ?_
  refine ar_op 10 rfl ?_
  refine au_store ?_
  refine tri_nil ?_; refine ar_ink ?_
  refine ar_free 11 rfl rfl rfl ?_
  refine ar_op 12 rfl ?_
  refine au_store ?_
  refine tri_nil ?_; refine ar_ink ?_
  refine ar_free 13 rfl rfl rfl ?_
  refine ar_op 14 rfl ?_
  refine au_store ?_
  refine tri_nil ?_; refine ar_ink ?_
  refine ar_done ?_
  (repeat (first | refine tri_seq ?_ | refine tri_then ?_))
  refine tri_weak (H' := Hp w0 (inS rw' m.wd :: lbS rl m.lm :: u64S rt m.tb :: shC g2 (.slice none 0 0) (.slice none 0 0) (.slice none 0 0) (.slice none 0 0) (.slice none 0 0) :: shC g1 rt.v h.b.v h.p.v rl.v rw'.v :: cs)) (fun w h => h) ?_
  refine ar_held [7, 9] (shC g1 rt.v h.b.v h.p.v rl.v rw'.v :: cs) rfl ?_
  refine ar_free 0 rfl rfl rfl ?_; refine ar_free 3 rfl rfl rfl ?_
  refine ar_take 1 rfl rfl rfl ?_; refine ar_take 4 rfl rfl rfl ?_
  refine ar_op 2 rfl ?_
  refine au_callC rfl rfl rfl rfl rfl (cloneTB_c w0 _ (hC.tl.cons.cons.cons.cons.cons) (by omega)) ?_
  intro rb
  refine tri_nil ?_; refine ar_in ?_
  refine ar_free 6 rfl rfl rfl ?_
  refine ar_op 5 rfl ?_
  refine au_callC rfl rfl rfl rfl rfl (clonePD_c w0 _ (hC.pd.cons.cons.cons.cons.cons.cons) (by omega)) ?_
  intro rp
  refine tri_nil ?_; refine ar_in ?_
  refine ar_op 7 rfl ?_
  refine au_store ?_
  refine tri_nil ?_; refine ar_ink ?_
  refine ar_free 8 rfl rfl rfl ?_
  refine ar_op 9 rfl ?_
  refine au_store ?_
  refine tri_nil ?_; refine ar_ink ?_
  refine ar_done ?_
  refine tri_weak (H' := Hp w0 (shC g1 rt.v rb.v rp.v rl.v rw'.v :: tlS rb (mixT (tlx [] (m.tl.take 0)) xb 0) :: pdS rp (mixT (([] : List Row).map Row.sv) xp 0) :: shC g2 (.slice none 0 0) (.slice none 0 0) (.slice none 0 0) (.slice none 0 0) (.slice none 0 0) :: u64S rt m.tb :: lbS rl m.lm :: inS rw' m.wd :: ((nestE 71 [] ((tls m).take 0) ++ nestE 62 [] (m.pd.take 0)) ++ cs))) (fun w h => ?_) ?_
  · exact HpM.perm h (lit_perm (p := [0, 1, 2, 3, 4, 5, 6]) (q := [6, 1, 0, 5, 4, 3, 2]) (by decide) (fun i => match i with | 0 => pdS rp xp | 1 => tlS rb xb | 2 => inS rw' m.wd | 3 => lbS rl m.lm | 4 => u64S rt m.tb | 5 => shC g2 (.slice none 0 0) (.slice none 0 0) (.slice none 0 0) (.slice none 0 0) (.slice none 0 0) | _ => shC g1 rt.v rb.v rp.v rl.v rw'.v) cs)
  have hlb : ∀ (bs : List Row) (c : Nat), bs.length = c → c ≤ m.tl.length → (tlx bs (m.tl.take c)).length = c := fun bs c hbs hc => by rw [tlx_len (by rw [hbs, List.length_take]; omega), List.length_take]; omega
  have hR0 : ∀ (bs : List Row) (c : Nat) (N : List Chunk) (Y : List SV), RdH (Hp w0 (shC g1 rt.v rb.v rp.v rl.v rw'.v :: tlS rb (mixT (tlx bs (m.tl.take c)) xb c) :: pdS rp Y :: N)) rb.v (mixT (tlx bs (m.tl.take c)) xb c) := fun _ _ _ _ => rd_chunk ⟨1, rfl⟩
  (repeat (first | refine zz ?_ | refine zv fun _ => ?_))
  refine au_pure ?_ (hy := yl_len rfl rfl (hR0 _ _ _ _))
  rw [mixT_len (hlb [] 0 rfl (by omega)) (by omega)]
  (repeat (first | refine zz ?_ | refine zv fun _ => ?_))
  refine tri_block ?_
  refine tri_loop3 (fun (c : Nat) (bs ps : List Row) => c ≤ m.tl.length ∧ bs.length = c ∧ ps.length = c) (fun c _ _ => [(1, .pointer (some ⟨g1, 0, none⟩)), (2, .pointer (some ⟨g2, 0, none⟩)), (26, .int .i64 (xb.length : Int)), (27, .int .i64 (c : Int))])
    (fun c bs ps => Hp w0 (shC g1 rt.v rb.v rp.v rl.v rw'.v :: tlS rb (mixT (tlx bs (m.tl.take c)) xb c) :: pdS rp (mixT (ps.map Row.sv) xp c) :: shC g2 (.slice none 0 0) (.slice none 0 0) (.slice none 0 0) (.slice none 0 0) (.slice none 0 0) :: u64S rt m.tb :: lbS rl m.lm :: inS rw' m.wd :: ((nestE 71 bs ((tls m).take c) ++ nestE 62 ps (m.pd.take c)) ++ cs))) (fun c _ _ => m.tl.length - c)
    0 [] [] ⟨by omega, rfl, rfl⟩ (by repeat (first | exact trivial | refine ⟨rfl, ?_⟩)) (fun w h => h) ?_
  rintro c bs ps ⟨hcl, hbs, hps⟩
  (repeat (first | refine zz ?_ | refine zv fun _ => ?_))
  ((first | refine tri_cond (by rfl) (fun hc => ?_) (fun hc => ?_) | refine tri_gsplit (by rfl) (by rfl) (by (fail_if_success exact (rfl : _ = some (Value.bool true))); (fail_if_success exact (rfl : _ = some (Value.bool false))); rfl) (fun hc => ?_) (fun hc => ?_)) <;> (try simp only [decide_eq_true_eq, decide_eq_false_iff_not, beq_iff_eq, bne_iff_ne, ne_eq, Bool.not_eq_true', Bool.not_eq_false', beq_eq_false_iff_ne, bne_eq_false_iff_eq, Int.not_lt, Int.not_le, gt_iff_lt, ge_iff_le, Bool.and_eq_true, Bool.or_eq_true, Bool.and_eq_false_iff, Bool.or_eq_false_iff, Decidable.not_not, not_true_eq_false, not_false_eq_true, and_true, true_and, or_false, false_or, or_true, true_or, and_false, false_and, eq_self, Bool.true_eq_false, Bool.false_eq_true] at hc) <;> (try (exfalso; omega)))
  · (repeat (first | refine zz ?_ | refine zv fun _ => ?_))
    refine tri_block ?_
    (repeat (first | refine tri_seq ?_ | refine tri_then ?_)); refine tri_region ?_; (repeat (first | refine au_pure ?_ | refine au_pass ?_ | refine au_box (fun _ => ?_) | refine au_alloc (fun _ => ?_) | refine au_store ?_ | refine au_make rfl rfl (fun _ => ?_) | refine au_lit rfl rfl rfl (fun _ => ?_) | refine au_append rfl rfl rfl rfl (fun _ => au_norm ?_) | refine au_storeE rfl rfl rfl rfl ?_)); refine tri_nil ?_; (repeat refine tri_then ?_)
    have hsub : cs.Sublist ((nestE 71 bs ((tls m).take c) ++ nestE 62 ps (m.pd.take c)) ++ cs) := List.sublist_append_right _ _
    have hXl : (mixT (tlx bs (m.tl.take c)) xb c).length = xb.length := mixT_len (hlb bs c hbs hcl) (by omega)
    have hXg : (mixT (tlx bs (m.tl.take c)) xb c).getD c default = xb.getD c default := mixT_get (hlb bs c hbs hcl)
    have hYl : (mixT (ps.map Row.sv) xp c).length = xp.length := mixT_len (by simp [hps]) (by omega)
    have hYg : (mixT (ps.map Row.sv) xp c).getD c default = xp.getD c default := mixT_get (by simp [hps])
    have hXs : ∀ r1 : Row, (mixT (tlx bs (m.tl.take c)) xb c).set c ⟨((mixT (tlx bs (m.tl.take c)) xb c).getD c default).z, r1.sv⟩ = mixT (tlx (bs ++ [r1]) (m.tl.take (c + 1))) xb (c + 1) := fun r1 => by
      rw [hXg, mixT_set (hlb bs c hbs hcl) (by omega), take_step (by omega), tlx_snoc (by rw [hbs, List.length_take]; omega), hC.tz c]
    have hYs : ∀ r2 : Row, (mixT (ps.map Row.sv) xp c).set c r2.sv = mixT ((ps ++ [r2]).map Row.sv) xp (c + 1) := fun r2 => by
      rw [mixT_set (by simp [hps]) (by omega), List.map_append]; rfl
    obtain ⟨XX, hXX⟩ : ∃ X, X = mixT (tlx bs (m.tl.take c)) xb c := ⟨_, rfl⟩
    obtain ⟨YY, hYY⟩ : ∃ Y, Y = mixT (ps.map Row.sv) xp c := ⟨_, rfl⟩
    rw [← hXX] at hXl hXg hXs
    rw [← hYY] at hYl hYg hYs
    rw [← hXX, ← hYY]
    have hte' := hte c
    have hpe' := hpe c
    refine tri_seq ?_
    have hRx : RdH (Hp w0 (shC g1 rt.v rb.v rp.v rl.v rw'.v :: tlS rb XX :: cs)) rb.v XX := rd_chunk ⟨1, rfl⟩
    refine ar_held [12] (shC g1 rt.v rb.v rp.v rl.v rw'.v :: tlS rb XX :: cs) rfl ?_
    refine ar_free 0 rfl rfl rfl ?_; refine ar_free 2 rfl rfl rfl ?_; refine ar_free 3 rfl rfl rfl ?_; refine ar_free 5 rfl rfl rfl ?_
    refine ar_take 1 rfl rfl rfl ?_; refine ar_take 4 rfl rfl rfl ?_
    refine ar_take 6 rfl rfl rfl ?_ (hy := yl_idx (k := c) rfl rfl hRx (ix_nat rfl) (by rfl) (by omega))
    refine ar_take 7 rfl rfl rfl ?_
    refine ar_take 8 rfl rfl rfl ?_ (hy := yl_loadE rfl rfl hRx (by rfl) (by omega) (by rfl))
    rw [hXg]
    refine ar_op 9 rfl ?_
    have hTE : RdH (Hp w0 (shC g1 rt.v rb.v rp.v rl.v rw'.v :: tlS rb XX :: pdS rp YY :: shC g2 (.slice none 0 0) (.slice none 0 0) (.slice none 0 0) (.slice none 0 0) (.slice none 0 0) :: u64S rt m.tb :: lbS rl m.lm :: inS rw' m.wd :: ((nestE 71 bs ((tls m).take c) ++ nestE 62 ps (m.pd.take c)) ++ cs))) (xb.getD c default).s.v (m.tl.getD c default).l := fun w hw => hC.te c w (hw.sub (by repeat (first | exact List.Sublist.refl _ | assumption | apply List.Sublist.cons_cons | apply List.Sublist.cons)))
    refine au_callC rfl rfl rfl rfl rfl (clone_c w0 _ hTE hte') ?_
    intro r1
    refine tri_nil ?_; refine ar_in ?_
    refine ar_take 10 rfl rfl rfl ?_ (hy := yl_idx (k := c) rfl rfl hRx (ix_nat rfl) (by rfl) (by omega))
    refine ar_take 11 rfl rfl rfl ?_
    refine ar_op 12 rfl ?_
    refine au_storeE (a := (⟨(XX.getD c default).z, r1.sv⟩ : TB)) rfl rfl rfl rfl ?_
    refine tri_nil ?_; refine ar_ink ?_
    refine ar_done ?_
    rw [hXs]
    (repeat (first | refine tri_seq ?_ | refine tri_then ?_))
    have hRy : RdH (Hp w0 (shC g1 rt.v rb.v rp.v rl.v rw'.v :: pdS rp YY :: cs)) rp.v YY := rd_chunk ⟨1, rfl⟩
    refine ar_held [10] (shC g1 rt.v rb.v rp.v rl.v rw'.v :: pdS rp YY :: cs) rfl ?_
    refine ar_free 0 rfl rfl rfl ?_; refine ar_free 2 rfl rfl rfl ?_; refine ar_free 3 rfl rfl rfl ?_; refine ar_free 5 rfl rfl rfl ?_
    refine ar_take 1 rfl rfl rfl ?_; refine ar_take 4 rfl rfl rfl ?_
    refine ar_take 6 rfl rfl rfl ?_ (hy := yl_idx (k := c) rfl rfl hRy (ix_nat rfl) (by rfl) (by omega))
    refine ar_take 7 rfl rfl rfl ?_ (hy := yl_loadE rfl rfl hRy (by rfl) (by omega) (by rfl))
    rw [hYg]
    refine ar_op 8 rfl ?_
    have hPE : RdH (Hp w0 (eS r1 (m.tl.getD c default).l :: shC g1 rt.v rb.v rp.v rl.v rw'.v :: tlS rb (mixT (tlx (bs ++ [r1]) (m.tl.take (c + 1))) xb (c + 1)) :: pdS rp YY :: shC g2 (.slice none 0 0) (.slice none 0 0) (.slice none 0 0) (.slice none 0 0) (.slice none 0 0) :: u64S rt m.tb :: lbS rl m.lm :: inS rw' m.wd :: ((nestE 71 bs ((tls m).take c) ++ nestE 62 ps (m.pd.take c)) ++ cs))) (xp.getD c default).v (m.pd.getD c default) := fun w hw => hC.pe c w (hw.sub (by repeat (first | exact List.Sublist.refl _ | assumption | apply List.Sublist.cons_cons | apply List.Sublist.cons)))
    refine au_callC rfl rfl rfl rfl rfl (cloneIV_c w0 _ hPE hpe') ?_
    intro r2
    refine tri_nil ?_; refine ar_in ?_
    refine ar_take 9 rfl rfl rfl ?_ (hy := yl_idx (k := c) rfl rfl hRy (ix_nat rfl) (by rfl) (by omega))
    refine ar_op 10 rfl ?_
    refine au_storeE (a := r2.sv) rfl rfl rfl rfl ?_
    refine tri_nil ?_; refine ar_ink ?_
    refine ar_done ?_
    rw [hYs]
    (repeat (first | refine zz ?_ | refine zv fun _ => ?_))
    refine tri_nx3 (c + 1) (bs ++ [r1]) (ps ++ [r2]) (by omega) ⟨by omega, by simp [hbs], by simp [hps]⟩ (by repeat (first | exact trivial | refine ⟨rfl, ?_⟩)) (fun w h => ?_)
    have e1 : (tls m).take (c + 1) = (tls m).take c ++ [(m.tl.getD c default).l] := by rw [← tls_get]; exact take_step (by simp; omega)
    rw [e1, take_step (show c < m.pd.length by omega), nestE_snoc (by simp [hbs]; omega), nestE_snoc (by simp [hps]; omega)]
    exact HpM.perm h (two_perm [_, _, _, _, _, _, _])
  · have hce : c = m.tl.length := by omega
    subst hce
    have e1 : (tls m).take m.tl.length = tls m := List.take_of_length_le (by simp)
    rw [mixT_end (by omega), mixT_end (by omega), e1, List.take_of_length_le (Nat.le_refl m.tl.length), List.take_of_length_le (show m.pd.length ≤ m.tl.length by omega)]
    (repeat (first | refine zz ?_ | refine zv fun _ => ?_))
    refine au_done1 rfl ?_
    exact fun w hw => ⟨⟨⟨rt, rb, rp, rl, rw', bs, ps⟩, ⟨hbs, by show ps.length = m.pd.length; omega⟩⟩, rfl, hw.sub (by repeat (first | exact List.Sublist.refl _ | assumption | apply List.Sublist.cons_cons | apply List.Sublist.cons))⟩
end
end Go.Proofs.Ytojfaelafakemaa

/- The walks of Lookup, the reference's Lookup, and Covers. No conditions. -/
set_option linter.unusedSimpArgs false
set_option linter.unusedVariables false
namespace Go.Proofs.Ytojfaelafakemaa
open Go Go.RowKit
attribute [local irreducible] Code.wp wpList bodyPost Exit.then Exit.inBlock Calls wpQuiet Tri TriQ
section
variable (w0 : World) (cs : List Chunk)
set_option maxHeartbeats 2000000 in
theorem lookup_c {z : Int} {v : Value} {l : List TE} (s p : Int) (hR : RdH (Hp w0 cs) v l) (hlen : l.length ≤ 9223372036854775807) (hw : ∀ x ∈ l, Wf x) :
    Cal Try.prog 15 [tlbV z v, .int .i64 s, .int .i64 p] (Hp w0 cs) (fun _ : Unit => .tuple #[.int .u64 (lookM z l s p).1, .bool (lookM z l s p).2]) (fun _ => Hp w0 cs) := by
  refine cal_of_tri Try.func15 rfl Try.ntmps15 rfl ?_
  (repeat (first | refine au_pure ?_ | refine au_pass ?_ | refine au_box (fun _ => ?_) | refine au_alloc (fun _ => ?_) | refine au_store ?_ | refine au_make rfl rfl (fun _ => ?_) | refine au_lit rfl rfl rfl (fun _ => ?_) | refine au_append rfl rfl rfl rfl (fun _ => au_norm ?_) | refine au_storeE rfl rfl rfl rfl ?_ | refine tri_seq ?_ | refine tri_then ?_ | refine tri_region ?_ | refine tri_nil ?_ | refine tri_skip ?_ | refine tri_ret ?_ | refine tri_exit ?_ | refine tri_thenr ?_ | refine tri_thene ?_ | refine tri_blkn ?_ | refine tri_blkr ?_ | refine tri_blke ?_ | refine tri_blko (by rfl) ?_ | refine tri_if_t (by rfl) ?_ | refine tri_if_f (by rfl) ?_ | fail))
  rename_i g3
  refine au_callC rfl rfl rfl rfl rfl (check_c w0 _ (l := l) (by repeat (first | assumption | exact rd_chunk (by first | (apply has_at; (repeat (first | exact at0 | apply atS)); done) | (repeat (first | assumption | apply has_cons))) | apply RdH.cons | refine RdH.cut ?_ rfl (by omega) (by omega))) hlen hw) (fun _ => ?_)
  (repeat' (first | refine au_pure ?_ | refine au_pass ?_ | refine au_box (fun _ => ?_) | refine au_alloc (fun _ => ?_) | refine au_store ?_ | refine au_make rfl rfl (fun _ => ?_) | refine au_lit rfl rfl rfl (fun _ => ?_) | refine au_append rfl rfl rfl rfl (fun _ => au_norm ?_) | refine au_storeE rfl rfl rfl rfl ?_ | refine tri_seq ?_ | refine tri_then ?_ | refine tri_region ?_ | refine tri_nil ?_ | refine tri_skip ?_ | refine tri_ret ?_ | refine tri_exit ?_ | refine tri_thenr ?_ | refine tri_thene ?_ | refine tri_blkn ?_ | refine tri_blkr ?_ | refine tri_blke ?_ | refine tri_blko (by rfl) ?_ | refine tri_if_t (by rfl) ?_ | refine tri_if_f (by rfl) ?_ | ((first | refine tri_cond (by rfl) (fun hc => ?_) (fun hc => ?_) | refine tri_gsplit (by rfl) (by rfl) (by (fail_if_success exact (rfl : _ = some (Value.bool true))); (fail_if_success exact (rfl : _ = some (Value.bool false))); rfl) (fun hc => ?_) (fun hc => ?_)) <;> (try simp only [decide_eq_true_eq, decide_eq_false_iff_not, beq_iff_eq, bne_iff_ne, ne_eq, Bool.not_eq_true', Bool.not_eq_false', beq_eq_false_iff_ne, bne_eq_false_iff_eq, Int.not_lt, Int.not_le, gt_iff_lt, ge_iff_le, Bool.and_eq_true, Bool.or_eq_true, Bool.and_eq_false_iff, Bool.or_eq_false_iff, Decidable.not_not, not_true_eq_false, not_false_eq_true, and_true, true_and, or_false, false_or, or_true, true_or, and_false, false_and, eq_self, Bool.true_eq_false, Bool.false_eq_true] at hc) <;> (try (exfalso; omega))) | fail))
  · have hne : ¬ checkM z l = 0 := by assumption
    refine au_done2 rfl ?_
    intro w hw; refine ⟨(), ?_, hw.sub (by repeat (first | exact List.Sublist.refl _ | assumption | apply List.Sublist.cons_cons | apply List.Sublist.cons))⟩
    rw [lookM, if_neg hne]
  have hok : checkM z l = 0 := by assumption
  have hvd := (check_ok.1 hok).v
  rw [lookM, if_pos hok]
  refine tri_block ?_
  refine tri_loop1 (fun k => k ≤ l.length ∧ ∀ j, j < k → covM (l.getD j default) s p = false) (fun k => [(1, .int .i64 s), (2, .int .i64 p), (6, .int .u64 0), (7, .bool false), (14, v), (15, .int .i64 (l.length : Int)), (16, .int .i64 (k : Int))]) (fun _ => Hp w0 (tlbC g3 z v :: cs)) (fun k => l.length - k)
    0 ⟨by omega, fun j hj => by omega⟩ (by repeat (first | exact trivial | refine ⟨rfl, ?_⟩)) (fun _ h => h) ?_
  rintro k ⟨hk, hp⟩
  (repeat' (first | refine au_pure ?_ | refine au_pass ?_ | refine au_box (fun _ => ?_) | refine au_alloc (fun _ => ?_) | refine au_store ?_ | refine au_make rfl rfl (fun _ => ?_) | refine au_lit rfl rfl rfl (fun _ => ?_) | refine au_append rfl rfl rfl rfl (fun _ => au_norm ?_) | refine au_storeE rfl rfl rfl rfl ?_ | refine tri_seq ?_ | refine tri_then ?_ | refine tri_region ?_ | refine tri_nil ?_ | refine tri_skip ?_ | refine tri_ret ?_ | refine tri_exit ?_ | refine tri_thenr ?_ | refine tri_thene ?_ | refine tri_blkn ?_ | refine tri_blkr ?_ | refine tri_blke ?_ | refine tri_blko (by rfl) ?_ | refine tri_if_t (by rfl) ?_ | refine tri_if_f (by rfl) ?_ | ((first | refine tri_cond (by rfl) (fun hc => ?_) (fun hc => ?_) | refine tri_gsplit (by rfl) (by rfl) (by (fail_if_success exact (rfl : _ = some (Value.bool true))); (fail_if_success exact (rfl : _ = some (Value.bool false))); rfl) (fun hc => ?_) (fun hc => ?_)) <;> (try simp only [decide_eq_true_eq, decide_eq_false_iff_not, beq_iff_eq, bne_iff_ne, ne_eq, Bool.not_eq_true', Bool.not_eq_false', beq_eq_false_iff_ne, bne_eq_false_iff_eq, Int.not_lt, Int.not_le, gt_iff_lt, ge_iff_le, Bool.and_eq_true, Bool.or_eq_true, Bool.and_eq_false_iff, Bool.or_eq_false_iff, Decidable.not_not, not_true_eq_false, not_false_eq_true, and_true, true_and, or_false, false_or, or_true, true_or, and_false, false_and, eq_self, Bool.true_eq_false, Bool.false_eq_true] at hc) <;> (try (exfalso; omega))) | fail))
  · refine tri_block ?_
    have hpk := (hvd _ (mem_getD' (k := k) (by omega))).p
    (repeat (first | refine au_pure ?_ | refine au_pass ?_ | refine au_box (fun _ => ?_) | refine au_alloc (fun _ => ?_) | refine au_store ?_ | refine au_make rfl rfl (fun _ => ?_) | refine au_lit rfl rfl rfl (fun _ => ?_) | refine au_append rfl rfl rfl rfl (fun _ => au_norm ?_) | refine au_storeE rfl rfl rfl rfl ?_ | refine tri_seq ?_ | refine tri_then ?_ | refine tri_region ?_ | refine tri_nil ?_ | refine tri_skip ?_ | refine tri_ret ?_ | refine tri_exit ?_ | refine tri_thenr ?_ | refine tri_thene ?_ | refine tri_blkn ?_ | refine tri_blkr ?_ | refine tri_blke ?_ | refine tri_blko (by rfl) ?_ | refine tri_if_t (by rfl) ?_ | refine tri_if_f (by rfl) ?_ | fail))
    refine au_call rfl rfl (cl_of rfl rfl rfl (fun _ h => Ret.hp (covers_any (l.getD k default) s p _ (wf_at hw k) (by omega)) h)) ?_
    (repeat' (first | refine au_pure ?_ | refine au_pass ?_ | refine au_box (fun _ => ?_) | refine au_alloc (fun _ => ?_) | refine au_store ?_ | refine au_make rfl rfl (fun _ => ?_) | refine au_lit rfl rfl rfl (fun _ => ?_) | refine au_append rfl rfl rfl rfl (fun _ => au_norm ?_) | refine au_storeE rfl rfl rfl rfl ?_ | refine tri_seq ?_ | refine tri_then ?_ | refine tri_region ?_ | refine tri_nil ?_ | refine tri_skip ?_ | refine tri_ret ?_ | refine tri_exit ?_ | refine tri_thenr ?_ | refine tri_thene ?_ | refine tri_blkn ?_ | refine tri_blkr ?_ | refine tri_blke ?_ | refine tri_blko (by rfl) ?_ | refine tri_if_t (by rfl) ?_ | refine tri_if_f (by rfl) ?_ | ((first | refine tri_cond (by rfl) (fun hc => ?_) (fun hc => ?_) | refine tri_gsplit (by rfl) (by rfl) (by (fail_if_success exact (rfl : _ = some (Value.bool true))); (fail_if_success exact (rfl : _ = some (Value.bool false))); rfl) (fun hc => ?_) (fun hc => ?_)) <;> (try simp only [decide_eq_true_eq, decide_eq_false_iff_not, beq_iff_eq, bne_iff_ne, ne_eq, Bool.not_eq_true', Bool.not_eq_false', beq_eq_false_iff_ne, bne_eq_false_iff_eq, Int.not_lt, Int.not_le, gt_iff_lt, ge_iff_le, Bool.and_eq_true, Bool.or_eq_true, Bool.and_eq_false_iff, Bool.or_eq_false_iff, Decidable.not_not, not_true_eq_false, not_false_eq_true, and_true, true_and, or_false, false_or, or_true, true_or, and_false, false_and, eq_self, Bool.true_eq_false, Bool.false_eq_true] at hc) <;> (try (exfalso; omega))) | fail))
    · have hc : covM (l.getD k default) s p = true := by assumption
      refine au_done2 rfl ?_
      intro w hw; refine ⟨(), ?_, hw.sub (by repeat (first | exact List.Sublist.refl _ | assumption | apply List.Sublist.cons_cons | apply List.Sublist.cons))⟩
      rw [look_at (by omega) hc hp]
    · exact tri_nx1 (k + 1) (by omega) ⟨by omega, all_next hp (by assumption)⟩ (by repeat (first | exact trivial | refine ⟨rfl, ?_⟩)) (fun _ h => h.sub (by repeat (first | exact List.Sublist.refl _ | assumption | apply List.Sublist.cons_cons | apply List.Sublist.cons)))
  · refine au_done2 rfl ?_
    intro w hw; refine ⟨(), ?_, hw.sub (by repeat (first | exact List.Sublist.refl _ | assumption | apply List.Sublist.cons_cons | apply List.Sublist.cons))⟩
    rw [look_no fun j hj => hp j (by omega)]
theorem covers_c {z : Int} {v : Value} {l : List TE} (s p : Int) (hR : RdH (Hp w0 cs) v l) (hlen : l.length ≤ 9223372036854775807) (hw : ∀ x ∈ l, Wf x) :
    Cal Try.prog 75 [tlbV z v, .int .i64 s, .int .i64 p] (Hp w0 cs) (fun _ : Unit => .bool (lookM z l s p).2) (fun _ => Hp w0 cs) := by
  refine cal_of_tri Try.func75 rfl Try.ntmps75 rfl ?_
  (repeat (first | refine au_pure ?_ | refine au_pass ?_ | refine au_box (fun _ => ?_) | refine au_alloc (fun _ => ?_) | refine au_store ?_ | refine au_make rfl rfl (fun _ => ?_) | refine au_lit rfl rfl rfl (fun _ => ?_) | refine au_append rfl rfl rfl rfl (fun _ => au_norm ?_) | refine au_storeE rfl rfl rfl rfl ?_ | refine tri_seq ?_ | refine tri_then ?_ | refine tri_region ?_ | refine tri_nil ?_ | refine tri_skip ?_ | refine tri_ret ?_ | refine tri_exit ?_ | refine tri_thenr ?_ | refine tri_thene ?_ | refine tri_blkn ?_ | refine tri_blkr ?_ | refine tri_blke ?_ | refine tri_blko (by rfl) ?_ | refine tri_if_t (by rfl) ?_ | refine tri_if_f (by rfl) ?_ | fail))
  refine au_callC rfl rfl rfl rfl rfl (lookup_c w0 _ (l := l) s p (by repeat (first | assumption | exact rd_chunk (by first | (apply has_at; (repeat (first | exact at0 | apply atS)); done) | (repeat (first | assumption | apply has_cons))) | apply RdH.cons | refine RdH.cut ?_ rfl (by omega) (by omega))) hlen hw) (fun _ => ?_)
  (repeat (first | refine au_pure ?_ | refine au_pass ?_ | refine au_box (fun _ => ?_) | refine au_alloc (fun _ => ?_) | refine au_store ?_ | refine au_make rfl rfl (fun _ => ?_) | refine au_lit rfl rfl rfl (fun _ => ?_) | refine au_append rfl rfl rfl rfl (fun _ => au_norm ?_) | refine au_storeE rfl rfl rfl rfl ?_ | refine tri_seq ?_ | refine tri_then ?_ | refine tri_region ?_ | refine tri_nil ?_ | refine tri_skip ?_ | refine tri_ret ?_ | refine tri_exit ?_ | refine tri_thenr ?_ | refine tri_thene ?_ | refine tri_blkn ?_ | refine tri_blkr ?_ | refine tri_blke ?_ | refine tri_blko (by rfl) ?_ | refine tri_if_t (by rfl) ?_ | refine tri_if_f (by rfl) ?_ | fail))
  refine au_done1 rfl ?_
  intro w hw; exact ⟨(), rfl, hw.sub (by repeat (first | exact List.Sublist.refl _ | assumption | apply List.Sublist.cons_cons | apply List.Sublist.cons))⟩
end
end Go.Proofs.Ytojfaelafakemaa

/- Maps from integers, in a block of the call's own: an association list in the order of the entries. No conditions. -/
set_option linter.unusedSimpArgs false
set_option linter.unusedVariables false
namespace Go.Proofs.Ytojfaelafakemaa
open Go Go.RowKit
class MV (β : Type) where
  val : β → Value
  dflt : β
instance : MV Int := ⟨.int .i64, 0⟩
instance : MV Bool := ⟨.bool, false⟩
/-- The program's type t is a map from int to a type of values of β. -/
class MpTy (P : Program) (t : Nat) (β : outParam Type) [MV β] : Prop where
  ex : ∃ k e, P.underlying t = some (.map k e) ∧ P.underlying k = some (.int .i64) ∧ ∀ w, (zeroValue e).run P w = .ok (MV.val (MV.dflt : β)) w
section
variable {β : Type}
def aFind : List (Int × β) → Int → Option (Nat × β)
  | [], _ => none
  | p :: r, k => if k = p.1 then some (0, p.2) else (aFind r k).map fun q => (q.1 + 1, q.2)
def aGet (l : List (Int × β)) (k : Int) : Option β := (aFind l k).map (·.2)
def aSet (l : List (Int × β)) (k : Int) (v : β) : List (Int × β) := match aFind l k with | some (j, _) => l.set j (k, v) | none => l ++ [(k, v)]
def aDel (l : List (Int × β)) (k : Int) : List (Int × β) := match aFind l k with | some (j, _) => l.eraseIdx j | none => l
theorem aFind_some : ∀ {l : List (Int × β)} {k : Int} {j : Nat} {v : β}, aFind l k = some (j, v) → l[j]? = some (k, v)
  | [], _, _, _, h => by simp [aFind] at h
  | p :: r, k, j, v, h => by
    rw [aFind] at h
    split at h
    · rename_i e
      simp only [Option.some.injEq, Prod.mk.injEq] at h
      obtain ⟨rfl, rfl⟩ := h
      subst e
      rfl
    · cases hr : aFind r k with
      | none => rw [hr] at h; cases h
      | some q =>
        rw [hr] at h
        simp only [Option.map_some, Option.some.injEq, Prod.mk.injEq] at h
        obtain ⟨rfl, rfl⟩ := h
        rw [List.getElem?_cons_succ]
        exact aFind_some hr
end
section
variable {β : Type} [MV β]
/-- The entries of a map's block. -/
structure Ents (es : Array MapEntry) (clock : Nat) (l : List (Int × β)) : Prop where
  list : es.toList.map (fun e => (e.key, e.val)) = l.map fun p => (Value.int .i64 p.1, MV.val p.2)
  born : (es.toList.map (·.born)).Nodup
  lt : ∀ e ∈ es.toList, e.born < clock
theorem Ents.len {es : Array MapEntry} {clock : Nat} {l : List (Int × β)} (h : Ents es clock l) : es.size = l.length := by
  have := congrArg List.length h.list
  simpa using this
theorem find_ents {k : Int} : ∀ {l : List (Int × β)} {es : List MapEntry} (i : Nat), es.map (fun e => (e.key, e.val)) = l.map (fun p => (Value.int .i64 p.1, MV.val p.2)) →
    Instr.findNow (.int .i64) (.int .i64 k) es i = some ((aFind l k).map fun q => (i + q.1, MV.val q.2))
  | [], es, i, h => by
    simp at h
    subst h
    rfl
  | p :: r, es, i, h => by
    cases es with
    | nil => simp at h
    | cons e es =>
      simp only [List.map_cons, List.cons.injEq, Prod.mk.injEq] at h
      obtain ⟨⟨h1, h2⟩, h3⟩ := h
      rw [Instr.findNow, h1]
      simp only [Instr.sameNow, if_pos]
      rw [aFind]
      by_cases e1 : k = p.1
      · rw [if_pos e1]
        subst e1
        simp [h2]
      · rw [if_neg e1]
        have : (k == p.1) = false := by simpa using e1
        rw [this]
        simp only
        rw [find_ents (i + 1) h3]
        cases aFind r k with
        | none => rfl
        | some q => simp; omega
/-- A map of the call's own. -/
def mapC (b : Nat) (l : List (Int × β)) : Chunk where
  lo := b
  hi := b + 1
  P := fun w => ∃ es clock, w.heap[b]? = some (.map es clock) ∧ Ents es clock l
  st := fun w w' h hp => by
    obtain ⟨es, clock, h1, h2⟩ := hp
    exact ⟨es, clock, by rw [h b (Nat.le_refl _) (by omega)]; exact h1, h2⟩
end
/-- A block of the call's own, whole. -/
def objC (b : Nat) (o : Obj) : Chunk where
  lo := b
  hi := b + 1
  P := fun w => w.heap[b]? = some o
  st := fun w w' h hp => by rw [h b (Nat.le_refl _) (by omega)]; exact hp
section
variable {β : Type} [MV β] {P : Program} {w : World} {t b clock : Nat} {es : Array MapEntry} {l : List (Int × β)} {k : Int}
theorem run_look [hM : MpTy P t β] (hb : w.heap[b]? = some (.map es clock)) (he : Ents es clock l) (ok : Bool) :
    (Instr.lookup t (.map (some b)) (.int .i64 k) ok).run P w = .ok (if ok then .tuple #[MV.val ((aGet l k).getD MV.dflt), .bool (aGet l k).isSome] else MV.val ((aGet l k).getD MV.dflt)) w := by
  obtain ⟨kt, et, h1, h2, h3⟩ := hM.ex
  have hk := fun e => MapKept.run_checkKey (P := P) (w := w) (kt := kt) (d := .int .i64) (k := .int .i64 k) h2 (by simp [MapKept.IsKey]) e 9999
  have hf := find_ents (k := k) 0 he.list
  simp only [Instr.lookup, Sem.run_bind, run_underlying h1, Result.andThen, MapKept.run_getObj_map hb, Sem.run_pure, hk, Instr.findKey, run_underlying h2, hf]
  cases h : aFind l k with
  | none => cases ok <;> simp [aGet, h, h3]
  | some q => cases ok <;> simp [aGet, h]
theorem run_upd [hM : MpTy P t β] (hb : w.heap[b]? = some (.map es clock)) (he : Ents es clock l) (v : β) :
    ∃ es' clock', (Instr.mapUpdate t (.map (some b)) (.int .i64 k) (MV.val v)).run P w = .ok () { w with heap := w.heap.setIfInBounds b (.map es' clock') } ∧ Ents es' clock' (aSet l k v) := by
  obtain ⟨kt, et, h1, h2, h3⟩ := hM.ex
  have hk := fun e => MapKept.run_checkKey (P := P) (w := w) (kt := kt) (d := .int .i64) (k := .int .i64 k) h2 (by simp [MapKept.IsKey]) e 9999
  have hf := find_ents (k := k) 0 he.list
  cases h : aFind l k with
  | none =>
    refine ⟨es.push { key := .int .i64 k, val := MV.val v, born := clock }, clock + 1, ?_, ?_⟩
    · rw [h] at hf
      simp [Instr.mapUpdate, run_underlying h1, MapKept.run_getObj_map hb, hk, Instr.findKey, run_underlying h2, hf, Result.andThen, MapKept.run_setObj_map _ hb]
    · have hs : aSet l k v = l ++ [(k, v)] := by unfold aSet; rw [h]
      rw [hs]
      refine ⟨by simp [he.list], ?_, fun e hm => ?_⟩
      · simp only [Array.toList_push, List.map_append, List.map_cons, List.map_nil]
        rw [List.nodup_append]
        refine ⟨he.born, by simp, fun a ha b' hb' hab => ?_⟩
        obtain ⟨e, he1, rfl⟩ := List.mem_map.1 ha
        have := he.lt e he1
        simp at hb'
        omega
      · simp only [Array.toList_push, List.mem_append, List.mem_singleton] at hm
        rcases hm with hm | rfl
        · have := he.lt e hm; omega
        · simp
  | some q =>
    obtain ⟨j, v0⟩ := q
    have hlj := aFind_some h
    have hej : ∃ e, es.toList[j]? = some e ∧ e.key = .int .i64 k := by
      have := congrArg (·[j]?) he.list
      simp only [List.getElem?_map, hlj, Option.map_some] at this
      cases hx : es.toList[j]? with
      | none => rw [hx] at this; cases this
      | some e =>
        rw [hx] at this
        simp only [Option.map_some, Option.some.injEq, Prod.mk.injEq] at this
        exact ⟨e, rfl, this.1⟩
    obtain ⟨e, hej, hek⟩ := hej
    have hej' : es[j]? = some e := by simpa using hej
    refine ⟨es.modify j fun e => { e with key := .int .i64 k, val := MV.val v }, clock, ?_, ?_⟩
    · rw [h] at hf
      simp [Instr.mapUpdate, run_underlying h1, MapKept.run_getObj_map hb, hk, Instr.findKey, run_underlying h2, hf, Result.andThen, hej', hek, Instr.keyThatStays, Instr.sameBits, MapKept.run_setObj_map _ hb]
    · have hs : aSet l k v = l.set j (k, v) := by unfold aSet; rw [h]
      rw [hs]
      have hbn : (es.modify j fun e => { e with key := .int .i64 k, val := MV.val v }).toList.map (·.born) = es.toList.map (·.born) := by
        apply List.ext_getElem?
        intro i
        simp only [Array.toList_modify, List.getElem?_map, List.getElem?_modify]
        cases es.toList[i]? with
        | none => rfl
        | some e => simp only [Option.map_some, Option.some.injEq, Option.map_eq_map]; split <;> rfl
      refine ⟨?_, by rw [hbn]; exact he.born, fun e hm => ?_⟩
      · apply List.ext_getElem?
        intro i
        have hl := congrArg (·[i]?) he.list
        simp only [List.getElem?_map] at hl
        simp only [Array.toList_modify, List.getElem?_map, List.getElem?_modify, List.getElem?_set]
        by_cases hij : j = i
        · subst hij
          have : j < l.length := (List.getElem?_eq_some_iff.1 hlj).1
          rw [hej, if_pos rfl, if_pos this]
          simp
        · rw [if_neg hij]
          cases hx : es.toList[i]? with
          | none => rw [hx] at hl; simpa [hij] using hl
          | some e => rw [hx] at hl; simpa [hij] using hl
      · have : e.born ∈ es.toList.map (·.born) := by rw [← hbn]; exact List.mem_map.2 ⟨e, hm, rfl⟩
        obtain ⟨e', h1, h2⟩ := List.mem_map.1 this
        rw [← h2]
        exact he.lt e' h1
theorem run_del [hM : MpTy P t β] (hb : w.heap[b]? = some (.map es clock)) (he : Ents es clock l) (ty t2 : Nat) :
    ∃ es', (Builtin.delete_ #[t, t2] ty #[.map (some b), .int .i64 k]).run P w = .ok (.tuple #[]) { w with heap := w.heap.setIfInBounds b (.map es' clock) } ∧ Ents es' clock (aDel l k) := by
  obtain ⟨kt, et, h1, h2, h3⟩ := hM.ex
  have hk := fun e => MapKept.run_checkKey (P := P) (w := w) (kt := kt) (d := .int .i64) (k := .int .i64 k) h2 (by simp [MapKept.IsKey]) e 9999
  have hf := find_ents (k := k) 0 he.list
  cases h : aFind l k with
  | none =>
    refine ⟨es, ?_, ?_⟩
    · rw [h] at hf
      simp [Builtin.delete_, run_underlying h1, MapKept.run_getObj_map hb, hk, Instr.findKey, run_underlying h2, hf, Result.andThen, MapKept.run_setObj_map _ hb]
    · unfold aDel; rw [h]; exact he
  | some q =>
    obtain ⟨j, v0⟩ := q
    have hlj := aFind_some h
    have hjl : j < l.length := (List.getElem?_eq_some_iff.1 hlj).1
    have hje : j < es.size := by rw [he.len]; exact hjl
    refine ⟨es.eraseIdxIfInBounds j, ?_, ?_⟩
    · rw [h] at hf
      simp [Builtin.delete_, run_underlying h1, MapKept.run_getObj_map hb, hk, Instr.findKey, run_underlying h2, hf, Result.andThen, MapKept.run_setObj_map _ hb]
    · have ht : (es.eraseIdxIfInBounds j).toList = es.toList.eraseIdx j := by
        unfold Array.eraseIdxIfInBounds
        rw [dif_pos hje]
        exact Array.toList_eraseIdx ..
      have hs : aDel l k = l.eraseIdx j := by unfold aDel; rw [h]
      rw [hs]
      refine ⟨?_, ?_, fun e hm => ?_⟩
      · rw [ht, Go.ChangeMaps.map_eraseIdx, he.list, ← Go.ChangeMaps.map_eraseIdx]
      · rw [ht, Go.ChangeMaps.map_eraseIdx]
        exact he.born.sublist (List.eraseIdx_sublist ..)
      · rw [ht] at hm
        exact he.lt e (List.mem_of_mem_eraseIdx hm)
end
end Go.Proofs.Ytojfaelafakemaa
