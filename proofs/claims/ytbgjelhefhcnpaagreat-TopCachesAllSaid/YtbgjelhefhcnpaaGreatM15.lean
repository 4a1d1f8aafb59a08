/- Texts joined: PtWalk0, PtWalk1, PtWalk2. Each part's own remark says what it proves. -/
import Derived.Test.YtbgjelhefhcnpaaGreatM14
/- The walk of Check's closure at a table of pages. No conditions. -/
set_option linter.unusedSimpArgs false
set_option linter.unusedVariables false
namespace Go.Proofs.YtbgjelhefhcnpaaGreat
open Go Go.RowKit
instance : ElT Tryz.prog 4 Bool := ⟨trivial⟩
instance : ElT Tryz.prog 3 Int := ⟨trivial⟩
abbrev boS (r : Row) (l : List Bool) : Chunk := slC r 4 l
abbrev inS (r : Row) (l : List Int) : Chunk := slC r 3 l
abbrev pR (g : Nat) : Value := .pointer (some ⟨g, 0, none⟩)
/-- Check's closure. -/
abbrev ckF (g1 g4 g5 g6 g7 : Nat) : Value := .func (.func 57) #[] #[pR g5, pR g1, pR g6, pR g4, pR g7]
/-- What Check's closure works on. -/
abbrev ckC (g1 g4 g5 g6 g7 bm : Nat) (root : Int) (vn vd : Value) (ns : List ND) (rl rh : Row) (led : List Bool) (hl : List Int) (cs : List Chunk) : List Chunk :=
  boS rl led :: blkC g6 92 [rh.v] :: inS rh hl :: blkC g7 111 [ckF g1 g4 g5 g6 g7] :: blkC g5 84 [rl.v] :: blkC g4 109 [.map (some bm)] :: mapC bm (ixL ns ns.length) :: ptC g1 root vn vd :: cs
theorem pg_suit {w : Int} (h : pgW w) : suitM (decR w).1.k (decR w).1.d 0 = true ∧ (decR w).1.k ≠ 4 ∧ ((decR w).1.k = 1 → (decR w).1.d = false) := by
  obtain ⟨_, h2, _⟩ := h
  unfold suitM
  rcases h2 with e | ⟨e, e2⟩
  · rw [e]; exact ⟨rfl, by decide, fun x => absurd x (by decide)⟩
  · rw [e, e2]; exact ⟨rfl, by decide, fun _ => rfl⟩
attribute [local irreducible] decR ixL suitM
attribute [local irreducible] Code.wp wpList bodyPost Exit.then Exit.inBlock Calls wpQuiet Tri TriQ
section
variable (w0 : World) (cs : List Chunk)
set_option maxHeartbeats 4000000 in
theorem walk0_c {g1 g4 g5 g6 g7 bm : Nat} {root : Int} {vn vd : Value} {ns : List ND} {rl rh : Row} {led : List Bool} {hl : List Int} (hN : RdH (Hp w0 cs) vn ns) {k : Nat} (hk : k < ns.length) (hw : ∀ j, pgW ((ns.getD k default).e j)) (hll : led.length = ns.length) (hlk : led.getD k default = false) (first : Int) :
    Cal Tryz.prog 57 [.int .i64 (k : Int), .int .i64 0, .int .i64 first, pR g5, pR g1, pR g6, pR g4, pR g7] (Hp w0 (ckC g1 g4 g5 g6 g7 bm root vn vd ns rl rh led hl cs)) (fun _ : Unit => .bool true) (fun _ => Hp w0 (ckC g1 g4 g5 g6 g7 bm root vn vd ns rl rh (led.set k true) hl cs)) := by
  have hNc : ∀ (A B C D E F G H : Chunk), RdH (Hp w0 (A :: B :: C :: D :: E :: F :: G :: H :: cs)) vn ns := fun A B C D E F G H => hN.cons.cons.cons.cons.cons.cons.cons.cons
  have hL : ∀ l : List Bool, RdH (Hp w0 (ckC g1 g4 g5 g6 g7 bm root vn vd ns rl rh l hl cs)) rl.v l := fun l => rd_chunk ⟨0, rfl⟩
  refine cal_of_tri Tryz.func57 rfl Tryz.ntmps57 rfl ?_
  (repeat (first | refine tri_seq ?_ | refine tri_then ?_)); refine tri_region ?_; (repeat (first | refine au_pure ?_ | refine au_pass ?_ | refine au_box (fun _ => ?_) | refine au_alloc (fun _ => ?_) | refine au_store ?_ | refine au_make rfl rfl (fun _ => ?_) | refine au_lit rfl rfl rfl (fun _ => ?_) | refine au_append rfl rfl rfl rfl (fun _ => au_norm ?_) | refine au_storeE rfl rfl rfl rfl ?_)); refine tri_nil ?_; (repeat refine tri_then ?_)
  (repeat (first | refine zz ?_ | refine zv fun _ => ?_))
  refine au_pure ?_ (hy := yl_idx (k := k) rfl rfl (hL led) (ix_nat rfl) (by rfl) (by omega))
  refine au_pure ?_ (hy := yl_loadE rfl rfl (hL led) (by rfl) (by omega) (by rfl))
  rw [hlk]
  (repeat (first | refine zz ?_ | refine zv fun _ => ?_))
  refine au_pure ?_ (hy := yl_idx (k := k) rfl rfl (hL led) (ix_nat rfl) (by rfl) (by omega))
  refine au_storeE (a := true) rfl rfl rfl rfl ?_
  refine tri_weak (H' := Hp w0 (ckC g1 g4 g5 g6 g7 bm root vn vd ns rl rh (led.set k true) hl cs)) (fun w h => h) ?_
  (repeat (first | refine zz ?_ | refine zv fun _ => ?_))
  refine tri_block ?_
  refine tri_loop1 (fun (i : Nat) => i = 0) (fun i => [(0, .int .i64 (k : Int)), (1, .int .i64 0), (2, .int .i64 first), (3, pR g5), (4, pR g1), (5, pR g6), (6, pR g4), (7, pR g7), (12, .int .i64 1), (25, .int .i64 0), (26, .int .i64 (i : Int))]) (fun _ => Hp w0 (ckC g1 g4 g5 g6 g7 bm root vn vd ns rl rh (led.set k true) hl cs)) (fun i => 1 - i) 0 rfl (by repeat (first | exact trivial | refine ⟨rfl, ?_⟩)) (fun w h => h) ?_
  intro i hi
  (repeat (first | refine zz ?_ | refine zv fun _ => ?_))
  refine tri_weak (H' := Hp w0 (ckC g1 g4 g5 g6 g7 bm root vn vd ns rl rh (led.set k true) hl cs)) (fun w h => h) ?_
  (repeat (first | refine zz ?_ | refine zv fun _ => ?_))
  refine tri_block ?_
  refine tri_loop1 (fun (i : Nat) => i ≤ 8) (fun i => [(0, .int .i64 (k : Int)), (1, .int .i64 0), (2, .int .i64 first), (3, pR g5), (4, pR g1), (5, pR g6), (6, pR g4), (7, pR g7), (12, .int .i64 1), (31, .int .i64 (i : Int))]) (fun _ => Hp w0 (ckC g1 g4 g5 g6 g7 bm root vn vd ns rl rh (led.set k true) hl cs)) (fun i => 8 - i) 0 (by omega) (by repeat (first | exact trivial | refine ⟨rfl, ?_⟩)) (fun w h => h) ?_
  clear hi
  intro i hi
  (repeat (first | refine zz ?_ | refine zv fun _ => ?_))
  ((first | refine tri_cond (by rfl) (fun hc => ?_) (fun hc => ?_) | refine tri_gsplit (by rfl) (by rfl) (by (fail_if_success exact (rfl : _ = some (Value.bool true))); (fail_if_success exact (rfl : _ = some (Value.bool false))); rfl) (fun hc => ?_) (fun hc => ?_)) <;> (try simp only [decide_eq_true_eq, decide_eq_false_iff_not, beq_iff_eq, bne_iff_ne, ne_eq, Bool.not_eq_true', Bool.not_eq_false', beq_eq_false_iff_ne, bne_eq_false_iff_eq, Int.not_lt, Int.not_le, gt_iff_lt, ge_iff_le, Bool.and_eq_true, Bool.or_eq_true, Bool.and_eq_false_iff, Bool.or_eq_false_iff, Decidable.not_not, not_true_eq_false, not_false_eq_true, and_true, true_and, or_false, false_or, or_true, true_or, and_false, false_and, eq_self, Bool.true_eq_false, Bool.false_eq_true] at hc) <;> (try (exfalso; omega)))
  case refine_1 =>
    have hi8 : i < 8 := by omega
    obtain ⟨wd, hwd⟩ : ∃ wd, wd = (ns.getD k default).e ⟨i, hi8⟩ := ⟨_, rfl⟩
    have hpw := hw ⟨i, hi8⟩
    rw [← hwd] at hpw
    have hsu := pg_suit hpw
    obtain ⟨p1, p2, p3, p4⟩ := hpw
    obtain ⟨⟨ek, en, ea, eb, ec, ed⟩, eu, hdu⟩ : ∃ e v, decR wd = (e, v) := ⟨_, _, rfl⟩
    rw [hdu] at hsu p1 p2
    simp only at hsu p1 p2
    obtain ⟨s1, s2, s3⟩ := hsu
    (repeat (first | refine zz ?_ | refine zv fun _ => ?_))
    refine tri_block ?_
    (repeat (first | refine zz ?_ | refine zv fun _ => ?_))
    refine au_pure ?_ (hy := yl_idx (k := k) rfl rfl (hNc _ _ _ _ _ _ _ _) (ix_nat rfl) (by rfl) hk)
    refine au_pure ?_ (hy := yl_fieldE rfl rfl)
    refine au_pure ?_ (hy := yl_idxE (j := i) rfl rfl (ix_nat rfl) hi8)
    refine au_pure ?_ (hy := yl_loadE rfl rfl (hNc _ _ _ _ _ _ _ _) (by rfl) hk (nd_word (ns.getD k default) hi8))
    rw [← hwd]
    (repeat (first | refine zz ?_ | refine zv fun _ => ?_))
    refine au_call rfl rfl (cl_of rfl rfl rfl (fun _ h => Ret.hp (decode_at _ p3 p4 hdu) h)) ?_
    rw [p1]
    (repeat (first | refine zz ?_ | refine zv fun _ => ?_))
    refine au_callC rfl rfl rfl rfl rfl (suits_c w0 _ (⟨ek, en, ea, eb, ec, ed⟩ : Ent) 0) (fun _ => ?_)
    rw [show suitM (⟨ek, en, ea, eb, ec, ed⟩ : Ent).k (⟨ek, en, ea, eb, ec, ed⟩ : Ent).d 0 = true from s1]
    (repeat (first | refine zz ?_ | refine zv fun _ => ?_))
    cases h1 : (ek == 1)
    case true =>
      have h1' := beq_iff_eq.1 h1
      have hd := s3 h1'
      subst hd
      (repeat (first | refine zz ?_ | refine zv fun _ => ?_))
      rw [show (ek == 4) = false by rw [h1']; rfl]
      (repeat (first | refine zz ?_ | refine zv fun _ => ?_))
      exact tri_nx1 (i + 1) (by omega) (by omega) (by repeat (first | exact trivial | refine ⟨rfl, ?_⟩)) (fun w h => h.sub (by repeat (first | exact List.Sublist.refl _ | assumption | apply List.Sublist.cons_cons | apply List.Sublist.cons)))
    (repeat (first | refine zz ?_ | refine zv fun _ => ?_))
    rw [show (ek == 4) = false by simpa using s2]
    (repeat (first | refine zz ?_ | refine zv fun _ => ?_))
    exact tri_nx1 (i + 1) (by omega) (by omega) (by repeat (first | exact trivial | refine ⟨rfl, ?_⟩)) (fun w h => h.sub (by repeat (first | exact List.Sublist.refl _ | assumption | apply List.Sublist.cons_cons | apply List.Sublist.cons)))
  (repeat (first | refine zz ?_ | refine zv fun _ => ?_))
  refine au_done1 rfl ?_
  exact fun w hw => ⟨(), rfl, hw⟩
end
end Go.Proofs.YtbgjelhefhcnpaaGreat

/- The walk of Check's closure at a middle table. No conditions. -/
set_option linter.unusedSimpArgs false
set_option linter.unusedVariables false
namespace Go.Proofs.YtbgjelhefhcnpaaGreat
open Go Go.RowKit
/-- Which nodes have a frame of the list. -/
def ledV (ns : List ND) (V : List Int) : List Bool := ns.map fun x => decide (x.f ∈ V)
theorem led_len (ns : List ND) (V : List Int) : (ledV ns V).length = ns.length := List.length_map ..
theorem led_at {ns : List ND} {k : Nat} (hk : k < ns.length) (V : List Int) : (ledV ns V).getD k default = decide ((ns.getD k default).f ∈ V) := by
  rw [getD_get (by rw [led_len]; exact hk), getD_get hk]
  unfold ledV
  rw [List.getElem_map]
theorem led_set {ns : List ND} (ho : ns.Pairwise fun a b => a.f < b.f) {k : Nat} (hk : k < ns.length) (V : List Int) : (ledV ns V).set k true = ledV ns ((ns.getD k default).f :: V) := by
  refine ext_getD (by rw [List.length_set, led_len, led_len]) fun j hj => ?_
  rw [List.length_set, led_len] at hj
  rw [getD_set _ (by rw [led_len]; exact hk), led_at hj, led_at hj]
  by_cases e : j = k
  · subst e; rw [if_pos rfl]; simp
  · rw [if_neg e]
    have hne : (ns.getD j default).f ≠ (ns.getD k default).f := by
      rw [getD_get hj, getD_get hk]
      rcases Nat.lt_or_ge k j with hl | hl
      · have := List.pairwise_iff_getElem.1 ho k j hk hj hl; omega
      · have := List.pairwise_iff_getElem.1 ho j k hj hk (by omega); omega
    rw [decide_eq_decide, List.mem_cons]
    exact ⟨.inr, fun x => x.resolve_left hne⟩
def legAt (m : Mid) (j : Nat) : Leg := if h : j < 8 then m.s ⟨j, h⟩ else .no
def legV (s : Leg) (V : List Int) : List Int := match s with | .leaf f _ => f :: V | _ => V
def legH (g : Int) (s : Leg) (l : List Int) : List Int := match s with | .huge _ _ => l ++ [g] | _ => l
/-- The frames that are seen behind j entries of a middle table. -/
def mV (m : Mid) (V : List Int) : Nat → List Int
  | 0 => m.f :: V
  | j + 1 => legV (legAt m j) (mV m V j)
/-- The groups of huge pages that are seen behind j entries of a middle table. -/
def mH (m : Mid) (g : Int) (l : List Int) : Nat → List Int
  | 0 => l
  | j + 1 => legH (g + j) (legAt m j) (mH m g l j)
theorem mH_len (m : Mid) (g : Int) (l : List Int) : ∀ j, (mH m g l j).length ≤ l.length + j
  | 0 => Nat.le_refl _
  | j + 1 => by
    have := mH_len m g l j
    unfold mH legH
    split
    · rw [List.length_append, List.length_singleton]; omega
    · omega
attribute [local irreducible] decR ixL suitM ledV
attribute [local irreducible] Code.wp wpList bodyPost Exit.then Exit.inBlock Calls wpQuiet Tri TriQ
section
variable (w0 : World) (cs : List Chunk)
set_option maxHeartbeats 4000000 in
theorem walk1_c {g1 g4 g5 g6 g7 bm : Nat} {root : Int} {T : Tr} {vn vd : Value} {ns : List ND} {ds : List DP} (h : PtOk root T ns ds) (hN : RdH (Hp w0 cs) vn ns) {a : Fin 8} {m : Mid} (hT : T a = some m) {k : Nat} (hk : k < ns.length) (hx : ns.getD k default = ⟨m.f, midE m⟩) {V : List Int} (hV : m.f ∉ V) (hj : ∀ j, j < 8 → ∀ f e, legAt m j = .leaf f e → f ∉ mV m V j)
    {rl rh : Row} {hl : List Int} (hhl : hl.length ≤ 1000) {first : Int} (hf : 0 ≤ first ∧ first ≤ 10000) :
    Cal Tryz.prog 57 [.int .i64 (k : Int), .int .i64 1, .int .i64 first, pR g5, pR g1, pR g6, pR g4, pR g7] (Hp w0 (ckC g1 g4 g5 g6 g7 bm root vn vd ns rl rh (ledV ns V) hl cs)) (fun _ : Row => .bool true) (fun rh' => Hp w0 (ckC g1 g4 g5 g6 g7 bm root vn vd ns rl rh' (ledV ns (mV m V 8)) (mH m (first / 8) hl 8) cs)) := by
  have hNc : ∀ (A B C D E F G H : Chunk), RdH (Hp w0 (A :: B :: C :: D :: E :: F :: G :: H :: cs)) vn ns := fun A B C D E F G H => hN.cons.cons.cons.cons.cons.cons.cons.cons
  have hL : ∀ l : List Bool, RdH (Hp w0 (ckC g1 g4 g5 g6 g7 bm root vn vd ns rl rh l hl cs)) rl.v l := fun l => rd_chunk ⟨0, rfl⟩
  have hlen := led_len ns V
  have hlk := led_at hk V
  rw [hx] at hlk
  have hst := led_set h.o hk V
  rw [hx] at hst
  have hst : (ledV ns V).set k true = ledV ns (mV m V 0) := hst
  refine cal_of_tri Tryz.func57 rfl Tryz.ntmps57 rfl ?_
  (repeat (first | refine tri_seq ?_ | refine tri_then ?_)); refine tri_region ?_; (repeat (first | refine au_pure ?_ | refine au_pass ?_ | refine au_box (fun _ => ?_) | refine au_alloc (fun _ => ?_) | refine au_store ?_ | refine au_make rfl rfl (fun _ => ?_) | refine au_lit rfl rfl rfl (fun _ => ?_) | refine au_append rfl rfl rfl rfl (fun _ => au_norm ?_) | refine au_storeE rfl rfl rfl rfl ?_)); refine tri_nil ?_; (repeat refine tri_then ?_)
  (repeat (first | refine zz ?_ | refine zv fun _ => ?_))
  refine au_pure ?_ (hy := yl_idx (k := k) rfl rfl (hL _) (ix_nat rfl) (by rfl) (by omega))
  refine au_pure ?_ (hy := yl_loadE rfl rfl (hL _) (by rfl) (by omega) (by rfl))
  rw [hlk, decide_eq_false hV]
  (repeat (first | refine zz ?_ | refine zv fun _ => ?_))
  refine au_pure ?_ (hy := yl_idx (k := k) rfl rfl (hL _) (ix_nat rfl) (by rfl) (by omega))
  refine au_storeE (a := true) rfl rfl rfl rfl ?_
  refine tri_weak (H' := Hp w0 (ckC g1 g4 g5 g6 g7 bm root vn vd ns rl rh (ledV ns (mV m V 0)) hl cs)) (fun w h => by rw [← hst]; exact h) ?_
  (repeat (first | refine zz ?_ | refine zv fun _ => ?_))
  refine tri_block ?_
  refine tri_loop1 (fun (i : Nat) => i ≤ 1) (fun i => [(0, .int .i64 (k : Int)), (1, .int .i64 1), (2, .int .i64 first), (3, pR g5), (4, pR g1), (5, pR g6), (6, pR g4), (7, pR g7), (12, .int .i64 (8 ^ i)), (25, .int .i64 1), (26, .int .i64 (i : Int))]) (fun _ => Hp w0 (ckC g1 g4 g5 g6 g7 bm root vn vd ns rl rh (ledV ns (mV m V 0)) hl cs)) (fun i => 1 - i) 0 (by omega) (by repeat (first | exact trivial | refine ⟨rfl, ?_⟩)) (fun w h => h) ?_
  intro i hi
  (repeat (first | refine zz ?_ | refine zv fun _ => ?_))
  ((first | refine tri_cond (by rfl) (fun hc => ?_) (fun hc => ?_) | refine tri_gsplit (by rfl) (by rfl) (by (fail_if_success exact (rfl : _ = some (Value.bool true))); (fail_if_success exact (rfl : _ = some (Value.bool false))); rfl) (fun hc => ?_) (fun hc => ?_)) <;> (try simp only [decide_eq_true_eq, decide_eq_false_iff_not, beq_iff_eq, bne_iff_ne, ne_eq, Bool.not_eq_true', Bool.not_eq_false', beq_eq_false_iff_ne, bne_eq_false_iff_eq, Int.not_lt, Int.not_le, gt_iff_lt, ge_iff_le, Bool.and_eq_true, Bool.or_eq_true, Bool.and_eq_false_iff, Bool.or_eq_false_iff, Decidable.not_not, not_true_eq_false, not_false_eq_true, and_true, true_and, or_false, false_or, or_true, true_or, and_false, false_and, eq_self, Bool.true_eq_false, Bool.false_eq_true] at hc) <;> (try (exfalso; omega)))
  case refine_1 =>
    have hi0 : i = 0 := by omega
    subst hi0
    (repeat (first | refine zz ?_ | refine zv fun _ => ?_))
    refine tri_block ?_
    (repeat (first | refine zz ?_ | refine zv fun _ => ?_))
    exact tri_nx1 (0 + 1) (by omega) (by omega) (by repeat (first | exact trivial | refine ⟨rfl, ?_⟩)) (fun w h => h)
  have hi1 : i = 1 := by omega
  subst hi1
  (repeat (first | refine zz ?_ | refine zv fun _ => ?_))
  refine tri_block ?_
  refine tri_loop2 (fun (i : Nat) (rh : Row) => i ≤ 8) (fun i _ => [(0, .int .i64 (k : Int)), (1, .int .i64 1), (2, .int .i64 first), (3, pR g5), (4, pR g1), (5, pR g6), (6, pR g4), (7, pR g7), (12, .int .i64 8), (31, .int .i64 (i : Int))]) (fun i rh => Hp w0 (ckC g1 g4 g5 g6 g7 bm root vn vd ns rl rh (ledV ns (mV m V i)) (mH m (first / 8) hl i) cs)) (fun i _ => 8 - i) 0 rh (by omega) (by repeat (first | exact trivial | refine ⟨rfl, ?_⟩)) (fun w h => h) ?_
  clear hL hi
  clear rh
  intro i rh hi
  (repeat (first | refine zz ?_ | refine zv fun _ => ?_))
  ((first | refine tri_cond (by rfl) (fun hc => ?_) (fun hc => ?_) | refine tri_gsplit (by rfl) (by rfl) (by (fail_if_success exact (rfl : _ = some (Value.bool true))); (fail_if_success exact (rfl : _ = some (Value.bool false))); rfl) (fun hc => ?_) (fun hc => ?_)) <;> (try simp only [decide_eq_true_eq, decide_eq_false_iff_not, beq_iff_eq, bne_iff_ne, ne_eq, Bool.not_eq_true', Bool.not_eq_false', beq_eq_false_iff_ne, bne_eq_false_iff_eq, Int.not_lt, Int.not_le, gt_iff_lt, ge_iff_le, Bool.and_eq_true, Bool.or_eq_true, Bool.and_eq_false_iff, Bool.or_eq_false_iff, Decidable.not_not, not_true_eq_false, not_false_eq_true, and_true, true_and, or_false, false_or, or_true, true_or, and_false, false_and, eq_self, Bool.true_eq_false, Bool.false_eq_true] at hc) <;> (try (exfalso; omega)))
  case refine_1 =>
    have hi8 : i < 8 := by omega
    have hml := mH_len m (first / 8) hl i
    have hla : legAt m i = m.s ⟨i, hi8⟩ := by unfold legAt; rw [dif_pos hi8]
    have hwd : (ns.getD k default).e ⟨i, hi8⟩ = subE (m.s ⟨i, hi8⟩) := by rw [hx]; rfl
    have hok := h.t.s a m hT ⟨i, hi8⟩
    have hji := hj i hi8
    rw [hla] at hji
    have eV : mV m V (i + 1) = legV (m.s ⟨i, hi8⟩) (mV m V i) := by rw [mV, hla]
    have eH : mH m (first / 8) hl (i + 1) = legH (first / 8 + i) (m.s ⟨i, hi8⟩) (mH m (first / 8) hl i) := by rw [mH, hla]
    (repeat (first | refine zz ?_ | refine zv fun _ => ?_))
    refine tri_block ?_
    (repeat (first | refine zz ?_ | refine zv fun _ => ?_))
    refine au_pure ?_ (hy := yl_idx (k := k) rfl rfl (hNc _ _ _ _ _ _ _ _) (ix_nat rfl) (by rfl) hk)
    refine au_pure ?_ (hy := yl_fieldE rfl rfl)
    refine au_pure ?_ (hy := yl_idxE (j := i) rfl rfl (ix_nat rfl) hi8)
    refine au_pure ?_ (hy := yl_loadE rfl rfl (hNc _ _ _ _ _ _ _ _) (by rfl) hk (nd_word (ns.getD k default) hi8))
    rw [hwd]
    cases hs : m.s ⟨i, hi8⟩ with
    | no =>
      rw [hs] at eV eH
      rw [show subE .no = 0 from rfl]
      (repeat (first | refine zz ?_ | refine zv fun _ => ?_))
      refine au_call rfl rfl (cl_of rfl rfl rfl (fun _ h => Ret.hp (decode_at _ (by decide) (by decide) dec_zero) h)) ?_
      (repeat (first | refine zz ?_ | refine zv fun _ => ?_))
      refine au_callC rfl rfl rfl rfl rfl (suits_c w0 _ noEnt 1) (fun _ => ?_)
      rw [show suitM noEnt.k noEnt.d 1 = true by unfold suitM; rfl]
      (repeat (first | refine zz ?_ | refine zv fun _ => ?_))
      exact tri_nx2 (i + 1) rh (by omega) (by omega) (by repeat (first | exact trivial | refine ⟨rfl, ?_⟩)) (fun w h => by rw [eV, eH]; exact h.sub (List.Sublist.cons _ (List.Sublist.refl _)))
    | huge u f =>
      rw [hs] at eV eH
      obtain ⟨u1, u2, u3, u4, u5⟩ := hok.h u f hs
      obtain ⟨⟨ek, en, ea, eb, ec, ed⟩, eu, hdu⟩ : ∃ e v, decR u = (e, v) := ⟨_, _, rfl⟩
      rw [hdu] at u1 u2 u3
      simp only at u1 u2 u3
      subst u1 u2 u3
      rw [show subE (.huge u f) = u from rfl]
      (repeat (first | refine zz ?_ | refine zv fun _ => ?_))
      refine au_call rfl rfl (cl_of rfl rfl rfl (fun _ h => Ret.hp (decode_at _ u4 u5 hdu) h)) ?_
      (repeat (first | refine zz ?_ | refine zv fun _ => ?_))
      refine au_callC rfl rfl rfl rfl rfl (suits_c w0 _ (⟨1, en, ea, eb, ec, true⟩ : Ent) 1) (fun _ => ?_)
      rw [show suitM (⟨1, en, ea, eb, ec, true⟩ : Ent).k (⟨1, en, ea, eb, ec, true⟩ : Ent).d 1 = true by unfold suitM; rfl]
      (repeat (first | refine zz ?_ | refine zv fun _ => ?_))
      rw [show IntKind.i64.wrap (first + IntKind.i64.wrap ((i : Int) * 8)) = first + (i : Int) * 8 by rw [wrap_i64 (by rw [wrap_i64 (by omega)]; omega), wrap_i64 (by omega)]]
      refine au_pure ?_ (hy := yl_quon rfl rfl rfl (by omega))
      rw [show (first + (i : Int) * 8) / 8 = first / 8 + i by omega]
      (repeat (first | refine zz ?_ | refine zv fun _ => ?_))
      refine au_lit (l := [first / 8 + (i : Int)]) rfl rfl rfl (fun r1 => ?_)
      refine au_append (i := 4) (l := mH m (first / 8) hl i) (l2 := [first / 8 + (i : Int)]) rfl rfl rfl rfl (fun r2 => ?_) (hi := rfl) (h2 := rd_chunk (r := r1) (l := [first / 8 + (i : Int)]) ⟨0, rfl⟩) (hb := by simp only [List.length_cons, List.length_nil]; omega)
      refine au_norm ?_
      (repeat (first | refine zz ?_ | refine zv fun _ => ?_))
      exact tri_nx2 (i + 1) r2 (by omega) (by omega) (by repeat (first | exact trivial | refine ⟨rfl, ?_⟩)) (fun w h => by rw [eV, eH]; exact h.sub (List.Sublist.cons _ (List.Sublist.cons _ (List.Sublist.refl _))))
    | leaf f e =>
      rw [hs] at eV eH
      have hlm := leaf_mem (root := root) hT hs
      obtain ⟨k2, h21, h22, h23, h24⟩ := h.pl hlm
      have h24 : aGet (ixL ns ns.length) f = some (k2 : Int) := h24
      obtain ⟨v1, v2, v3⟩ := tbl_ok (h.rng hlm)
      have v1 : decR (tblW f) = (⟨4, f, false, false, false, false⟩, 0) := v1
      have v2 : 0 ≤ tblW f := v2
      have v3 : tblW f < 18446744073709551616 := v3
      have hlf := led_at h22 (mV m V i)
      rw [h23, decide_eq_false (hji f e hs)] at hlf
      have hls := led_set h.o h22 (mV m V i)
      rw [h23] at hls
      have hls : (ledV ns (mV m V i)).set k2 true = ledV ns (mV m V (i + 1)) := by rw [hls, eV]; rfl
      have hwl : ∀ j, pgW ((ns.getD k2 default).e j) := fun j => by rw [h23]; exact hok.l f e hs j
      rw [show subE (.leaf f e) = tblW f from rfl]
      (repeat (first | refine zz ?_ | refine zv fun _ => ?_))
      refine au_call rfl rfl (cl_of rfl rfl rfl (fun _ h => Ret.hp (decode_at _ v2 v3 v1) h)) ?_
      (repeat (first | refine zz ?_ | refine zv fun _ => ?_))
      rename_i g14
      refine au_callC rfl rfl rfl rfl rfl (suits_c w0 _ (⟨4, f, false, false, false, false⟩ : Ent) 1) (fun _ => ?_)
      rw [show suitM (⟨4, f, false, false, false, false⟩ : Ent).k (⟨4, f, false, false, false, false⟩ : Ent).d 1 = true by unfold suitM; rfl]
      (repeat (first | refine zz ?_ | refine zv fun _ => ?_))
      refine au_pure ?_ (hy := yl_look2 (β := Int) rfl rfl rfl (by first | (apply has_at; (repeat (first | exact at0 | apply atS)); done) | (repeat (first | assumption | apply has_cons))))
      rw [h24]
      (repeat (first | refine zz ?_ | refine zv fun _ => ?_))
      refine tri_weak (H' := Hp w0 (ckC g1 g4 g5 g6 g7 bm root vn vd ns rl rh (ledV ns (mV m V i)) (mH m (first / 8) hl i) (enC g14 4 f false false false false :: cs))) (fun w h => HpM.perm h (List.perm_middle (l₁ := [_, _, _, _, _, _, _, _])).symm) ?_
      refine au_callC rfl rfl rfl rfl rfl (walk0_c w0 (enC g14 4 f false false false false :: cs) (g1 := g1) (g4 := g4) (g5 := g5) (g6 := g6) (g7 := g7) (bm := bm) (root := root) (vd := vd) (rl := rl) (rh := rh) (led := ledV ns (mV m V i)) (hl := mH m (first / 8) hl i) hN.cons h22 hwl (led_len _ _) hlf _) (fun _ => ?_)
      rw [hls]
      (repeat (first | refine zz ?_ | refine zv fun _ => ?_))
      exact tri_nx2 (i + 1) rh (by omega) (by omega) (by repeat (first | exact trivial | refine ⟨rfl, ?_⟩)) (fun w h => by
        rw [eH]
        exact h.sub (List.Sublist.append_left (List.Sublist.cons _ (List.Sublist.refl _)) [_, _, _, _, _, _, _, _]))
  have hie : i = 8 := by omega
  subst hie
  (repeat (first | refine zz ?_ | refine zv fun _ => ?_))
  refine au_done1 rfl ?_
  exact fun w hw => ⟨rh, rfl, hw⟩
end
end Go.Proofs.YtbgjelhefhcnpaaGreat

/- The walk of Check's closure at the root. No conditions. -/
set_option linter.unusedSimpArgs false
set_option linter.unusedVariables false
namespace Go.Proofs.YtbgjelhefhcnpaaGreat
open Go Go.RowKit
def optV (o : Option Mid) (V : List Int) : List Int := match o with | none => V | some m => mV m V 8
def optH (g : Int) (o : Option Mid) (l : List Int) : List Int := match o with | none => l | some m => mH m g l 8
def trAt (T : Tr) (i : Nat) : Option Mid := if h : i < 8 then T ⟨i, h⟩ else none
/-- The frames that are seen behind i entries of the root. -/
def tV (root : Int) (T : Tr) : Nat → List Int
  | 0 => [root]
  | i + 1 => optV (trAt T i) (tV root T i)
/-- The groups of huge pages that are seen behind i entries of the root. -/
def tH (T : Tr) : Nat → List Int
  | 0 => []
  | i + 1 => optH (8 * (i : Int)) (trAt T i) (tH T i)
theorem tH_len (T : Tr) : ∀ i, (tH T i).length ≤ 8 * i
  | 0 => Nat.le_refl _
  | i + 1 => by
    have := tH_len T i
    unfold tH optH
    split
    · omega
    · rename_i m _
      have := mH_len m (8 * (i : Int)) (tH T i) 8
      omega
theorem legV_eq (s : Leg) (V : List Int) : legV s V = ((subN s).map ND.f).reverse ++ V := by
  cases s with
  | no => rfl
  | huge w f => rfl
  | leaf f e => rfl
theorem mV_eq (m : Mid) (V : List Int) : mV m V 8 = ((midN m).map ND.f).reverse ++ V := by
  have h : mV m V 8 = legV (m.s 7) (legV (m.s 6) (legV (m.s 5) (legV (m.s 4) (legV (m.s 3) (legV (m.s 2) (legV (m.s 1) (legV (m.s 0) (m.f :: V)))))))) := rfl
  rw [h]
  simp only [legV_eq, midN, all8, List.flatMap_cons, List.flatMap_nil, List.map_cons, List.map_append, List.reverse_cons, List.reverse_append, List.append_assoc, List.map_nil, List.append_nil, List.nil_append, List.cons_append]
theorem optV_eq (o : Option Mid) (V : List Int) : optV o V = ((optN o).map ND.f).reverse ++ V := by
  cases o with
  | none => rfl
  | some m => exact mV_eq m V
theorem tV_eq (root : Int) (T : Tr) : tV root T 8 = ((nodesT root T).map ND.f).reverse := by
  have h : tV root T 8 = optV (T 7) (optV (T 6) (optV (T 5) (optV (T 4) (optV (T 3) (optV (T 2) (optV (T 1) (optV (T 0) [root]))))))) := rfl
  rw [h]
  simp only [optV_eq, nodesT, all8, List.flatMap_cons, List.flatMap_nil, List.map_cons, List.map_append, List.reverse_cons, List.reverse_append, List.append_assoc, List.map_nil, List.append_nil, List.nil_append, List.cons_append]
theorem legV_suf (s : Leg) (V : List Int) : V <:+ legV s V := by rw [legV_eq]; exact List.suffix_append ..
theorem mV_suf (m : Mid) (V : List Int) {i j : Nat} (h : i ≤ j) : mV m V i <:+ mV m V j := by
  induction j with
  | zero => rw [show i = 0 by omega]; exact List.suffix_refl _
  | succ j ih =>
    by_cases e : i = j + 1
    · rw [e]; exact List.suffix_refl _
    · exact (ih (by omega)).trans (legV_suf ..)
theorem optV_suf (o : Option Mid) (V : List Int) : V <:+ optV o V := by rw [optV_eq]; exact List.suffix_append ..
theorem tV_suf (root : Int) (T : Tr) {i j : Nat} (h : i ≤ j) : tV root T i <:+ tV root T j := by
  induction j with
  | zero => rw [show i = 0 by omega]; exact List.suffix_refl _
  | succ j ih =>
    by_cases e : i = j + 1
    · rw [e]; exact List.suffix_refl _
    · exact (ih (by omega)).trans (optV_suf ..)
theorem trAt_fin (T : Tr) (i : Fin 8) : trAt T i.val = T i := by unfold trAt; rw [dif_pos i.isLt]
theorem tV_nodup {root : Int} {T : Tr} (h : ((nodesT root T).map ND.f ++ (depsT T).map DP.f).Nodup) : (tV root T 8).Nodup := by
  rw [tV_eq]
  exact (List.reverse_perm _).nodup_iff.2 (List.nodup_append.1 h).1
theorem mid_new {root : Int} {T : Tr} (h : ((nodesT root T).map ND.f ++ (depsT T).map DP.f).Nodup) {i : Fin 8} {m : Mid} (hm : T i = some m) {j : Nat} (hj : j ≤ 8) : (mV m (tV root T i.val) j).Nodup := by
  have h1 : tV root T (i.val + 1) = mV m (tV root T i.val) 8 := by show optV (trAt T i.val) _ = _; rw [trAt_fin, hm]; rfl
  have h2 := ((tV_suf root T (show i.val + 1 ≤ 8 by omega)).sublist.nodup (tV_nodup h))
  rw [h1] at h2
  exact (mV_suf m _ hj).sublist.nodup h2
theorem mid_news {root : Int} {T : Tr} (h : ((nodesT root T).map ND.f ++ (depsT T).map DP.f).Nodup) {i : Fin 8} {m : Mid} (hm : T i = some m) : m.f ∉ tV root T i.val ∧ ∀ j, j < 8 → ∀ f e, legAt m j = .leaf f e → f ∉ mV m (tV root T i.val) j := by
  refine ⟨(List.nodup_cons.1 (mid_new h hm (j := 0) (by omega))).1, fun j hj f e he => ?_⟩
  have := mid_new h hm (j := j + 1) (by omega)
  rw [mV, he] at this
  exact (List.nodup_cons.1 this).1
attribute [local irreducible] decR ixL suitM ledV
attribute [local irreducible] Code.wp wpList bodyPost Exit.then Exit.inBlock Calls wpQuiet Tri TriQ
section
variable (w0 : World) (cs : List Chunk)
set_option maxHeartbeats 4000000 in
theorem walk2_c {g1 g4 g5 g6 g7 bm : Nat} {root : Int} {T : Tr} {vn vd : Value} {ns : List ND} {ds : List DP} (h : PtOk root T ns ds) (hN : RdH (Hp w0 cs) vn ns) {k : Nat} (hk : k < ns.length) (hx : ns.getD k default = ⟨root, rootE T⟩) {rl rh : Row} :
    Cal Tryz.prog 57 [.int .i64 (k : Int), .int .i64 2, .int .i64 0, pR g5, pR g1, pR g6, pR g4, pR g7] (Hp w0 (ckC g1 g4 g5 g6 g7 bm root vn vd ns rl rh (ledV ns []) [] cs)) (fun _ : Row => .bool true) (fun rh' => Hp w0 (ckC g1 g4 g5 g6 g7 bm root vn vd ns rl rh' (ledV ns (tV root T 8)) (tH T 8) cs)) := by
  have hNc : ∀ (A B C D E F G H : Chunk), RdH (Hp w0 (A :: B :: C :: D :: E :: F :: G :: H :: cs)) vn ns := fun A B C D E F G H => hN.cons.cons.cons.cons.cons.cons.cons.cons
  have hL : ∀ l : List Bool, RdH (Hp w0 (ckC g1 g4 g5 g6 g7 bm root vn vd ns rl rh l [] cs)) rl.v l := fun l => rd_chunk ⟨0, rfl⟩
  have hlen := led_len ns []
  have hlk := led_at hk []
  rw [hx, decide_eq_false (by simp)] at hlk
  have hst := led_set h.o hk []
  rw [hx] at hst
  have hst : (ledV ns []).set k true = ledV ns (tV root T 0) := hst
  refine cal_of_tri Tryz.func57 rfl Tryz.ntmps57 rfl ?_
  (repeat (first | refine tri_seq ?_ | refine tri_then ?_)); refine tri_region ?_; (repeat (first | refine au_pure ?_ | refine au_pass ?_ | refine au_box (fun _ => ?_) | refine au_alloc (fun _ => ?_) | refine au_store ?_ | refine au_make rfl rfl (fun _ => ?_) | refine au_lit rfl rfl rfl (fun _ => ?_) | refine au_append rfl rfl rfl rfl (fun _ => au_norm ?_) | refine au_storeE rfl rfl rfl rfl ?_)); refine tri_nil ?_; (repeat refine tri_then ?_)
  (repeat (first | refine zz ?_ | refine zv fun _ => ?_))
  refine au_pure ?_ (hy := yl_idx (k := k) rfl rfl (hL _) (ix_nat rfl) (by rfl) (by omega))
  refine au_pure ?_ (hy := yl_loadE rfl rfl (hL _) (by rfl) (by omega) (by rfl))
  rw [hlk]
  (repeat (first | refine zz ?_ | refine zv fun _ => ?_))
  refine au_pure ?_ (hy := yl_idx (k := k) rfl rfl (hL _) (ix_nat rfl) (by rfl) (by omega))
  refine au_storeE (a := true) rfl rfl rfl rfl ?_
  refine tri_weak (H' := Hp w0 (ckC g1 g4 g5 g6 g7 bm root vn vd ns rl rh (ledV ns (tV root T 0)) [] cs)) (fun w h => by rw [← hst]; exact h) ?_
  (repeat (first | refine zz ?_ | refine zv fun _ => ?_))
  refine tri_block ?_
  refine tri_loop1 (fun (i : Nat) => i ≤ 2) (fun i => [(0, .int .i64 (k : Int)), (1, .int .i64 2), (2, .int .i64 0), (3, pR g5), (4, pR g1), (5, pR g6), (6, pR g4), (7, pR g7), (12, .int .i64 (8 ^ i)), (25, .int .i64 2), (26, .int .i64 (i : Int))]) (fun _ => Hp w0 (ckC g1 g4 g5 g6 g7 bm root vn vd ns rl rh (ledV ns (tV root T 0)) [] cs)) (fun i => 2 - i) 0 (by omega) (by repeat (first | exact trivial | refine ⟨rfl, ?_⟩)) (fun w h => h) ?_
  intro i hi
  (repeat (first | refine zz ?_ | refine zv fun _ => ?_))
  ((first | refine tri_cond (by rfl) (fun hc => ?_) (fun hc => ?_) | refine tri_gsplit (by rfl) (by rfl) (by (fail_if_success exact (rfl : _ = some (Value.bool true))); (fail_if_success exact (rfl : _ = some (Value.bool false))); rfl) (fun hc => ?_) (fun hc => ?_)) <;> (try simp only [decide_eq_true_eq, decide_eq_false_iff_not, beq_iff_eq, bne_iff_ne, ne_eq, Bool.not_eq_true', Bool.not_eq_false', beq_eq_false_iff_ne, bne_eq_false_iff_eq, Int.not_lt, Int.not_le, gt_iff_lt, ge_iff_le, Bool.and_eq_true, Bool.or_eq_true, Bool.and_eq_false_iff, Bool.or_eq_false_iff, Decidable.not_not, not_true_eq_false, not_false_eq_true, and_true, true_and, or_false, false_or, or_true, true_or, and_false, false_and, eq_self, Bool.true_eq_false, Bool.false_eq_true] at hc) <;> (try (exfalso; omega)))
  case refine_1 =>
    have hi0 : i = 0 ∨ i = 1 := by omega
    rcases hi0 with rfl | rfl
    · (repeat (first | refine zz ?_ | refine zv fun _ => ?_))
      refine tri_block ?_
      (repeat (first | refine zz ?_ | refine zv fun _ => ?_))
      exact tri_nx1 (0 + 1) (by omega) (by omega) (by repeat (first | exact trivial | refine ⟨rfl, ?_⟩)) (fun w h => h)
    · (repeat (first | refine zz ?_ | refine zv fun _ => ?_))
      refine tri_block ?_
      (repeat (first | refine zz ?_ | refine zv fun _ => ?_))
      exact tri_nx1 (1 + 1) (by omega) (by omega) (by repeat (first | exact trivial | refine ⟨rfl, ?_⟩)) (fun w h => h)
  have hi1 : i = 2 := by omega
  subst hi1
  (repeat (first | refine zz ?_ | refine zv fun _ => ?_))
  refine tri_block ?_
  refine tri_loop2 (fun (i : Nat) (rh : Row) => i ≤ 8) (fun i _ => [(0, .int .i64 (k : Int)), (1, .int .i64 2), (2, .int .i64 0), (3, pR g5), (4, pR g1), (5, pR g6), (6, pR g4), (7, pR g7), (12, .int .i64 64), (31, .int .i64 (i : Int))]) (fun i rh => Hp w0 (ckC g1 g4 g5 g6 g7 bm root vn vd ns rl rh (ledV ns (tV root T i)) (tH T i) cs)) (fun i _ => 8 - i) 0 rh (by omega) (by repeat (first | exact trivial | refine ⟨rfl, ?_⟩)) (fun w h => h) ?_
  clear hL hi
  clear rh
  intro i rh hi
  (repeat (first | refine zz ?_ | refine zv fun _ => ?_))
  ((first | refine tri_cond (by rfl) (fun hc => ?_) (fun hc => ?_) | refine tri_gsplit (by rfl) (by rfl) (by (fail_if_success exact (rfl : _ = some (Value.bool true))); (fail_if_success exact (rfl : _ = some (Value.bool false))); rfl) (fun hc => ?_) (fun hc => ?_)) <;> (try simp only [decide_eq_true_eq, decide_eq_false_iff_not, beq_iff_eq, bne_iff_ne, ne_eq, Bool.not_eq_true', Bool.not_eq_false', beq_eq_false_iff_ne, bne_eq_false_iff_eq, Int.not_lt, Int.not_le, gt_iff_lt, ge_iff_le, Bool.and_eq_true, Bool.or_eq_true, Bool.and_eq_false_iff, Bool.or_eq_false_iff, Decidable.not_not, not_true_eq_false, not_false_eq_true, and_true, true_and, or_false, false_or, or_true, true_or, and_false, false_and, eq_self, Bool.true_eq_false, Bool.false_eq_true] at hc) <;> (try (exfalso; omega)))
  case refine_1 =>
    have hi8 : i < 8 := by omega
    have hml := tH_len T i
    have hla : trAt T i = T ⟨i, hi8⟩ := by unfold trAt; rw [dif_pos hi8]
    have hwd : (ns.getD k default).e ⟨i, hi8⟩ = rootE T ⟨i, hi8⟩ := by rw [hx]
    have eV : tV root T (i + 1) = optV (T ⟨i, hi8⟩) (tV root T i) := by rw [tV, hla]
    have eH : tH T (i + 1) = optH (8 * (i : Int)) (T ⟨i, hi8⟩) (tH T i) := by rw [tH, hla]
    (repeat (first | refine zz ?_ | refine zv fun _ => ?_))
    refine tri_block ?_
    (repeat (first | refine zz ?_ | refine zv fun _ => ?_))
    refine au_pure ?_ (hy := yl_idx (k := k) rfl rfl (hNc _ _ _ _ _ _ _ _) (ix_nat rfl) (by rfl) hk)
    refine au_pure ?_ (hy := yl_fieldE rfl rfl)
    refine au_pure ?_ (hy := yl_idxE (j := i) rfl rfl (ix_nat rfl) hi8)
    refine au_pure ?_ (hy := yl_loadE rfl rfl (hNc _ _ _ _ _ _ _ _) (by rfl) hk (nd_word (ns.getD k default) hi8))
    rw [hwd]
    cases hs : T ⟨i, hi8⟩ with
    | none =>
      rw [hs] at eV eH
      rw [show rootE T ⟨i, hi8⟩ = 0 by unfold rootE; rw [hs]]
      (repeat (first | refine zz ?_ | refine zv fun _ => ?_))
      refine au_call rfl rfl (cl_of rfl rfl rfl (fun _ h => Ret.hp (decode_at _ (by decide) (by decide) dec_zero) h)) ?_
      (repeat (first | refine zz ?_ | refine zv fun _ => ?_))
      refine au_callC rfl rfl rfl rfl rfl (suits_c w0 _ noEnt 2) (fun _ => ?_)
      rw [show suitM noEnt.k noEnt.d 2 = true by unfold suitM; rfl]
      (repeat (first | refine zz ?_ | refine zv fun _ => ?_))
      exact tri_nx2 (i + 1) rh (by omega) (by omega) (by repeat (first | exact trivial | refine ⟨rfl, ?_⟩)) (fun w h => by rw [eV, eH]; exact h.sub (List.Sublist.cons _ (List.Sublist.refl _)))
    | some m =>
      rw [hs] at eV eH
      have hmm := mid_mem (root := root) hs
      obtain ⟨k2, h21, h22, h23, h24⟩ := h.pl hmm
      have h24 : aGet (ixL ns ns.length) m.f = some (k2 : Int) := h24
      obtain ⟨v1, v2, v3⟩ := tbl_ok (h.rng hmm)
      have v1 : decR (tblW m.f) = (⟨4, m.f, false, false, false, false⟩, 0) := v1
      have v2 : 0 ≤ tblW m.f := v2
      have v3 : tblW m.f < 18446744073709551616 := v3
      obtain ⟨n1, n2⟩ := mid_news h.t.d hs
      rw [show rootE T ⟨i, hi8⟩ = tblW m.f by unfold rootE; rw [hs]]
      (repeat (first | refine zz ?_ | refine zv fun _ => ?_))
      refine au_call rfl rfl (cl_of rfl rfl rfl (fun _ h => Ret.hp (decode_at _ v2 v3 v1) h)) ?_
      (repeat (first | refine zz ?_ | refine zv fun _ => ?_))
      rename_i g14
      refine au_callC rfl rfl rfl rfl rfl (suits_c w0 _ (⟨4, m.f, false, false, false, false⟩ : Ent) 2) (fun _ => ?_)
      rw [show suitM (⟨4, m.f, false, false, false, false⟩ : Ent).k (⟨4, m.f, false, false, false, false⟩ : Ent).d 2 = true by unfold suitM; rfl]
      (repeat (first | refine zz ?_ | refine zv fun _ => ?_))
      refine au_pure ?_ (hy := yl_look2 (β := Int) rfl rfl rfl (by first | (apply has_at; (repeat (first | exact at0 | apply atS)); done) | (repeat (first | assumption | apply has_cons))))
      rw [h24]
      (repeat (first | refine zz ?_ | refine zv fun _ => ?_))
      rw [show IntKind.i64.wrap (0 + IntKind.i64.wrap ((i : Int) * 64)) = (i : Int) * 64 by rw [wrap_i64 (by rw [wrap_i64 (by omega)]; omega), wrap_i64 (by omega)]; omega]
      refine tri_weak (H' := Hp w0 (ckC g1 g4 g5 g6 g7 bm root vn vd ns rl rh (ledV ns (tV root T i)) (tH T i) (enC g14 4 m.f false false false false :: cs))) (fun w h => HpM.perm h (List.perm_middle (l₁ := [_, _, _, _, _, _, _, _])).symm) ?_
      refine au_callC rfl rfl rfl rfl rfl (walk1_c w0 (enC g14 4 m.f false false false false :: cs) (g1 := g1) (g4 := g4) (g5 := g5) (g6 := g6) (g7 := g7) (bm := bm) (root := root) (vd := vd) (rl := rl) (rh := rh) (hl := tH T i) h hN.cons hs h22 h23 n1 n2 (by omega) (by omega)) ?_
      intro rh2
      rw [show (i : Int) * 64 / 8 = 8 * (i : Int) by omega]
      (repeat (first | refine zz ?_ | refine zv fun _ => ?_))
      exact tri_nx2 (i + 1) rh2 (by omega) (by omega) (by repeat (first | exact trivial | refine ⟨rfl, ?_⟩)) (fun w h => by
        rw [eV, eH]
        exact h.sub (List.Sublist.append_left (List.Sublist.cons _ (List.Sublist.refl _)) [_, _, _, _, _, _, _, _]))
  have hie : i = 8 := by omega
  subst hie
  (repeat (first | refine zz ?_ | refine zv fun _ => ?_))
  refine au_done1 rfl ?_
  exact fun w hw => ⟨rh, rfl, hw⟩
end
end Go.Proofs.YtbgjelhefhcnpaaGreat
