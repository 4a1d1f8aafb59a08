/- generations: New, clone. No conditions. -/
import Derived.Test.YtongcjepmidamaaGenRCheck
set_option linter.unusedSimpArgs false
set_option linter.unusedVariables false
namespace Go.Proofs.Ytongcjepmidamaa
open Go Go.RowKit
attribute [local irreducible] Code.wp wpList bodyPost Exit.then Exit.inBlock Calls wpQuiet Tri TriQ
/-- The rows of a result. -/
structure NR (n : Nat) where
  r : Row
  rs : List Row
  hl : rs.length = n
theorem svs_set {rs : List Row} {n : Nat} (r' : Row) (h : rs.length < n) : (rs.map Row.sv ++ List.replicate (n - rs.length) default).set rs.length r'.sv = (rs ++ [r']).map Row.sv ++ List.replicate (n - (rs ++ [r']).length) default := by
  obtain ⟨k, hk⟩ : ∃ k, n - rs.length = k + 1 := ⟨n - rs.length - 1, by omega⟩
  rw [hk, List.replicate_succ, List.set_append_right _ _ (by simp), List.length_map, Nat.sub_self, List.set_cons_zero, List.map_append, List.append_assoc, show n - (rs ++ [r']).length = k by simp; omega]
  rfl
theorem nest_perm {rs : List Row} {T : GL} {o : Chunk} {cs : List Chunk} {r' : Row} {l : List Int} (h : rs.length = T.length) : (intS r' l :: o :: (nest rs T ++ cs)).Perm (o :: (nest (rs ++ [r']) (T ++ [l]) ++ cs)) := by
  rw [nest_snoc h]
  refine (List.Perm.swap _ _ _).trans (List.Perm.cons _ ?_)
  rw [List.append_assoc]
  exact List.perm_middle.symm
section
variable (w0 : World) (cs : List Chunk)
theorem nilrows {n : Nat} {F : Act → World → Prop} {E : Env} {o : Chunk} (k : Tri n F E (Hp w0 (o :: (nest (List.replicate 4 (Row.nil w0.heap.size)) [[], [], [], []] ++ cs)))) : Tri n F E (Hp w0 (o :: cs)) := by
  refine tri_nilrow Int 3 ?_
  refine tri_nilrow Int 3 ?_
  refine tri_nilrow Int 3 ?_
  refine tri_nilrow Int 3 ?_
  refine tri_front 4 rfl (by repeat (first | exact nf0 rfl | apply nfS rfl | exact nfR)) ?_
  exact k
theorem new_c : Cal Try.prog 14 [] (Hp w0 cs) (fun q : NR 4 => q.r.v) (fun q => Hp w0 (NC q.r q.rs [[], [], [], []] ++ cs)) := by
  refine cal_of_tri Try.func14 rfl Try.ntmps14 rfl ?_
  (repeat (first | refine au_pure ?_ | refine au_pass ?_ | refine au_box (fun _ => ?_) | refine au_alloc (fun _ => ?_) | refine au_store ?_ | refine au_make rfl rfl (fun _ => ?_) | refine au_lit rfl rfl rfl (fun _ => ?_) | refine au_append rfl rfl rfl rfl (fun _ => au_norm ?_) | refine au_storeE rfl rfl rfl rfl ?_ | refine tri_seq ?_ | refine tri_then ?_ | refine tri_region ?_ | refine tri_nil ?_ | refine tri_skip ?_ | refine tri_ret ?_ | refine tri_exit ?_ | refine tri_thenr ?_ | refine tri_thene ?_ | refine tri_blkn ?_ | refine tri_blkr ?_ | refine tri_blke ?_ | refine tri_blko (by rfl) ?_ | refine tri_if_t (by rfl) ?_ | refine tri_if_f (by rfl) ?_ | fail))
  refine tri_make (α := SV) (k := 4) (c := 4) rfl rfl rfl rfl (ix_nat rfl) (ix_nat rfl) rfl rfl (by omega) (by omega) (fun r => ?_)
  (repeat (first | refine au_pure ?_ | refine au_pass ?_ | refine au_box (fun _ => ?_) | refine au_alloc (fun _ => ?_) | refine au_store ?_ | refine au_make rfl rfl (fun _ => ?_) | refine au_lit rfl rfl rfl (fun _ => ?_) | refine au_append rfl rfl rfl rfl (fun _ => au_norm ?_) | refine au_storeE rfl rfl rfl rfl ?_ | refine tri_seq ?_ | refine tri_then ?_ | refine tri_region ?_ | refine tri_nil ?_ | refine tri_skip ?_ | refine tri_ret ?_ | refine tri_exit ?_ | refine tri_thenr ?_ | refine tri_thene ?_ | refine tri_blkn ?_ | refine tri_blkr ?_ | refine tri_blke ?_ | refine tri_blko (by rfl) ?_ | refine tri_if_t (by rfl) ?_ | refine tri_if_f (by rfl) ?_ | fail))
  refine nilrows w0 cs ?_
  refine au_done1 rfl ?_
  exact fun w hw => ⟨⟨r, List.replicate 4 (Row.nil w0.heap.size), rfl⟩, rfl, hw⟩
theorem rnew_c : Cal Try.prog 15 [] (Hp w0 cs) (fun q : NR 4 => q.r.v) (fun q => Hp w0 (NC q.r q.rs [[], [], [], []] ++ cs)) := by
  refine cal_of_tri Try.func15 rfl Try.ntmps15 rfl ?_
  (repeat (first | refine au_pure ?_ | refine au_pass ?_ | refine au_box (fun _ => ?_) | refine au_alloc (fun _ => ?_) | refine au_store ?_ | refine au_make rfl rfl (fun _ => ?_) | refine au_lit rfl rfl rfl (fun _ => ?_) | refine au_append rfl rfl rfl rfl (fun _ => au_norm ?_) | refine au_storeE rfl rfl rfl rfl ?_ | refine tri_seq ?_ | refine tri_then ?_ | refine tri_region ?_ | refine tri_nil ?_ | refine tri_skip ?_ | refine tri_ret ?_ | refine tri_exit ?_ | refine tri_thenr ?_ | refine tri_thene ?_ | refine tri_blkn ?_ | refine tri_blkr ?_ | refine tri_blke ?_ | refine tri_blko (by rfl) ?_ | refine tri_if_t (by rfl) ?_ | refine tri_if_f (by rfl) ?_ | fail))
  refine tri_make (α := SV) (k := 4) (c := 4) rfl rfl rfl rfl (ix_nat rfl) (ix_nat rfl) rfl rfl (by omega) (by omega) (fun r => ?_)
  (repeat (first | refine au_pure ?_ | refine au_pass ?_ | refine au_box (fun _ => ?_) | refine au_alloc (fun _ => ?_) | refine au_store ?_ | refine au_make rfl rfl (fun _ => ?_) | refine au_lit rfl rfl rfl (fun _ => ?_) | refine au_append rfl rfl rfl rfl (fun _ => au_norm ?_) | refine au_storeE rfl rfl rfl rfl ?_ | refine tri_seq ?_ | refine tri_then ?_ | refine tri_region ?_ | refine tri_nil ?_ | refine tri_skip ?_ | refine tri_ret ?_ | refine tri_exit ?_ | refine tri_thenr ?_ | refine tri_thene ?_ | refine tri_blkn ?_ | refine tri_blkr ?_ | refine tri_blke ?_ | refine tri_blko (by rfl) ?_ | refine tri_if_t (by rfl) ?_ | refine tri_if_f (by rfl) ?_ | fail))
  refine nilrows w0 cs ?_
  refine au_done1 rfl ?_
  exact fun w hw => ⟨⟨r, List.replicate 4 (Row.nil w0.heap.size), rfl⟩, rfl, hw⟩
theorem gclone_c {v : Value} {vs : List SV} {L : GL} (hN : RdN (Hp w0 cs) v vs L) (hl : L.length ≤ 1000) (hl2 : ∀ i, (L.getD i default).length ≤ 1000) :
    Cal Try.prog 35 [v] (Hp w0 cs) (fun q : NR L.length => q.r.v) (fun q => Hp w0 (NC q.r q.rs L ++ cs)) := by
  have hvl := hN.len
  have hRo := hN.out
  refine cal_of_tri Try.func35 rfl Try.ntmps35 rfl ?_
  (repeat (first | refine au_pure ?_ | refine au_pass ?_ | refine au_box (fun _ => ?_) | refine au_alloc (fun _ => ?_) | refine au_store ?_ | refine au_make rfl rfl (fun _ => ?_) | refine au_lit rfl rfl rfl (fun _ => ?_) | refine au_append rfl rfl rfl rfl (fun _ => au_norm ?_) | refine au_storeE rfl rfl rfl rfl ?_ | refine tri_seq ?_ | refine tri_then ?_ | refine tri_region ?_ | refine tri_nil ?_ | refine tri_skip ?_ | refine tri_ret ?_ | refine tri_exit ?_ | refine tri_thenr ?_ | refine tri_thene ?_ | refine tri_blkn ?_ | refine tri_blkr ?_ | refine tri_blke ?_ | refine tri_blko (by rfl) ?_ | refine tri_if_t (by rfl) ?_ | refine tri_if_f (by rfl) ?_ | fail))
  rename_i r3
  refine tri_block ?_
  refine tri_loop2 (fun (i : Nat) (rs : List Row) => i ≤ L.length ∧ rs.length = i) (fun i _ => [(0, v), (3, r3.v), (8, v), (9, .int .i64 (vs.length : Int)), (10, .int .i64 (i : Int))]) (fun i rs => Hp w0 (outS r3 (rs.map Row.sv ++ List.replicate (L.length - rs.length) default) :: (nest rs (L.take i) ++ cs))) (fun i _ => L.length - i)
    0 [] ⟨by omega, rfl⟩ (by repeat (first | exact trivial | refine ⟨rfl, ?_⟩)) (fun w h => by rw [← hvl]; exact h) ?_
  rintro i rs ⟨hi, hrs⟩
  have hN' := (hN.app (ds := nest rs (L.take i))).cons (c := outS r3 (rs.map Row.sv ++ List.replicate (L.length - rs.length) default))
  have hRo' := hN'.out
  have hRi' := hN'.inn i
  have hli := hl2 i
  have hsl : (rs.map Row.sv ++ List.replicate (L.length - rs.length) (default : SV)).length = L.length := by simp; omega
  (repeat (first | refine au_pure ?_ | refine au_pass ?_ | refine au_box (fun _ => ?_) | refine au_alloc (fun _ => ?_) | refine au_store ?_ | refine au_make rfl rfl (fun _ => ?_) | refine au_lit rfl rfl rfl (fun _ => ?_) | refine au_append rfl rfl rfl rfl (fun _ => au_norm ?_) | refine au_storeE rfl rfl rfl rfl ?_ | refine tri_seq ?_ | refine tri_then ?_ | refine tri_region ?_ | refine tri_nil ?_ | refine tri_skip ?_ | refine tri_ret ?_ | refine tri_exit ?_ | refine tri_thenr ?_ | refine tri_thene ?_ | refine tri_blkn ?_ | refine tri_blkr ?_ | refine tri_blke ?_ | refine tri_blko (by rfl) ?_ | refine tri_if_t (by rfl) ?_ | refine tri_if_f (by rfl) ?_ | fail))
  ((first | refine tri_cond (by rfl) (fun hc => ?_) (fun hc => ?_) | refine tri_gsplit (by rfl) (by rfl) (by (fail_if_success exact (rfl : _ = some (Value.bool true))); (fail_if_success exact (rfl : _ = some (Value.bool false))); rfl) (fun hc => ?_) (fun hc => ?_)) <;> (try simp only [decide_eq_true_eq, decide_eq_false_iff_not, beq_iff_eq, bne_iff_ne, ne_eq, Bool.not_eq_true', Bool.not_eq_false', beq_eq_false_iff_ne, bne_eq_false_iff_eq, Int.not_lt, Int.not_le, gt_iff_lt, ge_iff_le, Bool.and_eq_true, Bool.or_eq_true, Bool.and_eq_false_iff, Bool.or_eq_false_iff, Decidable.not_not, not_true_eq_false, not_false_eq_true, and_true, true_and, or_false, false_or, or_true, true_or, and_false, false_and, eq_self, Bool.true_eq_false, Bool.false_eq_true] at hc) <;> (try (exfalso; omega)))
  · (repeat (first | refine au_pure ?_ | refine au_pass ?_ | refine au_box (fun _ => ?_) | refine au_alloc (fun _ => ?_) | refine au_store ?_ | refine au_make rfl rfl (fun _ => ?_) | refine au_lit rfl rfl rfl (fun _ => ?_) | refine au_append rfl rfl rfl rfl (fun _ => au_norm ?_) | refine au_storeE rfl rfl rfl rfl ?_ | refine tri_seq ?_ | refine tri_then ?_ | refine tri_region ?_ | refine tri_nil ?_ | refine tri_skip ?_ | refine tri_ret ?_ | refine tri_exit ?_ | refine tri_thenr ?_ | refine tri_thene ?_ | refine tri_blkn ?_ | refine tri_blkr ?_ | refine tri_blke ?_ | refine tri_blko (by rfl) ?_ | refine tri_if_t (by rfl) ?_ | refine tri_if_f (by rfl) ?_ | fail))
    refine tri_block ?_
    have hset := fun r' => svs_set (n := L.length) (rs := rs) r' (by omega)
    rw [hrs] at hset
    have htk : L.take (i + 1) = L.take i ++ [L.getD i default] := take_step (by omega)
    obtain ⟨S, hS⟩ : ∃ S, S = rs.map Row.sv ++ List.replicate (L.length - i) default := ⟨_, rfl⟩
    rw [hrs] at hsl hRo' hRi' ⊢
    rw [← hS] at hset hsl hRo' hRi' ⊢
    (repeat (first | refine au_pure ?_ | refine au_pass ?_ | refine au_box (fun _ => ?_) | refine au_alloc (fun _ => ?_) | refine au_store ?_ | refine au_make rfl rfl (fun _ => ?_) | refine au_lit rfl rfl rfl (fun _ => ?_) | refine au_append rfl rfl rfl rfl (fun _ => au_norm ?_) | refine au_storeE rfl rfl rfl rfl ?_ | refine tri_seq ?_ | refine tri_then ?_ | refine tri_region ?_ | refine tri_nil ?_ | refine tri_skip ?_ | refine tri_ret ?_ | refine tri_exit ?_ | refine tri_thenr ?_ | refine tri_thene ?_ | refine tri_blkn ?_ | refine tri_blkr ?_ | refine tri_blke ?_ | refine tri_blko (by rfl) ?_ | refine tri_if_t (by rfl) ?_ | refine tri_if_f (by rfl) ?_ | fail))
    refine au_callC rfl rfl rfl rfl rfl (clone_c w0 _ hRi' (by omega)) ?_
    intro r'
    (repeat (first | refine au_pure ?_ | refine au_pass ?_ | refine au_box (fun _ => ?_) | refine au_alloc (fun _ => ?_) | refine au_store ?_ | refine au_make rfl rfl (fun _ => ?_) | refine au_lit rfl rfl rfl (fun _ => ?_) | refine au_append rfl rfl rfl rfl (fun _ => au_norm ?_) | refine au_storeE rfl rfl rfl rfl ?_ | refine tri_seq ?_ | refine tri_then ?_ | refine tri_region ?_ | refine tri_nil ?_ | refine tri_skip ?_ | refine tri_ret ?_ | refine tri_exit ?_ | refine tri_thenr ?_ | refine tri_thene ?_ | refine tri_blkn ?_ | refine tri_blkr ?_ | refine tri_blke ?_ | refine tri_blko (by rfl) ?_ | refine tri_if_t (by rfl) ?_ | refine tri_if_f (by rfl) ?_ | fail))
    refine tri_nx2 (i + 1) (rs ++ [r']) (by omega) ⟨by omega, by simp [hrs]⟩ (by repeat (first | exact trivial | refine ⟨rfl, ?_⟩)) (fun w h => ?_)
    rw [htk, ← hset r']
    exact h.perm (nest_perm (by rw [hrs, List.length_take]; omega))
  · have hil : i = L.length := by omega
    subst hil
    rw [hrs, Nat.sub_self, List.replicate_zero, List.append_nil, List.take_length]
    (repeat (first | refine au_pure ?_ | refine au_pass ?_ | refine au_box (fun _ => ?_) | refine au_alloc (fun _ => ?_) | refine au_store ?_ | refine au_make rfl rfl (fun _ => ?_) | refine au_lit rfl rfl rfl (fun _ => ?_) | refine au_append rfl rfl rfl rfl (fun _ => au_norm ?_) | refine au_storeE rfl rfl rfl rfl ?_ | refine tri_seq ?_ | refine tri_then ?_ | refine tri_region ?_ | refine tri_nil ?_ | refine tri_skip ?_ | refine tri_ret ?_ | refine tri_exit ?_ | refine tri_thenr ?_ | refine tri_thene ?_ | refine tri_blkn ?_ | refine tri_blkr ?_ | refine tri_blke ?_ | refine tri_blko (by rfl) ?_ | refine tri_if_t (by rfl) ?_ | refine tri_if_f (by rfl) ?_ | fail))
    refine au_done1 rfl ?_
    exact fun w hw => ⟨⟨r3, rs, hrs⟩, rfl, hw⟩
theorem rclone_c {v : Value} {vs : List SV} {L : GL} (hN : RdN (Hp w0 cs) v vs L) (hl : L.length ≤ 1000) (hl2 : ∀ i, (L.getD i default).length ≤ 1000) :
    Cal Try.prog 36 [v] (Hp w0 cs) (fun q : NR L.length => q.r.v) (fun q => Hp w0 (NC q.r q.rs L ++ cs)) := by
  have hvl := hN.len
  have hRo := hN.out
  refine cal_of_tri Try.func36 rfl Try.ntmps36 rfl ?_
  refine tri_nilrow SV 25 ?_
  (repeat (first | refine au_pure ?_ | refine au_pass ?_ | refine au_box (fun _ => ?_) | refine au_alloc (fun _ => ?_) | refine au_store ?_ | refine au_make rfl rfl (fun _ => ?_) | refine au_lit rfl rfl rfl (fun _ => ?_) | refine au_append rfl rfl rfl rfl (fun _ => au_norm ?_) | refine au_storeE rfl rfl rfl rfl ?_ | refine tri_seq ?_ | refine tri_then ?_ | refine tri_region ?_ | refine tri_nil ?_ | refine tri_skip ?_ | refine tri_ret ?_ | refine tri_exit ?_ | refine tri_thenr ?_ | refine tri_thene ?_ | refine tri_blkn ?_ | refine tri_blkr ?_ | refine tri_blke ?_ | refine tri_blko (by rfl) ?_ | refine tri_if_t (by rfl) ?_ | refine tri_if_f (by rfl) ?_ | fail))
  refine tri_block ?_
  refine tri_loop3 (fun (i : Nat) (r : Row) (rs : List Row) => i ≤ L.length ∧ rs.length = i) (fun i r _ => [(0, v), (3, r.v), (7, v), (8, .int .i64 (vs.length : Int)), (9, .int .i64 (i : Int))]) (fun i r rs => Hp w0 (outS r (rs.map Row.sv) :: (nest rs (L.take i) ++ cs))) (fun i _ _ => L.length - i)
    0 (Row.nil w0.heap.size) [] ⟨by omega, rfl⟩ (by repeat (first | exact trivial | refine ⟨rfl, ?_⟩)) (fun w h => h) ?_
  rintro i r rs ⟨hi, hrs⟩
  have hN' := (hN.app (ds := nest rs (L.take i))).cons (c := outS r (rs.map Row.sv))
  have hRo' := hN'.out
  have hRi' := (hN'.inn i).cons (c := intS (Row.nil w0.heap.size) ([] : List Int))
  have hli := hl2 i
  have hsl : (rs.map Row.sv).length = i := by simp [hrs]
  (repeat (first | refine au_pure ?_ | refine au_pass ?_ | refine au_box (fun _ => ?_) | refine au_alloc (fun _ => ?_) | refine au_store ?_ | refine au_make rfl rfl (fun _ => ?_) | refine au_lit rfl rfl rfl (fun _ => ?_) | refine au_append rfl rfl rfl rfl (fun _ => au_norm ?_) | refine au_storeE rfl rfl rfl rfl ?_ | refine tri_seq ?_ | refine tri_then ?_ | refine tri_region ?_ | refine tri_nil ?_ | refine tri_skip ?_ | refine tri_ret ?_ | refine tri_exit ?_ | refine tri_thenr ?_ | refine tri_thene ?_ | refine tri_blkn ?_ | refine tri_blkr ?_ | refine tri_blke ?_ | refine tri_blko (by rfl) ?_ | refine tri_if_t (by rfl) ?_ | refine tri_if_f (by rfl) ?_ | fail))
  ((first | refine tri_cond (by rfl) (fun hc => ?_) (fun hc => ?_) | refine tri_gsplit (by rfl) (by rfl) (by (fail_if_success exact (rfl : _ = some (Value.bool true))); (fail_if_success exact (rfl : _ = some (Value.bool false))); rfl) (fun hc => ?_) (fun hc => ?_)) <;> (try simp only [decide_eq_true_eq, decide_eq_false_iff_not, beq_iff_eq, bne_iff_ne, ne_eq, Bool.not_eq_true', Bool.not_eq_false', beq_eq_false_iff_ne, bne_eq_false_iff_eq, Int.not_lt, Int.not_le, gt_iff_lt, ge_iff_le, Bool.and_eq_true, Bool.or_eq_true, Bool.and_eq_false_iff, Bool.or_eq_false_iff, Decidable.not_not, not_true_eq_false, not_false_eq_true, and_true, true_and, or_false, false_or, or_true, true_or, and_false, false_and, eq_self, Bool.true_eq_false, Bool.false_eq_true] at hc) <;> (try (exfalso; omega)))
  · (repeat (first | refine au_pure ?_ | refine au_pass ?_ | refine au_box (fun _ => ?_) | refine au_alloc (fun _ => ?_) | refine au_store ?_ | refine au_make rfl rfl (fun _ => ?_) | refine au_lit rfl rfl rfl (fun _ => ?_) | refine au_append rfl rfl rfl rfl (fun _ => au_norm ?_) | refine au_storeE rfl rfl rfl rfl ?_ | refine tri_seq ?_ | refine tri_then ?_ | refine tri_region ?_ | refine tri_nil ?_ | refine tri_skip ?_ | refine tri_ret ?_ | refine tri_exit ?_ | refine tri_thenr ?_ | refine tri_thene ?_ | refine tri_blkn ?_ | refine tri_blkr ?_ | refine tri_blke ?_ | refine tri_blko (by rfl) ?_ | refine tri_if_t (by rfl) ?_ | refine tri_if_f (by rfl) ?_ | fail))
    refine tri_block ?_
    have htk : L.take (i + 1) = L.take i ++ [L.getD i default] := take_step (by omega)
    obtain ⟨S, hS⟩ : ∃ S, S = rs.map Row.sv := ⟨_, rfl⟩
    rw [← hS] at hsl hRo' hRi' ⊢
    (repeat (first | refine au_pure ?_ | refine au_pass ?_ | refine au_box (fun _ => ?_) | refine au_alloc (fun _ => ?_) | refine au_store ?_ | refine au_make rfl rfl (fun _ => ?_) | refine au_lit rfl rfl rfl (fun _ => ?_) | refine au_append rfl rfl rfl rfl (fun _ => au_norm ?_) | refine au_storeE rfl rfl rfl rfl ?_ | refine tri_seq ?_ | refine tri_then ?_ | refine tri_region ?_ | refine tri_nil ?_ | refine tri_skip ?_ | refine tri_ret ?_ | refine tri_exit ?_ | refine tri_thenr ?_ | refine tri_thene ?_ | refine tri_blkn ?_ | refine tri_blkr ?_ | refine tri_blke ?_ | refine tri_blko (by rfl) ?_ | refine tri_if_t (by rfl) ?_ | refine tri_if_f (by rfl) ?_ | fail))
    refine tri_nilrow Int 3 ?_
    refine au_append (r := Row.nil w0.heap.size) rfl rfl rfl rfl (fun r' => au_norm ?_)
    (repeat (first | refine au_pure ?_ | refine au_pass ?_ | refine au_box (fun _ => ?_) | refine au_alloc (fun _ => ?_) | refine au_store ?_ | refine au_make rfl rfl (fun _ => ?_) | refine au_lit rfl rfl rfl (fun _ => ?_) | refine au_append rfl rfl rfl rfl (fun _ => au_norm ?_) | refine au_storeE rfl rfl rfl rfl ?_ | refine tri_seq ?_ | refine tri_then ?_ | refine tri_region ?_ | refine tri_nil ?_ | refine tri_skip ?_ | refine tri_ret ?_ | refine tri_exit ?_ | refine tri_thenr ?_ | refine tri_thene ?_ | refine tri_blkn ?_ | refine tri_blkr ?_ | refine tri_blke ?_ | refine tri_blko (by rfl) ?_ | refine tri_if_t (by rfl) ?_ | refine tri_if_f (by rfl) ?_ | fail))
    rename_i rl r2
    have hS2 : (rs ++ [r']).map Row.sv = S ++ [r'.sv] := by rw [hS, List.map_append]; rfl
    refine tri_nx3 (i + 1) r2 (rs ++ [r']) (by omega) ⟨by omega, by simp [hrs]⟩ (by repeat (first | exact trivial | refine ⟨rfl, ?_⟩)) (fun w h => ?_)
    rw [htk, hS2]
    have h2 := h.sub (cs' := intS r' (L.getD i default) :: outS r2 (S ++ [r'.sv]) :: (nest rs (L.take i) ++ cs)) (by repeat (first | exact List.Sublist.refl _ | assumption | apply List.Sublist.cons_cons | apply List.Sublist.cons))
    exact h2.perm (nest_perm (by rw [hrs, List.length_take]; omega))
  · have hil : i = L.length := by omega
    subst hil
    rw [List.take_length]
    (repeat (first | refine au_pure ?_ | refine au_pass ?_ | refine au_box (fun _ => ?_) | refine au_alloc (fun _ => ?_) | refine au_store ?_ | refine au_make rfl rfl (fun _ => ?_) | refine au_lit rfl rfl rfl (fun _ => ?_) | refine au_append rfl rfl rfl rfl (fun _ => au_norm ?_) | refine au_storeE rfl rfl rfl rfl ?_ | refine tri_seq ?_ | refine tri_then ?_ | refine tri_region ?_ | refine tri_nil ?_ | refine tri_skip ?_ | refine tri_ret ?_ | refine tri_exit ?_ | refine tri_thenr ?_ | refine tri_thene ?_ | refine tri_blkn ?_ | refine tri_blkr ?_ | refine tri_blke ?_ | refine tri_blko (by rfl) ?_ | refine tri_if_t (by rfl) ?_ | refine tri_if_f (by rfl) ?_ | fail))
    refine au_done1 rfl ?_
    exact fun w hw => ⟨⟨r, rs, hrs⟩, rfl, hw⟩
end
end Go.Proofs.Ytongcjepmidamaa
