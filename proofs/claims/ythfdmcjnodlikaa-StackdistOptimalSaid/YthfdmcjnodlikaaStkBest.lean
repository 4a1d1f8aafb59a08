/- The law StackdistOptimal. No conditions. -/
import Derived.Test.YthfdmcjnodlikaaStkROpt
import Derived.Test.YthfdmcjnodlikaaSeq2
set_option linter.unusedSimpArgs false
set_option linter.unusedVariables false
namespace Go.Proofs.Ythfdmcjnodlikaa
open Go Go.RowKit
attribute [local irreducible] Code.wp wpList bodyPost Exit.then Exit.inBlock Calls wpQuiet Tri TriQ
def bestM (l : List Int) (f : Nat) : Nat → Nat → List Int → Nat
  | 0, _, _ => 0
  | d + 1, i, K => if l.getD i default ∈ K then bestM l f d (i + 1) K else if K.length < f then 1 + bestM l f d (i + 1) (K ++ [l.getD i default])
    else (List.range K.length).foldl (fun n j => min n (1 + bestM l f d (i + 1) (K.take j ++ K.drop (j + 1) ++ [l.getD i default]))) l.length
def bestF (l : List Int) (f d i : Nat) (K : List Int) (m : Nat) : Nat := (List.range m).foldl (fun n j => min n (1 + bestM l f d (i + 1) (K.take j ++ K.drop (j + 1) ++ [l.getD i default]))) l.length
theorem bestF_step (l : List Int) (f d i : Nat) (K : List Int) (m : Nat) : bestF l f d i K (m + 1) = min (bestF l f d i K m) (1 + bestM l f d (i + 1) (K.take m ++ K.drop (m + 1) ++ [l.getD i default])) := by
  unfold bestF
  rw [List.range_succ, List.foldl_append]
  rfl
theorem bestF_le (l : List Int) (f d i : Nat) (K : List Int) : ∀ m, bestF l f d i K m ≤ l.length
  | 0 => Nat.le_refl _
  | m + 1 => by rw [bestF_step]; have := bestF_le l f d i K m; omega
theorem bestM_le (l : List Int) (f : Nat) : ∀ d i K, bestM l f d i K ≤ d + l.length
  | 0, _, _ => by unfold bestM; omega
  | d + 1, i, K => by
    unfold bestM
    split
    · have := bestM_le l f d (i + 1) K; omega
    · split
      · have := bestM_le l f d (i + 1) (K ++ [l.getD i default]); omega
      · have := bestF_le l f d i K K.length
        unfold bestF at this
        omega
section
variable {refs : List Int} {f : Nat}
theorem some_run (hf : 1 ≤ f) : ∀ d i, d = refs.length - i → i ≤ refs.length → ∀ K : List Int, K.Nodup → K.length ≤ f → ∃ c, c ≤ d ∧ Run refs f i K c
  | 0, i, hd, hi, K, _, _ => by
    have : i = refs.length := by omega
    subst this
    exact ⟨0, Nat.le_refl _, .done⟩
  | d + 1, i, hd, hi, K, hn, hl => by
    by_cases hm : refs.getD i default ∈ K
    · obtain ⟨c, h1, h2⟩ := some_run hf d (i + 1) (by omega) (by omega) K hn hl
      exact ⟨c, by omega, .hit (by omega) hm hn (fun p h => h) hl h2⟩
    · obtain ⟨c, h1, h2⟩ := some_run hf d (i + 1) (by omega) (by omega) [refs.getD i default] (by simp) (by simpa using hf)
      exact ⟨c + 1, by omega, .miss (by omega) hm (by simp) (fun p h => .inr (List.mem_singleton.1 h)) (by simp) (by simpa using hf) h2⟩
theorem best_ge (hf : 1 ≤ f) : ∀ d i, d = refs.length - i → i ≤ refs.length → ∀ K : List Int, K.Nodup → K.length ≤ f → ∃ c, c ≤ bestM refs f d i K ∧ Run refs f i K c
  | 0, i, hd, hi, K, _, _ => by
    have : i = refs.length := by omega
    subst this
    exact ⟨0, Nat.zero_le _, .done⟩
  | d + 1, i, hd, hi, K, hn, hl => by
    have hi' : i < refs.length := by omega
    unfold bestM
    obtain ⟨r, hr⟩ : ∃ r, r = refs.getD i default := ⟨_, rfl⟩
    by_cases hm : refs.getD i default ∈ K
    · rw [if_pos hm]
      obtain ⟨c, h1, h2⟩ := best_ge hf d (i + 1) (by omega) (by omega) K hn hl
      exact ⟨c, h1, .hit hi' hm hn (fun p h => h) hl h2⟩
    rw [if_neg hm]
    have happ : ∀ K' : List Int, K'.Nodup → (∀ p ∈ K', p ∈ K) → (K' ++ [refs.getD i default]).Nodup := fun K' h1 h2 => by
      rw [List.nodup_append]
      exact ⟨h1, by simp, fun a ha b hb => by rw [List.mem_singleton.1 hb]; exact fun e => hm (e ▸ h2 a ha)⟩
    by_cases hlt : K.length < f
    · rw [if_pos hlt]
      obtain ⟨c, h1, h2⟩ := best_ge hf d (i + 1) (by omega) (by omega) (K ++ [refs.getD i default]) (happ K hn fun p h => h) (by simp; omega)
      exact ⟨c + 1, by omega, .miss hi' hm (happ K hn fun p h => h) (fun p h => by rwa [List.mem_append, List.mem_singleton] at h) (by simp) (by simp; omega) h2⟩
    rw [if_neg hlt]
    have hF : ∀ m, m ≤ K.length → bestF refs f d i K m = refs.length ∨ ∃ j, j < m ∧ bestF refs f d i K m = 1 + bestM refs f d (i + 1) (K.take j ++ K.drop (j + 1) ++ [refs.getD i default]) := by
      intro m
      induction m with
      | zero => intro _; exact .inl rfl
      | succ m ih =>
        intro hmk
        rw [bestF_step]
        rcases Nat.le_total (bestF refs f d i K m) (1 + bestM refs f d (i + 1) (K.take m ++ K.drop (m + 1) ++ [refs.getD i default])) with h | h
        · rw [Nat.min_eq_left h]
          rcases ih (by omega) with e | ⟨j, h1, h2⟩
          · exact .inl e
          · exact .inr ⟨j, by omega, h2⟩
        · rw [Nat.min_eq_right h]
          exact .inr ⟨m, by omega, rfl⟩
    show ∃ c, c ≤ bestF refs f d i K K.length ∧ Run refs f i K c
    rcases hF K.length (Nat.le_refl _) with e | ⟨j, hj, e⟩
    · rw [e]
      obtain ⟨c, h1, h2⟩ := some_run hf (d + 1) i hd hi K hn hl
      exact ⟨c, by omega, h2⟩
    · rw [e]
      have hsub : (K.take j ++ K.drop (j + 1)).Sublist K := by rw [← List.eraseIdx_eq_take_drop_succ]; exact List.eraseIdx_sublist ..
      have hlen : (K.take j ++ K.drop (j + 1)).length + 1 = K.length := by rw [List.length_append, List.length_take, List.length_drop]; omega
      have hno := happ _ (hn.sublist hsub) fun p h => hsub.subset h
      have hl2 : (K.take j ++ K.drop (j + 1) ++ [refs.getD i default]).length ≤ f := by rw [List.length_append, List.length_singleton]; omega
      obtain ⟨c, h1, h2⟩ := best_ge hf d (i + 1) (by omega) (by omega) _ hno hl2
      exact ⟨c + 1, by omega, .miss hi' hm hno (fun p h => by
        rw [List.mem_append, List.mem_singleton] at h
        exact h.elim (fun h => .inl (hsub.subset h)) .inr) (by simp) hl2 h2⟩
theorem best_bel {i c : Nat} {G : List Int} (h : Bel refs f i G c) : ∀ K : List Int, K.Nodup → G.Nodup → (∀ p, p ∈ K ↔ p ∈ G) → bestM refs f (refs.length - i) i K ≤ c := by
  induction h with
  | done => intro K _ _ _; rw [Nat.sub_self]; exact Nat.le_refl _
  | @hit i G G' c hi hr hn hm hB ih =>
    intro K hK hG h
    rw [show refs.length - i = (refs.length - (i + 1)) + 1 by omega]
    unfold bestM
    rw [if_pos ((h _).2 hr)]
    exact ih K hK hn fun p => (h p).trans (hm p).symm
  | @add i G G' c hi hr hlt hn hm hB ih =>
    intro K hK hG h
    have hl := same_len hG hK h
    have hnr : refs.getD i default ∉ K := fun e => hr ((h _).1 e)
    rw [show refs.length - i = (refs.length - (i + 1)) + 1 by omega]
    unfold bestM
    rw [if_neg hnr, if_pos (by omega)]
    have := ih (K ++ [refs.getD i default]) (by
      rw [List.nodup_append]
      exact ⟨hK, by simp, fun a ha b hb => by rw [List.mem_singleton.1 hb]; exact fun e => hnr (e ▸ ha)⟩) hn (fun p => by rw [List.mem_append, List.mem_singleton, h, hm])
    omega
  | @evict i G G' c v hi hr hlt hv hmax hn hm hB ih =>
    intro K hK hG h
    have hl := same_len hG hK h
    have hnr : refs.getD i default ∉ K := fun e => hr ((h _).1 e)
    rw [show refs.length - i = (refs.length - (i + 1)) + 1 by omega]
    unfold bestM
    rw [if_neg hnr, if_neg (by omega)]
    obtain ⟨j, hj, hjv⟩ := List.getElem_of_mem ((h v).2 hv)
    have her : K.take j ++ K.drop (j + 1) = K.erase v := by
      rw [erase_at hj (by rw [getD_get hj]; exact hjv) fun a ha e => by
        rw [getD_get (by omega), ← hjv] at e
        have := (List.getElem_inj hK).1 e
        omega]
    have hb := ih (K.take j ++ K.drop (j + 1) ++ [refs.getD i default]) (by
      rw [her, List.nodup_append]
      exact ⟨hK.sublist (List.erase_sublist ..), by simp, fun a ha b hb => by rw [List.mem_singleton.1 hb]; exact fun e => hnr (e ▸ List.mem_of_mem_erase ha)⟩) hn (fun p => by
        rw [List.mem_append, List.mem_singleton, her, hK.mem_erase_iff, hm, h, and_comm])
    have hF : ∀ m, j < m → bestF refs f (refs.length - (i + 1)) i K m ≤ 1 + bestM refs f (refs.length - (i + 1)) (i + 1) (K.take j ++ K.drop (j + 1) ++ [refs.getD i default]) := by
      intro m
      induction m with
      | zero => intro h; omega
      | succ m ihm =>
        intro hm
        rw [bestF_step]
        by_cases e : j = m
        · subst e; exact Nat.min_le_right _ _
        · have := ihm (by omega); omega
    have := hF K.length hj
    unfold bestF at this
    omega
theorem best_opt (hf : 1 ≤ f) : bestM refs f refs.length 0 [] = optN refs (f : Int) := by
  have h1 := best_bel (opt_bel (refs := refs) hf) [] List.nodup_nil List.nodup_nil (fun p => Iff.rfl)
  obtain ⟨c, h2, h3⟩ := best_ge (refs := refs) hf refs.length 0 rfl (Nat.zero_le _) [] List.nodup_nil (Nat.zero_le _)
  have h4 := bel_best (opt_bel hf) h3
  rw [Nat.sub_zero] at h1
  omega
end
section
variable {M : List Nat} {P : Program} {n d : Nat} {F : Act → World → Prop} {l : List Oper} {E : Env} {w0 : World} {cs : List Chunk} {fuel : Nat} {listed : Array Bool} {S : World → Prop}
theorem ap_weak (cs' : List Chunk) (hs : cs'.Sublist cs) (k : TH P n l S fuel listed F E (HpM M w0 cs')) : TH P n l S fuel listed F E (HpM M w0 cs) := fun a w h1 h2 => k a w h1 (h2.sub hs)
end
section
variable (w0 : World)
set_option maxHeartbeats 4000000 in
theorem best_c {l : List Int} {f : Nat} (hf : f ≤ 1000) (hlen : l.length ≤ 1000000) : ∀ (d i : Nat) (cs : List Chunk) (v kv : Value) (K : List Int), d = l.length - i → i ≤ l.length → K.length ≤ f → RdH (Hp w0 cs) v l → RdH (Hp w0 cs) kv K →
    Cal Try.prog 27 [v, .int .i64 (i : Int), kv, .int .i64 (f : Int)] (Hp w0 cs) (fun _ : Unit => .int .i64 (bestM l f d i K : Nat)) (fun _ => Hp w0 cs)
  | d, i, cs, v, kv, K, hd, hi, hK, hR, hRK => by
    refine cal_of_tri Try.func27 rfl Try.ntmps27 rfl ?_
    have hMle := bestM_le l f
    (repeat (first | refine au_pure ?_ | refine au_pass ?_ | refine au_box (fun _ => ?_) | refine au_alloc (fun _ => ?_) | refine au_store ?_ | refine au_make rfl rfl (fun _ => ?_) | refine au_lit rfl rfl rfl (fun _ => ?_) | refine au_append rfl rfl rfl rfl (fun _ => au_norm ?_) | refine au_storeE rfl rfl rfl rfl ?_ | refine tri_seq ?_ | refine tri_then ?_ | refine tri_region ?_ | refine tri_nil ?_ | refine tri_skip ?_ | refine tri_ret ?_ | refine tri_exit ?_ | refine tri_thenr ?_ | refine tri_thene ?_ | refine tri_blkn ?_ | refine tri_blkr ?_ | refine tri_blke ?_ | refine tri_blko (by rfl) ?_ | refine tri_if_t (by rfl) ?_ | refine tri_if_f (by rfl) ?_ | fail))
    ((first | refine tri_cond (by rfl) (fun hc => ?_) (fun hc => ?_) | refine tri_gsplit (by rfl) (by rfl) (by (fail_if_success exact (rfl : _ = some (Value.bool true))); (fail_if_success exact (rfl : _ = some (Value.bool false))); rfl) (fun hc => ?_) (fun hc => ?_)) <;> (try simp only [decide_eq_true_eq, decide_eq_false_iff_not, beq_iff_eq, bne_iff_ne, ne_eq, Bool.not_eq_true', Bool.not_eq_false', beq_eq_false_iff_ne, bne_eq_false_iff_eq, Int.not_lt, Int.not_le, gt_iff_lt, ge_iff_le, Bool.and_eq_true, Bool.or_eq_true, Bool.and_eq_false_iff, Bool.or_eq_false_iff, Decidable.not_not, not_true_eq_false, not_false_eq_true, and_true, true_and, or_false, false_or, or_true, true_or, and_false, false_and, eq_self, Bool.true_eq_false, Bool.false_eq_true] at hc) <;> (try (exfalso; omega)))
    · have hd0 : d = 0 := by omega
      subst hd0
      (repeat (first | refine au_pure ?_ | refine au_pass ?_ | refine au_box (fun _ => ?_) | refine au_alloc (fun _ => ?_) | refine au_store ?_ | refine au_make rfl rfl (fun _ => ?_) | refine au_lit rfl rfl rfl (fun _ => ?_) | refine au_append rfl rfl rfl rfl (fun _ => au_norm ?_) | refine au_storeE rfl rfl rfl rfl ?_ | refine tri_seq ?_ | refine tri_then ?_ | refine tri_region ?_ | refine tri_nil ?_ | refine tri_skip ?_ | refine tri_ret ?_ | refine tri_exit ?_ | refine tri_thenr ?_ | refine tri_thene ?_ | refine tri_blkn ?_ | refine tri_blkr ?_ | refine tri_blke ?_ | refine tri_blko (by rfl) ?_ | refine tri_if_t (by rfl) ?_ | refine tri_if_f (by rfl) ?_ | fail))
      refine au_done1 rfl ?_
      intro w hw; exact ⟨(), rfl, hw.sub (by repeat (first | exact List.Sublist.refl _ | assumption | apply List.Sublist.cons_cons | apply List.Sublist.cons))⟩
    obtain ⟨e, rfl⟩ : ∃ e, d = e + 1 := ⟨d - 1, by omega⟩
    obtain ⟨r, hr⟩ : ∃ r, r = l.getD i default := ⟨_, rfl⟩
    have hM : bestM l f (e + 1) i K = if r ∈ K then bestM l f e (i + 1) K else if K.length < f then 1 + bestM l f e (i + 1) (K ++ [r]) else bestF l f e i K K.length := by rw [hr]; rfl
    (repeat (first | refine au_pure ?_ | refine au_pass ?_ | refine au_box (fun _ => ?_) | refine au_alloc (fun _ => ?_) | refine au_store ?_ | refine au_make rfl rfl (fun _ => ?_) | refine au_lit rfl rfl rfl (fun _ => ?_) | refine au_append rfl rfl rfl rfl (fun _ => au_norm ?_) | refine au_storeE rfl rfl rfl rfl ?_ | refine tri_seq ?_ | refine tri_then ?_ | refine tri_region ?_ | refine tri_nil ?_ | refine tri_skip ?_ | refine tri_ret ?_ | refine tri_exit ?_ | refine tri_thenr ?_ | refine tri_thene ?_ | refine tri_blkn ?_ | refine tri_blkr ?_ | refine tri_blke ?_ | refine tri_blko (by rfl) ?_ | refine tri_if_t (by rfl) ?_ | refine tri_if_f (by rfl) ?_ | fail))
    refine tri_block ?_
    refine tri_loop1 (fun (j : Nat) => j ≤ K.length ∧ ∀ a, a < j → ¬ K.getD a default = r) (fun j => [(0, v), (1, .int .i64 (i : Int)), (2, kv), (3, .int .i64 (f : Int)), (8, .int .i64 0), (18, kv), (19, .int .i64 (K.length : Int)), (20, .int .i64 (j : Int))]) (fun _ => Hp w0 cs) (fun j => K.length - j)
      0 ⟨by omega, fun j hj => by omega⟩ (by repeat (first | exact trivial | refine ⟨rfl, ?_⟩)) (fun _ h => h) ?_
    rintro j ⟨hj, hno⟩
    (repeat (first | refine au_pure ?_ | refine au_pass ?_ | refine au_box (fun _ => ?_) | refine au_alloc (fun _ => ?_) | refine au_store ?_ | refine au_make rfl rfl (fun _ => ?_) | refine au_lit rfl rfl rfl (fun _ => ?_) | refine au_append rfl rfl rfl rfl (fun _ => au_norm ?_) | refine au_storeE rfl rfl rfl rfl ?_ | refine tri_seq ?_ | refine tri_then ?_ | refine tri_region ?_ | refine tri_nil ?_ | refine tri_skip ?_ | refine tri_ret ?_ | refine tri_exit ?_ | refine tri_thenr ?_ | refine tri_thene ?_ | refine tri_blkn ?_ | refine tri_blkr ?_ | refine tri_blke ?_ | refine tri_blko (by rfl) ?_ | refine tri_if_t (by rfl) ?_ | refine tri_if_f (by rfl) ?_ | fail))
    ((first | refine tri_cond (by rfl) (fun hc => ?_) (fun hc => ?_) | refine tri_gsplit (by rfl) (by rfl) (by (fail_if_success exact (rfl : _ = some (Value.bool true))); (fail_if_success exact (rfl : _ = some (Value.bool false))); rfl) (fun hc => ?_) (fun hc => ?_)) <;> (try simp only [decide_eq_true_eq, decide_eq_false_iff_not, beq_iff_eq, bne_iff_ne, ne_eq, Bool.not_eq_true', Bool.not_eq_false', beq_eq_false_iff_ne, bne_eq_false_iff_eq, Int.not_lt, Int.not_le, gt_iff_lt, ge_iff_le, Bool.and_eq_true, Bool.or_eq_true, Bool.and_eq_false_iff, Bool.or_eq_false_iff, Decidable.not_not, not_true_eq_false, not_false_eq_true, and_true, true_and, or_false, false_or, or_true, true_or, and_false, false_and, eq_self, Bool.true_eq_false, Bool.false_eq_true] at hc) <;> (try (exfalso; omega)))
    · (repeat (first | refine au_pure ?_ | refine au_pass ?_ | refine au_box (fun _ => ?_) | refine au_alloc (fun _ => ?_) | refine au_store ?_ | refine au_make rfl rfl (fun _ => ?_) | refine au_lit rfl rfl rfl (fun _ => ?_) | refine au_append rfl rfl rfl rfl (fun _ => au_norm ?_) | refine au_storeE rfl rfl rfl rfl ?_ | refine tri_seq ?_ | refine tri_then ?_ | refine tri_region ?_ | refine tri_nil ?_ | refine tri_skip ?_ | refine tri_ret ?_ | refine tri_exit ?_ | refine tri_thenr ?_ | refine tri_thene ?_ | refine tri_blkn ?_ | refine tri_blkr ?_ | refine tri_blke ?_ | refine tri_blko (by rfl) ?_ | refine tri_if_t (by rfl) ?_ | refine tri_if_f (by rfl) ?_ | fail))
      refine tri_block ?_
      (repeat (first | refine au_pure ?_ | refine au_pass ?_ | refine au_box (fun _ => ?_) | refine au_alloc (fun _ => ?_) | refine au_store ?_ | refine au_make rfl rfl (fun _ => ?_) | refine au_lit rfl rfl rfl (fun _ => ?_) | refine au_append rfl rfl rfl rfl (fun _ => au_norm ?_) | refine au_storeE rfl rfl rfl rfl ?_ | refine tri_seq ?_ | refine tri_then ?_ | refine tri_region ?_ | refine tri_nil ?_ | refine tri_skip ?_ | refine tri_ret ?_ | refine tri_exit ?_ | refine tri_thenr ?_ | refine tri_thene ?_ | refine tri_blkn ?_ | refine tri_blkr ?_ | refine tri_blke ?_ | refine tri_blko (by rfl) ?_ | refine tri_if_t (by rfl) ?_ | refine tri_if_f (by rfl) ?_ | fail))
      rw [← hr]
      ((first | refine tri_cond (by rfl) (fun hc => ?_) (fun hc => ?_) | refine tri_gsplit (by rfl) (by rfl) (by (fail_if_success exact (rfl : _ = some (Value.bool true))); (fail_if_success exact (rfl : _ = some (Value.bool false))); rfl) (fun hc => ?_) (fun hc => ?_)) <;> (try simp only [decide_eq_true_eq, decide_eq_false_iff_not, beq_iff_eq, bne_iff_ne, ne_eq, Bool.not_eq_true', Bool.not_eq_false', beq_eq_false_iff_ne, bne_eq_false_iff_eq, Int.not_lt, Int.not_le, gt_iff_lt, ge_iff_le, Bool.and_eq_true, Bool.or_eq_true, Bool.and_eq_false_iff, Bool.or_eq_false_iff, Decidable.not_not, not_true_eq_false, not_false_eq_true, and_true, true_and, or_false, false_or, or_true, true_or, and_false, false_and, eq_self, Bool.true_eq_false, Bool.false_eq_true] at hc) <;> (try (exfalso; omega)))
      · have hin : r ∈ K := by
          have : K.getD j default = r := by assumption
          rw [← this, getD_get (by omega)]
          exact List.getElem_mem _
        rw [if_pos hin] at hM
        (repeat (first | refine au_pure ?_ | refine au_pass ?_ | refine au_box (fun _ => ?_) | refine au_alloc (fun _ => ?_) | refine au_store ?_ | refine au_make rfl rfl (fun _ => ?_) | refine au_lit rfl rfl rfl (fun _ => ?_) | refine au_append rfl rfl rfl rfl (fun _ => au_norm ?_) | refine au_storeE rfl rfl rfl rfl ?_ | refine tri_seq ?_ | refine tri_then ?_ | refine tri_region ?_ | refine tri_nil ?_ | refine tri_skip ?_ | refine tri_ret ?_ | refine tri_exit ?_ | refine tri_thenr ?_ | refine tri_thene ?_ | refine tri_blkn ?_ | refine tri_blkr ?_ | refine tri_blke ?_ | refine tri_blko (by rfl) ?_ | refine tri_if_t (by rfl) ?_ | refine tri_if_f (by rfl) ?_ | fail))
        refine au_callC rfl rfl rfl rfl rfl (best_c hf hlen e (i + 1) cs v kv K (by omega) (by omega) hK hR hRK) (fun _ => ?_)
        rw [← hM]
        (repeat (first | refine au_pure ?_ | refine au_pass ?_ | refine au_box (fun _ => ?_) | refine au_alloc (fun _ => ?_) | refine au_store ?_ | refine au_make rfl rfl (fun _ => ?_) | refine au_lit rfl rfl rfl (fun _ => ?_) | refine au_append rfl rfl rfl rfl (fun _ => au_norm ?_) | refine au_storeE rfl rfl rfl rfl ?_ | refine tri_seq ?_ | refine tri_then ?_ | refine tri_region ?_ | refine tri_nil ?_ | refine tri_skip ?_ | refine tri_ret ?_ | refine tri_exit ?_ | refine tri_thenr ?_ | refine tri_thene ?_ | refine tri_blkn ?_ | refine tri_blkr ?_ | refine tri_blke ?_ | refine tri_blko (by rfl) ?_ | refine tri_if_t (by rfl) ?_ | refine tri_if_f (by rfl) ?_ | fail))
        refine au_done1 rfl ?_
        intro w hw; exact ⟨(), rfl, hw.sub (by repeat (first | exact List.Sublist.refl _ | assumption | apply List.Sublist.cons_cons | apply List.Sublist.cons))⟩
      · (repeat (first | refine au_pure ?_ | refine au_pass ?_ | refine au_box (fun _ => ?_) | refine au_alloc (fun _ => ?_) | refine au_store ?_ | refine au_make rfl rfl (fun _ => ?_) | refine au_lit rfl rfl rfl (fun _ => ?_) | refine au_append rfl rfl rfl rfl (fun _ => au_norm ?_) | refine au_storeE rfl rfl rfl rfl ?_ | refine tri_seq ?_ | refine tri_then ?_ | refine tri_region ?_ | refine tri_nil ?_ | refine tri_skip ?_ | refine tri_ret ?_ | refine tri_exit ?_ | refine tri_thenr ?_ | refine tri_thene ?_ | refine tri_blkn ?_ | refine tri_blkr ?_ | refine tri_blke ?_ | refine tri_blko (by rfl) ?_ | refine tri_if_t (by rfl) ?_ | refine tri_if_f (by rfl) ?_ | fail))
        exact tri_nx1 (j + 1) (by omega) ⟨by omega, all_next hno (by assumption)⟩ (by repeat (first | exact trivial | refine ⟨rfl, ?_⟩)) (fun _ h => h)
    have hnin : r ∉ K := fun h => by
      obtain ⟨a, ha, e⟩ := List.getElem_of_mem h
      exact hno a (by omega) (by rw [getD_get ha]; exact e)
    rw [if_neg hnin] at hM
    (repeat (first | refine au_pure ?_ | refine au_pass ?_ | refine au_box (fun _ => ?_) | refine au_alloc (fun _ => ?_) | refine au_store ?_ | refine au_make rfl rfl (fun _ => ?_) | refine au_lit rfl rfl rfl (fun _ => ?_) | refine au_append rfl rfl rfl rfl (fun _ => au_norm ?_) | refine au_storeE rfl rfl rfl rfl ?_ | refine tri_seq ?_ | refine tri_then ?_ | refine tri_region ?_ | refine tri_nil ?_ | refine tri_skip ?_ | refine tri_ret ?_ | refine tri_exit ?_ | refine tri_thenr ?_ | refine tri_thene ?_ | refine tri_blkn ?_ | refine tri_blkr ?_ | refine tri_blke ?_ | refine tri_blko (by rfl) ?_ | refine tri_if_t (by rfl) ?_ | refine tri_if_f (by rfl) ?_ | fail))
    ((first | refine tri_cond (by rfl) (fun hc => ?_) (fun hc => ?_) | refine tri_gsplit (by rfl) (by rfl) (by (fail_if_success exact (rfl : _ = some (Value.bool true))); (fail_if_success exact (rfl : _ = some (Value.bool false))); rfl) (fun hc => ?_) (fun hc => ?_)) <;> (try simp only [decide_eq_true_eq, decide_eq_false_iff_not, beq_iff_eq, bne_iff_ne, ne_eq, Bool.not_eq_true', Bool.not_eq_false', beq_eq_false_iff_ne, bne_eq_false_iff_eq, Int.not_lt, Int.not_le, gt_iff_lt, ge_iff_le, Bool.and_eq_true, Bool.or_eq_true, Bool.and_eq_false_iff, Bool.or_eq_false_iff, Decidable.not_not, not_true_eq_false, not_false_eq_true, and_true, true_and, or_false, false_or, or_true, true_or, and_false, false_and, eq_self, Bool.true_eq_false, Bool.false_eq_true] at hc) <;> (try (exfalso; omega)))
    · have hlt : K.length < f := by omega
      rw [if_pos hlt] at hM
      have hM1 := hMle e (i + 1) (K ++ [r])
      (repeat (first | refine au_pure ?_ | refine au_pass ?_ | refine au_box (fun _ => ?_) | refine au_alloc (fun _ => ?_) | refine au_store ?_ | refine au_make rfl rfl (fun _ => ?_) | refine au_lit rfl rfl rfl (fun _ => ?_) | refine au_append rfl rfl rfl rfl (fun _ => au_norm ?_) | refine au_storeE rfl rfl rfl rfl ?_ | refine tri_seq ?_ | refine tri_then ?_ | refine tri_region ?_ | refine tri_nil ?_ | refine tri_skip ?_ | refine tri_ret ?_ | refine tri_exit ?_ | refine tri_thenr ?_ | refine tri_thene ?_ | refine tri_blkn ?_ | refine tri_blkr ?_ | refine tri_blke ?_ | refine tri_blko (by rfl) ?_ | refine tri_if_t (by rfl) ?_ | refine tri_if_f (by rfl) ?_ | fail))
      refine tri_cut1 (fun m : Nat => m = 1 + bestM l f e (i + 1) (K ++ [r])) (fun m => [(8, .int .i64 (m : Int))]) (fun _ => Hp w0 cs) ?_ ?_
      · refine tri_held (Hp w0 cs) rfl ?_
        refine ap_take 0 rfl rfl rfl ?_; refine ap_take 1 rfl rfl rfl ?_; refine ap_take 2 rfl rfl rfl ?_
        refine ap_take 4 rfl rfl rfl ?_
        refine ap_take 6 rfl rfl rfl ?_; refine ap_take 7 rfl rfl rfl ?_; refine ap_take 8 rfl rfl rfl ?_; refine ap_take 9 rfl rfl rfl ?_
        refine ap_take 12 rfl rfl rfl ?_
        rw [← hr]
        refine ap_op2 3 10 rfl rfl ?_ ?_
        · refine au_lit rfl rfl rfl (fun _ => ?_)
          refine tri_nil ?_
          refine ap_in ?_
          refine ap_op2 5 10 rfl rfl ?_ ?_
          · refine au_append rfl rfl rfl rfl (fun _ => au_norm ?_)
            refine tri_nil ?_
            refine ap_in ?_
            refine ap_op 10 rfl ?_
            refine au_lit rfl rfl rfl (fun _ => ?_)
            refine tri_nil ?_
            refine ap_in ?_
            refine ap_op 11 rfl ?_
            refine au_append rfl rfl rfl rfl (fun _ => au_norm ?_)
            refine tri_nil ?_
            refine ap_in ?_
            rename_i rx
            simp only [lit1', List.nil_append]
            refine ap_weak (intS rx (K ++ [r]) :: cs) (by repeat (first | exact List.Sublist.refl _ | assumption | apply List.Sublist.cons_cons | apply List.Sublist.cons)) ?_
            refine ap_op 13 rfl ?_
            refine au_callC rfl rfl rfl rfl rfl (best_c hf hlen e (i + 1) (intS rx (K ++ [r]) :: cs) v rx.v (K ++ [r]) (by omega) (by omega) (by simp; omega) (by repeat (first | assumption | exact rd_chunk (by first | (apply has_at; (repeat (first | exact at0 | apply atS)); done) | (repeat (first | assumption | apply has_cons))) | apply RdH.cons | refine RdH.cut ?_ rfl (by omega) (by omega))) (by repeat (first | assumption | exact rd_chunk (by first | (apply has_at; (repeat (first | exact at0 | apply atS)); done) | (repeat (first | assumption | apply has_cons))) | apply RdH.cons | refine RdH.cut ?_ rfl (by omega) (by omega)))) (fun _ => ?_)
            refine tri_nil ?_
            refine ap_in ?_
            refine ap_take 14 rfl rfl rfl ?_; refine ap_take 15 rfl rfl rfl ?_
            refine ap_done ?_
            (repeat (first | refine au_pure ?_ | refine au_pass ?_ | refine au_box (fun _ => ?_) | refine au_alloc (fun _ => ?_) | refine au_store ?_ | refine au_make rfl rfl (fun _ => ?_) | refine au_lit rfl rfl rfl (fun _ => ?_) | refine au_append rfl rfl rfl rfl (fun _ => au_norm ?_) | refine au_storeE rfl rfl rfl rfl ?_ | refine tri_seq ?_ | refine tri_then ?_ | refine tri_region ?_ | refine tri_nil ?_ | refine tri_skip ?_ | refine tri_ret ?_ | refine tri_exit ?_ | refine tri_thenr ?_ | refine tri_thene ?_ | refine tri_blkn ?_ | refine tri_blkr ?_ | refine tri_blke ?_ | refine tri_blko (by rfl) ?_ | refine tri_if_t (by rfl) ?_ | refine tri_if_f (by rfl) ?_ | fail))
            exact tri_mt1 (1 + bestM l f e (i + 1) (K ++ [r])) rfl (by repeat (first | exact trivial | refine ⟨rfl, ?_⟩)) (fun _ h => h.sub (by repeat (first | exact List.Sublist.refl _ | assumption | apply List.Sublist.cons_cons | apply List.Sublist.cons)))
          · refine au_lit rfl rfl rfl (fun _ => ?_)
            refine tri_nil ?_
            refine ap_in ?_
            refine ap_op 5 rfl ?_
            refine au_append rfl rfl rfl rfl (fun _ => au_norm ?_)
            refine tri_nil ?_
            refine ap_in ?_
            refine ap_op 11 rfl ?_
            refine au_append rfl rfl rfl rfl (fun _ => au_norm ?_)
            refine tri_nil ?_
            refine ap_in ?_
            rename_i rx
            simp only [lit1', List.nil_append]
            refine ap_weak (intS rx (K ++ [r]) :: cs) (by repeat (first | exact List.Sublist.refl _ | assumption | apply List.Sublist.cons_cons | apply List.Sublist.cons)) ?_
            refine ap_op 13 rfl ?_
            refine au_callC rfl rfl rfl rfl rfl (best_c hf hlen e (i + 1) (intS rx (K ++ [r]) :: cs) v rx.v (K ++ [r]) (by omega) (by omega) (by simp; omega) (by repeat (first | assumption | exact rd_chunk (by first | (apply has_at; (repeat (first | exact at0 | apply atS)); done) | (repeat (first | assumption | apply has_cons))) | apply RdH.cons | refine RdH.cut ?_ rfl (by omega) (by omega))) (by repeat (first | assumption | exact rd_chunk (by first | (apply has_at; (repeat (first | exact at0 | apply atS)); done) | (repeat (first | assumption | apply has_cons))) | apply RdH.cons | refine RdH.cut ?_ rfl (by omega) (by omega)))) (fun _ => ?_)
            refine tri_nil ?_
            refine ap_in ?_
            refine ap_take 14 rfl rfl rfl ?_; refine ap_take 15 rfl rfl rfl ?_
            refine ap_done ?_
            (repeat (first | refine au_pure ?_ | refine au_pass ?_ | refine au_box (fun _ => ?_) | refine au_alloc (fun _ => ?_) | refine au_store ?_ | refine au_make rfl rfl (fun _ => ?_) | refine au_lit rfl rfl rfl (fun _ => ?_) | refine au_append rfl rfl rfl rfl (fun _ => au_norm ?_) | refine au_storeE rfl rfl rfl rfl ?_ | refine tri_seq ?_ | refine tri_then ?_ | refine tri_region ?_ | refine tri_nil ?_ | refine tri_skip ?_ | refine tri_ret ?_ | refine tri_exit ?_ | refine tri_thenr ?_ | refine tri_thene ?_ | refine tri_blkn ?_ | refine tri_blkr ?_ | refine tri_blke ?_ | refine tri_blko (by rfl) ?_ | refine tri_if_t (by rfl) ?_ | refine tri_if_f (by rfl) ?_ | fail))
            exact tri_mt1 (1 + bestM l f e (i + 1) (K ++ [r])) rfl (by repeat (first | exact trivial | refine ⟨rfl, ?_⟩)) (fun _ h => h.sub (by repeat (first | exact List.Sublist.refl _ | assumption | apply List.Sublist.cons_cons | apply List.Sublist.cons)))
        · refine au_lit rfl rfl rfl (fun _ => ?_)
          refine tri_nil ?_
          refine ap_in ?_
          refine ap_op 3 rfl ?_
          refine au_lit rfl rfl rfl (fun _ => ?_)
          refine tri_nil ?_
          refine ap_in ?_
          refine ap_op 5 rfl ?_
          refine au_append rfl rfl rfl rfl (fun _ => au_norm ?_)
          refine tri_nil ?_
          refine ap_in ?_
          refine ap_op 11 rfl ?_
          refine au_append rfl rfl rfl rfl (fun _ => au_norm ?_)
          refine tri_nil ?_
          refine ap_in ?_
          rename_i rx
          simp only [lit1', List.nil_append]
          refine ap_weak (intS rx (K ++ [r]) :: cs) (by repeat (first | exact List.Sublist.refl _ | assumption | apply List.Sublist.cons_cons | apply List.Sublist.cons)) ?_
          refine ap_op 13 rfl ?_
          refine au_callC rfl rfl rfl rfl rfl (best_c hf hlen e (i + 1) (intS rx (K ++ [r]) :: cs) v rx.v (K ++ [r]) (by omega) (by omega) (by simp; omega) (by repeat (first | assumption | exact rd_chunk (by first | (apply has_at; (repeat (first | exact at0 | apply atS)); done) | (repeat (first | assumption | apply has_cons))) | apply RdH.cons | refine RdH.cut ?_ rfl (by omega) (by omega))) (by repeat (first | assumption | exact rd_chunk (by first | (apply has_at; (repeat (first | exact at0 | apply atS)); done) | (repeat (first | assumption | apply has_cons))) | apply RdH.cons | refine RdH.cut ?_ rfl (by omega) (by omega)))) (fun _ => ?_)
          refine tri_nil ?_
          refine ap_in ?_
          refine ap_take 14 rfl rfl rfl ?_; refine ap_take 15 rfl rfl rfl ?_
          refine ap_done ?_
          (repeat (first | refine au_pure ?_ | refine au_pass ?_ | refine au_box (fun _ => ?_) | refine au_alloc (fun _ => ?_) | refine au_store ?_ | refine au_make rfl rfl (fun _ => ?_) | refine au_lit rfl rfl rfl (fun _ => ?_) | refine au_append rfl rfl rfl rfl (fun _ => au_norm ?_) | refine au_storeE rfl rfl rfl rfl ?_ | refine tri_seq ?_ | refine tri_then ?_ | refine tri_region ?_ | refine tri_nil ?_ | refine tri_skip ?_ | refine tri_ret ?_ | refine tri_exit ?_ | refine tri_thenr ?_ | refine tri_thene ?_ | refine tri_blkn ?_ | refine tri_blkr ?_ | refine tri_blke ?_ | refine tri_blko (by rfl) ?_ | refine tri_if_t (by rfl) ?_ | refine tri_if_f (by rfl) ?_ | fail))
          exact tri_mt1 (1 + bestM l f e (i + 1) (K ++ [r])) rfl (by repeat (first | exact trivial | refine ⟨rfl, ?_⟩)) (fun _ h => h.sub (by repeat (first | exact List.Sublist.refl _ | assumption | apply List.Sublist.cons_cons | apply List.Sublist.cons)))
      intro m hm
      rw [← hm] at hM
      (repeat (first | refine au_pure ?_ | refine au_pass ?_ | refine au_box (fun _ => ?_) | refine au_alloc (fun _ => ?_) | refine au_store ?_ | refine au_make rfl rfl (fun _ => ?_) | refine au_lit rfl rfl rfl (fun _ => ?_) | refine au_append rfl rfl rfl rfl (fun _ => au_norm ?_) | refine au_storeE rfl rfl rfl rfl ?_ | refine tri_seq ?_ | refine tri_then ?_ | refine tri_region ?_ | refine tri_nil ?_ | refine tri_skip ?_ | refine tri_ret ?_ | refine tri_exit ?_ | refine tri_thenr ?_ | refine tri_thene ?_ | refine tri_blkn ?_ | refine tri_blkr ?_ | refine tri_blke ?_ | refine tri_blko (by rfl) ?_ | refine tri_if_t (by rfl) ?_ | refine tri_if_f (by rfl) ?_ | fail))
      refine au_done1 rfl ?_
      intro w hw
      exact ⟨(), by rw [hM], hw⟩
    rw [if_neg (by omega)] at hM
    (repeat (first | refine au_pure ?_ | refine au_pass ?_ | refine au_box (fun _ => ?_) | refine au_alloc (fun _ => ?_) | refine au_store ?_ | refine au_make rfl rfl (fun _ => ?_) | refine au_lit rfl rfl rfl (fun _ => ?_) | refine au_append rfl rfl rfl rfl (fun _ => au_norm ?_) | refine au_storeE rfl rfl rfl rfl ?_ | refine tri_seq ?_ | refine tri_then ?_ | refine tri_region ?_ | refine tri_nil ?_ | refine tri_skip ?_ | refine tri_ret ?_ | refine tri_exit ?_ | refine tri_thenr ?_ | refine tri_thene ?_ | refine tri_blkn ?_ | refine tri_blkr ?_ | refine tri_blke ?_ | refine tri_blko (by rfl) ?_ | refine tri_if_t (by rfl) ?_ | refine tri_if_f (by rfl) ?_ | fail))
    refine tri_block ?_
    refine tri_loop1 (fun (j : Nat) => j ≤ K.length) (fun j => [(0, v), (1, .int .i64 (i : Int)), (2, kv), (3, .int .i64 (f : Int)), (8, .int .i64 0), (11, .int .i64 (bestF l f e i K j : Nat)), (58, kv), (59, .int .i64 (K.length : Int)), (60, .int .i64 (j : Int))]) (fun _ => Hp w0 cs) (fun j => K.length - j)
      0 (by omega) (by repeat (first | exact trivial | refine ⟨rfl, ?_⟩)) (fun _ h => h) ?_
    intro j hj
    have hFl := bestF_le l f e i K j
    (repeat (first | refine au_pure ?_ | refine au_pass ?_ | refine au_box (fun _ => ?_) | refine au_alloc (fun _ => ?_) | refine au_store ?_ | refine au_make rfl rfl (fun _ => ?_) | refine au_lit rfl rfl rfl (fun _ => ?_) | refine au_append rfl rfl rfl rfl (fun _ => au_norm ?_) | refine au_storeE rfl rfl rfl rfl ?_ | refine tri_seq ?_ | refine tri_then ?_ | refine tri_region ?_ | refine tri_nil ?_ | refine tri_skip ?_ | refine tri_ret ?_ | refine tri_exit ?_ | refine tri_thenr ?_ | refine tri_thene ?_ | refine tri_blkn ?_ | refine tri_blkr ?_ | refine tri_blke ?_ | refine tri_blko (by rfl) ?_ | refine tri_if_t (by rfl) ?_ | refine tri_if_f (by rfl) ?_ | fail))
    ((first | refine tri_cond (by rfl) (fun hc => ?_) (fun hc => ?_) | refine tri_gsplit (by rfl) (by rfl) (by (fail_if_success exact (rfl : _ = some (Value.bool true))); (fail_if_success exact (rfl : _ = some (Value.bool false))); rfl) (fun hc => ?_) (fun hc => ?_)) <;> (try simp only [decide_eq_true_eq, decide_eq_false_iff_not, beq_iff_eq, bne_iff_ne, ne_eq, Bool.not_eq_true', Bool.not_eq_false', beq_eq_false_iff_ne, bne_eq_false_iff_eq, Int.not_lt, Int.not_le, gt_iff_lt, ge_iff_le, Bool.and_eq_true, Bool.or_eq_true, Bool.and_eq_false_iff, Bool.or_eq_false_iff, Decidable.not_not, not_true_eq_false, not_false_eq_true, and_true, true_and, or_false, false_or, or_true, true_or, and_false, false_and, eq_self, Bool.true_eq_false, Bool.false_eq_true] at hc) <;> (try (exfalso; omega)))
    · (repeat (first | refine au_pure ?_ | refine au_pass ?_ | refine au_box (fun _ => ?_) | refine au_alloc (fun _ => ?_) | refine au_store ?_ | refine au_make rfl rfl (fun _ => ?_) | refine au_lit rfl rfl rfl (fun _ => ?_) | refine au_append rfl rfl rfl rfl (fun _ => au_norm ?_) | refine au_storeE rfl rfl rfl rfl ?_ | refine tri_seq ?_ | refine tri_then ?_ | refine tri_region ?_ | refine tri_nil ?_ | refine tri_skip ?_ | refine tri_ret ?_ | refine tri_exit ?_ | refine tri_thenr ?_ | refine tri_thene ?_ | refine tri_blkn ?_ | refine tri_blkr ?_ | refine tri_blke ?_ | refine tri_blko (by rfl) ?_ | refine tri_if_t (by rfl) ?_ | refine tri_if_f (by rfl) ?_ | fail))
      refine tri_block ?_
      have hst := bestF_step l f e i K j
      have hM1 := hMle e (i + 1) (K.take j ++ K.drop (j + 1) ++ [r])
      rw [← hr] at hst
      have hc1 : RdH (Hp w0 cs) (cut kv 0 j 1) ((K.take j).drop 0) := hRK.cut rfl (by omega) (by omega)
      have hc2 : RdH (Hp w0 cs) (cut kv (j + 1) K.length 1) ((K.take K.length).drop (j + 1)) := hRK.cut rfl (by omega) (by omega)
      have hKd : (K.take j).length + (K.drop (j + 1)).length ≤ f := by rw [List.length_take, List.length_drop]; omega
      (repeat (first | refine au_pure ?_ | refine au_pass ?_ | refine au_box (fun _ => ?_) | refine au_alloc (fun _ => ?_) | refine au_store ?_ | refine au_make rfl rfl (fun _ => ?_) | refine au_lit rfl rfl rfl (fun _ => ?_) | refine au_append rfl rfl rfl rfl (fun _ => au_norm ?_) | refine au_storeE rfl rfl rfl rfl ?_ | refine tri_seq ?_ | refine tri_then ?_ | refine tri_region ?_ | refine tri_nil ?_ | refine tri_skip ?_ | refine tri_ret ?_ | refine tri_exit ?_ | refine tri_thenr ?_ | refine tri_thene ?_ | refine tri_blkn ?_ | refine tri_blkr ?_ | refine tri_blke ?_ | refine tri_blko (by rfl) ?_ | refine tri_if_t (by rfl) ?_ | refine tri_if_f (by rfl) ?_ | fail))
      refine tri_cut1 (fun r' : Row => True) (fun r' => [(0, v), (1, .int .i64 (i : Int)), (2, kv), (3, .int .i64 (f : Int)), (8, .int .i64 0), (11, .int .i64 (bestF l f e i K j : Nat)), (12, .int .i64 (j : Int)), (13, r'.v), (58, kv), (59, .int .i64 (K.length : Int)), (60, .int .i64 (j : Int))]) (fun r' => Hp w0 (intS r' (K.take j ++ K.drop (j + 1)) :: cs)) ?_ ?_
      · refine tri_held (Hp w0 cs) rfl ?_
        refine ap_take 1 rfl rfl rfl ?_; refine ap_take 2 rfl rfl rfl ?_
        refine ap_take 3 rfl rfl rfl ?_ (hy := yl_cut (a := 0) (b := j) rfl rfl hRK ixo_none (ixo_some (ix_nat rfl)) (by omega) (by omega))
        refine ap_take 5 rfl rfl rfl ?_; refine ap_take 6 rfl rfl rfl ?_; refine ap_take 7 rfl rfl rfl ?_
        refine ap_take 8 rfl rfl rfl ?_ (hy := yl_cut (a := j + 1) (b := K.length) rfl rfl hRK (ixo_some (ix_nat rfl)) ixo_none (by omega) (Nat.le_refl _))
        refine ap_op 0 rfl ?_
        refine au_lit rfl rfl rfl (fun _ => ?_)
        refine tri_nil ?_
        refine ap_in ?_
        refine ap_op 4 rfl ?_
        refine au_append rfl rfl rfl rfl (fun _ => au_norm ?_)
        refine tri_nil ?_
        refine ap_in ?_
        refine ap_op 9 rfl ?_
        refine au_append rfl rfl rfl rfl (fun _ => au_norm ?_)
        refine tri_nil ?_
        refine ap_in ?_
        rename_i rx
        refine ap_take 10 rfl rfl rfl ?_
        refine ap_done ?_
        have e1 : (K.take j).drop 0 ++ (K.take K.length).drop (j + 1) = K.take j ++ K.drop (j + 1) := by rw [List.drop_zero, List.take_length]
        simp only [List.nil_append, e1]
        (repeat (first | refine au_pure ?_ | refine au_pass ?_ | refine au_box (fun _ => ?_) | refine au_alloc (fun _ => ?_) | refine au_store ?_ | refine au_make rfl rfl (fun _ => ?_) | refine au_lit rfl rfl rfl (fun _ => ?_) | refine au_append rfl rfl rfl rfl (fun _ => au_norm ?_) | refine au_storeE rfl rfl rfl rfl ?_ | refine tri_seq ?_ | refine tri_then ?_ | refine tri_region ?_ | refine tri_nil ?_ | refine tri_skip ?_ | refine tri_ret ?_ | refine tri_exit ?_ | refine tri_thenr ?_ | refine tri_thene ?_ | refine tri_blkn ?_ | refine tri_blkr ?_ | refine tri_blke ?_ | refine tri_blko (by rfl) ?_ | refine tri_if_t (by rfl) ?_ | refine tri_if_f (by rfl) ?_ | fail))
        exact tri_mt1 rx trivial (by repeat (first | exact trivial | refine ⟨rfl, ?_⟩)) (fun _ h => h.sub (by repeat (first | exact List.Sublist.refl _ | assumption | apply List.Sublist.cons_cons | apply List.Sublist.cons)))
      rintro r' -
      (repeat (first | refine au_pure ?_ | refine au_pass ?_ | refine au_box (fun _ => ?_) | refine au_alloc (fun _ => ?_) | refine au_store ?_ | refine au_make rfl rfl (fun _ => ?_) | refine au_lit rfl rfl rfl (fun _ => ?_) | refine au_append rfl rfl rfl rfl (fun _ => au_norm ?_) | refine au_storeE rfl rfl rfl rfl ?_ | refine tri_seq ?_ | refine tri_then ?_ | refine tri_region ?_ | refine tri_nil ?_ | refine tri_skip ?_ | refine tri_ret ?_ | refine tri_exit ?_ | refine tri_thenr ?_ | refine tri_thene ?_ | refine tri_blkn ?_ | refine tri_blkr ?_ | refine tri_blke ?_ | refine tri_blko (by rfl) ?_ | refine tri_if_t (by rfl) ?_ | refine tri_if_f (by rfl) ?_ | fail))
      rw [← hr]
      rename_i rl r2
      simp only [lit1']
      refine tri_weak (H' := Hp w0 (intS r2 (K.take j ++ K.drop (j + 1) ++ [r]) :: cs)) (fun w h => h.sub (by repeat (first | exact List.Sublist.refl _ | assumption | apply List.Sublist.cons_cons | apply List.Sublist.cons))) ?_
      (repeat (first | refine au_pure ?_ | refine au_pass ?_ | refine au_box (fun _ => ?_) | refine au_alloc (fun _ => ?_) | refine au_store ?_ | refine au_make rfl rfl (fun _ => ?_) | refine au_lit rfl rfl rfl (fun _ => ?_) | refine au_append rfl rfl rfl rfl (fun _ => au_norm ?_) | refine au_storeE rfl rfl rfl rfl ?_ | refine tri_seq ?_ | refine tri_then ?_ | refine tri_region ?_ | refine tri_nil ?_ | refine tri_skip ?_ | refine tri_ret ?_ | refine tri_exit ?_ | refine tri_thenr ?_ | refine tri_thene ?_ | refine tri_blkn ?_ | refine tri_blkr ?_ | refine tri_blke ?_ | refine tri_blko (by rfl) ?_ | refine tri_if_t (by rfl) ?_ | refine tri_if_f (by rfl) ?_ | fail))
      refine au_callC rfl rfl rfl rfl rfl (best_c hf hlen e (i + 1) (intS r2 (K.take j ++ K.drop (j + 1) ++ [r]) :: cs) v r2.v (K.take j ++ K.drop (j + 1) ++ [r]) (by omega) (by omega) (by rw [List.length_append, List.length_append, List.length_take, List.length_drop, List.length_singleton]; omega) (by repeat (first | assumption | exact rd_chunk (by first | (apply has_at; (repeat (first | exact at0 | apply atS)); done) | (repeat (first | assumption | apply has_cons))) | apply RdH.cons | refine RdH.cut ?_ rfl (by omega) (by omega))) (by repeat (first | assumption | exact rd_chunk (by first | (apply has_at; (repeat (first | exact at0 | apply atS)); done) | (repeat (first | assumption | apply has_cons))) | apply RdH.cons | refine RdH.cut ?_ rfl (by omega) (by omega)))) (fun _ => ?_)
      (repeat (first | refine au_pure ?_ | refine au_pass ?_ | refine au_box (fun _ => ?_) | refine au_alloc (fun _ => ?_) | refine au_store ?_ | refine au_make rfl rfl (fun _ => ?_) | refine au_lit rfl rfl rfl (fun _ => ?_) | refine au_append rfl rfl rfl rfl (fun _ => au_norm ?_) | refine au_storeE rfl rfl rfl rfl ?_ | refine tri_seq ?_ | refine tri_then ?_ | refine tri_region ?_ | refine tri_nil ?_ | refine tri_skip ?_ | refine tri_ret ?_ | refine tri_exit ?_ | refine tri_thenr ?_ | refine tri_thene ?_ | refine tri_blkn ?_ | refine tri_blkr ?_ | refine tri_blke ?_ | refine tri_blko (by rfl) ?_ | refine tri_if_t (by rfl) ?_ | refine tri_if_f (by rfl) ?_ | fail))
      refine au_pure (hy := yl_min2 rfl rfl rfl) ?_
      have hmn : (if 1 + (bestM l f e (i + 1) (K.take j ++ K.drop (j + 1) ++ [r]) : Int) < (bestF l f e i K j : Int) then 1 + (bestM l f e (i + 1) (K.take j ++ K.drop (j + 1) ++ [r]) : Int) else (bestF l f e i K j : Int)) = (bestF l f e i K (j + 1) : Nat) := by
        rw [hst]
        split <;> omega
      rw [hmn]
      (repeat (first | refine au_pure ?_ | refine au_pass ?_ | refine au_box (fun _ => ?_) | refine au_alloc (fun _ => ?_) | refine au_store ?_ | refine au_make rfl rfl (fun _ => ?_) | refine au_lit rfl rfl rfl (fun _ => ?_) | refine au_append rfl rfl rfl rfl (fun _ => au_norm ?_) | refine au_storeE rfl rfl rfl rfl ?_ | refine tri_seq ?_ | refine tri_then ?_ | refine tri_region ?_ | refine tri_nil ?_ | refine tri_skip ?_ | refine tri_ret ?_ | refine tri_exit ?_ | refine tri_thenr ?_ | refine tri_thene ?_ | refine tri_blkn ?_ | refine tri_blkr ?_ | refine tri_blke ?_ | refine tri_blko (by rfl) ?_ | refine tri_if_t (by rfl) ?_ | refine tri_if_f (by rfl) ?_ | fail))
      exact tri_nx1 (j + 1) (by omega) (by omega) (by repeat (first | exact trivial | refine ⟨rfl, ?_⟩)) (fun _ h => h.sub (by repeat (first | exact List.Sublist.refl _ | assumption | apply List.Sublist.cons_cons | apply List.Sublist.cons)))
    · have hjl : j = K.length := by omega
      subst hjl
      (repeat (first | refine au_pure ?_ | refine au_pass ?_ | refine au_box (fun _ => ?_) | refine au_alloc (fun _ => ?_) | refine au_store ?_ | refine au_make rfl rfl (fun _ => ?_) | refine au_lit rfl rfl rfl (fun _ => ?_) | refine au_append rfl rfl rfl rfl (fun _ => au_norm ?_) | refine au_storeE rfl rfl rfl rfl ?_ | refine tri_seq ?_ | refine tri_then ?_ | refine tri_region ?_ | refine tri_nil ?_ | refine tri_skip ?_ | refine tri_ret ?_ | refine tri_exit ?_ | refine tri_thenr ?_ | refine tri_thene ?_ | refine tri_blkn ?_ | refine tri_blkr ?_ | refine tri_blke ?_ | refine tri_blko (by rfl) ?_ | refine tri_if_t (by rfl) ?_ | refine tri_if_f (by rfl) ?_ | fail))
      refine au_done1 rfl ?_
      intro w hw
      exact ⟨(), by rw [hM], hw⟩
set_option maxHeartbeats 4000000 in
theorem optimal_law {v : Value} {l : List Int} {m : Nat} (cs : List Chunk) (hm : m < 256) (hR : RdH (Hp w0 cs) v l) (hlen : l.length ≤ 9223372036854775807) :
    Cal Try.prog 8 [v, .int .u8 (m : Int)] (Hp w0 cs) (fun _ : Unit => .bool true) (fun _ => Hp w0 cs) := by
  refine cal_of_tri Try.func8 rfl Try.ntmps8 rfl ?_
  (repeat (first | refine au_pure ?_ | refine au_pass ?_ | refine au_box (fun _ => ?_) | refine au_alloc (fun _ => ?_) | refine au_store ?_ | refine au_make rfl rfl (fun _ => ?_) | refine au_lit rfl rfl rfl (fun _ => ?_) | refine au_append rfl rfl rfl rfl (fun _ => au_norm ?_) | refine au_storeE rfl rfl rfl rfl ?_ | refine tri_seq ?_ | refine tri_then ?_ | refine tri_region ?_ | refine tri_nil ?_ | refine tri_skip ?_ | refine tri_ret ?_ | refine tri_exit ?_ | refine tri_thenr ?_ | refine tri_thene ?_ | refine tri_blkn ?_ | refine tri_blkr ?_ | refine tri_blke ?_ | refine tri_blko (by rfl) ?_ | refine tri_if_t (by rfl) ?_ | refine tri_if_f (by rfl) ?_ | fail))
  refine au_callC rfl rfl rfl rfl rfl (awake_c w0 _) (fun _ => ?_)
  (repeat (first | refine au_pure ?_ | refine au_pass ?_ | refine au_box (fun _ => ?_) | refine au_alloc (fun _ => ?_) | refine au_store ?_ | refine au_make rfl rfl (fun _ => ?_) | refine au_lit rfl rfl rfl (fun _ => ?_) | refine au_append rfl rfl rfl rfl (fun _ => au_norm ?_) | refine au_storeE rfl rfl rfl rfl ?_ | refine tri_seq ?_ | refine tri_then ?_ | refine tri_region ?_ | refine tri_nil ?_ | refine tri_skip ?_ | refine tri_ret ?_ | refine tri_exit ?_ | refine tri_thenr ?_ | refine tri_thene ?_ | refine tri_blkn ?_ | refine tri_blkr ?_ | refine tri_blke ?_ | refine tri_blko (by rfl) ?_ | refine tri_if_t (by rfl) ?_ | refine tri_if_f (by rfl) ?_ | fail))
  ((first | refine tri_cond (by rfl) (fun hc => ?_) (fun hc => ?_) | refine tri_gsplit (by rfl) (by rfl) (by (fail_if_success exact (rfl : _ = some (Value.bool true))); (fail_if_success exact (rfl : _ = some (Value.bool false))); rfl) (fun hc => ?_) (fun hc => ?_)) <;> (try simp only [decide_eq_true_eq, decide_eq_false_iff_not, beq_iff_eq, bne_iff_ne, ne_eq, Bool.not_eq_true', Bool.not_eq_false', beq_eq_false_iff_ne, bne_eq_false_iff_eq, Int.not_lt, Int.not_le, gt_iff_lt, ge_iff_le, Bool.and_eq_true, Bool.or_eq_true, Bool.and_eq_false_iff, Bool.or_eq_false_iff, Decidable.not_not, not_true_eq_false, not_false_eq_true, and_true, true_and, or_false, false_or, or_true, true_or, and_false, false_and, eq_self, Bool.true_eq_false, Bool.false_eq_true] at hc) <;> (try (exfalso; omega)))
  · (repeat (first | refine au_pure ?_ | refine au_pass ?_ | refine au_box (fun _ => ?_) | refine au_alloc (fun _ => ?_) | refine au_store ?_ | refine au_make rfl rfl (fun _ => ?_) | refine au_lit rfl rfl rfl (fun _ => ?_) | refine au_append rfl rfl rfl rfl (fun _ => au_norm ?_) | refine au_storeE rfl rfl rfl rfl ?_ | refine tri_seq ?_ | refine tri_then ?_ | refine tri_region ?_ | refine tri_nil ?_ | refine tri_skip ?_ | refine tri_ret ?_ | refine tri_exit ?_ | refine tri_thenr ?_ | refine tri_thene ?_ | refine tri_blkn ?_ | refine tri_blkr ?_ | refine tri_blke ?_ | refine tri_blko (by rfl) ?_ | refine tri_if_t (by rfl) ?_ | refine tri_if_f (by rfl) ?_ | fail))
    refine au_callC rfl rfl rfl rfl rfl (awake_c w0 _) (fun _ => ?_)
    (repeat (first | refine au_pure ?_ | refine au_pass ?_ | refine au_box (fun _ => ?_) | refine au_alloc (fun _ => ?_) | refine au_store ?_ | refine au_make rfl rfl (fun _ => ?_) | refine au_lit rfl rfl rfl (fun _ => ?_) | refine au_append rfl rfl rfl rfl (fun _ => au_norm ?_) | refine au_storeE rfl rfl rfl rfl ?_ | refine tri_seq ?_ | refine tri_then ?_ | refine tri_region ?_ | refine tri_nil ?_ | refine tri_skip ?_ | refine tri_ret ?_ | refine tri_exit ?_ | refine tri_thenr ?_ | refine tri_thene ?_ | refine tri_blkn ?_ | refine tri_blkr ?_ | refine tri_blke ?_ | refine tri_blko (by rfl) ?_ | refine tri_if_t (by rfl) ?_ | refine tri_if_f (by rfl) ?_ | fail))
    refine au_done1 rfl ?_
    intro w hw; exact ⟨(), rfl, hw.sub (by repeat (first | exact List.Sublist.refl _ | assumption | apply List.Sublist.cons_cons | apply List.Sublist.cons))⟩
  obtain ⟨f, hf⟩ : ∃ f, f = 1 + m % 3 := ⟨_, rfl⟩
  have he : reqE l.length (f : Int) = 0 := req_zero (by omega) (by omega) (by omega)
  have hbo := best_opt (refs := l) (f := f) (by omega)
  (repeat (first | refine au_pure ?_ | refine au_pass ?_ | refine au_box (fun _ => ?_) | refine au_alloc (fun _ => ?_) | refine au_store ?_ | refine au_make rfl rfl (fun _ => ?_) | refine au_lit rfl rfl rfl (fun _ => ?_) | refine au_append rfl rfl rfl rfl (fun _ => au_norm ?_) | refine au_storeE rfl rfl rfl rfl ?_ | refine tri_seq ?_ | refine tri_then ?_ | refine tri_region ?_ | refine tri_nil ?_ | refine tri_skip ?_ | refine tri_ret ?_ | refine tri_exit ?_ | refine tri_thenr ?_ | refine tri_thene ?_ | refine tri_blkn ?_ | refine tri_blkr ?_ | refine tri_blke ?_ | refine tri_blko (by rfl) ?_ | refine tri_if_t (by rfl) ?_ | refine tri_if_f (by rfl) ?_ | fail))
  rw [show 1 + (m : Int) % 3 = (f : Int) by omega]
  (repeat (first | refine au_pure ?_ | refine au_pass ?_ | refine au_box (fun _ => ?_) | refine au_alloc (fun _ => ?_) | refine au_store ?_ | refine au_make rfl rfl (fun _ => ?_) | refine au_lit rfl rfl rfl (fun _ => ?_) | refine au_append rfl rfl rfl rfl (fun _ => au_norm ?_) | refine au_storeE rfl rfl rfl rfl ?_ | refine tri_seq ?_ | refine tri_then ?_ | refine tri_region ?_ | refine tri_nil ?_ | refine tri_skip ?_ | refine tri_ret ?_ | refine tri_exit ?_ | refine tri_thenr ?_ | refine tri_thene ?_ | refine tri_blkn ?_ | refine tri_blkr ?_ | refine tri_blke ?_ | refine tri_blko (by rfl) ?_ | refine tri_if_t (by rfl) ?_ | refine tri_if_f (by rfl) ?_ | fail))
  refine au_callC rfl rfl rfl rfl rfl (optimal_c w0 _ (l := l) (f : Int) (by repeat (first | assumption | exact rd_chunk (by first | (apply has_at; (repeat (first | exact at0 | apply atS)); done) | (repeat (first | assumption | apply has_cons))) | apply RdH.cons | refine RdH.cut ?_ rfl (by omega) (by omega))) hlen) (fun _ => ?_)
  rw [he, if_pos rfl]
  (repeat (first | refine au_pure ?_ | refine au_pass ?_ | refine au_box (fun _ => ?_) | refine au_alloc (fun _ => ?_) | refine au_store ?_ | refine au_make rfl rfl (fun _ => ?_) | refine au_lit rfl rfl rfl (fun _ => ?_) | refine au_append rfl rfl rfl rfl (fun _ => au_norm ?_) | refine au_storeE rfl rfl rfl rfl ?_ | refine tri_seq ?_ | refine tri_then ?_ | refine tri_region ?_ | refine tri_nil ?_ | refine tri_skip ?_ | refine tri_ret ?_ | refine tri_exit ?_ | refine tri_thenr ?_ | refine tri_thene ?_ | refine tri_blkn ?_ | refine tri_blkr ?_ | refine tri_blke ?_ | refine tri_blko (by rfl) ?_ | refine tri_if_t (by rfl) ?_ | refine tri_if_f (by rfl) ?_ | fail))
  refine au_callC rfl rfl rfl rfl rfl (best_c w0 (l := l) (f := f) (by omega) (by omega) l.length 0 _ v (.slice none 0 0) [] (by omega) (by omega) (Nat.zero_le _) (by repeat (first | assumption | exact rd_chunk (by first | (apply has_at; (repeat (first | exact at0 | apply atS)); done) | (repeat (first | assumption | apply has_cons))) | apply RdH.cons | refine RdH.cut ?_ rfl (by omega) (by omega))) rd_nil) (fun _ => ?_)
  rw [hbo]
  (repeat (first | refine au_pure ?_ | refine au_pass ?_ | refine au_box (fun _ => ?_) | refine au_alloc (fun _ => ?_) | refine au_store ?_ | refine au_make rfl rfl (fun _ => ?_) | refine au_lit rfl rfl rfl (fun _ => ?_) | refine au_append rfl rfl rfl rfl (fun _ => au_norm ?_) | refine au_storeE rfl rfl rfl rfl ?_ | refine tri_seq ?_ | refine tri_then ?_ | refine tri_region ?_ | refine tri_nil ?_ | refine tri_skip ?_ | refine tri_ret ?_ | refine tri_exit ?_ | refine tri_thenr ?_ | refine tri_thene ?_ | refine tri_blkn ?_ | refine tri_blkr ?_ | refine tri_blke ?_ | refine tri_blko (by rfl) ?_ | refine tri_if_t (by rfl) ?_ | refine tri_if_f (by rfl) ?_ | fail))
  rw [beq_self_eq_true (optN l (f : Int) : Int)]
  (repeat (first | refine au_pure ?_ | refine au_pass ?_ | refine au_box (fun _ => ?_) | refine au_alloc (fun _ => ?_) | refine au_store ?_ | refine au_make rfl rfl (fun _ => ?_) | refine au_lit rfl rfl rfl (fun _ => ?_) | refine au_append rfl rfl rfl rfl (fun _ => au_norm ?_) | refine au_storeE rfl rfl rfl rfl ?_ | refine tri_seq ?_ | refine tri_then ?_ | refine tri_region ?_ | refine tri_nil ?_ | refine tri_skip ?_ | refine tri_ret ?_ | refine tri_exit ?_ | refine tri_thenr ?_ | refine tri_thene ?_ | refine tri_blkn ?_ | refine tri_blkr ?_ | refine tri_blke ?_ | refine tri_blko (by rfl) ?_ | refine tri_if_t (by rfl) ?_ | refine tri_if_f (by rfl) ?_ | fail))
  refine au_done1 rfl ?_
  intro w hw; exact ⟨(), rfl, hw.sub (by repeat (first | exact List.Sublist.refl _ | assumption | apply List.Sublist.cons_cons | apply List.Sublist.cons))⟩
end
end Go.Proofs.Ythfdmcjnodlikaa
