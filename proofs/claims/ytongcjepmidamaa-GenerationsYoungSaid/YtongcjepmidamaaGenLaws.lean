/- generations: the examples, and the laws that compare with the reference. No conditions. -/
import Derived.Test.YtongcjepmidamaaGenRAge
set_option linter.unusedSimpArgs false
set_option linter.unusedVariables false
namespace Go.Proofs.Ytongcjepmidamaa
open Go Go.RowKit
attribute [local irreducible] Code.wp wpList bodyPost Exit.then Exit.inBlock Calls wpQuiet Tri TriQ
def okG (n : Nat) (L : GL) : Prop := L.length ≤ 1000 ∧ ∀ i, (L.getD i default).length ≤ n
theorem okG_few {L : GL} (h : fewB L = true) : okG 300 L := ⟨by have := (few_all h).1; omega, (few_all h).2⟩
theorem okG_mono {m n : Nat} {L : GL} (h : okG m L) (hmn : m ≤ n) : okG n L := ⟨h.1, fun i => Nat.le_trans (h.2 i) hmn⟩
theorem okG_nil (n : Nat) : okG n [] := ⟨by simp, fun i => by rw [getD_none (Nat.zero_le _)]; exact Nat.zero_le _⟩
theorem okG_set {n : Nat} {L : GL} (h : okG n L) (i : Nat) {l : List Int} (hl : l.length ≤ n) : okG n (L.set i l) := ⟨by rw [List.length_set]; exact h.1, fun j => by
  by_cases hi : i < L.length
  · rw [getD_set _ hi]
    split
    · exact hl
    · exact h.2 j
  · rw [List.set_eq_of_length_le (by omega)]
    exact h.2 j⟩
theorem okG_add {n : Nat} {L : GL} (h : okG n L) (a f : Int) : okG (n + 1) (addL L a f) := by
  unfold addL
  split
  · refine okG_set (okG_mono h (by omega)) _ ?_
    rw [List.length_append, List.length_singleton]
    have := h.2 a.toNat
    omega
  · exact okG_nil _
theorem okG_rem {n : Nat} {L : GL} (h : okG n L) (f : Int) : okG n (remL L f) := by
  unfold remL
  split
  · exact okG_set h _ (Nat.le_trans (List.length_erase_le ..) (h.2 _))
  · exact okG_nil _
theorem okG_rpl {n : Nat} {L : GL} (h : okG n L) (f g : Int) : okG n (rplL L f g) := by
  unfold rplL
  split
  · refine okG_set h _ ?_
    unfold rep1
    rw [List.length_map]
    exact h.2 _
  · exact okG_nil _
theorem flat_le {L : GL} (h : chkG L = 0) : L.flatten.length ≤ 256 := by
  obtain ⟨_, h2, h3⟩ := chk_zero h
  have := nodup_le (L := (List.range 256).map Int.ofNat) h3 fun x hx => by
    have := List.any_eq_false.1 h2 x hx
    unfold okF at this
    rw [Bool.not_eq_true, Bool.not_eq_false', decide_eq_true_eq] at this
    exact List.mem_map.2 ⟨x.toNat, List.mem_range.2 (by omega), by show ((x.toNat : Nat) : Int) = x; omega⟩
  simpa using this
theorem okG_age (L : GL) (A : List Int) : okG 256 (ageL L A) := by
  unfold ageL
  split
  · rename_i h
    have h0 : chkG L = 0 := by
      unfold ageE at h
      split at h
      · assumption
      · exact absurd h (by assumption)
    have h1 := flat_le h0
    have h2 := pr_len L
    exact ⟨by rw [ageT_len A _ _ rfl]; omega, fun i => by have := ageT_le (A := A) i _ (prL L) rfl; omega⟩
  · exact okG_nil _
section
variable {n : Nat} {F : Act → World → Prop} {E : Env} {w0 : World} {C : List Chunk}
theorem tri_got [Dl] {L' L'' : GL} {q : NR L'.length} (e : L' = L'') (k : ∀ C2, C.Sublist C2 → RdN (Hp w0 C2) q.r.v (q.rs.map Row.sv) L'' → Tri n F E (Hp w0 C2)) : Tri n F E (Hp w0 (NC q.r q.rs L' ++ C)) := by
  subst e
  exact k _ (List.sublist_append_right _ _) (rdN_own q.hl)
theorem tri_gotS [Dl] {l l' : List Int} {r : Row} (e : l = l') (k : ∀ C2, C.Sublist C2 → RdH (Hp w0 C2) r.v l' → Tri n F E (Hp w0 C2)) : Tri n F E (Hp w0 (intS r l :: C)) := by
  subst e
  exact k _ (List.sublist_cons_self _ _) (rd_chunk (has_at at0))
theorem RdH.subl {α : Type} {_ : Enc α} {v : Value} {l : List α} {C2 : List Chunk} (h : RdH (Hp w0 C) v l) (hs : C.Sublist C2) : RdH (Hp w0 C2) v l := fun w hw => h w (hw.sub hs)
theorem tri_lit4 [Dl] {ops rest : List Oper} {o : Oper} {Q : Exit → Act → World → Prop} {d : Nat} {parts : Array (Nat × Operand)} {r1 r2 r3 r4 : Row} {l1 l2 l3 l4 : List Int} (hd : o.dst = some d) (ho : o.op = .buildSlice 22 4 parts) (hv : evp E parts.toList = some [(0, r1.v), (1, r2.v), (2, r3.v), (3, r4.v)])
    (k : ∀ (r : Row) (C2 : List Chunk), C.Sublist C2 → RdN (Hp w0 C2) r.v ([r1, r2, r3, r4].map Row.sv) [l1, l2, l3, l4] → Tri n (wpList Try.prog ops.toArray Q rest) ((d, r.v) :: E) (Hp w0 C2)) (hn : Nat.blt d n = true := by rfl) (hw : Wan ops n o E true := by first | exact wan_plain rfl | exact wan_yes rfl rfl rfl) :
    Tri n (wpList Try.prog ops.toArray Q (o :: rest)) E (Hp w0 (intS r4 l4 :: intS r3 l3 :: intS r2 l2 :: intS r1 l1 :: C)) := by
  refine au_lit (l := [r1.sv, r2.sv, r3.sv, r4.sv]) hd ho hv (fun r => ?_) hn hw
  refine tri_weak (H' := Hp w0 (NC r [r1, r2, r3, r4] [l1, l2, l3, l4] ++ C)) (fun w h => h.perm (List.Perm.cons _ ?_)) (k r _ (List.sublist_append_right _ _) (rdN_own rfl))
  refine (show [intS r4 l4, intS r3 l3, intS r2 l2, intS r1 l1].Perm [intS r1 l1, intS r2 l2, intS r3 l3, intS r4 l4] from ?_).append_right C
  exact (List.reverse_perm [intS r1 l1, intS r2 l2, intS r3 l3, intS r4 l4])
end
section
variable (w0 : World) (cs : List Chunk)
theorem same_s {v v' : Value} {vs vs' : List SV} {L : GL} (hN : RdN (Hp w0 cs) v vs L) (hN' : RdN (Hp w0 cs) v' vs' L) (h : okG 1000 L) : Cal Try.prog 13 [v, v'] (Hp w0 cs) (fun _ : Unit => .bool true) (fun _ => Hp w0 cs) := by
  have := same_c w0 cs hN hN' h.1 h.1 (fun i => by have := h.2 i; omega) (fun i => by have := h.2 i; omega)
  rw [decide_eq_true (rfl : L = L)] at this
  exact this
theorem equal_s {v v' : Value} {l : List Int} (hR : RdH (Hp w0 cs) v l) (hR' : RdH (Hp w0 cs) v' l) (h : l.length ≤ 1000000) : Cal Try.prog 18 [v, v'] (Hp w0 cs) (fun _ : Unit => .bool true) (fun _ => Hp w0 cs) := by
  have := equal_c w0 cs hR hR' h h
  rw [decide_eq_true (rfl : l = l)] at this
  exact this
set_option maxHeartbeats 4000000 in
theorem awake_c : Cal Try.prog 10 [] (Hp w0 cs) (fun _ : Unit => .bool true) (fun _ => Hp w0 cs) := by
  have ok0 : okG 300 [[1, 2], [3], [], [4, 5]] := okG_few (by decide +kernel)
  have ok1 := okG_mono ok0 (show 300 ≤ 1000 by omega)
  refine cal_of_tri Try.func10 rfl Try.ntmps10 rfl ?_
  (repeat (first | refine au_pure ?_ | refine au_pass ?_ | refine au_box (fun _ => ?_) | refine au_alloc (fun _ => ?_) | refine au_store ?_ | refine au_make rfl rfl (fun _ => ?_) | refine au_append rfl rfl rfl rfl (fun _ => au_norm ?_) | refine au_storeE rfl rfl rfl rfl ?_ | refine tri_seq ?_ | refine tri_then ?_ | refine tri_region ?_ | refine tri_nil ?_ | refine tri_skip ?_ | refine tri_ret ?_ | refine tri_exit ?_ | refine tri_thenr ?_ | refine tri_thene ?_ | refine tri_blkn ?_ | refine tri_blkr ?_ | refine tri_blke ?_ | refine tri_blko (by rfl) ?_ | refine tri_if_t (by rfl) ?_ | refine tri_if_f (by rfl) ?_ | fail))
  refine au_lit (l := ([1, 2] : List Int)) rfl rfl rfl (fun r1 => ?_)
  refine au_lit (l := ([3] : List Int)) rfl rfl rfl (fun r2 => ?_)
  refine au_lit (l := ([] : List Int)) rfl rfl rfl (fun r3 => ?_)
  refine au_lit (l := ([4, 5] : List Int)) rfl rfl rfl (fun r4 => ?_)
  refine tri_lit4 rfl rfl rfl (fun r C1 s1 hN1 => ?_)
  (repeat (first | refine au_pure ?_ | refine au_pass ?_ | refine au_box (fun _ => ?_) | refine au_alloc (fun _ => ?_) | refine au_store ?_ | refine au_make rfl rfl (fun _ => ?_) | refine au_append rfl rfl rfl rfl (fun _ => au_norm ?_) | refine au_storeE rfl rfl rfl rfl ?_ | refine tri_seq ?_ | refine tri_then ?_ | refine tri_region ?_ | refine tri_nil ?_ | refine tri_skip ?_ | refine tri_ret ?_ | refine tri_exit ?_ | refine tri_thenr ?_ | refine tri_thene ?_ | refine tri_blkn ?_ | refine tri_blkr ?_ | refine tri_blke ?_ | refine tri_blko (by rfl) ?_ | refine tri_if_t (by rfl) ?_ | refine tri_if_f (by rfl) ?_ | fail))
  refine au_lit (l := ([5, 1] : List Int)) rfl rfl rfl (fun rA => ?_)
  refine au_callC rfl rfl rfl rfl rfl (age_c w0 _ (A := [5, 1]) hN1.cons (rd_chunk (by first | (apply has_at; (repeat (first | exact at0 | apply atS)); done) | (repeat (first | assumption | apply has_cons)))) (by decide) ok1.1 ok1.2) ?_
  intro qa
  refine tri_got (L'' := [[2, 3], [], [4], [1, 5]]) (by decide +kernel) (fun C2 s2 hNa => ?_)
  replace s2 := (List.sublist_cons_self _ _).trans s2
  rw [show ageE [[1, 2], [3], [], [4, 5]] [5, 1] = 0 by decide +kernel]
  (repeat (first | refine au_pure ?_ | refine au_pass ?_ | refine au_box (fun _ => ?_) | refine au_alloc (fun _ => ?_) | refine au_store ?_ | refine au_make rfl rfl (fun _ => ?_) | refine au_append rfl rfl rfl rfl (fun _ => au_norm ?_) | refine au_storeE rfl rfl rfl rfl ?_ | refine tri_seq ?_ | refine tri_then ?_ | refine tri_region ?_ | refine tri_nil ?_ | refine tri_skip ?_ | refine tri_ret ?_ | refine tri_exit ?_ | refine tri_thenr ?_ | refine tri_thene ?_ | refine tri_blkn ?_ | refine tri_blkr ?_ | refine tri_blke ?_ | refine tri_blko (by rfl) ?_ | refine tri_if_t (by rfl) ?_ | refine tri_if_f (by rfl) ?_ | fail))
  refine au_callC rfl rfl rfl rfl rfl (order_c w0 _ (hN1.sub s2) ok1.1 ok1.2) ?_
  intro ro
  refine tri_gotS (l' := [1, 2, 3, 4, 5]) (by decide +kernel) (fun C3 s3 hRo => ?_)
  rw [show chkG [[1, 2], [3], [], [4, 5]] = 0 by decide +kernel]
  (repeat (first | refine au_pure ?_ | refine au_pass ?_ | refine au_box (fun _ => ?_) | refine au_alloc (fun _ => ?_) | refine au_store ?_ | refine au_make rfl rfl (fun _ => ?_) | refine au_append rfl rfl rfl rfl (fun _ => au_norm ?_) | refine au_storeE rfl rfl rfl rfl ?_ | refine tri_seq ?_ | refine tri_then ?_ | refine tri_region ?_ | refine tri_nil ?_ | refine tri_skip ?_ | refine tri_ret ?_ | refine tri_exit ?_ | refine tri_thenr ?_ | refine tri_thene ?_ | refine tri_blkn ?_ | refine tri_blkr ?_ | refine tri_blke ?_ | refine tri_blko (by rfl) ?_ | refine tri_if_t (by rfl) ?_ | refine tri_if_f (by rfl) ?_ | fail))
  refine au_callC rfl rfl rfl rfl rfl (replace_c w0 _ 3 9 (hN1.sub (s2.trans s3)) ok1.1 ok1.2) ?_
  intro qr
  refine tri_got (L'' := [[1, 2], [9], [], [4, 5]]) (by decide +kernel) (fun C4 s4 hNr => ?_)
  rw [show rplE [[1, 2], [3], [], [4, 5]] 3 9 = 0 by decide +kernel]
  (repeat (first | refine au_pure ?_ | refine au_pass ?_ | refine au_box (fun _ => ?_) | refine au_alloc (fun _ => ?_) | refine au_store ?_ | refine au_make rfl rfl (fun _ => ?_) | refine au_append rfl rfl rfl rfl (fun _ => au_norm ?_) | refine au_storeE rfl rfl rfl rfl ?_ | refine tri_seq ?_ | refine tri_then ?_ | refine tri_region ?_ | refine tri_nil ?_ | refine tri_skip ?_ | refine tri_ret ?_ | refine tri_exit ?_ | refine tri_thenr ?_ | refine tri_thene ?_ | refine tri_blkn ?_ | refine tri_blkr ?_ | refine tri_blke ?_ | refine tri_blko (by rfl) ?_ | refine tri_if_t (by rfl) ?_ | refine tri_if_f (by rfl) ?_ | fail))
  refine au_callC rfl rfl rfl rfl rfl (add_c w0 _ 2 9 (hN1.sub (s2.trans (s3.trans s4))) ok1.1 ok1.2) ?_
  intro qb
  refine tri_got (L'' := [[1, 2], [3], [9], [4, 5]]) (by decide +kernel) (fun C5 s5 hNb => ?_)
  rw [show addE [[1, 2], [3], [], [4, 5]] 2 9 = 0 by decide +kernel]
  have t1 := s2.trans (s3.trans (s4.trans s5))
  have t2 := s3.trans (s4.trans s5)
  have t3 := s4.trans s5
  replace hN1 := hN1.sub t1
  replace hNa := hNa.sub t2
  replace hRo := hRo.subl t3
  replace hNr := hNr.sub s5
  (repeat (first | refine au_pure ?_ | refine au_pass ?_ | refine au_box (fun _ => ?_) | refine au_alloc (fun _ => ?_) | refine au_store ?_ | refine au_make rfl rfl (fun _ => ?_) | refine au_append rfl rfl rfl rfl (fun _ => au_norm ?_) | refine au_storeE rfl rfl rfl rfl ?_ | refine tri_seq ?_ | refine tri_then ?_ | refine tri_region ?_ | refine tri_nil ?_ | refine tri_skip ?_ | refine tri_ret ?_ | refine tri_exit ?_ | refine tri_thenr ?_ | refine tri_thene ?_ | refine tri_blkn ?_ | refine tri_blkr ?_ | refine tri_blke ?_ | refine tri_blko (by rfl) ?_ | refine tri_if_t (by rfl) ?_ | refine tri_if_f (by rfl) ?_ | fail))
  refine au_lit (l := ([2, 3] : List Int)) rfl rfl rfl (fun u1 => ?_)
  refine au_lit (l := ([] : List Int)) rfl rfl rfl (fun u2 => ?_)
  refine au_lit (l := ([4] : List Int)) rfl rfl rfl (fun u3 => ?_)
  refine au_lit (l := ([1, 5] : List Int)) rfl rfl rfl (fun u4 => ?_)
  refine tri_lit4 rfl rfl rfl (fun u C6 s6 hNu => ?_)
  (repeat (first | refine au_pure ?_ | refine au_pass ?_ | refine au_box (fun _ => ?_) | refine au_alloc (fun _ => ?_) | refine au_store ?_ | refine au_make rfl rfl (fun _ => ?_) | refine au_append rfl rfl rfl rfl (fun _ => au_norm ?_) | refine au_storeE rfl rfl rfl rfl ?_ | refine tri_seq ?_ | refine tri_then ?_ | refine tri_region ?_ | refine tri_nil ?_ | refine tri_skip ?_ | refine tri_ret ?_ | refine tri_exit ?_ | refine tri_thenr ?_ | refine tri_thene ?_ | refine tri_blkn ?_ | refine tri_blkr ?_ | refine tri_blke ?_ | refine tri_blko (by rfl) ?_ | refine tri_if_t (by rfl) ?_ | refine tri_if_f (by rfl) ?_ | fail))
  refine au_callC rfl rfl rfl rfl rfl (same_s w0 _ (hNa.sub s6) hNu (okG_mono (okG_few (by decide +kernel)) (by omega))) (fun _ => ?_)
  (repeat (first | refine au_pure ?_ | refine au_pass ?_ | refine au_box (fun _ => ?_) | refine au_alloc (fun _ => ?_) | refine au_store ?_ | refine au_make rfl rfl (fun _ => ?_) | refine au_append rfl rfl rfl rfl (fun _ => au_norm ?_) | refine au_storeE rfl rfl rfl rfl ?_ | refine tri_seq ?_ | refine tri_then ?_ | refine tri_region ?_ | refine tri_nil ?_ | refine tri_skip ?_ | refine tri_ret ?_ | refine tri_exit ?_ | refine tri_thenr ?_ | refine tri_thene ?_ | refine tri_blkn ?_ | refine tri_blkr ?_ | refine tri_blke ?_ | refine tri_blko (by rfl) ?_ | refine tri_if_t (by rfl) ?_ | refine tri_if_f (by rfl) ?_ | fail))
  refine au_lit (l := ([1, 2, 3, 4, 5] : List Int)) rfl rfl rfl (fun u5 => ?_)
  refine au_callC rfl rfl rfl rfl rfl (equal_s w0 _ (hRo.subl s6).cons (rd_chunk (by first | (apply has_at; (repeat (first | exact at0 | apply atS)); done) | (repeat (first | assumption | apply has_cons)))) (by decide)) (fun _ => ?_)
  refine tri_weak (H' := Hp w0 C6) (fun w h => h.tail) ?_
  (repeat (first | refine au_pure ?_ | refine au_pass ?_ | refine au_box (fun _ => ?_) | refine au_alloc (fun _ => ?_) | refine au_store ?_ | refine au_make rfl rfl (fun _ => ?_) | refine au_append rfl rfl rfl rfl (fun _ => au_norm ?_) | refine au_storeE rfl rfl rfl rfl ?_ | refine tri_seq ?_ | refine tri_then ?_ | refine tri_region ?_ | refine tri_nil ?_ | refine tri_skip ?_ | refine tri_ret ?_ | refine tri_exit ?_ | refine tri_thenr ?_ | refine tri_thene ?_ | refine tri_blkn ?_ | refine tri_blkr ?_ | refine tri_blke ?_ | refine tri_blko (by rfl) ?_ | refine tri_if_t (by rfl) ?_ | refine tri_if_f (by rfl) ?_ | fail))
  refine au_lit (l := ([1, 2] : List Int)) rfl rfl rfl (fun u1 => ?_)
  refine au_lit (l := ([9] : List Int)) rfl rfl rfl (fun u2 => ?_)
  refine au_lit (l := ([] : List Int)) rfl rfl rfl (fun u3 => ?_)
  refine au_lit (l := ([4, 5] : List Int)) rfl rfl rfl (fun u4 => ?_)
  refine tri_lit4 rfl rfl rfl (fun u C7 s7 hNu => ?_)
  (repeat (first | refine au_pure ?_ | refine au_pass ?_ | refine au_box (fun _ => ?_) | refine au_alloc (fun _ => ?_) | refine au_store ?_ | refine au_make rfl rfl (fun _ => ?_) | refine au_append rfl rfl rfl rfl (fun _ => au_norm ?_) | refine au_storeE rfl rfl rfl rfl ?_ | refine tri_seq ?_ | refine tri_then ?_ | refine tri_region ?_ | refine tri_nil ?_ | refine tri_skip ?_ | refine tri_ret ?_ | refine tri_exit ?_ | refine tri_thenr ?_ | refine tri_thene ?_ | refine tri_blkn ?_ | refine tri_blkr ?_ | refine tri_blke ?_ | refine tri_blko (by rfl) ?_ | refine tri_if_t (by rfl) ?_ | refine tri_if_f (by rfl) ?_ | fail))
  refine au_callC rfl rfl rfl rfl rfl (same_s w0 _ (hNr.sub (s6.trans s7)) hNu (okG_mono (okG_few (by decide +kernel)) (by omega))) (fun _ => ?_)
  (repeat (first | refine au_pure ?_ | refine au_pass ?_ | refine au_box (fun _ => ?_) | refine au_alloc (fun _ => ?_) | refine au_store ?_ | refine au_make rfl rfl (fun _ => ?_) | refine au_append rfl rfl rfl rfl (fun _ => au_norm ?_) | refine au_storeE rfl rfl rfl rfl ?_ | refine tri_seq ?_ | refine tri_then ?_ | refine tri_region ?_ | refine tri_nil ?_ | refine tri_skip ?_ | refine tri_ret ?_ | refine tri_exit ?_ | refine tri_thenr ?_ | refine tri_thene ?_ | refine tri_blkn ?_ | refine tri_blkr ?_ | refine tri_blke ?_ | refine tri_blko (by rfl) ?_ | refine tri_if_t (by rfl) ?_ | refine tri_if_f (by rfl) ?_ | fail))
  refine au_lit (l := ([1, 2] : List Int)) rfl rfl rfl (fun u1 => ?_)
  refine au_lit (l := ([3] : List Int)) rfl rfl rfl (fun u2 => ?_)
  refine au_lit (l := ([9] : List Int)) rfl rfl rfl (fun u3 => ?_)
  refine au_lit (l := ([4, 5] : List Int)) rfl rfl rfl (fun u4 => ?_)
  refine tri_lit4 rfl rfl rfl (fun u C8 s8 hNu => ?_)
  (repeat (first | refine au_pure ?_ | refine au_pass ?_ | refine au_box (fun _ => ?_) | refine au_alloc (fun _ => ?_) | refine au_store ?_ | refine au_make rfl rfl (fun _ => ?_) | refine au_append rfl rfl rfl rfl (fun _ => au_norm ?_) | refine au_storeE rfl rfl rfl rfl ?_ | refine tri_seq ?_ | refine tri_then ?_ | refine tri_region ?_ | refine tri_nil ?_ | refine tri_skip ?_ | refine tri_ret ?_ | refine tri_exit ?_ | refine tri_thenr ?_ | refine tri_thene ?_ | refine tri_blkn ?_ | refine tri_blkr ?_ | refine tri_blke ?_ | refine tri_blko (by rfl) ?_ | refine tri_if_t (by rfl) ?_ | refine tri_if_f (by rfl) ?_ | fail))
  refine au_callC rfl rfl rfl rfl rfl (same_s w0 _ (hNb.sub (s6.trans (s7.trans s8))) hNu (okG_mono (okG_few (by decide +kernel)) (by omega))) (fun _ => ?_)
  (repeat (first | refine au_pure ?_ | refine au_pass ?_ | refine au_box (fun _ => ?_) | refine au_alloc (fun _ => ?_) | refine au_store ?_ | refine au_make rfl rfl (fun _ => ?_) | refine au_append rfl rfl rfl rfl (fun _ => au_norm ?_) | refine au_storeE rfl rfl rfl rfl ?_ | refine tri_seq ?_ | refine tri_then ?_ | refine tri_region ?_ | refine tri_nil ?_ | refine tri_skip ?_ | refine tri_ret ?_ | refine tri_exit ?_ | refine tri_thenr ?_ | refine tri_thene ?_ | refine tri_blkn ?_ | refine tri_blkr ?_ | refine tri_blke ?_ | refine tri_blko (by rfl) ?_ | refine tri_if_t (by rfl) ?_ | refine tri_if_f (by rfl) ?_ | fail))
  have t8 := s6.trans (s7.trans s8)
  replace hN1 := hN1.sub t8
  refine au_callC rfl rfl rfl rfl rfl (remove_c w0 _ 2 hN1 ok1.1 ok1.2) ?_
  intro qc
  refine tri_got (L'' := [[1], [3], [], [4, 5]]) (by decide +kernel) (fun C9 s9 hNc => ?_)
  rw [show remE [[1, 2], [3], [], [4, 5]] 2 = 0 by decide +kernel]
  (repeat (first | refine au_pure ?_ | refine au_pass ?_ | refine au_box (fun _ => ?_) | refine au_alloc (fun _ => ?_) | refine au_store ?_ | refine au_make rfl rfl (fun _ => ?_) | refine au_append rfl rfl rfl rfl (fun _ => au_norm ?_) | refine au_storeE rfl rfl rfl rfl ?_ | refine tri_seq ?_ | refine tri_then ?_ | refine tri_region ?_ | refine tri_nil ?_ | refine tri_skip ?_ | refine tri_ret ?_ | refine tri_exit ?_ | refine tri_thenr ?_ | refine tri_thene ?_ | refine tri_blkn ?_ | refine tri_blkr ?_ | refine tri_blke ?_ | refine tri_blko (by rfl) ?_ | refine tri_if_t (by rfl) ?_ | refine tri_if_f (by rfl) ?_ | fail))
  refine au_lit (l := ([1] : List Int)) rfl rfl rfl (fun u1 => ?_)
  refine au_lit (l := ([3] : List Int)) rfl rfl rfl (fun u2 => ?_)
  refine au_lit (l := ([] : List Int)) rfl rfl rfl (fun u3 => ?_)
  refine au_lit (l := ([4, 5] : List Int)) rfl rfl rfl (fun u4 => ?_)
  refine tri_lit4 rfl rfl rfl (fun u C10 s10 hNu => ?_)
  (repeat (first | refine au_pure ?_ | refine au_pass ?_ | refine au_box (fun _ => ?_) | refine au_alloc (fun _ => ?_) | refine au_store ?_ | refine au_make rfl rfl (fun _ => ?_) | refine au_append rfl rfl rfl rfl (fun _ => au_norm ?_) | refine au_storeE rfl rfl rfl rfl ?_ | refine tri_seq ?_ | refine tri_then ?_ | refine tri_region ?_ | refine tri_nil ?_ | refine tri_skip ?_ | refine tri_ret ?_ | refine tri_exit ?_ | refine tri_thenr ?_ | refine tri_thene ?_ | refine tri_blkn ?_ | refine tri_blkr ?_ | refine tri_blke ?_ | refine tri_blko (by rfl) ?_ | refine tri_if_t (by rfl) ?_ | refine tri_if_f (by rfl) ?_ | fail))
  refine au_callC rfl rfl rfl rfl rfl (same_s w0 _ (hNc.sub s10) hNu (okG_mono (okG_few (by decide +kernel)) (by omega))) (fun _ => ?_)
  (repeat (first | refine au_pure ?_ | refine au_pass ?_ | refine au_box (fun _ => ?_) | refine au_alloc (fun _ => ?_) | refine au_store ?_ | refine au_make rfl rfl (fun _ => ?_) | refine au_append rfl rfl rfl rfl (fun _ => au_norm ?_) | refine au_storeE rfl rfl rfl rfl ?_ | refine tri_seq ?_ | refine tri_then ?_ | refine tri_region ?_ | refine tri_nil ?_ | refine tri_skip ?_ | refine tri_ret ?_ | refine tri_exit ?_ | refine tri_thenr ?_ | refine tri_thene ?_ | refine tri_blkn ?_ | refine tri_blkr ?_ | refine tri_blke ?_ | refine tri_blko (by rfl) ?_ | refine tri_if_t (by rfl) ?_ | refine tri_if_f (by rfl) ?_ | fail))
  replace hN1 := hN1.sub (s9.trans s10)
  refine au_callC rfl rfl rfl rfl rfl (gwhere_c w0 _ 3 hN1 ok1.1 ok1.2) (fun _ => ?_)
  rw [show (if chkG [[1, 2], [3], [], [4, 5]] = 0 then whM [[1, 2], [3], [], [4, 5]] 3 else -1) = 1 by decide +kernel]
  (repeat (first | refine au_pure ?_ | refine au_pass ?_ | refine au_box (fun _ => ?_) | refine au_alloc (fun _ => ?_) | refine au_store ?_ | refine au_make rfl rfl (fun _ => ?_) | refine au_append rfl rfl rfl rfl (fun _ => au_norm ?_) | refine au_storeE rfl rfl rfl rfl ?_ | refine tri_seq ?_ | refine tri_then ?_ | refine tri_region ?_ | refine tri_nil ?_ | refine tri_skip ?_ | refine tri_ret ?_ | refine tri_exit ?_ | refine tri_thenr ?_ | refine tri_thene ?_ | refine tri_blkn ?_ | refine tri_blkr ?_ | refine tri_blke ?_ | refine tri_blko (by rfl) ?_ | refine tri_if_t (by rfl) ?_ | refine tri_if_f (by rfl) ?_ | fail))
  refine au_callC rfl rfl rfl rfl rfl (gwhere_c w0 _ 9 hN1 ok1.1 ok1.2) (fun _ => ?_)
  rw [show (if chkG [[1, 2], [3], [], [4, 5]] = 0 then whM [[1, 2], [3], [], [4, 5]] 9 else -1) = -1 by decide +kernel]
  (repeat (first | refine au_pure ?_ | refine au_pass ?_ | refine au_box (fun _ => ?_) | refine au_alloc (fun _ => ?_) | refine au_store ?_ | refine au_make rfl rfl (fun _ => ?_) | refine au_append rfl rfl rfl rfl (fun _ => au_norm ?_) | refine au_storeE rfl rfl rfl rfl ?_ | refine tri_seq ?_ | refine tri_then ?_ | refine tri_region ?_ | refine tri_nil ?_ | refine tri_skip ?_ | refine tri_ret ?_ | refine tri_exit ?_ | refine tri_thenr ?_ | refine tri_thene ?_ | refine tri_blkn ?_ | refine tri_blkr ?_ | refine tri_blke ?_ | refine tri_blko (by rfl) ?_ | refine tri_if_t (by rfl) ?_ | refine tri_if_f (by rfl) ?_ | fail))
  refine au_callC rfl rfl rfl rfl rfl (check_c w0 _ hN1 ok1.1 ok1.2) (fun _ => ?_)
  rw [show chkG [[1, 2], [3], [], [4, 5]] = 0 by decide +kernel]
  (repeat (first | refine au_pure ?_ | refine au_pass ?_ | refine au_box (fun _ => ?_) | refine au_alloc (fun _ => ?_) | refine au_store ?_ | refine au_make rfl rfl (fun _ => ?_) | refine au_append rfl rfl rfl rfl (fun _ => au_norm ?_) | refine au_storeE rfl rfl rfl rfl ?_ | refine tri_seq ?_ | refine tri_then ?_ | refine tri_region ?_ | refine tri_nil ?_ | refine tri_skip ?_ | refine tri_ret ?_ | refine tri_exit ?_ | refine tri_thenr ?_ | refine tri_thene ?_ | refine tri_blkn ?_ | refine tri_blkr ?_ | refine tri_blke ?_ | refine tri_blko (by rfl) ?_ | refine tri_if_t (by rfl) ?_ | refine tri_if_f (by rfl) ?_ | fail))
  refine au_callC rfl rfl rfl rfl rfl (new_c w0 _) ?_
  intro qn
  refine tri_got (L' := [[], [], [], []]) rfl (fun C11 s11 hNn => ?_)
  have hRn := hNn.out
  have hRl := hNn.len
  refine au_pure ?_
  rw [hRl]
  (repeat (first | refine au_pure ?_ | refine au_pass ?_ | refine au_box (fun _ => ?_) | refine au_alloc (fun _ => ?_) | refine au_store ?_ | refine au_make rfl rfl (fun _ => ?_) | refine au_append rfl rfl rfl rfl (fun _ => au_norm ?_) | refine au_storeE rfl rfl rfl rfl ?_ | refine tri_seq ?_ | refine tri_then ?_ | refine tri_region ?_ | refine tri_nil ?_ | refine tri_skip ?_ | refine tri_ret ?_ | refine tri_exit ?_ | refine tri_thenr ?_ | refine tri_thene ?_ | refine tri_blkn ?_ | refine tri_blkr ?_ | refine tri_blke ?_ | refine tri_blko (by rfl) ?_ | refine tri_if_t (by rfl) ?_ | refine tri_if_f (by rfl) ?_ | fail))
  refine au_done1 rfl ?_
  exact fun w hw => ⟨(), rfl, hw.sub (s1.trans (t1.trans (t8.trans (s9.trans (s10.trans s11)))))⟩
end
end Go.Proofs.Ytongcjepmidamaa
