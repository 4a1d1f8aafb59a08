/- The walks of compaction: the laws' functions. No conditions. -/
import Derived.Test.YtgajefdhmpgecaaCompPlan
import Derived.Test.YtgajefdhmpgecaaCompClear2
import Derived.Test.YtgajefdhmpgecaaSeq
set_option linter.unusedSimpArgs false
set_option linter.unusedVariables false
namespace Go.Proofs.Ytgajefdhmpgecaa
open Go Go.RowKit
attribute [local irreducible] Code.wp wpList bodyPost Exit.then Exit.inBlock Calls wpQuiet Tri TriQ
def aw0 : List Int := [1, 0, 2, 1, 0, 1, 0]
def aw1 : List Int := [1, 1, 2, 1, 0, 0, 0]
theorem aw_run : RunR aw1 4 3 := by
  rw [RunR, if_pos (by decide)]
  refine ⟨by decide, fun k h1 h2 => ?_, fun j n hn hz => ?_, fun j hj hz => ?_⟩
  · have : k = 4 ∨ k = 5 ∨ k = 6 := by omega
    rcases this with rfl | rfl | rfl <;> rfl
  · apply Decidable.byContradiction
    intro h
    have hn' : j + n ≤ 7 := hn
    have := hz 3 (by omega) (by omega)
    exact absurd this (by decide)
  · have h4 : j = 0 ∨ j = 1 ∨ j = 2 ∨ j = 3 := by omega
    rcases h4 with rfl | rfl | rfl | rfl
    · exact absurd (hz 0 (by omega) (by omega)) (by decide)
    · exact absurd (hz 1 (by omega) (by omega)) (by decide)
    · exact absurd (hz 2 (by omega) (by omega)) (by decide)
    · exact absurd (hz 3 (by omega) (by omega)) (by decide)
section
variable (w0 : World) (cs : List Chunk)
set_option maxHeartbeats 4000000 in
theorem awake_c : Cal Try.prog 10 [] (Hp w0 cs) (fun _ : Unit => .bool true) (fun _ => Hp w0 cs) := by
  refine cal_of_tri Try.func10 rfl Try.ntmps10 rfl ?_
  (repeat (first | refine au_pure ?_ | refine au_pass ?_ | refine au_box (fun _ => ?_) | refine au_alloc (fun _ => ?_) | refine au_store ?_ | refine au_make rfl rfl (fun _ => ?_) | refine au_lit rfl rfl rfl (fun _ => ?_) | refine au_append rfl rfl rfl rfl (fun _ => au_norm ?_) | refine au_storeE rfl rfl rfl rfl ?_ | refine tri_seq ?_ | refine tri_then ?_ | refine tri_region ?_ | refine tri_nil ?_ | refine tri_skip ?_ | refine tri_ret ?_ | refine tri_exit ?_ | refine tri_thenr ?_ | refine tri_thene ?_ | refine tri_blkn ?_ | refine tri_blkr ?_ | refine tri_blke ?_ | refine tri_blko (by rfl) ?_ | refine tri_if_t (by rfl) ?_ | refine tri_if_f (by rfl) ?_ | fail))
  rename_i r1
  refine tri_weak (H' := Hp w0 (celS r1 aw0 :: cs)) (fun _ h => h) ?_
  refine au_callC rfl rfl rfl rfl rfl (next_c w0 _ (l := aw0) (by repeat (first | assumption | exact rd_chunk (by first | (apply has_at; (repeat (first | exact at0 | apply atS)); done) | (repeat (first | assumption | apply has_cons))) | apply RdH.cons | refine RdH.cut ?_ rfl (by omega) (by omega))) (by decide)) (fun _ => ?_)
  rw [show nextM aw0 = some ⟨5, 1⟩ by decide]
  simp only [mvV, Option.getD_some, Option.isSome_some]
  (repeat (first | refine au_pure ?_ | refine au_pass ?_ | refine au_box (fun _ => ?_) | refine au_alloc (fun _ => ?_) | refine au_store ?_ | refine au_make rfl rfl (fun _ => ?_) | refine au_lit rfl rfl rfl (fun _ => ?_) | refine au_append rfl rfl rfl rfl (fun _ => au_norm ?_) | refine au_storeE rfl rfl rfl rfl ?_ | refine tri_seq ?_ | refine tri_then ?_ | refine tri_region ?_ | refine tri_nil ?_ | refine tri_skip ?_ | refine tri_ret ?_ | refine tri_exit ?_ | refine tri_thenr ?_ | refine tri_thene ?_ | refine tri_blkn ?_ | refine tri_blkr ?_ | refine tri_blke ?_ | refine tri_blko (by rfl) ?_ | refine tri_if_t (by rfl) ?_ | refine tri_if_f (by rfl) ?_ | fail))
  refine au_callC rfl rfl rfl rfl rfl (plan_c w0 _ (l := aw0) (by repeat (first | assumption | exact rd_chunk (by first | (apply has_at; (repeat (first | exact at0 | apply atS)); done) | (repeat (first | assumption | apply has_cons))) | apply RdH.cons | refine RdH.cut ?_ rfl (by omega) (by omega))) (by decide)) ?_
  intro r2
  rw [show checkM aw0 = 0 by decide, show planL aw0 = [⟨5, 1⟩] by decide]
  (repeat (first | refine au_pure ?_ | refine au_pass ?_ | refine au_box (fun _ => ?_) | refine au_alloc (fun _ => ?_) | refine au_store ?_ | refine au_make rfl rfl (fun _ => ?_) | refine au_lit rfl rfl rfl (fun _ => ?_) | refine au_append rfl rfl rfl rfl (fun _ => au_norm ?_) | refine au_storeE rfl rfl rfl rfl ?_ | refine tri_seq ?_ | refine tri_then ?_ | refine tri_region ?_ | refine tri_nil ?_ | refine tri_skip ?_ | refine tri_ret ?_ | refine tri_exit ?_ | refine tri_thenr ?_ | refine tri_thene ?_ | refine tri_blkn ?_ | refine tri_blkr ?_ | refine tri_blke ?_ | refine tri_blko (by rfl) ?_ | refine tri_if_t (by rfl) ?_ | refine tri_if_f (by rfl) ?_ | fail))
  refine au_callC rfl rfl rfl rfl rfl (apply_c w0 _ (l := aw0) (ms := [⟨5, 1⟩]) (by repeat (first | assumption | exact rd_chunk (by first | (apply has_at; (repeat (first | exact at0 | apply atS)); done) | (repeat (first | assumption | apply has_cons))) | apply RdH.cons | refine RdH.cut ?_ rfl (by omega) (by omega))) (by repeat (first | assumption | exact rd_chunk (by first | (apply has_at; (repeat (first | exact at0 | apply atS)); done) | (repeat (first | assumption | apply has_cons))) | apply RdH.cons | refine RdH.cut ?_ rfl (by omega) (by omega))) (by decide) (by decide)) ?_
  intro r3
  rw [show applyE aw0 [⟨5, 1⟩] = 0 by decide, show applyL aw0 [⟨5, 1⟩] = aw1 by decide]
  (repeat (first | refine au_pure ?_ | refine au_pass ?_ | refine au_box (fun _ => ?_) | refine au_alloc (fun _ => ?_) | refine au_store ?_ | refine au_make rfl rfl (fun _ => ?_) | refine au_lit rfl rfl rfl (fun _ => ?_) | refine au_append rfl rfl rfl rfl (fun _ => au_norm ?_) | refine au_storeE rfl rfl rfl rfl ?_ | refine tri_seq ?_ | refine tri_then ?_ | refine tri_region ?_ | refine tri_nil ?_ | refine tri_skip ?_ | refine tri_ret ?_ | refine tri_exit ?_ | refine tri_thenr ?_ | refine tri_thene ?_ | refine tri_blkn ?_ | refine tri_blkr ?_ | refine tri_blke ?_ | refine tri_blko (by rfl) ?_ | refine tri_if_t (by rfl) ?_ | refine tri_if_f (by rfl) ?_ | fail))
  refine au_callC rfl rfl rfl rfl rfl (run_c w0 _ (l := aw1) (by repeat (first | assumption | exact rd_chunk (by first | (apply has_at; (repeat (first | exact at0 | apply atS)); done) | (repeat (first | assumption | apply has_cons))) | apply RdH.cons | refine RdH.cut ?_ rfl (by omega) (by omega))) (by decide)) ?_
  rintro ⟨⟨s, b⟩, hsb⟩
  obtain ⟨rfl, rfl⟩ : s = 4 ∧ b = 3 := hsb.uniq aw_run
  (repeat (first | refine au_pure ?_ | refine au_pass ?_ | refine au_box (fun _ => ?_) | refine au_alloc (fun _ => ?_) | refine au_store ?_ | refine au_make rfl rfl (fun _ => ?_) | refine au_lit rfl rfl rfl (fun _ => ?_) | refine au_append rfl rfl rfl rfl (fun _ => au_norm ?_) | refine au_storeE rfl rfl rfl rfl ?_ | refine tri_seq ?_ | refine tri_then ?_ | refine tri_region ?_ | refine tri_nil ?_ | refine tri_skip ?_ | refine tri_ret ?_ | refine tri_exit ?_ | refine tri_thenr ?_ | refine tri_thene ?_ | refine tri_blkn ?_ | refine tri_blkr ?_ | refine tri_blke ?_ | refine tri_blko (by rfl) ?_ | refine tri_if_t (by rfl) ?_ | refine tri_if_f (by rfl) ?_ | fail))
  refine au_callC rfl rfl rfl rfl rfl (clear_c w0 _ (l := aw0) 0 2 (by repeat (first | assumption | exact rd_chunk (by first | (apply has_at; (repeat (first | exact at0 | apply atS)); done) | (repeat (first | assumption | apply has_cons))) | apply RdH.cons | refine RdH.cut ?_ rfl (by omega) (by omega))) (by decide) (by decide)) ?_
  intro r4
  rw [show clearE aw0 0 2 = 0 by decide, show clearL aw0 0 2 = [⟨0, 4⟩] by decide]
  (repeat (first | refine au_pure ?_ | refine au_pass ?_ | refine au_box (fun _ => ?_) | refine au_alloc (fun _ => ?_) | refine au_store ?_ | refine au_make rfl rfl (fun _ => ?_) | refine au_lit rfl rfl rfl (fun _ => ?_) | refine au_append rfl rfl rfl rfl (fun _ => au_norm ?_) | refine au_storeE rfl rfl rfl rfl ?_ | refine tri_seq ?_ | refine tri_then ?_ | refine tri_region ?_ | refine tri_nil ?_ | refine tri_skip ?_ | refine tri_ret ?_ | refine tri_exit ?_ | refine tri_thenr ?_ | refine tri_thene ?_ | refine tri_blkn ?_ | refine tri_blkr ?_ | refine tri_blke ?_ | refine tri_blko (by rfl) ?_ | refine tri_if_t (by rfl) ?_ | refine tri_if_f (by rfl) ?_ | fail))
  refine ap_held rfl ?_
  refine ap_take 0 rfl rfl rfl ?_; refine ap_take 1 rfl rfl rfl ?_; refine ap_take 2 rfl rfl rfl ?_; refine ap_take 3 rfl rfl rfl ?_; refine ap_take 4 rfl rfl rfl ?_; refine ap_take 5 rfl rfl rfl ?_; refine ap_take 6 rfl rfl rfl ?_; refine ap_take 7 rfl rfl rfl ?_; refine ap_take 8 rfl rfl rfl ?_; refine ap_take 9 rfl rfl rfl ?_; refine ap_take 10 rfl rfl rfl ?_; refine ap_take 11 rfl rfl rfl ?_; refine ap_take 12 rfl rfl rfl ?_; refine ap_take 13 rfl rfl rfl ?_; refine ap_take 14 rfl rfl rfl ?_; refine ap_take 15 rfl rfl rfl ?_; refine ap_take 16 rfl rfl rfl ?_; refine ap_take 17 rfl rfl rfl ?_; refine ap_take 18 rfl rfl rfl ?_; refine ap_take 19 rfl rfl rfl ?_; refine ap_take 20 rfl rfl rfl ?_; refine ap_take 21 rfl rfl rfl ?_; refine ap_take 22 rfl rfl rfl ?_; refine ap_take 23 rfl rfl rfl ?_; refine ap_take 24 rfl rfl rfl ?_; refine ap_take 25 rfl rfl rfl ?_; refine ap_take 26 rfl rfl rfl ?_; refine ap_take 27 rfl rfl rfl ?_; refine ap_take 28 rfl rfl rfl ?_; refine ap_take 29 rfl rfl rfl ?_; refine ap_take 30 rfl rfl rfl ?_; refine ap_take 31 rfl rfl rfl ?_
  refine ap_op 32 rfl ?_
  refine au_lit rfl rfl rfl (fun _ => ?_)
  refine tri_nil ?_
  refine ap_in ?_
  refine ap_op 33 rfl ?_
  refine au_callC rfl rfl rfl rfl rfl (same_c w0 _ (l := aw1) (l' := aw1) (by repeat (first | assumption | exact rd_chunk (by first | (apply has_at; (repeat (first | exact at0 | apply atS)); done) | (repeat (first | assumption | apply has_cons))) | apply RdH.cons | refine RdH.cut ?_ rfl (by omega) (by omega))) (by repeat (first | assumption | exact rd_chunk (by first | (apply has_at; (repeat (first | exact at0 | apply atS)); done) | (repeat (first | assumption | apply has_cons))) | apply RdH.cons | refine RdH.cut ?_ rfl (by omega) (by omega))) (by decide) (by decide)) (fun _ => ?_)
  rw [decide_eq_true rfl]
  refine tri_nil ?_
  refine ap_in ?_
  refine ap_take 34 rfl rfl rfl ?_; refine ap_take 35 rfl rfl rfl ?_; refine ap_take 36 rfl rfl rfl ?_; refine ap_take 37 rfl rfl rfl ?_; refine ap_take 38 rfl rfl rfl ?_; refine ap_take 39 rfl rfl rfl ?_; refine ap_take 40 rfl rfl rfl ?_; refine ap_take 41 rfl rfl rfl ?_; refine ap_take 42 rfl rfl rfl ?_; refine ap_take 43 rfl rfl rfl ?_; refine ap_take 44 rfl rfl rfl ?_
  refine ap_op 45 rfl ?_
  refine au_callC rfl rfl rfl rfl rfl (fits_c w0 _ (l := aw0) 1 (by repeat (first | assumption | exact rd_chunk (by first | (apply has_at; (repeat (first | exact at0 | apply atS)); done) | (repeat (first | assumption | apply has_cons))) | apply RdH.cons | refine RdH.cut ?_ rfl (by omega) (by omega))) (by decide)) (fun _ => ?_)
  rw [show blockM aw0 1 freeB = -1 by decide]
  refine tri_nil ?_
  refine ap_in ?_
  refine ap_take 46 rfl rfl rfl ?_; refine ap_take 47 rfl rfl rfl ?_; refine ap_take 48 rfl rfl rfl ?_; refine ap_take 49 rfl rfl rfl ?_
  refine ap_op 50 rfl ?_
  refine au_callC rfl rfl rfl rfl rfl (fits_c w0 _ (l := aw1) 1 (by repeat (first | assumption | exact rd_chunk (by first | (apply has_at; (repeat (first | exact at0 | apply atS)); done) | (repeat (first | assumption | apply has_cons))) | apply RdH.cons | refine RdH.cut ?_ rfl (by omega) (by omega))) (by decide)) (fun _ => ?_)
  rw [show blockM aw1 1 freeB = 4 by decide]
  refine tri_nil ?_
  refine ap_in ?_
  refine ap_take 51 rfl rfl rfl ?_; refine ap_take 52 rfl rfl rfl ?_; refine ap_take 53 rfl rfl rfl ?_; refine ap_take 54 rfl rfl rfl ?_
  refine ap_op 55 rfl ?_
  refine au_callC rfl rfl rfl rfl rfl (possible_c w0 _ (l := aw0) 1 (by repeat (first | assumption | exact rd_chunk (by first | (apply has_at; (repeat (first | exact at0 | apply atS)); done) | (repeat (first | assumption | apply has_cons))) | apply RdH.cons | refine RdH.cut ?_ rfl (by omega) (by omega))) (by decide)) (fun _ => ?_)
  rw [show possM aw0 1 = 0 by decide]
  refine tri_nil ?_
  refine ap_in ?_
  refine ap_take 56 rfl rfl rfl ?_; refine ap_take 57 rfl rfl rfl ?_; refine ap_take 58 rfl rfl rfl ?_; refine ap_take 59 rfl rfl rfl ?_
  refine ap_op 60 rfl ?_
  refine au_callC rfl rfl rfl rfl rfl (possible_c w0 _ (l := aw0) 2 (by repeat (first | assumption | exact rd_chunk (by first | (apply has_at; (repeat (first | exact at0 | apply atS)); done) | (repeat (first | assumption | apply has_cons))) | apply RdH.cons | refine RdH.cut ?_ rfl (by omega) (by omega))) (by decide)) (fun _ => ?_)
  rw [show possM aw0 2 = -1 by decide]
  refine tri_nil ?_
  refine ap_in ?_
  refine ap_take 61 rfl rfl rfl ?_; refine ap_take 62 rfl rfl rfl ?_; refine ap_take 63 rfl rfl rfl ?_; refine ap_take 64 rfl rfl rfl ?_; refine ap_take 65 rfl rfl rfl ?_; refine ap_take 66 rfl rfl rfl ?_; refine ap_take 67 rfl rfl rfl ?_; refine ap_take 68 rfl rfl rfl ?_; refine ap_take 69 rfl rfl rfl ?_; refine ap_take 70 rfl rfl rfl ?_; refine ap_take 71 rfl rfl rfl ?_; refine ap_take 72 rfl rfl rfl ?_; refine ap_take 73 rfl rfl rfl ?_; refine ap_take 74 rfl rfl rfl ?_; refine ap_take 75 rfl rfl rfl ?_; refine ap_take 76 rfl rfl rfl ?_
  refine ap_op 77 rfl ?_
  refine au_callC rfl rfl rfl rfl rfl (check_c w0 _ (l := aw0) (by repeat (first | assumption | exact rd_chunk (by first | (apply has_at; (repeat (first | exact at0 | apply atS)); done) | (repeat (first | assumption | apply has_cons))) | apply RdH.cons | refine RdH.cut ?_ rfl (by omega) (by omega))) (by decide)) (fun _ => ?_)
  rw [show checkM aw0 = 0 by decide]
  refine tri_nil ?_
  refine ap_in ?_
  refine ap_take 78 rfl rfl rfl ?_; refine ap_take 79 rfl rfl rfl ?_; refine ap_take 80 rfl rfl rfl ?_
  refine ap_done ?_
  (repeat (first | refine au_pure ?_ | refine au_pass ?_ | refine au_box (fun _ => ?_) | refine au_alloc (fun _ => ?_) | refine au_store ?_ | refine au_make rfl rfl (fun _ => ?_) | refine au_lit rfl rfl rfl (fun _ => ?_) | refine au_append rfl rfl rfl rfl (fun _ => au_norm ?_) | refine au_storeE rfl rfl rfl rfl ?_ | refine tri_seq ?_ | refine tri_then ?_ | refine tri_region ?_ | refine tri_nil ?_ | refine tri_skip ?_ | refine tri_ret ?_ | refine tri_exit ?_ | refine tri_thenr ?_ | refine tri_thene ?_ | refine tri_blkn ?_ | refine tri_blkr ?_ | refine tri_blke ?_ | refine tri_blko (by rfl) ?_ | refine tri_if_t (by rfl) ?_ | refine tri_if_f (by rfl) ?_ | fail))
  refine au_done1 rfl ?_
  exact fun w hw => ⟨(), rfl, hw.sub (by repeat (first | exact List.Sublist.refl _ | assumption | apply List.Sublist.cons_cons | apply List.Sublist.cons))⟩
theorem few_c {v : Value} {l : List Int} (hR : RdH (Hp w0 cs) v l) (hlen : l.length ≤ 9223372036854775807) : Cal Try.prog 11 [v] (Hp w0 cs) (fun _ : Unit => .bool (decide ((l.length : Int) ≤ 80))) (fun _ => Hp w0 cs) := by
  refine cal_of_tri Try.func11 rfl Try.ntmps11 rfl ?_
  (repeat (first | refine au_pure ?_ | refine au_pass ?_ | refine au_box (fun _ => ?_) | refine au_alloc (fun _ => ?_) | refine au_store ?_ | refine au_make rfl rfl (fun _ => ?_) | refine au_lit rfl rfl rfl (fun _ => ?_) | refine au_append rfl rfl rfl rfl (fun _ => au_norm ?_) | refine au_storeE rfl rfl rfl rfl ?_ | refine tri_seq ?_ | refine tri_then ?_ | refine tri_region ?_ | refine tri_nil ?_ | refine tri_skip ?_ | refine tri_ret ?_ | refine tri_exit ?_ | refine tri_thenr ?_ | refine tri_thene ?_ | refine tri_blkn ?_ | refine tri_blkr ?_ | refine tri_blke ?_ | refine tri_blko (by rfl) ?_ | refine tri_if_t (by rfl) ?_ | refine tri_if_f (by rfl) ?_ | fail))
  refine au_done1 rfl ?_
  intro w hw; exact ⟨(), rfl, hw.sub (by repeat (first | exact List.Sublist.refl _ | assumption | apply List.Sublist.cons_cons | apply List.Sublist.cons))⟩
end
end Go.Proofs.Ytgajefdhmpgecaa
