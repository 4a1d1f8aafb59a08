/- Results whose rows stand behind what is known; play of both sides. No conditions. -/
import Derived.Test.YtinnkclemjognaaCowRef5
import Derived.Test.YtinnkclemjognaaCowRef6
import Derived.Test.YtinnkclemjognaaCowSame
import Derived.Test.YtinnkclemjognaaCowWorld
set_option linter.unusedSimpArgs false
set_option linter.unusedVariables false
namespace Go.Proofs.Ytinnkclemjognaa
open Go Go.RowKit
attribute [local irreducible] Code.wp wpList bodyPost Exit.then Exit.inBlock Calls wpQuiet Tri TriQ
instance : Enc OP where
  default := ⟨0, 0, 0, 0⟩
  sz := 4
  enc := fun x => [.int .i64 x.kd, .int .i64 x.s, .int .i64 x.p, .int .i64 x.w]
  dec := fun cs => match cs with | [.int _ a, .int _ b, .int _ c, .int _ d] => ⟨a, b, c, d⟩ | _ => ⟨0, 0, 0, 0⟩
  len := fun _ => rfl
  one := fun _ u hu => by simp at hu; rcases hu with rfl | rfl | rfl | rfl <;> rfl
  pos := by decide
instance : ElT Try.prog 40 OP := ⟨trivial⟩
abbrev opV (o : OP) : Value := .agg #[.int .i64 o.kd, .int .i64 o.s, .int .i64 o.p, .int .i64 o.w]
/-- A machine that reads behind R. -/
structure MR (w0 : World) (R : List Chunk) (m : CW) where
  sS : SV
  sF : SV
  xs : List SP
  ds : List Chunk
  rd : RdC (Hp w0 (R ++ ds)) sS.v sF.v xs m
abbrev mrV {w0 : World} {R : List Chunk} {m : CW} (q : MR w0 R m) : Value := cowV m.z q.sS.v q.sF.v m.cp
def mr_of {w0 : World} {R : List Chunk} {m : CW} (q : CR m.sp.length) : MR w0 R m := ⟨q.r.sv, q.f.sv, spx q.rs m.sp, CC q.r q.rs q.f m, (rdC_own (cs := R) q.hl).imp fun w h => HpM.perm h List.perm_append_comm⟩
theorem mr_H {w0 w : World} {K R : List Chunk} {m : CW} {q : CR m.sp.length} (h : crH w0 (K ++ R) q m w) : Hp w0 (K ++ (R ++ (mr_of (w0 := w0) (R := R) q).ds)) w := by
  have h2 : Hp w0 (CC q.r q.rs q.f m ++ (K ++ R)) w := h
  rw [← List.append_assoc]
  exact HpM.perm h2 List.perm_append_comm
theorem cal_b {w0 : World} {f : Nat} {args : List Value} {H : World → Prop} {K R : List Chunk} {m : CW} {V : Value → Value → Value} (h : Cal Try.prog f args H (fun q : CR m.sp.length => V q.r.v q.f.v) (fun q => crH w0 (K ++ R) q m)) :
    Cal Try.prog f args H (fun q : MR w0 R m => V q.sS.v q.sF.v) (fun q => Hp w0 (K ++ (R ++ q.ds))) := fun w hw => (h w hw).mono fun e w' ⟨q, he, hq⟩ => ⟨mr_of q, he, mr_H hq⟩
theorem RdC.app' {w0 : World} {K R : List Chunk} {vS vF : Value} {xs : List SP} {m : CW} (h : RdC (Hp w0 R) vS vF xs m) : RdC (Hp w0 (K ++ R)) vS vF xs m := h.app
def playM (m : CW) (o : OP) : CW × Int × Int := if o.kd = 0 then ((writeM m o.s o.p o.w).1, 0, (writeM m o.s o.p o.w).2) else if o.kd = 1 then forkM m o.s else if o.kd = 2 then ((unmM m o.s o.p).1, 0, (unmM m o.s o.p).2) else if o.kd = 3 then ((exitM m o.s).1, 0, (exitM m o.s).2) else (m, (readM m o.s o.p).1, (readM m o.s o.p).2)
section
variable (w0 : World) (K R : List Chunk) {sS sF : SV} {xs : List SP} {m : CW}
theorem new_b (n z : Int) : Cal Try.prog 11 [.int .i64 n, .int .i64 z] (Hp w0 (K ++ R)) (fun q : MR w0 R (newM n z).1 => .tuple #[mrV q, .int .i64 (newM n z).2]) (fun q => Hp w0 (K ++ (R ++ q.ds))) :=
  cal_b (V := fun a b => .tuple #[cowV (newM n z).1.z a b (newM n z).1.cp, .int .i64 (newM n z).2]) (new_c w0 (K ++ R) n z)
theorem rnew_b (n z : Int) : Cal Try.prog 16 [.int .i64 n, .int .i64 z] (Hp w0 (K ++ R)) (fun q : MR w0 R (newM n z).1 => .tuple #[mrV q, .int .i64 (newM n z).2]) (fun q => Hp w0 (K ++ (R ++ q.ds))) :=
  cal_b (V := fun a b => .tuple #[cowV (newM n z).1.z a b (newM n z).1.cp, .int .i64 (newM n z).2]) (rnew_c w0 (K ++ R) n z)
theorem write_b (s p wd : Int) (hC : RdC (Hp w0 R) sS.v sF.v xs m) (hL : CLe m) {m' : CW} {e : Int} (he : writeM m s p wd = (m', e)) :
    Cal Try.prog 12 [cowV m.z sS.v sF.v m.cp, .int .i64 s, .int .i64 p, .int .i64 wd] (Hp w0 (K ++ R)) (fun q : MR w0 R m' => .tuple #[mrV q, .int .i64 e]) (fun q => Hp w0 (K ++ (R ++ q.ds))) := by
  have h := write_c w0 (K ++ R) s p wd hC.app' hL
  rw [he] at h
  exact cal_b (V := fun a b => .tuple #[cowV m'.z a b m'.cp, .int .i64 e]) h
theorem fork_b (s : Int) (hC : RdC (Hp w0 R) sS.v sF.v xs m) (hL : CLe m) {m' : CW} {c e : Int} (he : forkM m s = (m', c, e)) :
    Cal Try.prog 13 [cowV m.z sS.v sF.v m.cp, .int .i64 s] (Hp w0 (K ++ R)) (fun q : MR w0 R m' => .tuple #[mrV q, .int .i64 c, .int .i64 e]) (fun q => Hp w0 (K ++ (R ++ q.ds))) := by
  have h := fork_c w0 (K ++ R) s hC.app' hL
  rw [he] at h
  exact cal_b (V := fun a b => .tuple #[cowV m'.z a b m'.cp, .int .i64 c, .int .i64 e]) h
theorem exit_b (s : Int) (hC : RdC (Hp w0 R) sS.v sF.v xs m) (hL : CLe m) {m' : CW} {e : Int} (he : exitM m s = (m', e)) :
    Cal Try.prog 14 [cowV m.z sS.v sF.v m.cp, .int .i64 s] (Hp w0 (K ++ R)) (fun q : MR w0 R m' => .tuple #[mrV q, .int .i64 e]) (fun q => Hp w0 (K ++ (R ++ q.ds))) := by
  have h := exit_c w0 (K ++ R) s hC.app' hL
  rw [he] at h
  exact cal_b (V := fun a b => .tuple #[cowV m'.z a b m'.cp, .int .i64 e]) h
theorem unmap_b (s p : Int) (hC : RdC (Hp w0 R) sS.v sF.v xs m) (hL : CLe m) {m' : CW} {e : Int} (he : unmM m s p = (m', e)) :
    Cal Try.prog 38 [cowV m.z sS.v sF.v m.cp, .int .i64 s, .int .i64 p] (Hp w0 (K ++ R)) (fun q : MR w0 R m' => .tuple #[mrV q, .int .i64 e]) (fun q => Hp w0 (K ++ (R ++ q.ds))) := by
  have h := unmap_c w0 (K ++ R) s p hC.app' hL
  rw [he] at h
  exact cal_b (V := fun a b => .tuple #[cowV m'.z a b m'.cp, .int .i64 e]) h
theorem rwrite_b (s p wd : Int) (hC : RdC (Hp w0 R) sS.v sF.v xs m) (hL : CLe m) {m' : CW} {e : Int} (he : writeM m s p wd = (m', e)) :
    Cal Try.prog 39 [cowV m.z sS.v sF.v m.cp, .int .i64 s, .int .i64 p, .int .i64 wd] (Hp w0 (K ++ R)) (fun q : MR w0 R m' => .tuple #[mrV q, .int .i64 e]) (fun q => Hp w0 (K ++ (R ++ q.ds))) := by
  have h := rwrite_c w0 (K ++ R) s p wd hC.app' hL
  rw [he] at h
  exact cal_b (V := fun a b => .tuple #[cowV m'.z a b m'.cp, .int .i64 e]) h
theorem rfork_b (s : Int) (hC : RdC (Hp w0 R) sS.v sF.v xs m) (hL : CLe m) {m' : CW} {c e : Int} (he : forkM m s = (m', c, e)) :
    Cal Try.prog 40 [cowV m.z sS.v sF.v m.cp, .int .i64 s] (Hp w0 (K ++ R)) (fun q : MR w0 R m' => .tuple #[mrV q, .int .i64 c, .int .i64 e]) (fun q => Hp w0 (K ++ (R ++ q.ds))) := by
  have h := rfork_c w0 (K ++ R) s hC.app' hL
  rw [he] at h
  exact cal_b (V := fun a b => .tuple #[cowV m'.z a b m'.cp, .int .i64 c, .int .i64 e]) h
theorem rexit_b (s : Int) (hC : RdC (Hp w0 R) sS.v sF.v xs m) (hL : CLe m) {m' : CW} {e : Int} (he : exitM m s = (m', e)) :
    Cal Try.prog 42 [cowV m.z sS.v sF.v m.cp, .int .i64 s] (Hp w0 (K ++ R)) (fun q : MR w0 R m' => .tuple #[mrV q, .int .i64 e]) (fun q => Hp w0 (K ++ (R ++ q.ds))) := by
  have h := rexit_c w0 (K ++ R) s hC.app' hL
  rw [he] at h
  exact cal_b (V := fun a b => .tuple #[cowV m'.z a b m'.cp, .int .i64 e]) h
theorem runmap_b (s p : Int) (hC : RdC (Hp w0 R) sS.v sF.v xs m) (hL : CLe m) {m' : CW} {e : Int} (he : unmM m s p = (m', e)) :
    Cal Try.prog 41 [cowV m.z sS.v sF.v m.cp, .int .i64 s, .int .i64 p] (Hp w0 (K ++ R)) (fun q : MR w0 R m' => .tuple #[mrV q, .int .i64 e]) (fun q => Hp w0 (K ++ (R ++ q.ds))) := by
  have h := runmap_c w0 (K ++ R) s p hC.app' hL
  rw [he] at h
  exact cal_b (V := fun a b => .tuple #[cowV m'.z a b m'.cp, .int .i64 e]) h
set_option maxHeartbeats 2000000 in
theorem play_b (o : OP) (hC : RdC (Hp w0 R) sS.v sF.v xs m) (hL : CLe m) :
    Cal Try.prog 18 [cowV m.z sS.v sF.v m.cp, opV o] (Hp w0 (K ++ R)) (fun q : MR w0 R (playM m o).1 => .tuple #[mrV q, .int .i64 (playM m o).2.1, .int .i64 (playM m o).2.2]) (fun q => Hp w0 (K ++ (R ++ q.ds))) := by
  refine cal_of_tri Try.func18 rfl Try.ntmps18 rfl ?_
  (repeat (first | refine au_pure ?_ | refine au_pass ?_ | refine au_box (fun _ => ?_) | refine au_alloc (fun _ => ?_) | refine au_store ?_ | refine au_make rfl rfl (fun _ => ?_) | refine au_lit rfl rfl rfl (fun _ => ?_) | refine au_append rfl rfl rfl rfl (fun _ => au_norm ?_) | refine au_storeE rfl rfl rfl rfl ?_ | refine tri_seq ?_ | refine tri_then ?_ | refine tri_region ?_ | refine tri_nil ?_ | refine tri_skip ?_ | refine tri_ret ?_ | refine tri_exit ?_ | refine tri_thenr ?_ | refine tri_thene ?_ | refine tri_blkn ?_ | refine tri_blkr ?_ | refine tri_blke ?_ | refine tri_blko (by rfl) ?_ | refine tri_if_t (by rfl) ?_ | refine tri_if_f (by rfl) ?_ | fail))
  refine tri_block ?_
  (repeat (first | refine au_pure ?_ | refine au_pass ?_ | refine au_box (fun _ => ?_) | refine au_alloc (fun _ => ?_) | refine au_store ?_ | refine au_make rfl rfl (fun _ => ?_) | refine au_lit rfl rfl rfl (fun _ => ?_) | refine au_append rfl rfl rfl rfl (fun _ => au_norm ?_) | refine au_storeE rfl rfl rfl rfl ?_ | refine tri_seq ?_ | refine tri_then ?_ | refine tri_region ?_ | refine tri_nil ?_ | refine tri_skip ?_ | refine tri_ret ?_ | refine tri_exit ?_ | refine tri_thenr ?_ | refine tri_thene ?_ | refine tri_blkn ?_ | refine tri_blkr ?_ | refine tri_blke ?_ | refine tri_blko (by rfl) ?_ | refine tri_if_t (by rfl) ?_ | refine tri_if_f (by rfl) ?_ | fail))
  cases hd0 : (o.kd == 0)
  · have h0 : ¬ o.kd = 0 := beq_eq_false_iff_ne.1 hd0
    (repeat (first | refine au_pure ?_ | refine au_pass ?_ | refine au_box (fun _ => ?_) | refine au_alloc (fun _ => ?_) | refine au_store ?_ | refine au_make rfl rfl (fun _ => ?_) | refine au_lit rfl rfl rfl (fun _ => ?_) | refine au_append rfl rfl rfl rfl (fun _ => au_norm ?_) | refine au_storeE rfl rfl rfl rfl ?_ | refine tri_seq ?_ | refine tri_then ?_ | refine tri_region ?_ | refine tri_nil ?_ | refine tri_skip ?_ | refine tri_ret ?_ | refine tri_exit ?_ | refine tri_thenr ?_ | refine tri_thene ?_ | refine tri_blkn ?_ | refine tri_blkr ?_ | refine tri_blke ?_ | refine tri_blko (by rfl) ?_ | refine tri_if_t (by rfl) ?_ | refine tri_if_f (by rfl) ?_ | fail))
    cases hd1 : (o.kd == 1)
    · have h1 : ¬ o.kd = 1 := beq_eq_false_iff_ne.1 hd1
      (repeat (first | refine au_pure ?_ | refine au_pass ?_ | refine au_box (fun _ => ?_) | refine au_alloc (fun _ => ?_) | refine au_store ?_ | refine au_make rfl rfl (fun _ => ?_) | refine au_lit rfl rfl rfl (fun _ => ?_) | refine au_append rfl rfl rfl rfl (fun _ => au_norm ?_) | refine au_storeE rfl rfl rfl rfl ?_ | refine tri_seq ?_ | refine tri_then ?_ | refine tri_region ?_ | refine tri_nil ?_ | refine tri_skip ?_ | refine tri_ret ?_ | refine tri_exit ?_ | refine tri_thenr ?_ | refine tri_thene ?_ | refine tri_blkn ?_ | refine tri_blkr ?_ | refine tri_blke ?_ | refine tri_blko (by rfl) ?_ | refine tri_if_t (by rfl) ?_ | refine tri_if_f (by rfl) ?_ | fail))
      cases hd2 : (o.kd == 2)
      · have h2 : ¬ o.kd = 2 := beq_eq_false_iff_ne.1 hd2
        (repeat (first | refine au_pure ?_ | refine au_pass ?_ | refine au_box (fun _ => ?_) | refine au_alloc (fun _ => ?_) | refine au_store ?_ | refine au_make rfl rfl (fun _ => ?_) | refine au_lit rfl rfl rfl (fun _ => ?_) | refine au_append rfl rfl rfl rfl (fun _ => au_norm ?_) | refine au_storeE rfl rfl rfl rfl ?_ | refine tri_seq ?_ | refine tri_then ?_ | refine tri_region ?_ | refine tri_nil ?_ | refine tri_skip ?_ | refine tri_ret ?_ | refine tri_exit ?_ | refine tri_thenr ?_ | refine tri_thene ?_ | refine tri_blkn ?_ | refine tri_blkr ?_ | refine tri_blke ?_ | refine tri_blko (by rfl) ?_ | refine tri_if_t (by rfl) ?_ | refine tri_if_f (by rfl) ?_ | fail))
        cases hd3 : (o.kd == 3)
        · have h3 : ¬ o.kd = 3 := beq_eq_false_iff_ne.1 hd3
          have he : playM m o = (m, (readM m o.s o.p).1, (readM m o.s o.p).2) := by unfold playM; rw [if_neg h0, if_neg h1, if_neg h2, if_neg h3]
          rw [he]
          (repeat (first | refine au_pure ?_ | refine au_pass ?_ | refine au_box (fun _ => ?_) | refine au_alloc (fun _ => ?_) | refine au_store ?_ | refine au_make rfl rfl (fun _ => ?_) | refine au_lit rfl rfl rfl (fun _ => ?_) | refine au_append rfl rfl rfl rfl (fun _ => au_norm ?_) | refine au_storeE rfl rfl rfl rfl ?_ | refine tri_seq ?_ | refine tri_then ?_ | refine tri_region ?_ | refine tri_nil ?_ | refine tri_skip ?_ | refine tri_ret ?_ | refine tri_exit ?_ | refine tri_thenr ?_ | refine tri_thene ?_ | refine tri_blkn ?_ | refine tri_blkr ?_ | refine tri_blke ?_ | refine tri_blko (by rfl) ?_ | refine tri_if_t (by rfl) ?_ | refine tri_if_f (by rfl) ?_ | fail))
          refine au_callC rfl rfl rfl rfl rfl (read_c w0 _ o.s o.p (hC.app (ds := K)).cons.cons.cons hL) (fun _ => ?_)
          (repeat (first | refine au_pure ?_ | refine au_pass ?_ | refine au_box (fun _ => ?_) | refine au_alloc (fun _ => ?_) | refine au_store ?_ | refine au_make rfl rfl (fun _ => ?_) | refine au_lit rfl rfl rfl (fun _ => ?_) | refine au_append rfl rfl rfl rfl (fun _ => au_norm ?_) | refine au_storeE rfl rfl rfl rfl ?_ | refine tri_seq ?_ | refine tri_then ?_ | refine tri_region ?_ | refine tri_nil ?_ | refine tri_skip ?_ | refine tri_ret ?_ | refine tri_exit ?_ | refine tri_thenr ?_ | refine tri_thene ?_ | refine tri_blkn ?_ | refine tri_blkr ?_ | refine tri_blke ?_ | refine tri_blko (by rfl) ?_ | refine tri_if_t (by rfl) ?_ | refine tri_if_f (by rfl) ?_ | fail))
          refine au_done3 rfl ?_
          exact fun w hw => ⟨⟨sS, sF, xs, [], by rw [List.append_nil]; exact hC⟩, rfl, by rw [List.append_nil]; exact hw.sub (by repeat (first | exact List.Sublist.refl _ | assumption | apply List.Sublist.cons_cons | apply List.Sublist.cons))⟩
        · have h3 : o.kd = 3 := beq_iff_eq.1 hd3
          have he : playM m o = ((exitM m o.s).1, 0, (exitM m o.s).2) := by unfold playM; rw [if_neg h0, if_neg h1, if_neg h2, if_pos h3]
          rw [he]
          (repeat (first | refine au_pure ?_ | refine au_pass ?_ | refine au_box (fun _ => ?_) | refine au_alloc (fun _ => ?_) | refine au_store ?_ | refine au_make rfl rfl (fun _ => ?_) | refine au_lit rfl rfl rfl (fun _ => ?_) | refine au_append rfl rfl rfl rfl (fun _ => au_norm ?_) | refine au_storeE rfl rfl rfl rfl ?_ | refine tri_seq ?_ | refine tri_then ?_ | refine tri_region ?_ | refine tri_nil ?_ | refine tri_skip ?_ | refine tri_ret ?_ | refine tri_exit ?_ | refine tri_thenr ?_ | refine tri_thene ?_ | refine tri_blkn ?_ | refine tri_blkr ?_ | refine tri_blke ?_ | refine tri_blko (by rfl) ?_ | refine tri_if_t (by rfl) ?_ | refine tri_if_f (by rfl) ?_ | fail))
          refine au_callC rfl rfl rfl rfl rfl (exit_b w0 (_ :: _ :: _ :: K) R o.s hC hL (m' := (exitM m o.s).1) (e := (exitM m o.s).2) rfl) ?_
          rintro ⟨sS1, sF1, xs1, ds1, rd1⟩
          refine au_norm ?_
          (repeat (first | refine au_pure ?_ | refine au_pass ?_ | refine au_box (fun _ => ?_) | refine au_alloc (fun _ => ?_) | refine au_store ?_ | refine au_make rfl rfl (fun _ => ?_) | refine au_lit rfl rfl rfl (fun _ => ?_) | refine au_append rfl rfl rfl rfl (fun _ => au_norm ?_) | refine au_storeE rfl rfl rfl rfl ?_ | refine tri_seq ?_ | refine tri_then ?_ | refine tri_region ?_ | refine tri_nil ?_ | refine tri_skip ?_ | refine tri_ret ?_ | refine tri_exit ?_ | refine tri_thenr ?_ | refine tri_thene ?_ | refine tri_blkn ?_ | refine tri_blkr ?_ | refine tri_blke ?_ | refine tri_blko (by rfl) ?_ | refine tri_if_t (by rfl) ?_ | refine tri_if_f (by rfl) ?_ | fail))
          refine au_done3 rfl ?_
          exact fun w hw => ⟨⟨sS1, sF1, xs1, ds1, rd1⟩, rfl, hw.sub (by repeat (first | exact List.Sublist.refl _ | assumption | apply List.Sublist.cons_cons | apply List.Sublist.cons))⟩
      · have h2 : o.kd = 2 := beq_iff_eq.1 hd2
        have he : playM m o = ((unmM m o.s o.p).1, 0, (unmM m o.s o.p).2) := by unfold playM; rw [if_neg h0, if_neg h1, if_pos h2]
        rw [he]
        (repeat (first | refine au_pure ?_ | refine au_pass ?_ | refine au_box (fun _ => ?_) | refine au_alloc (fun _ => ?_) | refine au_store ?_ | refine au_make rfl rfl (fun _ => ?_) | refine au_lit rfl rfl rfl (fun _ => ?_) | refine au_append rfl rfl rfl rfl (fun _ => au_norm ?_) | refine au_storeE rfl rfl rfl rfl ?_ | refine tri_seq ?_ | refine tri_then ?_ | refine tri_region ?_ | refine tri_nil ?_ | refine tri_skip ?_ | refine tri_ret ?_ | refine tri_exit ?_ | refine tri_thenr ?_ | refine tri_thene ?_ | refine tri_blkn ?_ | refine tri_blkr ?_ | refine tri_blke ?_ | refine tri_blko (by rfl) ?_ | refine tri_if_t (by rfl) ?_ | refine tri_if_f (by rfl) ?_ | fail))
        refine au_callC rfl rfl rfl rfl rfl (unmap_b w0 (_ :: _ :: _ :: K) R o.s o.p hC hL (m' := (unmM m o.s o.p).1) (e := (unmM m o.s o.p).2) rfl) ?_
        rintro ⟨sS1, sF1, xs1, ds1, rd1⟩
        refine au_norm ?_
        (repeat (first | refine au_pure ?_ | refine au_pass ?_ | refine au_box (fun _ => ?_) | refine au_alloc (fun _ => ?_) | refine au_store ?_ | refine au_make rfl rfl (fun _ => ?_) | refine au_lit rfl rfl rfl (fun _ => ?_) | refine au_append rfl rfl rfl rfl (fun _ => au_norm ?_) | refine au_storeE rfl rfl rfl rfl ?_ | refine tri_seq ?_ | refine tri_then ?_ | refine tri_region ?_ | refine tri_nil ?_ | refine tri_skip ?_ | refine tri_ret ?_ | refine tri_exit ?_ | refine tri_thenr ?_ | refine tri_thene ?_ | refine tri_blkn ?_ | refine tri_blkr ?_ | refine tri_blke ?_ | refine tri_blko (by rfl) ?_ | refine tri_if_t (by rfl) ?_ | refine tri_if_f (by rfl) ?_ | fail))
        refine au_done3 rfl ?_
        exact fun w hw => ⟨⟨sS1, sF1, xs1, ds1, rd1⟩, rfl, hw.sub (by repeat (first | exact List.Sublist.refl _ | assumption | apply List.Sublist.cons_cons | apply List.Sublist.cons))⟩
    · have h1 : o.kd = 1 := beq_iff_eq.1 hd1
      have he : playM m o = ((forkM m o.s).1, (forkM m o.s).2.1, (forkM m o.s).2.2) := by unfold playM; rw [if_neg h0, if_pos h1]
      rw [he]
      (repeat (first | refine au_pure ?_ | refine au_pass ?_ | refine au_box (fun _ => ?_) | refine au_alloc (fun _ => ?_) | refine au_store ?_ | refine au_make rfl rfl (fun _ => ?_) | refine au_lit rfl rfl rfl (fun _ => ?_) | refine au_append rfl rfl rfl rfl (fun _ => au_norm ?_) | refine au_storeE rfl rfl rfl rfl ?_ | refine tri_seq ?_ | refine tri_then ?_ | refine tri_region ?_ | refine tri_nil ?_ | refine tri_skip ?_ | refine tri_ret ?_ | refine tri_exit ?_ | refine tri_thenr ?_ | refine tri_thene ?_ | refine tri_blkn ?_ | refine tri_blkr ?_ | refine tri_blke ?_ | refine tri_blko (by rfl) ?_ | refine tri_if_t (by rfl) ?_ | refine tri_if_f (by rfl) ?_ | fail))
      refine au_callC rfl rfl rfl rfl rfl (fork_b w0 (_ :: _ :: _ :: K) R o.s hC hL (m' := (forkM m o.s).1) (c := (forkM m o.s).2.1) (e := (forkM m o.s).2.2) rfl) ?_
      rintro ⟨sS1, sF1, xs1, ds1, rd1⟩
      refine au_norm ?_
      (repeat (first | refine au_pure ?_ | refine au_pass ?_ | refine au_box (fun _ => ?_) | refine au_alloc (fun _ => ?_) | refine au_store ?_ | refine au_make rfl rfl (fun _ => ?_) | refine au_lit rfl rfl rfl (fun _ => ?_) | refine au_append rfl rfl rfl rfl (fun _ => au_norm ?_) | refine au_storeE rfl rfl rfl rfl ?_ | refine tri_seq ?_ | refine tri_then ?_ | refine tri_region ?_ | refine tri_nil ?_ | refine tri_skip ?_ | refine tri_ret ?_ | refine tri_exit ?_ | refine tri_thenr ?_ | refine tri_thene ?_ | refine tri_blkn ?_ | refine tri_blkr ?_ | refine tri_blke ?_ | refine tri_blko (by rfl) ?_ | refine tri_if_t (by rfl) ?_ | refine tri_if_f (by rfl) ?_ | fail))
      refine au_done3 rfl ?_
      exact fun w hw => ⟨⟨sS1, sF1, xs1, ds1, rd1⟩, rfl, hw.sub (by repeat (first | exact List.Sublist.refl _ | assumption | apply List.Sublist.cons_cons | apply List.Sublist.cons))⟩
  · have h0 : o.kd = 0 := beq_iff_eq.1 hd0
    have he : playM m o = ((writeM m o.s o.p o.w).1, 0, (writeM m o.s o.p o.w).2) := by unfold playM; rw [if_pos h0]
    rw [he]
    (repeat (first | refine au_pure ?_ | refine au_pass ?_ | refine au_box (fun _ => ?_) | refine au_alloc (fun _ => ?_) | refine au_store ?_ | refine au_make rfl rfl (fun _ => ?_) | refine au_lit rfl rfl rfl (fun _ => ?_) | refine au_append rfl rfl rfl rfl (fun _ => au_norm ?_) | refine au_storeE rfl rfl rfl rfl ?_ | refine tri_seq ?_ | refine tri_then ?_ | refine tri_region ?_ | refine tri_nil ?_ | refine tri_skip ?_ | refine tri_ret ?_ | refine tri_exit ?_ | refine tri_thenr ?_ | refine tri_thene ?_ | refine tri_blkn ?_ | refine tri_blkr ?_ | refine tri_blke ?_ | refine tri_blko (by rfl) ?_ | refine tri_if_t (by rfl) ?_ | refine tri_if_f (by rfl) ?_ | fail))
    refine au_callC rfl rfl rfl rfl rfl (write_b w0 (_ :: _ :: _ :: K) R o.s o.p o.w hC hL (m' := (writeM m o.s o.p o.w).1) (e := (writeM m o.s o.p o.w).2) rfl) ?_
    rintro ⟨sS1, sF1, xs1, ds1, rd1⟩
    refine au_norm ?_
    (repeat (first | refine au_pure ?_ | refine au_pass ?_ | refine au_box (fun _ => ?_) | refine au_alloc (fun _ => ?_) | refine au_store ?_ | refine au_make rfl rfl (fun _ => ?_) | refine au_lit rfl rfl rfl (fun _ => ?_) | refine au_append rfl rfl rfl rfl (fun _ => au_norm ?_) | refine au_storeE rfl rfl rfl rfl ?_ | refine tri_seq ?_ | refine tri_then ?_ | refine tri_region ?_ | refine tri_nil ?_ | refine tri_skip ?_ | refine tri_ret ?_ | refine tri_exit ?_ | refine tri_thenr ?_ | refine tri_thene ?_ | refine tri_blkn ?_ | refine tri_blkr ?_ | refine tri_blke ?_ | refine tri_blko (by rfl) ?_ | refine tri_if_t (by rfl) ?_ | refine tri_if_f (by rfl) ?_ | fail))
    refine au_done3 rfl ?_
    exact fun w hw => ⟨⟨sS1, sF1, xs1, ds1, rd1⟩, rfl, hw.sub (by repeat (first | exact List.Sublist.refl _ | assumption | apply List.Sublist.cons_cons | apply List.Sublist.cons))⟩
set_option maxHeartbeats 2000000 in
theorem rplay_b (o : OP) (hC : RdC (Hp w0 R) sS.v sF.v xs m) (hL : CLe m) :
    Cal Try.prog 19 [cowV m.z sS.v sF.v m.cp, opV o] (Hp w0 (K ++ R)) (fun q : MR w0 R (playM m o).1 => .tuple #[mrV q, .int .i64 (playM m o).2.1, .int .i64 (playM m o).2.2]) (fun q => Hp w0 (K ++ (R ++ q.ds))) := by
  refine cal_of_tri Try.func19 rfl Try.ntmps19 rfl ?_
  (repeat (first | refine au_pure ?_ | refine au_pass ?_ | refine au_box (fun _ => ?_) | refine au_alloc (fun _ => ?_) | refine au_store ?_ | refine au_make rfl rfl (fun _ => ?_) | refine au_lit rfl rfl rfl (fun _ => ?_) | refine au_append rfl rfl rfl rfl (fun _ => au_norm ?_) | refine au_storeE rfl rfl rfl rfl ?_ | refine tri_seq ?_ | refine tri_then ?_ | refine tri_region ?_ | refine tri_nil ?_ | refine tri_skip ?_ | refine tri_ret ?_ | refine tri_exit ?_ | refine tri_thenr ?_ | refine tri_thene ?_ | refine tri_blkn ?_ | refine tri_blkr ?_ | refine tri_blke ?_ | refine tri_blko (by rfl) ?_ | refine tri_if_t (by rfl) ?_ | refine tri_if_f (by rfl) ?_ | fail))
  cases hd0 : (o.kd == 0)
  · have h0 : ¬ o.kd = 0 := beq_eq_false_iff_ne.1 hd0
    (repeat (first | refine au_pure ?_ | refine au_pass ?_ | refine au_box (fun _ => ?_) | refine au_alloc (fun _ => ?_) | refine au_store ?_ | refine au_make rfl rfl (fun _ => ?_) | refine au_lit rfl rfl rfl (fun _ => ?_) | refine au_append rfl rfl rfl rfl (fun _ => au_norm ?_) | refine au_storeE rfl rfl rfl rfl ?_ | refine tri_seq ?_ | refine tri_then ?_ | refine tri_region ?_ | refine tri_nil ?_ | refine tri_skip ?_ | refine tri_ret ?_ | refine tri_exit ?_ | refine tri_thenr ?_ | refine tri_thene ?_ | refine tri_blkn ?_ | refine tri_blkr ?_ | refine tri_blke ?_ | refine tri_blko (by rfl) ?_ | refine tri_if_t (by rfl) ?_ | refine tri_if_f (by rfl) ?_ | fail))
    cases hd1 : (o.kd == 1)
    · have h1 : ¬ o.kd = 1 := beq_eq_false_iff_ne.1 hd1
      (repeat (first | refine au_pure ?_ | refine au_pass ?_ | refine au_box (fun _ => ?_) | refine au_alloc (fun _ => ?_) | refine au_store ?_ | refine au_make rfl rfl (fun _ => ?_) | refine au_lit rfl rfl rfl (fun _ => ?_) | refine au_append rfl rfl rfl rfl (fun _ => au_norm ?_) | refine au_storeE rfl rfl rfl rfl ?_ | refine tri_seq ?_ | refine tri_then ?_ | refine tri_region ?_ | refine tri_nil ?_ | refine tri_skip ?_ | refine tri_ret ?_ | refine tri_exit ?_ | refine tri_thenr ?_ | refine tri_thene ?_ | refine tri_blkn ?_ | refine tri_blkr ?_ | refine tri_blke ?_ | refine tri_blko (by rfl) ?_ | refine tri_if_t (by rfl) ?_ | refine tri_if_f (by rfl) ?_ | fail))
      cases hd2 : (o.kd == 2)
      · have h2 : ¬ o.kd = 2 := beq_eq_false_iff_ne.1 hd2
        (repeat (first | refine au_pure ?_ | refine au_pass ?_ | refine au_box (fun _ => ?_) | refine au_alloc (fun _ => ?_) | refine au_store ?_ | refine au_make rfl rfl (fun _ => ?_) | refine au_lit rfl rfl rfl (fun _ => ?_) | refine au_append rfl rfl rfl rfl (fun _ => au_norm ?_) | refine au_storeE rfl rfl rfl rfl ?_ | refine tri_seq ?_ | refine tri_then ?_ | refine tri_region ?_ | refine tri_nil ?_ | refine tri_skip ?_ | refine tri_ret ?_ | refine tri_exit ?_ | refine tri_thenr ?_ | refine tri_thene ?_ | refine tri_blkn ?_ | refine tri_blkr ?_ | refine tri_blke ?_ | refine tri_blko (by rfl) ?_ | refine tri_if_t (by rfl) ?_ | refine tri_if_f (by rfl) ?_ | fail))
        cases hd3 : (o.kd == 3)
        · have h3 : ¬ o.kd = 3 := beq_eq_false_iff_ne.1 hd3
          have he : playM m o = (m, (readM m o.s o.p).1, (readM m o.s o.p).2) := by unfold playM; rw [if_neg h0, if_neg h1, if_neg h2, if_neg h3]
          rw [he]
          (repeat (first | refine au_pure ?_ | refine au_pass ?_ | refine au_box (fun _ => ?_) | refine au_alloc (fun _ => ?_) | refine au_store ?_ | refine au_make rfl rfl (fun _ => ?_) | refine au_lit rfl rfl rfl (fun _ => ?_) | refine au_append rfl rfl rfl rfl (fun _ => au_norm ?_) | refine au_storeE rfl rfl rfl rfl ?_ | refine tri_seq ?_ | refine tri_then ?_ | refine tri_region ?_ | refine tri_nil ?_ | refine tri_skip ?_ | refine tri_ret ?_ | refine tri_exit ?_ | refine tri_thenr ?_ | refine tri_thene ?_ | refine tri_blkn ?_ | refine tri_blkr ?_ | refine tri_blke ?_ | refine tri_blko (by rfl) ?_ | refine tri_if_t (by rfl) ?_ | refine tri_if_f (by rfl) ?_ | fail))
          refine au_callC rfl rfl rfl rfl rfl (rread_c w0 _ o.s o.p (hC.app (ds := K)).cons.cons.cons hL) (fun _ => ?_)
          (repeat (first | refine au_pure ?_ | refine au_pass ?_ | refine au_box (fun _ => ?_) | refine au_alloc (fun _ => ?_) | refine au_store ?_ | refine au_make rfl rfl (fun _ => ?_) | refine au_lit rfl rfl rfl (fun _ => ?_) | refine au_append rfl rfl rfl rfl (fun _ => au_norm ?_) | refine au_storeE rfl rfl rfl rfl ?_ | refine tri_seq ?_ | refine tri_then ?_ | refine tri_region ?_ | refine tri_nil ?_ | refine tri_skip ?_ | refine tri_ret ?_ | refine tri_exit ?_ | refine tri_thenr ?_ | refine tri_thene ?_ | refine tri_blkn ?_ | refine tri_blkr ?_ | refine tri_blke ?_ | refine tri_blko (by rfl) ?_ | refine tri_if_t (by rfl) ?_ | refine tri_if_f (by rfl) ?_ | fail))
          refine au_done3 rfl ?_
          exact fun w hw => ⟨⟨sS, sF, xs, [], by rw [List.append_nil]; exact hC⟩, rfl, by rw [List.append_nil]; exact hw.sub (by repeat (first | exact List.Sublist.refl _ | assumption | apply List.Sublist.cons_cons | apply List.Sublist.cons))⟩
        · have h3 : o.kd = 3 := beq_iff_eq.1 hd3
          have he : playM m o = ((exitM m o.s).1, 0, (exitM m o.s).2) := by unfold playM; rw [if_neg h0, if_neg h1, if_neg h2, if_pos h3]
          rw [he]
          (repeat (first | refine au_pure ?_ | refine au_pass ?_ | refine au_box (fun _ => ?_) | refine au_alloc (fun _ => ?_) | refine au_store ?_ | refine au_make rfl rfl (fun _ => ?_) | refine au_lit rfl rfl rfl (fun _ => ?_) | refine au_append rfl rfl rfl rfl (fun _ => au_norm ?_) | refine au_storeE rfl rfl rfl rfl ?_ | refine tri_seq ?_ | refine tri_then ?_ | refine tri_region ?_ | refine tri_nil ?_ | refine tri_skip ?_ | refine tri_ret ?_ | refine tri_exit ?_ | refine tri_thenr ?_ | refine tri_thene ?_ | refine tri_blkn ?_ | refine tri_blkr ?_ | refine tri_blke ?_ | refine tri_blko (by rfl) ?_ | refine tri_if_t (by rfl) ?_ | refine tri_if_f (by rfl) ?_ | fail))
          refine au_callC rfl rfl rfl rfl rfl (rexit_b w0 (_ :: _ :: _ :: K) R o.s hC hL (m' := (exitM m o.s).1) (e := (exitM m o.s).2) rfl) ?_
          rintro ⟨sS1, sF1, xs1, ds1, rd1⟩
          refine au_norm ?_
          (repeat (first | refine au_pure ?_ | refine au_pass ?_ | refine au_box (fun _ => ?_) | refine au_alloc (fun _ => ?_) | refine au_store ?_ | refine au_make rfl rfl (fun _ => ?_) | refine au_lit rfl rfl rfl (fun _ => ?_) | refine au_append rfl rfl rfl rfl (fun _ => au_norm ?_) | refine au_storeE rfl rfl rfl rfl ?_ | refine tri_seq ?_ | refine tri_then ?_ | refine tri_region ?_ | refine tri_nil ?_ | refine tri_skip ?_ | refine tri_ret ?_ | refine tri_exit ?_ | refine tri_thenr ?_ | refine tri_thene ?_ | refine tri_blkn ?_ | refine tri_blkr ?_ | refine tri_blke ?_ | refine tri_blko (by rfl) ?_ | refine tri_if_t (by rfl) ?_ | refine tri_if_f (by rfl) ?_ | fail))
          refine au_done3 rfl ?_
          exact fun w hw => ⟨⟨sS1, sF1, xs1, ds1, rd1⟩, rfl, hw.sub (by repeat (first | exact List.Sublist.refl _ | assumption | apply List.Sublist.cons_cons | apply List.Sublist.cons))⟩
      · have h2 : o.kd = 2 := beq_iff_eq.1 hd2
        have he : playM m o = ((unmM m o.s o.p).1, 0, (unmM m o.s o.p).2) := by unfold playM; rw [if_neg h0, if_neg h1, if_pos h2]
        rw [he]
        (repeat (first | refine au_pure ?_ | refine au_pass ?_ | refine au_box (fun _ => ?_) | refine au_alloc (fun _ => ?_) | refine au_store ?_ | refine au_make rfl rfl (fun _ => ?_) | refine au_lit rfl rfl rfl (fun _ => ?_) | refine au_append rfl rfl rfl rfl (fun _ => au_norm ?_) | refine au_storeE rfl rfl rfl rfl ?_ | refine tri_seq ?_ | refine tri_then ?_ | refine tri_region ?_ | refine tri_nil ?_ | refine tri_skip ?_ | refine tri_ret ?_ | refine tri_exit ?_ | refine tri_thenr ?_ | refine tri_thene ?_ | refine tri_blkn ?_ | refine tri_blkr ?_ | refine tri_blke ?_ | refine tri_blko (by rfl) ?_ | refine tri_if_t (by rfl) ?_ | refine tri_if_f (by rfl) ?_ | fail))
        refine au_callC rfl rfl rfl rfl rfl (runmap_b w0 (_ :: _ :: _ :: K) R o.s o.p hC hL (m' := (unmM m o.s o.p).1) (e := (unmM m o.s o.p).2) rfl) ?_
        rintro ⟨sS1, sF1, xs1, ds1, rd1⟩
        refine au_norm ?_
        (repeat (first | refine au_pure ?_ | refine au_pass ?_ | refine au_box (fun _ => ?_) | refine au_alloc (fun _ => ?_) | refine au_store ?_ | refine au_make rfl rfl (fun _ => ?_) | refine au_lit rfl rfl rfl (fun _ => ?_) | refine au_append rfl rfl rfl rfl (fun _ => au_norm ?_) | refine au_storeE rfl rfl rfl rfl ?_ | refine tri_seq ?_ | refine tri_then ?_ | refine tri_region ?_ | refine tri_nil ?_ | refine tri_skip ?_ | refine tri_ret ?_ | refine tri_exit ?_ | refine tri_thenr ?_ | refine tri_thene ?_ | refine tri_blkn ?_ | refine tri_blkr ?_ | refine tri_blke ?_ | refine tri_blko (by rfl) ?_ | refine tri_if_t (by rfl) ?_ | refine tri_if_f (by rfl) ?_ | fail))
        refine au_done3 rfl ?_
        exact fun w hw => ⟨⟨sS1, sF1, xs1, ds1, rd1⟩, rfl, hw.sub (by repeat (first | exact List.Sublist.refl _ | assumption | apply List.Sublist.cons_cons | apply List.Sublist.cons))⟩
    · have h1 : o.kd = 1 := beq_iff_eq.1 hd1
      have he : playM m o = ((forkM m o.s).1, (forkM m o.s).2.1, (forkM m o.s).2.2) := by unfold playM; rw [if_neg h0, if_pos h1]
      rw [he]
      (repeat (first | refine au_pure ?_ | refine au_pass ?_ | refine au_box (fun _ => ?_) | refine au_alloc (fun _ => ?_) | refine au_store ?_ | refine au_make rfl rfl (fun _ => ?_) | refine au_lit rfl rfl rfl (fun _ => ?_) | refine au_append rfl rfl rfl rfl (fun _ => au_norm ?_) | refine au_storeE rfl rfl rfl rfl ?_ | refine tri_seq ?_ | refine tri_then ?_ | refine tri_region ?_ | refine tri_nil ?_ | refine tri_skip ?_ | refine tri_ret ?_ | refine tri_exit ?_ | refine tri_thenr ?_ | refine tri_thene ?_ | refine tri_blkn ?_ | refine tri_blkr ?_ | refine tri_blke ?_ | refine tri_blko (by rfl) ?_ | refine tri_if_t (by rfl) ?_ | refine tri_if_f (by rfl) ?_ | fail))
      refine au_callC rfl rfl rfl rfl rfl (rfork_b w0 (_ :: _ :: _ :: K) R o.s hC hL (m' := (forkM m o.s).1) (c := (forkM m o.s).2.1) (e := (forkM m o.s).2.2) rfl) ?_
      rintro ⟨sS1, sF1, xs1, ds1, rd1⟩
      refine au_norm ?_
      (repeat (first | refine au_pure ?_ | refine au_pass ?_ | refine au_box (fun _ => ?_) | refine au_alloc (fun _ => ?_) | refine au_store ?_ | refine au_make rfl rfl (fun _ => ?_) | refine au_lit rfl rfl rfl (fun _ => ?_) | refine au_append rfl rfl rfl rfl (fun _ => au_norm ?_) | refine au_storeE rfl rfl rfl rfl ?_ | refine tri_seq ?_ | refine tri_then ?_ | refine tri_region ?_ | refine tri_nil ?_ | refine tri_skip ?_ | refine tri_ret ?_ | refine tri_exit ?_ | refine tri_thenr ?_ | refine tri_thene ?_ | refine tri_blkn ?_ | refine tri_blkr ?_ | refine tri_blke ?_ | refine tri_blko (by rfl) ?_ | refine tri_if_t (by rfl) ?_ | refine tri_if_f (by rfl) ?_ | fail))
      refine au_done3 rfl ?_
      exact fun w hw => ⟨⟨sS1, sF1, xs1, ds1, rd1⟩, rfl, hw.sub (by repeat (first | exact List.Sublist.refl _ | assumption | apply List.Sublist.cons_cons | apply List.Sublist.cons))⟩
  · have h0 : o.kd = 0 := beq_iff_eq.1 hd0
    have he : playM m o = ((writeM m o.s o.p o.w).1, 0, (writeM m o.s o.p o.w).2) := by unfold playM; rw [if_pos h0]
    rw [he]
    (repeat (first | refine au_pure ?_ | refine au_pass ?_ | refine au_box (fun _ => ?_) | refine au_alloc (fun _ => ?_) | refine au_store ?_ | refine au_make rfl rfl (fun _ => ?_) | refine au_lit rfl rfl rfl (fun _ => ?_) | refine au_append rfl rfl rfl rfl (fun _ => au_norm ?_) | refine au_storeE rfl rfl rfl rfl ?_ | refine tri_seq ?_ | refine tri_then ?_ | refine tri_region ?_ | refine tri_nil ?_ | refine tri_skip ?_ | refine tri_ret ?_ | refine tri_exit ?_ | refine tri_thenr ?_ | refine tri_thene ?_ | refine tri_blkn ?_ | refine tri_blkr ?_ | refine tri_blke ?_ | refine tri_blko (by rfl) ?_ | refine tri_if_t (by rfl) ?_ | refine tri_if_f (by rfl) ?_ | fail))
    refine au_callC rfl rfl rfl rfl rfl (rwrite_b w0 (_ :: _ :: _ :: K) R o.s o.p o.w hC hL (m' := (writeM m o.s o.p o.w).1) (e := (writeM m o.s o.p o.w).2) rfl) ?_
    rintro ⟨sS1, sF1, xs1, ds1, rd1⟩
    refine au_norm ?_
    (repeat (first | refine au_pure ?_ | refine au_pass ?_ | refine au_box (fun _ => ?_) | refine au_alloc (fun _ => ?_) | refine au_store ?_ | refine au_make rfl rfl (fun _ => ?_) | refine au_lit rfl rfl rfl (fun _ => ?_) | refine au_append rfl rfl rfl rfl (fun _ => au_norm ?_) | refine au_storeE rfl rfl rfl rfl ?_ | refine tri_seq ?_ | refine tri_then ?_ | refine tri_region ?_ | refine tri_nil ?_ | refine tri_skip ?_ | refine tri_ret ?_ | refine tri_exit ?_ | refine tri_thenr ?_ | refine tri_thene ?_ | refine tri_blkn ?_ | refine tri_blkr ?_ | refine tri_blke ?_ | refine tri_blko (by rfl) ?_ | refine tri_if_t (by rfl) ?_ | refine tri_if_f (by rfl) ?_ | fail))
    refine au_done3 rfl ?_
    exact fun w hw => ⟨⟨sS1, sF1, xs1, ds1, rd1⟩, rfl, hw.sub (by repeat (first | exact List.Sublist.refl _ | assumption | apply List.Sublist.cons_cons | apply List.Sublist.cons))⟩
end
end Go.Proofs.Ytinnkclemjognaa
