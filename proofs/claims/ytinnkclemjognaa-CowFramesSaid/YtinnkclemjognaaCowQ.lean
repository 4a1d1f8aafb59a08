/- The contracts of both sides with results that do not speak of what they stand behind. No conditions. -/
import Derived.Test.YtinnkclemjognaaCowBack
set_option linter.unusedSimpArgs false
set_option linter.unusedVariables false
namespace Go.Proofs.Ytinnkclemjognaa
open Go Go.RowKit
theorem tri_pull [Dl] {n : Nat} {F : Act → World → Prop} {E : Env} {H : World → Prop} {Φ : Prop} (k : Φ → Tri n F E H) : Tri n F E (fun w => H w ∧ Φ) := by
  intro a w h1 h2
  have h3 : Tri n F E H := k h2.2
  exact h3 a w h1 h2.1
attribute [local irreducible] Code.wp wpList bodyPost Exit.then Exit.inBlock Calls wpQuiet Tri TriQ
theorem RdC.more {w0 : World} {R ds : List Chunk} {vS vF : Value} {xs : List SP} {m : CW} (h : RdC (Hp w0 R) vS vF xs m) : RdC (Hp w0 (R ++ ds)) vS vF xs m := h.sub (List.sublist_append_left ..)
/-- A machine's values and the rows that came with it. -/
structure QM where
  sS : SV
  sF : SV
  xs : List SP
  R : List Chunk
abbrev qV (m : CW) (q : QM) : Value := cowV m.z q.sS.v q.sF.v m.cp
abbrev qH (w0 : World) (K R : List Chunk) (m : CW) (q : QM) : World → Prop := fun w => Hp w0 (K ++ q.R) w ∧ (RdC (Hp w0 q.R) q.sS.v q.sF.v q.xs m ∧ R.Sublist q.R)
theorem nfA {α : Type} {l : List α} : Nf (List.append [] l) l := rfl
theorem cal_q {w0 : World} {f : Nat} {args : List Value} {H : World → Prop} {K R : List Chunk} {m : CW} {V : SV → SV → Value} (h : Cal Try.prog f args H (fun q : MR w0 R m => V q.sS q.sF) (fun q => Hp w0 (K ++ (R ++ q.ds)))) :
    Cal Try.prog f args H (fun q : QM => V q.sS q.sF) (qH w0 K R m) := fun w hw => (h w hw).mono fun e w' ⟨q, he, hq⟩ => ⟨⟨q.sS, q.sF, q.xs, R ++ q.ds⟩, he, hq, q.rd, List.sublist_append_left ..⟩
section
variable (w0 : World) (K R : List Chunk) {sS sF : SV} {xs : List SP} {m : CW}
theorem new_q (n z : Int) {m' : CW} {e : Int} (he : newM n z = (m', e)) : Cal Try.prog 11 [.int .i64 n, .int .i64 z] (Hp w0 (K ++ R)) (fun q : QM => .tuple #[qV m' q, .int .i64 e]) (qH w0 K R m') := by
  have h := new_b w0 K R n z
  rw [he] at h
  exact cal_q (V := fun a b => .tuple #[cowV m'.z a.v b.v m'.cp, .int .i64 e]) h
theorem rnew_q (n z : Int) {m' : CW} {e : Int} (he : newM n z = (m', e)) : Cal Try.prog 16 [.int .i64 n, .int .i64 z] (Hp w0 (K ++ R)) (fun q : QM => .tuple #[qV m' q, .int .i64 e]) (qH w0 K R m') := by
  have h := rnew_b w0 K R n z
  rw [he] at h
  exact cal_q (V := fun a b => .tuple #[cowV m'.z a.v b.v m'.cp, .int .i64 e]) h
theorem write_q (s p wd : Int) (hC : RdC (Hp w0 R) sS.v sF.v xs m) (hL : CLe m) {m' : CW} {e : Int} (he : writeM m s p wd = (m', e)) :
    Cal Try.prog 12 [cowV m.z sS.v sF.v m.cp, .int .i64 s, .int .i64 p, .int .i64 wd] (Hp w0 (K ++ R)) (fun q : QM => .tuple #[qV m' q, .int .i64 e]) (qH w0 K R m') :=
  cal_q (V := fun a b => .tuple #[cowV m'.z a.v b.v m'.cp, .int .i64 e]) (write_b w0 K R s p wd hC hL he)
theorem fork_q (s : Int) (hC : RdC (Hp w0 R) sS.v sF.v xs m) (hL : CLe m) {m' : CW} {c e : Int} (he : forkM m s = (m', c, e)) :
    Cal Try.prog 13 [cowV m.z sS.v sF.v m.cp, .int .i64 s] (Hp w0 (K ++ R)) (fun q : QM => .tuple #[qV m' q, .int .i64 c, .int .i64 e]) (qH w0 K R m') :=
  cal_q (V := fun a b => .tuple #[cowV m'.z a.v b.v m'.cp, .int .i64 c, .int .i64 e]) (fork_b w0 K R s hC hL he)
theorem exit_q (s : Int) (hC : RdC (Hp w0 R) sS.v sF.v xs m) (hL : CLe m) {m' : CW} {e : Int} (he : exitM m s = (m', e)) :
    Cal Try.prog 14 [cowV m.z sS.v sF.v m.cp, .int .i64 s] (Hp w0 (K ++ R)) (fun q : QM => .tuple #[qV m' q, .int .i64 e]) (qH w0 K R m') :=
  cal_q (V := fun a b => .tuple #[cowV m'.z a.v b.v m'.cp, .int .i64 e]) (exit_b w0 K R s hC hL he)
theorem play_q (o : OP) (hC : RdC (Hp w0 R) sS.v sF.v xs m) (hL : CLe m) {m' : CW} {c e : Int} (he : playM m o = (m', c, e)) :
    Cal Try.prog 18 [cowV m.z sS.v sF.v m.cp, opV o] (Hp w0 (K ++ R)) (fun q : QM => .tuple #[qV m' q, .int .i64 c, .int .i64 e]) (qH w0 K R m') := by
  have h := play_b w0 K R o hC hL
  rw [he] at h
  exact cal_q (V := fun a b => .tuple #[cowV m'.z a.v b.v m'.cp, .int .i64 c, .int .i64 e]) h
theorem rplay_q (o : OP) (hC : RdC (Hp w0 R) sS.v sF.v xs m) (hL : CLe m) {m' : CW} {c e : Int} (he : playM m o = (m', c, e)) :
    Cal Try.prog 19 [cowV m.z sS.v sF.v m.cp, opV o] (Hp w0 (K ++ R)) (fun q : QM => .tuple #[qV m' q, .int .i64 c, .int .i64 e]) (qH w0 K R m') := by
  have h := rplay_b w0 K R o hC hL
  rw [he] at h
  exact cal_q (V := fun a b => .tuple #[cowV m'.z a.v b.v m'.cp, .int .i64 c, .int .i64 e]) h
end
end Go.Proofs.Ytinnkclemjognaa
