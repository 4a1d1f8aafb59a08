/- The walk of the plain model of the spaces: a new one. No conditions. -/
import Derived.Test.YtinnkclemjognaaCowDo
import Derived.Test.YtinnkclemjognaaSeqN
set_option linter.unusedSimpArgs false
set_option linter.unusedVariables false
namespace Go.Proofs.Ytinnkclemjognaa
open Go Go.RowKit
theorem new_perm {A B C D G K : Chunk} {cs : List Chunk} : (A :: B :: C :: D :: G :: K :: cs).Perm (A :: B :: D :: K :: C :: G :: cs) := by
  refine List.Perm.cons _ (List.Perm.cons _ ?_)
  refine (List.Perm.swap D C _).trans (List.Perm.cons _ ?_)
  refine (List.Perm.cons C (List.Perm.swap K G _)).trans ?_
  exact List.Perm.swap K C _
attribute [local irreducible] Code.wp wpList bodyPost Exit.then Exit.inBlock Calls wpQuiet Tri TriQ
section
variable (w0 : World) (cs : List Chunk)
set_option maxHeartbeats 2000000 in
theorem newW_c (z : Nat) (hz : z ≤ 1000) : Cal Try.prog 48 [.int .i64 (z : Int)] (Hp w0 cs) (fun s : {s : Nat × WQ // WOk s.2 (newW z)} => .pointer (some ⟨s.1.1, 0, none⟩)) (fun s => Hp w0 (WC s.1.1 s.1.2 (newW z) ++ (WN s.1.2 (newW z) ++ cs))) := by
  refine cal_of_tri Try.func48 rfl Try.ntmps48 rfl ?_
  (repeat (first | refine tri_seq ?_ | refine tri_then ?_)); refine tri_region ?_; (repeat (first | refine au_pure ?_ | refine au_pass ?_ | refine au_box (fun _ => ?_) | refine au_alloc (fun _ => ?_) | refine au_store ?_ | refine au_make rfl rfl (fun _ => ?_) | refine au_lit rfl rfl rfl (fun _ => ?_) | refine au_append rfl rfl rfl rfl (fun _ => au_norm ?_) | refine au_storeE rfl rfl rfl rfl ?_)); refine tri_nil ?_; (repeat refine tri_then ?_)
  (repeat (first | refine tri_seq ?_ | refine tri_then ?_))
  refine an_held rfl ?_
  refine ar_free 1 rfl rfl rfl ?_; refine ar_free 4 rfl rfl rfl ?_
  refine an_start [false, true, false, false, true, false, false, false, false, false] (by rfl) ?_
  refine tn_have (V := Row × Row × Row × Row × Row) 3 [true, true, true, true, true, true, true, false, false, false] (fun v => [(0, .int .i64 (z : Int)), (4, .int .i64 (z : Int)), (7, .int .i64 (z : Int)), (3, v.1.v), (5, v.2.1.v), (6, v.2.2.1.v), (8, v.2.2.2.1.v), (9, v.2.2.2.2.v)]) (fun v => boS v.1 [true] :: intS v.2.1 (List.replicate z 0) :: outS v.2.2.1 [v.2.1.sv] :: intS v.2.2.2.1 (List.replicate z 0) :: outS v.2.2.2.2 [v.2.2.2.1.sv] :: cs) ?_ (fun h1_2_2 => ?_)
  · rintro ⟨r0, r1, r2, r3, r4⟩
    refine tn_op1 (i := 7) rfl ?_
    refine au_pure ?_
    refine tri_nil ?_; refine tn_next ?_
    refine tn_op1 (i := 8) rfl ?_
    refine au_box (fun g => ?_)
    refine tri_nil ?_; refine tn_next ?_
    refine tn_op1 (i := 9) rfl ?_
    refine au_pure ?_
    refine tri_nil ?_; refine tn_next ?_
    refine tn_done ?_
    (repeat (first | refine au_pure ?_ | refine au_pass ?_ | refine au_box (fun _ => ?_) | refine au_alloc (fun _ => ?_) | refine au_store ?_ | refine au_make rfl rfl (fun _ => ?_) | refine au_lit rfl rfl rfl (fun _ => ?_) | refine au_append rfl rfl rfl rfl (fun _ => au_norm ?_) | refine au_storeE rfl rfl rfl rfl ?_ | refine tri_seq ?_ | refine tri_then ?_ | refine tri_region ?_ | refine tri_nil ?_ | refine tri_skip ?_ | refine tri_ret ?_ | refine tri_exit ?_ | refine tri_thenr ?_ | refine tri_thene ?_ | refine tri_blkn ?_ | refine tri_blkr ?_ | refine tri_blke ?_ | refine tri_blko (by rfl) ?_ | refine tri_if_t (by rfl) ?_ | refine tri_if_f (by rfl) ?_ | fail))
    refine au_done1 rfl ?_
    intro w hw
    refine ⟨⟨(g, ⟨r0, r2, r4, [r1], [r3]⟩), ⟨rfl, rfl, rfl, rfl⟩⟩, rfl, ?_⟩
    have h2 := HpM.perm hw (new_perm (A := wB g r0.v r2.v r4.v 1) (B := boS r0 [true]) (C := intS r1 (List.replicate z 0)) (D := outS r2 [r1.sv]) (G := intS r3 (List.replicate z 0)) (K := outS r4 [r3.sv]) (cs := cs))
    exact h2
  refine tn_have (V := Row × Row × Row × Row) 4 [false, true, true, true, true, true, true, false, false, false] (fun v => [(0, .int .i64 (z : Int)), (4, .int .i64 (z : Int)), (7, .int .i64 (z : Int)), (5, v.1.v), (6, v.2.1.v), (8, v.2.2.1.v), (9, v.2.2.2.v)]) (fun v => intS v.1 (List.replicate z 0) :: outS v.2.1 [v.1.sv] :: intS v.2.2.1 (List.replicate z 0) :: outS v.2.2.2 [v.2.2.1.sv] :: cs) ?_ (fun h0_2_2 => ?_)
  · rintro ⟨r1, r2, r3, r4⟩
    refine tn_op1 rfl ?_ (i := 0) 
    · refine au_lit (l := ([true] : List Bool)) rfl rfl rfl (fun r0 => ?_)
      refine tri_nil ?_
      exact tn_in (h1_2_2 ⟨r0, r1, r2, r3, r4⟩) (by repeat (first | exact trivial | refine ⟨rfl, ?_⟩)) (fun w h => h)
  refine tn_have (V := Row × Row × Row × Row) 4 [true, true, true, false, true, true, true, false, false, false] (fun v => [(0, .int .i64 (z : Int)), (4, .int .i64 (z : Int)), (7, .int .i64 (z : Int)), (3, v.1.v), (5, v.2.1.v), (8, v.2.2.1.v), (9, v.2.2.2.v)]) (fun v => boS v.1 [true] :: intS v.2.1 (List.replicate z 0) :: intS v.2.2.1 (List.replicate z 0) :: outS v.2.2.2 [v.2.2.1.sv] :: cs) ?_ (fun h1_1_2 => ?_)
  · rintro ⟨r0, r1, r3, r4⟩
    refine tn_op1 rfl ?_ (i := 3) 
    · refine au_lit (l := ([r1.sv] : List SV)) rfl rfl rfl (fun r2 => ?_)
      refine tri_front 2 rfl (by repeat (first | exact nf0 rfl | apply nfS rfl | exact nfR)) ?_
      refine tri_front 2 rfl (by repeat (first | exact nf0 rfl | apply nfS rfl | exact nfR)) ?_
      refine tri_nil ?_
      exact tn_in (h1_2_2 ⟨r0, r1, r2, r3, r4⟩) (by repeat (first | exact trivial | refine ⟨rfl, ?_⟩)) (fun w h => h)
  refine tn_have (V := Row × Row × Row × Row) 4 [true, true, true, true, true, true, false, false, false, false] (fun v => [(0, .int .i64 (z : Int)), (4, .int .i64 (z : Int)), (7, .int .i64 (z : Int)), (3, v.1.v), (5, v.2.1.v), (6, v.2.2.1.v), (8, v.2.2.2.v)]) (fun v => boS v.1 [true] :: intS v.2.1 (List.replicate z 0) :: outS v.2.2.1 [v.2.1.sv] :: intS v.2.2.2 (List.replicate z 0) :: cs) ?_ (fun h1_2_1 => ?_)
  · rintro ⟨r0, r1, r2, r3⟩
    refine tn_op1 rfl ?_ (i := 6) 
    · refine au_lit (l := ([r3.sv] : List SV)) rfl rfl rfl (fun r4 => ?_)
      refine tri_front 4 rfl (by repeat (first | exact nf0 rfl | apply nfS rfl | exact nfR)) ?_
      refine tri_front 4 rfl (by repeat (first | exact nf0 rfl | apply nfS rfl | exact nfR)) ?_
      refine tri_front 4 rfl (by repeat (first | exact nf0 rfl | apply nfS rfl | exact nfR)) ?_
      refine tri_front 4 rfl (by repeat (first | exact nf0 rfl | apply nfS rfl | exact nfR)) ?_
      refine tri_nil ?_
      exact tn_in (h1_2_2 ⟨r0, r1, r2, r3, r4⟩) (by repeat (first | exact trivial | refine ⟨rfl, ?_⟩)) (fun w h => h)
  refine tn_have (V := Row × Row × Row) 5 [false, true, true, false, true, true, true, false, false, false] (fun v => [(0, .int .i64 (z : Int)), (4, .int .i64 (z : Int)), (7, .int .i64 (z : Int)), (5, v.1.v), (8, v.2.1.v), (9, v.2.2.v)]) (fun v => intS v.1 (List.replicate z 0) :: intS v.2.1 (List.replicate z 0) :: outS v.2.2 [v.2.1.sv] :: cs) ?_ (fun h0_1_2 => ?_)
  · rintro ⟨r1, r3, r4⟩
    refine tn_op2 rfl rfl ?_ ?_ (i := 0) (j := 3) 
    · refine au_lit (l := ([true] : List Bool)) rfl rfl rfl (fun r0 => ?_)
      refine tri_nil ?_
      exact tn_in (h1_1_2 ⟨r0, r1, r3, r4⟩) (by repeat (first | exact trivial | refine ⟨rfl, ?_⟩)) (fun w h => h)
    · refine au_lit (l := ([r1.sv] : List SV)) rfl rfl rfl (fun r2 => ?_)
      refine tri_front 1 rfl (by repeat (first | exact nf0 rfl | apply nfS rfl | exact nfR)) ?_
      refine tri_nil ?_
      exact tn_in (h0_2_2 ⟨r1, r2, r3, r4⟩) (by repeat (first | exact trivial | refine ⟨rfl, ?_⟩)) (fun w h => h)
  refine tn_have (V := Row × Row × Row) 5 [false, true, true, true, true, true, false, false, false, false] (fun v => [(0, .int .i64 (z : Int)), (4, .int .i64 (z : Int)), (7, .int .i64 (z : Int)), (5, v.1.v), (6, v.2.1.v), (8, v.2.2.v)]) (fun v => intS v.1 (List.replicate z 0) :: outS v.2.1 [v.1.sv] :: intS v.2.2 (List.replicate z 0) :: cs) ?_ (fun h0_2_1 => ?_)
  · rintro ⟨r1, r2, r3⟩
    refine tn_op2 rfl rfl ?_ ?_ (i := 0) (j := 6) 
    · refine au_lit (l := ([true] : List Bool)) rfl rfl rfl (fun r0 => ?_)
      refine tri_nil ?_
      exact tn_in (h1_2_1 ⟨r0, r1, r2, r3⟩) (by repeat (first | exact trivial | refine ⟨rfl, ?_⟩)) (fun w h => h)
    · refine au_lit (l := ([r3.sv] : List SV)) rfl rfl rfl (fun r4 => ?_)
      refine tri_front 3 rfl (by repeat (first | exact nf0 rfl | apply nfS rfl | exact nfR)) ?_
      refine tri_front 3 rfl (by repeat (first | exact nf0 rfl | apply nfS rfl | exact nfR)) ?_
      refine tri_front 3 rfl (by repeat (first | exact nf0 rfl | apply nfS rfl | exact nfR)) ?_
      refine tri_nil ?_
      exact tn_in (h0_2_2 ⟨r1, r2, r3, r4⟩) (by repeat (first | exact trivial | refine ⟨rfl, ?_⟩)) (fun w h => h)
  refine tn_have (V := Row × Row × Row) 5 [true, true, false, false, true, true, true, false, false, false] (fun v => [(0, .int .i64 (z : Int)), (4, .int .i64 (z : Int)), (7, .int .i64 (z : Int)), (3, v.1.v), (8, v.2.1.v), (9, v.2.2.v)]) (fun v => boS v.1 [true] :: intS v.2.1 (List.replicate z 0) :: outS v.2.2 [v.2.1.sv] :: cs) ?_ (fun h1_0_2 => ?_)
  · rintro ⟨r0, r3, r4⟩
    refine tn_op1 rfl ?_ (i := 2) 
    · refine au_make (α := Int) (k := z) (c := z) rfl rfl (fun r1 => ?_)
      refine tri_front 1 rfl (by repeat (first | exact nf0 rfl | apply nfS rfl | exact nfR)) ?_
      refine tri_nil ?_
      exact tn_in (h1_1_2 ⟨r0, r1, r3, r4⟩) (by repeat (first | exact trivial | refine ⟨rfl, ?_⟩)) (fun w h => h)
  refine tn_have (V := Row × Row × Row) 5 [true, true, true, false, true, true, false, false, false, false] (fun v => [(0, .int .i64 (z : Int)), (4, .int .i64 (z : Int)), (7, .int .i64 (z : Int)), (3, v.1.v), (5, v.2.1.v), (8, v.2.2.v)]) (fun v => boS v.1 [true] :: intS v.2.1 (List.replicate z 0) :: intS v.2.2 (List.replicate z 0) :: cs) ?_ (fun h1_1_1 => ?_)
  · rintro ⟨r0, r1, r3⟩
    refine tn_op2 rfl rfl ?_ ?_ (i := 3) (j := 6) 
    · refine au_lit (l := ([r1.sv] : List SV)) rfl rfl rfl (fun r2 => ?_)
      refine tri_front 2 rfl (by repeat (first | exact nf0 rfl | apply nfS rfl | exact nfR)) ?_
      refine tri_front 2 rfl (by repeat (first | exact nf0 rfl | apply nfS rfl | exact nfR)) ?_
      refine tri_nil ?_
      exact tn_in (h1_2_1 ⟨r0, r1, r2, r3⟩) (by repeat (first | exact trivial | refine ⟨rfl, ?_⟩)) (fun w h => h)
    · refine au_lit (l := ([r3.sv] : List SV)) rfl rfl rfl (fun r4 => ?_)
      refine tri_front 3 rfl (by repeat (first | exact nf0 rfl | apply nfS rfl | exact nfR)) ?_
      refine tri_front 3 rfl (by repeat (first | exact nf0 rfl | apply nfS rfl | exact nfR)) ?_
      refine tri_front 3 rfl (by repeat (first | exact nf0 rfl | apply nfS rfl | exact nfR)) ?_
      refine tri_nil ?_
      exact tn_in (h1_1_2 ⟨r0, r1, r3, r4⟩) (by repeat (first | exact trivial | refine ⟨rfl, ?_⟩)) (fun w h => h)
  refine tn_have (V := Row × Row × Row) 5 [true, true, true, true, true, false, false, false, false, false] (fun v => [(0, .int .i64 (z : Int)), (4, .int .i64 (z : Int)), (7, .int .i64 (z : Int)), (3, v.1.v), (5, v.2.1.v), (6, v.2.2.v)]) (fun v => boS v.1 [true] :: intS v.2.1 (List.replicate z 0) :: outS v.2.2 [v.2.1.sv] :: cs) ?_ (fun h1_2_0 => ?_)
  · rintro ⟨r0, r1, r2⟩
    refine tn_op1 rfl ?_ (i := 5) 
    · refine au_make (α := Int) (k := z) (c := z) rfl rfl (fun r3 => ?_)
      refine tri_front 3 rfl (by repeat (first | exact nf0 rfl | apply nfS rfl | exact nfR)) ?_
      refine tri_front 3 rfl (by repeat (first | exact nf0 rfl | apply nfS rfl | exact nfR)) ?_
      refine tri_front 3 rfl (by repeat (first | exact nf0 rfl | apply nfS rfl | exact nfR)) ?_
      refine tri_nil ?_
      exact tn_in (h1_2_1 ⟨r0, r1, r2, r3⟩) (by repeat (first | exact trivial | refine ⟨rfl, ?_⟩)) (fun w h => h)
  refine tn_have (V := Row × Row) 6 [false, true, false, false, true, true, true, false, false, false] (fun v => [(0, .int .i64 (z : Int)), (4, .int .i64 (z : Int)), (7, .int .i64 (z : Int)), (8, v.1.v), (9, v.2.v)]) (fun v => intS v.1 (List.replicate z 0) :: outS v.2 [v.1.sv] :: cs) ?_ (fun h0_0_2 => ?_)
  · rintro ⟨r3, r4⟩
    refine tn_op2 rfl rfl ?_ ?_ (i := 0) (j := 2) 
    · refine au_lit (l := ([true] : List Bool)) rfl rfl rfl (fun r0 => ?_)
      refine tri_nil ?_
      exact tn_in (h1_0_2 ⟨r0, r3, r4⟩) (by repeat (first | exact trivial | refine ⟨rfl, ?_⟩)) (fun w h => h)
    · refine au_make (α := Int) (k := z) (c := z) rfl rfl (fun r1 => ?_)
      refine tri_nil ?_
      exact tn_in (h0_1_2 ⟨r1, r3, r4⟩) (by repeat (first | exact trivial | refine ⟨rfl, ?_⟩)) (fun w h => h)
  refine tn_have (V := Row × Row) 6 [false, true, true, false, true, true, false, false, false, false] (fun v => [(0, .int .i64 (z : Int)), (4, .int .i64 (z : Int)), (7, .int .i64 (z : Int)), (5, v.1.v), (8, v.2.v)]) (fun v => intS v.1 (List.replicate z 0) :: intS v.2 (List.replicate z 0) :: cs) ?_ (fun h0_1_1 => ?_)
  · rintro ⟨r1, r3⟩
    refine tn_op3 rfl rfl rfl ?_ ?_ ?_ (i := 0) (j := 3) (m := 6) 
    · refine au_lit (l := ([true] : List Bool)) rfl rfl rfl (fun r0 => ?_)
      refine tri_nil ?_
      exact tn_in (h1_1_1 ⟨r0, r1, r3⟩) (by repeat (first | exact trivial | refine ⟨rfl, ?_⟩)) (fun w h => h)
    · refine au_lit (l := ([r1.sv] : List SV)) rfl rfl rfl (fun r2 => ?_)
      refine tri_front 1 rfl (by repeat (first | exact nf0 rfl | apply nfS rfl | exact nfR)) ?_
      refine tri_nil ?_
      exact tn_in (h0_2_1 ⟨r1, r2, r3⟩) (by repeat (first | exact trivial | refine ⟨rfl, ?_⟩)) (fun w h => h)
    · refine au_lit (l := ([r3.sv] : List SV)) rfl rfl rfl (fun r4 => ?_)
      refine tri_front 2 rfl (by repeat (first | exact nf0 rfl | apply nfS rfl | exact nfR)) ?_
      refine tri_front 2 rfl (by repeat (first | exact nf0 rfl | apply nfS rfl | exact nfR)) ?_
      refine tri_nil ?_
      exact tn_in (h0_1_2 ⟨r1, r3, r4⟩) (by repeat (first | exact trivial | refine ⟨rfl, ?_⟩)) (fun w h => h)
  refine tn_have (V := Row × Row) 6 [false, true, true, true, true, false, false, false, false, false] (fun v => [(0, .int .i64 (z : Int)), (4, .int .i64 (z : Int)), (7, .int .i64 (z : Int)), (5, v.1.v), (6, v.2.v)]) (fun v => intS v.1 (List.replicate z 0) :: outS v.2 [v.1.sv] :: cs) ?_ (fun h0_2_0 => ?_)
  · rintro ⟨r1, r2⟩
    refine tn_op2 rfl rfl ?_ ?_ (i := 0) (j := 5) 
    · refine au_lit (l := ([true] : List Bool)) rfl rfl rfl (fun r0 => ?_)
      refine tri_nil ?_
      exact tn_in (h1_2_0 ⟨r0, r1, r2⟩) (by repeat (first | exact trivial | refine ⟨rfl, ?_⟩)) (fun w h => h)
    · refine au_make (α := Int) (k := z) (c := z) rfl rfl (fun r3 => ?_)
      refine tri_front 2 rfl (by repeat (first | exact nf0 rfl | apply nfS rfl | exact nfR)) ?_
      refine tri_front 2 rfl (by repeat (first | exact nf0 rfl | apply nfS rfl | exact nfR)) ?_
      refine tri_nil ?_
      exact tn_in (h0_2_1 ⟨r1, r2, r3⟩) (by repeat (first | exact trivial | refine ⟨rfl, ?_⟩)) (fun w h => h)
  refine tn_have (V := Row × Row) 6 [true, true, false, false, true, true, false, false, false, false] (fun v => [(0, .int .i64 (z : Int)), (4, .int .i64 (z : Int)), (7, .int .i64 (z : Int)), (3, v.1.v), (8, v.2.v)]) (fun v => boS v.1 [true] :: intS v.2 (List.replicate z 0) :: cs) ?_ (fun h1_0_1 => ?_)
  · rintro ⟨r0, r3⟩
    refine tn_op2 rfl rfl ?_ ?_ (i := 2) (j := 6) 
    · refine au_make (α := Int) (k := z) (c := z) rfl rfl (fun r1 => ?_)
      refine tri_front 1 rfl (by repeat (first | exact nf0 rfl | apply nfS rfl | exact nfR)) ?_
      refine tri_nil ?_
      exact tn_in (h1_1_1 ⟨r0, r1, r3⟩) (by repeat (first | exact trivial | refine ⟨rfl, ?_⟩)) (fun w h => h)
    · refine au_lit (l := ([r3.sv] : List SV)) rfl rfl rfl (fun r4 => ?_)
      refine tri_front 2 rfl (by repeat (first | exact nf0 rfl | apply nfS rfl | exact nfR)) ?_
      refine tri_front 2 rfl (by repeat (first | exact nf0 rfl | apply nfS rfl | exact nfR)) ?_
      refine tri_nil ?_
      exact tn_in (h1_0_2 ⟨r0, r3, r4⟩) (by repeat (first | exact trivial | refine ⟨rfl, ?_⟩)) (fun w h => h)
  refine tn_have (V := Row × Row) 6 [true, true, true, false, true, false, false, false, false, false] (fun v => [(0, .int .i64 (z : Int)), (4, .int .i64 (z : Int)), (7, .int .i64 (z : Int)), (3, v.1.v), (5, v.2.v)]) (fun v => boS v.1 [true] :: intS v.2 (List.replicate z 0) :: cs) ?_ (fun h1_1_0 => ?_)
  · rintro ⟨r0, r1⟩
    refine tn_op2 rfl rfl ?_ ?_ (i := 3) (j := 5) 
    · refine au_lit (l := ([r1.sv] : List SV)) rfl rfl rfl (fun r2 => ?_)
      refine tri_front 2 rfl (by repeat (first | exact nf0 rfl | apply nfS rfl | exact nfR)) ?_
      refine tri_front 2 rfl (by repeat (first | exact nf0 rfl | apply nfS rfl | exact nfR)) ?_
      refine tri_nil ?_
      exact tn_in (h1_2_0 ⟨r0, r1, r2⟩) (by repeat (first | exact trivial | refine ⟨rfl, ?_⟩)) (fun w h => h)
    · refine au_make (α := Int) (k := z) (c := z) rfl rfl (fun r3 => ?_)
      refine tri_front 2 rfl (by repeat (first | exact nf0 rfl | apply nfS rfl | exact nfR)) ?_
      refine tri_front 2 rfl (by repeat (first | exact nf0 rfl | apply nfS rfl | exact nfR)) ?_
      refine tri_nil ?_
      exact tn_in (h1_1_1 ⟨r0, r1, r3⟩) (by repeat (first | exact trivial | refine ⟨rfl, ?_⟩)) (fun w h => h)
  refine tn_have (V := Row) 7 [false, true, false, false, true, true, false, false, false, false] (fun v => [(0, .int .i64 (z : Int)), (4, .int .i64 (z : Int)), (7, .int .i64 (z : Int)), (8, v.v)]) (fun v => intS v (List.replicate z 0) :: cs) ?_ (fun h0_0_1 => ?_)
  · rintro r3
    refine tn_op3 rfl rfl rfl ?_ ?_ ?_ (i := 0) (j := 2) (m := 6) 
    · refine au_lit (l := ([true] : List Bool)) rfl rfl rfl (fun r0 => ?_)
      refine tri_nil ?_
      exact tn_in (h1_0_1 ⟨r0, r3⟩) (by repeat (first | exact trivial | refine ⟨rfl, ?_⟩)) (fun w h => h)
    · refine au_make (α := Int) (k := z) (c := z) rfl rfl (fun r1 => ?_)
      refine tri_nil ?_
      exact tn_in (h0_1_1 ⟨r1, r3⟩) (by repeat (first | exact trivial | refine ⟨rfl, ?_⟩)) (fun w h => h)
    · refine au_lit (l := ([r3.sv] : List SV)) rfl rfl rfl (fun r4 => ?_)
      refine tri_front 1 rfl (by repeat (first | exact nf0 rfl | apply nfS rfl | exact nfR)) ?_
      refine tri_nil ?_
      exact tn_in (h0_0_2 ⟨r3, r4⟩) (by repeat (first | exact trivial | refine ⟨rfl, ?_⟩)) (fun w h => h)
  refine tn_have (V := Row) 7 [false, true, true, false, true, false, false, false, false, false] (fun v => [(0, .int .i64 (z : Int)), (4, .int .i64 (z : Int)), (7, .int .i64 (z : Int)), (5, v.v)]) (fun v => intS v (List.replicate z 0) :: cs) ?_ (fun h0_1_0 => ?_)
  · rintro r1
    refine tn_op3 rfl rfl rfl ?_ ?_ ?_ (i := 0) (j := 3) (m := 5) 
    · refine au_lit (l := ([true] : List Bool)) rfl rfl rfl (fun r0 => ?_)
      refine tri_nil ?_
      exact tn_in (h1_1_0 ⟨r0, r1⟩) (by repeat (first | exact trivial | refine ⟨rfl, ?_⟩)) (fun w h => h)
    · refine au_lit (l := ([r1.sv] : List SV)) rfl rfl rfl (fun r2 => ?_)
      refine tri_front 1 rfl (by repeat (first | exact nf0 rfl | apply nfS rfl | exact nfR)) ?_
      refine tri_nil ?_
      exact tn_in (h0_2_0 ⟨r1, r2⟩) (by repeat (first | exact trivial | refine ⟨rfl, ?_⟩)) (fun w h => h)
    · refine au_make (α := Int) (k := z) (c := z) rfl rfl (fun r3 => ?_)
      refine tri_front 1 rfl (by repeat (first | exact nf0 rfl | apply nfS rfl | exact nfR)) ?_
      refine tri_nil ?_
      exact tn_in (h0_1_1 ⟨r1, r3⟩) (by repeat (first | exact trivial | refine ⟨rfl, ?_⟩)) (fun w h => h)
  refine tn_have (V := Row) 7 [true, true, false, false, true, false, false, false, false, false] (fun v => [(0, .int .i64 (z : Int)), (4, .int .i64 (z : Int)), (7, .int .i64 (z : Int)), (3, v.v)]) (fun v => boS v [true] :: cs) ?_ (fun h1_0_0 => ?_)
  · rintro r0
    refine tn_op2 rfl rfl ?_ ?_ (i := 2) (j := 5) 
    · refine au_make (α := Int) (k := z) (c := z) rfl rfl (fun r1 => ?_)
      refine tri_front 1 rfl (by repeat (first | exact nf0 rfl | apply nfS rfl | exact nfR)) ?_
      refine tri_nil ?_
      exact tn_in (h1_1_0 ⟨r0, r1⟩) (by repeat (first | exact trivial | refine ⟨rfl, ?_⟩)) (fun w h => h)
    · refine au_make (α := Int) (k := z) (c := z) rfl rfl (fun r3 => ?_)
      refine tri_front 1 rfl (by repeat (first | exact nf0 rfl | apply nfS rfl | exact nfR)) ?_
      refine tri_nil ?_
      exact tn_in (h1_0_1 ⟨r0, r3⟩) (by repeat (first | exact trivial | refine ⟨rfl, ?_⟩)) (fun w h => h)
  refine tn_have (V := Unit) 8 [false, true, false, false, true, false, false, false, false, false] (fun v => [(0, .int .i64 (z : Int)), (4, .int .i64 (z : Int)), (7, .int .i64 (z : Int))]) (fun v => cs) ?_ (fun h0_0_0 => ?_)
  · rintro _
    refine tn_op3 rfl rfl rfl ?_ ?_ ?_ (i := 0) (j := 2) (m := 5) 
    · refine au_lit (l := ([true] : List Bool)) rfl rfl rfl (fun r0 => ?_)
      refine tri_nil ?_
      exact tn_in (h1_0_0 r0) (by repeat (first | exact trivial | refine ⟨rfl, ?_⟩)) (fun w h => h)
    · refine au_make (α := Int) (k := z) (c := z) rfl rfl (fun r1 => ?_)
      refine tri_nil ?_
      exact tn_in (h0_1_0 r1) (by repeat (first | exact trivial | refine ⟨rfl, ?_⟩)) (fun w h => h)
    · refine au_make (α := Int) (k := z) (c := z) rfl rfl (fun r3 => ?_)
      refine tri_nil ?_
      exact tn_in (h0_0_1 r3) (by repeat (first | exact trivial | refine ⟨rfl, ?_⟩)) (fun w h => h)
  exact tn_meet (h0_0_0 ()) (by repeat (first | exact trivial | refine ⟨rfl, ?_⟩)) (fun w h => h)
end
end Go.Proofs.Ytinnkclemjognaa
