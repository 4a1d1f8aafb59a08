/- The copy-on-write machine in plain Lean: how it reads, and rows of the call's own for it. No conditions. -/
import Derived.Test.YtinnkclemjognaaNest
set_option linter.unusedSimpArgs false
set_option linter.unusedVariables false
namespace Go.Proofs.Ytinnkclemjognaa
open Go Go.RowKit
/-- A page of a space. -/
structure PG where
  fr : Int
  wr : Bool
  deriving DecidableEq
instance : Enc PG where
  default := ⟨0, false⟩
  sz := 2
  enc := fun x => [.int .i64 x.fr, .bool x.wr]
  dec := fun cs => match cs with | [.int _ a, .bool b] => ⟨a, b⟩ | _ => ⟨0, false⟩
  len := fun _ => rfl
  one := fun _ u hu => by simp at hu; rcases hu with rfl | rfl <;> rfl
  pos := by decide
/-- A frame. -/
structure FR where
  ct : Int
  wd : Int
  deriving DecidableEq
instance : Enc FR where
  default := ⟨0, 0⟩
  sz := 2
  enc := fun x => [.int .i64 x.ct, .int .i64 x.wd]
  dec := fun cs => match cs with | [.int _ a, .int _ b] => ⟨a, b⟩ | _ => ⟨0, 0⟩
  len := fun _ => rfl
  one := fun _ u hu => by simp at hu; rcases hu with rfl | rfl <;> rfl
  pos := by decide
/-- A space, as an element. -/
structure SP where
  lv : Bool
  s : SV
instance : Enc SP where
  default := ⟨false, ⟨none, 0, 0⟩⟩
  sz := 2
  enc := fun x => [.bool x.lv, x.s.v]
  dec := fun cs => match cs with | [.bool b, .slice A l c] => ⟨b, ⟨A, l, c⟩⟩ | _ => ⟨false, ⟨none, 0, 0⟩⟩
  len := fun _ => rfl
  one := fun _ u hu => by simp at hu; rcases hu with rfl | rfl <;> rfl
  pos := by decide
instance : ElT Try.prog 64 PG := ⟨trivial⟩
instance : ElT Try.prog 57 FR := ⟨trivial⟩
instance : ElT Try.prog 62 SP := ⟨trivial⟩
instance : ElT Try.prog 4 Bool := ⟨trivial⟩
/-- A space. -/
structure CS where
  lv : Bool
  pg : List PG
  deriving DecidableEq
instance : Inhabited CS := ⟨⟨false, []⟩⟩
/-- A machine. -/
structure CW where
  z : Int
  sp : List CS
  fm : List FR
  cp : Int
  deriving DecidableEq
abbrev pgS (r : Row) (l : List PG) : Chunk := slC r 64 l
abbrev frS (r : Row) (l : List FR) : Chunk := slC r 57 l
abbrev spS (r : Row) (l : List SP) : Chunk := slC r 62 l
abbrev boS (r : Row) (l : List Bool) : Chunk := slC r 4 l
abbrev cowV (z : Int) (vS vF : Value) (cp : Int) : Value := .agg #[.int .i64 z, vS, vF, .int .i64 cp]
abbrev cowC (g : Nat) (z : Int) (vS vF : Value) (cp : Int) : Chunk := blkC g 27 [.int .i64 z, vS, vF, .int .i64 cp]
structure RdC (H : World → Prop) (vS vF : Value) (xs : List SP) (m : CW) : Prop where
  out : RdH H vS xs
  fr : RdH H vF m.fm
  len : xs.length = m.sp.length
  lv : ∀ i, (xs.getD i default).lv = (m.sp.getD i default).lv
  pg : ∀ i, RdH H (xs.getD i default).s.v (m.sp.getD i default).pg
/-- The rows of a machine of the call's own. -/
structure CR (n : Nat) where
  r : Row
  rs : List Row
  f : Row
  hl : rs.length = n
def spx (rs : List Row) (sp : List CS) : List SP := List.zipWith (fun r s => ⟨s.lv, r.sv⟩) rs sp
def nestP (rs : List Row) (sp : List CS) : List Chunk := List.zipWith (fun r s => pgS r s.pg) rs sp
def CC (r : Row) (rs : List Row) (f : Row) (m : CW) : List Chunk := frS f m.fm :: spS r (spx rs m.sp) :: nestP rs m.sp
section
variable {M : List Nat} {w0 : World} {cs ds : List Chunk} {H : World → Prop} {vS vF : Value} {xs : List SP} {m : CW} {r f : Row} {rs : List Row} {sp : List CS}
theorem RdC.cons {c : Chunk} (h : RdC (HpM M w0 cs) vS vF xs m) : RdC (HpM M w0 (c :: cs)) vS vF xs m := ⟨h.out.cons, h.fr.cons, h.len, h.lv, fun i => (h.pg i).cons⟩
theorem RdC.app (h : RdC (HpM M w0 cs) vS vF xs m) : RdC (HpM M w0 (ds ++ cs)) vS vF xs m := ⟨h.out.app, h.fr.app, h.len, h.lv, fun i => (h.pg i).app⟩
theorem RdC.sub (h : RdC (HpM M w0 cs) vS vF xs m) (hs : cs.Sublist ds) : RdC (HpM M w0 ds) vS vF xs m := ⟨fun w hw => h.out w (hw.sub hs), fun w hw => h.fr w (hw.sub hs), h.len, h.lv, fun i w hw => h.pg i w (hw.sub hs)⟩
theorem RdC.imp {H' : World → Prop} (h : RdC H vS vF xs m) (hs : ∀ w, H' w → H w) : RdC H' vS vF xs m := ⟨fun w hw => h.out w (hs w hw), fun w hw => h.fr w (hs w hw), h.len, h.lv, fun i w hw => h.pg i w (hs w hw)⟩
theorem spx_len (hl : rs.length = sp.length) : (spx rs sp).length = sp.length := by unfold spx; simp [hl]
theorem nestP_len (hl : rs.length = sp.length) : (nestP rs sp).length = sp.length := by unfold nestP; simp [hl]
theorem spx_get (hl : rs.length = sp.length) {i : Nat} (hi : i < sp.length) : (spx rs sp).getD i default = ⟨(sp.getD i default).lv, (rs.getD i (Row.nil 0)).sv⟩ := by
  unfold spx
  rw [List.getD_eq_getElem?_getD, List.getElem?_zipWith, List.getElem?_eq_getElem hi, List.getElem?_eq_getElem (show i < rs.length by omega)]
  simp [List.getD_eq_getElem?_getD, List.getElem?_eq_getElem hi, List.getElem?_eq_getElem (show i < rs.length by omega)]
theorem nestP_get (hl : rs.length = sp.length) {i : Nat} (hi : i < sp.length) : (nestP rs sp)[i]? = some (pgS (rs.getD i (Row.nil 0)) (sp.getD i default).pg) := by
  unfold nestP
  rw [List.getElem?_zipWith, List.getElem?_eq_getElem hi, List.getElem?_eq_getElem (show i < rs.length by omega)]
  simp [List.getD_eq_getElem?_getD, List.getElem?_eq_getElem hi, List.getElem?_eq_getElem (show i < rs.length by omega)]
theorem getD_none' {α : Type} [Inhabited α] {l : List α} {i : Nat} (h : l.length ≤ i) : l.getD i default = default := getD_none h
theorem rdC_own (hl : rs.length = m.sp.length) : RdC (HpM M w0 (CC r rs f m ++ cs)) r.v f.v (spx rs m.sp) m where
  out := rd_chunk ⟨1, rfl⟩
  fr := rd_chunk ⟨0, rfl⟩
  len := spx_len hl
  lv := fun i => by
    rcases Nat.lt_or_ge i m.sp.length with hi | hi
    · rw [spx_get hl hi]
    · rw [getD_none (by rw [spx_len hl]; exact hi), getD_none hi]; rfl
  pg := fun i => by
    rcases Nat.lt_or_ge i m.sp.length with hi | hi
    · rw [spx_get hl hi]
      refine rd_chunk (r := rs.getD i (Row.nil 0)) (e := 64) ⟨i + 2, ?_⟩
      show (nestP rs m.sp ++ cs)[i]? = _
      rw [List.getElem?_append_left (by rw [nestP_len hl]; exact hi), nestP_get hl hi]
    · rw [getD_none (by rw [spx_len hl]; exact hi), getD_none hi]
      exact rd_nil
theorem eraseIdx_set {α : Type} : ∀ (l : List α) (i : Nat) (a : α), (l.set i a).eraseIdx i = l.eraseIdx i
  | [], _, _ => rfl
  | _ :: _, 0, _ => rfl
  | x :: l, i + 1, a => by rw [List.set_cons_succ, List.eraseIdx_cons_succ, List.eraseIdx_cons_succ, eraseIdx_set l i a]
theorem nestP_set (rs : List Row) (sp : List CS) (i : Nat) (r' : Row) (s' : CS) : (nestP rs sp).set i (pgS r' s'.pg) = nestP (rs.set i r') (sp.set i s') := by
  unfold nestP
  apply List.ext_getElem?
  intro j
  rw [List.getElem?_set, List.getElem?_zipWith, List.getElem?_zipWith, List.getElem?_set, List.getElem?_set, List.length_zipWith]
  by_cases h : i = j
  · subst h
    simp only [if_true]
    by_cases h1 : i < rs.length <;> by_cases h2 : i < sp.length <;> first | (simp [h1, h2]; done) | (simp [h1, h2]; omega)
  · simp [h]
theorem spx_set (rs : List Row) (sp : List CS) (i : Nat) (r' : Row) (s' : CS) : (spx rs sp).set i ⟨s'.lv, r'.sv⟩ = spx (rs.set i r') (sp.set i s') := by
  unfold spx
  apply List.ext_getElem?
  intro j
  rw [List.getElem?_set, List.getElem?_zipWith, List.getElem?_zipWith, List.getElem?_set, List.getElem?_set, List.length_zipWith]
  by_cases h : i = j
  · subst h
    simp only [if_true]
    by_cases h1 : i < rs.length <;> by_cases h2 : i < sp.length <;> first | (simp [h1, h2]; done) | (simp [h1, h2]; omega)
  · simp [h]
theorem nestP_snoc (hl : rs.length = sp.length) (r' : Row) (s' : CS) : nestP (rs ++ [r']) (sp ++ [s']) = nestP rs sp ++ [pgS r' s'.pg] := by
  unfold nestP
  rw [List.zipWith_append hl]
  rfl
theorem spx_snoc (hl : rs.length = sp.length) (r' : Row) (s' : CS) : spx (rs ++ [r']) (sp ++ [s']) = spx rs sp ++ [⟨s'.lv, r'.sv⟩] := by
  unfold spx
  rw [List.zipWith_append hl]
  rfl
theorem set_getD_self {α : Type} [Inhabited α] {l : List α} {i : Nat} (hi : i < l.length) (d : α) : l.set i (l.getD i d) = l := by
  rw [List.getD_eq_getElem?_getD, List.getElem?_eq_getElem hi, Option.getD_some, List.set_getElem_self]
/-- A page turned in place leaves the spaces' row as it is. -/
theorem spx_same (hl : rs.length = sp.length) {i : Nat} (hi : i < sp.length) {s' : CS} (hs : s'.lv = (sp.getD i default).lv) : spx rs (sp.set i s') = spx rs sp := by
  have h1 := spx_set rs sp i (rs.getD i (Row.nil 0)) s'
  rw [show rs.set i (rs.getD i (Row.nil 0)) = rs by rw [List.getD_eq_getElem?_getD, List.getElem?_eq_getElem (by omega), Option.getD_some, List.set_getElem_self]] at h1
  rw [← h1, hs, ← spx_get hl hi, set_getD_self (by rw [spx_len hl]; exact hi)]
def px (rs : List Row) (sp : List CS) (i : Nat) : List Chunk := (nestP rs sp).eraseIdx i
theorem perm_focus (ps : List Chunk) {i : Nat} (hl : rs.length = sp.length) (hi : i < sp.length) : (ps ++ (nestP rs sp ++ cs)).Perm (pgS (rs.getD i (Row.nil 0)) (sp.getD i default).pg :: (ps ++ (px rs sp i ++ cs))) := by
  have h1 := nestP_get hl hi
  have h2 : i < (nestP rs sp).length := by rw [nestP_len hl]; exact hi
  rw [List.getElem?_eq_getElem h2] at h1
  have h3 := perm_erase (nestP rs sp) i h2
  rw [Option.some.inj h1] at h3
  refine (List.Perm.append_left ps (List.Perm.append_right cs h3)).trans ?_
  exact List.perm_middle
theorem perm_unfocus (ps : List Chunk) {i : Nat} {r' : Row} {s' : CS} (hl : rs.length = sp.length) (hi : i < sp.length) : (pgS r' s'.pg :: (ps ++ (px rs sp i ++ cs))).Perm (ps ++ (nestP (rs.set i r') (sp.set i s') ++ cs)) := by
  have h0 : (nestP (rs.set i r') (sp.set i s')).eraseIdx i = px rs sp i := by rw [← nestP_set, eraseIdx_set]; rfl
  have h1 := perm_focus (cs := cs) ps (rs := rs.set i r') (sp := sp.set i s') (i := i) (by simp [hl]) (by simpa using hi)
  unfold px at h1
  rw [h0] at h1
  have e1 : (rs.set i r').getD i (Row.nil 0) = r' := by rw [List.getD_eq_getElem?_getD, List.getElem?_set_self (by omega)]; rfl
  have e2 : (sp.set i s').getD i default = s' := by rw [List.getD_eq_getElem?_getD, List.getElem?_set_self (by omega)]; rfl
  rw [e1, e2] at h1
  exact h1.symm
theorem rs_self {i : Nat} (hi : i < rs.length) : rs.set i (rs.getD i (Row.nil 0)) = rs := by rw [List.getD_eq_getElem?_getD, List.getElem?_eq_getElem hi, Option.getD_some, List.set_getElem_self]
theorem tri_focusP [Dl] {n : Nat} {F : Act → World → Prop} {E : Env} {cs1 : List Chunk} (ps : List Chunk) (i : Nat) {cs2 : List Chunk} (hl : rs.length = sp.length) (hi : i < sp.length) (he : cs1 = ps ++ (nestP rs sp ++ cs)) (hn : Nf (pgS (rs.getD i (Row.nil 0)) (sp.getD i default).pg :: (ps ++ (px rs sp i ++ cs))) cs2) (k : Tri n F E (Hp w0 cs2)) : Tri n F E (Hp w0 cs1) := by
  subst he hn
  exact fun a w h1 h2 => k a w h1 (h2.perm (perm_focus ps hl hi))
end
/- What the machine does. -/
def sumF {α : Type} (f : α → Nat) (l : List α) : Nat := (l.map f).sum
def allPg (m : CW) : List PG := m.sp.flatMap (·.pg)
def shC (q : List PG) (i : Nat) : Nat := q.countP (fun x => x.fr == (i : Int))
def wrC (q : List PG) (i : Nat) : Bool := q.any (fun x => x.fr == (i : Int) && x.wr)
def pgOk (n : Nat) (x : PG) : Bool := !(decide (x.fr < -1) || decide (x.fr ≥ n) || (x.fr == -1 && x.wr))
def spOk (m : CW) (s : CS) : Bool := !((!s.lv && decide ((s.pg.length : Int) > 0)) || (s.lv && (s.pg.length : Int) != m.z)) && s.pg.all (pgOk m.fm.length)
def rgOk (m : CW) : Bool := decide (1 ≤ m.z ∧ m.z ≤ 512 ∧ 1 ≤ m.sp.length ∧ m.sp.length ≤ 8 ∧ 1 ≤ m.fm.length ∧ m.fm.length ≤ 256 ∧ 0 ≤ m.cp ∧ m.cp ≤ 1048576)
def fmBad (q : List PG) (fm : List FR) (i : Nat) : Bool := (fm.getD i default).ct != (shC q i : Int) || ((fm.getD i default).ct == 0 && (fm.getD i default).wd != 0)
def wrBad (q : List PG) (i : Nat) : Bool := wrC q i && (shC q i : Int) != 1
def chkC (m : CW) : Int :=
  if rgOk m = false then 2 else if m.sp.all (spOk m) = false then 3 else if (List.range m.fm.length).any (fmBad (allPg m) m.fm) = true then 11
  else if (List.range m.fm.length).any (wrBad (allPg m)) = true then 12 else 0
def liveE (m : CW) (s : Int) : Int := if chkC m ≠ 0 then chkC m else if s < 0 ∨ (m.sp.length : Int) ≤ s ∨ (m.sp.getD s.toNat default).lv = false then 6 else 0
def atE (m : CW) (s p : Int) : Int := if liveE m s ≠ 0 then liveE m s else if p < 0 ∨ m.z ≤ p then 2 else 0
def CW.zero : CW := ⟨0, [], [], 0⟩
def pgAt (m : CW) (s p : Nat) : PG := (m.sp.getD s default).pg.getD p default
def frAt (fm : List FR) (i : Int) : FR := fm.getD i.toNat default
def setPg (sp : List CS) (s p : Nat) (x : PG) : List CS := sp.set s ⟨(sp.getD s default).lv, (sp.getD s default).pg.set p x⟩
def setPs (sp : List CS) (s : Nat) (l : List PG) : List CS := sp.set s ⟨(sp.getD s default).lv, l⟩
def freeI (fm : List FR) : Int := idxM (fun f => f.ct == 0) fm
def decF (fm : List FR) (x : PG) : List FR := if 0 ≤ x.fr then fm.set x.fr.toNat ⟨(frAt fm x.fr).ct - 1, (frAt fm x.fr).wd⟩ else fm
def incF (fm : List FR) (x : PG) : List FR := if 0 ≤ x.fr then fm.set x.fr.toNat ⟨(frAt fm x.fr).ct + 1, (frAt fm x.fr).wd⟩ else fm
def clrF (fm : List FR) (x : PG) : List FR := if 0 ≤ x.fr then fm.set x.fr.toNat ⟨(frAt fm x.fr).ct - 1, if (frAt fm x.fr).ct - 1 = 0 then 0 else (frAt fm x.fr).wd⟩ else fm
def cpUp (c : Int) : Int := if 1048576 < c + 1 then 1048576 else c + 1
def writeG (m : CW) (s p : Nat) (w : Int) : CW × Int :=
  if (pgAt m s p).fr < 0 ∨ 1 < (frAt m.fm (pgAt m s p).fr).ct then
    if freeI m.fm < 0 then (CW.zero, 16)
    else (⟨m.z, setPg m.sp s p ⟨freeI m.fm, true⟩, (decF m.fm (pgAt m s p)).set (freeI m.fm).toNat ⟨1, w⟩, if 0 ≤ (pgAt m s p).fr then cpUp m.cp else m.cp⟩, 0)
  else (⟨m.z, setPg m.sp s p ⟨(pgAt m s p).fr, true⟩, m.fm.set (pgAt m s p).fr.toNat ⟨(frAt m.fm (pgAt m s p).fr).ct, w⟩, m.cp⟩, 0)
def writeM (m : CW) (s p w : Int) : CW × Int := if atE m s p ≠ 0 then (CW.zero, atE m s p) else writeG m s.toNat p.toNat w
def unW (x : PG) : PG := ⟨x.fr, false⟩
def forkG (m : CW) (s : Nat) : CW := ⟨m.z, setPs m.sp s ((m.sp.getD s default).pg.map unW) ++ [⟨true, (m.sp.getD s default).pg.map unW⟩], (m.sp.getD s default).pg.foldl incF m.fm, m.cp⟩
def forkM (m : CW) (s : Int) : CW × Int × Int := if liveE m s ≠ 0 then (CW.zero, 0, liveE m s) else if 8 ≤ m.sp.length then (CW.zero, 0, 9) else (forkG m s.toNat, (m.sp.length : Int), 0)
def unmG (m : CW) (s p : Nat) : CW := ⟨m.z, setPg m.sp s p ⟨-1, false⟩, clrF m.fm (pgAt m s p), m.cp⟩
def unmM (m : CW) (s p : Int) : CW × Int := if atE m s p ≠ 0 then (CW.zero, atE m s p) else (unmG m s.toNat p.toNat, 0)
def exitG (m : CW) (s : Nat) : CW := ⟨m.z, m.sp.set s ⟨false, []⟩, (m.sp.getD s default).pg.foldl clrF m.fm, m.cp⟩
def exitM (m : CW) (s : Int) : CW × Int := if liveE m s ≠ 0 then (CW.zero, liveE m s) else (exitG m s.toNat, 0)
def readM (m : CW) (s p : Int) : Int × Int := if atE m s p ≠ 0 then (0, atE m s p) else if (pgAt m s.toNat p.toNat).fr < 0 then (0, 0) else ((frAt m.fm (pgAt m s.toNat p.toNat).fr).wd, 0)
def usedM (m : CW) : Int := if chkC m ≠ 0 then -1 else ((m.fm.countP fun f => decide (f.ct > 0) : Nat) : Int)
def newM (n z : Int) : CW × Int := if n < 1 ∨ 256 < n ∨ z < 1 ∨ 512 < z then (CW.zero, 2) else (⟨z, [⟨true, List.replicate z.toNat ⟨-1, false⟩⟩], List.replicate n.toNat ⟨0, 0⟩, 0⟩, 0)
end Go.Proofs.Ytinnkclemjognaa
