/- The engine of the walks: a frame is a list of known slots, memory is a list of blocks that are known; one rule an operation. No conditions. -/
import Derived.WalkKit
import Derived.WalkSpells
import Derived.WalkLawsBesides
import Derived.Deep.Quiet
import Derived.Deep.LoopGhost
import Derived.KernelRfl
set_option linter.unusedSimpArgs false
set_option linter.unusedVariables false
namespace Go.Proofs.Ytdmphjphcdcdkaa
open Go Go.RowKit

abbrev Env := List (Nat × Value)
def look : Env → Nat → Option Value
  | [], _ => none
  | (j, v) :: r, i => match Nat.beq j i with
    | true => some v
    | false => look r i
def ev (E : Env) : Operand → Option Value
  | .tmp t => look E t
  | .const v => some v
  | .global g => some (.pointer (some ⟨g, 0, none⟩))
  | .func f => some (.func (.func f) #[] #[])
def evs (E : Env) : List Operand → Option (List Value)
  | [] => some []
  | x :: r => match ev E x, evs E r with
    | some v, some vs => some (v :: vs)
    | _, _ => none
def evp (E : Env) : List (Nat × Operand) → Option (List (Nat × Value))
  | [] => some []
  | (i, x) :: r => match ev E x, evp E r with
    | some v, some vs => some ((i, v) :: vs)
    | _, _ => none

structure FrOk (n : Nat) (E : Env) (a : Act) : Prop where
  defers : a.defers = []
  size : a.tmps.size = n
  slot : ∀ i v, look E i = some v → a.tmps.getD i undef = v

theorem FrOk.ev {n : Nat} {E : Env} {a : Act} (h : FrOk n E a) {x : Operand} {v : Value} (hx : ev E x = some v) : a.eval x = v := by
  cases x with
  | tmp t => exact h.slot _ _ hx
  | const c => simpa [Go.Proofs.Ytdmphjphcdcdkaa.ev, Act.eval] using hx
  | global g => simpa [Go.Proofs.Ytdmphjphcdcdkaa.ev, Act.eval] using hx
  | func f => simpa [Go.Proofs.Ytdmphjphcdcdkaa.ev, Act.eval] using hx
theorem FrOk.evs {n : Nat} {E : Env} {a : Act} (h : FrOk n E a) : ∀ {xs : List Operand} {vs : List Value}, evs E xs = some vs → xs.map a.eval = vs
  | [], vs, hx => by simp [Go.Proofs.Ytdmphjphcdcdkaa.evs] at hx; simp [hx]
  | x :: r, vs, hx => by
    unfold Go.Proofs.Ytdmphjphcdcdkaa.evs at hx
    split at hx
    · rename_i v vs' h1 h2
      simp only [Option.some.injEq] at hx
      subst hx
      simp [h.ev h1, h.evs h2]
    · cases hx
theorem FrOk.evp {n : Nat} {E : Env} {a : Act} (h : FrOk n E a) : ∀ {xs : List (Nat × Operand)} {vs : List (Nat × Value)}, evp E xs = some vs → xs.map (fun (i, x) => (i, a.eval x)) = vs
  | [], vs, hx => by simp [Go.Proofs.Ytdmphjphcdcdkaa.evp] at hx; simp [hx]
  | (i, x) :: r, vs, hx => by
    unfold Go.Proofs.Ytdmphjphcdcdkaa.evp at hx
    split at hx
    · rename_i v vs' h1 h2
      simp only [Option.some.injEq] at hx
      subst hx
      have := h.evp h2
      simp only [List.map_cons, h.ev h1, this]
    · cases hx
theorem FrOk.put {n d : Nat} {E : Env} {a : Act} (h : FrOk n E a) (hd : Nat.blt d n = true) (v : Value) : FrOk n ((d, v) :: E) (a.put (some d) v) := by
  have hd' : d < a.tmps.size := by rw [h.size]; simpa using hd
  refine ⟨h.defers, by simp [Act.put, h.size], fun i u hu => ?_⟩
  unfold look at hu
  split at hu
  · rename_i hb
    have : d = i := Nat.eq_of_beq_eq_true hb
    subst this
    simp only [Option.some.injEq] at hu
    subst hu
    simp [Act.put, Array.getD_eq_getD_getElem?, hd']
  · rename_i hb
    have hne : d ≠ i := fun e => by subst e; simp at hb
    have := h.slot i u hu
    simpa [Act.put, Array.getD_eq_getD_getElem?, hne] using this

/-- The slots of E' are known in E, too. -/
def Sub : Env → Env → Prop
  | [], _ => True
  | (i, v) :: r, E => look E i = some v ∧ Sub r E
theorem Sub.look {E : Env} : ∀ {E' : Env}, Sub E' E → ∀ i v, look E' i = some v → Go.Proofs.Ytdmphjphcdcdkaa.look E i = some v
  | [], _, i, v, hv => by cases hv
  | (j, u) :: r, h, i, v, hv => by
    unfold Go.Proofs.Ytdmphjphcdcdkaa.look at hv
    split at hv
    · rename_i hb
      have : j = i := Nat.eq_of_beq_eq_true hb
      subst this
      rw [← hv]
      exact h.1
    · exact Sub.look h.2 i v hv
theorem FrOk.sub {n : Nat} {E E' : Env} {a : Act} (h : FrOk n E a) (hs : Sub E' E) : FrOk n E' a := ⟨h.defers, h.size, fun i v hv => h.slot i v (hs.look i v hv)⟩

/-- From every frame that E tells, in every world of H: F. -/
def Tri (n : Nat) (F : Act → World → Prop) (E : Env) (H : World → Prop) : Prop := ∀ a w, FrOk n E a → H w → F a w
def Yl (P : Program) (n : Nat) (o : Oper) (E : Env) (H : World → Prop) (v : Value) : Prop := ∀ a w, FrOk n E a → H w → (execOp a.eval o).run P w = .ok (.value v) w
/-- A call of a function that hands back v and leaves a world of H. -/
def Cl (P : Program) (n : Nat) (o : Oper) (E : Env) (H : World → Prop) (v : Value) : Prop := ∀ a w, FrOk n E a → H w → ∃ f args, (execOp a.eval o).run P w = .ok (.enter f args) w ∧ Calls P f args w fun e w' => e = .returned v ∧ H w'

section
variable {P : Program} {n d : Nat} {ops : Array Oper} {Q : Exit → Act → World → Prop} {rest : List Oper} {o : Oper} {E E' : Env} {H H' : World → Prop} {v : Value} {F : Act → World → Prop} {x y : Code}

theorem tri_sub (hs : Sub E' E) (k : Tri n F E' H) : Tri n F E H := fun a w h hw => k a w (h.sub hs) hw
theorem tri_weak (hH : ∀ w, H w → H' w) (k : Tri n F E H') : Tri n F E H := fun a w h hw => k a w h (hH w hw)
theorem tri_seq (h : Tri n (x.wp P (Exit.then (y.wp P Q) Q)) E H) : Tri n ((Code.seq x y).wp P Q) E H := fun a w h1 h2 => wp_seq (h a w h1 h2)
/-- A cut: what holds behind x is told by a family. -/
theorem tri_cut {α : Type} (I : α → Env) (J : α → World → Prop) (rest : ∀ s, Tri n F (I s) (J s))
    (first : Tri n (x.wp P (Exit.then (fun a w => ∃ s, FrOk n (I s) a ∧ J s w) Q)) E H) : Tri n (x.wp P (Exit.then F Q)) E H := fun a w h1 h2 =>
  (wp_mono (first a w h1 h2) fun e a' w' q => by
    cases e with
    | normal => obtain ⟨s, h3, h4⟩ := q; exact rest s a' w' h3 h4
    | exit id => exact q
    | goto l => exact q
    | ret => exact q
    | panic ch => exact q
    | outgrown => exact q)
theorem tri_met {α : Type} {I : α → Env} {J : α → World → Prop} (s : α) (hE : Sub (I s) E) (hH : ∀ w, H w → J s w) : Tri n (fun a w => ∃ s, FrOk n (I s) a ∧ J s w) E H :=
  fun _ w h1 h2 => ⟨s, h1.sub hE, hH w h2⟩
theorem tri_block {id : Nat} (h : Tri n (x.wp P (Exit.inBlock id Q)) E H) : Tri n ((Code.block id x).wp P Q) E H := fun a w h1 h2 => wp_block (h a w h1 h2)
theorem tri_skip (h : Tri n (Q .normal) E H) : Tri n (Code.skip.wp P Q) E H := fun a w h1 h2 => wp_skip (h a w h1 h2)
theorem tri_ret (h : Tri n (Q .ret) E H) : Tri n (Code.ret.wp P Q) E H := fun a w h1 h2 => wp_ret (h a w h1 h2)
theorem tri_exit {id : Nat} (h : Tri n (Q (.exit id)) E H) : Tri n ((Code.exit id).wp P Q) E H := fun a w h1 h2 => wp_exit (h a w h1 h2)
theorem tri_then (h : Tri n F E H) : Tri n (Exit.then F Q .normal) E H := h
theorem tri_thenr (h : Tri n (Q .ret) E H) : Tri n (Exit.then F Q .ret) E H := h
theorem tri_thene {id : Nat} (h : Tri n (Q (.exit id)) E H) : Tri n (Exit.then F Q (.exit id)) E H := h
theorem tri_blkn {id : Nat} (h : Tri n (Q .normal) E H) : Tri n (Exit.inBlock id Q .normal) E H := h
theorem tri_blkr {id : Nat} (h : Tri n (Q .ret) E H) : Tri n (Exit.inBlock id Q .ret) E H := h
theorem tri_blke {id : Nat} (h : Tri n (Q .normal) E H) : Tri n (Exit.inBlock id Q (.exit id)) E H := fun a w h1 h2 => by simpa [Exit.inBlock] using h a w h1 h2
theorem tri_blko {id id' : Nat} (hne : Nat.beq id' id = false) (h : Tri n (Q (.exit id')) E H) : Tri n (Exit.inBlock id Q (.exit id')) E H := fun a w h1 h2 => by
  have : id' ≠ id := fun e => by subst e; simp at hne
  simpa [Exit.inBlock, this] using h a w h1 h2
theorem tri_cond {c : Operand} {b : Bool} (hc : ev E c = some (.bool b)) (ht : b = true → Tri n (x.wp P Q) E H) (hf : b = false → Tri n (y.wp P Q) E H) : Tri n ((Code.cond c x y).wp P Q) E H :=
  fun a w h1 h2 => wp_cond_split (h1.ev hc) (fun h => ht h a w h1 h2) (fun h => hf h a w h1 h2)
theorem tri_if_t {c : Operand} (hc : ev E c = some (.bool true)) (ht : Tri n (x.wp P Q) E H) : Tri n ((Code.cond c x y).wp P Q) E H := fun a w h1 h2 => wp_cond_true (h1.ev hc) (ht a w h1 h2)
theorem tri_if_f {c : Operand} (hc : ev E c = some (.bool false)) (hf : Tri n (y.wp P Q) E H) : Tri n ((Code.cond c x y).wp P Q) E H := fun a w h1 h2 => wp_cond_false (h1.ev hc) (hf a w h1 h2)
theorem tri_region {id : Nat} {l : List Oper} (h : Tri n (wpList P l.toArray Q l) E H) : Tri n ((Code.region id l.toArray false).wp P Q) E H := fun a w h1 h2 => wp_region_lit (h a w h1 h2)
theorem tri_nil (h : Tri n (Q .normal) E H) : Tri n (wpList P ops Q []) E H := fun a w h1 h2 => wpList_nil (h a w h1 h2)
/-- A region, cut: what holds behind it is told by a family. -/
theorem tri_rcut {α : Type} {id : Nat} {l : List Oper} (I : α → Env) (J : α → World → Prop) (rest : ∀ s, Tri n (Q .normal) (I s) (J s))
    (first : Tri n (wpList P l.toArray (Exit.then (fun a w => ∃ s, FrOk n (I s) a ∧ J s w) Q) l) E H) : Tri n ((Code.region id l.toArray false).wp P Q) E H := fun a w h1 h2 =>
  wp_mono (wp_region_lit (first a w h1 h2)) fun e a' w' q => by
    cases e with
    | normal => obtain ⟨s, h3, h4⟩ := q; exact rest s a' w' h3 h4
    | exit id => exact q
    | goto l => exact q
    | ret => exact q
    | panic ch => exact q
    | outgrown => exact q

/-- Is the operation wanted? -/
def gslot (l : List Oper) (j : Nat) : Option Nat := match l[j]? with
  | some o => o.dst
  | none => none
theorem undef_ne (b : Bool) : undef ≠ .bool b := by simp [undef]
theorem FrOk.bool {n s : Nat} {E : Env} {a : Act} {b : Bool} (h : FrOk n E a) (hl : look E s = some (.bool b)) : a.tmps[s]? = some (.bool b) := by
  have := h.slot _ _ hl
  rw [Array.getD_eq_getD_getElem?] at this
  cases hs : a.tmps[s]? with
  | none => rw [hs] at this; exact absurd this (undef_ne b)
  | some u => rw [hs] at this; simpa using this
theorem want_plain (hg : o.guard = none) (a : Act) : Region.wanted o (yielded ops a.tmps) = true := by simp [Region.wanted, hg]
theorem yielded_of {l : List Oper} {j s : Nat} {b : Bool} {a : Act} (hd : gslot l j = some s) (h : FrOk n E a) (hl : look E s = some (.bool b)) : yielded l.toArray a.tmps j = some b := by
  unfold gslot at hd
  split at hd
  · rename_i o' ho
    simp [yielded, ho, hd, h.bool hl]
  · cases hd
theorem want_yes {l : List Oper} {j s : Nat} {b : Bool} {a : Act} (hg : o.guard = some (j, b)) (hd : gslot l j = some s) (hl : look E s = some (.bool b)) (h : FrOk n E a) : Region.wanted o (yielded l.toArray a.tmps) = true := by
  simp [Region.wanted, hg, yielded_of hd h hl]
theorem want_no {l : List Oper} {j s : Nat} {b : Bool} {a : Act} (hg : o.guard = some (j, b)) (hd : gslot l j = some s) (hl : look E s = some (.bool !b)) (h : FrOk n E a) : Region.wanted o (yielded l.toArray a.tmps) = false := by
  simp [Region.wanted, hg, yielded_of hd h hl]
theorem want_un {l : List Oper} {j s : Nat} {b : Bool} {a : Act} (hg : o.guard = some (j, b)) (hd : gslot l j = some s) (hl : look E s = some undef) (h : FrOk n E a) : Region.wanted o (yielded l.toArray a.tmps) = false := by
  have hy : yielded l.toArray a.tmps j = none := by
    unfold gslot at hd
    split at hd
    · rename_i o' ho
      have := h.slot _ _ hl
      rw [Array.getD_eq_getD_getElem?] at this
      cases hs : a.tmps[s]? with
      | none => simp [yielded, ho, hd, hs]
      | some u => rw [hs] at this; simp at this; subst this; simp [yielded, ho, hd, hs, undef]
    · cases hd
  simp [Region.wanted, hg, hy]
/-- Carried out, or passed over. -/
def Wan (l : List Oper) (n : Nat) (o : Oper) (E : Env) (b : Bool) : Prop := ∀ a, FrOk n E a → Region.wanted o (yielded l.toArray a.tmps) = b
theorem wan_plain {l : List Oper} (hg : o.guard = none) : Wan l n o E true := fun a _ => want_plain hg a
theorem wan_yes {l : List Oper} {j s : Nat} {b : Bool} (hg : o.guard = some (j, b)) (hd : gslot l j = some s) (hl : look E s = some (.bool b)) : Wan l n o E true := fun _ h => want_yes hg hd hl h
theorem wan_no {l : List Oper} {j s : Nat} {b : Bool} (hg : o.guard = some (j, b)) (hd : gslot l j = some s) (hl : look E s = some (.bool !b)) : Wan l n o E false := fun _ h => want_no hg hd hl h
theorem wan_un {l : List Oper} {j s : Nat} {b : Bool} (hg : o.guard = some (j, b)) (hd : gslot l j = some s) (hl : look E s = some undef) : Wan l n o E false := fun _ h => want_un hg hd hl h

theorem wpList_want {l : List Oper} {a : Act} {w : World} (hw : Region.wanted o (yielded l.toArray a.tmps) = true) (h : o.wp P a w (wpList P l.toArray Q rest) Q) : wpList P l.toArray Q (o :: rest) a w := by
  unfold wpList
  rw [if_pos hw]
  exact .inl h
theorem tri_pure {l : List Oper} (hd : o.dst = some d) (hn : Nat.blt d n = true) (hw : Wan l n o E true) (hy : Yl P n o E H v) (k : Tri n (wpList P l.toArray Q rest) ((d, v) :: E) H) : Tri n (wpList P l.toArray Q (o :: rest)) E H := by
  intro a w h1 h2
  refine wpList_want (hw a h1) ?_
  unfold Oper.wp
  rw [hy a w h1 h2, Oper.upon_value, hd]
  exact k _ _ (h1.put hn v) h2
theorem tri_pass {l : List Oper} (hd : o.dst = some d) (hn : Nat.blt d n = true) (hw : Wan l n o E false) (k : Tri n (wpList P l.toArray Q rest) ((d, undef) :: E) H) : Tri n (wpList P l.toArray Q (o :: rest)) E H := by
  intro a w h1 h2
  unfold wpList
  rw [if_neg (by simp [hw a h1]), hd]
  exact k _ _ (h1.put hn undef) h2
theorem tri_pass0 {l : List Oper} (hd : o.dst = none) (hw : Wan l n o E false) (k : Tri n (wpList P l.toArray Q rest) E H) : Tri n (wpList P l.toArray Q (o :: rest)) E H := by
  intro a w h1 h2
  unfold wpList
  rw [if_neg (by simp [hw a h1]), hd]
  exact k _ _ h1 h2
theorem tri_call {l : List Oper} (hd : o.dst = some d) (hn : Nat.blt d n = true) (hw : Wan l n o E true) (hy : Cl P n o E H v) (k : Tri n (wpList P l.toArray Q rest) ((d, v) :: E) H) : Tri n (wpList P l.toArray Q (o :: rest)) E H := by
  intro a w h1 h2
  refine wpList_want (hw a h1) ?_
  unfold Oper.wp
  obtain ⟨f, args, hr, hc⟩ := hy a w h1 h2
  rw [hr, Oper.upon_enter]
  refine hc.mono fun e w' ⟨he, hH⟩ => ?_
  subst he
  show wpList P l.toArray Q rest (a.put o.dst v) w'
  rw [hd]
  exact k _ _ (h1.put hn v) hH
/-- Split on a Boolean that a slot holds. -/
theorem tri_split (s : Nat) {b : Bool} (hs : look E s = some (.bool b)) (ht : b = true → Tri n F ((s, .bool true) :: E) H) (hf : b = false → Tri n F ((s, .bool false) :: E) H) : Tri n F E H := by
  have up : ∀ a, FrOk n E a → FrOk n ((s, .bool b) :: E) a := fun a h => ⟨h.defers, h.size, fun i u hu => by
    unfold look at hu
    split at hu
    · rename_i hb
      have : s = i := Nat.eq_of_beq_eq_true hb
      subst this
      simp only [Option.some.injEq] at hu
      rw [← hu]
      exact h.slot _ _ hs
    · exact h.slot i u hu⟩
  intro a w h1 h2
  cases b
  · exact hf rfl a w (up a h1) h2
  · exact ht rfl a w (up a h1) h2

theorem tri_gsplit {l : List Oper} {j s : Nat} {b want : Bool} (_hg : o.guard = some (j, want)) (_hd : gslot l j = some s) (hs : look E s = some (.bool b)) (ht : b = true → Tri n (wpList P l.toArray Q (o :: rest)) ((s, .bool true) :: E) H)
    (hf : b = false → Tri n (wpList P l.toArray Q (o :: rest)) ((s, .bool false) :: E) H) : Tri n (wpList P l.toArray Q (o :: rest)) E H := tri_split s hs ht hf

/-- The same for a region that draws its order: its operations read, or call what leaves H. -/
def TriQ (P : Program) (n : Nat) (l : List Oper) (rest : List Oper) (F : Act → World → Prop) (E : Env) (H : World → Prop) : Prop := ∀ a, FrOk n E a → wpQuiet P l.toArray H (fun a' => ∀ w', H w' → F a' w') rest a
theorem tri_draw {id : Nat} {l : List Oper} (hm : P.follows .mixedOrders = true) (hB : Region.lexB .any l.toArray = true) (hH : ∀ w, H w → H { w with drawn := w.drawn + 1 }) (k : TriQ P n l l (Q .normal) E H) : Tri n ((Code.region id l.toArray true).wp P Q) E H :=
  fun a w h1 h2 => wp_region_quiet hm hB (hH w h2) (k a h1)
theorem triq_nil {l : List Oper} (k : Tri n F E H) : TriQ P n l [] F E H := fun a h1 w' hw' => k a w' h1 hw'
theorem triq_pure {l : List Oper} (hd : o.dst = some d) (hn : Nat.blt d n = true) (hw : Wan l n o E true) (hy : Yl P n o E H v) (k : TriQ P n l rest F ((d, v) :: E) H) : TriQ P n l (o :: rest) F E H := by
  intro a h1
  unfold wpQuiet
  rw [if_pos (hw a h1)]
  refine ⟨v, fun w hw' => ?_, ?_⟩
  · unfold Oper.quietAt
    rw [hy a w h1 hw']
    exact ⟨rfl, rfl⟩
  · rw [hd]
    exact k _ (h1.put hn v)
theorem triq_call {l : List Oper} (hd : o.dst = some d) (hn : Nat.blt d n = true) (hw : Wan l n o E true) (hy : Cl P n o E H v) (k : TriQ P n l rest F ((d, v) :: E) H) : TriQ P n l (o :: rest) F E H := by
  intro a h1
  unfold wpQuiet
  rw [if_pos (hw a h1)]
  refine ⟨v, fun w hw' => ?_, ?_⟩
  · unfold Oper.quietAt
    obtain ⟨f, args, hr, hc⟩ := hy a w h1 hw'
    rw [hr]
    exact ⟨rfl, hc⟩
  · rw [hd]
    exact k _ (h1.put hn v)
theorem triq_pass {l : List Oper} (hd : o.dst = some d) (hn : Nat.blt d n = true) (hw : Wan l n o E false) (k : TriQ P n l rest F ((d, undef) :: E) H) : TriQ P n l (o :: rest) F E H := by
  intro a h1
  unfold wpQuiet
  rw [if_neg (by simp [hw a h1]), hd]
  exact k _ (h1.put hn undef)
theorem triq_split {l : List Oper} (s : Nat) {b : Bool} (hs : look E s = some (.bool b)) (ht : b = true → TriQ P n l rest F ((s, .bool true) :: E) H) (hf : b = false → TriQ P n l rest F ((s, .bool false) :: E) H) : TriQ P n l rest F E H := by
  have up : ∀ a, FrOk n E a → FrOk n ((s, .bool b) :: E) a := fun a h => ⟨h.defers, h.size, fun i u hu => by
    unfold look at hu
    split at hu
    · rename_i hb
      have : s = i := Nat.eq_of_beq_eq_true hb
      subst this
      simp only [Option.some.injEq] at hu
      rw [← hu]
      exact h.slot _ _ hs
    · exact h.slot i u hu⟩
  intro a h1
  cases b
  · exact hf rfl a (up a h1)
  · exact ht rfl a (up a h1)

/-- A loop: the family I, J, with a measure. -/
theorem tri_loop {α : Type} (I : α → Env) (J : α → World → Prop) (μ : α → Nat) (s₀ : α) (hE : Sub (I s₀) E) (hH : ∀ w, H w → J s₀ w)
    (round : ∀ s, Tri n (x.wp P (Exit.then (fun a w => ∃ s', μ s' < μ s ∧ FrOk n (I s') a ∧ J s' w) Q)) (I s) (J s)) : Tri n ((Code.loop x).wp P Q) E H := by
  intro a w h1 h2
  refine wp_loop_ghost (fun m a w => ∃ s, μ s = m ∧ FrOk n (I s) a ∧ J s w) (μ s₀) ⟨s₀, rfl, h1.sub hE, hH w h2⟩ ?_
  rintro m a w ⟨s, rfl, h3, h4⟩
  refine wp_mono (round s a w h3 h4) fun e a' w' q => ?_
  cases e with
  | normal => obtain ⟨s', h5, h6, h7⟩ := q; exact ⟨_, h5, s', rfl, h6, h7⟩
  | exit id => exact q
  | goto l => exact q
  | ret => exact q
  | panic ch => exact q
  | outgrown => exact q
theorem tri_round {α : Type} {I : α → Env} {J : α → World → Prop} {μ : α → Nat} {s : α} (s' : α) (hμ : μ s' < μ s) (hE : Sub (I s') E) (hH : ∀ w, H w → J s' w) :
    Tri n (fun a w => ∃ s', μ s' < μ s ∧ FrOk n (I s') a ∧ J s' w) E H := fun _ w h1 h2 => ⟨s', hμ, h1.sub hE, hH w h2⟩
end

/- Facts on the program's types, found by their numbers. -/
class Sz (P : Program) (t : Nat) (n : outParam Nat) : Prop where run : ∀ w, (sizeOf t).run P w = .ok n w
class Ag (P : Program) (t : Nat) (b : outParam Bool) : Prop where run : ∀ w, (isAgg t).run P w = .ok b w
def aggB : TypeDesc → Bool
  | .struct _ => true
  | .array _ _ => true
  | _ => false
theorem ag_of {P : Program} {t : Nat} {d : TypeDesc} {b : Bool} (h : P.underlying t = some d) (hb : aggB d = b) (w : World) : (isAgg t).run P w = .ok b w := by
  subst hb
  simp only [isAgg, Sem.run_bind, run_underlying h, Result.andThen_ok]
  cases d <;> rfl
class Zr (P : Program) (t : Nat) (v : outParam Value) : Prop where run : ∀ w, (zeroValue t).run P w = .ok v w
class Und (P : Program) (t : Nat) (d : outParam TypeDesc) : Prop where eq : P.underlying t = some d
class Fo (P : Program) (s i : Nat) (off : outParam Nat) : Prop where run : ∀ w b o, (Instr.fieldAt s (.pointer (some ⟨b, o, none⟩)) i).run P w = .ok (.pointer (some ⟨b, o + off, none⟩)) w
class Fun_ (P : Program) (f : Nat) : Prop where run : ∀ args w, (callFunc f args).run P w = .ok (.enter f args) w
/-- '==' on two values of a type. -/
class Eq_ (P : Program) (t : Nat) (x y : Value) (b : outParam Bool) : Prop where
  guard : ∀ w p q, (eqGuard .eql t p q x y).run P w = .ok () w
  run : ∀ w, (binOp .eql t x y).run P w = .ok (.bool b) w
class Neq_ (P : Program) (t : Nat) (x y : Value) (b : outParam Bool) : Prop where
  guard : ∀ w p q, (eqGuard .neq t p q x y).run P w = .ok () w
  run : ∀ w, (binOp .neq t x y).run P w = .ok (.bool b) w

def setL (cells : List Value) (off : Nat) : List Value → List Value
  | [] => cells
  | v :: r => setL (cells.set off v) (off + 1) r
def fillL (ps : List (Nat × Nat)) (cells : List Value) : List (Nat × Value) → Option (List Value)
  | [] => some cells
  | (i, v) :: rest => match ps[i]? with
    | none => none
    | some (off, size) => match Nat.beq v.cells.toList.length size && Nat.ble (off + size) cells.length with
      | true => fillL ps (setL cells off v.cells.toList) rest
      | false => none
theorem length_setL : ∀ (vs cells : List Value) (off : Nat), (setL cells off vs).length = cells.length
  | [], _, _ => rfl
  | v :: r, cells, off => by rw [setL, length_setL r]; simp
theorem foldl_setL (off : Nat) : ∀ (vs : List Value) (k : Nat) (arr : Array Value), ((vs.zipIdx k).foldl (fun cs (c, j) => cs.setIfInBounds (off + j) c) arr).toList = setL arr.toList (off + k) vs
  | [], _, _ => rfl
  | v :: r, k, arr => by
    simp only [List.zipIdx_cons, List.foldl_cons, setL]
    rw [foldl_setL off r (k + 1)]
    simp [Nat.add_assoc]
theorem fill_of (ps : List (Nat × Nat)) : ∀ (parts : List (Nat × Value)) (arr : Array Value) (l : List Value), fillL ps arr.toList parts = some l → Instr.fill (fun i => ps[i]?) arr parts = some l.toArray
  | [], arr, l, h => by
    simp only [fillL, Option.some.injEq] at h
    simp [Instr.fill, ← h]
  | (i, v) :: rest, arr, l, h => by
    unfold fillL at h
    split at h
    · cases h
    · rename_i off size hp
      split at h
      · rename_i hb
        simp only [Bool.and_eq_true, Array.length_toList, Nat.ble_eq] at hb
        have hb1 := Nat.eq_of_beq_eq_true hb.1
        unfold Instr.fill
        simp only [hp]
        rw [if_neg (fun hh => by simp at hh; omega)]
        refine fill_of ps rest _ l ?_
        rw [← h]
        congr 1
        rw [← Array.foldl_toList, Array.toList_zipIdx]
        simpa using foldl_setL off v.cells.toList 0 arr
      · cases h
/-- A struct, or an array, built of parts. -/
class Bld (P : Program) (t : Nat) (z : outParam (List Value)) (ps : outParam (List (Nat × Nat))) : Prop where
  run : ∀ w parts l, fillL ps z parts = some l → (Instr.build t parts.toArray).run P w = .ok (.agg l.toArray) w
theorem bld_struct {P : Program} {t : Nat} {fields : Array Field} {z : Array Value} {ps : List (Nat × Nat)} (hu : P.underlying t = some (.struct fields)) (hz : ∀ w, (zeroValue t).run P w = .ok (.agg z) w)
    (hp : ∀ w, (fields.mapM (fun f => Functor.map (fun x => (f.offset, x)) (sizeOf f.type)) : Sem (Array (Nat × Nat))).run P w = .ok ps.toArray w) : Bld P t z.toList ps := ⟨fun w parts l h => by
  have hf := fill_of ps parts z l (by simpa using h)
  simp [Instr.build, hz, run_underlying hu, hp, Value.cells, hf]⟩

/- Memory. -/
structure Chunk where
  lo : Nat
  hi : Nat
  P : World → Prop
  st : ∀ w w' : World, (∀ b, lo ≤ b → b < hi → w'.heap[b]? = w.heap[b]?) → P w → P w'
/-- Of what was there all but the blocks of M is as it was. -/
structure Kept (M : List Nat) (w w' : World) : Prop where
  os : w'.os = w.os
  tape : w'.tape = w.tape
  output : w'.output = w.output
  size : w.heap.size ≤ w'.heap.size
  block : ∀ k, k < w.heap.size → k ∉ M → w'.heap[k]? = w.heap[k]?
theorem Kept.refl (M : List Nat) (w : World) : Kept M w w := ⟨rfl, rfl, rfl, Nat.le_refl _, fun _ _ _ => rfl⟩
theorem Kept.of_below {M : List Nat} {w w' : World} (h : Below w.heap.size w w') : Kept M w w' := ⟨h.os, h.tape, h.output, h.size, fun k hk _ => h.block k hk⟩
theorem Kept.below {w w' : World} (h : Kept [] w w') : Below w.heap.size w w' := ⟨h.os, h.tape, h.output, h.size, fun k hk => h.block k hk (by simp)⟩
theorem Kept.then {M : List Nat} {w w' w'' : World} (h : Kept M w w') (k : Below w'.heap.size w' w'') : Kept M w w'' :=
  ⟨k.os.trans h.os, k.tape.trans h.tape, k.output.trans h.output, Nat.le_trans h.size k.size, fun i hi hm => (k.block i (Nat.lt_of_lt_of_le hi h.size)).trans (h.block i hi hm)⟩
theorem Kept.cell {M : List Nat} {w w' : World} (h : Kept M w w') {a : Addr} (hb : a.block < w.heap.size) (hm : a.block ∉ M) : w'.cell? a = w.cell? a := World.cell?_of_block (h.block _ hb hm)
structure HpM (M : List Nat) (w0 : World) (cs : List Chunk) (w : World) : Prop where
  kept : Kept M w0 w
  at_ : ∀ (i : Nat) (c : Chunk), cs[i]? = some c → (w0.heap.size ≤ c.lo ∨ (c.lo ∈ M ∧ c.hi = c.lo + 1)) ∧ c.lo ≤ c.hi ∧ c.hi ≤ w.heap.size ∧ c.P w
  apart : ∀ (i j : Nat) (c d : Chunk), i ≠ j → cs[i]? = some c → cs[j]? = some d → c.hi ≤ d.lo ∨ d.hi ≤ c.lo
abbrev Hp := HpM []
theorem Hp.init (w0 : World) : Hp w0 [] w0 := ⟨Kept.refl _ _, fun i c h => by simp at h, fun i j c d _ h => by simp at h⟩
theorem HpM.below {w0 w : World} {cs : List Chunk} (h : HpM [] w0 cs w) : Below w0.heap.size w0 w := h.kept.below
theorem HpM.init1 {M : List Nat} {w0 : World} {c : Chunk} (h1 : c.lo ∈ M) (h2 : c.hi = c.lo + 1) (h3 : c.lo < w0.heap.size) (h4 : c.P w0) : HpM M w0 [c] w0 :=
  ⟨Kept.refl _ _, fun i d h => by
    cases i with
    | zero => simp at h; subst h; exact ⟨.inr ⟨h1, h2⟩, by omega, by omega, h4⟩
    | succ i => simp at h, fun i j d e hij hd he => by
    cases i with
    | zero =>
      cases j with
      | zero => exact absurd rfl hij
      | succ j => simp at he
    | succ i => simp at hd⟩
section
variable {M : List Nat} {w0 w w' : World} {cs : List Chunk} {c c' : Chunk}
theorem HpM.call (h : HpM M w0 cs w) (hb : Below w.heap.size w w') : HpM M w0 cs w' :=
  ⟨h.kept.then hb, fun i c hc => by
    obtain ⟨h1, h2, h3, h4⟩ := h.at_ i c hc
    exact ⟨h1, h2, Nat.le_trans h3 hb.size, c.st w w' (fun b _ hb' => hb.block b (by omega)) h4⟩, h.apart⟩
theorem HpM.drawn (h : HpM M w0 cs w) : HpM M w0 cs { w with drawn := w.drawn + 1 } := h.call ⟨rfl, rfl, rfl, Nat.le_refl _, fun _ _ => rfl⟩
theorem HpM.push (h : HpM M w0 cs w) (hb : Below w.heap.size w w') (h1 : w.heap.size ≤ c.lo) (h2 : c.lo ≤ c.hi) (h3 : c.hi ≤ w'.heap.size) (h4 : c.P w') : HpM M w0 (c :: cs) w' := by
  have hc := h.call hb
  have hs := h.kept.size
  refine ⟨hc.kept, fun i d hd => ?_, fun i j d e hij hd he => ?_⟩
  · cases i with
    | zero => simp at hd; subst hd; exact ⟨.inl (by omega), h2, h3, h4⟩
    | succ i => exact hc.at_ i d (by simpa using hd)
  · cases i with
    | zero =>
      cases j with
      | zero => exact absurd rfl hij
      | succ j => simp at hd he; subst hd; obtain ⟨_, _, h5, _⟩ := h.at_ j e he; right; omega
    | succ i =>
      cases j with
      | zero => simp at hd he; subst he; obtain ⟨_, _, h5, _⟩ := h.at_ i d hd; left; omega
      | succ j => exact hc.apart i j d e (by omega) (by simpa using hd) (by simpa using he)
/-- A chunk without a block of its own. -/
theorem HpM.push0 (h : HpM M w0 cs w) (h1 : c.lo = w0.heap.size) (h2 : c.hi = w0.heap.size) (h4 : c.P w) : HpM M w0 (c :: cs) w := by
  have hs := h.kept.size
  have low : ∀ (j : Nat) (e : Chunk), cs[j]? = some e → c.hi ≤ e.lo ∨ e.hi ≤ c.lo := fun j e he => by
    obtain ⟨h5, h6, h7, _⟩ := h.at_ j e he
    rcases h5 with h5 | ⟨h5, h8⟩
    · left; omega
    · by_cases hl : e.lo < w0.heap.size
      · right; omega
      · left; omega
  refine ⟨h.kept, fun i d hd => ?_, fun i j d e hij hd he => ?_⟩
  · cases i with
    | zero => simp at hd; subst hd; exact ⟨.inl (by omega), by omega, by omega, h4⟩
    | succ i => exact h.at_ i d (by simpa using hd)
  · cases i with
    | zero =>
      cases j with
      | zero => exact absurd rfl hij
      | succ j => simp at hd he; subst hd; exact low j e he
    | succ i =>
      cases j with
      | zero => simp at hd he; subst he; exact (low i d hd).symm
      | succ j => exact h.apart i j d e (by omega) (by simpa using hd) (by simpa using he)
/-- A write into chunk i: all else is as it was. The new chunk lies where the old one lay, or in new blocks, or nowhere. -/
theorem HpM.set (h : HpM M w0 cs w) {i : Nat} (hi : cs[i]? = some c) (hk : w'.os = w.os ∧ w'.tape = w.tape ∧ w'.output = w.output ∧ w.heap.size ≤ w'.heap.size) (hb : ∀ b, b < w.heap.size → (b < c.lo ∨ c.hi ≤ b) → w'.heap[b]? = w.heap[b]?)
    (hc' : (c'.lo = c.lo ∧ c'.hi = c.hi) ∨ (w.heap.size ≤ c'.lo ∧ c'.lo ≤ c'.hi)) (h3 : c'.hi ≤ w'.heap.size) (h4 : c'.P w') : HpM M w0 (cs.set i c') w' := by
  obtain ⟨g1, g2, g3, g4⟩ := h.at_ i c hi
  have hil : i < cs.length := (List.getElem?_eq_some_iff.1 hi).1
  have hs := h.kept.size
  have key : ∀ (k : Nat) (d : Chunk), (cs.set i c')[k]? = some d → (k = i ∧ d = c') ∨ (k ≠ i ∧ cs[k]? = some d) := by
    intro k d hd
    rw [List.getElem?_set] at hd
    by_cases hk : i = k
    · subst hk; simp [hil] at hd; exact .inl ⟨rfl, hd.symm⟩
    · rw [if_neg hk] at hd; exact .inr ⟨fun e => hk e.symm, hd⟩
  refine ⟨⟨hk.1.trans h.kept.os, hk.2.1.trans h.kept.tape, hk.2.2.1.trans h.kept.output, Nat.le_trans hs hk.2.2.2, fun b hb1 hm => ?_⟩, fun k d hd => ?_, fun k j d e hkj hd he => ?_⟩
  · refine (hb b (by omega) ?_).trans (h.kept.block b hb1 hm)
    rcases g1 with g1 | ⟨g1, g5⟩
    · left; omega
    · by_cases hbl : b < c.lo
      · exact .inl hbl
      · right
        have : b ≠ c.lo := fun e => hm (e ▸ g1)
        omega
  · rcases key k d hd with ⟨rfl, rfl⟩ | ⟨hk', hd⟩
    · rcases hc' with ⟨e1, e2⟩ | ⟨e1, e2⟩
      · refine ⟨?_, by omega, h3, h4⟩
        rw [e1, e2]; exact g1
      · exact ⟨.inl (by omega), e2, h3, h4⟩
    · obtain ⟨f1, f2, f3, f4⟩ := h.at_ k d hd
      refine ⟨f1, f2, Nat.le_trans f3 hk.2.2.2, d.st w w' (fun b hb1 hb2' => ?_) f4⟩
      rcases h.apart i k c d (by omega) hi hd with hx | hx
      · exact hb b (by omega) (.inr (by omega))
      · exact hb b (by omega) (.inl (by omega))
  · rcases key k d hd with ⟨rfl, rfl⟩ | ⟨hk', hd⟩
    · rcases key j e he with ⟨rfl, rfl⟩ | ⟨hj, he⟩
      · exact absurd rfl hkj
      · rcases hc' with ⟨e1, e2⟩ | ⟨e1, e2⟩
        · rw [e1, e2]; exact h.apart _ j c e (by omega) hi he
        · obtain ⟨_, _, f3, _⟩ := h.at_ j e he; right; omega
    · rcases key j e he with ⟨rfl, rfl⟩ | ⟨hj, he⟩
      · have hd' : cs[k]? = some d := by rw [List.getElem?_set, if_neg (fun e => hkj e.symm)] at hd; exact hd
        rcases hc' with ⟨e1, e2⟩ | ⟨e1, e2⟩
        · rw [e1, e2]; exact h.apart k _ d c hkj hd' hi
        · obtain ⟨_, _, f3, _⟩ := h.at_ k d hd'; left; omega
      · exact h.apart k j d e hkj hd he
end
/-- A block that is known whole. -/
def blkC (g t : Nat) (cells : List Value) : Chunk where
  lo := g
  hi := g + 1
  P := fun w => w.heap[g]? = some (.cells cells.toArray t (0, 0))
  st := fun w w' h hp => by rw [h g (Nat.le_refl _) (by omega)]; exact hp
/-- Chunk c stands at place i. -/
def At (cs : List Chunk) (i : Nat) (c : Chunk) : Prop := cs[i]? = some c
theorem at0 {c : Chunk} {r : List Chunk} : At (c :: r) 0 c := rfl
theorem atS {c d : Chunk} {r : List Chunk} {i : Nat} (h : At r i c) : At (d :: r) (i + 1) c := h
/-- A list, written out. -/
def Nf {α : Type} (l l' : List α) : Prop := l = l'
theorem nf0 {α : Type} {l : List α} (h : l = []) : Nf l [] := h
theorem nfS {α : Type} {l r r' : List α} {a : α} (h : l = a :: r) (k : Nf r r') : Nf l (a :: r') := by subst k; exact h
theorem nfR {α : Type} {l : List α} : Nf l l := rfl
def Has (cs : List Chunk) (c : Chunk) : Prop := ∃ i : Nat, At cs i c
theorem has_at {cs : List Chunk} {c : Chunk} {i : Nat} (h : At cs i c) : Has cs c := ⟨i, h⟩
theorem HpM.blk {M : List Nat} {w0 w : World} {cs : List Chunk} {g t : Nat} {cells : List Value} (h : HpM M w0 cs w) (hi : Has cs (blkC g t cells)) : w.heap[g]? = some (.cells cells.toArray t (0, 0)) := by
  obtain ⟨i, hi⟩ := hi
  exact (h.at_ i _ hi).2.2.2
theorem HpM.cell {M : List Nat} {w0 w : World} {cs : List Chunk} {g t o : Nat} {cells : List Value} (h : HpM M w0 cs w) (hi : Has cs (blkC g t cells)) : w.cell? ⟨g, o, none⟩ = cells[o]? := by
  rw [cell_of_row w g o _ t (0, 0) (h.blk hi)]; simp

section
variable {M : List Nat} {P : Program} {n d : Nat} {Q : Exit → Act → World → Prop} {l rest : List Oper} {o : Oper} {E : Env} {H : World → Prop} {v : Value} {w0 : World} {cs : List Chunk} {x y : Operand} {t ty : Nat}

theorem yl_move (ho : o.op = .move x) (h : ev E x = some v) : Yl P n o E H v := fun a w h1 _ => by simp [execOp, ho, h1.ev h]
theorem yl_assign (ho : o.op = .assign x) (h : ev E x = some v) : Yl P n o E H v := fun a w h1 _ => by simp [execOp, ho, h1.ev h]
theorem yl_pick_t {c a b : Operand} (ho : o.op = .pick c a b) (hc : ev E c = some (.bool true)) (h : ev E a = some v) : Yl P n o E H v := fun _ w h1 _ => by simp [execOp, ho, h1.ev h, h1.ev hc, asBool]
theorem yl_pick_f {c a b : Operand} (ho : o.op = .pick c a b) (hc : ev E c = some (.bool false)) (h : ev E b = some v) : Yl P n o E H v := fun _ w h1 _ => by simp [execOp, ho, h1.ev h, h1.ev hc, asBool]
theorem yl_not {b : Bool} (ho : o.op = .unOp .not t x) (h : ev E x = some (.bool b)) : Yl P n o E H (.bool !b) := fun _ w h1 _ => by simp [execOp, ho, h1.ev h, Op.unary]
theorem yl_neg {k : IntKind} {i : Int} (ho : o.op = .unOp .neg t x) (h : ev E x = some (.int k i)) : Yl P n o E H (.int k (k.wrap (0 - i))) := fun _ w h1 _ => by simp [execOp, ho, h1.ev h, Op.unary, Op.intArith]
theorem yl_ext {vs : List Value} {i : Nat} (ho : o.op = .extract x i) (h : ev E x = some (.tuple vs.toArray)) (hv : vs[i]? = some v) : Yl P n o E H v := fun _ w h1 _ => by simp [execOp, ho, h1.ev h, Instr.extract, hv]
theorem yl_bin {op : BinOp} {u u' : Value} (ho : o.op = .binOp op t x y ty) (hx : ev E x = some u) (hy : ev E y = some u') (hg : ∀ w, (eqGuard op t x y u u').run P w = .ok () w) (hr : ∀ w, (binOp op t u u').run P w = .ok v w) : Yl P n o E H v := fun _ w h1 _ => by
  simp [execOp, ho, h1.ev hx, h1.ev hy, hg, hr]
section
variable {k k' : IntKind} {i j : Int}
theorem guard_int (op : BinOp) (i : Int) (u : Value) (w : World) : (eqGuard op t x y (.int k i) u).run P w = .ok () w := by simp [go_sem]
theorem yl_eql (ho : o.op = .binOp .eql t x y ty) (hx : ev E x = some (.int k i)) (hy : ev E y = some (.int k j)) : Yl P n o E H (.bool (i == j)) := yl_bin ho hx hy (guard_int _ _ _) fun w => by simp [go_sem]
theorem yl_neq (ho : o.op = .binOp .neq t x y ty) (hx : ev E x = some (.int k i)) (hy : ev E y = some (.int k j)) : Yl P n o E H (.bool (i != j)) := yl_bin ho hx hy (guard_int _ _ _) fun w => by simp [go_sem]
theorem yl_lss (ho : o.op = .binOp .lss t x y ty) (hx : ev E x = some (.int k i)) (hy : ev E y = some (.int k j)) : Yl P n o E H (.bool (decide (i < j))) := yl_bin ho hx hy (guard_int _ _ _) fun w => by simp [go_sem]
theorem yl_leq (ho : o.op = .binOp .leq t x y ty) (hx : ev E x = some (.int k i)) (hy : ev E y = some (.int k j)) : Yl P n o E H (.bool (decide (i ≤ j))) := yl_bin ho hx hy (guard_int _ _ _) fun w => by simp [go_sem]
theorem yl_gtr (ho : o.op = .binOp .gtr t x y ty) (hx : ev E x = some (.int k i)) (hy : ev E y = some (.int k j)) : Yl P n o E H (.bool (decide (i > j))) := yl_bin ho hx hy (guard_int _ _ _) fun w => by simp [go_sem]
theorem yl_geq (ho : o.op = .binOp .geq t x y ty) (hx : ev E x = some (.int k i)) (hy : ev E y = some (.int k j)) : Yl P n o E H (.bool (decide (i ≥ j))) := yl_bin ho hx hy (guard_int _ _ _) fun w => by simp [go_sem]
theorem yl_add (ho : o.op = .binOp .add t x y ty) (hx : ev E x = some (.int k i)) (hy : ev E y = some (.int k j)) : Yl P n o E H (.int k (k.wrap (i + j))) := yl_bin ho hx hy (guard_int _ _ _) fun w => by simp [go_sem]
theorem yl_sub (ho : o.op = .binOp .sub t x y ty) (hx : ev E x = some (.int k i)) (hy : ev E y = some (.int k j)) : Yl P n o E H (.int k (k.wrap (i - j))) := yl_bin ho hx hy (guard_int _ _ _) fun w => by simp [go_sem]
theorem yl_mul (ho : o.op = .binOp .mul t x y ty) (hx : ev E x = some (.int k i)) (hy : ev E y = some (.int k j)) : Yl P n o E H (.int k (k.wrap (i * j))) := yl_bin ho hx hy (guard_int _ _ _) fun w => by simp [go_sem]
theorem yl_and (ho : o.op = .binOp .and t x y ty) (hx : ev E x = some (.int k i)) (hy : ev E y = some (.int k j)) : Yl P n o E H (.int k (bits .and k i j)) := yl_bin ho hx hy (guard_int _ _ _) fun w => by simp [go_sem]
theorem yl_or (ho : o.op = .binOp .or t x y ty) (hx : ev E x = some (.int k i)) (hy : ev E y = some (.int k j)) : Yl P n o E H (.int k (bits .or k i j)) := yl_bin ho hx hy (guard_int _ _ _) fun w => by simp [go_sem]
theorem yl_andNot (ho : o.op = .binOp .andNot t x y ty) (hx : ev E x = some (.int k i)) (hy : ev E y = some (.int k j)) : Yl P n o E H (.int k (bits .andNot k i j)) := yl_bin ho hx hy (guard_int _ _ _) fun w => by simp [go_sem]
theorem yl_shl (ho : o.op = .binOp .shl t x y ty) (hx : ev E x = some (.int k i)) (hy : ev E y = some (.int k' j)) (hj : 0 ≤ j) : Yl P n o E H (.int k (k.wrap (i * 2 ^ (min j.toNat k.bits)))) := yl_bin ho hx hy (guard_int _ _ _) fun w => by
  rw [binOp_shl, Op.shift, if_neg (by omega)]; rfl
theorem yl_shr (ho : o.op = .binOp .shr t x y ty) (hx : ev E x = some (.int k i)) (hy : ev E y = some (.int k' j)) (hj : 0 ≤ j) : Yl P n o E H (.int k (i.fdiv (2 ^ (min j.toNat k.bits)))) := yl_bin ho hx hy (guard_int _ _ _) fun w => by
  rw [binOp_shr, Op.shift, if_neg (by omega)]; rfl
theorem yl_conv {t' : Nat} {kd : IntKind} [hU : Und P t (.int k')] [hV : Und P t' (.int kd)] (ho : o.op = .convert t t' x) (hx : ev E x = some (.int k i)) : Yl P n o E H (.int kd (kd.wrap i)) := fun _ w h1 _ => by
  simp only [execOp, ho, h1.ev hx]
  simp [go_sem, hU.eq, hV.eq]
end
def mvOf : Op → Option Operand
  | .move x => some x
  | .assign x => some x
  | _ => none
theorem yl_mv (ho : mvOf o.op = some x) (h : ev E x = some v) : Yl P n o E H v := fun a w h1 _ => by
  unfold mvOf at ho
  split at ho
  · rename_i hop
    simp only [Option.some.injEq] at ho
    subst ho
    simp [execOp, hop, h1.ev h]
  · rename_i hop
    simp only [Option.some.injEq] at ho
    subst ho
    simp [execOp, hop, h1.ev h]
  · cases ho
def intOp (op : BinOp) (k : IntKind) (i j : Int) : Option Value :=
  match op with
  | .eql => some (.bool (i == j))
  | .neq => some (.bool (i != j))
  | .lss => some (.bool (decide (i < j)))
  | .leq => some (.bool (decide (i ≤ j)))
  | .gtr => some (.bool (decide (i > j)))
  | .geq => some (.bool (decide (i ≥ j)))
  | .add => some (.int k (k.wrap (i + j)))
  | .sub => some (.int k (k.wrap (i - j)))
  | .mul => some (.int k (k.wrap (i * j)))
  | .and => some (.int k (bits .and k i j))
  | .or => some (.int k (bits .or k i j))
  | .andNot => some (.int k (bits .andNot k i j))
  | _ => none
theorem yl_int2 {op : BinOp} {k : IntKind} {i j : Int} (ho : o.op = .binOp op t x y ty) (hx : ev E x = some (.int k i)) (hy : ev E y = some (.int k j)) (hv : intOp op k i j = some v) : Yl P n o E H v := by
  cases op
  case eql => simp only [intOp, Option.some.injEq] at hv; subst hv; exact yl_eql ho hx hy
  case neq => simp only [intOp, Option.some.injEq] at hv; subst hv; exact yl_neq ho hx hy
  case lss => simp only [intOp, Option.some.injEq] at hv; subst hv; exact yl_lss ho hx hy
  case leq => simp only [intOp, Option.some.injEq] at hv; subst hv; exact yl_leq ho hx hy
  case gtr => simp only [intOp, Option.some.injEq] at hv; subst hv; exact yl_gtr ho hx hy
  case geq => simp only [intOp, Option.some.injEq] at hv; subst hv; exact yl_geq ho hx hy
  case add => simp only [intOp, Option.some.injEq] at hv; subst hv; exact yl_add ho hx hy
  case sub => simp only [intOp, Option.some.injEq] at hv; subst hv; exact yl_sub ho hx hy
  case mul => simp only [intOp, Option.some.injEq] at hv; subst hv; exact yl_mul ho hx hy
  case and => simp only [intOp, Option.some.injEq] at hv; subst hv; exact yl_and ho hx hy
  case or => simp only [intOp, Option.some.injEq] at hv; subst hv; exact yl_or ho hx hy
  case andNot => simp only [intOp, Option.some.injEq] at hv; subst hv; exact yl_andNot ho hx hy
  all_goals (unfold intOp at hv; cases hv)
theorem yl_eqlb {b b' : Bool} [hU : Und P t .bool] (ho : o.op = .binOp .eql t x y ty) (hx : ev E x = some (.bool b)) (hy : ev E y = some (.bool b')) : Yl P n o E H (.bool (b == b')) := yl_bin ho hx hy (fun w => by simp [go_sem]) fun w => by simp [go_sem, hU.eq]
theorem yl_neqb {b b' : Bool} [hU : Und P t .bool] (ho : o.op = .binOp .neq t x y ty) (hx : ev E x = some (.bool b)) (hy : ev E y = some (.bool b')) : Yl P n o E H (.bool (b != b')) := yl_bin ho hx hy (fun w => by simp [go_sem]) fun w => by simp [go_sem, hU.eq]; cases b <;> cases b' <;> rfl

theorem yl_field {i off g p : Nat} [hF : Fo P t i off] (ho : o.op = .fieldAddr t x i) (hx : ev E x = some (.pointer (some ⟨g, p, none⟩))) : Yl P n o E H (.pointer (some ⟨g, p + off, none⟩)) := fun _ w h1 _ => by
  simp [execOp, ho, h1.ev hx, hF.run]
theorem run_loadVar1 [hA : Ag P t false] {a : Addr} {w : World} (hc : w.cell? a = some v) : (loadVar t a).run P w = .ok v w := by simp [loadVar, hA.run, run_load, hc]
theorem run_loadVarN {m g off : Nat} {vs : List Value} [hA : Ag P t true] [hS : Sz P t m] {w : World} (hl : vs.length = m) (hc : ∀ j u, vs[j]? = some u → w.cell? ⟨g, off + j, none⟩ = some u) :
    (loadVar t ⟨g, off, none⟩).run P w = .ok (.agg vs.toArray) w := by
  have := run_loadCells_list (P := P) (w := w) ⟨g, off, none⟩ vs fun j u hj => by
    have hadd : (⟨g, off, none⟩ : Addr).add j = ⟨g, off + j, none⟩ := by unfold Addr.add; split <;> simp_all
    rw [hadd]; exact hc j u hj
  subst hl
  simp [loadVar, hA.run, hS.run, this]
theorem yl_load {g t' p : Nat} {cells : List Value} [hA : Ag P t false] (ho : o.op = .load t x) (hx : ev E x = some (.pointer (some ⟨g, p, none⟩))) (hi : Has cs (blkC g t' cells)) (hc : cells[p]? = some v) : Yl P n o E (HpM M w0 cs) v := fun _ w h1 h2 => by
  have := run_loadVar1 (P := P) (t := t) (v := v) (a := ⟨g, p, none⟩) (w := w) (by rw [h2.cell hi, hc])
  simp [execOp, ho, h1.ev hx, Instr.loadAt, Instr.sureAddr, this]
theorem yl_loadN {g t' p m : Nat} {cells vs : List Value} [hA : Ag P t true] [hS : Sz P t m] (ho : o.op = .load t x) (hx : ev E x = some (.pointer (some ⟨g, p, none⟩))) (hi : Has cs (blkC g t' cells)) (hc : Nf ((cells.drop p).take m) vs) (hl : vs.length = m) : Yl P n o E (HpM M w0 cs) (.agg vs.toArray) := fun _ w h1 h2 => by
  have := run_loadVarN (P := P) (t := t) (g := g) (off := p) (vs := vs) (w := w) hl fun j u hj => by
    rw [h2.cell hi, ← hj, ← (show (cells.drop p).take m = vs from hc)]
    have : j < vs.length := (List.getElem?_eq_some_iff.1 hj).1
    rw [List.getElem?_take, if_pos (by omega), List.getElem?_drop]
  simp [execOp, ho, h1.ev hx, Instr.loadAt, Instr.sureAddr, this]
theorem yl_build {parts : Array (Nat × Operand)} {z l0 l : List Value} {ps : List (Nat × Nat)} {vs : List (Nat × Value)} [hB : Bld P t z ps] (ho : o.op = .build t parts) (hv : evp E parts.toList = some vs) (hf : fillL ps z vs = some l0) (hn : Nf l0 l) : Yl P n o E H (.agg l.toArray) := fun a w h1 _ => by
  subst hn
  have e : parts.map (fun (i, x) => (i, a.eval x)) = vs.toArray := by
    apply Array.toList_inj.1; simpa using h1.evp hv
  have := hB.run w vs l0 hf
  simp only [execOp, ho, e]
  simp [this]
theorem yl_eqs {u u' : List Value} {b : Bool} (ho : o.op = .binOp .eql t x y ty) (hx : ev E x = some (.agg u.toArray)) (hy : ev E y = some (.agg u'.toArray)) [hE : Eq_ P t (.agg u.toArray) (.agg u'.toArray) b] : Yl P n o E H (.bool b) := fun _ w h1 _ => by
  simp only [execOp, ho, h1.ev hx, h1.ev hy]
  simp [hE.guard, hE.run]
theorem yl_neqs {u u' : List Value} {b : Bool} (ho : o.op = .binOp .neq t x y ty) (hx : ev E x = some (.agg u.toArray)) (hy : ev E y = some (.agg u'.toArray)) [hE : Neq_ P t (.agg u.toArray) (.agg u'.toArray) b] : Yl P n o E H (.bool b) := fun _ w h1 _ => by
  simp only [execOp, ho, h1.ev hx, h1.ev hy]
  simp [hE.guard, hE.run]

/-- A new variable. -/
theorem tri_new {ops : Array Oper} {cells : List Value} (hd : o.dst = some d) (hn : Nat.blt d n = true) (hg : o.guard = none)
    (hr : ∀ a w, FrOk n E a → (execOp a.eval o).run P w = .ok (.value (.pointer (some ⟨w.heap.size, 0, none⟩))) (w.alloc (.cells cells.toArray t)))
    (k : ∀ g, Tri n (wpList P ops Q rest) ((d, .pointer (some ⟨g, 0, none⟩)) :: E) (HpM M w0 (blkC g t cells :: cs))) : Tri n (wpList P ops Q (o :: rest)) E (HpM M w0 cs) := by
  intro a w h1 h2
  unfold wpList
  rw [if_pos (want_plain hg a)]
  refine .inl ?_
  unfold Oper.wp
  rw [hr a w h1, Oper.upon_value, hd]
  refine k w.heap.size _ _ (h1.put hn _) (h2.push (w' := w.alloc (.cells cells.toArray t)) ((Below.refl _ _).alloc (Nat.le_refl _) _) (Nat.le_refl _) ?_ ?_ ?_)
  · show w.heap.size ≤ w.heap.size + 1; omega
  · show w.heap.size + 1 ≤ _; simp
  · exact heap_alloc_new w _
theorem tri_box {ops : Array Oper} {cells : List Value} (hd : o.dst = some d) (hn : Nat.blt d n = true) (hg : o.guard = none) (ho : o.op = .box t x) (hx : ev E x = some v) (hc : Nf v.cells.toList cells)
    (k : ∀ g, Tri n (wpList P ops Q rest) ((d, .pointer (some ⟨g, 0, none⟩)) :: E) (HpM M w0 (blkC g t cells :: cs))) : Tri n (wpList P ops Q (o :: rest)) E (HpM M w0 cs) := by
  subst hc
  exact tri_new hd hn hg (fun a w h1 => by simp only [execOp, ho, h1.ev hx]; simp [Instr.box, newVar, newRow]) k
theorem tri_alloc {ops : Array Oper} {cells : List Value} [hZ : Zr P t v] (hd : o.dst = some d) (hn : Nat.blt d n = true) (hg : o.guard = none) (ho : o.op = .alloc t) (hc : Nf v.cells.toList cells)
    (k : ∀ g, Tri n (wpList P ops Q rest) ((d, .pointer (some ⟨g, 0, none⟩)) :: E) (HpM M w0 (blkC g t cells :: cs))) : Tri n (wpList P ops Q (o :: rest)) E (HpM M w0 cs) := by
  subst hc
  exact tri_new hd hn hg (fun a w h1 => by simp only [execOp, ho]; simp [Instr.alloc, hZ.run, newVar, newRow]) k
end


theorem setL_eq : ∀ (vs cells : List Value) (off : Nat), off + vs.length ≤ cells.length → setL cells off vs = cells.take off ++ vs ++ cells.drop (off + vs.length)
  | [], cells, off, _ => by simp [setL]
  | v :: r, cells, off, h => by
    simp only [List.length_cons] at h
    rw [setL, setL_eq r (cells.set off v) (off + 1) (by simp; omega)]
    have h1 : (cells.set off v).take (off + 1) = cells.take off ++ [v] := by
      rw [List.take_add_one, List.take_set_of_le (by omega)]
      simp [show off < cells.length by omega]
    have h2 : (cells.set off v).drop (off + 1 + r.length) = cells.drop (off + (r.length + 1)) := by
      rw [List.drop_set_of_lt (by omega)]
      congr 1; omega
    rw [h1, h2]
    simp
theorem run_storeVar {P : Program} {t m g p t' : Nat} {cells : List Value} {v : Value} {w : World} [hS : Sz P t m] (hl : v.cells.toList.length = m) (h1 : v.cells.toList.all Value.oneCell' = true)
    (hg : w.heap[g]? = some (.cells cells.toArray t' (0, 0))) (hb : p + m ≤ cells.length) : (storeVar t ⟨g, p, none⟩ v).run P w = .ok () (w.setRow g (setL cells p v.cells.toList).toArray) := by
  have hst := run_storeCells_at P g p t' v.cells.toList 0 cells.toArray w hg (by simpa [hl] using hb) (List.all_eq_true.1 h1)
  simp only [Nat.add_zero] at hst
  have hl' : v.cells.size = m := by simpa using hl
  rw [setL_eq _ _ _ (by rw [hl]; exact hb)]
  simp [storeVar, hS.run, hl', hst]
theorem HpM.stored {M : List Nat} {w0 w : World} {cs : List Chunk} {g t : Nat} {cells cells' : List Value} (h : HpM M w0 cs w) {i : Nat} (hi : cs[i]? = some (blkC g t cells)) (_hl : cells'.length = cells.length) :
    HpM M w0 (cs.set i (blkC g t cells')) (w.setRow g cells'.toArray) := by
  have hg := h.blk ⟨i, hi⟩
  have hlt : g < w.heap.size := (Array.getElem?_eq_some_iff.1 hg).1
  refine h.set hi ⟨rfl, rfl, rfl, by simp⟩ (fun b _ hb => setRow_other w g b _ ?_) (.inl ⟨rfl, rfl⟩) (by show g + 1 ≤ _; simp; omega) (setRow_heap w g _ _ t _ hg)
  have : b < g ∨ g + 1 ≤ b := hb
  omega
theorem tri_store {i : Nat} {M : List Nat} {P : Program} {n : Nat} {Q : Exit → Act → World → Prop} {l rest : List Oper} {o : Oper} {E : Env} {v : Value} {w0 : World} {cs cs' : List Chunk} {x y : Operand} {t g p t' m : Nat} {cells cells' : List Value} [hS : Sz P t m]
    (hd : o.dst = none) (hw : Wan l n o E true) (ho : o.op = .store t x y) (hx : ev E x = some (.pointer (some ⟨g, p, none⟩))) (hy : ev E y = some v) (hi : At cs i (blkC g t' cells))
    (hl : v.cells.toList.length = m) (h1 : v.cells.toList.all Value.oneCell' = true) (hb' : Nat.ble (p + m) cells.length = true)
    (hs : Nf (setL cells p v.cells.toList) cells') (hcs : Nf (cs.set i (blkC g t' cells')) cs')
    (k : Tri n (wpList P l.toArray Q rest) E (HpM M w0 cs')) : Tri n (wpList P l.toArray Q (o :: rest)) E (HpM M w0 cs) := by
  subst hs
  subst hcs
  intro a w h1' h2
  refine wpList_want (hw a h1') ?_
  unfold Oper.wp
  have hg := h2.blk ⟨i, hi⟩
  have hb : p + m ≤ cells.length := by simpa using hb'
  have hr : (execOp a.eval o).run P w = .ok .skip (w.setRow g (setL cells p v.cells.toList).toArray) := by
    simp only [execOp, ho, h1'.ev hx, h1'.ev hy]
    simp [Instr.storeAt, Instr.sureAddr, run_storeVar (P := P) (t := t) hl h1 hg hb]
  rw [hr, Oper.upon_skip, hd]
  exact k _ _ h1' (h2.stored hi (length_setL _ _ _))
theorem wrap_i64 {z : Int} (h : -9223372036854775808 ≤ z ∧ z ≤ 9223372036854775807) : IntKind.i64.wrap z = z := by rw [IntKind.wrap_i64]; omega
theorem wrap_u64 {z : Int} (h : 0 ≤ z ∧ z ≤ 18446744073709551615) : IntKind.u64.wrap z = z := by rw [IntKind.wrap_u64]; omega
section
variable {P : Program} {n : Nat} {o : Oper} {E : Env} {H : World → Prop} {x y : Operand} {t ty : Nat} {i j : Int}
theorem yl_addn (ho : o.op = .binOp .add t x y ty) (hx : ev E x = some (.int .i64 i)) (hy : ev E y = some (.int .i64 j)) (h : -9223372036854775808 ≤ i + j ∧ i + j ≤ 9223372036854775807) : Yl P n o E H (.int .i64 (i + j)) := by
  have := yl_add (P := P) (n := n) (H := H) ho hx hy
  rwa [wrap_i64 h] at this
theorem yl_subn (ho : o.op = .binOp .sub t x y ty) (hx : ev E x = some (.int .i64 i)) (hy : ev E y = some (.int .i64 j)) (h : -9223372036854775808 ≤ i - j ∧ i - j ≤ 9223372036854775807) : Yl P n o E H (.int .i64 (i - j)) := by
  have := yl_sub (P := P) (n := n) (H := H) ho hx hy
  rwa [wrap_i64 h] at this
end

/- Into a function, and out of it. -/
def envOf (k : Nat) : List Value → Env
  | [] => []
  | v :: r => (k, v) :: envOf (k + 1) r
theorem look_envOf : ∀ (vs : List Value) (k i : Nat) (v : Value), look (envOf k vs) i = some v → k ≤ i ∧ vs[i - k]? = some v
  | [], _, _, _, h => by cases h
  | u :: r, k, i, v, h => by
    unfold envOf look at h
    split at h
    · rename_i hb
      have : k = i := Nat.eq_of_beq_eq_true hb
      subst this
      simp only [Option.some.injEq] at h
      simp [h]
    · obtain ⟨h1, h2⟩ := look_envOf r (k + 1) i v h
      refine ⟨by omega, ?_⟩
      have e : i - k = (i - (k + 1)) + 1 := by omega
      rw [e]; simpa using h2
theorem calls_of_tri {P : Program} {f : Nat} {fn : Func} {c : Code} {args : List Value} {n : Nat} {w : World} {R : Ending → World → Prop} (hf : P.funcs[f]? = some fn) (hb : fn.body = some c) (hn : fn.ntmps = n)
    (hle : Nat.ble args.length n = true) (h : Tri n (c.wp P (bodyPost P fn R)) (envOf 0 args) (Hp w [])) : Calls P f args.toArray w R := by
  refine calls_of_wp hf hb (h _ _ ⟨rfl, ?_, fun i v hv => ?_⟩ (Hp.init w))
  · have : args.length ≤ n := by simpa using hle
    simp [hn]; omega
  · obtain ⟨_, h2⟩ := look_envOf args 0 i v hv
    simp only [Nat.sub_zero] at h2
    have hi : i < args.length := (List.getElem?_eq_some_iff.1 h2).1
    have h3 : args[i] = v := by rw [List.getElem?_eq_getElem hi] at h2; simpa using h2
    simp [Array.getD_eq_getD_getElem?, Array.getElem?_append, hi, h3]
def resOf (a : Act) : ResultVar → Sem Value
  | .tmp t => pure (a.tmps.getD t undef)
  | .cell s t => do loadVar t (← asAddr (a.tmps.getD s undef))
def RV (P : Program) (n : Nat) (E : Env) (H : World → Prop) (r : ResultVar) (v : Value) : Prop := ∀ a w, FrOk n E a → H w → (resOf a r).run P w = .ok v w
section
variable {M : List Nat} {P : Program} {n : Nat} {fn : Func} {R : Ending → World → Prop} {E : Env} {H : World → Prop} {v v' v'' : Value} {r r' r'' : ResultVar} {w0 : World} {cs : List Chunk}
theorem rv_tmp {t : Nat} (h : look E t = some v) : RV P n E H (.tmp t) v := fun a w h1 _ => by simp [resOf, h1.slot _ _ h]
theorem rv_cell {s t g t' p : Nat} {cells : List Value} [hA : Ag P t false] (hx : look E s = some (.pointer (some ⟨g, p, none⟩))) (hi : Has cs (blkC g t' cells)) (hc : cells[p]? = some v) : RV P n E (HpM M w0 cs) (.cell s t) v := fun a w h1 h2 => by
  have := run_loadVar1 (P := P) (t := t) (v := v) (a := ⟨g, p, none⟩) (w := w) (by rw [h2.cell hi, hc])
  simp only [resOf, h1.slot _ _ hx]
  simp [asAddr, this]
theorem rv_cellN {s t g t' p m : Nat} {cells vs : List Value} [hA : Ag P t true] [hS : Sz P t m] (hx : look E s = some (.pointer (some ⟨g, p, none⟩))) (hi : Has cs (blkC g t' cells)) (hc : Nf ((cells.drop p).take m) vs) (hl : vs.length = m) : RV P n E (HpM M w0 cs) (.cell s t) (.agg vs.toArray) := fun a w h1 h2 => by
  have := run_loadVarN (P := P) (t := t) (g := g) (off := p) (vs := vs) (w := w) hl fun j u hj => by
    rw [h2.cell hi, ← hj, ← (show (cells.drop p).take m = vs from hc)]
    have : j < vs.length := (List.getElem?_eq_some_iff.1 hj).1
    rw [List.getElem?_take, if_pos (by omega), List.getElem?_drop]
  simp only [resOf, h1.slot _ _ hx]
  simp [asAddr, this]
theorem results_eq (fn : Func) (a : Act) : results fn a.tmps = (do let vs ← fn.results.mapM (resOf a); pure (if h : vs.size = 1 then vs[0] else .tuple vs)) := by
  unfold results
  congr 1
theorem tri_done {x : Exit} (hx : x = .ret ∨ x = .normal) (hr : ∀ a w, FrOk n E a → H w → (results fn a.tmps).run P w = .ok v w) (k : ∀ w, H w → R (.returned v) w) : Tri n (bodyPost P fn R x) E H := fun a w h1 h2 => by
  rcases hx with rfl | rfl <;> exact ⟨h1.defers, v, hr a w h1 h2, k w h2⟩
theorem tri_done0 {x : Exit} (hx : x = .ret ∨ x = .normal) (hf : fn.results = #[]) (k : ∀ w, H w → R (.returned (.tuple #[])) w) : Tri n (bodyPost P fn R x) E H :=
  tri_done hx (fun a w _ _ => by rw [results_eq, hf]; simp) k
theorem tri_done1 {x : Exit} (hx : x = .ret ∨ x = .normal) (hf : fn.results = #[r]) (h1 : RV P n E H r v) (k : ∀ w, H w → R (.returned v) w) : Tri n (bodyPost P fn R x) E H :=
  tri_done hx (fun a w hE hH => by rw [results_eq, hf]; simp [h1 a w hE hH]) k
theorem tri_done2 {x : Exit} (hx : x = .ret ∨ x = .normal) (hf : fn.results = #[r, r']) (h1 : RV P n E H r v) (h2 : RV P n E H r' v') (k : ∀ w, H w → R (.returned (.tuple #[v, v'])) w) : Tri n (bodyPost P fn R x) E H :=
  tri_done hx (fun a w hE hH => by rw [results_eq, hf]; simp [h1 a w hE hH, h2 a w hE hH]) k
theorem tri_done3 {x : Exit} (hx : x = .ret ∨ x = .normal) (hf : fn.results = #[r, r', r'']) (h1 : RV P n E H r v) (h2 : RV P n E H r' v') (h3 : RV P n E H r'' v'') (k : ∀ w, H w → R (.returned (.tuple #[v, v', v''])) w) : Tri n (bodyPost P fn R x) E H :=
  tri_done hx (fun a w hE hH => by rw [results_eq, hf]; simp [h1 a w hE hH, h2 a w hE hH, h3 a w hE hH]) k
end
/-- A call by its number. -/
theorem cl_of {P : Program} {n : Nat} {o : Oper} {E : Env} {H : World → Prop} {v : Value} {f : Nat} {fx : Operand} {xs : Array Operand} {ts : Array Nat} {vs : List Value} [hF : Fun_ P f] (ho : o.op = .call { callee := .value fx, args := xs, argTypes := ts })
    (hf : ev E fx = some (.func (.func f) #[] #[])) (hv : evs E xs.toList = some vs) (hc : ∀ w, H w → Calls P f vs.toArray w fun e w' => e = .returned v ∧ H w') : Cl P n o E H v := fun a w h1 h2 => by
  have e : xs.map a.eval = vs.toArray := by apply Array.toList_inj.1; simpa using h1.evs hv
  refine ⟨f, vs.toArray, ?_, hc w h2⟩
  simp only [execOp, ho, resolve, h1.ev hf, e, Deferred.ofValue]
  simp [invoke, hF.run]
/-- A contract that leaves what was there. -/
def Ret (v : Value) (w : World) (e : Ending) (w' : World) : Prop := e = .returned v ∧ Below w.heap.size w w'
theorem Ret.hp {M : List Nat} {P : Program} {f : Nat} {vs : Array Value} {w w0 : World} {cs : List Chunk} {v : Value} (h : Calls P f vs w (Ret v w)) (hw : HpM M w0 cs w) : Calls P f vs w fun e w' => e = .returned v ∧ HpM M w0 cs w' :=
  h.mono fun _ _ ⟨h1, h2⟩ => ⟨h1, hw.call h2⟩

end Go.Proofs.Ytdmphjphcdcdkaa
