/- A range over a function over the engine: the round's code, the iterator's contract, the statement. No conditions. -/
import Derived.Test.YtongcjepmidamaaSeqK
import Derived.Test.YtongcjepmidamaaMap2
import Derived.OrdersIn
import Derived.RangeFuncLeaves
import Derived.RangeFuncSeq
set_option linter.unusedSimpArgs false
set_option linter.unusedVariables false
namespace Go.Proofs.Ytongcjepmidamaa
open Go Go.RowKit
abbrev Fz (ro : Option Nat) : Fence := { Fence.wide with round := ro }
def noDefer : Op → Bool
  | .defer _ => false
  | _ => true
section
variable {P : Program} {ops : Array Oper} {Q : Exit → Act → World → Prop} {ro : Option Nat} {m : Nat}
theorem callsz {f : FuncId} {args : Array Value} {w : World} {R : Ending → World → Prop} : CallsIn (Fz ro) m P f args w R ↔ Calls P f args w R := callsIn_wide (n := m)
theorem rowsz {row : String} {args : Array Value} {w : World} {R : Value → World → Prop} (h : Rows P row args w R) : RowsIn (Fz ro) m P row args w R := fun c cs _ => by
  obtain ⟨v, w', r, s⟩ := h c cs
  exact ⟨v, w', r, (stepsIn_wide (P := P)).2 s⟩
theorem roundz {m' : Nat} {ro' : Option Nat} {l : Nat} {f : FuncId} {tmps : Array Value} {assign body : Code} {w : World} {R : Ending → World → Prop} (h : RoundIn (Fz ro) m P l f tmps assign body w R) : RoundIn (Fz ro') m' P l f tmps assign body w R :=
  ⟨trivial, fun c cs _ => h.2 c cs (fun _ h => by simp [Fence.wide] at h)⟩
theorem oper_in {o : Oper} {a : Act} {w : World} {K : Act → World → Prop} (hd : noDefer o.op = true) (hQ : ¬ LetsOut Q) (h : o.wp P a w K Q) : o.wpIn (Fz ro) m P a w K Q := by
  unfold Oper.wpIn
  refine ⟨fun _ _ => trivial, ?_⟩
  rw [Oper.semAt_eq (Fz ro).round _ _ (fun c hc => by rw [hc] at hd; cases hd)]
  unfold Oper.wp at h
  generalize (execOp a.eval o).run P w = r at h ⊢
  cases r with
  | ok x w' =>
    cases x <;> simp only [Oper.upon, Oper.uponIn] at h ⊢ <;>
      first
        | exact h
        | exact ⟨fun h => by simp [Fence.wide] at h, (callsz.2 h).mono fun e w'' he => by cases e <;> exact he⟩
        | exact ⟨fun h => by simp [Fence.wide] at h, rowsz h⟩
        | exact h.elim
  | halt x w' => cases x <;> simp only [Oper.upon, Oper.uponIn] at h ⊢ <;> exact h
theorem op_in {o : Oper} {a : Act} {w : World} {K : Act → World → Prop} (hd : noDefer o.op = true) (hQ : ¬ LetsOut Q) (h : if Region.wanted o (yielded ops a.tmps) then o.wp P a w K Q ∨ (o.asks P a w ∧ LetsOut Q) else K (a.put o.dst undef) w) :
    if Region.wanted o (yielded ops a.tmps) then o.wpIn (Fz ro) m P a w K Q else (∀ f, o.about P w a.eval = some f → (Fz ro).fn f) ∧ K (a.put o.dst undef) w := by
  split
  · rename_i hw
    rw [if_pos hw] at h
    exact oper_in hd hQ (h.elim id fun h => absurd h.2 hQ)
  · rename_i hw
    rw [if_neg hw] at h
    exact ⟨fun _ _ => trivial, h⟩
theorem list_in (hQ : ¬ LetsOut Q) : ∀ (l : List Oper) (a : Act) (w : World), (l.all fun o => noDefer o.op) = true → wpList P ops Q l a w → wpListIn (Fz ro) m P ops Q l a w
  | [], _, _, _, h => h
  | o :: l, a, w, hd, h => by
    rw [List.all_cons, Bool.and_eq_true] at hd
    unfold wpList at h
    unfold wpListIn
    refine op_in hd.1 hQ ?_
    split
    · rename_i hw
      rw [if_pos hw] at h
      exact h.imp (Oper.wp_mono fun a w h => list_in hQ l a w hd.2 h) id
    · rename_i hw
      rw [if_neg hw] at h
      exact list_in hQ l _ w hd.2 h
theorem any_in {md : Region.Mode} (hQ : ¬ LetsOut Q) (hd : ∀ (i : Nat) (o : Oper), ops[i]? = some o → noDefer o.op = true) : ∀ (fuel : Nat) (listed : Array Bool) (a : Act) (w : World), wpAny P md ops Q fuel listed a w → wpAnyIn (Fz ro) m P md ops Q fuel listed a w
  | 0, _, _, _, h => h
  | fuel + 1, listed, a, w, h => by
    refine ⟨h.1, fun i hi => ?_⟩
    have h2 := h.2 i hi
    unfold wpOp at h2
    unfold wpOpIn
    cases ho : ops[i]? with
    | none =>
      rw [ho] at h2
      exact any_in hQ hd fuel _ a w h2
    | some o =>
      rw [ho] at h2
      simp only at h2 ⊢
      refine op_in (hd i o ho) hQ ?_
      split
      · rename_i hw
        rw [if_pos hw] at h2
        exact h2.imp (Oper.wp_mono fun a w h => any_in hQ hd fuel _ a w h) id
      · rename_i hw
        rw [if_neg hw] at h2
        exact any_in hQ hd fuel _ _ w h2
end
theorem noq_in {F : Act → World → Prop} : ¬ LetsOut (Exit.then F NoQ) := fun ⟨_, _, h⟩ => h
section
variable {M : List Nat} {P : Program} {n : Nat} {Q : Exit → Act → World → Prop} {F : Act → World → Prop} {E : Env} {H H' : World → Prop} {x y : Code} {ro : Option Nat} {m : Nat} {w0 : World} {cs cs0 : List Chunk}
theorem rr_seq [Dl] (h : Tri n (x.wpIn (Fz ro) m P (Exit.then (y.wpIn (Fz ro) m P Q) Q)) E H) : Tri n ((Code.seq x y).wpIn (Fz ro) m P Q) E H := fun a w h1 h2 => wpIn_seq (h a w h1 h2)
theorem rr_block [Dl] {id : Nat} (h : Tri n (x.wpIn (Fz ro) m P (Exit.inBlock id Q)) E H) : Tri n ((Code.block id x).wpIn (Fz ro) m P Q) E H := fun a w h1 h2 => wpIn_block (h a w h1 h2)
theorem rr_skip [Dl] (h : Tri n (Q .normal) E H) : Tri n (Code.skip.wpIn (Fz ro) m P Q) E H := fun a w h1 h2 => wpIn_skip (h a w h1 h2)
theorem rr_ret [Dl] (h : Tri n (Q .ret) E H) : Tri n (Code.ret.wpIn (Fz ro) m P Q) E H := fun a w h1 h2 => wpIn_ret (h a w h1 h2)
theorem rr_exit [Dl] {id : Nat} (h : Tri n (Q (.exit id)) E H) : Tri n ((Code.exit id).wpIn (Fz ro) m P Q) E H := fun a w h1 h2 => wpIn_exit (h a w h1 h2)
theorem rr_cond [Dl] {c : Operand} {b : Bool} (hc : ev E c = some (.bool b)) (ht : b = true → Tri n (x.wpIn (Fz ro) m P Q) E H) (hf : b = false → Tri n (y.wpIn (Fz ro) m P Q) E H) : Tri n ((Code.cond c x y).wpIn (Fz ro) m P Q) E H := fun a w h1 h2 =>
  wpIn_cond_split (h1.ev hc) (fun h => ht h a w h1 h2) (fun h => hf h a w h1 h2)
theorem rr_if_t [Dl] {c : Operand} (hc : ev E c = some (.bool true)) (ht : Tri n (x.wpIn (Fz ro) m P Q) E H) : Tri n ((Code.cond c x y).wpIn (Fz ro) m P Q) E H := fun a w h1 h2 => wpIn_cond_true (h1.ev hc) (ht a w h1 h2)
theorem rr_if_f [Dl] {c : Operand} (hc : ev E c = some (.bool false)) (hf : Tri n (y.wpIn (Fz ro) m P Q) E H) : Tri n ((Code.cond c x y).wpIn (Fz ro) m P Q) E H := fun a w h1 h2 => wpIn_cond_false (h1.ev hc) (hf a w h1 h2)
theorem noq_out : ∀ (e : Exit) (a : Act) (w : World), Exit.then (Q .normal) NoQ e a w → Q e a w := fun e a w h => by
  cases e with
  | normal => exact h
  | exit id => exact h.elim
  | goto l => exact h.elim
  | ret => exact h.elim
  | panic ch => exact h.elim
  | outgrown => exact h.elim
theorem rr_region [Dl] {id : Nat} {l : List Oper} (h : Tri n (wpList P l.toArray (Exit.then (Q .normal) NoQ) l) E H) (hd : (l.all fun o => noDefer o.op) = true := by rfl) : Tri n ((Code.region id l.toArray false).wpIn (Fz ro) m P Q) E H := fun a w h1 h2 =>
  wpIn_mono (wpIn_region_lit (list_in noq_in l a w hd (h a w h1 h2))) noq_out
theorem rr_held [Dl] (Ks : List Nat) (cs0 : List Chunk) {id : Nat} {l : List Oper} (hm : P.follows .mixedOrders = true) (k : TK P n l (HpM M w0 cs0) Ks l.length (Array.replicate l.length false) (Q .normal) E (HpM M w0 cs)) (hd : (l.all fun o => noDefer o.op) = true := by rfl) : Tri n ((Code.region id l.toArray true).wpIn (Fz ro) m P Q) E (HpM M w0 cs) := fun a w h1 h2 =>
  wpIn_mono (wpIn_region_any hm (any_in noq_in (fun i o ho => List.all_eq_true.1 hd o (List.mem_of_getElem? (by simpa using ho))) _ _ _ _ (wpAny_of_k _ _ _ _ (k a _ h1 h2.drawn)))) noq_out
/- The call of yield, in the iterator. -/
theorem ry_region [Dl] {id : Nat} {l : List Oper} (h : Tri n (wpListIn (Fz none) m P l.toArray (Exit.then (Q .normal) NoQ) l) E H) : Tri n ((Code.region id l.toArray false).wp P Q) E H := fun a w h1 h2 =>
  (wpIn_wide (n := m)).1 (wpIn_mono (wpIn_region_lit (h a w h1 h2)) noq_out)
theorem ry_nil [Dl] {ops : Array Oper} (h : Tri n (Q .normal) E H) : Tri n (wpListIn (Fz ro) m P ops Q []) E H := h
theorem ry_op [Dl] {ops : Array Oper} {o : Oper} {rest : List Oper} (h : Tri n (wpList P ops (Exit.then (wpListIn (Fz ro) m P ops (Exit.then F NoQ) rest) NoQ) [o]) E H) (hd : noDefer o.op = true := by rfl) : Tri n (wpListIn (Fz ro) m P ops (Exit.then F NoQ) (o :: rest)) E H := fun a w h1 h2 => by
  have h := h a w h1 h2
  unfold wpList at h
  unfold wpListIn
  refine op_in hd noq_in ?_
  have e : wpList P ops (Exit.then (wpListIn (Fz ro) m P ops (Exit.then F NoQ) rest) NoQ) [] = wpListIn (Fz ro) m P ops (Exit.then F NoQ) rest := by funext a w; rfl
  rw [e] at h
  split
  · rename_i hw
    rw [if_pos hw] at h
    rcases h with h | ⟨_, h⟩
    · left
      unfold Oper.wp Oper.upon at h ⊢
      split at h <;> exact h
    · exact absurd h noq_in
  · rename_i hw
    rw [if_neg hw] at h
    exact h
def Yld (P : Program) (l : Nat) (vs : List Value) (w : World) (R1 R2 : World → Prop) : Prop := YieldAt (Fz none) 0 P l vs.toArray w fun e w' => (e = .returned (.bool true) ∧ R1 w') ∨ (e = .returned (.bool false) ∧ R2 w')
theorem ry_yield [Dl] {ops : Array Oper} {o : Oper} {rest : List Oper} {d l : Nat} {fx : Operand} {xs : Array Operand} {ts : Array Nat} {vs : List Value} {H1 H2 : World → Prop} (hd : o.dst = some d) (hn : Nat.blt d n = true) (ho : o.op = .call { callee := .value fx, args := xs, argTypes := ts })
    (hf : ev E fx = some (.func (.yield l) #[] #[])) (hv : evs E xs.toList = some vs) (hw : Wan ops.toList n o E true) (hY : ∀ w, H w → Yld P l vs w H1 H2)
    (k1 : Tri n (wpListIn (Fz none) m P ops (Exit.then F NoQ) rest) ((d, .bool true) :: E) H1) (k2 : Tri n (wpListIn (Fz none) m P ops (Exit.then F NoQ) rest) ((d, .bool false) :: E) H2) : Tri n (wpListIn (Fz none) m P ops (Exit.then F NoQ) (o :: rest)) E H := fun a w h1 h2 => by
  unfold wpListIn
  have hw' := hw a h1
  simp only [Array.toArray_toList] at hw'
  rw [if_pos hw']
  obtain ⟨fn, tmps, assign, body, hy, hR⟩ := hY w h2
  have e : xs.map a.eval = vs.toArray := by apply Array.toList_inj.1; simpa using h1.evs hv
  have hrun : (execOp a.eval o).run P w = .ok (.round l fn tmps assign body) w := by
    simp only [execOp, ho, resolve, e, h1.ev hf]
    simp [Deferred.ofValue, Sem.run_bind, invoke, hy]
  unfold Oper.wpIn
  refine ⟨fun _ _ => trivial, ?_⟩
  rw [Oper.semAt_eq (Fz none).round _ _ (fun c hc => by rw [ho] at hc; cases hc), hrun, Oper.uponIn_round]
  refine ⟨fun h => by simp [Fence.wide] at h, (roundz hR).mono fun e w' he => ?_⟩
  rcases he with ⟨rfl, he⟩ | ⟨rfl, he⟩
  · rw [hd]; exact k1 _ _ (h1.put hn _) he
  · rw [hd]; exact k2 _ _ (h1.put hn _) he
end
theorem tri_with [Dl] {n : Nat} {F : Act → World → Prop} {E : Env} {H : World → Prop} (k : ∀ w, H w → Tri n F E H) : Tri n F E H := fun a w h1 h2 => k w h2 a w h1 h2
/- The statement. -/
theorem HpM.pushObj {M : List Nat} {w0 w : World} {cs : List Chunk} (h : HpM M w0 cs w) (o : Obj) : HpM M w0 (objC w.heap.size o :: cs) (w.alloc o) :=
  h.push ((Below.refl _ _).alloc (Nat.le_refl _) _) (Nat.le_refl _) (Nat.le_succ _) (by show w.heap.size + 1 ≤ _; simp) (by show (w.alloc o).heap[w.heap.size]? = _; exact World.alloc_heap_new w o)
theorem HpM.put0 {M : List Nat} {w0 w : World} {cs : List Chunk} {b : Nat} {o : Obj} (h : HpM M w0 (objC b o :: cs) w) (o' : Obj) : HpM M w0 (objC b o' :: cs) (w.putObj b o') := by
  have hb : w.heap[b]? = some o := objC_get w h (has_at at0)
  have hlt := (Array.getElem?_eq_some_iff.1 hb).1
  exact h.setObj (c' := objC b o') (i := 0) at0 rfl rfl rfl rfl hb (World.putObj_heap_same hlt)
def mkD (D : Nat) : Deferred := { target := .collected D, args := #[] }
def dfr : Obj := .deferred (some [])
def IterC (P : Program) (gf : Nat) (lb : List Value) (R : World → Prop) (args : Nat → List Value) (K : Nat) : Prop := ∀ (l : Nat) (J : Nat → World → Prop) (Jx : World → Prop), (∀ k w, J k w → R w) → (∀ k w, k < K → J k w → Yld P l (args k) w (J (k + 1)) Jx) →
  ∀ w, J 0 w → Calls P gf (Value.func (.yield l) #[] #[] :: lb).toArray w fun e w' => (∃ v, e = .returned v) ∧ (J K w' ∨ Jx w')
def RndQ {σ τ : Type} (M : List Nat) (w0 : World) (l D : Nat) (r : Loop) (Ψ : σ → Prop) (I : σ → List Chunk) (Φ : τ → Prop) (X : τ → List Chunk) : Exit → Act → World → Prop
  | .normal, _, w => ∃ s, Ψ s ∧ HpM M w0 (objC l (.loop r) :: objC D dfr :: I s) w
  | .ret, _, w => ∃ t, Φ t ∧ HpM M w0 (objC l (.loop r) :: objC D dfr :: X t) w
  | _, _, _ => False
section
variable {σ τ : Type} {M : List Nat} {P : Program} {n : Nat} {Q : Exit → Act → World → Prop} {E : Env} {H : World → Prop} {w0 : World} {cs : List Chunk}
theorem rn_norm {l D : Nat} {r : Loop} {Ψ : σ → Prop} {I : σ → List Chunk} {Φ : τ → Prop} {X : τ → List Chunk} (s : σ) (hs : Ψ s) (hH : ∀ w, H w → HpM M w0 (objC l (.loop r) :: objC D dfr :: I s) w) : Tri n (RndQ M w0 l D r Ψ I Φ X .normal) E H := fun _ w _ h => ⟨s, hs, hH w h⟩
theorem rn_ret {l D : Nat} {r : Loop} {Ψ : σ → Prop} {I : σ → List Chunk} {Φ : τ → Prop} {X : τ → List Chunk} (t : τ) (ht : Φ t) (hH : ∀ w, H w → HpM M w0 (objC l (.loop r) :: objC D dfr :: X t) w) : Tri n (RndQ M w0 l D r Ψ I Φ X .ret) E H := fun _ w _ h => ⟨t, ht, hH w h⟩
theorem tri_range_func {gf p0 p1 K : Nat} {lb : List Value} {R : World → Prop} {A B : Nat → Value} {g : Operand} {assign body : Code} (I : Nat → σ → List Chunk) (Ψ : Nat → σ → Prop) (X : τ → List Chunk) (Φ : τ → Prop) (E1 : Nat → Env) [hF : Fun_ P gf]
    (hg : ev E g = some (.func (.func gf) #[] lb.toArray)) (hit : IterC P gf lb R (fun k => [A k, B k]) K) (s0 : σ) (h0 : Ψ 0 s0) (hH : ∀ w, H w → HpM M w0 (I 0 s0) w) (hR : ∀ k s w, Ψ k s → HpM M w0 (I k s) w → R w)
    (hp0 : Nat.blt p0 n = true) (hp1 : Nat.blt p1 n = true)
    (hassign : ∀ (k l : Nat) (F : Act → World → Prop) (H' : World → Prop), Tri n F (E1 k) H' → Tri n (assign.wpIn (Fz (some l)) 0 P (Exit.then F NoQ)) ((p1, B k) :: (p0, A k) :: E) H')
    (hbody : ∀ (k : Nat) (s : σ) (l D : Nat) (r : Loop), k < K → Ψ k s → Tri n (body.wpIn (Fz (some l)) 0 P (RndQ M w0 l D r (Ψ (k + 1)) (I (k + 1)) Φ X)) (E1 k) (HpM M w0 (objC l (.loop r) :: objC D dfr :: I k s)))
    (hdone : ∀ (s : σ) (D : Nat) (dl : Dl), dl.val = [mkD D] → Ψ K s → @Tri dl n (Q .normal) E (HpM M w0 (objC D dfr :: I K s)))
    (hstop : ∀ (t : τ) (D : Nat) (dl : Dl), dl.val = [mkD D] → Φ t → @Tri dl n (Q .ret) E (HpM M w0 (objC D dfr :: X t))) :
    Tri n ((Code.rangeFunc g #[p0, p1] assign body).wp P Q) E H := fun a w h1 h2 => by
  have hdef : a.defers = [] := h1.defers
  refine (wpIn_wide (n := 0)).1 (wpIn_rangeFunc fun fn _ => ?_)
  obtain ⟨rec, hrec⟩ : ∃ rec : LoopState → Option Code → Loop, rec = fun st pe => { state := st, pending := pe, fn, tmps := a.tmps, params := #[p0, p1], assign, body, defers := w.heap.size } := ⟨_, rfl⟩
  have hw := hH w h2
  have hw1 := (hw.pushObj dfr).pushObj (.loop (rec .ready none))
  rw [World.size_alloc] at hw1
  obtain ⟨W1, hW1⟩ : ∃ W1, (w.alloc dfr).alloc (.loop (rec .ready none)) = W1 := ⟨_, rfl⟩
  rw [hW1] at hw1
  obtain ⟨D, hD⟩ : ∃ D, D = w.heap.size := ⟨_, rfl⟩
  have hfr : ∀ (dl : Dl), dl.val = [mkD D] → @FrOk dl n E { a with defers := [mkD D] ++ a.defers } := fun dl hdl => ⟨by show [mkD D] ++ a.defers = dl.val; rw [hdl, hdef]; rfl, @FrOk.size noDl n E a h1, fun i v hv => @FrOk.slot noDl n E a h1 i v hv⟩
  refine ⟨w.heap.size + 1, [mkD w.heap.size], W1, { target := .fn (.func gf) lb.toArray, args := #[.func (.yield (w.heap.size + 1)) #[] #[]] }, W1, gf,
    (Value.func (.yield (w.heap.size + 1)) #[] #[] :: lb).toArray, W1, ?_, ?_, fun _ _ => trivial, ?_, fun h => by simp [Fence.wide] at h, ?_⟩
  · rw [← hW1, hrec]; exact run_enterLoop_outer _ _ _ _ _
  · simp only [resolve, rangeCall, h1.ev hg]
    simp [Deferred.ofValue, Act.eval]
  · simp only [invoke]
    have := hF.run (#[Value.func (.yield (w.heap.size + 1)) #[] #[]] ++ lb.toArray) W1
    simpa using this
  rw [← hD] at hw1 ⊢
  obtain ⟨l, hl⟩ : ∃ l, l = D + 1 := ⟨_, rfl⟩
  rw [← hl] at hw1 ⊢
  refine (callsIn_wide (n := 0 - 1)).2 ((hit l (fun k w => ∃ s, Ψ k s ∧ HpM M w0 (objC l (.loop (rec .ready none)) :: objC D dfr :: I k s) w) (fun w => ∃ t, Φ t ∧ HpM M w0 (objC l (.loop (rec .done (some .ret))) :: objC D dfr :: X t) w)
    (fun k w ⟨s, hs, h⟩ => hR k s w hs h.tail.tail) ?_ W1 ⟨s0, h0, hw1⟩).mono ?_)
  · rintro k w3 hk ⟨s, hs, h⟩
    have hL : w3.heap[l]? = some (.loop (rec .ready none)) := objC_get w3 h (has_at at0)
    have hy := run_yield (P := P) (args := #[A k, B k]) hL (by rw [hrec]; rfl)
    rw [hrec] at hy
    refine ⟨fn, _, assign, body, hy, roundIn_of_wpIn (F := Fz none) (n := 0) trivial ?_⟩
    have hfr1 : FrOk n ((p1, B k) :: (p0, A k) :: E) { tmps := (#[p0, p1].zip #[A k, B k]).foldl (fun t (p, v) => t.setIfInBounds p v) a.tmps, defers := [] } := by
      have := (h1.put hp0 (A k)).put hp1 (B k)
      have e : (a.put (some p0) (A k)).put (some p1) (B k) = { tmps := (#[p0, p1].zip #[A k, B k]).foldl (fun t (p, v) => t.setIfInBounds p v) a.tmps, defers := [] } := by
        simp [Act.put, hdef]
      rwa [e] at this
    refine hassign k l _ _ (fun a1 w1 g1 g2 => ?_) _ _ hfr1 h
    have hL1 : w1.heap[l]? = some (.loop (rec .ready none)) := objC_get w1 g2 (has_at at0)
    refine ⟨_, run_beginRound hL1 (by rw [hrec]), ?_⟩
    have g3 := g2.put0 (.loop { rec .ready none with state := .busy })
    refine wpIn_mono (hbody k s l D _ hk hs a1 _ g1 g3) ?_
    rintro e a3 w4 hq
    cases e with
    | normal =>
      obtain ⟨s', hs', h'⟩ := hq
      have hL4 : w4.heap[l]? = some (.loop { rec .ready none with state := .busy }) := objC_get w4 h' (has_at at0)
      refine ⟨_, _, run_endRound (P := P) none hL4, .inl ⟨rfl, s', hs', ?_⟩⟩
      have := h'.put0 (.loop { rec .ready none with state := .ready, pending := none })
      have e : ({ rec .ready none with state := .ready, pending := none } : Loop) = rec .ready none := by rw [hrec]
      rw [e] at this
      have e2 : ({ ({ rec .ready none with state := .busy } : Loop) with state := if (none : Option Code).isNone then .ready else .done, pending := none } : Loop) = rec .ready none := by rw [hrec]; rfl
      rw [e2]
      exact this
    | ret =>
      obtain ⟨t, ht, h'⟩ := hq
      have hL4 : w4.heap[l]? = some (.loop { rec .ready none with state := .busy }) := objC_get w4 h' (has_at at0)
      refine ⟨_, _, run_endRound (P := P) (some .ret) hL4, .inr ⟨rfl, t, ht, ?_⟩⟩
      have := h'.put0 (.loop (rec .done (some .ret)))
      have e2 : ({ ({ rec .ready none with state := .busy } : Loop) with state := if (some Code.ret : Option Code).isNone then .ready else .done, pending := some Code.ret } : Loop) = rec .done (some .ret) := by rw [hrec]; rfl
      rw [e2]
      exact this
    | exit id => exact hq.elim
    | goto t => exact hq.elim
    | panic ch => exact hq.elim
    | outgrown => exact hq.elim
  · rintro e w5 ⟨⟨v, rfl⟩, ⟨s, hs, h⟩ | ⟨t, ht, h⟩⟩
    · have hL : w5.heap[l]? = some (.loop (rec .ready none)) := objC_get w5 h (has_at at0)
      have hE := run_endLoop (P := P) hL (by rw [hrec]; simp)
      refine ⟨_, _, hE, ?_⟩
      have hp : (rec .ready none).pending = none := by rw [hrec]
      rw [hp]
      exact hdone s D ⟨[mkD D]⟩ rfl hs _ _ (hfr _ rfl) (h.put0 _).tail
    · have hL : w5.heap[l]? = some (.loop (rec .done (some .ret))) := objC_get w5 h (has_at at0)
      have hE := run_endLoop (P := P) hL (by rw [hrec]; simp)
      refine ⟨_, _, hE, ?_⟩
      have hp : (rec .done (some .ret)).pending = some .ret := by rw [hrec]
      rw [hp]
      exact wpIn_ret (hstop t D ⟨[mkD D]⟩ rfl ht _ _ (hfr _ rfl) (h.put0 _).tail)
end
/- A function whose body holds a range over a function: its end. -/
section
variable {M : List Nat} {P : Program} {n : Nat} {fn : Func} {R : Ending → World → Prop} {E : Env} {H : World → Prop} {v v' : Value} {r r' : ResultVar} {w0 : World} {cs : List Chunk} {x : Exit}
theorem cal_of_trim {σ : Type} {f : Nat} {c : Code} {args : List Value} {V : σ → Value} {H' : σ → World → Prop} (hf : P.funcs[f]? = some fn) (hb : fn.body = some c) (hn : fn.ntmps = n)
    (hle : Nat.ble args.length n = true) (h : Tri n (c.wp P (bodyPostM Fence.wide 0 P fn fun e w' => ∃ s, e = .returned (V s) ∧ H' s w')) (envOf 0 args) H) : Cal P f args H V H' := fun w hw => by
  refine (callsIn_wide (n := 0)).1 (callsIn_of_wp_marks (F := Fence.wide) hf hb trivial ((wpIn_wide (n := 0)).2 (h _ _ ⟨rfl, ?_, fun i v hv => ?_⟩ hw)))
  · have : args.length ≤ n := by simpa using hle
    simp [hn]; omega
  · obtain ⟨_, h2⟩ := look_envOf args 0 i v hv
    simp only [Nat.sub_zero] at h2
    have hi : i < args.length := (List.getElem?_eq_some_iff.1 h2).1
    have h3 : args[i] = v := by rw [List.getElem?_eq_getElem hi] at h2; simpa using h2
    simp [Array.getD_eq_getD_getElem?, Array.getElem?_append, hi, h3]
theorem donem0 (hx : x = .ret ∨ x = .normal) (hr : ∀ a w, FrOk n E a → H w → (results fn a.tmps).run P w = .ok v w) (k : ∀ w, H w → R (.returned v) w) : Tri n (bodyPostM Fence.wide 0 P fn R x) E H := fun a w h1 h2 => by
  have hd : a.defers = [] := h1.defers
  have : LeavesInM Fence.wide 0 P fn a.tmps R a.defers .returning w := by
    rw [hd]
    exact ⟨v, hr a w h1 h2, k w h2⟩
  rcases hx with rfl | rfl <;> exact this
theorem donem [dl : Dl] {D : Nat} (hdl : dl.val = [mkD D]) (hx : x = .ret ∨ x = .normal) (hr : ∀ a w, FrOk n E a → HpM M w0 cs w → (results fn a.tmps).run P w = .ok v w) (k : ∀ w, HpM M w0 cs w → R (.returned v) w) : Tri n (bodyPostM Fence.wide 0 P fn R x) E (HpM M w0 (objC D dfr :: cs)) := fun a w h1 h2 => by
  have hd : a.defers = [mkD D] := by rw [← hdl]; exact h1.defers
  have hK : w.heap[D]? = some dfr := objC_get w h2 (has_at at0)
  have h3 := (h2.put0 (.deferred none)).tail
  have : LeavesInM Fence.wide 0 P fn a.tmps R a.defers .returning w := by
    rw [hd]
    exact ⟨by simp, .inl ⟨D, _, rfl, run_takeDeferred hK, v, hr a _ h1 h3, k _ h3⟩⟩
  rcases hx with rfl | rfl <;> exact this
theorem donem0_1 (hf : fn.results = #[r]) (k : ∀ w, H w → R (.returned v) w) (hx : x = .ret ∨ x = .normal := by first | exact .inl rfl | exact .inr rfl) (h1 : RV P n E H r v := by first | exact rv_tmp rfl | exact rv_cell rfl (by first | (apply has_at; (repeat (first | exact at0 | apply atS)); done) | (repeat (first | assumption | apply has_cons))) rfl | exact rv_cellN rfl (by first | (apply has_at; (repeat (first | exact at0 | apply atS)); done) | (repeat (first | assumption | apply has_cons))) (by repeat (first | exact nf0 rfl | apply nfS rfl | exact nfR)) (by rfl)) : Tri n (bodyPostM Fence.wide 0 P fn R x) E H :=
  donem0 hx (fun a w hE hH => by rw [results_eq, hf]; simp [h1 a w hE hH]) k
theorem donem0_2 (hf : fn.results = #[r, r']) (k : ∀ w, H w → R (.returned (.tuple #[v, v'])) w) (hx : x = .ret ∨ x = .normal := by first | exact .inl rfl | exact .inr rfl) (h1 : RV P n E H r v := by first | exact rv_tmp rfl | exact rv_cell rfl (by first | (apply has_at; (repeat (first | exact at0 | apply atS)); done) | (repeat (first | assumption | apply has_cons))) rfl | exact rv_cellN rfl (by first | (apply has_at; (repeat (first | exact at0 | apply atS)); done) | (repeat (first | assumption | apply has_cons))) (by repeat (first | exact nf0 rfl | apply nfS rfl | exact nfR)) (by rfl)) (h2 : RV P n E H r' v' := by first | exact rv_tmp rfl | exact rv_cell rfl (by first | (apply has_at; (repeat (first | exact at0 | apply atS)); done) | (repeat (first | assumption | apply has_cons))) rfl | exact rv_cellN rfl (by first | (apply has_at; (repeat (first | exact at0 | apply atS)); done) | (repeat (first | assumption | apply has_cons))) (by repeat (first | exact nf0 rfl | apply nfS rfl | exact nfR)) (by rfl)) : Tri n (bodyPostM Fence.wide 0 P fn R x) E H :=
  donem0 hx (fun a w hE hH => by rw [results_eq, hf]; simp [h1 a w hE hH, h2 a w hE hH]) k
theorem donem_1 [dl : Dl] {D : Nat} (hdl : dl.val = [mkD D]) (hf : fn.results = #[r]) (k : ∀ w, HpM M w0 cs w → R (.returned v) w) (hx : x = .ret ∨ x = .normal := by first | exact .inl rfl | exact .inr rfl) (h1 : RV P n E (HpM M w0 cs) r v := by first | exact rv_tmp rfl | exact rv_cell rfl (by first | (apply has_at; (repeat (first | exact at0 | apply atS)); done) | (repeat (first | assumption | apply has_cons))) rfl | exact rv_cellN rfl (by first | (apply has_at; (repeat (first | exact at0 | apply atS)); done) | (repeat (first | assumption | apply has_cons))) (by repeat (first | exact nf0 rfl | apply nfS rfl | exact nfR)) (by rfl)) : Tri n (bodyPostM Fence.wide 0 P fn R x) E (HpM M w0 (objC D dfr :: cs)) :=
  donem hdl hx (fun a w hE hH => by rw [results_eq, hf]; simp [h1 a w hE hH]) k
theorem donem_2 [dl : Dl] {D : Nat} (hdl : dl.val = [mkD D]) (hf : fn.results = #[r, r']) (k : ∀ w, HpM M w0 cs w → R (.returned (.tuple #[v, v'])) w) (hx : x = .ret ∨ x = .normal := by first | exact .inl rfl | exact .inr rfl) (h1 : RV P n E (HpM M w0 cs) r v := by first | exact rv_tmp rfl | exact rv_cell rfl (by first | (apply has_at; (repeat (first | exact at0 | apply atS)); done) | (repeat (first | assumption | apply has_cons))) rfl | exact rv_cellN rfl (by first | (apply has_at; (repeat (first | exact at0 | apply atS)); done) | (repeat (first | assumption | apply has_cons))) (by repeat (first | exact nf0 rfl | apply nfS rfl | exact nfR)) (by rfl)) (h2 : RV P n E (HpM M w0 cs) r' v' := by first | exact rv_tmp rfl | exact rv_cell rfl (by first | (apply has_at; (repeat (first | exact at0 | apply atS)); done) | (repeat (first | assumption | apply has_cons))) rfl | exact rv_cellN rfl (by first | (apply has_at; (repeat (first | exact at0 | apply atS)); done) | (repeat (first | assumption | apply has_cons))) (by repeat (first | exact nf0 rfl | apply nfS rfl | exact nfR)) (by rfl)) : Tri n (bodyPostM Fence.wide 0 P fn R x) E (HpM M w0 (objC D dfr :: cs)) :=
  donem hdl hx (fun a w hE hH => by rw [results_eq, hf]; simp [h1 a w hE hH, h2 a w hE hH]) k
end
end Go.Proofs.Ytongcjepmidamaa
