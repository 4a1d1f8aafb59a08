/- Texts joined: ShFr. Each part's own remark says what it proves. -/
import Derived.Test.YtojfaelafakemaaM27
/- The shootdown machine in plain Lean: each frame is free, or mapped by one page, or in limbo. No conditions. -/
set_option linter.unusedSimpArgs false
set_option linter.unusedVariables false
namespace Go.Proofs.Ytojfaelafakemaa
open Go Go.RowKit
attribute [local irreducible] decR encS markR mkL invL schk
def cT (m : SM) (k f : Nat) : Nat := (List.range k).countP fun p => frM m p == (f : Int)
def cL (m : SM) (k f : Nat) : Nat := (m.lm.take k).countP fun x => x.f == (f : Int)
def cF (l : List Int) (k f : Nat) : Nat := (l.take k).countP fun x => x == (f : Int)
theorem cT_succ (m : SM) (k f : Nat) : cT m (k + 1) f = cT m k f + if frM m k = (f : Int) then 1 else 0 := by
  unfold cT
  rw [List.range_succ, List.countP_append]
  simp [List.countP_cons]
theorem cL_succ {m : SM} {k : Nat} (hk : k < m.lm.length) (f : Nat) : cL m (k + 1) f = cL m k f + if (m.lm.getD k default).f = (f : Int) then 1 else 0 := by
  unfold cL
  rw [count_step _ hk]
  simp
theorem cF_succ {l : List Int} {k : Nat} (hk : k < l.length) (f : Nat) : cF l (k + 1) f = cF l k f + if l.getD k default = (f : Int) then 1 else 0 := by
  unfold cF
  rw [count_step _ hk]
  simp
theorem cnt_range (f : Nat) (q : Nat → Bool) : ∀ N, (List.range N).countP (fun i => i == f && q i) = if f < N ∧ q f = true then 1 else 0
  | 0 => by simp
  | N + 1 => by
    rw [List.range_succ, List.countP_append, cnt_range f q N, List.countP_singleton]
    by_cases e : N = f
    · subst e
      cases q N <;> simp
    · rw [show (N == f) = false by simpa using e]
      simp only [Bool.false_and, Bool.false_eq_true, if_false, Nat.add_zero]
      by_cases e2 : f < N ∧ q f = true
      · rw [if_pos e2, if_pos ⟨by omega, e2.2⟩]
      · rw [if_neg e2, if_neg (fun x => e2 ⟨by omega, x.2⟩)]
theorem cnt_nd (f : Int) : ∀ l : List LB, (l.map (·.f)).Nodup → ((∃ x ∈ l, x.f = f) → l.countP (fun x => x.f == f) = 1) ∧ ((∀ x ∈ l, x.f ≠ f) → l.countP (fun x => x.f == f) = 0)
  | [], _ => ⟨fun ⟨x, hx, _⟩ => (by cases hx), fun _ => rfl⟩
  | a :: l, h => by
    rw [List.map_cons, List.nodup_cons] at h
    have ih := cnt_nd f l h.2
    rw [List.countP_cons]
    by_cases e : a.f = f
    · have h0 := ih.2 fun x hx e2 => h.1 (List.mem_map.2 ⟨x, hx, by rw [e2, e]⟩)
      refine ⟨fun _ => by rw [h0, show (a.f == f) = true by simpa using e]; rfl, fun x => absurd e (x a (List.mem_cons_self ..))⟩
    · rw [show (a.f == f) = false by simpa using e]
      refine ⟨fun ⟨x, hx, ex⟩ => ?_, fun x => ?_⟩
      · rcases List.mem_cons.1 hx with rfl | hx
        · exact absurd ex e
        · rw [ih.1 ⟨x, hx, ex⟩]; rfl
      · rw [ih.2 fun y hy => x y (List.mem_cons_of_mem _ hy)]; rfl
section
variable {m : SM} (h : Vp m)
include h
theorem cF_free (f : Nat) : cF (freeM m) (freeM m).length f = if f < m.wd.length ∧ freeB m (f : Int) = true then 1 else 0 := by
  unfold cF freeM
  rw [if_neg (fun x => x (vp_iff.2 h)), List.take_length, List.countP_filter, List.countP_map]
  rw [← cnt_range f (fun i => freeB m (i : Int)) m.wd.length]
  refine List.countP_congr fun i _ => ?_
  show (((i : Int) == (f : Int)) && freeB m (i : Int)) = true ↔ _
  rw [show ((i : Int) == (f : Int)) = (i == f) by rw [Bool.eq_iff_iff, beq_iff_eq, beq_iff_eq]; omega]
theorem cT_yes {f p : Nat} (hp : p < m.tb.length) (e : frM m p = (f : Int)) : cT m m.tb.length f = 1 := by
  unfold cT
  have := cnt_range p (fun _ => true) m.tb.length
  rw [if_pos ⟨hp, rfl⟩] at this
  rw [← this]
  refine List.countP_congr fun i hi => ?_
  rw [Bool.and_true, beq_iff_eq, beq_iff_eq]
  constructor
  · intro x
    apply Decidable.byContradiction
    intro hne
    exact h.dj2 (List.mem_range.1 hi) hp hne (by omega) (by rw [x, e])
  · rintro rfl; exact e
omit h in
theorem cT_no {f : Nat} (e : ∀ p, p < m.tb.length → frM m p ≠ (f : Int)) : cT m m.tb.length f = 0 := by
  unfold cT
  rw [List.countP_eq_zero]
  intro p hp x
  exact e p (List.mem_range.1 hp) (by simpa using x)
/-- Each frame has one owner. -/
theorem own_one {f : Nat} (hf : f < m.wd.length) : cT m m.tb.length f + cL m m.lm.length f + cF (freeM m) (freeM m).length f = 1 := by
  rw [cF_free h f]
  have hL := cnt_nd (f : Int) m.lm h.nd
  have eL : cL m m.lm.length f = m.lm.countP fun x => x.f == (f : Int) := by unfold cL; rw [List.take_length]
  by_cases h1 : ∃ p, p < m.tb.length ∧ frM m p = (f : Int)
  · obtain ⟨p, hp, e⟩ := h1
    have h2 : ∀ x ∈ m.lm, x.f ≠ (f : Int) := fun x hx ex => (h.lm x hx).2.1 p hp (by rw [e, ex])
    rw [cT_yes h hp e, eL, hL.2 h2, if_neg (fun x => (freeB_iff.1 x.2).1 p hp e)]
  · have h1' : ∀ p, p < m.tb.length → frM m p ≠ (f : Int) := fun p hp e => h1 ⟨p, hp, e⟩
    rw [cT_no h1', eL]
    by_cases h2 : ∃ x ∈ m.lm, x.f = (f : Int)
    · rw [hL.1 h2, if_neg (fun x => by obtain ⟨y, hy, e⟩ := h2; exact (freeB_iff.1 x.2).2 y hy e)]
    · have h2' : ∀ x ∈ m.lm, x.f ≠ (f : Int) := fun x hx e => h2 ⟨x, hx, e⟩
      rw [hL.2 h2', if_pos ⟨hf, freeB_iff.2 ⟨h1', h2'⟩⟩]
theorem lm_inj {x y : LB} (hx : x ∈ m.lm) (hy : y ∈ m.lm) (e : x.f = y.f) : x = y := by
  obtain ⟨i, hi, rfl⟩ := List.getElem_of_mem hx
  obtain ⟨j, hj, rfl⟩ := List.getElem_of_mem hy
  have hn := List.pairwise_iff_getElem.1 (List.nodup_iff_pairwise_ne.1 h.nd)
  rcases Nat.lt_trichotomy i j with hl | rfl | hl
  · have := hn i j (by rw [List.length_map]; omega) (by rw [List.length_map]; omega) hl
    rw [List.getElem_map, List.getElem_map] at this
    exact absurd e this
  · rfl
  · have := hn j i (by rw [List.length_map]; omega) (by rw [List.length_map]; omega) hl
    rw [List.getElem_map, List.getElem_map] at this
    exact absurd e.symm this
/-- The operation is the last acknowledgement of the mask. -/
def lastM (o : SO) (a : Int) : Bool := decide ((4 < o.k ∨ o.k < 0) ∧ (0 ≤ o.c ∧ o.c < 8) ∧ a = 2 ^ o.c.toNat)
/-- A frame leaves limbo exactly with the last acknowledgement. -/
theorem kept_ok {d : SM} {o : SO} {u e : Int} (hs : Stp m o d u e) {x : LB} (hx : x ∈ m.lm) : (d.lm.any fun y => y.f == x.f) = !lastM o x.a := by
  have key : ∀ {d' : SM}, (0 ≤ o.k ∧ o.k ≤ 4) → (∀ y ∈ m.lm, y ∈ d'.lm) → (d'.lm.any fun y => y.f == x.f) = !lastM o x.a := fun hk hm => by
    unfold lastM
    rw [decide_eq_false (by omega)]
    exact List.any_eq_true.2 ⟨x, hm x hx, by simp⟩
  cases hs with
  | mp y => exact key (by omega) fun y hy => hy
  | um y hp hpg =>
    refine key (by omega) fun y hy => ?_
    show y ∈ if (ntfM m o.p m.tl.length).2 = 0 then m.lm else m.lm ++ [(⟨(tgtX m o.p).n, (ntfM m o.p m.tl.length).2⟩ : LB)]
    split
    · exact hy
    · exact List.mem_append.2 (.inl hy)
  | pr y => exact key (by omega) fun y hy => hy
  | pn y => exact key (by omega) fun y hy => hy
  | hit y hc hp t ht htp => exact key (by omega) fun y hy => by rw [(use_len m _ _ _).2.2.2.2]; exact hy
  | den y => exact key (by omega) fun y hy => hy
  | fil y hc hp hpg W hW hWn hWa hWc => exact key (by omega) fun y hy => by rw [(use_len _ _ _ _).2.2.2.2]; exact hy
  | ack hk hc =>
    obtain ⟨_, _, ⟨a1, a2⟩, _⟩ := h.lm x hx
    have hr := h.r
    have h16 := (pow_le (c := m.tl.length) hr.2.1).2
    have hcn : o.c.toNat < 4 := by omega
    have hz : (clrA o.c.toNat x).a = 0 ↔ x.a = 2 ^ o.c.toNat := by
      unfold clrA
      simp only
      constructor
      · intro z
        split at z
        · omega
        · omega
      · intro z
        rw [if_pos (bit_one ⟨by omega, by omega⟩ hcn z)]
        omega
    have hany : ((ackG m o.c.toNat).lm.any fun y => y.f == x.f) = true ↔ ¬ (clrA o.c.toNat x).a = 0 := by
      show (((m.lm.map (clrA o.c.toNat)).filter fun x => !(x.a == 0)).any fun y => y.f == x.f) = true ↔ _
      rw [List.any_eq_true]
      constructor
      · rintro ⟨y, hy, e⟩
        rw [List.mem_filter, List.mem_map] at hy
        obtain ⟨⟨z, hzm, rfl⟩, hz⟩ := hy
        have e : z.f = x.f := by have := beq_iff_eq.1 e; exact this
        rw [lm_inj h hzm hx e] at hz
        simpa using hz
      · intro hz
        exact ⟨clrA o.c.toNat x, List.mem_filter.2 ⟨List.mem_map.2 ⟨x, hx, rfl⟩, by simpa using hz⟩, by simp [clrA]⟩
    rw [Bool.eq_iff_iff, hany, hz]
    unfold lastM
    rw [Bool.not_eq_true', decide_eq_false_iff_not]
    constructor
    · rintro g ⟨_, _, g2⟩; exact g g2
    · intro g g2; exact g ⟨by omega, by omega, g2⟩
end
end Go.Proofs.Ytojfaelafakemaa
