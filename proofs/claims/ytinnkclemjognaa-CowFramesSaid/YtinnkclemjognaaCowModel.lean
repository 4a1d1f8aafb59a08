/- Each operation keeps the machine well-formed. No conditions. -/
import Derived.Test.YtinnkclemjognaaCowPlain
set_option linter.unusedSimpArgs false
set_option linter.unusedVariables false
namespace Go.Proofs.Ytinnkclemjognaa
open Go Go.RowKit
theorem gd_if {α : Type} [Inhabited α] {l : List α} {i j : Nat} {a : α} (h : i < l.length) : (l.set i a).getD j default = if i = j then a else l.getD j default := by
  rw [getD_set j h]
  by_cases e : j = i
  · rw [if_pos e, if_pos e.symm]
  · rw [if_neg e, if_neg fun x => e x.symm]
theorem cnt_set {α : Type} [Inhabited α] {f : α → Bool} : ∀ {l : List α} {i : Nat} {a : α}, i < l.length → (l.set i a).countP f + (if f (l.getD i default) then 1 else 0) = l.countP f + (if f a then 1 else 0)
  | [], _, _, h => by cases h
  | x :: l, 0, a, _ => by
    rw [List.set_cons_zero, List.countP_cons, List.countP_cons]
    show _ + (if f x = true then 1 else 0) = _
    omega
  | x :: l, i + 1, a, h => by
    rw [List.set_cons_succ, List.countP_cons, List.countP_cons]
    have := cnt_set (f := f) (l := l) (i := i) (a := a) (by simpa using h)
    show _ + (if f (l.getD i default) = true then 1 else 0) = _
    omega
theorem cnt_flat {f : PG → Bool} : ∀ {sp : List CS} {s : Nat} {t : CS}, s < sp.length → ((sp.set s t).flatMap (·.pg)).countP f + ((sp.getD s default).pg).countP f = (sp.flatMap (·.pg)).countP f + t.pg.countP f
  | [], _, _, h => by cases h
  | x :: l, 0, a, _ => by
    rw [List.set_cons_zero, List.flatMap_cons, List.flatMap_cons, List.countP_append, List.countP_append]
    show _ + x.pg.countP f = _
    omega
  | x :: l, i + 1, a, h => by
    rw [List.set_cons_succ, List.flatMap_cons, List.flatMap_cons, List.countP_append, List.countP_append]
    have := cnt_flat (f := f) (sp := l) (s := i) (t := a) (by simpa using h)
    show _ + (l.getD i default).pg.countP f = _
    omega
theorem mem_flat {sp : List CS} {x : PG} : x ∈ sp.flatMap (·.pg) ↔ ∃ i, i < sp.length ∧ x ∈ (sp.getD i default).pg := by
  rw [List.mem_flatMap]
  constructor
  · rintro ⟨s, hs, hx⟩
    obtain ⟨i, hi, rfl⟩ := mem_ex hs
    exact ⟨i, hi, hx⟩
  · rintro ⟨i, hi, hx⟩
    exact ⟨_, mem_getD' hi, hx⟩
/-- The pages of the other spaces. -/
def others (sp : List CS) (s : Nat) : List PG := (sp.set s ⟨false, []⟩).flatMap (·.pg)
theorem cnt_others {f : PG → Bool} {sp : List CS} {s : Nat} (h : s < sp.length) : (others sp s).countP f + ((sp.getD s default).pg).countP f = (sp.flatMap (·.pg)).countP f := by
  have := cnt_flat (f := f) (t := ⟨false, []⟩) h
  unfold others
  simpa using this
theorem cnt_turned {f : PG → Bool} {sp : List CS} {s : Nat} (t : CS) (h : s < sp.length) : ((sp.set s t).flatMap (·.pg)).countP f = (others sp s).countP f + t.pg.countP f := by
  have h1 := cnt_flat (f := f) (t := t) h
  have h2 := cnt_others (f := f) h
  omega
theorem mem_others {sp : List CS} {s : Nat} {x : PG} (h : s < sp.length) : x ∈ others sp s ↔ ∃ i, i < sp.length ∧ i ≠ s ∧ x ∈ (sp.getD i default).pg := by
  unfold others
  rw [mem_flat]
  constructor
  · rintro ⟨i, hi, hx⟩
    rw [gd_if h] at hx
    by_cases e : s = i
    · rw [if_pos e] at hx; cases hx
    · rw [if_neg e] at hx; exact ⟨i, by simpa using hi, fun x => e x.symm, hx⟩
  · rintro ⟨i, hi, hne, hx⟩
    refine ⟨i, by simpa using hi, ?_⟩
    rw [gd_if h, if_neg fun x => hne x.symm]
    exact hx
theorem mem_turned {sp : List CS} {s : Nat} {t : CS} {x : PG} (h : s < sp.length) : x ∈ (sp.set s t).flatMap (·.pg) ↔ x ∈ others sp s ∨ x ∈ t.pg := by
  rw [mem_flat, mem_others h]
  constructor
  · rintro ⟨i, hi, hx⟩
    rw [gd_if h] at hx
    by_cases e : s = i
    · rw [if_pos e] at hx; exact .inr hx
    · rw [if_neg e] at hx; exact .inl ⟨i, by simpa using hi, fun x => e x.symm, hx⟩
  · rintro (⟨i, hi, hne, hx⟩ | hx)
    · refine ⟨i, by simpa using hi, ?_⟩
      rw [gd_if h, if_neg fun x => hne x.symm]
      exact hx
    · refine ⟨s, by simpa using h, ?_⟩
      rw [gd_if h, if_pos rfl]
      exact hx
theorem shC_pos {q : List PG} {x : PG} (h : x ∈ q) {i : Nat} (hi : x.fr = i) : 0 < shC q i := List.countP_pos_iff.2 ⟨x, h, by simpa using hi⟩
theorem shC_app (q r : List PG) (i : Nat) : shC (q ++ r) i = shC q i + shC r i := List.countP_append ..
theorem shC_cons (x : PG) (r : List PG) (i : Nat) : shC (x :: r) i = (if x.fr = i then 1 else 0) + shC r i := by
  unfold shC
  rw [List.countP_cons]
  by_cases h : x.fr = i <;> simp [h] <;> omega
theorem shC_set {l : List PG} {p : Nat} {y : PG} (hp : p < l.length) (i : Nat) : shC (l.set p y) i + (if (l.getD p default).fr = i then 1 else 0) = shC l i + (if y.fr = i then 1 else 0) := by
  have := cnt_set (f := fun x : PG => x.fr == (i : Int)) (a := y) hp
  simpa [shC] using this
theorem mem_set' {α : Type} {l : List α} {p : Nat} {y x : α} (h : x ∈ l.set p y) : x ∈ l ∨ x = y := by
  rcases List.mem_or_eq_of_mem_set h with h | h
  · exact .inl h
  · exact .inr h
/-- A machine whose space s shows other pages. -/
theorem ok_turn {m : CW} {s : Nat} {t : CS} {F : List FR} {c : Int} (h : OkM m) (hs : s < m.sp.length) (hc : 0 ≤ c ∧ c ≤ 1048576) (hF : F.length = m.fm.length) (hd : t.lv = false → t.pg = []) (hl : t.lv = true → (t.pg.length : Int) = m.z)
    (hpg : ∀ x ∈ t.pg, -1 ≤ x.fr ∧ x.fr < m.fm.length ∧ (x.fr = -1 → x.wr = false)) (hct : ∀ i, i < m.fm.length → (F.getD i default).ct = shC (others m.sp s) i + shC t.pg i) (hwd : ∀ i, i < m.fm.length → (F.getD i default).ct = 0 → (F.getD i default).wd = 0)
    (hwr : ∀ x, x ∈ others m.sp s ∨ x ∈ t.pg → x.wr = true → shC (others m.sp s) x.fr.toNat + shC t.pg x.fr.toNat = 1) : OkM ⟨m.z, m.sp.set s t, F, c⟩ := by
  have hcnt : ∀ i, shC (allPg ⟨m.z, m.sp.set s t, F, c⟩) i = shC (others m.sp s) i + shC t.pg i := fun i => cnt_turned t hs
  have hmem : ∀ x, x ∈ allPg ⟨m.z, m.sp.set s t, F, c⟩ ↔ x ∈ others m.sp s ∨ x ∈ t.pg := fun x => mem_turned hs
  refine ⟨h.z1, h.z2, ?_, ?_, ?_, ?_, hc.1, hc.2, fun i hi => ?_, fun i hi => ?_, fun x hx => ?_, fun i hi => ?_, fun i hi h0 => hwd i ?_ h0, fun x hx hw => ?_⟩
  · simpa using h.s1
  · simpa using h.s2
  · show 1 ≤ F.length; rw [hF]; exact h.f1
  · show F.length ≤ 256; rw [hF]; exact h.f2
  · show (((m.sp.set s t).getD i default).pg) = []
    have hi' : ((m.sp.set s t).getD i default).lv = false := hi
    rw [gd_if hs] at hi' ⊢
    split
    · rename_i e; rw [if_pos e] at hi'; exact hd hi'
    · rename_i e; rw [if_neg e] at hi'; exact h.dead i hi'
  · show ((((m.sp.set s t).getD i default).pg.length : Nat) : Int) = m.z
    have hi' : ((m.sp.set s t).getD i default).lv = true := hi
    rw [gd_if hs] at hi' ⊢
    split
    · rename_i e; rw [if_pos e] at hi'; exact hl hi'
    · rename_i e; rw [if_neg e] at hi'; exact h.live i hi'
  · show -1 ≤ x.fr ∧ x.fr < (F.length : Int) ∧ _
    rw [hF]
    rcases (hmem x).1 hx with hx | hx
    · obtain ⟨i, hi, _, hx⟩ := (mem_others hs).1 hx
      exact h.pg x (mem_allPg.2 ⟨i, hi, hx⟩)
    · exact hpg x hx
  · show (F.getD i default).ct = _
    rw [hcnt, hct i (by rw [← hF]; exact hi)]
    omega
  · rw [← hF]; exact hi
  · rw [hcnt]
    exact hwr x ((hmem x).1 hx) hw
theorem mem_o {m : CW} {s : Nat} (hs : s < m.sp.length) {x : PG} (hx : x ∈ others m.sp s) : x ∈ allPg m := by
  obtain ⟨i, hi, _, hx⟩ := (mem_others hs).1 hx
  exact mem_allPg.2 ⟨i, hi, hx⟩
section
variable {m : CW} (h : OkM m)
include h
theorem OkM.cnt {s : Nat} (hs : s < m.sp.length) {i : Nat} (hi : i < m.fm.length) : (m.fm.getD i default).ct = shC (others m.sp s) i + shC (m.sp.getD s default).pg i := by
  rw [h.ct i hi]
  have := cnt_others (f := fun x : PG => x.fr == (i : Int)) hs
  unfold allPg shC
  omega
theorem OkM.wro {s : Nat} (hs : s < m.sp.length) {x : PG} (hx : x ∈ others m.sp s) (hw : x.wr = true) : 0 ≤ x.fr ∧ shC (others m.sp s) x.fr.toNat = 1 ∧ shC (m.sp.getD s default).pg x.fr.toNat = 0 := by
  have h1 := h.wr x (mem_o hs hx) hw
  have h2 := h.pg x (mem_o hs hx)
  have h3 : ¬ x.fr = -1 := fun e => by rw [h2.2.2 e] at hw; cases hw
  have h4 := h.cnt hs (i := x.fr.toNat) (by omega)
  rw [h.ct _ (by omega), h1] at h4
  have h5 := shC_pos hx (i := x.fr.toNat) (by omega)
  exact ⟨by omega, by omega, by omega⟩
theorem OkM.wrs {s : Nat} (hs : s < m.sp.length) {x : PG} (hx : x ∈ (m.sp.getD s default).pg) (hw : x.wr = true) : 0 ≤ x.fr ∧ shC (others m.sp s) x.fr.toNat = 0 ∧ shC (m.sp.getD s default).pg x.fr.toNat = 1 := by
  have hx' := mem_allPg.2 ⟨s, hs, hx⟩
  have h1 := h.wr x hx' hw
  have h2 := h.pg x hx'
  have h3 : ¬ x.fr = -1 := fun e => by rw [h2.2.2 e] at hw; cases hw
  have h4 := h.cnt hs (i := x.fr.toNat) (by omega)
  rw [h.ct _ (by omega), h1] at h4
  have h5 := shC_pos hx (i := x.fr.toNat) (by omega)
  exact ⟨by omega, by omega, by omega⟩
theorem write_in {s p : Nat} {w : Int} (hs : s < m.sp.length) (hp : p < (m.sp.getD s default).pg.length) (h0 : 0 ≤ (pgAt m s p).fr) (h1 : (frAt m.fm (pgAt m s p).fr).ct = 1) :
    OkM ⟨m.z, setPg m.sp s p ⟨(pgAt m s p).fr, true⟩, m.fm.set (pgAt m s p).fr.toNat ⟨(frAt m.fm (pgAt m s p).fr).ct, w⟩, m.cp⟩ := by
  obtain ⟨x, hx⟩ : ∃ x, x = pgAt m s p := ⟨_, rfl⟩
  have hxe : x = (m.sp.getD s default).pg.getD p default := hx
  rw [← hx] at h0 h1 ⊢
  have hxm : x ∈ (m.sp.getD s default).pg := by rw [hxe]; exact mem_getD' hp
  have hxr := h.pg x (mem_allPg.2 ⟨s, hs, hxm⟩)
  have hset := fun i => shC_set (y := (⟨x.fr, true⟩ : PG)) hp i
  rw [← hxe] at hset
  simp only at hset
  have hsh : ∀ i, shC ((m.sp.getD s default).pg.set p ⟨x.fr, true⟩) i = shC (m.sp.getD s default).pg i := fun i => by have := hset i; omega
  have hctx := h.cnt hs (i := x.fr.toNat) (by omega)
  unfold frAt at h1
  have hxp := shC_pos hxm (i := x.fr.toNat) (by omega)
  refine ok_turn h hs ⟨h.c1, h.c2⟩ (by simp) (fun e => ?_) (fun e => ?_) (fun y hy => ?_) (fun i hi => ?_) (fun i hi h0 => ?_) (fun y hy hw => ?_)
  · have := h.dead s e; simp only; rw [this] at hp; cases hp
  · simp only; rw [List.length_set]; exact h.live s e
  · rcases mem_set' hy with hy | rfl
    · exact h.pg y (mem_allPg.2 ⟨s, hs, hy⟩)
    · exact ⟨hxr.1, hxr.2.1, fun e => by simp only at e; omega⟩
  · simp only
    rw [gd_if (by omega), hsh, ← h.cnt hs hi]
    split
    · rename_i e; subst e; rfl
    · rfl
  · rw [gd_if (by omega)] at h0 ⊢
    split
    · rename_i e; rw [if_pos e] at h0; unfold frAt at h0; simp only at h0; omega
    · rename_i e; rw [if_neg e] at h0; exact h.wd i hi h0
  · simp only
    rw [hsh]
    rcases hy with hy | hy
    · have := h.wro hs hy hw; omega
    · rcases mem_set' hy with hy | rfl
      · have := h.wrs hs hy hw; omega
      · simp only; omega
theorem write_new {s p k : Nat} {w c : Int} (hc : 0 ≤ c ∧ c ≤ 1048576) (hs : s < m.sp.length) (hp : p < (m.sp.getD s default).pg.length) (hk : k < m.fm.length) (hk0 : (m.fm.getD k default).ct = 0) (h1 : (pgAt m s p).fr < 0 ∨ 1 < (frAt m.fm (pgAt m s p).fr).ct) :
    OkM ⟨m.z, setPg m.sp s p ⟨(k : Int), true⟩, (decF m.fm (pgAt m s p)).set k ⟨1, w⟩, c⟩ := by
  obtain ⟨x, hx⟩ : ∃ x, x = pgAt m s p := ⟨_, rfl⟩
  have hxe : x = (m.sp.getD s default).pg.getD p default := hx
  rw [← hx] at h1 ⊢
  have hxm : x ∈ (m.sp.getD s default).pg := by rw [hxe]; exact mem_getD' hp
  have hxr := h.pg x (mem_allPg.2 ⟨s, hs, hxm⟩)
  have hset := fun i => shC_set (y := (⟨(k : Int), true⟩ : PG)) hp i
  rw [← hxe] at hset
  simp only at hset
  have hdl : (decF m.fm x).length = m.fm.length := by unfold decF; split <;> simp
  have hdg : ∀ i, i < m.fm.length → (decF m.fm x).getD i default = if x.fr = i then ⟨(m.fm.getD i default).ct - 1, (m.fm.getD i default).wd⟩ else m.fm.getD i default := fun i hi => by
    unfold decF
    by_cases h0 : 0 ≤ x.fr
    · rw [if_pos h0, gd_if (by omega)]
      by_cases e : x.fr.toNat = i
      · rw [if_pos e, if_pos (show x.fr = (i : Int) by omega)]; unfold frAt; rw [e]
      · rw [if_neg e, if_neg (by omega)]
    · rw [if_neg h0, if_neg (by omega)]
  have hck := h.cnt hs hk
  refine ok_turn h hs hc (by simp [hdl]) (fun e => ?_) (fun e => ?_) (fun y hy => ?_) (fun i hi => ?_) (fun i hi h0 => ?_) (fun y hy hw => ?_)
  · have := h.dead s e; simp only; rw [this] at hp; cases hp
  · simp only; rw [List.length_set]; exact h.live s e
  · rcases mem_set' hy with hy | rfl
    · exact h.pg y (mem_allPg.2 ⟨s, hs, hy⟩)
    · exact ⟨by simp only; omega, by simp only; omega, fun e => by simp only at e; omega⟩
  · have h2 := hset i
    simp only
    rw [gd_if (by rw [hdl]; exact hk)]
    by_cases e : k = i
    · subst e
      have hxk : ¬ x.fr = (k : Int) := fun e => by have := shC_pos hxm e; omega
      rw [if_neg hxk, if_pos rfl] at h2
      rw [if_pos rfl]
      simp only
      omega
    · rw [if_neg e, hdg i hi]
      rw [if_neg (show ¬ (k : Int) = (i : Int) by omega)] at h2
      have h3 := h.cnt hs hi
      by_cases e2 : x.fr = (i : Int)
      · rw [if_pos e2] at h2 ⊢
        simp only
        omega
      · rw [if_neg e2] at h2 ⊢
        omega
  · rw [gd_if (by rw [hdl]; exact hk)] at h0 ⊢
    by_cases e : k = i
    · rw [if_pos e] at h0; cases h0
    · rw [if_neg e, hdg i hi] at h0 ⊢
      by_cases e2 : x.fr = (i : Int)
      · rw [if_pos e2] at h0
        simp only at h0
        unfold frAt at h1
        rw [e2] at h1
        simp only [Int.toNat_natCast] at h1
        omega
      · rw [if_neg e2] at h0 ⊢
        exact h.wd i hi h0
  · have h2 := hset y.fr.toNat
    simp only
    have h4 : 1 < (frAt m.fm x.fr).ct → 0 ≤ x.fr → (1 : Int) < shC (others m.sp s) x.fr.toNat + shC (m.sp.getD s default).pg x.fr.toNat := fun e1 e2 => by
      unfold frAt at e1
      rw [h.cnt hs (by omega)] at e1
      omega
    have key : ∀ a b : Nat, 0 ≤ y.fr → shC (others m.sp s) y.fr.toNat = a → shC (m.sp.getD s default).pg y.fr.toNat = b → a + b = 1 → shC (others m.sp s) y.fr.toNat + shC ((m.sp.getD s default).pg.set p ⟨(k : Int), true⟩) y.fr.toNat = 1 := by
      intro a b hy0 ha hb hab
      have hyk : ¬ (k : Int) = (y.fr.toNat : Int) := fun e => by
        have : k = y.fr.toNat := by omega
        rw [← this] at ha hb
        omega
      have hxy : ¬ x.fr = (y.fr.toNat : Int) := fun e => by
        rcases h1 with h1 | h1
        · omega
        · have := h4 h1 (by omega)
          rw [e] at this
          simp only [Int.toNat_natCast] at this
          omega
      rw [if_neg hyk, if_neg hxy] at h2
      omega
    rcases hy with hy | hy
    · obtain ⟨e1, e2, e3⟩ := h.wro hs hy hw
      exact key _ _ e1 e2 e3 rfl
    · rcases mem_set' hy with hy | rfl
      · obtain ⟨e1, e2, e3⟩ := h.wrs hs hy hw
        exact key _ _ e1 e2 e3 rfl
      · simp only [Int.toNat_natCast] at h2 ⊢
        have hxk : ¬ x.fr = (k : Int) := fun e => by have := shC_pos hxm e; omega
        rw [if_neg hxk, if_pos trivial] at h2
        omega
end
theorem free_ex {fm : List FR} (h : ¬ freeI fm < 0) : ∃ k : Nat, freeI fm = (k : Int) ∧ k < fm.length ∧ (fm.getD k default).ct = 0 := by
  have ha : fm.any (fun f => f.ct == 0) = true := by rw [← idxM_ge]; exact decide_eq_true (by unfold freeI at h; omega)
  obtain ⟨h1, h2⟩ := idxM_lt ha
  refine ⟨(freeI fm).toNat, by unfold freeI; omega, h2, ?_⟩
  exact beq_iff_eq.1 (idxM_at ha)
theorem free_no {fm : List FR} (h : freeI fm < 0) : ∀ i, i < fm.length → (fm.getD i default).ct ≠ 0 := by
  have ha : fm.any (fun f => f.ct == 0) = false := by rw [← idxM_ge]; exact decide_eq_false (by unfold freeI at h; omega)
  intro i hi
  have := getD_any.1 ha i hi
  simpa using this
theorem cpUp_in {c : Int} (h : 0 ≤ c ∧ c ≤ 1048576) : 0 ≤ cpUp c ∧ cpUp c ≤ 1048576 := by unfold cpUp; split <;> omega
theorem shC_unW (l : List PG) (i : Nat) : shC (l.map unW) i = shC l i := by
  unfold shC
  rw [List.countP_map]
  rfl
/-- Clearing a list of pages. -/
theorem clr_fold : ∀ (l : List PG) (F : List FR), (∀ x ∈ l, x.fr < F.length) → (∀ i, i < F.length → (shC l i : Int) ≤ (F.getD i default).ct) → (∀ i, i < F.length → (F.getD i default).ct = 0 → (F.getD i default).wd = 0) →
    (l.foldl clrF F).length = F.length ∧ ∀ i, i < F.length → (l.foldl clrF F).getD i default = ⟨(F.getD i default).ct - shC l i, if (F.getD i default).ct - shC l i = 0 then 0 else (F.getD i default).wd⟩
  | [], F, _, _, hw => ⟨rfl, fun i hi => by
    show F.getD i default = _
    have h0 : shC [] i = 0 := rfl
    rw [h0]
    have := hw i hi
    obtain ⟨f, hf⟩ : ∃ f, f = F.getD i default := ⟨_, rfl⟩
    rw [← hf] at this ⊢
    obtain ⟨a, b⟩ := f
    simp only at this
    by_cases e : a = 0
    · rw [this e, e]; rfl
    · simp [e]⟩
  | x :: l, F, hx, hc, hw => by
    have hxl := hx x List.mem_cons_self
    have hlen : (clrF F x).length = F.length := by unfold clrF; split <;> simp
    have hg : ∀ i, i < F.length → (clrF F x).getD i default = if x.fr = i then ⟨(F.getD i default).ct - 1, if (F.getD i default).ct - 1 = 0 then 0 else (F.getD i default).wd⟩ else F.getD i default := fun i hi => by
      unfold clrF
      by_cases h0 : 0 ≤ x.fr
      · rw [if_pos h0, gd_if (by omega)]
        by_cases e : x.fr.toNat = i
        · rw [if_pos e, if_pos (show x.fr = (i : Int) by omega)]; unfold frAt; rw [e]
        · rw [if_neg e, if_neg (by omega)]
      · rw [if_neg h0, if_neg (by omega)]
    obtain ⟨h1, h2⟩ := clr_fold l (clrF F x) (fun y hy => by rw [hlen]; exact hx y (List.mem_cons_of_mem _ hy)) (fun i hi => by
      rw [hlen] at hi
      have := hc i hi
      rw [shC_cons] at this
      rw [hg i hi]
      split
      · rename_i e; rw [if_pos e] at this; simp only; omega
      · rename_i e; rw [if_neg e] at this; omega) (fun i hi h0 => by
      rw [hlen] at hi
      rw [hg i hi] at h0 ⊢
      split
      · rename_i e; rw [if_pos e] at h0; simp only at h0 ⊢; rw [if_pos h0]
      · rename_i e; rw [if_neg e] at h0; exact hw i hi h0)
    refine ⟨by rw [List.foldl_cons, h1, hlen], fun i hi => ?_⟩
    have hci := hc i hi
    rw [List.foldl_cons, h2 i (by omega), hg i hi]
    rw [shC_cons] at hci ⊢
    by_cases e : x.fr = (i : Int)
    · rw [if_pos e] at hci ⊢
      simp only [if_pos e]
      have e1 : (F.getD i default).ct - 1 - (shC l i : Int) = (F.getD i default).ct - ((1 + shC l i : Nat) : Int) := by omega
      rw [e1]
      congr 1
      by_cases e2 : (F.getD i default).ct - ((1 + shC l i : Nat) : Int) = 0
      · rw [if_pos e2, if_pos e2]
      · rw [if_neg e2, if_neg e2]
        by_cases e3 : (F.getD i default).ct - 1 = 0
        · exfalso; omega
        · rw [if_neg e3]
    · rw [if_neg e] at hci ⊢
      simp only [if_neg e, Nat.zero_add]
theorem inc_fold : ∀ (l : List PG) (F : List FR), (∀ x ∈ l, x.fr < F.length) →
    (l.foldl incF F).length = F.length ∧ ∀ i, i < F.length → (l.foldl incF F).getD i default = ⟨(F.getD i default).ct + shC l i, (F.getD i default).wd⟩
  | [], F, _ => ⟨rfl, fun i hi => by
    show F.getD i default = _
    have h0 : shC [] i = 0 := rfl
    rw [h0]
    simp⟩
  | x :: l, F, hx => by
    have hxl := hx x List.mem_cons_self
    have hlen : (incF F x).length = F.length := by unfold incF; split <;> simp
    have hg : ∀ i, i < F.length → (incF F x).getD i default = if x.fr = i then ⟨(F.getD i default).ct + 1, (F.getD i default).wd⟩ else F.getD i default := fun i hi => by
      unfold incF
      by_cases h0 : 0 ≤ x.fr
      · rw [if_pos h0, gd_if (by omega)]
        by_cases e : x.fr.toNat = i
        · rw [if_pos e, if_pos (show x.fr = (i : Int) by omega)]; unfold frAt; rw [e]
        · rw [if_neg e, if_neg (by omega)]
      · rw [if_neg h0, if_neg (by omega)]
    obtain ⟨h1, h2⟩ := inc_fold l (incF F x) (fun y hy => by rw [hlen]; exact hx y (List.mem_cons_of_mem _ hy))
    refine ⟨by rw [List.foldl_cons, h1, hlen], fun i hi => ?_⟩
    rw [List.foldl_cons, h2 i (by omega), hg i hi, shC_cons]
    by_cases e : x.fr = (i : Int)
    · rw [if_pos e, if_pos e]
      simp only
      congr 1
      omega
    · rw [if_neg e, if_neg e, Nat.zero_add]
section
variable {m : CW} (h : OkM m)
include h
theorem OkM.bnd {x : PG} {s : Nat} (hs : s < m.sp.length) (hx : x ∈ (m.sp.getD s default).pg) : -1 ≤ x.fr ∧ x.fr < m.fm.length ∧ (x.fr = -1 → x.wr = false) := h.pg x (mem_allPg.2 ⟨s, hs, hx⟩)
theorem unm_ok {s p : Nat} (hs : s < m.sp.length) (hp : p < (m.sp.getD s default).pg.length) : OkM (unmG m s p) := by
  obtain ⟨x, hx⟩ : ∃ x, x = pgAt m s p := ⟨_, rfl⟩
  have hxe : x = (m.sp.getD s default).pg.getD p default := hx
  have hxm : x ∈ (m.sp.getD s default).pg := by rw [hxe]; exact mem_getD' hp
  have hxr := h.bnd hs hxm
  have hset := fun i => shC_set (y := (⟨-1, false⟩ : PG)) hp i
  rw [← hxe] at hset
  simp only at hset
  have hset' : ∀ i, shC ((m.sp.getD s default).pg.set p ⟨-1, false⟩) i + (if x.fr = (i : Int) then 1 else 0) = shC (m.sp.getD s default).pg i := fun i => by
    have := hset i
    rw [if_neg (show ¬ (-1 : Int) = (i : Int) by omega)] at this
    omega
  have hs1 : ∀ i, shC [x] i = if x.fr = (i : Int) then 1 else 0 := fun i => by rw [shC_cons]; rfl
  obtain ⟨hl, hg⟩ := clr_fold [x] m.fm (fun y hy => by rw [List.mem_singleton.1 hy]; exact hxr.2.1) (fun i hi => by
    rw [hs1, h.cnt hs hi]
    have := hset' i
    omega) h.wd
  have hF : [x].foldl clrF m.fm = clrF m.fm x := rfl
  rw [hF] at hl hg
  unfold unmG
  rw [← hx]
  refine ok_turn h hs ⟨h.c1, h.c2⟩ hl (fun e => ?_) (fun e => ?_) (fun y hy => ?_) (fun i hi => ?_) (fun i hi h0 => ?_) (fun y hy hw => ?_)
  · have := h.dead s e; simp only; rw [this] at hp; cases hp
  · simp only; rw [List.length_set]; exact h.live s e
  · rcases mem_set' hy with hy | rfl
    · exact h.bnd hs hy
    · exact ⟨by decide, by simp only; have := h.f1; omega, fun _ => rfl⟩
  · have h2 := hset' i
    have h3 := h.cnt hs hi
    rw [hg i hi, hs1]
    simp only
    omega
  · rw [hg i hi] at h0 ⊢
    simp only at h0 ⊢
    rw [if_pos h0]
  · have h2 := hset' y.fr.toNat
    simp only
    rcases hy with hy | hy
    · have := h.wro hs hy hw; omega
    · rcases mem_set' hy with hy' | rfl
      · have h3 := h.wrs hs hy' hw
        have h4 : 0 < shC ((m.sp.getD s default).pg.set p ⟨-1, false⟩) y.fr.toNat := shC_pos hy (by omega)
        omega
      · cases hw
theorem exit_ok {s : Nat} (hs : s < m.sp.length) : OkM (exitG m s) := by
  obtain ⟨hl, hg⟩ := clr_fold (m.sp.getD s default).pg m.fm (fun y hy => (h.bnd hs hy).2.1) (fun i hi => by
    rw [h.cnt hs hi]
    omega) h.wd
  unfold exitG
  refine ok_turn h hs ⟨h.c1, h.c2⟩ hl (fun e => rfl) (fun e => by cases e) (fun y hy => by cases hy) (fun i hi => ?_) (fun i hi h0 => ?_) (fun y hy hw => ?_)
  · have h3 := h.cnt hs hi
    have h0 : shC (⟨false, []⟩ : CS).pg i = 0 := rfl
    rw [hg i hi, h0]
    simp only
    omega
  · rw [hg i hi] at h0 ⊢
    simp only at h0 ⊢
    rw [if_pos h0]
  · rcases hy with hy | hy
    · have h0 : shC (⟨false, []⟩ : CS).pg y.fr.toNat = 0 := rfl
      rw [h0]
      have := h.wro hs hy hw; omega
    · cases hy
theorem fork_ok {s : Nat} (hs : s < m.sp.length) (hlv : (m.sp.getD s default).lv = true) (h8 : m.sp.length < 8) : OkM (forkG m s) := by
  obtain ⟨hl, hg⟩ := inc_fold (m.sp.getD s default).pg m.fm (fun y hy => (h.bnd hs hy).2.1)
  obtain ⟨l, hle⟩ : ∃ l, l = (m.sp.getD s default).pg := ⟨_, rfl⟩
  have hll := h.live s hlv
  have hsh := fun i => shC_unW l i
  have hcnt : ∀ i, shC (allPg (forkG m s)) i = shC (others m.sp s) i + shC l i + shC l i := fun i => by
    show ((setPs m.sp s ((m.sp.getD s default).pg.map unW) ++ [(⟨true, (m.sp.getD s default).pg.map unW⟩ : CS)]).flatMap (fun c : CS => c.pg)).countP _ = _
    rw [List.flatMap_append, List.countP_append]
    unfold setPs
    rw [cnt_turned _ hs, List.flatMap_singleton]
    have e := hsh i
    rw [hle] at e ⊢
    unfold shC at e ⊢
    simp only
    rw [e]
  have hmem : ∀ x, x ∈ allPg (forkG m s) → x ∈ others m.sp s ∨ ∃ y ∈ l, x = unW y := fun x hx => by
    have hx' : x ∈ (setPs m.sp s ((m.sp.getD s default).pg.map unW) ++ [(⟨true, (m.sp.getD s default).pg.map unW⟩ : CS)]).flatMap (fun c : CS => c.pg) := hx
    rw [List.flatMap_append, List.mem_append, List.flatMap_singleton] at hx'
    unfold setPs at hx'
    rw [mem_turned hs, ← hle] at hx'
    have key : x ∈ l.map unW → ∃ y ∈ l, x = unW y := fun hm => by
      obtain ⟨y, hy, rfl⟩ := List.mem_map.1 hm
      exact ⟨y, hy, rfl⟩
    rcases hx' with (hx' | hx') | hx'
    · exact .inl hx'
    · exact .inr (key hx')
    · exact .inr (key hx')
  have hlen : (forkG m s).sp.length = m.sp.length + 1 := by unfold forkG setPs; simp
  have hgd : ∀ i, (forkG m s).sp.getD i default = if i = s then ⟨true, l.map unW⟩ else if i = m.sp.length then ⟨true, l.map unW⟩ else m.sp.getD i default := fun i => by
    show (setPs m.sp s ((m.sp.getD s default).pg.map unW) ++ [(⟨true, (m.sp.getD s default).pg.map unW⟩ : CS)]).getD i default = _
    rw [getD_app, ← hle]
    unfold setPs
    rw [List.length_set, gd_if hs]
    by_cases h1 : i < m.sp.length
    · rw [if_pos h1]
      by_cases h2 : s = i
      · rw [if_pos h2, if_pos h2.symm, hlv]
      · rw [if_neg h2, if_neg fun e => h2 e.symm, if_neg (by omega)]
    · rw [if_neg h1, if_neg (by omega)]
      by_cases h2 : i = m.sp.length
      · rw [if_pos h2, h2, Nat.sub_self]; rfl
      · rw [if_neg h2, getD_none (l := m.sp) (by omega), getD_none (by simp; omega)]
  rw [← hle] at hll
  have hfl : (forkG m s).fm.length = m.fm.length := hl
  have hgf : ∀ i, i < m.fm.length → (forkG m s).fm.getD i default = ⟨(m.fm.getD i default).ct + shC l i, (m.fm.getD i default).wd⟩ := fun i hi => by rw [hle]; exact hg i hi
  refine ⟨h.z1, h.z2, by omega, by omega, by rw [hfl]; exact h.f1, by rw [hfl]; exact h.f2, h.c1, h.c2, fun i hi => ?_, fun i hi => ?_, fun x hx => ?_, fun i hi => ?_, fun i hi h0 => ?_, fun x hx hw => ?_⟩
  · rw [hgd] at hi ⊢
    split at hi
    · cases hi
    · split at hi
      · cases hi
      · rename_i e1 e2; rw [if_neg e1, if_neg e2]; exact h.dead i hi
  · rw [hgd] at hi ⊢
    split
    · simp only; rw [List.length_map]; exact hll
    · split
      · simp only; rw [List.length_map]; exact hll
      · rename_i e1 e2; rw [if_neg e1, if_neg e2] at hi; exact h.live i hi
  · rw [hfl]
    rcases hmem x hx with hx | ⟨y, hy, rfl⟩
    · exact h.pg x (mem_o hs hx)
    · have := h.bnd hs (x := y) (by rw [← hle]; exact hy)
      exact ⟨this.1, this.2.1, fun _ => rfl⟩
  · rw [hfl] at hi
    rw [hgf i hi, hcnt, h.cnt hs hi, hle]
    simp only
    omega
  · rw [hfl] at hi
    rw [hgf i hi] at h0 ⊢
    simp only at h0 ⊢
    have := (h.ctb hi).1
    exact h.wd i hi (by omega)
  · rcases hmem x hx with hx | ⟨y, hy, rfl⟩
    · obtain ⟨e1, e2, e3⟩ := h.wro hs hx hw
      rw [hcnt, e2, hle, e3]
    · cases hw
theorem write_ok {s p : Nat} {w : Int} (hs : s < m.sp.length) (hp : p < (m.sp.getD s default).pg.length) (he : (writeG m s p w).2 = 0) : OkM (writeG m s p w).1 := by
  unfold writeG at he ⊢
  split at he
  · rename_i h1
    rw [if_pos h1]
    split at he
    · cases he
    · rename_i h2
      rw [if_neg h2]
      obtain ⟨k, e1, e2, e3⟩ := free_ex h2
      rw [e1]
      refine write_new h ?_ hs hp e2 e3 h1
      split
      · exact cpUp_in ⟨h.c1, h.c2⟩
      · exact ⟨h.c1, h.c2⟩
  · rename_i h1
    rw [if_neg h1]
    have h2 := h.shown (x := pgAt m s p) (mem_allPg.2 ⟨s, hs, mem_getD' hp⟩) (by omega)
    exact write_in h hs hp (by omega) (by omega)
end
theorem rep_flat (n : Nat) (i : Nat) : shC (List.replicate n ⟨-1, false⟩) i = 0 := by
  unfold shC
  rw [List.countP_replicate]
  simp
theorem new_ok {n z : Int} (h : ¬ (n < 1 ∨ 256 < n ∨ z < 1 ∨ 512 < z)) : OkM (newM n z).1 := by
  unfold newM
  rw [if_neg h]
  have hall : allPg ⟨z, [⟨true, List.replicate z.toNat ⟨-1, false⟩⟩], List.replicate n.toNat ⟨0, 0⟩, 0⟩ = List.replicate z.toNat ⟨-1, false⟩ := by
    unfold allPg; simp
  have hg : ∀ i, (List.replicate n.toNat (⟨0, 0⟩ : FR)).getD i default = ⟨0, 0⟩ := fun i => by
    rcases Nat.lt_or_ge i n.toNat with hi | hi
    · exact getD_rep hi
    · rw [getD_none (by simpa using hi)]; rfl
  refine ⟨by simp only; omega, by simp only; omega, by simp, by simp, by simp only [List.length_replicate]; omega, by simp only [List.length_replicate]; omega, Int.le_refl 0, by show (0 : Int) ≤ 1048576; omega, fun i hi => ?_, fun i hi => ?_, fun x hx => ?_, fun i hi => ?_, fun i hi h0 => ?_, fun x hx hw => ?_⟩
  · rcases i with _ | i
    · cases hi
    · rfl
  · rcases i with _ | i
    · show ((List.replicate z.toNat (⟨-1, false⟩ : PG)).length : Int) = z
      rw [List.length_replicate]; omega
    · cases hi
  · rw [hall] at hx
    rw [List.eq_of_mem_replicate hx]
    exact ⟨by decide, by simp only [List.length_replicate]; omega, fun _ => rfl⟩
  · rw [hall, rep_flat, hg]; rfl
  · rw [hg]
  · rw [hall] at hx
    rw [List.eq_of_mem_replicate hx] at hw
    cases hw
end Go.Proofs.Ytinnkclemjognaa
