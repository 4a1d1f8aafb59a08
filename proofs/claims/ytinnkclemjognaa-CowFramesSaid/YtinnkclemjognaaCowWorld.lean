/- The plain model of the spaces, and that the machine shows it after each operation. No conditions. -/
import Derived.Test.YtinnkclemjognaaCowModel
import Derived.Test.YtinnkclemjognaaALst
set_option linter.unusedSimpArgs false
set_option linter.unusedVariables false
namespace Go.Proofs.Ytinnkclemjognaa
open Go Go.RowKit
/-- An operation of a script. -/
structure OP where
  kd : Int
  s : Int
  p : Int
  w : Int
  deriving DecidableEq
/-- The model of the spaces. -/
structure WM where
  lv : List Bool
  ws : List (List Int)
  ids : List (List Int)
  nx : Int
def newW (z : Nat) : WM := ⟨[true], [List.replicate z 0], [List.replicate z 0], 1⟩
def rowI (W : WM) (i : Nat) : List Int := if W.lv.getD i default = true then W.ids.getD i default else []
def liveI (W : WM) : List Int := (List.range W.ids.length).flatMap (rowI W)
def sharesW (W : WM) (id : Int) : Nat := (liveI W).countP (fun x => x == id)
def usedW (W : WM) : Nat := dcN ((liveI W).filter fun x => decide (0 < x))
def hasW (W : WM) (s p : Int) : Bool := decide (0 ≤ s ∧ s < W.lv.length ∧ W.lv.getD s.toNat default = true ∧ 0 ≤ p ∧ p < (W.ws.getD s.toNat default).length)
def idAt (W : WM) (s p : Nat) : Int := (W.ids.getD s default).getD p default
def setIn (L : List (List Int)) (s p : Nat) (x : Int) : List (List Int) := L.set s ((L.getD s default).set p x)
def copW (W : WM) (s p : Nat) : Bool := decide (0 < idAt W s p ∧ 1 < sharesW W (idAt W s p))
def freshW (W : WM) (s p : Nat) : Bool := idAt W s p == 0 || copW W s p
def wrW (W : WM) (s p : Nat) (w : Int) : WM := if freshW W s p = true then ⟨W.lv, setIn W.ws s p w, setIn W.ids s p W.nx, W.nx + 1⟩ else ⟨W.lv, setIn W.ws s p w, W.ids, W.nx⟩
def fkW (W : WM) (s : Nat) : WM := ⟨W.lv ++ [true], W.ws ++ [W.ws.getD s default], W.ids ++ [W.ids.getD s default], W.nx⟩
def umW (W : WM) (s p : Nat) : WM := ⟨W.lv, setIn W.ws s p 0, setIn W.ids s p 0, W.nx⟩
def exW (W : WM) (s : Nat) : WM := ⟨W.lv.set s false, W.ws, W.ids, W.nx⟩
def doW (W : WM) (o : OP) : WM × Bool := if o.kd = 0 then (wrW W o.s.toNat o.p.toNat o.w, copW W o.s.toNat o.p.toNat) else if o.kd = 1 then (fkW W o.s.toNat, false) else if o.kd = 2 then (umW W o.s.toNat o.p.toNat, false) else if o.kd = 3 then (exW W o.s.toNat, false) else (W, false)
def idOf (φ : Nat → Int) (f : Int) : Int := if f < 0 then 0 else φ f.toNat
def wdOf (F : List FR) (f : Int) : Int := if f < 0 then 0 else (F.getD f.toNat default).wd
structure Inv (m : CW) (W : WM) (φ : Nat → Int) : Prop where
  ok : OkM m
  l1 : W.lv.length = m.sp.length
  l2 : W.ws.length = m.sp.length
  l3 : W.ids.length = m.sp.length
  lv : ∀ i, W.lv.getD i default = (m.sp.getD i default).lv
  r2 : ∀ i, (m.sp.getD i default).lv = true → (W.ws.getD i default).length = (m.sp.getD i default).pg.length
  r3 : ∀ i, (m.sp.getD i default).lv = true → (W.ids.getD i default).length = (m.sp.getD i default).pg.length
  id : ∀ i j, (m.sp.getD i default).lv = true → j < (m.sp.getD i default).pg.length → idAt W i j = idOf φ (pgAt m i j).fr
  wd : ∀ i j, (m.sp.getD i default).lv = true → j < (m.sp.getD i default).pg.length → (W.ws.getD i default).getD j default = wdOf m.fm (pgAt m i j).fr
  inj : ∀ f g, f < m.fm.length → g < m.fm.length → 0 < (m.fm.getD f default).ct → 0 < (m.fm.getD g default).ct → φ f = φ g → f = g
  rng : ∀ f, f < m.fm.length → 0 < (m.fm.getD f default).ct → 0 < φ f ∧ φ f < W.nx
  nx : 1 ≤ W.nx
theorem pgAt_lt {m : CW} {i j : Nat} (hj : j < (m.sp.getD i default).pg.length) : i < m.sp.length := by
  rcases Nat.lt_or_ge i m.sp.length with hi | hi
  · exact hi
  · rw [getD_none hi] at hj; cases hj
theorem lv_lt {m : CW} {i : Nat} (h : (m.sp.getD i default).lv = true) : i < m.sp.length := by
  rcases Nat.lt_or_ge i m.sp.length with hi | hi
  · exact hi
  · rw [getD_none hi] at h; cases h
theorem OkM.pgb {m : CW} (h : OkM m) {i j : Nat} (hj : j < (m.sp.getD i default).pg.length) : -1 ≤ (pgAt m i j).fr ∧ (pgAt m i j).fr < m.fm.length ∧ (0 ≤ (pgAt m i j).fr → 0 < (m.fm.getD (pgAt m i j).fr.toNat default).ct) := by
  have h1 := h.at_ hj
  refine ⟨h1.1, h1.2.1, fun h0 => ?_⟩
  have := h.shown (x := pgAt m i j) (mem_allPg.2 ⟨i, pgAt_lt hj, mem_getD' hj⟩) h0
  unfold frAt at this
  omega
theorem flat_range {α : Type} [Inhabited α] {β : Type} (f : α → List β) : ∀ (l : List α), l.flatMap f = (List.range l.length).flatMap fun i => f (l.getD i default)
  | [] => rfl
  | x :: l => by
    rw [List.flatMap_cons, List.length_cons, List.range_succ_eq_map, List.flatMap_cons, List.flatMap_map, flat_range f l]
    rfl
theorem flat_congr {α β : Type} {f g : α → List β} : ∀ {l : List α}, (∀ x ∈ l, f x = g x) → l.flatMap f = l.flatMap g
  | [], _ => rfl
  | x :: l, h => by rw [List.flatMap_cons, List.flatMap_cons, h x List.mem_cons_self, flat_congr fun y hy => h y (List.mem_cons_of_mem _ hy)]
theorem liveI_eq {m : CW} {W : WM} {φ : Nat → Int} (h : Inv m W φ) : liveI W = (allPg m).map fun x => idOf φ x.fr := by
  have e := flat_range (fun s : CS => s.pg) m.sp
  unfold liveI allPg
  rw [e, List.map_flatMap, h.l3]
  refine flat_congr fun i hi => ?_
  unfold rowI
  rw [h.lv]
  by_cases e : (m.sp.getD i default).lv = true
  · rw [if_pos e]
    refine ext_getD (by rw [h.r3 i e, List.length_map]) fun j hj => ?_
    rw [h.r3 i e] at hj
    have := h.id i j e hj
    unfold idAt pgAt at this
    rw [this, getD_get (l := List.map _ _) (by simpa using hj), List.getElem_map, ← getD_get hj]
  · rw [if_neg e, h.ok.dead i (by simpa using e)]; rfl
theorem cnt_congr {α : Type} {p q : α → Bool} {l : List α} (h : ∀ x ∈ l, p x = q x) : l.countP p = l.countP q := List.countP_congr fun x hx => by rw [h x hx]
theorem shares_eq {m : CW} {W : WM} {φ : Nat → Int} (h : Inv m W φ) {x : PG} (hx : x ∈ allPg m) (h0 : 0 ≤ x.fr) : (sharesW W (φ x.fr.toNat) : Int) = (m.fm.getD x.fr.toNat default).ct := by
  have hb := h.ok.pg x hx
  have hs : ∀ y ∈ allPg m, 0 ≤ y.fr → y.fr.toNat < m.fm.length ∧ 0 < (m.fm.getD y.fr.toNat default).ct := fun y hy hy0 => by
    have h1 := h.ok.pg y hy
    have h2 := h.ok.shown hy hy0
    unfold frAt at h2
    exact ⟨by omega, by omega⟩
  have hx1 := hs x hx h0
  rw [h.ok.ct _ hx1.1]
  unfold sharesW
  rw [liveI_eq h, List.countP_map]
  congr 1
  refine cnt_congr fun y hy => ?_
  show (idOf φ y.fr == φ x.fr.toNat) = (y.fr == (x.fr.toNat : Int))
  rw [Bool.eq_iff_iff, beq_iff_eq, beq_iff_eq]
  unfold idOf
  by_cases h1 : y.fr < 0
  · rw [if_pos h1]
    have := (h.rng _ hx1.1 hx1.2).1
    omega
  · rw [if_neg h1]
    have hy1 := hs y hy (by omega)
    constructor
    · intro e
      have := h.inj _ _ hy1.1 hx1.1 hy1.2 hx1.2 e
      omega
    · intro e
      rw [show y.fr.toNat = x.fr.toNat by omega]
theorem cnt_range {α : Type} [Inhabited α] (p : α → Bool) : ∀ (l : List α), (List.range l.length).countP (fun i => p (l.getD i default)) = l.countP p
  | [] => rfl
  | x :: l => by
    rw [List.length_cons, List.range_succ_eq_map, List.countP_cons, List.countP_cons, List.countP_map, ← cnt_range p l]
    rfl
theorem nodup_map' {α β : Type} {f : α → β} : ∀ {l : List α}, l.Nodup → (∀ x ∈ l, ∀ y ∈ l, f x = f y → x = y) → (l.map f).Nodup
  | [], _, _ => List.nodup_nil
  | x :: l, h, hi => by
    rw [List.nodup_cons] at h
    rw [List.map_cons, List.nodup_cons]
    refine ⟨fun hm => ?_, nodup_map' h.2 fun a ha b hb => hi a (List.mem_cons_of_mem _ ha) b (List.mem_cons_of_mem _ hb)⟩
    obtain ⟨y, hy, e⟩ := List.mem_map.1 hm
    have := hi y (List.mem_cons_of_mem _ hy) x List.mem_cons_self e
    exact h.1 (this ▸ hy)
theorem used_eq {m : CW} {W : WM} {φ : Nat → Int} (h : Inv m W φ) : usedW W = m.fm.countP fun f => decide (f.ct > 0) := by
  unfold usedW
  rw [← cnt_range, List.countP_eq_length_filter]
  have hn : (((List.range m.fm.length).filter fun i => decide ((m.fm.getD i default).ct > 0)).map φ).Nodup := by
    refine nodup_map' (List.nodup_range.filter _) fun a ha b hb e => ?_
    rw [List.mem_filter, List.mem_range] at ha hb
    exact h.inj a b ha.1 hb.1 (of_decide_eq_true ha.2) (of_decide_eq_true hb.2) e
  rw [← dc_of hn, List.length_map]
  intro x
  rw [List.mem_map, List.mem_filter, liveI_eq h, List.mem_map, decide_eq_true_eq]
  constructor
  · rintro ⟨f, hf, rfl⟩
    rw [List.mem_filter, List.mem_range, decide_eq_true_eq] at hf
    have h1 := h.ok.ct f hf.1
    have h2 := h.rng f hf.1 (by omega)
    have h3 : 0 < shC (allPg m) f := by omega
    obtain ⟨y, hy, hy2⟩ := List.countP_pos_iff.1 h3
    have hy3 : y.fr = (f : Int) := by simpa using hy2
    refine ⟨⟨y, hy, ?_⟩, h2.1⟩
    unfold idOf
    rw [hy3, if_neg (by omega)]
    rfl
  · rintro ⟨⟨y, hy, rfl⟩, h0⟩
    unfold idOf at h0 ⊢
    by_cases e : y.fr < 0
    · rw [if_pos e] at h0; omega
    · rw [if_neg e]
      have h1 := h.ok.pg y hy
      have h2 := h.ok.shown hy (by omega)
      unfold frAt at h2
      exact ⟨_, List.mem_filter.2 ⟨List.mem_range.2 (by omega), by rw [decide_eq_true_eq]; omega⟩, rfl⟩
theorem gd_setIn {L : List (List Int)} {s p : Nat} {x : Int} (hs : s < L.length) (hp : p < (L.getD s default).length) (i j : Nat) : ((setIn L s p x).getD i default).getD j default = if i = s ∧ j = p then x else (L.getD i default).getD j default := by
  unfold setIn
  rw [gd_if hs]
  by_cases h : s = i
  · subst h
    rw [if_pos rfl, gd_if hp]
    by_cases h2 : p = j
    · rw [if_pos h2, if_pos ⟨rfl, h2.symm⟩]
    · rw [if_neg h2, if_neg fun e => h2 e.2.symm]
  · rw [if_neg h, if_neg fun e => h e.1.symm]
theorem len_setIn (L : List (List Int)) (s p : Nat) (x : Int) : (setIn L s p x).length = L.length := by unfold setIn; simp
theorem row_setIn (L : List (List Int)) (s p : Nat) (x : Int) (i : Nat) : ((setIn L s p x).getD i default).length = (L.getD i default).length := by
  unfold setIn
  rcases Nat.lt_or_ge s L.length with hs | hs
  · rw [gd_if hs]
    by_cases h : s = i
    · rw [if_pos h, List.length_set, h]
    · rw [if_neg h]
  · rw [List.set_eq_of_length_le hs]
/-- Pages and spaces with one page turned. -/
theorem sp_setPg {sp : List CS} {s p : Nat} {y : PG} (hs : s < sp.length) (i : Nat) : ((setPg sp s p y).getD i default).lv = (sp.getD i default).lv ∧ ((setPg sp s p y).getD i default).pg.length = (sp.getD i default).pg.length := by
  unfold setPg
  rw [gd_if hs]
  by_cases h : s = i
  · rw [if_pos h]; subst h; exact ⟨rfl, List.length_set ..⟩
  · rw [if_neg h]; exact ⟨rfl, rfl⟩
theorem pg_setPg {m : CW} {s p : Nat} {y : PG} {F : List FR} {c : Int} (hs : s < m.sp.length) (hp : p < (m.sp.getD s default).pg.length) (i j : Nat) : pgAt ⟨m.z, setPg m.sp s p y, F, c⟩ i j = if i = s ∧ j = p then y else pgAt m i j := by
  unfold pgAt setPg
  show ((m.sp.set s _).getD i default).pg.getD j default = _
  rw [gd_if hs]
  by_cases h : s = i
  · subst h
    rw [if_pos rfl]
    show ((m.sp.getD s default).pg.set p y).getD j default = _
    rw [gd_if hp]
    by_cases h2 : p = j
    · rw [if_pos h2, if_pos ⟨rfl, h2.symm⟩]
    · rw [if_neg h2, if_neg fun e => h2 e.2.symm]
  · rw [if_neg h, if_neg fun e => h e.1.symm]
/-- Another page that shows the same frame: two at least. -/
theorem two_pages {m : CW} (h : OkM m) {s p i j f : Nat} (hp : p < (m.sp.getD s default).pg.length) (hj : j < (m.sp.getD i default).pg.length) (hne : ¬ (i = s ∧ j = p)) (h1 : (pgAt m s p).fr = f) (h2 : (pgAt m i j).fr = f) : 2 ≤ (m.fm.getD f default).ct := by
  have hs := pgAt_lt hp
  have hi := pgAt_lt hj
  have hb := h.pgb hp
  have hc := h.cnt hs (i := f) (by omega)
  have hset := shC_set (y := (⟨-1, false⟩ : PG)) hp f
  have e1 : ((m.sp.getD s default).pg.getD p default).fr = (f : Int) := h1
  rw [if_pos e1, if_neg (show ¬ (-1 : Int) = (f : Int) by omega)] at hset
  by_cases e : i = s
  · subst e
    have hjp : ¬ j = p := fun x => hne ⟨rfl, x⟩
    have hm : (m.sp.getD i default).pg.getD j default ∈ (m.sp.getD i default).pg.set p ⟨-1, false⟩ := by
      have h3 := mem_getD' (l := (m.sp.getD i default).pg.set p ⟨-1, false⟩) (i := j) (by simpa using hj)
      rw [gd_if hp, if_neg fun x => hjp x.symm] at h3
      exact h3
    have := shC_pos hm (i := f) h2
    omega
  · have hm : pgAt m i j ∈ others m.sp s := (mem_others hs).2 ⟨i, hi, e, mem_getD' hj⟩
    have := shC_pos hm (i := f) h2
    omega
section
variable {m : CW} {W : WM} {φ : Nat → Int} (h : Inv m W φ)
include h
theorem Inv.wl {i : Nat} (hl : (m.sp.getD i default).lv = true) : i < W.ws.length ∧ i < W.ids.length := by
  have h1 := lv_lt hl
  rw [h.l2, h.l3]; exact ⟨h1, h1⟩
theorem cop_eq {s p : Nat} (hl : (m.sp.getD s default).lv = true) (hp : p < (m.sp.getD s default).pg.length) : copW W s p = decide (0 ≤ (pgAt m s p).fr ∧ 1 < (frAt m.fm (pgAt m s p).fr).ct) ∧ (idAt W s p = 0 ↔ (pgAt m s p).fr < 0) ∧ 0 ≤ idAt W s p := by
  have hb := h.ok.pgb hp
  have hid := h.id s p hl hp
  unfold copW
  rw [hid]
  unfold idOf frAt
  by_cases h0 : (pgAt m s p).fr < 0
  · rw [if_pos h0]
    refine ⟨?_, ⟨fun _ => h0, fun _ => rfl⟩, Int.le_refl _⟩
    rw [decide_eq_false (by omega), decide_eq_false (by omega)]
  · rw [if_neg h0]
    have h1 := h.rng _ (by omega) (hb.2.2 (by omega))
    have h2 := shares_eq h (mem_allPg.2 ⟨s, pgAt_lt hp, mem_getD' hp⟩ : pgAt m s p ∈ allPg m) (by omega)
    refine ⟨?_, ⟨fun e => by omega, fun e => absurd e h0⟩, by omega⟩
    rw [decide_eq_decide]
    omega
theorem inv_write {s p : Nat} {w : Int} (hl : (m.sp.getD s default).lv = true) (hp : p < (m.sp.getD s default).pg.length) (he : (writeG m s p w).2 = 0) :
    (∃ φ', Inv (writeG m s p w).1 (wrW W s p w) φ') ∧ (m.cp < 1048576 → (writeG m s p w).1.cp = m.cp + if copW W s p = true then 1 else 0) := by
  have hs := lv_lt hl
  have hok := write_ok h.ok (w := w) hs hp he
  have hb := h.ok.pgb hp
  obtain ⟨hw1, hw2⟩ := h.wl hl
  have hr2 := h.r2 s hl
  have hr3 := h.r3 s hl
  obtain ⟨c1, c2, c3⟩ := cop_eq h hl hp
  unfold writeG at he hok ⊢
  split at he
  · rename_i hc
    rw [if_pos hc] at hok ⊢
    split at he
    · cases he
    · rename_i hf
      rw [if_neg hf] at hok ⊢
      obtain ⟨k, e1, e2, e3⟩ := free_ex hf
      rw [e1] at hok ⊢
      simp only [Int.toNat_natCast] at hok ⊢
      obtain ⟨x, hx⟩ : ∃ x, x = pgAt m s p := ⟨_, rfl⟩
      rw [← hx] at hc hb hok c1 c2 ⊢
      have hdl : (decF m.fm x).length = m.fm.length := by unfold decF; split <;> simp
      have hdg : ∀ i, i < m.fm.length → (decF m.fm x).getD i default = if x.fr = i then ⟨(m.fm.getD i default).ct - 1, (m.fm.getD i default).wd⟩ else m.fm.getD i default := fun i hi => by
        unfold decF
        by_cases h0 : 0 ≤ x.fr
        · rw [if_pos h0, gd_if (by omega)]
          by_cases e : x.fr.toNat = i
          · rw [if_pos e, if_pos (show x.fr = (i : Int) by omega)]; unfold frAt; rw [e]
          · rw [if_neg e, if_neg (by omega)]
        · rw [if_neg h0, if_neg (by omega)]
      have hfr : freshW W s p = true := by
        unfold freshW
        rw [Bool.or_eq_true, beq_iff_eq, c1, decide_eq_true_eq, c2]
        omega
      have hwr : wrW W s p w = ⟨W.lv, setIn W.ws s p w, setIn W.ids s p W.nx, W.nx + 1⟩ := by unfold wrW; rw [if_pos hfr]
      rw [hwr]
      have hpg := pg_setPg (y := (⟨(k : Int), true⟩ : PG)) (F := (decF m.fm x).set k ⟨1, w⟩) (c := if 0 ≤ x.fr then cpUp m.cp else m.cp) hs hp
      have hsp := sp_setPg (p := p) (y := (⟨(k : Int), true⟩ : PG)) hs
      have hfg : ∀ i, i < m.fm.length → ((decF m.fm x).set k ⟨1, w⟩).getD i default = if k = i then ⟨1, w⟩ else if x.fr = i then ⟨(m.fm.getD i default).ct - 1, (m.fm.getD i default).wd⟩ else m.fm.getD i default := fun i hi => by
        rw [gd_if (by rw [hdl]; exact e2), hdg i hi]
      have hlen : ((decF m.fm x).set k ⟨1, w⟩).length = m.fm.length := by simp [hdl]
      have hoth : ∀ i j, (m.sp.getD i default).lv = true → j < (m.sp.getD i default).pg.length → ¬ (pgAt m i j).fr = (k : Int) := fun i j _ hj e => by
        have := (h.ok.pgb hj).2.2 (by omega)
        rw [e, Int.toNat_natCast, e3] at this
        omega
      refine ⟨⟨fun f => if f = k then W.nx else φ f, hok, ?_, ?_, ?_, fun i => ?_, fun i hi => ?_, fun i hi => ?_, fun i j hi hj => ?_, fun i j hi hj => ?_, fun f g hf hg hf0 hg0 e => ?_, fun f hf hf0 => ?_, ?_⟩, fun hcp => ?_⟩
      · show _ = (setPg _ _ _ _).length; unfold setPg; rw [List.length_set]; exact h.l1
      · show (setIn _ _ _ _).length = (setPg _ _ _ _).length; unfold setPg; rw [List.length_set, len_setIn]; exact h.l2
      · show (setIn _ _ _ _).length = (setPg _ _ _ _).length; unfold setPg; rw [List.length_set, len_setIn]; exact h.l3
      · rw [(hsp i).1]; exact h.lv i
      · rw [(hsp i).1] at hi; rw [(hsp i).2, row_setIn]; exact h.r2 i hi
      · rw [(hsp i).1] at hi; rw [(hsp i).2, row_setIn]; exact h.r3 i hi
      · rw [(hsp i).1] at hi; rw [(hsp i).2] at hj
        rw [hpg]
        show ((setIn W.ids s p W.nx).getD i default).getD j default = _
        rw [gd_setIn hw2 (by omega)]
        by_cases e : i = s ∧ j = p
        · rw [if_pos e, if_pos e]
          unfold idOf
          simp only
          rw [if_neg (by omega), Int.toNat_natCast, if_pos rfl]
        · rw [if_neg e, if_neg e]
          have h1 := h.id i j hi hj
          have h2 := hoth i j hi hj
          unfold idAt at h1
          rw [h1]
          unfold idOf
          split
          · rfl
          · simp only
            rw [if_neg (by omega)]
      · rw [(hsp i).1] at hi; rw [(hsp i).2] at hj
        rw [hpg]
        show ((setIn W.ws s p w).getD i default).getD j default = _
        rw [gd_setIn hw1 (by omega)]
        by_cases e : i = s ∧ j = p
        · rw [if_pos e, if_pos e]
          unfold wdOf
          simp only
          rw [if_neg (by omega), Int.toNat_natCast, hfg k e2, if_pos rfl]
        · rw [if_neg e, if_neg e]
          have h1 := h.wd i j hi hj
          have h2 := hoth i j hi hj
          have h3 := h.ok.pgb hj
          rw [h1]
          unfold wdOf
          split
          · rfl
          · simp only
            rw [hfg _ (by omega), if_neg (by omega)]
            split <;> rfl
      · have hf' : f < m.fm.length := by rw [← hlen]; exact hf
        have hg' : g < m.fm.length := by rw [← hlen]; exact hg
        rw [hfg f hf'] at hf0
        rw [hfg g hg'] at hg0
        have key : ∀ i, i < m.fm.length → ¬ i = k → 0 < (if k = i then (⟨1, w⟩ : FR) else if x.fr = i then ⟨(m.fm.getD i default).ct - 1, (m.fm.getD i default).wd⟩ else m.fm.getD i default).ct → 0 < (m.fm.getD i default).ct := fun i hi hik h0 => by
          rw [if_neg fun e => hik e.symm] at h0
          split at h0
          · simp only at h0; omega
          · exact h0
        by_cases ef : f = k
        · by_cases eg : g = k
          · rw [ef, eg]
          · rw [if_pos ef, if_neg eg] at e
            have := (h.rng g hg' (key g hg' eg hg0)).2
            omega
        · by_cases eg : g = k
          · rw [if_neg ef, if_pos eg] at e
            have := (h.rng f hf' (key f hf' ef hf0)).2
            omega
          · rw [if_neg ef, if_neg eg] at e
            exact h.inj f g hf' hg' (key f hf' ef hf0) (key g hg' eg hg0) e
      · have hf' : f < m.fm.length := by rw [← hlen]; exact hf
        rw [hfg f hf'] at hf0
        have := h.nx
        show 0 < (if f = k then W.nx else φ f) ∧ (if f = k then W.nx else φ f) < W.nx + 1
        by_cases ef : f = k
        · rw [if_pos ef]; omega
        · rw [if_neg ef]
          rw [if_neg fun e => ef e.symm] at hf0
          have := h.rng f hf' (by
            split at hf0
            · simp only at hf0; omega
            · exact hf0)
          omega
      · have := h.nx; show 1 ≤ W.nx + 1; omega
      · rw [c1]
        by_cases h0 : 0 ≤ x.fr
        · rw [if_pos h0, if_pos (decide_eq_true ⟨h0, by omega⟩)]
          unfold cpUp
          rw [if_neg (by omega)]
        · rw [if_neg h0, if_neg (by rw [decide_eq_true_eq]; omega)]
          omega
  · rename_i hc
    rw [if_neg hc] at hok ⊢
    simp only at hok ⊢
    obtain ⟨x, hx⟩ : ∃ x, x = pgAt m s p := ⟨_, rfl⟩
    rw [← hx] at hc hb hok c1 c2 ⊢
    have hct : (frAt m.fm x.fr).ct = 1 := by
      have := hb.2.2 (by omega)
      unfold frAt at hc ⊢
      omega
    have hcf : copW W s p = false := by rw [c1]; exact decide_eq_false (by omega)
    have hfr : ¬ freshW W s p = true := by
      unfold freshW
      rw [Bool.or_eq_true, beq_iff_eq, hcf, c2]
      simp
      omega
    have hwr : wrW W s p w = ⟨W.lv, setIn W.ws s p w, W.ids, W.nx⟩ := by unfold wrW; rw [if_neg hfr]
    rw [hwr, hcf]
    have hpg := pg_setPg (y := (⟨x.fr, true⟩ : PG)) (F := m.fm.set x.fr.toNat ⟨(frAt m.fm x.fr).ct, w⟩) (c := m.cp) hs hp
    have hsp := sp_setPg (p := p) (y := (⟨x.fr, true⟩ : PG)) hs
    have hfg : ∀ i, (m.fm.set x.fr.toNat ⟨(frAt m.fm x.fr).ct, w⟩).getD i default = if x.fr.toNat = i then ⟨(frAt m.fm x.fr).ct, w⟩ else m.fm.getD i default := fun i => gd_if (by omega)
    have hfc : ∀ i, ((m.fm.set x.fr.toNat ⟨(frAt m.fm x.fr).ct, w⟩).getD i default).ct = (m.fm.getD i default).ct := fun i => by
      rw [hfg]
      split
      · rename_i e; subst e; rfl
      · rfl
    have hlen : (m.fm.set x.fr.toNat ⟨(frAt m.fm x.fr).ct, w⟩).length = m.fm.length := List.length_set ..
    refine ⟨⟨φ, hok, ?_, ?_, ?_, fun i => ?_, fun i hi => ?_, fun i hi => ?_, fun i j hi hj => ?_, fun i j hi hj => ?_, fun f g hf hg hf0 hg0 e => ?_, fun f hf hf0 => ?_, h.nx⟩, fun hcp => ?_⟩
    · show _ = (setPg _ _ _ _).length; unfold setPg; rw [List.length_set]; exact h.l1
    · show (setIn _ _ _ _).length = (setPg _ _ _ _).length; unfold setPg; rw [List.length_set, len_setIn]; exact h.l2
    · show _ = (setPg _ _ _ _).length; unfold setPg; rw [List.length_set]; exact h.l3
    · rw [(hsp i).1]; exact h.lv i
    · rw [(hsp i).1] at hi; rw [(hsp i).2, row_setIn]; exact h.r2 i hi
    · rw [(hsp i).1] at hi; rw [(hsp i).2]; exact h.r3 i hi
    · rw [(hsp i).1] at hi; rw [(hsp i).2] at hj
      rw [hpg]
      have h1 := h.id i j hi hj
      show idAt W i j = _
      rw [h1]
      by_cases e : i = s ∧ j = p
      · rw [if_pos e, e.1, e.2, ← hx]
      · rw [if_neg e]
    · rw [(hsp i).1] at hi; rw [(hsp i).2] at hj
      rw [hpg]
      show ((setIn W.ws s p w).getD i default).getD j default = _
      rw [gd_setIn hw1 (by omega)]
      by_cases e : i = s ∧ j = p
      · rw [if_pos e, if_pos e]
        unfold wdOf
        simp only
        rw [if_neg (by omega), hfg, if_pos rfl]
      · rw [if_neg e, if_neg e]
        have h1 := h.wd i j hi hj
        rw [h1]
        unfold wdOf
        split
        · rfl
        · rename_i h0
          simp only
          rw [hfg]
          split
          · rename_i e2
            have := two_pages h.ok (f := x.fr.toNat) hp hj e (by rw [← hx]; omega) (by omega)
            unfold frAt at hct
            omega
          · rfl
    · have hf' : f < m.fm.length := by rw [← hlen]; exact hf
      have hg' : g < m.fm.length := by rw [← hlen]; exact hg
      rw [hfc] at hf0 hg0
      exact h.inj f g hf' hg' hf0 hg0 e
    · have hf' : f < m.fm.length := by rw [← hlen]; exact hf
      rw [hfc] at hf0
      exact h.rng f hf' hf0
    · simp
theorem inv_fork {s : Nat} (hl : (m.sp.getD s default).lv = true) (h8 : m.sp.length < 8) : Inv (forkG m s) (fkW W s) φ := by
  have hs := lv_lt hl
  have hok := fork_ok h.ok hs hl h8
  obtain ⟨hfl, hfg⟩ := inc_fold (m.sp.getD s default).pg m.fm (fun y hy => (h.ok.bnd hs hy).2.1)
  have hlen : (forkG m s).sp.length = m.sp.length + 1 := by unfold forkG setPs; simp
  have hgd : ∀ i, (forkG m s).sp.getD i default = if i = s ∨ i = m.sp.length then ⟨true, (m.sp.getD s default).pg.map unW⟩ else m.sp.getD i default := fun i => by
    show (setPs m.sp s ((m.sp.getD s default).pg.map unW) ++ [(⟨true, (m.sp.getD s default).pg.map unW⟩ : CS)]).getD i default = _
    rw [getD_app]
    unfold setPs
    rw [List.length_set, gd_if hs]
    by_cases h1 : i < m.sp.length
    · rw [if_pos h1]
      by_cases h2 : s = i
      · rw [if_pos h2, if_pos (.inl h2.symm), hl]
      · rw [if_neg h2, if_neg (by omega)]
    · rw [if_neg h1]
      by_cases h2 : i = m.sp.length
      · rw [if_pos (.inr h2), h2, Nat.sub_self]; rfl
      · rw [if_neg (show ¬ (i = s ∨ i = m.sp.length) by omega), getD_none (l := m.sp) (i := i) (by omega), getD_none (by simp; omega)]
  have hlv : ∀ i, ((forkG m s).sp.getD i default).lv = if i = m.sp.length then true else (m.sp.getD i default).lv := fun i => by
    rw [hgd]
    by_cases h1 : i = m.sp.length
    · rw [if_pos (.inr h1), if_pos h1]
    · rw [if_neg h1]
      by_cases h2 : i = s
      · rw [if_pos (.inl h2), h2, hl]
      · rw [if_neg (by omega)]
  have hpl : ∀ i, ((forkG m s).sp.getD i default).pg.length = if i = m.sp.length then (m.sp.getD s default).pg.length else (m.sp.getD i default).pg.length := fun i => by
    rw [hgd]
    by_cases h1 : i = m.sp.length
    · rw [if_pos (.inr h1), if_pos h1, List.length_map]
    · rw [if_neg h1]
      by_cases h2 : i = s
      · rw [if_pos (.inl h2), h2, List.length_map]
      · rw [if_neg (by omega)]
  have hpg : ∀ i j, j < ((forkG m s).sp.getD i default).pg.length → (pgAt (forkG m s) i j).fr = if i = m.sp.length then (pgAt m s j).fr else (pgAt m i j).fr := fun i j hj => by
    rw [hpl] at hj
    unfold pgAt
    rw [hgd]
    have key : j < (m.sp.getD s default).pg.length → (((m.sp.getD s default).pg.map unW).getD j default).fr = ((m.sp.getD s default).pg.getD j default).fr := fun hj => by
      rw [getD_get (l := List.map _ _) (by simpa using hj), List.getElem_map, ← getD_get hj]; rfl
    by_cases h1 : i = m.sp.length
    · rw [if_pos h1] at hj
      rw [if_pos (.inr h1), if_pos h1]; exact key hj
    · rw [if_neg h1] at hj
      rw [if_neg h1]
      by_cases h2 : i = s
      · rw [if_pos (.inl h2), h2]; exact key (by rw [← h2]; exact hj)
      · rw [if_neg (by omega)]
  have hga : ∀ (L : List (List Int)), L.length = m.sp.length → ∀ i, i ≤ m.sp.length → (L ++ [L.getD s default]).getD i default = if i = m.sp.length then L.getD s default else L.getD i default := fun L hL i hi => by
    rw [getD_app, hL]
    by_cases h1 : i = m.sp.length
    · rw [if_neg (by omega), if_pos h1, h1, Nat.sub_self]; rfl
    · rw [if_pos (by omega), if_neg h1]
  have hct : ∀ f, f < m.fm.length → 0 < ((forkG m s).fm.getD f default).ct → 0 < (m.fm.getD f default).ct := fun f hf h0 => by
    have e : ((forkG m s).fm.getD f default).ct = (m.fm.getD f default).ct + shC (m.sp.getD s default).pg f := by
      show ((List.foldl incF m.fm _).getD f default).ct = _
      rw [hfg f hf]
    have := h.ok.cnt hs hf
    have := (h.ok.ctb hf).1
    omega
  have hll : (fkW W s).lv.length = m.sp.length + 1 := by unfold fkW; simp [h.l1]
  refine ⟨hok, by rw [hlen]; exact hll, by rw [hlen]; unfold fkW; simp [h.l2], by rw [hlen]; unfold fkW; simp [h.l3], fun i => ?_, fun i hi => ?_, fun i hi => ?_, fun i j hi hj => ?_, fun i j hi hj => ?_, fun f g hf hg hf0 hg0 e => ?_, fun f hf hf0 => ?_, h.nx⟩
  · rw [hlv]
    show (W.lv ++ [true]).getD i default = _
    rw [getD_app, h.l1]
    by_cases h1 : i = m.sp.length
    · rw [if_neg (by omega), if_pos h1, h1, Nat.sub_self]; rfl
    · rw [if_neg h1]
      by_cases h2 : i < m.sp.length
      · rw [if_pos h2]; exact h.lv i
      · rw [if_neg h2, getD_none (l := m.sp) (by omega), getD_none (by simp; omega)]; rfl
  · have hil := lv_lt hi
    rw [hlv] at hi
    rw [hpl]
    show ((W.ws ++ [_]).getD i default).length = _
    rw [hga _ h.l2 i (by omega)]
    by_cases h1 : i = m.sp.length
    · rw [if_pos h1, if_pos h1]; exact h.r2 s hl
    · rw [if_neg h1] at hi
      rw [if_neg h1, if_neg h1]; exact h.r2 i hi
  · have hil := lv_lt hi
    rw [hlv] at hi
    rw [hpl]
    show ((W.ids ++ [_]).getD i default).length = _
    rw [hga _ h.l3 i (by omega)]
    by_cases h1 : i = m.sp.length
    · rw [if_pos h1, if_pos h1]; exact h.r3 s hl
    · rw [if_neg h1] at hi
      rw [if_neg h1, if_neg h1]; exact h.r3 i hi
  · have hil := lv_lt hi
    rw [hpg i j hj]
    rw [hlv] at hi
    rw [hpl] at hj
    show ((W.ids ++ [_]).getD i default).getD j default = _
    rw [hga _ h.l3 i (by omega)]
    by_cases h1 : i = m.sp.length
    · rw [if_pos h1] at hj
      rw [if_pos h1, if_pos h1]; exact h.id s j hl hj
    · rw [if_neg h1] at hi hj
      rw [if_neg h1, if_neg h1]; exact h.id i j hi hj
  · have hil := lv_lt hi
    have hwd : ∀ f : Int, f < m.fm.length → wdOf (forkG m s).fm f = wdOf m.fm f := fun f hf => by
      unfold wdOf
      split
      · rfl
      · show ((List.foldl incF m.fm _).getD _ default).wd = _
        rw [hfg _ (by omega)]
    rw [hpg i j hj]
    rw [hlv] at hi
    rw [hpl] at hj
    show ((W.ws ++ [_]).getD i default).getD j default = _
    rw [hga _ h.l2 i (by omega)]
    by_cases h1 : i = m.sp.length
    · rw [if_pos h1] at hj
      rw [if_pos h1, if_pos h1, hwd _ (h.ok.pgb hj).2.1]; exact h.wd s j hl hj
    · rw [if_neg h1] at hi hj
      rw [if_neg h1, if_neg h1, hwd _ (h.ok.pgb hj).2.1]; exact h.wd i j hi hj
  · have hf' : f < m.fm.length := by rw [← hfl]; exact hf
    have hg' : g < m.fm.length := by rw [← hfl]; exact hg
    exact h.inj f g hf' hg' (hct f hf' hf0) (hct g hg' hg0) e
  · have hf' : f < m.fm.length := by rw [← hfl]; exact hf
    exact h.rng f hf' (hct f hf' hf0)
theorem inv_unm {s p : Nat} (hl : (m.sp.getD s default).lv = true) (hp : p < (m.sp.getD s default).pg.length) : Inv (unmG m s p) (umW W s p) φ := by
  have hs := lv_lt hl
  have hok := unm_ok h.ok hs hp
  obtain ⟨hw1, hw2⟩ := h.wl hl
  have hr2 := h.r2 s hl
  have hr3 := h.r3 s hl
  have hpg := pg_setPg (y := (⟨-1, false⟩ : PG)) (F := clrF m.fm (pgAt m s p)) (c := m.cp) hs hp
  have hsp := sp_setPg (p := p) (y := (⟨-1, false⟩ : PG)) hs
  have hb := h.ok.pgb hp
  have hfl : (clrF m.fm (pgAt m s p)).length = m.fm.length := by unfold clrF; split <;> simp
  have hfg : ∀ i, i < m.fm.length → (clrF m.fm (pgAt m s p)).getD i default = if (pgAt m s p).fr = i then ⟨(m.fm.getD i default).ct - 1, if (m.fm.getD i default).ct - 1 = 0 then 0 else (m.fm.getD i default).wd⟩ else m.fm.getD i default := fun i hi => by
    unfold clrF
    by_cases h0 : 0 ≤ (pgAt m s p).fr
    · rw [if_pos h0, gd_if (by omega)]
      by_cases e : (pgAt m s p).fr.toNat = i
      · rw [if_pos e, if_pos (show (pgAt m s p).fr = (i : Int) by omega)]; unfold frAt; rw [e]
      · rw [if_neg e, if_neg (by omega)]
    · rw [if_neg h0, if_neg (by omega)]
  have hct : ∀ f, f < m.fm.length → 0 < ((clrF m.fm (pgAt m s p)).getD f default).ct → 0 < (m.fm.getD f default).ct := fun f hf h0 => by
    rw [hfg f hf] at h0
    split at h0
    · simp only at h0; omega
    · exact h0
  unfold unmG at hok ⊢
  refine ⟨hok, ?_, ?_, ?_, fun i => ?_, fun i hi => ?_, fun i hi => ?_, fun i j hi hj => ?_, fun i j hi hj => ?_, fun f g hf hg hf0 hg0 e => ?_, fun f hf hf0 => ?_, h.nx⟩
  · show _ = (setPg _ _ _ _).length; unfold setPg; rw [List.length_set]; exact h.l1
  · show (setIn _ _ _ _).length = (setPg _ _ _ _).length; unfold setPg; rw [List.length_set, len_setIn]; exact h.l2
  · show (setIn _ _ _ _).length = (setPg _ _ _ _).length; unfold setPg; rw [List.length_set, len_setIn]; exact h.l3
  · rw [(hsp i).1]; exact h.lv i
  · rw [(hsp i).1] at hi; rw [(hsp i).2]; unfold umW; rw [row_setIn]; exact h.r2 i hi
  · rw [(hsp i).1] at hi; rw [(hsp i).2]; unfold umW; rw [row_setIn]; exact h.r3 i hi
  · rw [(hsp i).1] at hi; rw [(hsp i).2] at hj
    rw [hpg]
    show ((setIn W.ids s p 0).getD i default).getD j default = _
    rw [gd_setIn hw2 (by omega)]
    by_cases e : i = s ∧ j = p
    · rw [if_pos e, if_pos e]; rfl
    · rw [if_neg e, if_neg e]; exact h.id i j hi hj
  · rw [(hsp i).1] at hi; rw [(hsp i).2] at hj
    rw [hpg]
    show ((setIn W.ws s p 0).getD i default).getD j default = _
    rw [gd_setIn hw1 (by omega)]
    by_cases e : i = s ∧ j = p
    · rw [if_pos e, if_pos e]; rfl
    · rw [if_neg e, if_neg e, h.wd i j hi hj]
      unfold wdOf
      split
      · rfl
      · rename_i h0
        have h3 := h.ok.pgb hj
        simp only
        rw [hfg _ (by omega)]
        split
        · rename_i e2
          have := two_pages h.ok (f := (pgAt m i j).fr.toNat) hp hj e (by omega) (by omega)
          simp only
          rw [if_neg (by omega)]
        · rfl
  · have hf' : f < m.fm.length := by rw [← hfl]; exact hf
    have hg' : g < m.fm.length := by rw [← hfl]; exact hg
    exact h.inj f g hf' hg' (hct f hf' hf0) (hct g hg' hg0) e
  · have hf' : f < m.fm.length := by rw [← hfl]; exact hf
    exact h.rng f hf' (hct f hf' hf0)
theorem inv_exit {s : Nat} (hl : (m.sp.getD s default).lv = true) : Inv (exitG m s) (exW W s) φ := by
  have hs := lv_lt hl
  have hok := exit_ok h.ok hs
  obtain ⟨hfl, hfg⟩ := clr_fold (m.sp.getD s default).pg m.fm (fun y hy => (h.ok.bnd hs hy).2.1) (fun i hi => by
    rw [h.ok.cnt hs hi]
    omega) h.ok.wd
  have hgd : ∀ i, (exitG m s).sp.getD i default = if s = i then ⟨false, []⟩ else m.sp.getD i default := fun i => gd_if hs
  have hlv : ∀ i, ((exitG m s).sp.getD i default).lv = true → ¬ s = i ∧ (exitG m s).sp.getD i default = m.sp.getD i default ∧ (m.sp.getD i default).lv = true := fun i hi => by
    rw [hgd] at hi ⊢
    by_cases e : s = i
    · rw [if_pos e] at hi; cases hi
    · rw [if_neg e] at hi ⊢; exact ⟨e, rfl, hi⟩
  have hct : ∀ f, f < m.fm.length → 0 < ((exitG m s).fm.getD f default).ct → 0 < (m.fm.getD f default).ct := fun f hf h0 => by
    have e : ((exitG m s).fm.getD f default).ct = (m.fm.getD f default).ct - shC (m.sp.getD s default).pg f := by
      show ((List.foldl clrF m.fm _).getD f default).ct = _
      rw [hfg f hf]
    omega
  have hl1 : (exitG m s).sp.length = m.sp.length := List.length_set ..
  refine ⟨hok, by rw [hl1]; unfold exW; simp [h.l1], by rw [hl1]; exact h.l2, by rw [hl1]; exact h.l3, fun i => ?_, fun i hi => ?_, fun i hi => ?_, fun i j hi hj => ?_, fun i j hi hj => ?_, fun f g hf hg hf0 hg0 e => ?_, fun f hf hf0 => ?_, h.nx⟩
  · rw [hgd]
    show (W.lv.set s false).getD i default = _
    rw [gd_if (by rw [h.l1]; exact hs)]
    by_cases e : s = i
    · rw [if_pos e, if_pos e]
    · rw [if_neg e, if_neg e]; exact h.lv i
  · obtain ⟨_, e2, e3⟩ := hlv i hi
    rw [e2]; exact h.r2 i e3
  · obtain ⟨_, e2, e3⟩ := hlv i hi
    rw [e2]; exact h.r3 i e3
  · obtain ⟨_, e2, e3⟩ := hlv i hi
    rw [e2] at hj
    unfold pgAt
    rw [e2]
    exact h.id i j e3 hj
  · obtain ⟨e1, e2, e3⟩ := hlv i hi
    have hb := hok.pgb hj
    have e4 : pgAt (exitG m s) i j = pgAt m i j := by unfold pgAt; rw [e2]
    rw [e4] at hb ⊢
    rw [e2] at hj
    have := h.wd i j e3 hj
    show (W.ws.getD i default).getD j default = _
    rw [this]
    unfold wdOf
    split
    · rfl
    · rename_i h0
      have h3 := h.ok.pgb hj
      have h4 := hb.2.2 (by omega)
      have e5 : (exitG m s).fm.getD (pgAt m i j).fr.toNat default = _ := hfg (pgAt m i j).fr.toNat (by omega)
      rw [e5] at h4 ⊢
      simp only at h4 ⊢
      rw [if_neg (by omega)]
  · have hf' : f < m.fm.length := by rw [← hfl]; exact hf
    have hg' : g < m.fm.length := by rw [← hfl]; exact hg
    exact h.inj f g hf' hg' (hct f hf' hf0) (hct g hg' hg0) e
  · have hf' : f < m.fm.length := by rw [← hfl]; exact hf
    exact h.rng f hf' (hct f hf' hf0)
theorem full_used {s p : Nat} {w : Int} (hl : (m.sp.getD s default).lv = true) (hp : p < (m.sp.getD s default).pg.length) (he : (writeG m s p w).2 = 16) : usedW W = m.fm.length ∧ ¬ (0 < idAt W s p ∧ sharesW W (idAt W s p) = 1) := by
  have hb := h.ok.pgb hp
  unfold writeG at he
  split at he
  · rename_i hc
    split at he
    · rename_i hf
      have h1 := free_no hf
      refine ⟨?_, fun ⟨e1, e2⟩ => ?_⟩
      · rw [used_eq h, List.countP_eq_length]
        intro a ha
        obtain ⟨i, hi, rfl⟩ := mem_ex ha
        have := h1 i hi
        have := (h.ok.ctb hi).1
        rw [decide_eq_true_eq]
        omega
      · have hid := h.id s p hl hp
        rw [hid] at e1 e2
        unfold idOf at e1 e2
        by_cases h0 : (pgAt m s p).fr < 0
        · rw [if_pos h0] at e1; omega
        · rw [if_neg h0] at e2
          have := shares_eq h (mem_allPg.2 ⟨s, pgAt_lt hp, mem_getD' hp⟩ : pgAt m s p ∈ allPg m) (by omega)
          unfold frAt at hc
          omega
    · cases he
  · cases he
end
theorem inv_new {n z : Int} (hn : ¬ (n < 1 ∨ 256 < n ∨ z < 1 ∨ 512 < z)) : Inv (newM n z).1 (newW z.toNat) (fun _ => 0) := by
  have hok := new_ok hn
  have e : (newM n z).1 = ⟨z, [⟨true, List.replicate z.toNat ⟨-1, false⟩⟩], List.replicate n.toNat ⟨0, 0⟩, 0⟩ := by unfold newM; rw [if_neg hn]
  rw [e] at hok ⊢
  have hg : ∀ i, (List.replicate n.toNat (⟨0, 0⟩ : FR)).getD i default = ⟨0, 0⟩ := fun i => by
    rcases Nat.lt_or_ge i n.toNat with hi | hi
    · exact getD_rep hi
    · rw [getD_none (by simpa using hi)]; rfl
  have key : ∀ i : Nat, (([⟨true, List.replicate z.toNat ⟨-1, false⟩⟩] : List CS).getD i default).lv = true → i = 0 := fun i hi => by
    rcases i with _ | i
    · rfl
    · cases hi
  refine ⟨hok, rfl, rfl, rfl, fun i => ?_, fun i hi => ?_, fun i hi => ?_, fun i j hi hj => ?_, fun i j hi hj => ?_, fun f g hf hg' hf0 => ?_, fun f hf hf0 => ?_, by show (1 : Int) ≤ 1; omega⟩
  · rcases i with _ | i <;> rfl
  · have := key i hi; subst this
    show (List.replicate z.toNat (0 : Int)).length = (List.replicate z.toNat (⟨-1, false⟩ : PG)).length
    simp
  · have := key i hi; subst this
    show (List.replicate z.toNat (0 : Int)).length = (List.replicate z.toNat (⟨-1, false⟩ : PG)).length
    simp
  · have := key i hi; subst this
    have hj' : j < (List.replicate z.toNat (⟨-1, false⟩ : PG)).length := hj
    rw [List.length_replicate] at hj'
    show (List.replicate z.toNat (0 : Int)).getD j default = idOf _ ((List.replicate z.toNat (⟨-1, false⟩ : PG)).getD j default).fr
    rw [getD_rep hj', getD_rep hj']
    rfl
  · have := key i hi; subst this
    have hj' : j < (List.replicate z.toNat (⟨-1, false⟩ : PG)).length := hj
    rw [List.length_replicate] at hj'
    show (List.replicate z.toNat (0 : Int)).getD j default = wdOf _ ((List.replicate z.toNat (⟨-1, false⟩ : PG)).getD j default).fr
    rw [getD_rep hj', getD_rep hj']
    rfl
  · simp only at hf0
    rw [hg] at hf0
    cases hf0
  · simp only at hf0
    rw [hg] at hf0
    cases hf0
end Go.Proofs.Ytinnkclemjognaa
