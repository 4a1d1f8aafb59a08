/- The queue of asks in plain Lean: what always holds. No conditions. -/
import Derived.Test.YthlildafofbiaaaGrSpec
import Derived.Test.YthlildafofbiaaaALst
set_option linter.unusedSimpArgs false
set_option linter.unusedVariables false
namespace Go.Proofs.Ythlildafofbiaaa
open Go Go.RowKit
section
variable {l : List GR}
theorem sum_app (f : GR → Int) (l m : List GR) : ((l ++ m).map f).sum = (l.map f).sum + (m.map f).sum := by rw [List.map_append, List.sum_append]
theorem sum_erase (f : GR → Int) : ∀ {l : List GR} {i : Nat}, i < l.length → ((l.eraseIdx i).map f).sum = (l.map f).sum - f (l.getD i default)
  | [], i, h => by cases h
  | x :: l, 0, _ => by simp only [List.eraseIdx_zero, List.tail_cons, List.map_cons, List.sum_cons, List.getD_cons_zero]; omega
  | x :: l, i + 1, h => by
    have := sum_erase f (l := l) (i := i) (by simpa using h)
    simp only [List.eraseIdx_cons_succ, List.map_cons, List.sum_cons, List.getD_cons_succ]
    omega
theorem sum_pos (f : GR → Int) : ∀ {l : List GR}, (∀ x ∈ l, 0 ≤ f x) → 0 ≤ (l.map f).sum
  | [], _ => Int.le_refl _
  | x :: l, h => by
    have h1 := h x (List.mem_cons_self ..)
    have h2 := sum_pos f (l := l) fun y hy => h y (List.mem_cons_of_mem _ hy)
    simp only [List.map_cons, List.sum_cons]
    omega
theorem sum_ge (f : GR → Int) {l : List GR} (h : ∀ x ∈ l, 0 ≤ f x) {i : Nat} (hi : i < l.length) : f (l.getD i default) ≤ (l.map f).sum := by
  have h1 := sum_erase f hi
  have h2 := sum_pos f (l := l.eraseIdx i) fun x hx => h x ((List.eraseIdx_sublist ..).subset hx)
  omega
end
theorem gT_pos {x : GR} (h : Ak (grA x)) : 0 ≤ gT x ∧ gT x ≤ 5 := by
  have := h.k
  have := h.u
  simp only [grA] at *
  unfold gT
  omega
theorem Bi.outA {b : BQ} (h : Bi b) (a : Int) : ∀ x ∈ b.out, 0 ≤ (if x.a = a then gT x else 0) := fun x hx => by
  have := gT_pos (h.o x hx)
  split <;> omega
theorem Bi.uk {b : BQ} (h : Bi b) : Uk b.u := by
  have h0 : 0 ≤ sumA b.out 0 := sum_pos _ (h.outA 0)
  have h1 : 0 ≤ sumA b.out 1 := sum_pos _ (h.outA 1)
  have h2 : 0 ≤ sumA b.out 2 := sum_pos _ (h.outA 2)
  have := h.cc
  have := h.cb
  have := h.ca
  exact ⟨by omega, by omega, by omega, h.a9, h.b6, h.c4⟩
theorem bi_zero : Bi bq0 where
  q := fun x hx => by cases hx
  d := List.nodup_nil
  m := List.Pairwise.nil
  r := fun x hx => by cases hx
  l := by decide
  o := fun x hx => by cases hx
  cc := rfl
  cb := rfl
  ca := rfl
  n := rfl
  t := rfl
  c4 := by decide
  b6 := by decide
  a9 := by decide
  n0 := by decide
  t0 := by decide
theorem shM_no {x : AK} {u : US} {no al : Int} : fitM x u no al = true ↔ (2 ≤ x.a → tot x ≤ 4 - u.c) ∧ (1 ≤ x.a → tot x ≤ 6 - u.b) ∧ tot x ≤ 9 - u.a ∧ x.k ≤ no ∧ tot x ≤ al := by
  unfold fitM shM
  by_cases h1 : 2 ≤ x.a ∧ tot x > 4 - u.c
  · rw [if_pos h1]
    simp only [Bool.not_eq_true', decide_eq_false_iff_not]
    omega
  rw [if_neg h1]
  by_cases h2 : 1 ≤ x.a ∧ tot x > 6 - u.b
  · rw [if_pos h2]
    simp only [Bool.not_eq_true', decide_eq_false_iff_not]
    omega
  rw [if_neg h2]
  by_cases h3 : tot x > 9 - u.a
  · rw [if_pos h3]
    simp only [Bool.not_eq_true', decide_eq_false_iff_not]
    omega
  rw [if_neg h3]
  by_cases h4 : x.k > no
  · rw [if_pos h4]
    simp only [Bool.not_eq_true', decide_eq_false_iff_not]
    omega
  rw [if_neg h4]
  by_cases h5 : tot x > al
  · rw [if_pos h5]
    simp only [Bool.not_eq_true', decide_eq_false_iff_not]
    omega
  rw [if_neg h5]
  simp only [Bool.not_eq_true', decide_eq_false_iff_not]
  omega
theorem goB_cons {b : BQ} (h : goB b = true) : ∃ x r, b.q = x :: r ∧ fitM x b.u b.no b.al = true := by
  unfold goB hdA at h
  rw [Bool.and_eq_true] at h
  cases hq : b.q with
  | nil => rw [hq] at h; cases h.1
  | cons x r => rw [hq] at h; exact ⟨x, r, rfl, h.2⟩
theorem bi_gr {b : BQ} (h : Bi b) (hg : goB b = true) : Bi (grB b) := by
  obtain ⟨x, r, hq, hf⟩ := goB_cons hg
  have hx : hdA b = x := by unfold hdA; rw [hq]; rfl
  have hA := h.q x (by rw [hq]; exact List.mem_cons_self ..)
  obtain ⟨f1, f2, f3, f4, f5⟩ := shM_no.1 hf
  have hr : b.q.drop 1 = r := by rw [hq]; rfl
  have hd := h.d
  have hm := h.m
  rw [hq] at hd hm
  have hm2 := List.pairwise_cons.1 hm
  have hsub : ∀ y ∈ r, y ∈ b.q := fun y hy => by rw [hq]; exact List.mem_cons_of_mem _ hy
  have hrx := h.r x (by rw [hq]; exact List.mem_cons_self ..)
  have ha := hA.a
  have hk := hA.k
  have hu := hA.u
  have e0 : ∀ a, sumA (b.out ++ [grOf b.nu x]) a = sumA b.out a + if x.a = a then tot x else 0 := fun a => by
    unfold sumA
    rw [sum_app]
    simp [grOf, gT, tot]
  have eK : sumK (b.out ++ [grOf b.nu x]) = sumK b.out + x.k := by unfold sumK; rw [sum_app]; simp [grOf]
  have eT : sumT (b.out ++ [grOf b.nu x]) = sumT b.out + tot x := by unfold sumT; rw [sum_app]; simp [grOf, gT, tot]
  have hb := h.cb
  have hc := h.cc
  have ha' := h.ca
  have hn := h.n
  have ht := h.t
  have c4 := h.c4
  have b6 := h.b6
  have a9 := h.a9
  unfold grB
  rw [hx, hr]
  refine ⟨fun y hy => h.q y (hsub y hy), (List.nodup_cons.1 hd).2, hm2.2, fun y hy => ⟨hm2.1 _ (List.mem_map.2 ⟨y, hy, rfl⟩), (h.r y (hsub y hy)).2⟩, hrx.2, fun y hy => ?_, ?_, ?_, ?_, ?_, ?_, ?_, ?_, ?_, ?_, ?_⟩
  · rcases List.mem_append.1 hy with y1 | y1
    · exact h.o y y1
    · rw [List.mem_singleton.1 y1]; exact hA
  · show (if 2 ≤ x.a then b.u.c + tot x else b.u.c) = _
    rw [e0]; split <;> split <;> omega
  · show (if 1 ≤ x.a then b.u.b + tot x else b.u.b) = (if 2 ≤ x.a then b.u.c + tot x else b.u.c) + _
    rw [e0]; split <;> split <;> split <;> omega
  · show b.u.a + tot x = (if 1 ≤ x.a then b.u.b + tot x else b.u.b) + _
    rw [e0]; split <;> split <;> omega
  · show b.no - x.k = _
    rw [eK]; omega
  · show b.al - tot x = _
    rw [eT]; omega
  · show (if 2 ≤ x.a then b.u.c + tot x else b.u.c) ≤ 4
    split <;> omega
  · show (if 1 ≤ x.a then b.u.b + tot x else b.u.b) ≤ 6
    split <;> omega
  · show b.u.a + tot x ≤ 9
    omega
  · show 0 ≤ b.no - x.k
    omega
  · show 0 ≤ b.al - tot x
    omega
theorem pre_gr (b : BQ) : ∀ i, preB (grB b) i = preB b (i + 1)
  | 0 => rfl
  | i + 1 => by show grB (preB (grB b) i) = grB (preB b (i + 1)); rw [pre_gr b i]
theorem bi_pre {b : BQ} (h : Bi b) : ∀ i, (∀ j, j < i → goB (preB b j) = true) → Bi (preB b i)
  | 0, _ => h
  | i + 1, hg => bi_gr (bi_pre h i fun j hj => hg j (by omega)) (hg i (by omega))
theorem srv_of : ∀ (n : Nat) (b : BQ), (∀ j, j < n → goB (preB b j) = true) → goB (preB b n) = false → srvN b.q.length b = n
  | 0, b, _, h => by
    have h : goB b = false := h
    cases hq : b.q.length with
    | zero => rfl
    | succ f => rw [srvN, if_neg (by rw [h]; simp)]
  | n + 1, b, hg, h => by
    have h0 : goB b = true := hg 0 (by omega)
    obtain ⟨x, r, hq, _⟩ := goB_cons h0
    have hl : b.q.length = (grB b).q.length + 1 := by unfold grB; rw [hq]; rfl
    rw [hl, srvN, if_pos h0, srv_of n (grB b) (fun j hj => by rw [pre_gr]; exact hg (j + 1) (by omega)) (by rw [pre_gr]; exact h)]
theorem srv_go : ∀ (f : Nat) (b : BQ), ∀ j, j < srvN f b → goB (preB b j) = true
  | 0, _, j, hj => by cases hj
  | f + 1, b, j, hj => by
    rw [srvN] at hj
    split at hj
    · rename_i h0
      cases j with
      | zero => exact h0
      | succ j => rw [← pre_gr]; exact srv_go f (grB b) j (by omega)
    · cases hj
theorem pre_q (b : BQ) : ∀ i, (preB b i).q = b.q.drop i ∧ (preB b i).nu = b.nu ∧ (preB b i).nx = b.nx
  | 0 => ⟨rfl, rfl, rfl⟩
  | i + 1 => by
    obtain ⟨h1, h2, h3⟩ := pre_q b i
    exact ⟨by show (preB b i).q.drop 1 = _; rw [h1, List.drop_drop], h2, h3⟩
theorem pre_hd {b : BQ} {i : Nat} : hdA (preB b i) = b.q.getD i default := by
  unfold hdA
  rw [(pre_q b i).1, getD_drop, Nat.add_zero]
theorem wait_no {b : BQ} {o : GO} (h : waitM b o = false) : ∀ x ∈ b.q, x.p ≠ o.p % 8 := fun x hx e => by
  unfold waitM at h
  rw [List.any_eq_false] at h
  exact h x hx (by simpa using e)
theorem opA_ak (o : GO) : Ak (opA o) := ⟨by show 0 ≤ o.p % 8 ∧ o.p % 8 < 8; omega, by show 0 ≤ o.a % 3 ∧ o.a % 3 < 3; omega, by show 0 ≤ o.c % 3 ∧ o.c % 3 ≤ 2; omega, by show 0 ≤ o.c / 3 % 4 ∧ o.c / 3 % 4 ≤ 3; omega⟩
theorem bi_ask {b : BQ} (h : Bi b) {o : GO} (hw : waitM b o = false) : Bi { b with q := b.q ++ [opA o], nu := fun j => if j = (o.p % 8).toNat then b.nx else b.nu j, nx := b.nx + 1 } := by
  have hno := wait_no hw
  have hlt := h.l
  have hold : ∀ x ∈ b.q, (if x.p.toNat = (o.p % 8).toNat then b.nx else b.nu x.p.toNat) = b.nu x.p.toNat := fun x hx => by
    have := (h.q x hx).p
    have := hno x hx
    rw [if_neg (by omega)]
  have hnew : (if (opA o).p.toNat = (o.p % 8).toNat then b.nx else b.nu (opA o).p.toNat) = b.nx := if_pos rfl
  refine ⟨fun x hx => ?_, ?_, ?_, fun x hx => ?_, by show b.la < b.nx + 1; omega, h.o, h.cc, h.cb, h.ca, h.n, h.t, h.c4, h.b6, h.a9, h.n0, h.t0⟩
  · rcases List.mem_append.1 hx with y | y
    · exact h.q x y
    · rw [List.mem_singleton.1 y]; exact opA_ak o
  · show ((b.q ++ [opA o]).map AK.p).Nodup
    rw [List.map_append, List.nodup_append]
    refine ⟨h.d, by simp, fun y hy z hz => ?_⟩
    obtain ⟨x, hx, rfl⟩ := List.mem_map.1 hy
    have hz : z = o.p % 8 := by simpa [opA] using hz
    rw [hz]; exact hno x hx
  · show ((b.q ++ [opA o]).map fun x => if x.p.toNat = (o.p % 8).toNat then b.nx else b.nu x.p.toNat).Pairwise (· < ·)
    rw [List.map_append, List.pairwise_append]
    refine ⟨?_, List.pairwise_singleton .., fun y hy z hz => ?_⟩
    · rw [List.map_congr_left hold]; exact h.m
    · obtain ⟨x, hx, rfl⟩ := List.mem_map.1 hy
      obtain ⟨x', hx', rfl⟩ := List.mem_map.1 hz
      rw [List.mem_singleton.1 hx', hnew, hold x hx]
      exact (h.r x hx).2
  · show b.la < (if x.p.toNat = (o.p % 8).toNat then b.nx else b.nu x.p.toNat) ∧ (if x.p.toNat = (o.p % 8).toNat then b.nx else b.nu x.p.toNat) < b.nx + 1
    rcases List.mem_append.1 hx with y | y
    · rw [hold x y]
      have := h.r x y
      omega
    · rw [List.mem_singleton.1 y, hnew]; omega
theorem bi_can {b : BQ} (h : Bi b) (i : Nat) : Bi { b with q := b.q.eraseIdx i } := by
  have hs : (b.q.eraseIdx i).Sublist b.q := List.eraseIdx_sublist ..
  exact ⟨fun x hx => h.q x (hs.subset hx), h.d.sublist (hs.map _), h.m.sublist (hs.map _), fun x hx => h.r x (hs.subset hx), h.l, h.o, h.cc, h.cb, h.ca, h.n, h.t, h.c4, h.b6, h.a9, h.n0, h.t0⟩
/-- What the i-th grant holds is charged. -/
theorem own_ge {b : BQ} (h : Bi b) {i : Nat} (hi : i < b.out.length) : gT (b.out.getD i default) ≤ sumA b.out (b.out.getD i default).a := by
  have := sum_ge (fun x => if x.a = (b.out.getD i default).a then gT x else 0) (h.outA (b.out.getD i default).a) hi
  simp only [if_true] at this
  exact this
theorem bi_give {b : BQ} (h : Bi b) {i : Nat} (hi : i < b.out.length) :
    Bi { b with u := addU b.u (b.out.getD i default).a (-gT (b.out.getD i default)), no := b.no + (b.out.getD i default).k, al := b.al + gT (b.out.getD i default), out := b.out.eraseIdx i } := by
  have hs : (b.out.eraseIdx i).Sublist b.out := List.eraseIdx_sublist ..
  obtain ⟨x, hx⟩ : ∃ x, x = b.out.getD i default := ⟨_, rfl⟩
  have hA := h.o x (by rw [hx, getD_get hi]; exact List.getElem_mem hi)
  have hg := gT_pos hA
  have ha : 0 ≤ x.a ∧ x.a < 3 := hA.a
  have hk : 0 ≤ x.k ∧ x.k ≤ 2 := hA.k
  have e0 : ∀ a, sumA (b.out.eraseIdx i) a = sumA b.out a - if x.a = a then gT x else 0 := fun a => by unfold sumA; rw [sum_erase _ hi, ← hx]
  have eK : sumK (b.out.eraseIdx i) = sumK b.out - x.k := by unfold sumK; rw [sum_erase _ hi, ← hx]
  have eT : sumT (b.out.eraseIdx i) = sumT b.out - gT x := by unfold sumT; rw [sum_erase _ hi, ← hx]
  have hb := h.cb
  have hc := h.cc
  have ha' := h.ca
  have hn := h.n
  have ht := h.t
  have c4 := h.c4
  have b6 := h.b6
  have a9 := h.a9
  have n0 := h.n0
  have t0 := h.t0
  rw [← hx]
  refine ⟨h.q, h.d, h.m, h.r, h.l, fun y hy => h.o y (hs.subset hy), ?_, ?_, ?_, ?_, ?_, ?_, ?_, ?_, ?_, ?_⟩
  · show (if 2 ≤ x.a then b.u.c + -gT x else b.u.c) = sumA (b.out.eraseIdx i) 2
    rw [e0]; split <;> split <;> omega
  · show (if 1 ≤ x.a then b.u.b + -gT x else b.u.b) = (if 2 ≤ x.a then b.u.c + -gT x else b.u.c) + sumA (b.out.eraseIdx i) 1
    rw [e0]; split <;> split <;> split <;> omega
  · show b.u.a + -gT x = (if 1 ≤ x.a then b.u.b + -gT x else b.u.b) + sumA (b.out.eraseIdx i) 0
    rw [e0]; split <;> split <;> omega
  · show b.no + x.k = 4 - sumK (b.out.eraseIdx i)
    rw [eK]; omega
  · show b.al + gT x = 10 - sumT (b.out.eraseIdx i)
    rw [eT]; omega
  · show (if 2 ≤ x.a then b.u.c + -gT x else b.u.c) ≤ 4
    split <;> omega
  · show (if 1 ≤ x.a then b.u.b + -gT x else b.u.b) ≤ 6
    split <;> omega
  · show b.u.a + -gT x ≤ 9
    omega
  · show 0 ≤ b.no + x.k
    omega
  · show 0 ≤ b.al + gT x
    omega
theorem bi_step {b : BQ} (h : Bi b) (o : GO) : Bi (stepM b o) := by
  unfold stepM
  split
  · split
    · exact h
    · rename_i hw
      exact bi_ask h (by simpa using hw)
  split
  · split
    · exact bi_can h _
    · exact h
  split
  · exact bi_pre h _ (srv_go _ b)
  split
  · rename_i hw
    exact bi_give h (idxM_lt hw).2
  · exact h
theorem q_le {b : BQ} (h : Bi b) : b.q.length ≤ 8 := by
  have h1 := h.d
  have h2 : ∀ x ∈ b.q.map AK.p, x ∈ ([0, 1, 2, 3, 4, 5, 6, 7] : List Int) := fun x hx => by
    obtain ⟨y, hy, rfl⟩ := List.mem_map.1 hx
    have := (h.q y hy).p
    have : y.p = 0 ∨ y.p = 1 ∨ y.p = 2 ∨ y.p = 3 ∨ y.p = 4 ∨ y.p = 5 ∨ y.p = 6 ∨ y.p = 7 := by omega
    rcases this with e | e | e | e | e | e | e | e <;> rw [e] <;> simp
  have := nodup_le h1 h2
  simpa using this
theorem pre_out (b : BQ) : ∀ i, (preB b i).out.length = b.out.length + i
  | 0 => rfl
  | i + 1 => by show ((preB b i).out ++ [_]).length = _; rw [List.length_append, pre_out b i]; rfl
theorem srv_le : ∀ (f : Nat) (b : BQ), srvN f b ≤ f
  | 0, _ => Nat.le_refl _
  | f + 1, b => by
    rw [srvN]
    split
    · have := srv_le f (grB b); omega
    · omega
theorem out_le {b : BQ} (h : Bi b) (o : GO) : (stepM b o).out.length ≤ b.out.length + 8 := by
  unfold stepM
  split
  · split <;> exact Nat.le_add_right ..
  split
  · split <;> exact Nat.le_add_right ..
  split
  · rw [pre_out]
    have := srv_le b.q.length b
    have := q_le h
    omega
  split
  · show (b.out.eraseIdx _).length ≤ _
    have := (List.eraseIdx_sublist b.out (giveI b o)).length_le
    omega
  · exact Nat.le_add_right ..
end Go.Proofs.Ythlildafofbiaaa
