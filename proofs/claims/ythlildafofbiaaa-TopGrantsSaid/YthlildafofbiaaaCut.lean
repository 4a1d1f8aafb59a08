/- Cuts, with what is known of their numbers. No conditions. -/
import Derived.Test.YthlildafofbiaaaSl
set_option linter.unusedSimpArgs false
set_option linter.unusedVariables false
namespace Go.Proofs.Ythlildafofbiaaa
open Go Go.RowKit
section
variable {P : Program} {n : Nat} {Q : Exit → Act → World → Prop} {E : Env} {H : World → Prop} {x : Code} {F : Act → World → Prop}
def Mt1 [Dl] {α1 : Type} (n : Nat) (Ψ : α1 → Prop) (I : α1 → Env) (J : α1 → World → Prop) : Act → World → Prop := fun a w => ∃ s1, Ψ s1 ∧ FrOk n (I s1) a ∧ J s1 w
theorem tri_mt1 [Dl] {α1 : Type} {Ψ : α1 → Prop} {I : α1 → Env} {J : α1 → World → Prop} (s1' : α1) (hΨ : Ψ s1') (hE : Sub (I s1') E) (hH : ∀ w, H w → J s1' w) : Tri n (Mt1 n Ψ I J) E H := fun _ w h1 h2 => ⟨s1', hΨ, h1.sub hE, hH w h2⟩
theorem tri_cut1 [Dl] {α1 : Type} (Ψ : α1 → Prop) (I : α1 → Env) (J : α1 → World → Prop) (first : Tri n (x.wp P (Exit.then (Mt1 n Ψ I J) Q)) E H) (rest : ∀ s1, Ψ s1 → Tri n F (I s1) (J s1)) : Tri n (x.wp P (Exit.then F Q)) E H := fun a w h1 h2 =>
  (wp_mono (first a w h1 h2) fun e a' w' q => by
    cases e with
    | normal => obtain ⟨s1', h3, h4, h5⟩ := q; exact rest s1' h3 a' w' h4 h5
    | exit id => exact q
    | goto l => exact q
    | ret => exact q
    | panic ch => exact q
    | outgrown => exact q)
def Mt2 [Dl] {α1 α2 : Type} (n : Nat) (Ψ : α1 → α2 → Prop) (I : α1 → α2 → Env) (J : α1 → α2 → World → Prop) : Act → World → Prop := fun a w => ∃ s1 s2, Ψ s1 s2 ∧ FrOk n (I s1 s2) a ∧ J s1 s2 w
theorem tri_mt2 [Dl] {α1 α2 : Type} {Ψ : α1 → α2 → Prop} {I : α1 → α2 → Env} {J : α1 → α2 → World → Prop} (s1' : α1) (s2' : α2) (hΨ : Ψ s1' s2') (hE : Sub (I s1' s2') E) (hH : ∀ w, H w → J s1' s2' w) : Tri n (Mt2 n Ψ I J) E H := fun _ w h1 h2 => ⟨s1', s2', hΨ, h1.sub hE, hH w h2⟩
theorem tri_cut2 [Dl] {α1 α2 : Type} (Ψ : α1 → α2 → Prop) (I : α1 → α2 → Env) (J : α1 → α2 → World → Prop) (first : Tri n (x.wp P (Exit.then (Mt2 n Ψ I J) Q)) E H) (rest : ∀ s1 s2, Ψ s1 s2 → Tri n F (I s1 s2) (J s1 s2)) : Tri n (x.wp P (Exit.then F Q)) E H := fun a w h1 h2 =>
  (wp_mono (first a w h1 h2) fun e a' w' q => by
    cases e with
    | normal => obtain ⟨s1', s2', h3, h4, h5⟩ := q; exact rest s1' s2' h3 a' w' h4 h5
    | exit id => exact q
    | goto l => exact q
    | ret => exact q
    | panic ch => exact q
    | outgrown => exact q)
def Mt3 [Dl] {α1 α2 α3 : Type} (n : Nat) (Ψ : α1 → α2 → α3 → Prop) (I : α1 → α2 → α3 → Env) (J : α1 → α2 → α3 → World → Prop) : Act → World → Prop := fun a w => ∃ s1 s2 s3, Ψ s1 s2 s3 ∧ FrOk n (I s1 s2 s3) a ∧ J s1 s2 s3 w
theorem tri_mt3 [Dl] {α1 α2 α3 : Type} {Ψ : α1 → α2 → α3 → Prop} {I : α1 → α2 → α3 → Env} {J : α1 → α2 → α3 → World → Prop} (s1' : α1) (s2' : α2) (s3' : α3) (hΨ : Ψ s1' s2' s3') (hE : Sub (I s1' s2' s3') E) (hH : ∀ w, H w → J s1' s2' s3' w) : Tri n (Mt3 n Ψ I J) E H := fun _ w h1 h2 => ⟨s1', s2', s3', hΨ, h1.sub hE, hH w h2⟩
theorem tri_cut3 [Dl] {α1 α2 α3 : Type} (Ψ : α1 → α2 → α3 → Prop) (I : α1 → α2 → α3 → Env) (J : α1 → α2 → α3 → World → Prop) (first : Tri n (x.wp P (Exit.then (Mt3 n Ψ I J) Q)) E H) (rest : ∀ s1 s2 s3, Ψ s1 s2 s3 → Tri n F (I s1 s2 s3) (J s1 s2 s3)) : Tri n (x.wp P (Exit.then F Q)) E H := fun a w h1 h2 =>
  (wp_mono (first a w h1 h2) fun e a' w' q => by
    cases e with
    | normal => obtain ⟨s1', s2', s3', h3, h4, h5⟩ := q; exact rest s1' s2' s3' h3 a' w' h4 h5
    | exit id => exact q
    | goto l => exact q
    | ret => exact q
    | panic ch => exact q
    | outgrown => exact q)
def Mt4 [Dl] {α1 α2 α3 α4 : Type} (n : Nat) (Ψ : α1 → α2 → α3 → α4 → Prop) (I : α1 → α2 → α3 → α4 → Env) (J : α1 → α2 → α3 → α4 → World → Prop) : Act → World → Prop := fun a w => ∃ s1 s2 s3 s4, Ψ s1 s2 s3 s4 ∧ FrOk n (I s1 s2 s3 s4) a ∧ J s1 s2 s3 s4 w
theorem tri_mt4 [Dl] {α1 α2 α3 α4 : Type} {Ψ : α1 → α2 → α3 → α4 → Prop} {I : α1 → α2 → α3 → α4 → Env} {J : α1 → α2 → α3 → α4 → World → Prop} (s1' : α1) (s2' : α2) (s3' : α3) (s4' : α4) (hΨ : Ψ s1' s2' s3' s4') (hE : Sub (I s1' s2' s3' s4') E) (hH : ∀ w, H w → J s1' s2' s3' s4' w) : Tri n (Mt4 n Ψ I J) E H := fun _ w h1 h2 => ⟨s1', s2', s3', s4', hΨ, h1.sub hE, hH w h2⟩
theorem tri_cut4 [Dl] {α1 α2 α3 α4 : Type} (Ψ : α1 → α2 → α3 → α4 → Prop) (I : α1 → α2 → α3 → α4 → Env) (J : α1 → α2 → α3 → α4 → World → Prop) (first : Tri n (x.wp P (Exit.then (Mt4 n Ψ I J) Q)) E H) (rest : ∀ s1 s2 s3 s4, Ψ s1 s2 s3 s4 → Tri n F (I s1 s2 s3 s4) (J s1 s2 s3 s4)) : Tri n (x.wp P (Exit.then F Q)) E H := fun a w h1 h2 =>
  (wp_mono (first a w h1 h2) fun e a' w' q => by
    cases e with
    | normal => obtain ⟨s1', s2', s3', s4', h3, h4, h5⟩ := q; exact rest s1' s2' s3' s4' h3 a' w' h4 h5
    | exit id => exact q
    | goto l => exact q
    | ret => exact q
    | panic ch => exact q
    | outgrown => exact q)
def Mt5 [Dl] {α1 α2 α3 α4 α5 : Type} (n : Nat) (Ψ : α1 → α2 → α3 → α4 → α5 → Prop) (I : α1 → α2 → α3 → α4 → α5 → Env) (J : α1 → α2 → α3 → α4 → α5 → World → Prop) : Act → World → Prop := fun a w => ∃ s1 s2 s3 s4 s5, Ψ s1 s2 s3 s4 s5 ∧ FrOk n (I s1 s2 s3 s4 s5) a ∧ J s1 s2 s3 s4 s5 w
theorem tri_mt5 [Dl] {α1 α2 α3 α4 α5 : Type} {Ψ : α1 → α2 → α3 → α4 → α5 → Prop} {I : α1 → α2 → α3 → α4 → α5 → Env} {J : α1 → α2 → α3 → α4 → α5 → World → Prop} (s1' : α1) (s2' : α2) (s3' : α3) (s4' : α4) (s5' : α5) (hΨ : Ψ s1' s2' s3' s4' s5') (hE : Sub (I s1' s2' s3' s4' s5') E) (hH : ∀ w, H w → J s1' s2' s3' s4' s5' w) : Tri n (Mt5 n Ψ I J) E H := fun _ w h1 h2 => ⟨s1', s2', s3', s4', s5', hΨ, h1.sub hE, hH w h2⟩
theorem tri_cut5 [Dl] {α1 α2 α3 α4 α5 : Type} (Ψ : α1 → α2 → α3 → α4 → α5 → Prop) (I : α1 → α2 → α3 → α4 → α5 → Env) (J : α1 → α2 → α3 → α4 → α5 → World → Prop) (first : Tri n (x.wp P (Exit.then (Mt5 n Ψ I J) Q)) E H) (rest : ∀ s1 s2 s3 s4 s5, Ψ s1 s2 s3 s4 s5 → Tri n F (I s1 s2 s3 s4 s5) (J s1 s2 s3 s4 s5)) : Tri n (x.wp P (Exit.then F Q)) E H := fun a w h1 h2 =>
  (wp_mono (first a w h1 h2) fun e a' w' q => by
    cases e with
    | normal => obtain ⟨s1', s2', s3', s4', s5', h3, h4, h5⟩ := q; exact rest s1' s2' s3' s4' s5' h3 a' w' h4 h5
    | exit id => exact q
    | goto l => exact q
    | ret => exact q
    | panic ch => exact q
    | outgrown => exact q)
def Mt6 [Dl] {α1 α2 α3 α4 α5 α6 : Type} (n : Nat) (Ψ : α1 → α2 → α3 → α4 → α5 → α6 → Prop) (I : α1 → α2 → α3 → α4 → α5 → α6 → Env) (J : α1 → α2 → α3 → α4 → α5 → α6 → World → Prop) : Act → World → Prop := fun a w => ∃ s1 s2 s3 s4 s5 s6, Ψ s1 s2 s3 s4 s5 s6 ∧ FrOk n (I s1 s2 s3 s4 s5 s6) a ∧ J s1 s2 s3 s4 s5 s6 w
theorem tri_mt6 [Dl] {α1 α2 α3 α4 α5 α6 : Type} {Ψ : α1 → α2 → α3 → α4 → α5 → α6 → Prop} {I : α1 → α2 → α3 → α4 → α5 → α6 → Env} {J : α1 → α2 → α3 → α4 → α5 → α6 → World → Prop} (s1' : α1) (s2' : α2) (s3' : α3) (s4' : α4) (s5' : α5) (s6' : α6) (hΨ : Ψ s1' s2' s3' s4' s5' s6') (hE : Sub (I s1' s2' s3' s4' s5' s6') E) (hH : ∀ w, H w → J s1' s2' s3' s4' s5' s6' w) : Tri n (Mt6 n Ψ I J) E H := fun _ w h1 h2 => ⟨s1', s2', s3', s4', s5', s6', hΨ, h1.sub hE, hH w h2⟩
theorem tri_cut6 [Dl] {α1 α2 α3 α4 α5 α6 : Type} (Ψ : α1 → α2 → α3 → α4 → α5 → α6 → Prop) (I : α1 → α2 → α3 → α4 → α5 → α6 → Env) (J : α1 → α2 → α3 → α4 → α5 → α6 → World → Prop) (first : Tri n (x.wp P (Exit.then (Mt6 n Ψ I J) Q)) E H) (rest : ∀ s1 s2 s3 s4 s5 s6, Ψ s1 s2 s3 s4 s5 s6 → Tri n F (I s1 s2 s3 s4 s5 s6) (J s1 s2 s3 s4 s5 s6)) : Tri n (x.wp P (Exit.then F Q)) E H := fun a w h1 h2 =>
  (wp_mono (first a w h1 h2) fun e a' w' q => by
    cases e with
    | normal => obtain ⟨s1', s2', s3', s4', s5', s6', h3, h4, h5⟩ := q; exact rest s1' s2' s3' s4' s5' s6' h3 a' w' h4 h5
    | exit id => exact q
    | goto l => exact q
    | ret => exact q
    | panic ch => exact q
    | outgrown => exact q)
def Mt7 [Dl] {α1 α2 α3 α4 α5 α6 α7 : Type} (n : Nat) (Ψ : α1 → α2 → α3 → α4 → α5 → α6 → α7 → Prop) (I : α1 → α2 → α3 → α4 → α5 → α6 → α7 → Env) (J : α1 → α2 → α3 → α4 → α5 → α6 → α7 → World → Prop) : Act → World → Prop := fun a w => ∃ s1 s2 s3 s4 s5 s6 s7, Ψ s1 s2 s3 s4 s5 s6 s7 ∧ FrOk n (I s1 s2 s3 s4 s5 s6 s7) a ∧ J s1 s2 s3 s4 s5 s6 s7 w
theorem tri_mt7 [Dl] {α1 α2 α3 α4 α5 α6 α7 : Type} {Ψ : α1 → α2 → α3 → α4 → α5 → α6 → α7 → Prop} {I : α1 → α2 → α3 → α4 → α5 → α6 → α7 → Env} {J : α1 → α2 → α3 → α4 → α5 → α6 → α7 → World → Prop} (s1' : α1) (s2' : α2) (s3' : α3) (s4' : α4) (s5' : α5) (s6' : α6) (s7' : α7) (hΨ : Ψ s1' s2' s3' s4' s5' s6' s7') (hE : Sub (I s1' s2' s3' s4' s5' s6' s7') E) (hH : ∀ w, H w → J s1' s2' s3' s4' s5' s6' s7' w) : Tri n (Mt7 n Ψ I J) E H := fun _ w h1 h2 => ⟨s1', s2', s3', s4', s5', s6', s7', hΨ, h1.sub hE, hH w h2⟩
theorem tri_cut7 [Dl] {α1 α2 α3 α4 α5 α6 α7 : Type} (Ψ : α1 → α2 → α3 → α4 → α5 → α6 → α7 → Prop) (I : α1 → α2 → α3 → α4 → α5 → α6 → α7 → Env) (J : α1 → α2 → α3 → α4 → α5 → α6 → α7 → World → Prop) (first : Tri n (x.wp P (Exit.then (Mt7 n Ψ I J) Q)) E H) (rest : ∀ s1 s2 s3 s4 s5 s6 s7, Ψ s1 s2 s3 s4 s5 s6 s7 → Tri n F (I s1 s2 s3 s4 s5 s6 s7) (J s1 s2 s3 s4 s5 s6 s7)) : Tri n (x.wp P (Exit.then F Q)) E H := fun a w h1 h2 =>
  (wp_mono (first a w h1 h2) fun e a' w' q => by
    cases e with
    | normal => obtain ⟨s1', s2', s3', s4', s5', s6', s7', h3, h4, h5⟩ := q; exact rest s1' s2' s3' s4' s5' s6' s7' h3 a' w' h4 h5
    | exit id => exact q
    | goto l => exact q
    | ret => exact q
    | panic ch => exact q
    | outgrown => exact q)
end
end Go.Proofs.Ythlildafofbiaaa
