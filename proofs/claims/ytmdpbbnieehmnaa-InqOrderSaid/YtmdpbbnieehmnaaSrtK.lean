/- slices.SortStableFunc at events: symMerge where both stretches are longer. -/
import Derived.Test.YtmdpbbnieehmnaaSrtH
namespace Go.Proofs.Ytmdpbbnieehmnaa
open Go.RowKit
set_option linter.unusedSimpArgs false
set_option linter.unusedVariables false

def SymIH (g cap n N : Nat) : Prop := ∀ (a m b : Nat) (R : List Ev) (w : World), b - a < N → RowE w g cap R → R.length = n → a < m → m < b → b ≤ n → Seg R a m → Seg R m b →
  Calls Try.prog 77 #[.slice (some ⟨g, 0, none⟩) n cap, .int .i64 a, .int .i64 m, .int .i64 b, .func (.func 48) #[] #[]] w (SymPost g cap a b R w)
def SBound (a m b mid s0 r0 : Nat) : Prop := a ≤ s0 ∧ s0 ≤ r0 ∧ r0 ≤ m ∧ r0 ≤ mid ∧ mid + m ≤ s0 + b ∧ (s0 = a ∨ s0 + b = mid + m) ∧ (r0 = m ∨ r0 = mid)
def SInv (R : List Ev) (m mid s0 r0 x y : Nat) : Prop := (x = s0 ∨ 0 ≤ cmpK (gE R (mid + m - x)) (gE R (x - 1))) ∧ (y = r0 ∨ cmpK (gE R (mid + m - 1 - y)) (gE R y) < 0)
theorem sym_turn {R0 : List Ev} {a m b mid s0 r0 s : Nat} (hb : b ≤ R0.length) (hA : Seg R0 a m) (hB : Seg R0 m b) (hmid : mid < b) (ham : a < m) (hmb : m < b) (hbd : SBound a m b mid s0 r0) (h1 : s0 ≤ s) (h2 : s ≤ r0) (hI : SInv R0 m mid s0 r0 s s) (e : Nat) (he : e = mid + m - s) :
    Turn a b R0 (rot R0 s m e) ∧ Seg (rot R0 s m e) a s ∧ Seg (rot R0 s m e) s mid ∧ Seg (rot R0 s m e) mid e ∧ Seg (rot R0 s m e) e b ∧ Cross (rot R0 s m e) a mid b := by
  obtain ⟨b1, b2, b3, b4, b5, b6, b7⟩ := hbd
  refine sym_core hb hA hB (by omega) (by omega) (by omega) (by omega) (by omega) (by omega) (by omega) ?_ ?_
  · rcases hI.1 with h | h
    · subst h
      rcases b6 with h | h
      · exact .inl h
      · exact .inr (.inl (by omega))
    · refine .inr (.inr ?_)
      rw [he]
      omega
  · rcases hI.2 with h | h
    · subst h
      rcases b7 with h | h
      · exact .inl h
      · exact .inr (.inl (by omega))
    · refine .inr (.inr ?_)
      rw [he, show mid + m - s - 1 = mid + m - 1 - s by omega]
      exact h

end Go.Proofs.Ytmdpbbnieehmnaa
