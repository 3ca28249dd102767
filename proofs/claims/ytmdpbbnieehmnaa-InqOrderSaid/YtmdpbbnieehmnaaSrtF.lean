/- slices.SortStableFunc at events: symMerge, plain part. -/
import Derived.Test.YtmdpbbnieehmnaaSrtE
namespace Go.Proofs.Ytmdpbbnieehmnaa
open Go.RowKit
set_option linter.unusedSimpArgs false
set_option linter.unusedVariables false

/-- R with its element at a moved up to k. -/
def MovedUp (R R' : List Ev) (a k : Nat) : Prop := ∀ t, gE R' t = if a ≤ t ∧ t < k then gE R (t + 1) else if t = k then gE R a else gE R t
theorem MovedUp.start (R : List Ev) (a : Nat) : MovedUp R R a a := fun t => by
  rw [if_neg (by omega)]
  split
  · rename_i h; rw [h]
  · rfl
theorem MovedUp.step {R R' : List Ev} {a k : Nat} (h : MovedUp R R' a k) (hk : k + 1 < R'.length) (hak : a ≤ k) : MovedUp R (swp R' k (k + 1)) a (k + 1) := fun t => by
  rw [gE_swp (by omega) hk, h, h, h]
  repeat' split
  all_goals first | rfl | (exfalso; omega) | (congr 1; omega)
theorem merge1 {R R' : List Ev} {a b x : Nat} (hx1 : a + 1 ≤ x) (hx2 : x ≤ b) (hS : Seg R (a + 1) b) (h1 : ∀ t, a + 1 ≤ t → t < x → cmpK (gE R t) (gE R a) < 0) (h2 : ∀ t, x ≤ t → t < b → 0 ≤ cmpK (gE R t) (gE R a)) (hM : MovedUp R R' a (x - 1)) : Seg R' a b := by
  intro s t k1 k2 k3
  rw [hM, hM]
  by_cases c1 : a ≤ s ∧ s < x - 1
  · rw [if_pos c1]
    by_cases c2 : a ≤ t ∧ t < x - 1
    · rw [if_pos c2]; exact hS.le (by omega) (by omega) (by omega)
    · rw [if_neg c2]
      by_cases c3 : t = x - 1
      · rw [if_pos c3]; exact Int.le_of_lt (h1 _ (by omega) (by omega))
      · rw [if_neg c3]; exact hS.le (by omega) (by omega) (by omega)
  · rw [if_neg c1]
    by_cases c3 : s = x - 1
    · rw [if_pos c3, if_neg (by omega), if_neg (by omega)]
      have := h2 t (by omega) k3
      rw [cmpK_swap]
      omega
    · rw [if_neg c3, if_neg (by omega), if_neg (by omega)]
      exact hS.le (by omega) (by omega) (by omega)
/-- R with its element at m moved down to k. -/
def MovedDown (R R' : List Ev) (m k : Nat) : Prop := ∀ t, gE R' t = if k < t ∧ t ≤ m then gE R (t - 1) else if t = k then gE R m else gE R t
theorem MovedDown.start (R : List Ev) (m : Nat) : MovedDown R R m m := fun t => by
  rw [if_neg (by omega)]
  split
  · rename_i h; rw [h]
  · rfl
theorem MovedDown.step {R R' : List Ev} {m k : Nat} (h : MovedDown R R' m (k + 1)) (hm : m < R'.length) (hk : k + 1 ≤ m) : MovedDown R (swp R' (k + 1) k) m k := fun t => by
  rw [gE_swp (by omega) (by omega), h, h, h]
  repeat' split
  all_goals first | rfl | (exfalso; omega) | (congr 1; omega)
theorem merge2 {R R' : List Ev} {a m x : Nat} (hx1 : a ≤ x) (hx2 : x ≤ m) (hS : Seg R a m) (h1 : ∀ t, a ≤ t → t < x → 0 ≤ cmpK (gE R m) (gE R t)) (h2 : ∀ t, x ≤ t → t < m → cmpK (gE R m) (gE R t) < 0) (hM : MovedDown R R' m x) : Seg R' a (m + 1) := by
  intro s t k1 k2 k3
  rw [hM, hM]
  by_cases c1 : x < s ∧ s ≤ m
  · rw [if_pos c1, if_pos (by omega)]
    exact hS.le (by omega) (by omega) (by omega)
  · rw [if_neg c1]
    by_cases c3 : s = x
    · rw [if_pos c3, if_pos (by omega)]
      exact Int.le_of_lt (h2 _ (by omega) (by omega))
    · rw [if_neg c3]
      by_cases c2 : x < t ∧ t ≤ m
      · rw [if_pos c2]; exact hS.le (by omega) (by omega) (by omega)
      · rw [if_neg c2]
        by_cases c4 : t = x
        · rw [if_pos c4]
          have := h1 s (by omega) (by omega)
          rw [cmpK_swap]
          omega
        · rw [if_neg c4]; exact hS.le (by omega) (by omega) (by omega)

def SymPost (g cap a b : Nat) (R0 : List Ev) (w : World) (e : Ending) (w' : World) : Prop := e = .returned (.tuple #[]) ∧ ∃ R, RowE w' g cap R ∧ Turn a b R0 R ∧ Seg R a b ∧ Chg (· = g) w w'
end Go.Proofs.Ytmdpbbnieehmnaa
