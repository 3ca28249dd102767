/- slices.SortStableFunc at events: swapRange and rotate. -/
import Derived.Test.YtmdpbbnieehmnaaSrtC
namespace Go.Proofs.Ytmdpbbnieehmnaa
open Go.RowKit
set_option linter.unusedSimpArgs false
set_option linter.unusedVariables false

def swr (R : List Ev) (a b : Nat) : Nat → List Ev
  | 0 => R
  | t + 1 => swp (swr R a b t) (a + t) (b + t)
theorem swr_len (R : List Ev) (a b : Nat) : ∀ t, (swr R a b t).length = R.length
  | 0 => rfl
  | t + 1 => by rw [swr, swp_len, swr_len R a b t]
theorem swr_get {R : List Ev} {a b : Nat} : ∀ t, a + t ≤ b → b + t ≤ R.length → ∀ x, gE (swr R a b t) x = if a ≤ x ∧ x < a + t then gE R (x - a + b) else if b ≤ x ∧ x < b + t then gE R (x - b + a) else gE R x
  | 0, _, _, x => by rw [if_neg (by omega), if_neg (by omega)]; rfl
  | t + 1, h1, h2, x => by
    have ih := swr_get (R := R) (a := a) (b := b) t (by omega) (by omega)
    rw [swr, gE_swp (by rw [swr_len]; omega) (by rw [swr_len]; omega), ih, ih, ih]
    repeat' split
    all_goals first | rfl | (exfalso; omega) | (congr 1; omega)
theorem ext_gE {A B : List Ev} (hl : A.length = B.length) (h : ∀ x, gE A x = gE B x) : A = B := by
  apply List.ext_getElem? 
  intro i
  by_cases hi : i < A.length
  · rw [gE_some hi, gE_some (by omega), h]
  · rw [List.getElem?_eq_none (by omega), List.getElem?_eq_none (by omega)]
theorem rot_step1 {R : List Ev} {m i j : Nat} (hi : i ≤ m) (hj : m + j ≤ R.length) (hlt : j < i) : rot (swr R (m - i) m j) (m - (i - j)) m (m + j) = rot R (m - i) m (m + j) := by
  have hl : (swr R (m - i) m j).length = R.length := swr_len _ _ _ _
  apply ext_gE
  · rw [rot_len (by omega) (by omega) (by omega), rot_len (by omega) (by omega) (by omega), hl]
  · intro x
    rw [rot_get (by omega) (by omega) (by omega), rot_get (by omega) (by omega) (by omega)]
    simp only [swr_get (R := R) (a := m - i) (b := m) j (by omega) (by omega)]
    repeat' split
    all_goals first | rfl | (exfalso; omega) | (congr 1; omega)
theorem rot_step2 {R : List Ev} {m i j : Nat} (hi : i ≤ m) (hj : m + j ≤ R.length) (hlt : i < j) : rot (swr R (m - i) (m + j - i) i) (m - i) m (m + (j - i)) = rot R (m - i) m (m + j) := by
  have hl : (swr R (m - i) (m + j - i) i).length = R.length := swr_len _ _ _ _
  apply ext_gE
  · rw [rot_len (by omega) (by omega) (by omega), rot_len (by omega) (by omega) (by omega), hl]
  · intro x
    rw [rot_get (by omega) (by omega) (by omega), rot_get (by omega) (by omega) (by omega)]
    simp only [swr_get (R := R) (a := m - i) (b := m + j - i) i (by omega) (by omega)]
    repeat' split
    all_goals first | rfl | (exfalso; omega) | (congr 1; omega)
theorem rot_last {R : List Ev} {m i : Nat} (hi : i ≤ m) (hj : m + i ≤ R.length) : swr R (m - i) m i = rot R (m - i) m (m + i) := by
  have hl : (swr R (m - i) m i).length = R.length := swr_len _ _ _ _
  apply ext_gE
  · rw [rot_len (by omega) (by omega) (by omega), hl]
  · intro x
    rw [rot_get (by omega) (by omega) (by omega)]
    simp only [swr_get (R := R) (a := m - i) (b := m) i (by omega) (by omega)]
    repeat' split
    all_goals first | rfl | (exfalso; omega) | (congr 1; omega)

set_option maxHeartbeats 8000000 in
set_option maxRecDepth 100000 in
theorem swapRange_any (g cap a b k : Nat) (R0 : List Ev) (w : World) (h : RowE w g cap R0) (hab : a + k ≤ b) (hb : b + k ≤ R0.length) (hn : R0.length ≤ 1000000) (fv : Value) :
    Calls Try.prog 82 #[.slice (some ⟨g, 0, none⟩) R0.length cap, .int .i64 a, .int .i64 b, .int .i64 k, fv] w fun e w' => e = .returned (.tuple #[]) ∧ RowE w' g cap (swr R0 a b k) ∧ Chg (· = g) w w' := by
  obtain ⟨n, hnn⟩ : ∃ n, R0.length = n := ⟨_, rfl⟩
  have H := Lib.hid h
  rw [hnn] at hb hn
  rw [hnn]
  have HN := Lib.hid hnn
  clear h hnn
  go_enter Try.func82, Try.ntmps82
  go_wp2_with fail
  go_loopw [10] (fun i wr => ∃ t : Nat, t ≤ k ∧ i = .int .i64 t ∧ Hid (RowE wr g cap (swr R0 a b t) ∧ Chg (· = g) w wr)) (fun i _ => k - (intOf i).toNat)
  case atStart => exact ⟨0, Nat.zero_le _, rfl, H.out, Chg.refl _ _⟩
  case round =>
    obtain ⟨t, htk, rfl, hI⟩ := hrel
    by_cases hlt : t < k
    · have hl := swr_len R0 a b t
      have hl2 := HN.out
      obtain ⟨c0, c1, c2, c3, c4, c5, c6⟩ := hI.out.1.at_ (i := a + t) (by omega)
      obtain ⟨d0, d1, d2, d3, d4, d5, d6⟩ := hI.out.1.at_ (i := b + t) (by omega)
      have hS := hI.out.1.swap (i := a + t) (j := b + t) (by omega) (by omega)
      have hf := fun j => hI.out.1.frz j (by omega)
      have hT : swr R0 a b (t + 1) = swp (swr R0 a b t) (a + t) (b + t) := rfl
      generalize swr R0 a b t = R' at *
      generalize hx : gE R' (a + t) = x at *
      generalize hy : gE R' (b + t) = y at *
      have hfin : ∃ t2 : Nat, t2 ≤ k ∧ Value.int .i64 ((t : Int) + 1) = .int .i64 t2 ∧ Hid (RowE (swapW wr g (a + t) (b + t) x y).drew g cap (swr R0 a b t2) ∧ Chg (· = g) w (swapW wr g (a + t) (b + t) x y).drew) :=
        ⟨t + 1, hlt, by go_num, by rw [hT]; exact hS.1.drew, (hI.out.2.trans hS.2 (fun i h => .inl h)).drew⟩
      have HFIN := Lib.hid hfin
      have hb1 : (a : Int) + (t : Int) < (n : Int) := by omega
      have hb2 : (b : Int) + (t : Int) < (n : Int) := by omega
      clear hfin hS hI hT hl hl2 hx hy
      go_wp2_with fail
      go_region
      all_goals
        go_wp2
        go_roundw
        case rel => exact HFIN.out
        case measure => simp [intOf]; omega
    · obtain rfl : t = k := by omega
      go_wp2
      exact bodyPost_end (by simp [results, Try.results82, go_sem]) rfl ⟨rfl, hI.out.1, hI.out.2⟩
end Go.Proofs.Ytmdpbbnieehmnaa
