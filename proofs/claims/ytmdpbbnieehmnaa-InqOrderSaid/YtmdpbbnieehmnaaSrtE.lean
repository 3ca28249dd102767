/- slices.SortStableFunc at events: rotate. -/
import Derived.Test.YtmdpbbnieehmnaaSrtD
namespace Go.Proofs.Ytmdpbbnieehmnaa
open Go.RowKit
set_option linter.unusedSimpArgs false
set_option linter.unusedVariables false

set_option maxHeartbeats 8000000 in
set_option maxRecDepth 100000 in
theorem rotate_any (g cap s m e : Nat) (R0 : List Ev) (w : World) (h : RowE w g cap R0) (hsm : s < m) (hme : m < e) (he : e ≤ R0.length) (hn : R0.length ≤ 1000000) (fv : Value) :
    Calls Try.prog 80 #[.slice (some ⟨g, 0, none⟩) R0.length cap, .int .i64 s, .int .i64 m, .int .i64 e, fv] w fun e' w' => e' = .returned (.tuple #[]) ∧ RowE w' g cap (rot R0 s m e) ∧ Chg (· = g) w w' := by
  obtain ⟨n, hnn⟩ : ∃ n, R0.length = n := ⟨_, rfl⟩
  have H := Lib.hid h
  rw [hnn] at he hn
  rw [hnn]
  have HN := Lib.hid hnn
  clear h hnn
  go_enter Try.func80, Try.ntmps80
  go_wp2_with fail
  go_loopw [10, 11] (fun i j wr => ∃ (x y : Nat) (R' : List Ev), 1 ≤ x ∧ 1 ≤ y ∧ x ≤ m - s ∧ y ≤ e - m ∧ i = .int .i64 x ∧ j = .int .i64 y ∧ Hid (RowE wr g cap R' ∧ R'.length = n ∧ rot R' (m - x) m (m + y) = rot R0 s m e ∧ Chg (· = g) w wr)) (fun i j _ => (intOf i).toNat + (intOf j).toNat)
  case atStart => exact ⟨m - s, e - m, R0, by omega, by omega, Nat.le_refl _, Nat.le_refl _, by congr 1; omega, by congr 1; omega, H.out, HN.out, by rw [show m - (m - s) = s by omega, show m + (e - m) = e by omega], Chg.refl _ _⟩
  case round =>
    obtain ⟨x, y, R', hx1, hy1, hx2, hy2, rfl, rfl, hI⟩ := hrel
    by_cases hne : x = y
    · subst hne
      have e1 : ((m : Int) - (x : Int)) = ((m - x : Nat) : Int) := by omega
      go_wp2_with fail
      have hl := hI.out.2.1
      have hC := swapRange_any g cap (m - x) m x R' wr hI.out.1 (by omega) (by omega) (by omega) fv
      rw [hl] at hC
      refine hC.mono ?_
      rintro e' w2 ⟨rfl, hR, hc⟩
      rw [rot_last (by omega) (by omega), hI.out.2.2.1] at hR
      have hcc := hI.out.2.2.2.trans hc (fun i h => .inl h)
      have HR := Lib.hid (And.intro hR hcc)
      clear hR hcc hc hC hI
      go_wp2
      exact bodyPost_end (by simp [results, Try.results80, go_sem]) rfl ⟨rfl, HR.out.1, HR.out.2⟩
    · have hl := hI.out.2.1
      by_cases hlt : y < x
      · have e1 : ((m : Int) - (x : Int)) = ((m - x : Nat) : Int) := by omega
        go_wp2_with fail
        have hC := swapRange_any g cap (m - x) m y R' wr hI.out.1 (by omega) (by omega) (by omega) fv
        rw [hl] at hC
        refine hC.mono ?_
        rintro e' w2 ⟨rfl, hR, hc⟩
        have hfin : ∃ (x2 y2 : Nat) (R2 : List Ev), 1 ≤ x2 ∧ 1 ≤ y2 ∧ x2 ≤ m - s ∧ y2 ≤ e - m ∧ Value.int .i64 ((x : Int) - (y : Int)) = .int .i64 x2 ∧ Value.int .i64 (y : Int) = .int .i64 y2 ∧ Hid (RowE w2 g cap R2 ∧ R2.length = n ∧ rot R2 (m - x2) m (m + y2) = rot R0 s m e ∧ Chg (· = g) w w2) :=
          ⟨x - y, y, _, by omega, by omega, by omega, by omega, by congr 1; omega, rfl, hR, by rw [swr_len, hl], by rw [rot_step1 (by omega) (by omega) hlt, hI.out.2.2.1], hI.out.2.2.2.trans hc (fun i h => .inl h)⟩
        have HFIN := Lib.hid hfin
        clear hfin hR hc hC hI hl
        go_wp2
        go_roundw
        case rel => exact HFIN.out
        case measure => simp [intOf]; omega
      · have e1 : ((m : Int) - (x : Int)) = ((m - x : Nat) : Int) := by omega
        have e2 : ((m : Int) + (y : Int) - (x : Int)) = ((m + y - x : Nat) : Int) := by omega
        go_wp2_with fail
        have hC := swapRange_any g cap (m - x) (m + y - x) x R' wr hI.out.1 (by omega) (by omega) (by omega) fv
        rw [hl] at hC
        refine hC.mono ?_
        rintro e' w2 ⟨rfl, hR, hc⟩
        have hfin : ∃ (x2 y2 : Nat) (R2 : List Ev), 1 ≤ x2 ∧ 1 ≤ y2 ∧ x2 ≤ m - s ∧ y2 ≤ e - m ∧ Value.int .i64 (x : Int) = .int .i64 x2 ∧ Value.int .i64 ((y : Int) - (x : Int)) = .int .i64 y2 ∧ Hid (RowE w2 g cap R2 ∧ R2.length = n ∧ rot R2 (m - x2) m (m + y2) = rot R0 s m e ∧ Chg (· = g) w w2) :=
          ⟨x, y - x, _, by omega, by omega, by omega, by omega, rfl, by congr 1; omega, hR, by rw [swr_len, hl], by rw [rot_step2 (by omega) (by omega) (by omega), hI.out.2.2.1], hI.out.2.2.2.trans hc (fun i h => .inl h)⟩
        have HFIN := Lib.hid hfin
        clear hfin hR hc hC hI hl
        go_wp2
        go_roundw
        case rel => exact HFIN.out
        case measure => simp [intOf]; omega
end Go.Proofs.Ytmdpbbnieehmnaa
