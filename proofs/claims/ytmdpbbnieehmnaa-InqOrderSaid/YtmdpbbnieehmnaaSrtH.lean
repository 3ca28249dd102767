/- slices.SortStableFunc at events: symMerge where the right stretch is one element. -/
import Derived.Test.YtmdpbbnieehmnaaSrtG
namespace Go.Proofs.Ytmdpbbnieehmnaa
open Go.RowKit
set_option linter.unusedSimpArgs false
set_option linter.unusedVariables false

set_option maxHeartbeats 8000000 in
set_option maxRecDepth 100000 in
theorem symMerge_down (g cap a m : Nat) (R0 : List Ev) (w : World) (h : RowE w g cap R0) (ham : a + 1 < m) (hb : m + 1 ≤ R0.length) (hn : R0.length ≤ 1000000) (hS : Seg R0 a m) :
    Calls Try.prog 77 #[.slice (some ⟨g, 0, none⟩) R0.length cap, .int .i64 a, .int .i64 m, .int .i64 ((m : Int) + 1), .func (.func 48) #[] #[]] w (SymPost g cap a (m + 1) R0 w) := by
  obtain ⟨n, hnn⟩ : ∃ n, R0.length = n := ⟨_, rfl⟩
  have H := Lib.hid h
  have HS := Lib.hid hS
  rw [hnn] at hb hn
  rw [hnn]
  have HN := Lib.hid hnn
  clear h hnn hS
  have hd0 : (((m : Int) - a) == 1) = false := by simp; omega
  have hd : ((m : Int) + 1 - m) = 1 := by omega
  have hmn : m < n := by omega
  go_enter Try.func77, Try.ntmps77
  go_wp2_with fail
  clear hd0 hd
  go_loopw [14, 15] (fun i j wr => ∃ x y : Nat, a ≤ x ∧ x ≤ y ∧ y ≤ m ∧ i = .int .i64 x ∧ j = .int .i64 y ∧ Hid ((∀ t, a ≤ t → t < x → 0 ≤ cmpK (gE R0 m) (gE R0 t)) ∧ (∀ t, y ≤ t → t < m → cmpK (gE R0 m) (gE R0 t) < 0) ∧ RowE wr g cap R0 ∧ Chg Non w wr)) (fun i j _ => (intOf j).toNat - (intOf i).toNat)
  case atStart => exact ⟨a, m, Nat.le_refl _, by omega, Nat.le_refl _, rfl, rfl, fun t h1 h2 => by omega, fun t h1 h2 => by omega, H.out, Chg.refl _ _⟩
  case round =>
    obtain ⟨x, y, hx, hxy, hy, rfl, rfl, hI⟩ := hrel
    by_cases hlt : x < y
    · obtain ⟨q, hq⟩ : ∃ q, q = (x + y) / 2 := ⟨_, rfl⟩
      have hqi : ((x : Int) + (y : Int)) / 2 = (q : Int) := by omega
      have q1 : x ≤ q := by omega
      have q2 : q < y := by omega
      have HQ := Lib.hid hq
      clear hq
      obtain ⟨c0, c1, c2, c3, c4, c5, c6⟩ := hI.out.2.2.1.at_ (i := q) (by have := HN.out; omega)
      obtain ⟨d0, d1, d2, d3, d4, d5, d6⟩ := hI.out.2.2.1.at_ (i := m) (by have := HN.out; omega)
      have hF := fun w => sortF1_any (gE R0 m) (gE R0 q) w
      unfold Ev.val at hF
      have hqn : q < n := by omega
      go_wp2_with fail
      refine still_tail_d 9 (by kernel_rfl) (by kernel_rfl) ?_
      simp only [List.take_succ_cons, List.take_zero, List.drop_succ_cons, List.drop_zero]
      repeat still_step
      refine wpStill_nil ?_
      go_wp2_with fail
      refine (hF _).mono ?_
      rintro e w2 ⟨rfl, hc2⟩
      have hc2' : Chg Non wr w2 := (Chg.refl Non wr).drew.trans hc2 (fun _ x => x.elim)
      have hE2 := hI.out.2.2.1.non hc2'
      have hcE := hI.out.2.2.2.trans hc2' (fun _ x => x.elim)
      by_cases hlt3 : cmpK (gE R0 m) (gE R0 q) < 0
      · have hfin : ∃ x2 y2 : Nat, a ≤ x2 ∧ x2 ≤ y2 ∧ y2 ≤ m ∧ Value.int .i64 (x : Int) = .int .i64 x2 ∧ Value.int .i64 (q : Int) = .int .i64 y2 ∧ Hid ((∀ t, a ≤ t → t < x2 → 0 ≤ cmpK (gE R0 m) (gE R0 t)) ∧ (∀ t, y2 ≤ t → t < m → cmpK (gE R0 m) (gE R0 t) < 0) ∧ RowE w2 g cap R0 ∧ Chg Non w w2) :=
          ⟨x, q, hx, q1, by omega, rfl, rfl, hI.out.1, fun t h1 h2 => cmpK_lt_le hlt3 (HS.out.le (show a ≤ q by omega) h1 h2), hE2, hcE⟩
        have HFIN := Lib.hid hfin
        generalize cmpK (gE R0 m) (gE R0 q) = cc at hlt3 ⊢
        clear hfin hE2 hcE hc2' hc2 hI hF c0 c1 c2 c3 c4 c5 c6 d0 d1 d2 d3 d4 d5 d6
        go_wp2
        go_roundw
        case rel => exact HFIN.out
        case measure => simp [intOf]; omega
      · have hfin : ∃ x2 y2 : Nat, a ≤ x2 ∧ x2 ≤ y2 ∧ y2 ≤ m ∧ Value.int .i64 ((q : Int) + 1) = .int .i64 x2 ∧ Value.int .i64 (y : Int) = .int .i64 y2 ∧ Hid ((∀ t, a ≤ t → t < x2 → 0 ≤ cmpK (gE R0 m) (gE R0 t)) ∧ (∀ t, y2 ≤ t → t < m → cmpK (gE R0 m) (gE R0 t) < 0) ∧ RowE w2 g cap R0 ∧ Chg Non w w2) :=
          ⟨q + 1, y, by omega, by omega, hy, by go_num, rfl, fun t h1 h2 => Int.not_lt.1 fun h3 => hlt3 (cmpK_lt_le h3 (HS.out.le h1 (show t ≤ q by omega) (by omega))), hI.out.2.1, hE2, hcE⟩
        have HFIN := Lib.hid hfin
        generalize cmpK (gE R0 m) (gE R0 q) = cc at hlt3 ⊢
        clear hfin hE2 hcE hc2' hc2 hI hF c0 c1 c2 c3 c4 c5 c6 d0 d1 d2 d3 d4 d5 d6
        have hge : 0 ≤ cc := by omega
        have hdec : decide (cc < 0) = false := decide_eq_false hlt3
        go_wp2
        go_roundw
        case rel => exact HFIN.out
        case measure => simp [intOf]; omega
    · obtain rfl : x = y := by omega
      have hst := hI.out.2.2.1
      have hch := hI.out.2.2.2
      have HST := Lib.hid (And.intro hI.out.1 hI.out.2.1)
      clear hI
      go_wp2_with fail
      go_loopw [17] (fun i wr' => ∃ (k : Nat) (R : List Ev), x ≤ k ∧ k ≤ m ∧ i = .int .i64 k ∧ Hid (RowE wr' g cap R ∧ Turn a (m + 1) R0 R ∧ MovedDown R0 R m k ∧ Chg (· = g) w wr')) (fun i _ => (intOf i).toNat)
      case atStart => exact ⟨m, R0, by omega, Nat.le_refl _, rfl, hst, Turn.refl _ _ _, MovedDown.start _ _, hch.mono (fun _ _ x => x.elim)⟩
      case round =>
        obtain ⟨k', R, hak, hkx, rfl, hI⟩ := hrel
        by_cases hlt2 : x < k'
        · obtain ⟨k, rfl⟩ : ∃ k, k' = k + 1 := ⟨k' - 1, by omega⟩
          have hl := hI.out.2.1.len
          have hl2 := HN.out
          have hkn : k + 1 < R.length := by omega
          obtain ⟨c0, c1, c2, c3, c4, c5, c6⟩ := hI.out.1.at_ (i := k) (by omega)
          obtain ⟨d0, d1, d2, d3, d4, d5, d6⟩ := hI.out.1.at_ (i := k + 1) hkn
          have hSw := hI.out.1.swap (i := k + 1) (j := k) hkn (by omega)
          have hf := fun j => hI.out.1.frz j (by omega)
          have hne : (gE R k).k4 ≠ (gE R (k + 1)).k4 := by
            have hM := hI.out.2.2.1
            rw [hM, hM, if_neg (by omega), if_neg (by omega), if_neg (by omega), if_pos rfl]
            exact Ne.symm (cmpK_ne (HST.out.2 k (by omega) (by omega)))
          have hT2 := hI.out.2.1.trans (Turn.swap' (a := a) (b := m + 1) hkn (by omega) (by omega) hne)
          have hM2 := hI.out.2.2.1.step (by omega) hkx
          generalize hxx : gE R k = ex at *
          generalize hyy : gE R (k + 1) = ey at *
          have hfin : ∃ (k2 : Nat) (R2 : List Ev), x ≤ k2 ∧ k2 ≤ m ∧ Value.int .i64 (k : Int) = .int .i64 k2 ∧ Hid (RowE (swapW wr g (k + 1) k ey ex).drew g cap R2 ∧ Turn a (m + 1) R0 R2 ∧ MovedDown R0 R2 m k2 ∧ Chg (· = g) w (swapW wr g (k + 1) k ey ex).drew) :=
            ⟨k, _, by omega, by omega, rfl, hSw.1.drew, hT2, hM2, (hI.out.2.2.2.trans hSw.2 (fun i h => .inl h)).drew⟩
          have HFIN := Lib.hid hfin
          have hb1 : (k : Int) + 1 < (n : Int) := by omega
          have hb2 : (0 : Int) ≤ (k : Int) + 1 := by omega
          have hb3 : (x : Int) < (k : Int) + 1 := by omega
          have hwr : IntKind.i64.wrap (k : Int) = (k : Int) := by rw [IntKind.wrap_i64]; omega
          clear hfin hSw hI hl hl2 hxx hyy hne hT2 hM2
          go_wp2_with fail
          go_region
          all_goals
            go_wp2
            go_roundw
            case rel => exact HFIN.out
            case measure => simp [intOf]
        · obtain rfl : k' = x := by omega
          have hres := merge2 hx hkx HS.out HST.out.1 HST.out.2 hI.out.2.2.1
          have HR := Lib.hid (And.intro hI.out hres)
          clear hres hI
          go_wp2
          exact bodyPost_end (by simp [results, Try.results77, go_sem]) rfl ⟨rfl, R, HR.out.1.1, HR.out.1.2.1, HR.out.2, HR.out.1.2.2.2⟩
end Go.Proofs.Ytmdpbbnieehmnaa
