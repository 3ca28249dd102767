/- slices.SortStableFunc at events: symMerge, and the whole. -/
import Derived.Test.YtmdpbbnieehmnaaSrtI
import Derived.Test.YtmdpbbnieehmnaaSrtJ
namespace Go.Proofs.Ytmdpbbnieehmnaa
open Go.RowKit
set_option linter.unusedSimpArgs false
set_option linter.unusedVariables false

theorem symMerge_ih (g cap n : Nat) (hn : n ≤ 1000000) : ∀ N, SymIH g cap n N
  | 0 => fun a m b R w h => by omega
  | N + 1 => fun a m b R w h hR hl ham hmb hb hA hB => by
    subst hl
    by_cases h1 : m = a + 1
    · subst h1
      have := symMerge_up g cap a b R w hR hmb hb hn hB
      rwa [show ((a : Int) + 1) = ((a + 1 : Nat) : Int) by omega] at this
    · by_cases h2 : b = m + 1
      · subst h2
        have := symMerge_down g cap a m R w hR (by omega) hb hn hA
        rwa [show ((m : Int) + 1) = ((m + 1 : Nat) : Int) by omega] at this
      · have ih := symMerge_ih g cap R.length hn N
        have ih' : SymIH g cap R.length (b - a) := fun a' m' b' R' w' k => ih a' m' b' R' w' (by omega)
        by_cases hmm : (a + b) / 2 < m
        · exact symMerge_recL g cap R.length (b - a) a m b ((a + b) / 2) R w hmm (by omega) ih' rfl hR rfl (by omega) (by omega) hb hn hA hB
        · exact symMerge_recR g cap R.length (b - a) a m b ((a + b) / 2) R w hmm (by omega) ih' rfl hR rfl (by omega) (by omega) hb hn hA hB
theorem symMerge_any (g cap a m b : Nat) (R : List Ev) (w : World) (hR : RowE w g cap R) (ham : a < m) (hmb : m < b) (hb : b ≤ R.length) (hn : R.length ≤ 1000000) (hA : Seg R a m) (hB : Seg R m b) :
    Calls Try.prog 77 #[.slice (some ⟨g, 0, none⟩) R.length cap, .int .i64 a, .int .i64 m, .int .i64 b, .func (.func 48) #[] #[]] w (SymPost g cap a b R w) :=
  symMerge_ih g cap R.length hn (b - a + 1) a m b R w (by omega) hR rfl ham hmb hb hA hB

def Mul (s p : Nat) : Prop := ∃ i, p = i * s
theorem Mul.zero (s : Nat) : Mul s 0 := ⟨0, by simp⟩
theorem Mul.next {s p : Nat} (h : Mul s p) : Mul s (p + s) := by
  obtain ⟨i, rfl⟩ := h
  exact ⟨i + 1, by rw [Nat.add_mul, Nat.one_mul]⟩
theorem Mul.half {s p : Nat} (h : Mul (2 * s) p) : Mul s p := by
  obtain ⟨i, rfl⟩ := h
  exact ⟨i * 2, by rw [Nat.mul_assoc]⟩
theorem Mul.gap {s p q : Nat} (h : Mul s p) (k : Mul s q) (hlt : p < q) : p + s ≤ q := by
  obtain ⟨i, rfl⟩ := h
  obtain ⟨j, rfl⟩ := k
  have hij : i < j := Nat.lt_of_mul_lt_mul_right hlt
  have := Nat.mul_le_mul_right s (show i + 1 ≤ j from hij)
  rw [Nat.add_mul, Nat.one_mul] at this
  exact this
/-- The stretches of s elements that begin ahead of A are in order each. -/
def RunsTo (R : List Ev) (n s A : Nat) : Prop := ∀ p, Mul s p → p < A → Seg R p (min (p + s) n)
def RunsFrom (R : List Ev) (n s A : Nat) : Prop := ∀ p, Mul s p → A ≤ p → Seg R p (min (p + s) n)
theorem Seg.none {R : List Ev} {a b : Nat} (h : b ≤ a) : Seg R a b := fun s t h1 h2 h3 => by omega
theorem RunsTo.step {R R' : List Ev} {n s A : Nat} (h : RunsTo R n s A) (hA : Mul s A) (b : Nat) (hT : Turn A b R R') (hS : Seg R' A (min (A + s) n)) : RunsTo R' n s (A + s) := by
  intro p hp hlt
  by_cases h1 : p < A
  · have := hp.gap hA h1
    exact (h p hp h1).far hT (.inl (by omega))
  · by_cases h2 : p = A
    · rw [h2]; exact hS
    · have := hA.gap hp (by omega)
      omega
theorem RunsTo.all {R : List Ev} {n s A : Nat} (h : RunsTo R n s A) (hA : n ≤ A) : RunsFrom R n s 0 := by
  intro p hp _
  by_cases h1 : p < A
  · exact h p hp h1
  · exact Seg.none (by omega)
theorem RunsFrom.step {R R' : List Ev} {n s A B : Nat} (h : RunsFrom R n s A) (hAB : A ≤ B) (hT : Turn A B R R') : RunsFrom R' n s B := fun p hp hlt => (h p hp (by omega)).far hT (.inr hlt)

set_option maxHeartbeats 8000000 in
set_option maxRecDepth 100000 in
theorem stableCmp_any (g cap : Nat) (R0 : List Ev) (w : World) (h : RowE w g cap R0) (hn : R0.length ≤ 1000000) :
    Calls Try.prog 66 #[.slice (some ⟨g, 0, none⟩) R0.length cap, .int .i64 R0.length, .func (.func 48) #[] #[]] w (SymPost g cap 0 R0.length R0 w) := by
  obtain ⟨n, hnn⟩ : ∃ n, R0.length = n := ⟨_, rfl⟩
  have H := Lib.hid h
  rw [hnn] at hn
  rw [hnn]
  have HN := Lib.hid hnn
  clear h hnn
  go_enter Try.func66, Try.ntmps66
  go_wp2_with fail
  go_loopw [7, 8] (fun i j wr => ∃ (A : Nat) (R : List Ev), A ≤ n ∧ i = .int .i64 A ∧ j = .int .i64 ((A : Int) + 20) ∧ Hid (RowE wr g cap R ∧ Turn 0 n R0 R ∧ RunsTo R n 20 A ∧ Mul 20 A ∧ Chg (· = g) w wr)) (fun i _ _ => n - (intOf i).toNat)
  case atStart => exact ⟨0, R0, by omega, rfl, rfl, H.out, Turn.refl _ _ _, fun p hp hlt => by omega, Mul.zero _, Chg.refl _ _⟩
  case round =>
    obtain ⟨A, R, hk, rfl, rfl, hI⟩ := hrel
    have hl := (hI.out.2.1.len).trans HN.out
    by_cases hlt : A + 20 ≤ n
    · have hltI : (A : Int) + 20 ≤ (n : Int) := by omega
      have hC := insSort_any g cap A (A + 20) R wr hI.out.1 (by omega) (by omega) (by omega)
      rw [hl, show ((A + 20 : Nat) : Int) = (A : Int) + 20 by omega] at hC
      have HL := Lib.hid hl
      clear hl
      go_wp2_with fail
      refine hC.mono ?_
      rintro e wr2 ⟨rfl, R', hR, hT, hS, hc⟩
      have hfin : ∃ (A2 : Nat) (R2 : List Ev), A2 ≤ n ∧ Value.int .i64 ((A : Int) + 20) = .int .i64 A2 ∧ Value.int .i64 ((A : Int) + 20 + 20) = .int .i64 ((A2 : Int) + 20) ∧ Hid (RowE wr2 g cap R2 ∧ Turn 0 n R0 R2 ∧ RunsTo R2 n 20 A2 ∧ Mul 20 A2 ∧ Chg (· = g) w wr2) :=
        ⟨A + 20, R', hlt, by go_num, by congr 1, hR, hI.out.2.1.trans (hT.wide (Nat.zero_le _) hlt), hI.out.2.2.1.step hI.out.2.2.2.1 _ hT (by rwa [Nat.min_eq_left hlt]), hI.out.2.2.2.1.next, hI.out.2.2.2.2.trans hc (fun i h => .inl h)⟩
      have HFIN := Lib.hid hfin
      clear hfin hR hT hS hc hC hI
      go_wp2
      go_roundw
      case rel => exact HFIN.out
      case measure => simp [intOf]; omega
    · have hltI : ¬ (A : Int) + 20 ≤ (n : Int) := by omega
      have hC := insSort_any g cap A n R wr hI.out.1 hk (by omega) (by omega)
      rw [hl] at hC
      have HL := Lib.hid hl
      clear hl
      go_wp2_with fail
      refine hC.mono ?_
      rintro e wr2 ⟨rfl, R', hR, hT, hS, hc⟩
      have hR1 := (hI.out.2.2.1.step hI.out.2.2.2.1 _ hT (by rwa [Nat.min_eq_right (by omega)])).all (by omega)
      have hfin : ∃ (s : Nat) (R2 : List Ev), 20 ≤ s ∧ s ≤ 2 * n + 20 ∧ Value.int .i64 20 = .int .i64 s ∧ Hid (RowE wr2 g cap R2 ∧ Turn 0 n R0 R2 ∧ RunsFrom R2 n s 0 ∧ Chg (· = g) w wr2) :=
        ⟨20, R', by omega, by omega, rfl, hR, hI.out.2.1.trans (hT.wide (Nat.zero_le _) (Nat.le_refl _)), hR1, hI.out.2.2.2.2.trans hc (fun i h => .inl h)⟩
      have HFIN := Lib.hid hfin
      clear hfin hR hT hS hc hC hI hR1
      go_wp2_with fail
      go_loopw [6] (fun i wr => ∃ (s : Nat) (R2 : List Ev), 20 ≤ s ∧ s ≤ 2 * n + 20 ∧ i = .int .i64 s ∧ Hid (RowE wr g cap R2 ∧ Turn 0 n R0 R2 ∧ RunsFrom R2 n s 0 ∧ Chg (· = g) w wr)) (fun i _ => n - (intOf i).toNat)
      case atStart => exact HFIN.out
      case round =>
        clear HFIN
        obtain ⟨s, R2, hs, hs2, rfl, hJ⟩ := hrel
        by_cases hsn : s < n
        · obtain ⟨d, hd⟩ : ∃ d, d = 2 * s := ⟨_, rfl⟩
          have hdi : 2 * (s : Int) = (d : Int) := by omega
          have hd1 : d ≤ 2000000 := by omega
          have HD := Lib.hid hd
          clear hd
          go_wp2_with fail
          go_loopw [7, 8] (fun i j wr => ∃ (A : Nat) (R : List Ev), A ≤ n ∧ i = .int .i64 A ∧ j = .int .i64 ((A : Int) + d) ∧ Hid (RowE wr g cap R ∧ Turn 0 n R0 R ∧ RunsTo R n (2 * s) A ∧ RunsFrom R n s A ∧ Mul (2 * s) A ∧ Chg (· = g) w wr)) (fun i _ _ => n - (intOf i).toNat)
          case atStart => exact ⟨0, R2, by omega, rfl, by simp, hJ.out.1, hJ.out.2.1, fun p hp hlt => by omega, hJ.out.2.2.1, Mul.zero _, hJ.out.2.2.2⟩
          case round =>
            clear hJ
            obtain ⟨A, R, hk, rfl, rfl, hI⟩ := hrel
            have hl := (hI.out.2.1.len).trans HN.out
            have hdd := HD.out
            have hms := hI.out.2.2.2.2.1.half
            have hS1 := hI.out.2.2.2.1 A hms (Nat.le_refl _)
            by_cases hlt : A + d ≤ n
            · have hltI : (A : Int) + (d : Int) ≤ (n : Int) := by omega
              have hS2 := hI.out.2.2.2.1 (A + s) hms.next (by omega)
              rw [Nat.min_eq_left (by omega)] at hS1 hS2
              rw [show A + s + s = A + d by omega] at hS2
              have hC := symMerge_any g cap A (A + s) (A + d) R wr hI.out.1 (by omega) (by omega) (by omega) (by omega) hS1 hS2
              rw [hl, show ((A + s : Nat) : Int) = (A : Int) + s by omega, show ((A + d : Nat) : Int) = (A : Int) + d by omega] at hC
              have HL := Lib.hid hl
              clear hl hdd hms hS1 hS2
              go_wp2_with fail
              refine hC.mono ?_
              rintro e wr2 ⟨rfl, R', hR, hT, hS, hc⟩
              have hfin : ∃ (A2 : Nat) (R2 : List Ev), A2 ≤ n ∧ Value.int .i64 ((A : Int) + d) = .int .i64 A2 ∧ Value.int .i64 ((A : Int) + d + d) = .int .i64 ((A2 : Int) + d) ∧ Hid (RowE wr2 g cap R2 ∧ Turn 0 n R0 R2 ∧ RunsTo R2 n (2 * s) A2 ∧ RunsFrom R2 n s A2 ∧ Mul (2 * s) A2 ∧ Chg (· = g) w wr2) := by
                refine ⟨A + d, R', hlt, by go_num, by congr 1, hR, hI.out.2.1.trans (hT.wide (Nat.zero_le _) hlt), ?_, hI.out.2.2.2.1.step (by omega) hT, ?_, hI.out.2.2.2.2.2.trans hc (fun i h => .inl h)⟩
                · have := hI.out.2.2.1.step hI.out.2.2.2.2.1 _ hT (by rw [Nat.min_eq_left (by have := HD.out; omega), ← HD.out]; exact hS)
                  rwa [← HD.out] at this ⊢
                · have := hI.out.2.2.2.2.1.next
                  rwa [← HD.out] at this ⊢
              have HFIN := Lib.hid hfin
              clear hfin hR hT hS hc hC hI
              go_wp2
              go_roundw
              case rel => exact HFIN.out
              case measure => have := HD.out; simp [intOf]; omega
            · have hltI : ¬ (A : Int) + (d : Int) ≤ (n : Int) := by omega
              have hd3 : (s : Int) * 2 = (d : Int) := by omega
              by_cases hm : A + s < n
              · have hmI : (A : Int) + (s : Int) < (n : Int) := by omega
                have hS2 := hI.out.2.2.2.1 (A + s) hms.next (by omega)
                rw [Nat.min_eq_left (by omega)] at hS1
                rw [Nat.min_eq_right (by omega)] at hS2
                have hC := symMerge_any g cap A (A + s) n R wr hI.out.1 (by omega) hm (by omega) (by omega) hS1 hS2
                rw [hl, show ((A + s : Nat) : Int) = (A : Int) + s by omega] at hC
                have HL := Lib.hid hl
                clear hl hdd hms hS1 hS2
                go_wp2_with fail
                refine hC.mono ?_
                rintro e wr2 ⟨rfl, R', hR, hT, hS, hc⟩
                have hfin : ∃ (s2 : Nat) (R2 : List Ev), 20 ≤ s2 ∧ s2 ≤ 2 * n + 20 ∧ Value.int .i64 (d : Int) = .int .i64 s2 ∧ Hid (RowE wr2 g cap R2 ∧ Turn 0 n R0 R2 ∧ RunsFrom R2 n s2 0 ∧ Chg (· = g) w wr2) := by
                  refine ⟨d, R', by have := HD.out; omega, by have := HD.out; omega, rfl, hR, hI.out.2.1.trans (hT.wide (Nat.zero_le _) (Nat.le_refl _)), ?_, hI.out.2.2.2.2.2.trans hc (fun i h => .inl h)⟩
                  have := (hI.out.2.2.1.step hI.out.2.2.2.2.1 _ hT (by rw [Nat.min_eq_right (by have := HD.out; omega)]; exact hS)).all (by have := HD.out; omega)
                  rwa [← HD.out] at this
                have HFIN := Lib.hid hfin
                clear hfin hR hT hS hc hC hI
                go_wp2
                go_roundw
                case rel => exact HFIN.out
                case measure => have := HD.out; simp [intOf]; omega
              · have hmI : ¬ (A : Int) + (s : Int) < (n : Int) := by omega
                rw [Nat.min_eq_right (by omega)] at hS1
                have hfin : ∃ (s2 : Nat) (R2 : List Ev), 20 ≤ s2 ∧ s2 ≤ 2 * n + 20 ∧ Value.int .i64 (d : Int) = .int .i64 s2 ∧ Hid (RowE wr g cap R2 ∧ Turn 0 n R0 R2 ∧ RunsFrom R2 n s2 0 ∧ Chg (· = g) w wr) := by
                  refine ⟨d, R, by omega, by omega, rfl, hI.out.1, hI.out.2.1, ?_, hI.out.2.2.2.2.2⟩
                  have := (hI.out.2.2.1.step hI.out.2.2.2.2.1 _ (Turn.refl A n R) (by rw [Nat.min_eq_right (by omega)]; exact hS1)).all (by omega)
                  rwa [← hdd] at this
                have HFIN := Lib.hid hfin
                clear hfin hI hl hdd hms hS1
                go_wp2
                go_roundw
                case rel => exact HFIN.out
                case measure => have := HD.out; simp [intOf]; omega
        · have hres : Seg R2 0 n := by
            have := hJ.out.2.2.1 0 (Mul.zero _) (Nat.le_refl _)
            rwa [Nat.min_eq_right (by omega)] at this
          have HRS := Lib.hid hres
          clear hres
          go_wp2
          exact bodyPost_end (by simp [results, Try.results66, go_sem]) rfl ⟨rfl, R2, hJ.out.1, hJ.out.2.1, HRS.out, hJ.out.2.2.2⟩
end Go.Proofs.Ytmdpbbnieehmnaa
