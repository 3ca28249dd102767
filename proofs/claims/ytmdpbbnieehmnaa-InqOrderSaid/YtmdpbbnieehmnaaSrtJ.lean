/- slices.SortStableFunc at events: symMerge where both stretches are longer (written by gen_srt.py). -/
import Derived.Test.YtmdpbbnieehmnaaSrtK
namespace Go.Proofs.Ytmdpbbnieehmnaa
open Go.RowKit
set_option linter.unusedSimpArgs false
set_option linter.unusedVariables false

set_option maxHeartbeats 40000000 in
set_option maxRecDepth 100000 in
theorem symMerge_recR (g cap n N a m b mid : Nat) (R0 : List Ev) (w : World) (hmm : ¬ mid < m) (hmi : ((a : Int) + (b : Int)) / 2 = (mid : Int)) (IH : SymIH g cap n N) (hN : b - a = N) (h : RowE w g cap R0) (hnn : R0.length = n) (ham : a + 1 < m) (hmb : m + 1 < b) (hb : b ≤ n) (hn : n ≤ 1000000) (hA : Seg R0 a m) (hB : Seg R0 m b) :
    Calls Try.prog 77 #[.slice (some ⟨g, 0, none⟩) n cap, .int .i64 a, .int .i64 m, .int .i64 b, .func (.func 48) #[] #[]] w (SymPost g cap a b R0 w) := by
  have H := Lib.hid h
  have HI := Lib.hid IH
  have HS := Lib.hid (And.intro hA hB)
  have HN := Lib.hid (And.intro hN hnn)
  clear h hnn hA hB IH hN
  have hd0 : (((m : Int) - a) == 1) = false := by simp; omega
  have hd1 : (((b : Int) - m) == 1) = false := by simp; omega
  have m1 : a < mid := by omega
  have m2 : mid < b := by omega
  have m3 : 2 * mid ≤ a + b := by omega
  have m4 : a + b ≤ 2 * mid + 1 := by omega
  obtain ⟨s0, r0, hbd, hse, hre⟩ : ∃ s0 r0 : Nat, SBound a m b mid s0 r0 ∧ s0 = a ∧ r0 = m := ⟨a, m, ⟨by omega, by omega, by omega, by omega, by omega, by omega, by omega⟩, rfl, rfl⟩
  have HBD := Lib.hid hbd
  obtain ⟨b1, b2, b3, b4, b5, _, _⟩ := hbd
  go_enter Try.func77, Try.ntmps77
  go_wp2_with fail
  go_loopw [20, 21] (fun i j wr => ∃ x y : Nat, s0 ≤ x ∧ x ≤ y ∧ y ≤ r0 ∧ i = .int .i64 x ∧ j = .int .i64 y ∧ Hid (SInv R0 m mid s0 r0 x y ∧ RowE wr g cap R0 ∧ Chg Non w wr)) (fun i j _ => (intOf j).toNat - (intOf i).toNat)
  case atStart => exact ⟨s0, r0, Nat.le_refl _, b2, Nat.le_refl _, by first | rfl | (rw [hse]) , by first | rfl | (rw [hre]), ⟨.inl rfl, .inl rfl⟩, H.out, Chg.refl _ _⟩
  case round =>
    obtain ⟨x, y, hx, hxy, hy, rfl, rfl, hI⟩ := hrel
    by_cases hlt : x < y
    · obtain ⟨q, hq⟩ : ∃ q, q = (x + y) / 2 := ⟨_, rfl⟩
      have hqi : ((x : Int) + (y : Int)) / 2 = (q : Int) := by omega
      have q1 : x ≤ q := by omega
      have q2 : q < y := by omega
      have HQ := Lib.hid hq
      clear hq
      obtain ⟨pc, hp⟩ : ∃ pc, pc = mid + m - 1 - q := ⟨_, rfl⟩
      have hpc : ((mid : Int) + (m : Int) - 1 - (q : Int)) = (pc : Int) := by omega
      have p1 : pc < n := by omega
      have HP := Lib.hid hp
      clear hp
      have hwr : IntKind.i64.wrap (pc : Int) = (pc : Int) := by rw [IntKind.wrap_i64]; omega
      obtain ⟨c0, c1, c2, c3, c4, c5, c6⟩ := hI.out.2.1.at_ (i := q) (by have := HN.out; omega)
      obtain ⟨d0, d1, d2, d3, d4, d5, d6⟩ := hI.out.2.1.at_ (i := pc) (by have := HN.out; omega)
      have hF := fun w => sortF1_any (gE R0 pc) (gE R0 q) w
      unfold Ev.val at hF
      have hqn : q < n := by omega
      go_wp2_with fail
      refine still_tail_d 11 (by kernel_rfl) (by kernel_rfl) ?_
      simp only [List.take_succ_cons, List.take_zero, List.drop_succ_cons, List.drop_zero]
      repeat still_step
      refine wpStill_nil ?_
      go_wp2_with fail
      refine (hF _).mono ?_
      rintro e w2 ⟨rfl, hc2⟩
      have hc2' : Chg Non wr w2 := (Chg.refl Non wr).drew.trans hc2 (fun _ x => x.elim)
      have hE2 := hI.out.2.1.non hc2'
      have hcE := hI.out.2.2.trans hc2' (fun _ x => x.elim)
      by_cases hlt3 : cmpK (gE R0 pc) (gE R0 q) < 0
      · have hfin : ∃ x2 y2 : Nat, s0 ≤ x2 ∧ x2 ≤ y2 ∧ y2 ≤ r0 ∧ Value.int .i64 (x : Int) = .int .i64 x2 ∧ Value.int .i64 (q : Int) = .int .i64 y2 ∧ Hid (SInv R0 m mid s0 r0 x2 y2 ∧ RowE w2 g cap R0 ∧ Chg Non w w2) :=
          ⟨x, q, hx, q1, by omega, rfl, rfl, ⟨hI.out.1.1, .inr (by rw [← HP.out]; exact hlt3)⟩, hE2, hcE⟩
        have HFIN := Lib.hid hfin
        generalize cmpK (gE R0 pc) (gE R0 q) = cc at hlt3 ⊢
        clear hfin hE2 hcE hc2' hc2 hI hF c0 c1 c2 c3 c4 c5 c6 d0 d1 d2 d3 d4 d5 d6
        go_wp2
        go_roundw
        case rel => exact HFIN.out
        case measure => simp [intOf]; omega
      · have hfin : ∃ x2 y2 : Nat, s0 ≤ x2 ∧ x2 ≤ y2 ∧ y2 ≤ r0 ∧ Value.int .i64 ((q : Int) + 1) = .int .i64 x2 ∧ Value.int .i64 (y : Int) = .int .i64 y2 ∧ Hid (SInv R0 m mid s0 r0 x2 y2 ∧ RowE w2 g cap R0 ∧ Chg Non w w2) :=
          ⟨q + 1, y, by omega, by omega, hy, by go_num, rfl, ⟨.inr (by rw [show mid + m - (q + 1) = pc by have := HP.out; omega]; exact Int.not_lt.1 hlt3), hI.out.1.2⟩, hE2, hcE⟩
        have HFIN := Lib.hid hfin
        generalize cmpK (gE R0 pc) (gE R0 q) = cc at hlt3 ⊢
        clear hfin hE2 hcE hc2' hc2 hI hF c0 c1 c2 c3 c4 c5 c6 d0 d1 d2 d3 d4 d5 d6
        have hge : 0 ≤ cc := by omega
        have hdec : decide (cc < 0) = false := decide_eq_false hlt3
        go_wp2
        go_roundw
        case rel => exact HFIN.out
        case measure => simp [intOf]; omega
    · obtain rfl : x = y := by omega
      obtain ⟨e, he⟩ : ∃ e, e = mid + m - x := ⟨_, rfl⟩
      have hei : ((mid : Int) + (m : Int) - (x : Int)) = (e : Int) := by omega
      have hst := sym_turn (by rw [HN.out.2]; omega) HS.out.1 HS.out.2 m2 (by omega) (by omega) HBD.out hx hy hI.out.1 e he
      have HE := Lib.hid he
      have e1 : m ≤ e := by omega
      have e2 : mid ≤ e := by omega
      have e3 : e ≤ b := by omega
      have HT := Lib.hid hst
      have hR := hI.out.2.1
      have hC := hI.out.2.2
      clear he hst hI
      have hcase : (x < m ∧ m < e) ∨ (¬ x < m ∧ x = m) ∨ (x < m ∧ ¬ m < e ∧ m = e) := by omega
      rcases hcase with ⟨k1, k2⟩ | ⟨k1, k2⟩ | ⟨k1, k2, k3⟩
      · have hC0 := rotate_any g cap x m e R0 wr hR k1 k2 (by rw [HN.out.2]; omega) (by rw [HN.out.2]; omega) (.func (.func 48) #[] #[])
        rw [HN.out.2] at hC0
        clear hR
        go_wp2_with fail
        refine hC0.mono ?_
        rintro e' wr ⟨rfl, hR, hcr⟩
        replace hC := Chg.trans (S := (· = g)) (hC.mono (fun _ _ x => x.elim)) hcr (fun i h => .inl h)
        clear hcr hC0
        have HT1 := HT.out
        generalize rot R0 x m e = R1 at HT1 hR
        replace HT1 := Lib.hid HT1
        have hc2 : (a < x ∧ x < mid) ∨ (¬ a < x ∧ x = a) ∨ (a < x ∧ ¬ x < mid ∧ x = mid) := by omega
        rcases hc2 with ⟨u1, u2⟩ | ⟨u1, u2⟩ | ⟨u1, u2, u3⟩
        · have hC0 := HI.out a x mid R1 wr (by have := HN.out.1; omega) hR ((HT1.out.1.len).trans HN.out.2) u1 u2 (by omega) HT1.out.2.1 HT1.out.2.2.1
          clear hR
          go_wp2_with fail
          refine hC0.mono ?_
          rintro e' wr ⟨rfl, R2, hR, hT2, hS2, hcr⟩
          replace hC := hC.trans hcr (fun i h => .inl h)
          have HT2 := Lib.hid (And.intro hT2 hS2)
          clear hcr hC0 hT2 hS2
          have hc3 : (mid < e ∧ e < b) ∨ (¬ mid < e ∧ e = mid) ∨ (mid < e ∧ ¬ e < b ∧ e = b) := by omega
          rcases hc3 with ⟨v1, v2⟩ | ⟨v1, v2⟩ | ⟨v1, v2, v3⟩
          · have hC0 := HI.out mid e b R2 wr (by have := HN.out.1; omega) hR ((HT2.out.1.len).trans ((HT1.out.1.len).trans HN.out.2)) v1 v2 hb (HT1.out.2.2.2.1.far HT2.out.1 (.inr (Nat.le_refl _))) (HT1.out.2.2.2.2.1.far HT2.out.1 (.inr (by omega)))
            clear hR
            go_wp2_with fail
            refine hC0.mono ?_
            rintro e' wr ⟨rfl, R3, hR, hT3, hS3, hcr⟩
            replace hC := hC.trans hcr (fun i h => .inl h)
            have HT3 := Lib.hid (And.intro hT3 hS3)
            clear hcr hC0 hT3 hS3
            have hfin : Turn a b R0 R3 ∧ Seg R3 a b := ⟨HT1.out.1.trans ((HT2.out.1.wide (Nat.le_refl _) (by omega)).trans (HT3.out.1.wide (by omega) (Nat.le_refl _))), Seg.join (HT2.out.2.far HT3.out.1 (.inl (Nat.le_refl _))) HT3.out.2 ((HT1.out.2.2.2.2.2.left HT2.out.1).right HT3.out.1)⟩
            have HFF := Lib.hid (And.intro hfin (And.intro hR hC))
            clear hfin hR hC
            go_wp2
            exact bodyPost_end (by simp [results, Try.results77, go_sem]) rfl ⟨rfl, R3, HFF.out.2.1, HFF.out.1.1, HFF.out.1.2, HFF.out.2.2⟩
          · have hS3 : Seg R2 mid b := by have := HT1.out.2.2.2.2.1.far HT2.out.1 (.inr (by omega)); rwa [v2] at this
            have HT3 := Lib.hid (And.intro (Turn.refl mid b R2) hS3)
            clear hS3 v2
            have hfin : Turn a b R0 R2 ∧ Seg R2 a b := ⟨HT1.out.1.trans ((HT2.out.1.wide (Nat.le_refl _) (by omega)).trans (HT3.out.1.wide (by omega) (Nat.le_refl _))), Seg.join (HT2.out.2.far HT3.out.1 (.inl (Nat.le_refl _))) HT3.out.2 ((HT1.out.2.2.2.2.2.left HT2.out.1).right HT3.out.1)⟩
            have HFF := Lib.hid (And.intro hfin (And.intro hR hC))
            clear hfin hR hC
            go_wp2
            exact bodyPost_end (by simp [results, Try.results77, go_sem]) rfl ⟨rfl, R2, HFF.out.2.1, HFF.out.1.1, HFF.out.1.2, HFF.out.2.2⟩
          · have hS3 : Seg R2 mid b := by have := HT1.out.2.2.2.1.far HT2.out.1 (.inr (Nat.le_refl _)); rwa [v3] at this
            have HT3 := Lib.hid (And.intro (Turn.refl mid b R2) hS3)
            clear hS3 v3
            have hfin : Turn a b R0 R2 ∧ Seg R2 a b := ⟨HT1.out.1.trans ((HT2.out.1.wide (Nat.le_refl _) (by omega)).trans (HT3.out.1.wide (by omega) (Nat.le_refl _))), Seg.join (HT2.out.2.far HT3.out.1 (.inl (Nat.le_refl _))) HT3.out.2 ((HT1.out.2.2.2.2.2.left HT2.out.1).right HT3.out.1)⟩
            have HFF := Lib.hid (And.intro hfin (And.intro hR hC))
            clear hfin hR hC
            go_wp2
            exact bodyPost_end (by simp [results, Try.results77, go_sem]) rfl ⟨rfl, R2, HFF.out.2.1, HFF.out.1.1, HFF.out.1.2, HFF.out.2.2⟩
        · have hS2 : Seg R1 a mid := by have := HT1.out.2.2.1; rwa [u2] at this
          have HT2 := Lib.hid (And.intro (Turn.refl a mid R1) hS2)
          clear hS2 u2
          have hc3 : (mid < e ∧ e < b) ∨ (¬ mid < e ∧ e = mid) ∨ (mid < e ∧ ¬ e < b ∧ e = b) := by omega
          rcases hc3 with ⟨v1, v2⟩ | ⟨v1, v2⟩ | ⟨v1, v2, v3⟩
          · have hC0 := HI.out mid e b R1 wr (by have := HN.out.1; omega) hR ((HT2.out.1.len).trans ((HT1.out.1.len).trans HN.out.2)) v1 v2 hb (HT1.out.2.2.2.1.far HT2.out.1 (.inr (Nat.le_refl _))) (HT1.out.2.2.2.2.1.far HT2.out.1 (.inr (by omega)))
            clear hR
            go_wp2_with fail
            refine hC0.mono ?_
            rintro e' wr ⟨rfl, R3, hR, hT3, hS3, hcr⟩
            replace hC := hC.trans hcr (fun i h => .inl h)
            have HT3 := Lib.hid (And.intro hT3 hS3)
            clear hcr hC0 hT3 hS3
            have hfin : Turn a b R0 R3 ∧ Seg R3 a b := ⟨HT1.out.1.trans ((HT2.out.1.wide (Nat.le_refl _) (by omega)).trans (HT3.out.1.wide (by omega) (Nat.le_refl _))), Seg.join (HT2.out.2.far HT3.out.1 (.inl (Nat.le_refl _))) HT3.out.2 ((HT1.out.2.2.2.2.2.left HT2.out.1).right HT3.out.1)⟩
            have HFF := Lib.hid (And.intro hfin (And.intro hR hC))
            clear hfin hR hC
            go_wp2
            exact bodyPost_end (by simp [results, Try.results77, go_sem]) rfl ⟨rfl, R3, HFF.out.2.1, HFF.out.1.1, HFF.out.1.2, HFF.out.2.2⟩
          · have hS3 : Seg R1 mid b := by have := HT1.out.2.2.2.2.1.far HT2.out.1 (.inr (by omega)); rwa [v2] at this
            have HT3 := Lib.hid (And.intro (Turn.refl mid b R1) hS3)
            clear hS3 v2
            have hfin : Turn a b R0 R1 ∧ Seg R1 a b := ⟨HT1.out.1.trans ((HT2.out.1.wide (Nat.le_refl _) (by omega)).trans (HT3.out.1.wide (by omega) (Nat.le_refl _))), Seg.join (HT2.out.2.far HT3.out.1 (.inl (Nat.le_refl _))) HT3.out.2 ((HT1.out.2.2.2.2.2.left HT2.out.1).right HT3.out.1)⟩
            have HFF := Lib.hid (And.intro hfin (And.intro hR hC))
            clear hfin hR hC
            go_wp2
            exact bodyPost_end (by simp [results, Try.results77, go_sem]) rfl ⟨rfl, R1, HFF.out.2.1, HFF.out.1.1, HFF.out.1.2, HFF.out.2.2⟩
          · have hS3 : Seg R1 mid b := by have := HT1.out.2.2.2.1.far HT2.out.1 (.inr (Nat.le_refl _)); rwa [v3] at this
            have HT3 := Lib.hid (And.intro (Turn.refl mid b R1) hS3)
            clear hS3 v3
            have hfin : Turn a b R0 R1 ∧ Seg R1 a b := ⟨HT1.out.1.trans ((HT2.out.1.wide (Nat.le_refl _) (by omega)).trans (HT3.out.1.wide (by omega) (Nat.le_refl _))), Seg.join (HT2.out.2.far HT3.out.1 (.inl (Nat.le_refl _))) HT3.out.2 ((HT1.out.2.2.2.2.2.left HT2.out.1).right HT3.out.1)⟩
            have HFF := Lib.hid (And.intro hfin (And.intro hR hC))
            clear hfin hR hC
            go_wp2
            exact bodyPost_end (by simp [results, Try.results77, go_sem]) rfl ⟨rfl, R1, HFF.out.2.1, HFF.out.1.1, HFF.out.1.2, HFF.out.2.2⟩
        · have hS2 : Seg R1 a mid := by have := HT1.out.2.1; rwa [u3] at this
          have HT2 := Lib.hid (And.intro (Turn.refl a mid R1) hS2)
          clear hS2 u3
          have hc3 : (mid < e ∧ e < b) ∨ (¬ mid < e ∧ e = mid) ∨ (mid < e ∧ ¬ e < b ∧ e = b) := by omega
          rcases hc3 with ⟨v1, v2⟩ | ⟨v1, v2⟩ | ⟨v1, v2, v3⟩
          · have hC0 := HI.out mid e b R1 wr (by have := HN.out.1; omega) hR ((HT2.out.1.len).trans ((HT1.out.1.len).trans HN.out.2)) v1 v2 hb (HT1.out.2.2.2.1.far HT2.out.1 (.inr (Nat.le_refl _))) (HT1.out.2.2.2.2.1.far HT2.out.1 (.inr (by omega)))
            clear hR
            go_wp2_with fail
            refine hC0.mono ?_
            rintro e' wr ⟨rfl, R3, hR, hT3, hS3, hcr⟩
            replace hC := hC.trans hcr (fun i h => .inl h)
            have HT3 := Lib.hid (And.intro hT3 hS3)
            clear hcr hC0 hT3 hS3
            have hfin : Turn a b R0 R3 ∧ Seg R3 a b := ⟨HT1.out.1.trans ((HT2.out.1.wide (Nat.le_refl _) (by omega)).trans (HT3.out.1.wide (by omega) (Nat.le_refl _))), Seg.join (HT2.out.2.far HT3.out.1 (.inl (Nat.le_refl _))) HT3.out.2 ((HT1.out.2.2.2.2.2.left HT2.out.1).right HT3.out.1)⟩
            have HFF := Lib.hid (And.intro hfin (And.intro hR hC))
            clear hfin hR hC
            go_wp2
            exact bodyPost_end (by simp [results, Try.results77, go_sem]) rfl ⟨rfl, R3, HFF.out.2.1, HFF.out.1.1, HFF.out.1.2, HFF.out.2.2⟩
          · have hS3 : Seg R1 mid b := by have := HT1.out.2.2.2.2.1.far HT2.out.1 (.inr (by omega)); rwa [v2] at this
            have HT3 := Lib.hid (And.intro (Turn.refl mid b R1) hS3)
            clear hS3 v2
            have hfin : Turn a b R0 R1 ∧ Seg R1 a b := ⟨HT1.out.1.trans ((HT2.out.1.wide (Nat.le_refl _) (by omega)).trans (HT3.out.1.wide (by omega) (Nat.le_refl _))), Seg.join (HT2.out.2.far HT3.out.1 (.inl (Nat.le_refl _))) HT3.out.2 ((HT1.out.2.2.2.2.2.left HT2.out.1).right HT3.out.1)⟩
            have HFF := Lib.hid (And.intro hfin (And.intro hR hC))
            clear hfin hR hC
            go_wp2
            exact bodyPost_end (by simp [results, Try.results77, go_sem]) rfl ⟨rfl, R1, HFF.out.2.1, HFF.out.1.1, HFF.out.1.2, HFF.out.2.2⟩
          · have hS3 : Seg R1 mid b := by have := HT1.out.2.2.2.1.far HT2.out.1 (.inr (Nat.le_refl _)); rwa [v3] at this
            have HT3 := Lib.hid (And.intro (Turn.refl mid b R1) hS3)
            clear hS3 v3
            have hfin : Turn a b R0 R1 ∧ Seg R1 a b := ⟨HT1.out.1.trans ((HT2.out.1.wide (Nat.le_refl _) (by omega)).trans (HT3.out.1.wide (by omega) (Nat.le_refl _))), Seg.join (HT2.out.2.far HT3.out.1 (.inl (Nat.le_refl _))) HT3.out.2 ((HT1.out.2.2.2.2.2.left HT2.out.1).right HT3.out.1)⟩
            have HFF := Lib.hid (And.intro hfin (And.intro hR hC))
            clear hfin hR hC
            go_wp2
            exact bodyPost_end (by simp [results, Try.results77, go_sem]) rfl ⟨rfl, R1, HFF.out.2.1, HFF.out.1.1, HFF.out.1.2, HFF.out.2.2⟩
      · replace hR : RowE wr g cap (rot R0 x m e) := by rw [rot_id (by omega) (by omega) (.inl k2)]; exact hR
        replace hC := Chg.mono (S1 := (· = g)) hC (fun _ _ x => x.elim)
        clear k2
        have HT1 := HT.out
        generalize rot R0 x m e = R1 at HT1 hR
        replace HT1 := Lib.hid HT1
        have hc2 : (a < x ∧ x < mid) ∨ (¬ a < x ∧ x = a) ∨ (a < x ∧ ¬ x < mid ∧ x = mid) := by omega
        rcases hc2 with ⟨u1, u2⟩ | ⟨u1, u2⟩ | ⟨u1, u2, u3⟩
        · have hC0 := HI.out a x mid R1 wr (by have := HN.out.1; omega) hR ((HT1.out.1.len).trans HN.out.2) u1 u2 (by omega) HT1.out.2.1 HT1.out.2.2.1
          clear hR
          go_wp2_with fail
          refine hC0.mono ?_
          rintro e' wr ⟨rfl, R2, hR, hT2, hS2, hcr⟩
          replace hC := hC.trans hcr (fun i h => .inl h)
          have HT2 := Lib.hid (And.intro hT2 hS2)
          clear hcr hC0 hT2 hS2
          have hc3 : (mid < e ∧ e < b) ∨ (¬ mid < e ∧ e = mid) ∨ (mid < e ∧ ¬ e < b ∧ e = b) := by omega
          rcases hc3 with ⟨v1, v2⟩ | ⟨v1, v2⟩ | ⟨v1, v2, v3⟩
          · have hC0 := HI.out mid e b R2 wr (by have := HN.out.1; omega) hR ((HT2.out.1.len).trans ((HT1.out.1.len).trans HN.out.2)) v1 v2 hb (HT1.out.2.2.2.1.far HT2.out.1 (.inr (Nat.le_refl _))) (HT1.out.2.2.2.2.1.far HT2.out.1 (.inr (by omega)))
            clear hR
            go_wp2_with fail
            refine hC0.mono ?_
            rintro e' wr ⟨rfl, R3, hR, hT3, hS3, hcr⟩
            replace hC := hC.trans hcr (fun i h => .inl h)
            have HT3 := Lib.hid (And.intro hT3 hS3)
            clear hcr hC0 hT3 hS3
            have hfin : Turn a b R0 R3 ∧ Seg R3 a b := ⟨HT1.out.1.trans ((HT2.out.1.wide (Nat.le_refl _) (by omega)).trans (HT3.out.1.wide (by omega) (Nat.le_refl _))), Seg.join (HT2.out.2.far HT3.out.1 (.inl (Nat.le_refl _))) HT3.out.2 ((HT1.out.2.2.2.2.2.left HT2.out.1).right HT3.out.1)⟩
            have HFF := Lib.hid (And.intro hfin (And.intro hR hC))
            clear hfin hR hC
            go_wp2
            exact bodyPost_end (by simp [results, Try.results77, go_sem]) rfl ⟨rfl, R3, HFF.out.2.1, HFF.out.1.1, HFF.out.1.2, HFF.out.2.2⟩
          · have hS3 : Seg R2 mid b := by have := HT1.out.2.2.2.2.1.far HT2.out.1 (.inr (by omega)); rwa [v2] at this
            have HT3 := Lib.hid (And.intro (Turn.refl mid b R2) hS3)
            clear hS3 v2
            have hfin : Turn a b R0 R2 ∧ Seg R2 a b := ⟨HT1.out.1.trans ((HT2.out.1.wide (Nat.le_refl _) (by omega)).trans (HT3.out.1.wide (by omega) (Nat.le_refl _))), Seg.join (HT2.out.2.far HT3.out.1 (.inl (Nat.le_refl _))) HT3.out.2 ((HT1.out.2.2.2.2.2.left HT2.out.1).right HT3.out.1)⟩
            have HFF := Lib.hid (And.intro hfin (And.intro hR hC))
            clear hfin hR hC
            go_wp2
            exact bodyPost_end (by simp [results, Try.results77, go_sem]) rfl ⟨rfl, R2, HFF.out.2.1, HFF.out.1.1, HFF.out.1.2, HFF.out.2.2⟩
          · have hS3 : Seg R2 mid b := by have := HT1.out.2.2.2.1.far HT2.out.1 (.inr (Nat.le_refl _)); rwa [v3] at this
            have HT3 := Lib.hid (And.intro (Turn.refl mid b R2) hS3)
            clear hS3 v3
            have hfin : Turn a b R0 R2 ∧ Seg R2 a b := ⟨HT1.out.1.trans ((HT2.out.1.wide (Nat.le_refl _) (by omega)).trans (HT3.out.1.wide (by omega) (Nat.le_refl _))), Seg.join (HT2.out.2.far HT3.out.1 (.inl (Nat.le_refl _))) HT3.out.2 ((HT1.out.2.2.2.2.2.left HT2.out.1).right HT3.out.1)⟩
            have HFF := Lib.hid (And.intro hfin (And.intro hR hC))
            clear hfin hR hC
            go_wp2
            exact bodyPost_end (by simp [results, Try.results77, go_sem]) rfl ⟨rfl, R2, HFF.out.2.1, HFF.out.1.1, HFF.out.1.2, HFF.out.2.2⟩
        · have hS2 : Seg R1 a mid := by have := HT1.out.2.2.1; rwa [u2] at this
          have HT2 := Lib.hid (And.intro (Turn.refl a mid R1) hS2)
          clear hS2 u2
          have hc3 : (mid < e ∧ e < b) ∨ (¬ mid < e ∧ e = mid) ∨ (mid < e ∧ ¬ e < b ∧ e = b) := by omega
          rcases hc3 with ⟨v1, v2⟩ | ⟨v1, v2⟩ | ⟨v1, v2, v3⟩
          · have hC0 := HI.out mid e b R1 wr (by have := HN.out.1; omega) hR ((HT2.out.1.len).trans ((HT1.out.1.len).trans HN.out.2)) v1 v2 hb (HT1.out.2.2.2.1.far HT2.out.1 (.inr (Nat.le_refl _))) (HT1.out.2.2.2.2.1.far HT2.out.1 (.inr (by omega)))
            clear hR
            go_wp2_with fail
            refine hC0.mono ?_
            rintro e' wr ⟨rfl, R3, hR, hT3, hS3, hcr⟩
            replace hC := hC.trans hcr (fun i h => .inl h)
            have HT3 := Lib.hid (And.intro hT3 hS3)
            clear hcr hC0 hT3 hS3
            have hfin : Turn a b R0 R3 ∧ Seg R3 a b := ⟨HT1.out.1.trans ((HT2.out.1.wide (Nat.le_refl _) (by omega)).trans (HT3.out.1.wide (by omega) (Nat.le_refl _))), Seg.join (HT2.out.2.far HT3.out.1 (.inl (Nat.le_refl _))) HT3.out.2 ((HT1.out.2.2.2.2.2.left HT2.out.1).right HT3.out.1)⟩
            have HFF := Lib.hid (And.intro hfin (And.intro hR hC))
            clear hfin hR hC
            go_wp2
            exact bodyPost_end (by simp [results, Try.results77, go_sem]) rfl ⟨rfl, R3, HFF.out.2.1, HFF.out.1.1, HFF.out.1.2, HFF.out.2.2⟩
          · have hS3 : Seg R1 mid b := by have := HT1.out.2.2.2.2.1.far HT2.out.1 (.inr (by omega)); rwa [v2] at this
            have HT3 := Lib.hid (And.intro (Turn.refl mid b R1) hS3)
            clear hS3 v2
            have hfin : Turn a b R0 R1 ∧ Seg R1 a b := ⟨HT1.out.1.trans ((HT2.out.1.wide (Nat.le_refl _) (by omega)).trans (HT3.out.1.wide (by omega) (Nat.le_refl _))), Seg.join (HT2.out.2.far HT3.out.1 (.inl (Nat.le_refl _))) HT3.out.2 ((HT1.out.2.2.2.2.2.left HT2.out.1).right HT3.out.1)⟩
            have HFF := Lib.hid (And.intro hfin (And.intro hR hC))
            clear hfin hR hC
            go_wp2
            exact bodyPost_end (by simp [results, Try.results77, go_sem]) rfl ⟨rfl, R1, HFF.out.2.1, HFF.out.1.1, HFF.out.1.2, HFF.out.2.2⟩
          · have hS3 : Seg R1 mid b := by have := HT1.out.2.2.2.1.far HT2.out.1 (.inr (Nat.le_refl _)); rwa [v3] at this
            have HT3 := Lib.hid (And.intro (Turn.refl mid b R1) hS3)
            clear hS3 v3
            have hfin : Turn a b R0 R1 ∧ Seg R1 a b := ⟨HT1.out.1.trans ((HT2.out.1.wide (Nat.le_refl _) (by omega)).trans (HT3.out.1.wide (by omega) (Nat.le_refl _))), Seg.join (HT2.out.2.far HT3.out.1 (.inl (Nat.le_refl _))) HT3.out.2 ((HT1.out.2.2.2.2.2.left HT2.out.1).right HT3.out.1)⟩
            have HFF := Lib.hid (And.intro hfin (And.intro hR hC))
            clear hfin hR hC
            go_wp2
            exact bodyPost_end (by simp [results, Try.results77, go_sem]) rfl ⟨rfl, R1, HFF.out.2.1, HFF.out.1.1, HFF.out.1.2, HFF.out.2.2⟩
        · have hS2 : Seg R1 a mid := by have := HT1.out.2.1; rwa [u3] at this
          have HT2 := Lib.hid (And.intro (Turn.refl a mid R1) hS2)
          clear hS2 u3
          have hc3 : (mid < e ∧ e < b) ∨ (¬ mid < e ∧ e = mid) ∨ (mid < e ∧ ¬ e < b ∧ e = b) := by omega
          rcases hc3 with ⟨v1, v2⟩ | ⟨v1, v2⟩ | ⟨v1, v2, v3⟩
          · have hC0 := HI.out mid e b R1 wr (by have := HN.out.1; omega) hR ((HT2.out.1.len).trans ((HT1.out.1.len).trans HN.out.2)) v1 v2 hb (HT1.out.2.2.2.1.far HT2.out.1 (.inr (Nat.le_refl _))) (HT1.out.2.2.2.2.1.far HT2.out.1 (.inr (by omega)))
            clear hR
            go_wp2_with fail
            refine hC0.mono ?_
            rintro e' wr ⟨rfl, R3, hR, hT3, hS3, hcr⟩
            replace hC := hC.trans hcr (fun i h => .inl h)
            have HT3 := Lib.hid (And.intro hT3 hS3)
            clear hcr hC0 hT3 hS3
            have hfin : Turn a b R0 R3 ∧ Seg R3 a b := ⟨HT1.out.1.trans ((HT2.out.1.wide (Nat.le_refl _) (by omega)).trans (HT3.out.1.wide (by omega) (Nat.le_refl _))), Seg.join (HT2.out.2.far HT3.out.1 (.inl (Nat.le_refl _))) HT3.out.2 ((HT1.out.2.2.2.2.2.left HT2.out.1).right HT3.out.1)⟩
            have HFF := Lib.hid (And.intro hfin (And.intro hR hC))
            clear hfin hR hC
            go_wp2
            exact bodyPost_end (by simp [results, Try.results77, go_sem]) rfl ⟨rfl, R3, HFF.out.2.1, HFF.out.1.1, HFF.out.1.2, HFF.out.2.2⟩
          · have hS3 : Seg R1 mid b := by have := HT1.out.2.2.2.2.1.far HT2.out.1 (.inr (by omega)); rwa [v2] at this
            have HT3 := Lib.hid (And.intro (Turn.refl mid b R1) hS3)
            clear hS3 v2
            have hfin : Turn a b R0 R1 ∧ Seg R1 a b := ⟨HT1.out.1.trans ((HT2.out.1.wide (Nat.le_refl _) (by omega)).trans (HT3.out.1.wide (by omega) (Nat.le_refl _))), Seg.join (HT2.out.2.far HT3.out.1 (.inl (Nat.le_refl _))) HT3.out.2 ((HT1.out.2.2.2.2.2.left HT2.out.1).right HT3.out.1)⟩
            have HFF := Lib.hid (And.intro hfin (And.intro hR hC))
            clear hfin hR hC
            go_wp2
            exact bodyPost_end (by simp [results, Try.results77, go_sem]) rfl ⟨rfl, R1, HFF.out.2.1, HFF.out.1.1, HFF.out.1.2, HFF.out.2.2⟩
          · have hS3 : Seg R1 mid b := by have := HT1.out.2.2.2.1.far HT2.out.1 (.inr (Nat.le_refl _)); rwa [v3] at this
            have HT3 := Lib.hid (And.intro (Turn.refl mid b R1) hS3)
            clear hS3 v3
            have hfin : Turn a b R0 R1 ∧ Seg R1 a b := ⟨HT1.out.1.trans ((HT2.out.1.wide (Nat.le_refl _) (by omega)).trans (HT3.out.1.wide (by omega) (Nat.le_refl _))), Seg.join (HT2.out.2.far HT3.out.1 (.inl (Nat.le_refl _))) HT3.out.2 ((HT1.out.2.2.2.2.2.left HT2.out.1).right HT3.out.1)⟩
            have HFF := Lib.hid (And.intro hfin (And.intro hR hC))
            clear hfin hR hC
            go_wp2
            exact bodyPost_end (by simp [results, Try.results77, go_sem]) rfl ⟨rfl, R1, HFF.out.2.1, HFF.out.1.1, HFF.out.1.2, HFF.out.2.2⟩
      · replace hR : RowE wr g cap (rot R0 x m e) := by rw [rot_id (by omega) (by omega) (.inr k3)]; exact hR
        replace hC := Chg.mono (S1 := (· = g)) hC (fun _ _ x => x.elim)
        clear k3
        have HT1 := HT.out
        generalize rot R0 x m e = R1 at HT1 hR
        replace HT1 := Lib.hid HT1
        have hc2 : (a < x ∧ x < mid) ∨ (¬ a < x ∧ x = a) ∨ (a < x ∧ ¬ x < mid ∧ x = mid) := by omega
        rcases hc2 with ⟨u1, u2⟩ | ⟨u1, u2⟩ | ⟨u1, u2, u3⟩
        · have hC0 := HI.out a x mid R1 wr (by have := HN.out.1; omega) hR ((HT1.out.1.len).trans HN.out.2) u1 u2 (by omega) HT1.out.2.1 HT1.out.2.2.1
          clear hR
          go_wp2_with fail
          refine hC0.mono ?_
          rintro e' wr ⟨rfl, R2, hR, hT2, hS2, hcr⟩
          replace hC := hC.trans hcr (fun i h => .inl h)
          have HT2 := Lib.hid (And.intro hT2 hS2)
          clear hcr hC0 hT2 hS2
          have hc3 : (mid < e ∧ e < b) ∨ (¬ mid < e ∧ e = mid) ∨ (mid < e ∧ ¬ e < b ∧ e = b) := by omega
          rcases hc3 with ⟨v1, v2⟩ | ⟨v1, v2⟩ | ⟨v1, v2, v3⟩
          · have hC0 := HI.out mid e b R2 wr (by have := HN.out.1; omega) hR ((HT2.out.1.len).trans ((HT1.out.1.len).trans HN.out.2)) v1 v2 hb (HT1.out.2.2.2.1.far HT2.out.1 (.inr (Nat.le_refl _))) (HT1.out.2.2.2.2.1.far HT2.out.1 (.inr (by omega)))
            clear hR
            go_wp2_with fail
            refine hC0.mono ?_
            rintro e' wr ⟨rfl, R3, hR, hT3, hS3, hcr⟩
            replace hC := hC.trans hcr (fun i h => .inl h)
            have HT3 := Lib.hid (And.intro hT3 hS3)
            clear hcr hC0 hT3 hS3
            have hfin : Turn a b R0 R3 ∧ Seg R3 a b := ⟨HT1.out.1.trans ((HT2.out.1.wide (Nat.le_refl _) (by omega)).trans (HT3.out.1.wide (by omega) (Nat.le_refl _))), Seg.join (HT2.out.2.far HT3.out.1 (.inl (Nat.le_refl _))) HT3.out.2 ((HT1.out.2.2.2.2.2.left HT2.out.1).right HT3.out.1)⟩
            have HFF := Lib.hid (And.intro hfin (And.intro hR hC))
            clear hfin hR hC
            go_wp2
            exact bodyPost_end (by simp [results, Try.results77, go_sem]) rfl ⟨rfl, R3, HFF.out.2.1, HFF.out.1.1, HFF.out.1.2, HFF.out.2.2⟩
          · have hS3 : Seg R2 mid b := by have := HT1.out.2.2.2.2.1.far HT2.out.1 (.inr (by omega)); rwa [v2] at this
            have HT3 := Lib.hid (And.intro (Turn.refl mid b R2) hS3)
            clear hS3 v2
            have hfin : Turn a b R0 R2 ∧ Seg R2 a b := ⟨HT1.out.1.trans ((HT2.out.1.wide (Nat.le_refl _) (by omega)).trans (HT3.out.1.wide (by omega) (Nat.le_refl _))), Seg.join (HT2.out.2.far HT3.out.1 (.inl (Nat.le_refl _))) HT3.out.2 ((HT1.out.2.2.2.2.2.left HT2.out.1).right HT3.out.1)⟩
            have HFF := Lib.hid (And.intro hfin (And.intro hR hC))
            clear hfin hR hC
            go_wp2
            exact bodyPost_end (by simp [results, Try.results77, go_sem]) rfl ⟨rfl, R2, HFF.out.2.1, HFF.out.1.1, HFF.out.1.2, HFF.out.2.2⟩
          · have hS3 : Seg R2 mid b := by have := HT1.out.2.2.2.1.far HT2.out.1 (.inr (Nat.le_refl _)); rwa [v3] at this
            have HT3 := Lib.hid (And.intro (Turn.refl mid b R2) hS3)
            clear hS3 v3
            have hfin : Turn a b R0 R2 ∧ Seg R2 a b := ⟨HT1.out.1.trans ((HT2.out.1.wide (Nat.le_refl _) (by omega)).trans (HT3.out.1.wide (by omega) (Nat.le_refl _))), Seg.join (HT2.out.2.far HT3.out.1 (.inl (Nat.le_refl _))) HT3.out.2 ((HT1.out.2.2.2.2.2.left HT2.out.1).right HT3.out.1)⟩
            have HFF := Lib.hid (And.intro hfin (And.intro hR hC))
            clear hfin hR hC
            go_wp2
            exact bodyPost_end (by simp [results, Try.results77, go_sem]) rfl ⟨rfl, R2, HFF.out.2.1, HFF.out.1.1, HFF.out.1.2, HFF.out.2.2⟩
        · have hS2 : Seg R1 a mid := by have := HT1.out.2.2.1; rwa [u2] at this
          have HT2 := Lib.hid (And.intro (Turn.refl a mid R1) hS2)
          clear hS2 u2
          have hc3 : (mid < e ∧ e < b) ∨ (¬ mid < e ∧ e = mid) ∨ (mid < e ∧ ¬ e < b ∧ e = b) := by omega
          rcases hc3 with ⟨v1, v2⟩ | ⟨v1, v2⟩ | ⟨v1, v2, v3⟩
          · have hC0 := HI.out mid e b R1 wr (by have := HN.out.1; omega) hR ((HT2.out.1.len).trans ((HT1.out.1.len).trans HN.out.2)) v1 v2 hb (HT1.out.2.2.2.1.far HT2.out.1 (.inr (Nat.le_refl _))) (HT1.out.2.2.2.2.1.far HT2.out.1 (.inr (by omega)))
            clear hR
            go_wp2_with fail
            refine hC0.mono ?_
            rintro e' wr ⟨rfl, R3, hR, hT3, hS3, hcr⟩
            replace hC := hC.trans hcr (fun i h => .inl h)
            have HT3 := Lib.hid (And.intro hT3 hS3)
            clear hcr hC0 hT3 hS3
            have hfin : Turn a b R0 R3 ∧ Seg R3 a b := ⟨HT1.out.1.trans ((HT2.out.1.wide (Nat.le_refl _) (by omega)).trans (HT3.out.1.wide (by omega) (Nat.le_refl _))), Seg.join (HT2.out.2.far HT3.out.1 (.inl (Nat.le_refl _))) HT3.out.2 ((HT1.out.2.2.2.2.2.left HT2.out.1).right HT3.out.1)⟩
            have HFF := Lib.hid (And.intro hfin (And.intro hR hC))
            clear hfin hR hC
            go_wp2
            exact bodyPost_end (by simp [results, Try.results77, go_sem]) rfl ⟨rfl, R3, HFF.out.2.1, HFF.out.1.1, HFF.out.1.2, HFF.out.2.2⟩
          · have hS3 : Seg R1 mid b := by have := HT1.out.2.2.2.2.1.far HT2.out.1 (.inr (by omega)); rwa [v2] at this
            have HT3 := Lib.hid (And.intro (Turn.refl mid b R1) hS3)
            clear hS3 v2
            have hfin : Turn a b R0 R1 ∧ Seg R1 a b := ⟨HT1.out.1.trans ((HT2.out.1.wide (Nat.le_refl _) (by omega)).trans (HT3.out.1.wide (by omega) (Nat.le_refl _))), Seg.join (HT2.out.2.far HT3.out.1 (.inl (Nat.le_refl _))) HT3.out.2 ((HT1.out.2.2.2.2.2.left HT2.out.1).right HT3.out.1)⟩
            have HFF := Lib.hid (And.intro hfin (And.intro hR hC))
            clear hfin hR hC
            go_wp2
            exact bodyPost_end (by simp [results, Try.results77, go_sem]) rfl ⟨rfl, R1, HFF.out.2.1, HFF.out.1.1, HFF.out.1.2, HFF.out.2.2⟩
          · have hS3 : Seg R1 mid b := by have := HT1.out.2.2.2.1.far HT2.out.1 (.inr (Nat.le_refl _)); rwa [v3] at this
            have HT3 := Lib.hid (And.intro (Turn.refl mid b R1) hS3)
            clear hS3 v3
            have hfin : Turn a b R0 R1 ∧ Seg R1 a b := ⟨HT1.out.1.trans ((HT2.out.1.wide (Nat.le_refl _) (by omega)).trans (HT3.out.1.wide (by omega) (Nat.le_refl _))), Seg.join (HT2.out.2.far HT3.out.1 (.inl (Nat.le_refl _))) HT3.out.2 ((HT1.out.2.2.2.2.2.left HT2.out.1).right HT3.out.1)⟩
            have HFF := Lib.hid (And.intro hfin (And.intro hR hC))
            clear hfin hR hC
            go_wp2
            exact bodyPost_end (by simp [results, Try.results77, go_sem]) rfl ⟨rfl, R1, HFF.out.2.1, HFF.out.1.1, HFF.out.1.2, HFF.out.2.2⟩
        · have hS2 : Seg R1 a mid := by have := HT1.out.2.1; rwa [u3] at this
          have HT2 := Lib.hid (And.intro (Turn.refl a mid R1) hS2)
          clear hS2 u3
          have hc3 : (mid < e ∧ e < b) ∨ (¬ mid < e ∧ e = mid) ∨ (mid < e ∧ ¬ e < b ∧ e = b) := by omega
          rcases hc3 with ⟨v1, v2⟩ | ⟨v1, v2⟩ | ⟨v1, v2, v3⟩
          · have hC0 := HI.out mid e b R1 wr (by have := HN.out.1; omega) hR ((HT2.out.1.len).trans ((HT1.out.1.len).trans HN.out.2)) v1 v2 hb (HT1.out.2.2.2.1.far HT2.out.1 (.inr (Nat.le_refl _))) (HT1.out.2.2.2.2.1.far HT2.out.1 (.inr (by omega)))
            clear hR
            go_wp2_with fail
            refine hC0.mono ?_
            rintro e' wr ⟨rfl, R3, hR, hT3, hS3, hcr⟩
            replace hC := hC.trans hcr (fun i h => .inl h)
            have HT3 := Lib.hid (And.intro hT3 hS3)
            clear hcr hC0 hT3 hS3
            have hfin : Turn a b R0 R3 ∧ Seg R3 a b := ⟨HT1.out.1.trans ((HT2.out.1.wide (Nat.le_refl _) (by omega)).trans (HT3.out.1.wide (by omega) (Nat.le_refl _))), Seg.join (HT2.out.2.far HT3.out.1 (.inl (Nat.le_refl _))) HT3.out.2 ((HT1.out.2.2.2.2.2.left HT2.out.1).right HT3.out.1)⟩
            have HFF := Lib.hid (And.intro hfin (And.intro hR hC))
            clear hfin hR hC
            go_wp2
            exact bodyPost_end (by simp [results, Try.results77, go_sem]) rfl ⟨rfl, R3, HFF.out.2.1, HFF.out.1.1, HFF.out.1.2, HFF.out.2.2⟩
          · have hS3 : Seg R1 mid b := by have := HT1.out.2.2.2.2.1.far HT2.out.1 (.inr (by omega)); rwa [v2] at this
            have HT3 := Lib.hid (And.intro (Turn.refl mid b R1) hS3)
            clear hS3 v2
            have hfin : Turn a b R0 R1 ∧ Seg R1 a b := ⟨HT1.out.1.trans ((HT2.out.1.wide (Nat.le_refl _) (by omega)).trans (HT3.out.1.wide (by omega) (Nat.le_refl _))), Seg.join (HT2.out.2.far HT3.out.1 (.inl (Nat.le_refl _))) HT3.out.2 ((HT1.out.2.2.2.2.2.left HT2.out.1).right HT3.out.1)⟩
            have HFF := Lib.hid (And.intro hfin (And.intro hR hC))
            clear hfin hR hC
            go_wp2
            exact bodyPost_end (by simp [results, Try.results77, go_sem]) rfl ⟨rfl, R1, HFF.out.2.1, HFF.out.1.1, HFF.out.1.2, HFF.out.2.2⟩
          · have hS3 : Seg R1 mid b := by have := HT1.out.2.2.2.1.far HT2.out.1 (.inr (Nat.le_refl _)); rwa [v3] at this
            have HT3 := Lib.hid (And.intro (Turn.refl mid b R1) hS3)
            clear hS3 v3
            have hfin : Turn a b R0 R1 ∧ Seg R1 a b := ⟨HT1.out.1.trans ((HT2.out.1.wide (Nat.le_refl _) (by omega)).trans (HT3.out.1.wide (by omega) (Nat.le_refl _))), Seg.join (HT2.out.2.far HT3.out.1 (.inl (Nat.le_refl _))) HT3.out.2 ((HT1.out.2.2.2.2.2.left HT2.out.1).right HT3.out.1)⟩
            have HFF := Lib.hid (And.intro hfin (And.intro hR hC))
            clear hfin hR hC
            go_wp2
            exact bodyPost_end (by simp [results, Try.results77, go_sem]) rfl ⟨rfl, R1, HFF.out.2.1, HFF.out.1.1, HFF.out.1.2, HFF.out.2.2⟩
end Go.Proofs.Ytmdpbbnieehmnaa
