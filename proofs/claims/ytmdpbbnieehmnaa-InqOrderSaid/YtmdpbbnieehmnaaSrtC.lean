/- slices.SortStableFunc at events: the insertion sort. -/
import Derived.Test.YtmdpbbnieehmnaaSrtB
namespace Go.Proofs.Ytmdpbbnieehmnaa
open Go.RowKit
set_option linter.unusedSimpArgs false
set_option linter.unusedVariables false

/-- Within a..i all is in order but for what stands at j, which is no greater than what stands behind it. -/
def Gap (R : List Ev) (a i j : Nat) : Prop := ∀ s t, a ≤ s → s < t → t ≤ i → t ≠ j → cmpK (gE R s) (gE R t) ≤ 0
theorem Gap.start {R : List Ev} {a i : Nat} (h : Seg R a i) : Gap R a i i := fun s t h1 h2 h3 h4 => h s t h1 h2 (by omega)
theorem Gap.stop {R : List Ev} {a i j : Nat} (h : Gap R a i j) (hj : j ≤ i) (haj : a ≤ j) (hs : j = a ∨ 0 ≤ cmpK (gE R j) (gE R (j - 1))) : Seg R a (i + 1) := by
  intro s t h1 h2 h3
  by_cases e : t = j
  · subst e
    rcases hs with e | hs
    · omega
    · have h4 : cmpK (gE R (t - 1)) (gE R t) ≤ 0 := by rw [cmpK_swap]; omega
      by_cases e : s = t - 1
      · rw [e]; exact h4
      · exact cmpK_trans (h s (t - 1) h1 (by omega) (by omega) (by omega)) h4
  · exact h s t h1 h2 (by omega) e
theorem Gap.step {R : List Ev} {a i j : Nat} (h : Gap R a i j) (hl : i < R.length) (hj : j ≤ i) (haj : a < j) (hs : cmpK (gE R j) (gE R (j - 1)) < 0) : Gap (swp R j (j - 1)) a i (j - 1) := by
  intro s t h1 h2 h3 h4
  rw [gE_swp (by omega) (by omega), gE_swp (by omega) (by omega), if_neg h4]
  by_cases c1 : t = j
  · rw [if_pos c1]
    by_cases c2 : s = j - 1
    · rw [if_pos c2]; omega
    · rw [if_neg c2, if_neg (by omega)]
      exact h s (j - 1) h1 (by omega) (by omega) (by omega)
  · rw [if_neg c1]
    by_cases c2 : s = j - 1
    · rw [if_pos c2]
      exact h j t (by omega) (by omega) h3 c1
    · rw [if_neg c2]
      by_cases c3 : s = j
      · rw [if_pos c3]
        exact h (j - 1) t (by omega) (by omega) h3 c1
      · rw [if_neg c3]
        exact h s t h1 h2 h3 c1

set_option maxHeartbeats 8000000 in
set_option maxRecDepth 100000 in
theorem insSort_any (g cap a b : Nat) (R0 : List Ev) (w : World) (h : RowE w g cap R0) (hab : a ≤ b) (hb : b ≤ R0.length) (hn : R0.length ≤ 1000000) :
    Calls Try.prog 76 #[.slice (some ⟨g, 0, none⟩) R0.length cap, .int .i64 a, .int .i64 b, .func (.func 48) #[] #[]] w fun e w' => e = .returned (.tuple #[]) ∧ ∃ R, RowE w' g cap R ∧ Turn a b R0 R ∧ Seg R a b ∧ Chg (· = g) w w' := by
  obtain ⟨n, hnn⟩ : ∃ n, R0.length = n := ⟨_, rfl⟩
  have H := Lib.hid h
  rw [hnn] at hb hn
  rw [hnn]
  have HN := Lib.hid hnn
  clear h hnn
  go_enter Try.func76, Try.ntmps76
  go_wp2_with fail
  go_loopw [8] (fun i wr => ∃ (k : Nat) (R : List Ev), a + 1 ≤ k ∧ i = .int .i64 k ∧ Hid (k ≤ b ∨ k = a + 1) ∧ Hid (RowE wr g cap R ∧ Turn a b R0 R ∧ Seg R a k ∧ Chg (· = g) w wr)) (fun i _ => b - (intOf i).toNat)
  case atStart => exact ⟨a + 1, R0, Nat.le_refl _, by go_num, .inr rfl, H.out, Turn.refl _ _ _, (fun s t h1 h2 h3 => by omega), Chg.refl _ _⟩
  case round =>
    obtain ⟨k, R, hak, rfl, hkb, hI⟩ := hrel
    by_cases hlt : k < b
    · go_wp2_with fail
      go_loopw [9] (fun j wr' => ∃ (q : Nat) (R' : List Ev), a ≤ q ∧ q ≤ k ∧ j = .int .i64 q ∧ Hid (RowE wr' g cap R' ∧ Turn a b R0 R' ∧ Gap R' a k q ∧ Chg (· = g) w wr')) (fun j _ => (intOf j).toNat)
      case atStart => exact ⟨k, R, by omega, Nat.le_refl _, rfl, hI.out.1, hI.out.2.1, Gap.start hI.out.2.2.1, hI.out.2.2.2⟩
      case round =>
        clear hI
        obtain ⟨q, R', haq, hqk, rfl, hI⟩ := hrel
        by_cases hlt2 : a < q
        · have hql : q < R'.length := by have := hI.out.2.1.len; have := HN.out; omega
          obtain ⟨c0, c1, c2, c3, c4, c5, c6⟩ := hI.out.1.at_ hql
          obtain ⟨d0, d1, d2, d3, d4, d5, d6⟩ := hI.out.1.at_ (i := q - 1) (by omega)
          obtain ⟨q', rfl⟩ : ∃ q', q = q' + 1 := ⟨q - 1, by omega⟩
          rw [Nat.add_sub_cancel] at d0 d1 d2 d3 d4 d5 d6
          have hF := fun w => sortF1_any (gE R' (q' + 1)) (gE R' q') w
          have hkl : k < R'.length := by have := hI.out.2.1.len; have := HN.out; omega
          have hG := fun hs => hI.out.2.2.1.step hkl hqk hlt2 hs
          have hGs := fun hs => hI.out.2.2.1.stop hqk haq (.inr hs)
          rw [Nat.add_sub_cancel] at hG hGs
          have hTs := fun hne => hI.out.2.1.trans (Turn.swap' (a := a) (b := b) (R := R') (i := q') (by omega) (by omega) (by omega) hne)
          have hne := fun h => Ne.symm (cmpK_ne (x := gE R' (q' + 1)) (y := gE R' q') h)
          unfold Ev.val at hF
          have hqn : q' + 1 < n := by have := hI.out.2.1.len; have := HN.out; omega
          have ha1 : (a : Int) < ((q' + 1 : Nat) : Int) := by omega
          have ha2 : (a : Int) < (q' : Int) + 1 := by omega
          have ha3 : a ≤ q' := by omega
          have ha4 : (a : Int) ≤ (q' : Int) := by omega
          have hb1 : (0 : Int) ≤ (q' : Int) + 1 := by omega
          have hb2 : (q' : Int) + 1 < (n : Int) := by omega
          have hb3 : q' < n := by omega
          have hwr : IntKind.i64.wrap (q' : Int) = (q' : Int) := by rw [IntKind.wrap_i64]; omega
          have hq1 : (((q' + 1 : Nat) : Int) - 1) = (q' : Int) := by omega
          have HX := Lib.hid hne
          have HG := Lib.hid hG
          have HGs := Lib.hid hGs
          have HTs := Lib.hid hTs
          clear hne hG hGs hTs
          go_wp2_with fail
          refine still_tail_d 14 (by kernel_rfl) (by kernel_rfl) ?_
          simp only [List.take_succ_cons, List.take_zero, List.drop_succ_cons, List.drop_zero]
          repeat still_step
          refine wpStill_nil ?_
          go_wp2_with fail
          refine (hF _).mono ?_
          rintro e w2 ⟨rfl, hc2⟩
          have hc2' : Chg Non wr w2 := (Chg.refl Non wr).drew.trans hc2 (fun _ x => x.elim)
          have hE2 := hI.out.1.non hc2'
          have hS := hE2.swap hql (j := q') (by omega)
          obtain ⟨c0, c1, c2, c3, c4, c5, c6⟩ := hE2.at_ hql
          obtain ⟨d0, d1, d2, d3, d4, d5, d6⟩ := hE2.at_ (i := q') (by omega)
          have hf := fun j => hE2.frz j (by omega)
          have hcE := hI.out.2.2.2.trans hc2' (fun _ x => x.elim)
          by_cases hlt3 : cmpK (gE R' (q' + 1)) (gE R' q') < 0
          · generalize hx : gE R' (q' + 1) = x at *
            generalize hy : gE R' q' = y at *
            generalize cmpK x y = cc at *
            obtain ⟨hw, hHw⟩ : ∃ W, W = swapW w2 g (q' + 1) q' x y := ⟨_, rfl⟩
            have hfin : ∃ (q2 : Nat) (R2 : List Ev), a ≤ q2 ∧ q2 ≤ k ∧ Value.int .i64 (q' : Int) = .int .i64 q2 ∧ Hid (RowE (swapW w2 g (q' + 1) q' x y).drew g cap R2 ∧ Turn a b R0 R2 ∧ Gap R2 a k q2 ∧ Chg (· = g) w (swapW w2 g (q' + 1) q' x y).drew) :=
              ⟨q', _, ha3, by omega, rfl, hS.1.drew, HTs.out (HX.out hlt3), HG.out hlt3, (hcE.trans hS.2 (fun i h => .inl h)).drew⟩
            have HFIN := Lib.hid hfin
            clear hfin hHw hS hE2 hcE HTs HG HX HGs hI hw hc2 hc2'
            go_wp2_with fail
            go_region
            all_goals
              go_wp2
              go_roundw
              case rel => exact HFIN.out
              case measure => simp [intOf]
          · have hst := HGs.out (by omega)
            have hfin : ∃ (k2 : Nat) (R2 : List Ev), a + 1 ≤ k2 ∧ Value.int .i64 ((k : Int) + 1) = .int .i64 k2 ∧ Hid (k2 ≤ b ∨ k2 = a + 1) ∧ Hid (RowE w2 g cap R2 ∧ Turn a b R0 R2 ∧ Seg R2 a k2 ∧ Chg (· = g) w w2) :=
              ⟨k + 1, R', by omega, by go_num, .inl hlt, hE2, hI.out.2.1, hst, hcE⟩
            have HFIN := Lib.hid hfin
            clear hfin hS hE2 hcE HTs HG HX HGs hI hc2 hc2' hst
            generalize cmpK (gE R' (q' + 1)) (gE R' q') = cc at *
            go_wp2
            go_roundw
            case rel => exact HFIN.out
            case measure => simp [intOf]; omega
        · have hqa : q = a := by omega
          have hst := hI.out.2.2.1.stop hqk haq (.inl hqa)
          have HI := Lib.hid hI.out
          have HST := Lib.hid hst
          clear hI hst
          go_wp2_with fail
          have hgd : ¬ (a : Int) < (q : Int) := by omega
          clear haq hlt2 hqk hqa
          go_quiet (fail)
          go_wp2_with fail
          go_roundw
          case rel => exact ⟨k + 1, R', by omega, by go_num, .inl hlt, HI.out.1.non ((Chg.refl Non _).drewN _), HI.out.2.1, HST.out, HI.out.2.2.2.drewN _⟩
          case measure => simp [intOf]; omega
    · go_wp2
      refine bodyPost_end (by simp [results, Try.results76, go_sem]) rfl ⟨rfl, R, hI.out.1, hI.out.2.1, ?_, hI.out.2.2.2⟩
      rcases hkb.out with h | h
      · obtain rfl : k = b := by omega
        exact hI.out.2.2.1
      · intro s t h1 h2 h3
        omega
end Go.Proofs.Ytmdpbbnieehmnaa
