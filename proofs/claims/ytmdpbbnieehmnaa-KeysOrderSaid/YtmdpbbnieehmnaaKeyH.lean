/- KeysOrder: the walk. -/
import Derived.Test.YtmdpbbnieehmnaaKeyG
namespace Go.Proofs.Ytmdpbbnieehmnaa
open Go.RowKit
set_option linter.unusedSimpArgs false
set_option linter.unusedVariables false

theorem cmpK_z {x y z : Ev} (h : cmpK x y = 0) (k : cmpK y z = 0) : cmpK x z = 0 := by
  have e1 := lexC_zero x.k4 y.k4 rfl h
  have e2 := lexC_zero y.k4 z.k4 rfl k
  unfold cmpK
  rw [e1, e2, lexC_self]
set_option maxHeartbeats 16000000 in
set_option maxRecDepth 100000 in
theorem keysOrder_any (a1 a2 a3 a4 b1 b2 b3 b4 c1 c2 c3 c4 : Int) (w : World) :
    Calls Try.prog 3 #[.agg #[.int .i64 a1, .int .i64 a2, .int .i64 a3, .int .i64 a4], .agg #[.int .i64 b1, .int .i64 b2, .int .i64 b3, .int .i64 b4], .agg #[.int .i64 c1, .int .i64 c2, .int .i64 c3, .int .i64 c4]] w fun e w' => e = .returned (.bool true) ∧ Below w.heap.size w w' := by
  have hAB := fun w => keyCmp_any ⟨a1, a2, a3, a4, 0, 0, 0⟩ ⟨b1, b2, b3, b4, 0, 0, 0⟩ w
  have hBA := fun w => keyCmp_any ⟨b1, b2, b3, b4, 0, 0, 0⟩ ⟨a1, a2, a3, a4, 0, 0, 0⟩ w
  have hBC := fun w => keyCmp_any ⟨b1, b2, b3, b4, 0, 0, 0⟩ ⟨c1, c2, c3, c4, 0, 0, 0⟩ w
  have hAC := fun w => keyCmp_any ⟨a1, a2, a3, a4, 0, 0, 0⟩ ⟨c1, c2, c3, c4, 0, 0, 0⟩ w
  have hAA := fun w => keyCmp_any ⟨a1, a2, a3, a4, 0, 0, 0⟩ ⟨a1, a2, a3, a4, 0, 0, 0⟩ w
  have hEq := fun w => key_eq ⟨a1, a2, a3, a4, 0, 0, 0⟩ ⟨b1, b2, b3, b4, 0, 0, 0⟩ w
  have f1 := @cmpK_trans ⟨a1, a2, a3, a4, 0, 0, 0⟩ ⟨b1, b2, b3, b4, 0, 0, 0⟩ ⟨c1, c2, c3, c4, 0, 0, 0⟩
  have f2 := @cmpK_lt_le ⟨a1, a2, a3, a4, 0, 0, 0⟩ ⟨b1, b2, b3, b4, 0, 0, 0⟩ ⟨c1, c2, c3, c4, 0, 0, 0⟩
  have f3 := @cmpK_le_lt ⟨a1, a2, a3, a4, 0, 0, 0⟩ ⟨b1, b2, b3, b4, 0, 0, 0⟩ ⟨c1, c2, c3, c4, 0, 0, 0⟩
  have f4 : cmpK ⟨a1, a2, a3, a4, 0, 0, 0⟩ ⟨b1, b2, b3, b4, 0, 0, 0⟩ = 0 → cmpK ⟨b1, b2, b3, b4, 0, 0, 0⟩ ⟨c1, c2, c3, c4, 0, 0, 0⟩ = 0 → cmpK ⟨a1, a2, a3, a4, 0, 0, 0⟩ ⟨c1, c2, c3, c4, 0, 0, 0⟩ = 0 := fun h k => cmpK_z h k
  rw [cmpK_swap ⟨a1, a2, a3, a4, 0, 0, 0⟩ ⟨b1, b2, b3, b4, 0, 0, 0⟩] at hBA
  rw [cmpK_self] at hAA
  have r1 : cmpK ⟨a1, a2, a3, a4, 0, 0, 0⟩ ⟨b1, b2, b3, b4, 0, 0, 0⟩ = -1 ∨ cmpK ⟨a1, a2, a3, a4, 0, 0, 0⟩ ⟨b1, b2, b3, b4, 0, 0, 0⟩ = 0 ∨ cmpK ⟨a1, a2, a3, a4, 0, 0, 0⟩ ⟨b1, b2, b3, b4, 0, 0, 0⟩ = 1 := lexC_range _ _
  have r2 : cmpK ⟨b1, b2, b3, b4, 0, 0, 0⟩ ⟨c1, c2, c3, c4, 0, 0, 0⟩ = -1 ∨ cmpK ⟨b1, b2, b3, b4, 0, 0, 0⟩ ⟨c1, c2, c3, c4, 0, 0, 0⟩ = 0 ∨ cmpK ⟨b1, b2, b3, b4, 0, 0, 0⟩ ⟨c1, c2, c3, c4, 0, 0, 0⟩ = 1 := lexC_range _ _
  have r3 : cmpK ⟨a1, a2, a3, a4, 0, 0, 0⟩ ⟨c1, c2, c3, c4, 0, 0, 0⟩ = -1 ∨ cmpK ⟨a1, a2, a3, a4, 0, 0, 0⟩ ⟨c1, c2, c3, c4, 0, 0, 0⟩ = 0 ∨ cmpK ⟨a1, a2, a3, a4, 0, 0, 0⟩ ⟨c1, c2, c3, c4, 0, 0, 0⟩ = 1 := lexC_range _ _
  generalize cmpK ⟨a1, a2, a3, a4, 0, 0, 0⟩ ⟨b1, b2, b3, b4, 0, 0, 0⟩ = x at *
  generalize cmpK ⟨b1, b2, b3, b4, 0, 0, 0⟩ ⟨c1, c2, c3, c4, 0, 0, 0⟩ = z at *
  generalize cmpK ⟨a1, a2, a3, a4, 0, 0, 0⟩ ⟨c1, c2, c3, c4, 0, 0, 0⟩ = u at *
  have hv : (0 < x) ∨ (x ≤ 0 ∧ 0 < z) ∨ (x ≤ 0 ∧ z ≤ 0 ∧ u ≤ 0 ∧ (u = 0 ↔ (x = 0 ∧ z = 0))) := by
    by_cases h1 : 0 < x
    · exact .inl h1
    · by_cases h2 : 0 < z
      · exact .inr (.inl ⟨by omega, h2⟩)
      · have g1 := f1 (by omega) (by omega)
        refine .inr (.inr ⟨by omega, by omega, g1, fun e => ?_, fun e => f4 e.1 e.2⟩)
        by_cases k1 : x < 0
        · have := f2 k1 (by omega); omega
        · by_cases k2 : z < 0
          · have := f3 (by omega) k2; omega
          · exact ⟨by omega, by omega⟩
  clear f1 f2 f3 f4
  unfold Ev.kval at hAB hBA hBC hAC hAA
  simp only at hAB hBA hBC hAC hAA hEq
  have hA := ((Blk.new w #[.int .i64 a1, .int .i64 a2, .int .i64 a3, .int .i64 a4] 23).alloc (.cells #[.int .i64 b1, .int .i64 b2, .int .i64 b3, .int .i64 b4] 23)).alloc (.cells #[.int .i64 c1, .int .i64 c2, .int .i64 c3, .int .i64 c4] 23)
  have hB := (Blk.new_at (w := w.alloc (.cells #[.int .i64 a1, .int .i64 a2, .int .i64 a3, .int .i64 a4] 23)) (cs := #[.int .i64 b1, .int .i64 b2, .int .i64 b3, .int .i64 b4]) (t := 23) (g := w.heap.size + 1) (by simp)).alloc (.cells #[.int .i64 c1, .int .i64 c2, .int .i64 c3, .int .i64 c4] 23)
  have hC := Blk.new_at (w := (w.alloc (.cells #[.int .i64 a1, .int .i64 a2, .int .i64 a3, .int .i64 a4] 23)).alloc (.cells #[.int .i64 b1, .int .i64 b2, .int .i64 b3, .int .i64 b4] 23)) (cs := #[.int .i64 c1, .int .i64 c2, .int .i64 c3, .int .i64 c4]) (t := 23) (g := w.heap.size + 1 + 1) (by simp)
  have hch : Chg Non w (((w.alloc (.cells #[.int .i64 a1, .int .i64 a2, .int .i64 a3, .int .i64 a4] 23)).alloc (.cells #[.int .i64 b1, .int .i64 b2, .int .i64 b3, .int .i64 b4] 23)).alloc (.cells #[.int .i64 c1, .int .i64 c2, .int .i64 c3, .int .i64 c4] 23)) := (((Chg.refl Non w).alloc _).alloc _).alloc _
  obtain ⟨p0, p1, p2, p3⟩ := hA.four'
  obtain ⟨q0, q1, q2, q3⟩ := hB.four'
  obtain ⟨s0, s1, s2, s3⟩ := hC.four'
  go_enter Try.func3, Try.ntmps3
  go_wp2_with fail
  refine (hAB _).mono ?_
  rintro e w2 ⟨rfl, hc⟩
  replace hA := hA.chg hc id
  replace hB := hB.chg hc id
  replace hC := hC.chg hc id
  replace hch := hch.trans hc (fun _ x => x.elim)
  obtain ⟨p0, p1, p2, p3⟩ := hA.four'
  obtain ⟨q0, q1, q2, q3⟩ := hB.four'
  clear hc
  go_wp2_with fail
  refine (hBA _).mono ?_
  rintro e w3 ⟨rfl, hc⟩
  replace hA := hA.chg hc id
  replace hB := hB.chg hc id
  replace hC := hC.chg hc id
  replace hch := hch.trans hc (fun _ x => x.elim)
  obtain ⟨q0, q1, q2, q3⟩ := hB.four'
  obtain ⟨s0, s1, s2, s3⟩ := hC.four'
  clear hc
  go_wp2_with fail
  refine (hBC _).mono ?_
  rintro e w4 ⟨rfl, hc⟩
  replace hA := hA.chg hc id
  replace hB := hB.chg hc id
  replace hC := hC.chg hc id
  replace hch := hch.trans hc (fun _ x => x.elim)
  obtain ⟨p0, p1, p2, p3⟩ := hA.four'
  obtain ⟨s0, s1, s2, s3⟩ := hC.four'
  clear hc
  go_wp2_with fail
  refine (hAC _).mono ?_
  rintro e w5 ⟨rfl, hc⟩
  replace hA := hA.chg hc id
  replace hB := hB.chg hc id
  replace hch := hch.trans hc (fun _ x => x.elim)
  obtain ⟨p0, p1, p2, p3⟩ := hA.four'
  obtain ⟨q0, q1, q2, q3⟩ := hB.four'
  have hxx : (x != - -x) = false := by simp
  have hn1 : - -x = x := by omega
  have hq2 : ((x == 0) != decide (x = 0)) = false := by by_cases h : x = 0 <;> simp [h]
  clear hc hC
  have HV := Lib.hid hv
  have HR := Lib.hid (And.intro r1 (And.intro r2 r3))
  have HCH := Lib.hid hch
  clear hv r1 r2 r3 hch
  rcases HR.out.1 with rfl | rfl | rfl <;> rcases HR.out.2.1 with rfl | rfl | rfl <;> rcases HR.out.2.2 with rfl | rfl | rfl
  all_goals first | (exfalso; have := HV.out; omega) | skip
  all_goals
    clear HR HV
    go_wp2_with fail
    refine (hAA _).mono ?_
    rintro e w6 ⟨rfl, hc⟩
    go_wp2_with fail
    refine (awake02_any _).mono ?_
    rintro e w7 ⟨rfl, hc7⟩
    go_wp2
    go_ret
    exact ⟨rfl, ((HCH.out.trans hc (fun _ x => x.elim)).trans hc7 (fun _ x => x.elim)).non_below⟩
end Go.Proofs.Ytmdpbbnieehmnaa
