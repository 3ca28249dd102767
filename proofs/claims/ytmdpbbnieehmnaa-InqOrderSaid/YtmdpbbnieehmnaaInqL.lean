/- InqOrder: the walk. -/
import Derived.Test.YtmdpbbnieehmnaaInqK
import Derived.Test.YtmdpbbnieehmnaaVicE
namespace Go.Proofs.Ytmdpbbnieehmnaa
open Go.RowKit
set_option linter.unusedSimpArgs false
set_option linter.unusedVariables false

def Blks (w : World) (a b c : Ev) (W : World) : Prop := Blk W w.heap.size #[.int .i64 a.at_, .int .i64 a.src, .int .i64 a.sent, .int .i64 a.no, .int .i64 a.dst, .int .i64 a.kind, .int .i64 a.data] 31 ∧ Blk W (w.heap.size + 1) #[.int .i64 b.at_, .int .i64 b.src, .int .i64 b.sent, .int .i64 b.no, .int .i64 b.dst, .int .i64 b.kind, .int .i64 b.data] 31 ∧ Blk W (w.heap.size + 1 + 1) #[.int .i64 c.at_, .int .i64 c.src, .int .i64 c.sent, .int .i64 c.no, .int .i64 c.dst, .int .i64 c.kind, .int .i64 c.data] 31 ∧ Chg Non w W
theorem Blks.non {w : World} {a b c : Ev} {W W' : World} (h : Blks w a b c W) (hc : Chg Non W W') : Blks w a b c W' := ⟨h.1.chg hc id, h.2.1.chg hc id, h.2.2.1.chg hc id, h.2.2.2.trans hc (fun _ x => x.elim)⟩
set_option maxHeartbeats 16000000 in
set_option maxRecDepth 100000 in
theorem inqOrder_ev (a b c : Ev) (w : World) :
    Calls Try.prog 10 #[a.val, b.val, c.val] w fun e w' => e = .returned (.bool true) ∧ Below w.heap.size w w' := by
  have hAB := fun w => inqCmp_any a b w
  have hBA := fun w => inqCmp_any b a w
  have hBC := fun w => inqCmp_any b c w
  have hAC := fun w => inqCmp_any a c w
  have hHab := fun w => ahead_any a b w
  have hHba := fun w => ahead_any b a w
  have hEq := fun w => ev_eq a b w
  have f1 := @eC_trans a b c
  have r1 : lexC a.key b.key = -1 ∨ lexC a.key b.key = 0 ∨ lexC a.key b.key = 1 := lexC_range _ _
  have r2 : lexC b.key c.key = -1 ∨ lexC b.key c.key = 0 ∨ lexC b.key c.key = 1 := lexC_range _ _
  have r3 : lexC a.key c.key = -1 ∨ lexC a.key c.key = 0 ∨ lexC a.key c.key = 1 := lexC_range _ _
  unfold eC at f1
  unfold aheadB at hHab hHba
  have hz : decide (a = b) = decide (lexC a.key b.key = 0) := by
    by_cases h : a = b
    · subst h; rw [lexC_self]; simp
    · rw [decide_eq_false h, decide_eq_false (fun h0 => h (Ev.key_inj (lexC_zero a.key b.key rfl h0)))]
  rw [hz] at hEq
  rw [lexC_swap a.key b.key] at hBA hHba
  clear hz
  unfold Ev.val at *
  generalize lexC a.key b.key = x at *
  generalize lexC b.key c.key = z at *
  generalize lexC a.key c.key = u at *
  have hv : x = 1 ∨ ((x = -1 ∨ x = 0) ∧ (z = 1 ∨ ((z = -1 ∨ z = 0) ∧ (u = -1 ∨ u = 0)))) := by
    rcases r1 with h | h | h
    · refine .inr ⟨.inl h, ?_⟩
      rcases r2 with h2 | h2 | h2
      · exact .inr ⟨.inl h2, by have := f1 (by omega) (by omega); omega⟩
      · exact .inr ⟨.inr h2, by have := f1 (by omega) (by omega); omega⟩
      · exact .inl h2
    · refine .inr ⟨.inr h, ?_⟩
      rcases r2 with h2 | h2 | h2
      · exact .inr ⟨.inl h2, by have := f1 (by omega) (by omega); omega⟩
      · exact .inr ⟨.inr h2, by have := f1 (by omega) (by omega); omega⟩
      · exact .inl h2
    · exact .inl h
  clear f1 r1 r2 r3
  have hA := ((Blk.new w #[.int .i64 a.at_, .int .i64 a.src, .int .i64 a.sent, .int .i64 a.no, .int .i64 a.dst, .int .i64 a.kind, .int .i64 a.data] 31).alloc (.cells #[.int .i64 b.at_, .int .i64 b.src, .int .i64 b.sent, .int .i64 b.no, .int .i64 b.dst, .int .i64 b.kind, .int .i64 b.data] 31)).alloc (.cells #[.int .i64 c.at_, .int .i64 c.src, .int .i64 c.sent, .int .i64 c.no, .int .i64 c.dst, .int .i64 c.kind, .int .i64 c.data] 31)
  have hB := (Blk.new_at (w := w.alloc (.cells #[.int .i64 a.at_, .int .i64 a.src, .int .i64 a.sent, .int .i64 a.no, .int .i64 a.dst, .int .i64 a.kind, .int .i64 a.data] 31)) (cs := #[.int .i64 b.at_, .int .i64 b.src, .int .i64 b.sent, .int .i64 b.no, .int .i64 b.dst, .int .i64 b.kind, .int .i64 b.data]) (t := 31) (g := w.heap.size + 1) (by simp)).alloc (.cells #[.int .i64 c.at_, .int .i64 c.src, .int .i64 c.sent, .int .i64 c.no, .int .i64 c.dst, .int .i64 c.kind, .int .i64 c.data] 31)
  have hC := Blk.new_at (w := (w.alloc (.cells #[.int .i64 a.at_, .int .i64 a.src, .int .i64 a.sent, .int .i64 a.no, .int .i64 a.dst, .int .i64 a.kind, .int .i64 a.data] 31)).alloc (.cells #[.int .i64 b.at_, .int .i64 b.src, .int .i64 b.sent, .int .i64 b.no, .int .i64 b.dst, .int .i64 b.kind, .int .i64 b.data] 31)) (cs := #[.int .i64 c.at_, .int .i64 c.src, .int .i64 c.sent, .int .i64 c.no, .int .i64 c.dst, .int .i64 c.kind, .int .i64 c.data]) (t := 31) (g := w.heap.size + 1 + 1) (by simp)
  have hch : Chg Non w (((w.alloc (.cells #[.int .i64 a.at_, .int .i64 a.src, .int .i64 a.sent, .int .i64 a.no, .int .i64 a.dst, .int .i64 a.kind, .int .i64 a.data] 31)).alloc (.cells #[.int .i64 b.at_, .int .i64 b.src, .int .i64 b.sent, .int .i64 b.no, .int .i64 b.dst, .int .i64 b.kind, .int .i64 b.data] 31)).alloc (.cells #[.int .i64 c.at_, .int .i64 c.src, .int .i64 c.sent, .int .i64 c.no, .int .i64 c.dst, .int .i64 c.kind, .int .i64 c.data] 31)) := (((Chg.refl Non w).alloc _).alloc _).alloc _
  have hwb : Blks w a b c (((w.alloc (.cells #[.int .i64 a.at_, .int .i64 a.src, .int .i64 a.sent, .int .i64 a.no, .int .i64 a.dst, .int .i64 a.kind, .int .i64 a.data] 31)).alloc (.cells #[.int .i64 b.at_, .int .i64 b.src, .int .i64 b.sent, .int .i64 b.no, .int .i64 b.dst, .int .i64 b.kind, .int .i64 b.data] 31)).alloc (.cells #[.int .i64 c.at_, .int .i64 c.src, .int .i64 c.sent, .int .i64 c.no, .int .i64 c.dst, .int .i64 c.kind, .int .i64 c.data] 31)) := ⟨hA, hB, hC, hch⟩
  clear hA hB hC hch
  rcases hv with rfl | ⟨rfl | rfl, rfl | ⟨rfl | rfl, rfl | rfl⟩⟩
  · obtain ⟨p0, p1, p2, p3, p4, p5, p6⟩ := hwb.1.seven
    obtain ⟨q0, q1, q2, q3, q4, q5, q6⟩ := hwb.2.1.seven
    obtain ⟨s0, s1, s2, s3, s4, s5, s6⟩ := hwb.2.2.1.seven
    go_enter Try.func10, Try.ntmps10
    go_wp2_with fail
    refine (hAB _).mono ?_
    rintro e w2 ⟨rfl, hc⟩
    replace hwb := hwb.non hc
    clear hc
    obtain ⟨p0, p1, p2, p3, p4, p5, p6⟩ := hwb.1.seven
    obtain ⟨q0, q1, q2, q3, q4, q5, q6⟩ := hwb.2.1.seven
    obtain ⟨s0, s1, s2, s3, s4, s5, s6⟩ := hwb.2.2.1.seven
    go_wp2_with fail
    refine (hHab _).mono ?_
    rintro e w3 ⟨rfl, hc⟩
    replace hwb := hwb.non hc
    clear hc
    obtain ⟨p0, p1, p2, p3, p4, p5, p6⟩ := hwb.1.seven
    obtain ⟨q0, q1, q2, q3, q4, q5, q6⟩ := hwb.2.1.seven
    obtain ⟨s0, s1, s2, s3, s4, s5, s6⟩ := hwb.2.2.1.seven
    go_wp2_with fail
    refine (hHba _).mono ?_
    rintro e w4 ⟨rfl, hc⟩
    replace hwb := hwb.non hc
    clear hc
    obtain ⟨p0, p1, p2, p3, p4, p5, p6⟩ := hwb.1.seven
    obtain ⟨q0, q1, q2, q3, q4, q5, q6⟩ := hwb.2.1.seven
    obtain ⟨s0, s1, s2, s3, s4, s5, s6⟩ := hwb.2.2.1.seven
    go_wp2_with fail
    refine (hBA _).mono ?_
    rintro e w5 ⟨rfl, hc⟩
    replace hwb := hwb.non hc
    clear hc
    obtain ⟨p0, p1, p2, p3, p4, p5, p6⟩ := hwb.1.seven
    obtain ⟨q0, q1, q2, q3, q4, q5, q6⟩ := hwb.2.1.seven
    obtain ⟨s0, s1, s2, s3, s4, s5, s6⟩ := hwb.2.2.1.seven
    have HW := Lib.hid hwb.2.2.2
    go_wp2_with fail
    refine (awake10_any _).mono ?_
    rintro e w9 ⟨rfl, hc9⟩
    go_wp2
    go_ret
    exact ⟨rfl, (HW.out.trans hc9 (fun _ x => x.elim)).non_below⟩
  · obtain ⟨p0, p1, p2, p3, p4, p5, p6⟩ := hwb.1.seven
    obtain ⟨q0, q1, q2, q3, q4, q5, q6⟩ := hwb.2.1.seven
    obtain ⟨s0, s1, s2, s3, s4, s5, s6⟩ := hwb.2.2.1.seven
    go_enter Try.func10, Try.ntmps10
    go_wp2_with fail
    refine (hAB _).mono ?_
    rintro e w2 ⟨rfl, hc⟩
    replace hwb := hwb.non hc
    clear hc
    obtain ⟨p0, p1, p2, p3, p4, p5, p6⟩ := hwb.1.seven
    obtain ⟨q0, q1, q2, q3, q4, q5, q6⟩ := hwb.2.1.seven
    obtain ⟨s0, s1, s2, s3, s4, s5, s6⟩ := hwb.2.2.1.seven
    go_wp2_with fail
    refine (hHab _).mono ?_
    rintro e w3 ⟨rfl, hc⟩
    replace hwb := hwb.non hc
    clear hc
    obtain ⟨p0, p1, p2, p3, p4, p5, p6⟩ := hwb.1.seven
    obtain ⟨q0, q1, q2, q3, q4, q5, q6⟩ := hwb.2.1.seven
    obtain ⟨s0, s1, s2, s3, s4, s5, s6⟩ := hwb.2.2.1.seven
    go_wp2_with fail
    refine (hHba _).mono ?_
    rintro e w4 ⟨rfl, hc⟩
    replace hwb := hwb.non hc
    clear hc
    obtain ⟨p0, p1, p2, p3, p4, p5, p6⟩ := hwb.1.seven
    obtain ⟨q0, q1, q2, q3, q4, q5, q6⟩ := hwb.2.1.seven
    obtain ⟨s0, s1, s2, s3, s4, s5, s6⟩ := hwb.2.2.1.seven
    go_wp2_with fail
    refine (hBA _).mono ?_
    rintro e w5 ⟨rfl, hc⟩
    replace hwb := hwb.non hc
    clear hc
    obtain ⟨p0, p1, p2, p3, p4, p5, p6⟩ := hwb.1.seven
    obtain ⟨q0, q1, q2, q3, q4, q5, q6⟩ := hwb.2.1.seven
    obtain ⟨s0, s1, s2, s3, s4, s5, s6⟩ := hwb.2.2.1.seven
    go_wp2_with fail
    refine (hBC _).mono ?_
    rintro e w6 ⟨rfl, hc⟩
    replace hwb := hwb.non hc
    clear hc
    obtain ⟨p0, p1, p2, p3, p4, p5, p6⟩ := hwb.1.seven
    obtain ⟨q0, q1, q2, q3, q4, q5, q6⟩ := hwb.2.1.seven
    obtain ⟨s0, s1, s2, s3, s4, s5, s6⟩ := hwb.2.2.1.seven
    have HW := Lib.hid hwb.2.2.2
    go_wp2_with fail
    refine (awake10_any _).mono ?_
    rintro e w9 ⟨rfl, hc9⟩
    go_wp2
    go_ret
    exact ⟨rfl, (HW.out.trans hc9 (fun _ x => x.elim)).non_below⟩
  · obtain ⟨p0, p1, p2, p3, p4, p5, p6⟩ := hwb.1.seven
    obtain ⟨q0, q1, q2, q3, q4, q5, q6⟩ := hwb.2.1.seven
    obtain ⟨s0, s1, s2, s3, s4, s5, s6⟩ := hwb.2.2.1.seven
    go_enter Try.func10, Try.ntmps10
    go_wp2_with fail
    refine (hAB _).mono ?_
    rintro e w2 ⟨rfl, hc⟩
    replace hwb := hwb.non hc
    clear hc
    obtain ⟨p0, p1, p2, p3, p4, p5, p6⟩ := hwb.1.seven
    obtain ⟨q0, q1, q2, q3, q4, q5, q6⟩ := hwb.2.1.seven
    obtain ⟨s0, s1, s2, s3, s4, s5, s6⟩ := hwb.2.2.1.seven
    go_wp2_with fail
    refine (hHab _).mono ?_
    rintro e w3 ⟨rfl, hc⟩
    replace hwb := hwb.non hc
    clear hc
    obtain ⟨p0, p1, p2, p3, p4, p5, p6⟩ := hwb.1.seven
    obtain ⟨q0, q1, q2, q3, q4, q5, q6⟩ := hwb.2.1.seven
    obtain ⟨s0, s1, s2, s3, s4, s5, s6⟩ := hwb.2.2.1.seven
    go_wp2_with fail
    refine (hHba _).mono ?_
    rintro e w4 ⟨rfl, hc⟩
    replace hwb := hwb.non hc
    clear hc
    obtain ⟨p0, p1, p2, p3, p4, p5, p6⟩ := hwb.1.seven
    obtain ⟨q0, q1, q2, q3, q4, q5, q6⟩ := hwb.2.1.seven
    obtain ⟨s0, s1, s2, s3, s4, s5, s6⟩ := hwb.2.2.1.seven
    go_wp2_with fail
    refine (hBA _).mono ?_
    rintro e w5 ⟨rfl, hc⟩
    replace hwb := hwb.non hc
    clear hc
    obtain ⟨p0, p1, p2, p3, p4, p5, p6⟩ := hwb.1.seven
    obtain ⟨q0, q1, q2, q3, q4, q5, q6⟩ := hwb.2.1.seven
    obtain ⟨s0, s1, s2, s3, s4, s5, s6⟩ := hwb.2.2.1.seven
    go_wp2_with fail
    refine (hBC _).mono ?_
    rintro e w6 ⟨rfl, hc⟩
    replace hwb := hwb.non hc
    clear hc
    obtain ⟨p0, p1, p2, p3, p4, p5, p6⟩ := hwb.1.seven
    obtain ⟨q0, q1, q2, q3, q4, q5, q6⟩ := hwb.2.1.seven
    obtain ⟨s0, s1, s2, s3, s4, s5, s6⟩ := hwb.2.2.1.seven
    go_wp2_with fail
    refine (hAC _).mono ?_
    rintro e w7 ⟨rfl, hc⟩
    replace hwb := hwb.non hc
    clear hc
    obtain ⟨p0, p1, p2, p3, p4, p5, p6⟩ := hwb.1.seven
    obtain ⟨q0, q1, q2, q3, q4, q5, q6⟩ := hwb.2.1.seven
    obtain ⟨s0, s1, s2, s3, s4, s5, s6⟩ := hwb.2.2.1.seven
    have HW := Lib.hid hwb.2.2.2
    go_wp2_with fail
    refine (awake10_any _).mono ?_
    rintro e w9 ⟨rfl, hc9⟩
    go_wp2
    go_ret
    exact ⟨rfl, (HW.out.trans hc9 (fun _ x => x.elim)).non_below⟩
  · obtain ⟨p0, p1, p2, p3, p4, p5, p6⟩ := hwb.1.seven
    obtain ⟨q0, q1, q2, q3, q4, q5, q6⟩ := hwb.2.1.seven
    obtain ⟨s0, s1, s2, s3, s4, s5, s6⟩ := hwb.2.2.1.seven
    go_enter Try.func10, Try.ntmps10
    go_wp2_with fail
    refine (hAB _).mono ?_
    rintro e w2 ⟨rfl, hc⟩
    replace hwb := hwb.non hc
    clear hc
    obtain ⟨p0, p1, p2, p3, p4, p5, p6⟩ := hwb.1.seven
    obtain ⟨q0, q1, q2, q3, q4, q5, q6⟩ := hwb.2.1.seven
    obtain ⟨s0, s1, s2, s3, s4, s5, s6⟩ := hwb.2.2.1.seven
    go_wp2_with fail
    refine (hHab _).mono ?_
    rintro e w3 ⟨rfl, hc⟩
    replace hwb := hwb.non hc
    clear hc
    obtain ⟨p0, p1, p2, p3, p4, p5, p6⟩ := hwb.1.seven
    obtain ⟨q0, q1, q2, q3, q4, q5, q6⟩ := hwb.2.1.seven
    obtain ⟨s0, s1, s2, s3, s4, s5, s6⟩ := hwb.2.2.1.seven
    go_wp2_with fail
    refine (hHba _).mono ?_
    rintro e w4 ⟨rfl, hc⟩
    replace hwb := hwb.non hc
    clear hc
    obtain ⟨p0, p1, p2, p3, p4, p5, p6⟩ := hwb.1.seven
    obtain ⟨q0, q1, q2, q3, q4, q5, q6⟩ := hwb.2.1.seven
    obtain ⟨s0, s1, s2, s3, s4, s5, s6⟩ := hwb.2.2.1.seven
    go_wp2_with fail
    refine (hBA _).mono ?_
    rintro e w5 ⟨rfl, hc⟩
    replace hwb := hwb.non hc
    clear hc
    obtain ⟨p0, p1, p2, p3, p4, p5, p6⟩ := hwb.1.seven
    obtain ⟨q0, q1, q2, q3, q4, q5, q6⟩ := hwb.2.1.seven
    obtain ⟨s0, s1, s2, s3, s4, s5, s6⟩ := hwb.2.2.1.seven
    go_wp2_with fail
    refine (hBC _).mono ?_
    rintro e w6 ⟨rfl, hc⟩
    replace hwb := hwb.non hc
    clear hc
    obtain ⟨p0, p1, p2, p3, p4, p5, p6⟩ := hwb.1.seven
    obtain ⟨q0, q1, q2, q3, q4, q5, q6⟩ := hwb.2.1.seven
    obtain ⟨s0, s1, s2, s3, s4, s5, s6⟩ := hwb.2.2.1.seven
    go_wp2_with fail
    refine (hAC _).mono ?_
    rintro e w7 ⟨rfl, hc⟩
    replace hwb := hwb.non hc
    clear hc
    obtain ⟨p0, p1, p2, p3, p4, p5, p6⟩ := hwb.1.seven
    obtain ⟨q0, q1, q2, q3, q4, q5, q6⟩ := hwb.2.1.seven
    obtain ⟨s0, s1, s2, s3, s4, s5, s6⟩ := hwb.2.2.1.seven
    have HW := Lib.hid hwb.2.2.2
    go_wp2_with fail
    refine (awake10_any _).mono ?_
    rintro e w9 ⟨rfl, hc9⟩
    go_wp2
    go_ret
    exact ⟨rfl, (HW.out.trans hc9 (fun _ x => x.elim)).non_below⟩
  · obtain ⟨p0, p1, p2, p3, p4, p5, p6⟩ := hwb.1.seven
    obtain ⟨q0, q1, q2, q3, q4, q5, q6⟩ := hwb.2.1.seven
    obtain ⟨s0, s1, s2, s3, s4, s5, s6⟩ := hwb.2.2.1.seven
    go_enter Try.func10, Try.ntmps10
    go_wp2_with fail
    refine (hAB _).mono ?_
    rintro e w2 ⟨rfl, hc⟩
    replace hwb := hwb.non hc
    clear hc
    obtain ⟨p0, p1, p2, p3, p4, p5, p6⟩ := hwb.1.seven
    obtain ⟨q0, q1, q2, q3, q4, q5, q6⟩ := hwb.2.1.seven
    obtain ⟨s0, s1, s2, s3, s4, s5, s6⟩ := hwb.2.2.1.seven
    go_wp2_with fail
    refine (hHab _).mono ?_
    rintro e w3 ⟨rfl, hc⟩
    replace hwb := hwb.non hc
    clear hc
    obtain ⟨p0, p1, p2, p3, p4, p5, p6⟩ := hwb.1.seven
    obtain ⟨q0, q1, q2, q3, q4, q5, q6⟩ := hwb.2.1.seven
    obtain ⟨s0, s1, s2, s3, s4, s5, s6⟩ := hwb.2.2.1.seven
    go_wp2_with fail
    refine (hHba _).mono ?_
    rintro e w4 ⟨rfl, hc⟩
    replace hwb := hwb.non hc
    clear hc
    obtain ⟨p0, p1, p2, p3, p4, p5, p6⟩ := hwb.1.seven
    obtain ⟨q0, q1, q2, q3, q4, q5, q6⟩ := hwb.2.1.seven
    obtain ⟨s0, s1, s2, s3, s4, s5, s6⟩ := hwb.2.2.1.seven
    go_wp2_with fail
    refine (hBA _).mono ?_
    rintro e w5 ⟨rfl, hc⟩
    replace hwb := hwb.non hc
    clear hc
    obtain ⟨p0, p1, p2, p3, p4, p5, p6⟩ := hwb.1.seven
    obtain ⟨q0, q1, q2, q3, q4, q5, q6⟩ := hwb.2.1.seven
    obtain ⟨s0, s1, s2, s3, s4, s5, s6⟩ := hwb.2.2.1.seven
    go_wp2_with fail
    refine (hBC _).mono ?_
    rintro e w6 ⟨rfl, hc⟩
    replace hwb := hwb.non hc
    clear hc
    obtain ⟨p0, p1, p2, p3, p4, p5, p6⟩ := hwb.1.seven
    obtain ⟨q0, q1, q2, q3, q4, q5, q6⟩ := hwb.2.1.seven
    obtain ⟨s0, s1, s2, s3, s4, s5, s6⟩ := hwb.2.2.1.seven
    go_wp2_with fail
    refine (hAC _).mono ?_
    rintro e w7 ⟨rfl, hc⟩
    replace hwb := hwb.non hc
    clear hc
    obtain ⟨p0, p1, p2, p3, p4, p5, p6⟩ := hwb.1.seven
    obtain ⟨q0, q1, q2, q3, q4, q5, q6⟩ := hwb.2.1.seven
    obtain ⟨s0, s1, s2, s3, s4, s5, s6⟩ := hwb.2.2.1.seven
    have HW := Lib.hid hwb.2.2.2
    go_wp2_with fail
    refine (awake10_any _).mono ?_
    rintro e w9 ⟨rfl, hc9⟩
    go_wp2
    go_ret
    exact ⟨rfl, (HW.out.trans hc9 (fun _ x => x.elim)).non_below⟩
  · obtain ⟨p0, p1, p2, p3, p4, p5, p6⟩ := hwb.1.seven
    obtain ⟨q0, q1, q2, q3, q4, q5, q6⟩ := hwb.2.1.seven
    obtain ⟨s0, s1, s2, s3, s4, s5, s6⟩ := hwb.2.2.1.seven
    go_enter Try.func10, Try.ntmps10
    go_wp2_with fail
    refine (hAB _).mono ?_
    rintro e w2 ⟨rfl, hc⟩
    replace hwb := hwb.non hc
    clear hc
    obtain ⟨p0, p1, p2, p3, p4, p5, p6⟩ := hwb.1.seven
    obtain ⟨q0, q1, q2, q3, q4, q5, q6⟩ := hwb.2.1.seven
    obtain ⟨s0, s1, s2, s3, s4, s5, s6⟩ := hwb.2.2.1.seven
    go_wp2_with fail
    refine (hHab _).mono ?_
    rintro e w3 ⟨rfl, hc⟩
    replace hwb := hwb.non hc
    clear hc
    obtain ⟨p0, p1, p2, p3, p4, p5, p6⟩ := hwb.1.seven
    obtain ⟨q0, q1, q2, q3, q4, q5, q6⟩ := hwb.2.1.seven
    obtain ⟨s0, s1, s2, s3, s4, s5, s6⟩ := hwb.2.2.1.seven
    go_wp2_with fail
    refine (hHba _).mono ?_
    rintro e w4 ⟨rfl, hc⟩
    replace hwb := hwb.non hc
    clear hc
    obtain ⟨p0, p1, p2, p3, p4, p5, p6⟩ := hwb.1.seven
    obtain ⟨q0, q1, q2, q3, q4, q5, q6⟩ := hwb.2.1.seven
    obtain ⟨s0, s1, s2, s3, s4, s5, s6⟩ := hwb.2.2.1.seven
    go_wp2_with fail
    refine (hBA _).mono ?_
    rintro e w5 ⟨rfl, hc⟩
    replace hwb := hwb.non hc
    clear hc
    obtain ⟨p0, p1, p2, p3, p4, p5, p6⟩ := hwb.1.seven
    obtain ⟨q0, q1, q2, q3, q4, q5, q6⟩ := hwb.2.1.seven
    obtain ⟨s0, s1, s2, s3, s4, s5, s6⟩ := hwb.2.2.1.seven
    go_wp2_with fail
    refine (hBC _).mono ?_
    rintro e w6 ⟨rfl, hc⟩
    replace hwb := hwb.non hc
    clear hc
    obtain ⟨p0, p1, p2, p3, p4, p5, p6⟩ := hwb.1.seven
    obtain ⟨q0, q1, q2, q3, q4, q5, q6⟩ := hwb.2.1.seven
    obtain ⟨s0, s1, s2, s3, s4, s5, s6⟩ := hwb.2.2.1.seven
    go_wp2_with fail
    refine (hAC _).mono ?_
    rintro e w7 ⟨rfl, hc⟩
    replace hwb := hwb.non hc
    clear hc
    obtain ⟨p0, p1, p2, p3, p4, p5, p6⟩ := hwb.1.seven
    obtain ⟨q0, q1, q2, q3, q4, q5, q6⟩ := hwb.2.1.seven
    obtain ⟨s0, s1, s2, s3, s4, s5, s6⟩ := hwb.2.2.1.seven
    have HW := Lib.hid hwb.2.2.2
    go_wp2_with fail
    refine (awake10_any _).mono ?_
    rintro e w9 ⟨rfl, hc9⟩
    go_wp2
    go_ret
    exact ⟨rfl, (HW.out.trans hc9 (fun _ x => x.elim)).non_below⟩
  · obtain ⟨p0, p1, p2, p3, p4, p5, p6⟩ := hwb.1.seven
    obtain ⟨q0, q1, q2, q3, q4, q5, q6⟩ := hwb.2.1.seven
    obtain ⟨s0, s1, s2, s3, s4, s5, s6⟩ := hwb.2.2.1.seven
    go_enter Try.func10, Try.ntmps10
    go_wp2_with fail
    refine (hAB _).mono ?_
    rintro e w2 ⟨rfl, hc⟩
    replace hwb := hwb.non hc
    clear hc
    obtain ⟨p0, p1, p2, p3, p4, p5, p6⟩ := hwb.1.seven
    obtain ⟨q0, q1, q2, q3, q4, q5, q6⟩ := hwb.2.1.seven
    obtain ⟨s0, s1, s2, s3, s4, s5, s6⟩ := hwb.2.2.1.seven
    go_wp2_with fail
    refine (hHab _).mono ?_
    rintro e w3 ⟨rfl, hc⟩
    replace hwb := hwb.non hc
    clear hc
    obtain ⟨p0, p1, p2, p3, p4, p5, p6⟩ := hwb.1.seven
    obtain ⟨q0, q1, q2, q3, q4, q5, q6⟩ := hwb.2.1.seven
    obtain ⟨s0, s1, s2, s3, s4, s5, s6⟩ := hwb.2.2.1.seven
    go_wp2_with fail
    refine (hHba _).mono ?_
    rintro e w4 ⟨rfl, hc⟩
    replace hwb := hwb.non hc
    clear hc
    obtain ⟨p0, p1, p2, p3, p4, p5, p6⟩ := hwb.1.seven
    obtain ⟨q0, q1, q2, q3, q4, q5, q6⟩ := hwb.2.1.seven
    obtain ⟨s0, s1, s2, s3, s4, s5, s6⟩ := hwb.2.2.1.seven
    go_wp2_with fail
    refine (hBA _).mono ?_
    rintro e w5 ⟨rfl, hc⟩
    replace hwb := hwb.non hc
    clear hc
    obtain ⟨p0, p1, p2, p3, p4, p5, p6⟩ := hwb.1.seven
    obtain ⟨q0, q1, q2, q3, q4, q5, q6⟩ := hwb.2.1.seven
    obtain ⟨s0, s1, s2, s3, s4, s5, s6⟩ := hwb.2.2.1.seven
    go_wp2_with fail
    refine (hBC _).mono ?_
    rintro e w6 ⟨rfl, hc⟩
    replace hwb := hwb.non hc
    clear hc
    obtain ⟨p0, p1, p2, p3, p4, p5, p6⟩ := hwb.1.seven
    obtain ⟨q0, q1, q2, q3, q4, q5, q6⟩ := hwb.2.1.seven
    obtain ⟨s0, s1, s2, s3, s4, s5, s6⟩ := hwb.2.2.1.seven
    have HW := Lib.hid hwb.2.2.2
    go_wp2_with fail
    refine (awake10_any _).mono ?_
    rintro e w9 ⟨rfl, hc9⟩
    go_wp2
    go_ret
    exact ⟨rfl, (HW.out.trans hc9 (fun _ x => x.elim)).non_below⟩
  · obtain ⟨p0, p1, p2, p3, p4, p5, p6⟩ := hwb.1.seven
    obtain ⟨q0, q1, q2, q3, q4, q5, q6⟩ := hwb.2.1.seven
    obtain ⟨s0, s1, s2, s3, s4, s5, s6⟩ := hwb.2.2.1.seven
    go_enter Try.func10, Try.ntmps10
    go_wp2_with fail
    refine (hAB _).mono ?_
    rintro e w2 ⟨rfl, hc⟩
    replace hwb := hwb.non hc
    clear hc
    obtain ⟨p0, p1, p2, p3, p4, p5, p6⟩ := hwb.1.seven
    obtain ⟨q0, q1, q2, q3, q4, q5, q6⟩ := hwb.2.1.seven
    obtain ⟨s0, s1, s2, s3, s4, s5, s6⟩ := hwb.2.2.1.seven
    go_wp2_with fail
    refine (hHab _).mono ?_
    rintro e w3 ⟨rfl, hc⟩
    replace hwb := hwb.non hc
    clear hc
    obtain ⟨p0, p1, p2, p3, p4, p5, p6⟩ := hwb.1.seven
    obtain ⟨q0, q1, q2, q3, q4, q5, q6⟩ := hwb.2.1.seven
    obtain ⟨s0, s1, s2, s3, s4, s5, s6⟩ := hwb.2.2.1.seven
    go_wp2_with fail
    refine (hHba _).mono ?_
    rintro e w4 ⟨rfl, hc⟩
    replace hwb := hwb.non hc
    clear hc
    obtain ⟨p0, p1, p2, p3, p4, p5, p6⟩ := hwb.1.seven
    obtain ⟨q0, q1, q2, q3, q4, q5, q6⟩ := hwb.2.1.seven
    obtain ⟨s0, s1, s2, s3, s4, s5, s6⟩ := hwb.2.2.1.seven
    go_wp2_with fail
    refine (hBA _).mono ?_
    rintro e w5 ⟨rfl, hc⟩
    replace hwb := hwb.non hc
    clear hc
    obtain ⟨p0, p1, p2, p3, p4, p5, p6⟩ := hwb.1.seven
    obtain ⟨q0, q1, q2, q3, q4, q5, q6⟩ := hwb.2.1.seven
    obtain ⟨s0, s1, s2, s3, s4, s5, s6⟩ := hwb.2.2.1.seven
    go_wp2_with fail
    refine (hBC _).mono ?_
    rintro e w6 ⟨rfl, hc⟩
    replace hwb := hwb.non hc
    clear hc
    obtain ⟨p0, p1, p2, p3, p4, p5, p6⟩ := hwb.1.seven
    obtain ⟨q0, q1, q2, q3, q4, q5, q6⟩ := hwb.2.1.seven
    obtain ⟨s0, s1, s2, s3, s4, s5, s6⟩ := hwb.2.2.1.seven
    go_wp2_with fail
    refine (hAC _).mono ?_
    rintro e w7 ⟨rfl, hc⟩
    replace hwb := hwb.non hc
    clear hc
    obtain ⟨p0, p1, p2, p3, p4, p5, p6⟩ := hwb.1.seven
    obtain ⟨q0, q1, q2, q3, q4, q5, q6⟩ := hwb.2.1.seven
    obtain ⟨s0, s1, s2, s3, s4, s5, s6⟩ := hwb.2.2.1.seven
    have HW := Lib.hid hwb.2.2.2
    go_wp2_with fail
    refine (awake10_any _).mono ?_
    rintro e w9 ⟨rfl, hc9⟩
    go_wp2
    go_ret
    exact ⟨rfl, (HW.out.trans hc9 (fun _ x => x.elim)).non_below⟩
  · obtain ⟨p0, p1, p2, p3, p4, p5, p6⟩ := hwb.1.seven
    obtain ⟨q0, q1, q2, q3, q4, q5, q6⟩ := hwb.2.1.seven
    obtain ⟨s0, s1, s2, s3, s4, s5, s6⟩ := hwb.2.2.1.seven
    go_enter Try.func10, Try.ntmps10
    go_wp2_with fail
    refine (hAB _).mono ?_
    rintro e w2 ⟨rfl, hc⟩
    replace hwb := hwb.non hc
    clear hc
    obtain ⟨p0, p1, p2, p3, p4, p5, p6⟩ := hwb.1.seven
    obtain ⟨q0, q1, q2, q3, q4, q5, q6⟩ := hwb.2.1.seven
    obtain ⟨s0, s1, s2, s3, s4, s5, s6⟩ := hwb.2.2.1.seven
    go_wp2_with fail
    refine (hHab _).mono ?_
    rintro e w3 ⟨rfl, hc⟩
    replace hwb := hwb.non hc
    clear hc
    obtain ⟨p0, p1, p2, p3, p4, p5, p6⟩ := hwb.1.seven
    obtain ⟨q0, q1, q2, q3, q4, q5, q6⟩ := hwb.2.1.seven
    obtain ⟨s0, s1, s2, s3, s4, s5, s6⟩ := hwb.2.2.1.seven
    go_wp2_with fail
    refine (hHba _).mono ?_
    rintro e w4 ⟨rfl, hc⟩
    replace hwb := hwb.non hc
    clear hc
    obtain ⟨p0, p1, p2, p3, p4, p5, p6⟩ := hwb.1.seven
    obtain ⟨q0, q1, q2, q3, q4, q5, q6⟩ := hwb.2.1.seven
    obtain ⟨s0, s1, s2, s3, s4, s5, s6⟩ := hwb.2.2.1.seven
    go_wp2_with fail
    refine (hBA _).mono ?_
    rintro e w5 ⟨rfl, hc⟩
    replace hwb := hwb.non hc
    clear hc
    obtain ⟨p0, p1, p2, p3, p4, p5, p6⟩ := hwb.1.seven
    obtain ⟨q0, q1, q2, q3, q4, q5, q6⟩ := hwb.2.1.seven
    obtain ⟨s0, s1, s2, s3, s4, s5, s6⟩ := hwb.2.2.1.seven
    go_wp2_with fail
    refine (hBC _).mono ?_
    rintro e w6 ⟨rfl, hc⟩
    replace hwb := hwb.non hc
    clear hc
    obtain ⟨p0, p1, p2, p3, p4, p5, p6⟩ := hwb.1.seven
    obtain ⟨q0, q1, q2, q3, q4, q5, q6⟩ := hwb.2.1.seven
    obtain ⟨s0, s1, s2, s3, s4, s5, s6⟩ := hwb.2.2.1.seven
    go_wp2_with fail
    refine (hAC _).mono ?_
    rintro e w7 ⟨rfl, hc⟩
    replace hwb := hwb.non hc
    clear hc
    obtain ⟨p0, p1, p2, p3, p4, p5, p6⟩ := hwb.1.seven
    obtain ⟨q0, q1, q2, q3, q4, q5, q6⟩ := hwb.2.1.seven
    obtain ⟨s0, s1, s2, s3, s4, s5, s6⟩ := hwb.2.2.1.seven
    have HW := Lib.hid hwb.2.2.2
    go_wp2_with fail
    refine (awake10_any _).mono ?_
    rintro e w9 ⟨rfl, hc9⟩
    go_wp2
    go_ret
    exact ⟨rfl, (HW.out.trans hc9 (fun _ x => x.elim)).non_below⟩
  · obtain ⟨p0, p1, p2, p3, p4, p5, p6⟩ := hwb.1.seven
    obtain ⟨q0, q1, q2, q3, q4, q5, q6⟩ := hwb.2.1.seven
    obtain ⟨s0, s1, s2, s3, s4, s5, s6⟩ := hwb.2.2.1.seven
    go_enter Try.func10, Try.ntmps10
    go_wp2_with fail
    refine (hAB _).mono ?_
    rintro e w2 ⟨rfl, hc⟩
    replace hwb := hwb.non hc
    clear hc
    obtain ⟨p0, p1, p2, p3, p4, p5, p6⟩ := hwb.1.seven
    obtain ⟨q0, q1, q2, q3, q4, q5, q6⟩ := hwb.2.1.seven
    obtain ⟨s0, s1, s2, s3, s4, s5, s6⟩ := hwb.2.2.1.seven
    go_wp2_with fail
    refine (hHab _).mono ?_
    rintro e w3 ⟨rfl, hc⟩
    replace hwb := hwb.non hc
    clear hc
    obtain ⟨p0, p1, p2, p3, p4, p5, p6⟩ := hwb.1.seven
    obtain ⟨q0, q1, q2, q3, q4, q5, q6⟩ := hwb.2.1.seven
    obtain ⟨s0, s1, s2, s3, s4, s5, s6⟩ := hwb.2.2.1.seven
    go_wp2_with fail
    refine (hHba _).mono ?_
    rintro e w4 ⟨rfl, hc⟩
    replace hwb := hwb.non hc
    clear hc
    obtain ⟨p0, p1, p2, p3, p4, p5, p6⟩ := hwb.1.seven
    obtain ⟨q0, q1, q2, q3, q4, q5, q6⟩ := hwb.2.1.seven
    obtain ⟨s0, s1, s2, s3, s4, s5, s6⟩ := hwb.2.2.1.seven
    go_wp2_with fail
    refine (hBA _).mono ?_
    rintro e w5 ⟨rfl, hc⟩
    replace hwb := hwb.non hc
    clear hc
    obtain ⟨p0, p1, p2, p3, p4, p5, p6⟩ := hwb.1.seven
    obtain ⟨q0, q1, q2, q3, q4, q5, q6⟩ := hwb.2.1.seven
    obtain ⟨s0, s1, s2, s3, s4, s5, s6⟩ := hwb.2.2.1.seven
    go_wp2_with fail
    refine (hBC _).mono ?_
    rintro e w6 ⟨rfl, hc⟩
    replace hwb := hwb.non hc
    clear hc
    obtain ⟨p0, p1, p2, p3, p4, p5, p6⟩ := hwb.1.seven
    obtain ⟨q0, q1, q2, q3, q4, q5, q6⟩ := hwb.2.1.seven
    obtain ⟨s0, s1, s2, s3, s4, s5, s6⟩ := hwb.2.2.1.seven
    go_wp2_with fail
    refine (hAC _).mono ?_
    rintro e w7 ⟨rfl, hc⟩
    replace hwb := hwb.non hc
    clear hc
    obtain ⟨p0, p1, p2, p3, p4, p5, p6⟩ := hwb.1.seven
    obtain ⟨q0, q1, q2, q3, q4, q5, q6⟩ := hwb.2.1.seven
    obtain ⟨s0, s1, s2, s3, s4, s5, s6⟩ := hwb.2.2.1.seven
    have HW := Lib.hid hwb.2.2.2
    go_wp2_with fail
    refine (awake10_any _).mono ?_
    rintro e w9 ⟨rfl, hc9⟩
    go_wp2
    go_ret
    exact ⟨rfl, (HW.out.trans hc9 (fun _ x => x.elim)).non_below⟩
  · obtain ⟨p0, p1, p2, p3, p4, p5, p6⟩ := hwb.1.seven
    obtain ⟨q0, q1, q2, q3, q4, q5, q6⟩ := hwb.2.1.seven
    obtain ⟨s0, s1, s2, s3, s4, s5, s6⟩ := hwb.2.2.1.seven
    go_enter Try.func10, Try.ntmps10
    go_wp2_with fail
    refine (hAB _).mono ?_
    rintro e w2 ⟨rfl, hc⟩
    replace hwb := hwb.non hc
    clear hc
    obtain ⟨p0, p1, p2, p3, p4, p5, p6⟩ := hwb.1.seven
    obtain ⟨q0, q1, q2, q3, q4, q5, q6⟩ := hwb.2.1.seven
    obtain ⟨s0, s1, s2, s3, s4, s5, s6⟩ := hwb.2.2.1.seven
    go_wp2_with fail
    refine (hHab _).mono ?_
    rintro e w3 ⟨rfl, hc⟩
    replace hwb := hwb.non hc
    clear hc
    obtain ⟨p0, p1, p2, p3, p4, p5, p6⟩ := hwb.1.seven
    obtain ⟨q0, q1, q2, q3, q4, q5, q6⟩ := hwb.2.1.seven
    obtain ⟨s0, s1, s2, s3, s4, s5, s6⟩ := hwb.2.2.1.seven
    go_wp2_with fail
    refine (hHba _).mono ?_
    rintro e w4 ⟨rfl, hc⟩
    replace hwb := hwb.non hc
    clear hc
    obtain ⟨p0, p1, p2, p3, p4, p5, p6⟩ := hwb.1.seven
    obtain ⟨q0, q1, q2, q3, q4, q5, q6⟩ := hwb.2.1.seven
    obtain ⟨s0, s1, s2, s3, s4, s5, s6⟩ := hwb.2.2.1.seven
    go_wp2_with fail
    refine (hBA _).mono ?_
    rintro e w5 ⟨rfl, hc⟩
    replace hwb := hwb.non hc
    clear hc
    obtain ⟨p0, p1, p2, p3, p4, p5, p6⟩ := hwb.1.seven
    obtain ⟨q0, q1, q2, q3, q4, q5, q6⟩ := hwb.2.1.seven
    obtain ⟨s0, s1, s2, s3, s4, s5, s6⟩ := hwb.2.2.1.seven
    go_wp2_with fail
    refine (hBC _).mono ?_
    rintro e w6 ⟨rfl, hc⟩
    replace hwb := hwb.non hc
    clear hc
    obtain ⟨p0, p1, p2, p3, p4, p5, p6⟩ := hwb.1.seven
    obtain ⟨q0, q1, q2, q3, q4, q5, q6⟩ := hwb.2.1.seven
    obtain ⟨s0, s1, s2, s3, s4, s5, s6⟩ := hwb.2.2.1.seven
    go_wp2_with fail
    refine (hAC _).mono ?_
    rintro e w7 ⟨rfl, hc⟩
    replace hwb := hwb.non hc
    clear hc
    obtain ⟨p0, p1, p2, p3, p4, p5, p6⟩ := hwb.1.seven
    obtain ⟨q0, q1, q2, q3, q4, q5, q6⟩ := hwb.2.1.seven
    obtain ⟨s0, s1, s2, s3, s4, s5, s6⟩ := hwb.2.2.1.seven
    have HW := Lib.hid hwb.2.2.2
    go_wp2_with fail
    refine (awake10_any _).mono ?_
    rintro e w9 ⟨rfl, hc9⟩
    go_wp2
    go_ret
    exact ⟨rfl, (HW.out.trans hc9 (fun _ x => x.elim)).non_below⟩
end Go.Proofs.Ytmdpbbnieehmnaa
