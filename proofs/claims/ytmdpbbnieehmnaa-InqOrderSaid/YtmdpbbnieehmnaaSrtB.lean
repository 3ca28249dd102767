/- keys.Compare, what keys.Sort compares by, and two elements of a row swapped. -/
import Derived.Test.YtmdpbbnieehmnaaSrtA
namespace Go.Proofs.Ytmdpbbnieehmnaa
open Go.RowKit
set_option linter.unusedSimpArgs false
set_option linter.unusedVariables false

theorem key_eq (a b : Ev) (w : World) : (binOp .eql 23 (.agg #[.int .i64 a.at_, .int .i64 a.src, .int .i64 a.sent, .int .i64 a.no]) (.agg #[.int .i64 b.at_, .int .i64 b.src, .int .i64 b.sent, .int .i64 b.no])).run Try.prog w = .ok (.bool (decide (cmpK a b = 0))) w := by
  rw [run_eql_struct]
  have h := key_eqB 9998 a.at_ a.src a.sent a.no b.at_ b.src b.sent b.no w
  rw [show 10000 = 9998 + 2 from rfl, h]
  have : (a.at_ = b.at_ ∧ a.src = b.src ∧ a.sent = b.sent ∧ a.no = b.no) ↔ cmpK a b = 0 := by
    constructor
    · rintro ⟨h1, h2, h3, h4⟩
      unfold cmpK Ev.k4
      rw [h1, h2, h3, h4, lexC_self]
    · intro h
      have := lexC_zero a.k4 b.k4 rfl h
      unfold Ev.k4 at this
      simpa using this
  rw [decide_eq_decide.2 this]
  rfl
set_option maxHeartbeats 4000000 in
set_option maxRecDepth 100000 in
theorem keyCmp_any (a b : Ev) (w : World) : Calls Try.prog 14 #[a.kval, b.kval] w fun e w' => e = .returned (.int .i64 (cmpK a b)) ∧ Chg Non w w' := by
  have h1 := (Blk.new w #[.int .i64 a.at_, .int .i64 a.src, .int .i64 a.sent, .int .i64 a.no] 23).alloc (.cells #[.int .i64 b.at_, .int .i64 b.src, .int .i64 b.sent, .int .i64 b.no] 23)
  have h2 := Blk.new_at (w := w.alloc (.cells #[.int .i64 a.at_, .int .i64 a.src, .int .i64 a.sent, .int .i64 a.no] 23)) (cs := #[.int .i64 b.at_, .int .i64 b.src, .int .i64 b.sent, .int .i64 b.no]) (t := 23) (g := w.heap.size + 1) (by simp)
  obtain ⟨a0, a1, a2, a3⟩ := h1.four'
  obtain ⟨b0, b1, b2, b3⟩ := h2.four'
  have hca : Chg Non w ((w.alloc (.cells #[.int .i64 a.at_, .int .i64 a.src, .int .i64 a.sent, .int .i64 a.no] 23)).alloc (.cells #[.int .i64 b.at_, .int .i64 b.src, .int .i64 b.sent, .int .i64 b.no] 23)) := ((Chg.refl Non w).alloc _).alloc _
  have hB := fun w => before_any a b w
  have hq := fun w => key_eq a b w
  have hrg : cmpK a b = -1 ∨ cmpK a b = 0 ∨ cmpK a b = 1 := lexC_range a.k4 b.k4
  have hb : beforeB a b = decide (cmpK a b < 0) := rfl
  rw [hb] at hB
  clear hb
  unfold Ev.kval at *
  obtain ⟨r, hr⟩ : ∃ r, cmpK a b = r := ⟨_, rfl⟩
  rw [hr] at hrg hB
  have hq' : ∀ w, (binOp .eql 23 (.agg #[.int .i64 a.at_, .int .i64 a.src, .int .i64 a.sent, .int .i64 a.no]) (.agg #[.int .i64 b.at_, .int .i64 b.src, .int .i64 b.sent, .int .i64 b.no])).run Try.prog w = .ok (.bool (decide (r = 0))) w := fun w => by rw [hq, hr]
  have HR := Lib.hid hr
  clear hq hr
  rw [HR.out]
  rcases hrg with rfl | rfl | rfl
  all_goals
    go_enter Try.func14, Try.ntmps14
    go_wp2_with fail
    refine (hB _).mono ?_
    rintro e w2 ⟨rfl, hc2⟩
    obtain ⟨p0, p1, p2, p3⟩ := (h1.chg hc2 id).four'
    obtain ⟨q0, q1, q2, q3⟩ := (h2.chg hc2 id).four'
    go_wp2
    go_ret
    exact ⟨rfl, hca.trans hc2 (fun _ x => x.elim)⟩
set_option maxHeartbeats 4000000 in
set_option maxRecDepth 100000 in
theorem sortF1_any (a b : Ev) (w : World) : Calls Try.prog 48 #[a.val, b.val] w fun e w' => e = .returned (.int .i64 (cmpK a b)) ∧ Chg Non w w' := by
  have hc0 := ((Chg.refl Non w).alloc (.cells #[.int .i64 a.at_, .int .i64 a.src, .int .i64 a.sent, .int .i64 a.no, .int .i64 a.dst, .int .i64 a.kind, .int .i64 a.data] 31)).alloc (.cells #[.int .i64 b.at_, .int .i64 b.src, .int .i64 b.sent, .int .i64 b.no, .int .i64 b.dst, .int .i64 b.kind, .int .i64 b.data] 31)
  have h1 := (Blk.new w #[.int .i64 a.at_, .int .i64 a.src, .int .i64 a.sent, .int .i64 a.no, .int .i64 a.dst, .int .i64 a.kind, .int .i64 a.data] 31).alloc (.cells #[.int .i64 b.at_, .int .i64 b.src, .int .i64 b.sent, .int .i64 b.no, .int .i64 b.dst, .int .i64 b.kind, .int .i64 b.data] 31)
  have h2 := Blk.new_at (w := w.alloc (.cells #[.int .i64 a.at_, .int .i64 a.src, .int .i64 a.sent, .int .i64 a.no, .int .i64 a.dst, .int .i64 a.kind, .int .i64 a.data] 31)) (cs := #[.int .i64 b.at_, .int .i64 b.src, .int .i64 b.sent, .int .i64 b.no, .int .i64 b.dst, .int .i64 b.kind, .int .i64 b.data]) (t := 31) (g := w.heap.size + 1) (by simp)
  obtain ⟨a0, a1, a2, a3, a4, a5, a6⟩ := h1.seven
  obtain ⟨b0, b1, b2, b3, b4, b5, b6⟩ := h2.seven
  have hB := fun w => keyCmp_any a b w
  unfold Ev.kval at hB
  unfold Ev.val
  go_enter Try.func48, Try.ntmps48
  go_wp2_with fail
  refine (hB _).mono ?_
  rintro e w2 ⟨rfl, hc2⟩
  go_wp2
  go_ret
  exact ⟨rfl, hc0.trans hc2 (fun _ x => x.elim)⟩

/-- A row of its own at g, of the elements R. -/
def RowE (W : World) (g cap : Nat) (R : List Ev) : Prop := W.ownsRow 0 31 7 (.slice (some ⟨g, 0, none⟩) R.length cap) R.length (R.flatMap Ev.cells)
theorem RowE.read {W : World} {g cap : Nat} {R : List Ev} (h : RowE W g cap R) : SlRead Ev.cells 7 W (some ⟨g, 0, none⟩) R.length cap R := own_read Ev.len h (by decide)
theorem RowE.lt {W : World} {g cap : Nat} {R : List Ev} (h : RowE W g cap R) : g < W.heap.size := own_block_lt h
theorem RowE.non {W W' : World} {g cap : Nat} {R : List Ev} (h : RowE W g cap R) (hc : Chg Non W W') : RowE W' g cap R := own_chg h hc id
theorem RowE.drew {W : World} {g cap : Nat} {R : List Ev} (h : RowE W g cap R) : RowE W.drew g cap R := h
theorem RowE.at_ {W : World} {g cap : Nat} {R : List Ev} (h : RowE W g cap R) {i : Nat} (hi : i < R.length) :
    W.cell? ⟨g, i * 7, none⟩ = some (.int .i64 (gE R i).at_) ∧ W.cell? ⟨g, i * 7 + 1, none⟩ = some (.int .i64 (gE R i).src) ∧ W.cell? ⟨g, i * 7 + 2, none⟩ = some (.int .i64 (gE R i).sent) ∧ W.cell? ⟨g, i * 7 + 3, none⟩ = some (.int .i64 (gE R i).no) ∧ W.cell? ⟨g, i * 7 + 4, none⟩ = some (.int .i64 (gE R i).dst) ∧ W.cell? ⟨g, i * 7 + 5, none⟩ = some (.int .i64 (gE R i).kind) ∧ W.cell? ⟨g, i * 7 + 6, none⟩ = some (.int .i64 (gE R i).data) := by
  obtain ⟨ad, e, c⟩ := ev_at h.read (gE_some hi)
  cases e
  rw [add_plain] at c
  exact c
theorem RowE.frz {W : World} {g cap : Nat} {R : List Ev} (h : RowE W g cap R) (j : Nat) (hr : 0 < R.length) : W.frozen? ⟨g, j, none⟩ = false := by
  obtain ⟨h1, h2⟩ := h
  rcases h2 with ⟨hv, _⟩ | ⟨g', cap', cur, hv, hb, hh, _⟩
  · cases hv
  · cases hv
    exact Blk.frozen (t := 31) hh j
/-- What stores two elements of a row, one behind the other. -/
def swapW (W : World) (g i j : Nat) (x y : Ev) : World :=
  (((((((((((((W.setCell ⟨g, i * 7, none⟩ (.int .i64 y.at_)).setCell ⟨g, i * 7 + 1, none⟩ (.int .i64 y.src)).setCell ⟨g, i * 7 + 2, none⟩ (.int .i64 y.sent)).setCell ⟨g, i * 7 + 3, none⟩ (.int .i64 y.no)).setCell ⟨g, i * 7 + 4, none⟩ (.int .i64 y.dst)).setCell ⟨g, i * 7 + 5, none⟩ (.int .i64 y.kind)).setCell ⟨g, i * 7 + 6, none⟩ (.int .i64 y.data)).setCell ⟨g, j * 7, none⟩ (.int .i64 x.at_)).setCell ⟨g, j * 7 + 1, none⟩ (.int .i64 x.src)).setCell ⟨g, j * 7 + 2, none⟩ (.int .i64 x.sent)).setCell ⟨g, j * 7 + 3, none⟩ (.int .i64 x.no)).setCell ⟨g, j * 7 + 4, none⟩ (.int .i64 x.dst)).setCell ⟨g, j * 7 + 5, none⟩ (.int .i64 x.kind)).setCell ⟨g, j * 7 + 6, none⟩ (.int .i64 x.data)
theorem Chg.set7o (w : World) (g o : Nat) (a b c d e f h : Value) : Chg (· = g) w (((((((w.setCell ⟨g, o, none⟩ a).setCell ⟨g, o + 1, none⟩ b).setCell ⟨g, o + 2, none⟩ c).setCell ⟨g, o + 3, none⟩ d).setCell ⟨g, o + 4, none⟩ e).setCell ⟨g, o + 5, none⟩ f).setCell ⟨g, o + 6, none⟩ h) :=
  (((((((Chg.refl (· = g) w).setCell (p := ⟨g, o, none⟩) (.inl rfl) _).setCell (p := ⟨g, o + 1, none⟩) (.inl rfl) _).setCell (p := ⟨g, o + 2, none⟩) (.inl rfl) _).setCell (p := ⟨g, o + 3, none⟩) (.inl rfl) _).setCell (p := ⟨g, o + 4, none⟩) (.inl rfl) _).setCell (p := ⟨g, o + 5, none⟩) (.inl rfl) _).setCell (p := ⟨g, o + 6, none⟩) (.inl rfl) _
theorem RowE.swap {W : World} {g cap : Nat} {R : List Ev} (h : RowE W g cap R) {i j : Nat} (hi : i < R.length) (hj : j < R.length) : RowE (swapW W g i j (gE R i) (gE R j)) g cap (swp R i j) ∧ Chg (· = g) W (swapW W g i j (gE R i) (gE R j)) := by
  constructor
  · have h1 := own_set7 h hi (gE R j)
    have h2 := own_set7 h1 hj (gE R i)
    unfold RowE
    rw [swp_len]
    unfold swapW swp
    exact h2
  · exact (Chg.set7o W g (i * 7) _ _ _ _ _ _ _).trans (Chg.set7o _ g (j * 7) _ _ _ _ _ _ _) (fun i h => .inl h)
end Go.Proofs.Ytmdpbbnieehmnaa
