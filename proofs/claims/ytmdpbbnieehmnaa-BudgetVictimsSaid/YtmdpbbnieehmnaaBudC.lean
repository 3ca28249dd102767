/- budget: Fit. -/
import Derived.Test.YtmdpbbnieehmnaaBudB
import Derived.StillTailTactics
namespace Go.Proofs.Ytmdpbbnieehmnaa
open Go.RowKit

theorem room_any (b : Nat) (w : World) (room : Int) (hb : w.cell? ⟨b, 0, none⟩ = some (.int .i64 room)) : Calls Try.prog 25 #[.pointer (some ⟨b, 0, none⟩)] w fun e w' => e = .returned (.int .i64 room) ∧ w = w' := by
  go_enter Try.func25, Try.ntmps25
  go_wp2
  go_ret
  exact ⟨rfl, rfl⟩
theorem room_nil (w : World) : Calls Try.prog 25 #[.pointer none] w fun e w' => e = .returned (.int .i64 0) ∧ w = w' := by
  go_enter Try.func25, Try.ntmps25
  go_wp2
  go_ret
  exact ⟨rfl, rfl⟩
abbrev countsV (c0 c1 c2 c3 c4 : Int) : Value := .agg #[.int .i64 c0, .int .i64 c1, .int .i64 c2, .int .i64 c3, .int .i64 c4]
theorem worst_nil (w : World) : Calls Try.prog 26 #[.pointer none] w fun e w' => e = .returned (countsV 0 0 0 0 0) ∧ Below w.heap.size w w' := by
  go_enter Try.func26, Try.ntmps26
  go_wp2
  refine bodyPost_ret (v := countsV 0 0 0 0 0) (by simp [results, Try.results26, go_sem]) rfl ⟨rfl, (Below.refl _ _).alloc (Nat.le_refl _) _⟩

theorem fit_nil (c0 c1 c2 c3 c4 more : Int) (vital : Bool) (w : World) : Calls Try.prog 24 #[.pointer none, countsV c0 c1 c2 c3 c4, .int .i64 more, .bool vital] w fun e w' => e = .returned (.int .i64 2) ∧ Below w.heap.size w w' := by
  go_enter Try.func24, Try.ntmps24
  go_wp2
  go_ret
  exact ⟨rfl, (Below.refl _ _).alloc (Nat.le_refl _) _⟩

set_option maxHeartbeats 400000 in
set_option maxRecDepth 100000 in
theorem fit_bad (b : Nat) (c0 c1 c2 c3 c4 more : Int) (vital : Bool) (w : World) (h : [c0, c1, c2, c3, c4, more].any badB = true) : Calls Try.prog 24 #[.pointer (some ⟨b, 0, none⟩), countsV c0 c1 c2 c3 c4, .int .i64 more, .bool vital] w fun e w' => e = .returned (.int .i64 1) ∧ Below w.heap.size w w' := by
  have H := Lib.hid h
  clear h
  go_enter Try.func24, Try.ntmps24
  go_wp2_with (at_builtin; refine ap_grow rfl (.tmp 14) (.tmp 16) 95 rfl 3 (.int .i64 0) 1 8 Try.underlying95 (by kernel_rfl) rfl (by decide) (some ⟨w.heap.size, 0, none⟩) 5 5 [.int .i64 c0, .int .i64 c1, .int .i64 c2, .int .i64 c3, .int .i64 c4] rfl (fun h => by cases h) rfl (((Blk.new_at rfl).alloc _).reads _ rfl) ⟨w.heap.size + 1, 0, none⟩ 1 1 [.int .i64 more] rfl rfl ((Blk.new_at (by simp)).reads' _ rfl) (by simp [Value.oneCell']) (by omega) (by decide) (by decide) ?_; intro g cap w1 hc1 hc2 hown hchg)
  refine (containsfit_any [c0, c1, c2, c3, c4, more] 6 g cap w1 rfl (by omega) (own_ints (xs := [c0, c1, c2, c3, c4, more]) hown)).mono ?_
  rintro e w' ⟨rfl, rfl⟩
  rw [H.out]
  go_wp2
  go_ret
  exact ⟨rfl, (((Chg.refl Non w).alloc _).alloc _ |>.trans hchg (fun _ x => x.elim)).non_below⟩
theorem not_bad {n : Int} (h : badB n = false) : 0 ≤ n ∧ n ≤ 1073741824 := by
  unfold badB at h
  rw [Bool.or_eq_false_iff] at h
  have h1 := of_decide_eq_false h.1
  have h2 := of_decide_eq_false h.2
  omega
theorem good_of {n : Int} (h : 0 ≤ n) (h2 : n ≤ 1073741824) : badB n = false := by
  unfold badB
  rw [Bool.or_eq_false_iff]
  exact ⟨decide_eq_false (by omega), decide_eq_false (by omega)⟩

def isGood (c0 c1 c2 c3 c4 more : Int) : Prop := 0 ≤ c0 ∧ c0 ≤ 1073741824 ∧ 0 ≤ c1 ∧ c1 ≤ 1073741824 ∧ 0 ≤ c2 ∧ c2 ≤ 1073741824 ∧ 0 ≤ c3 ∧ c3 ≤ 1073741824 ∧ 0 ≤ c4 ∧ c4 ≤ 1073741824 ∧ 0 ≤ more ∧ more ≤ 1073741824
theorem isGood.any {c0 c1 c2 c3 c4 more : Int} (h : isGood c0 c1 c2 c3 c4 more) : [c0, c1, c2, c3, c4, more].any badB = false := by
  obtain ⟨a0, b0, a1, b1, a2, b2, a3, b3, a4, b4, a5, b5⟩ := h
  simp only [List.any_cons, List.any_nil, good_of a0 b0, good_of a1 b1, good_of a2 b2, good_of a3 b3, good_of a4 b4, good_of a5 b5, Bool.or_false]

/-- Up to the sum: what Fit does while all is good. -/
def fitNeed (c0 c1 c2 c3 c4 more reserve : Int) (vital : Bool) : Int := c0 + c1 + c2 + c3 + c4 + more + (if vital then 0 else reserve)

set_option maxHeartbeats 400000 in
set_option maxRecDepth 100000 in
theorem fit_mem (b : Nat) (room reserve v0 v1 v2 v3 v4 c0 c1 c2 c3 c4 more : Int) (vital : Bool) (w : World) (hB : Blk w b (budCells room reserve v0 v1 v2 v3 v4) 92) (hr1 : 0 ≤ room) (hr2 : room ≤ 4096) (hr3 : 0 ≤ reserve) (hr4 : reserve ≤ 4096)
    (h : isGood c0 c1 c2 c3 c4 more) (hm : room < fitNeed c0 c1 c2 c3 c4 more reserve vital) :
    Calls Try.prog 24 #[.pointer (some ⟨b, 0, none⟩), countsV c0 c1 c2 c3 c4, .int .i64 more, .bool vital] w fun e w' => e = .returned (.int .i64 20) ∧ Below w.heap.size w w' := by
  have H := Lib.hid h.any
  have hbl := hB.lt
  cases vital with
  | true =>
    replace hm : room < c0 + c1 + c2 + c3 + c4 + more + 0 := hm
    obtain ⟨a0, b0, a1, b1, a2, b2, a3, b3, a4, b4, a5, b5⟩ := h
    go_enter Try.func24, Try.ntmps24
    go_wp2_with (at_builtin; refine ap_grow rfl (.tmp 14) (.tmp 16) 95 rfl 3 (.int .i64 0) 1 8 Try.underlying95 (by kernel_rfl) rfl (by decide) (some ⟨w.heap.size, 0, none⟩) 5 5 [.int .i64 c0, .int .i64 c1, .int .i64 c2, .int .i64 c3, .int .i64 c4] rfl (fun h => by cases h) rfl (((Blk.new_at rfl).alloc _).reads _ rfl) ⟨w.heap.size + 1, 0, none⟩ 1 1 [.int .i64 more] rfl rfl ((Blk.new_at (by simp)).reads' _ rfl) (by simp [Value.oneCell']) (by omega) (by decide) (by decide) ?_; intro g cap w1 hc1 hc2 hown hchg)
    refine (containsfit_any [c0, c1, c2, c3, c4, more] 6 g cap w1 rfl (by omega) (own_ints (xs := [c0, c1, c2, c3, c4, more]) hown)).mono ?_
    rintro e w' ⟨rfl, rfl⟩
    rw [H.out]
    have hk := (((hB.alloc _).alloc _).chg hchg id)
    have hbx : Blk w1 w.heap.size #[.int .i64 c0, .int .i64 c1, .int .i64 c2, .int .i64 c3, .int .i64 c4] 39 := (((Blk.new_at rfl).alloc _).chg hchg id)
    have e0 := hbx.cell 0
    have e1 := hbx.cell 1
    have e2 := hbx.cell 2
    have e3 := hbx.cell 3
    have e4 := hbx.cell 4
    have k0 := hk.cell 0
    have k1 := hk.cell 1
    go_wp2_with fail
    refine (sum_any c0 c1 c2 c3 c4 _ (by omega) (by omega) (by omega) (by omega) (by omega) (by omega) (by omega) (by omega) (by omega) (by omega)).mono ?_
    rintro e w2 ⟨rfl, hb2⟩
    have hk2 := hk.below hb2
    have k0 := hk2.cell 0
    have k1 := hk2.cell 1
    clear e0 e1 e2 e3 e4
    go_wp2
    go_ret
    exact ⟨rfl, ((((Chg.refl Non w).alloc _).alloc _ |>.trans hchg (fun _ x => x.elim)).then_below hb2).non_below⟩
  | false =>
    replace hm : room < c0 + c1 + c2 + c3 + c4 + more + reserve := hm
    obtain ⟨a0, b0, a1, b1, a2, b2, a3, b3, a4, b4, a5, b5⟩ := h
    go_enter Try.func24, Try.ntmps24
    go_wp2_with (at_builtin; refine ap_grow rfl (.tmp 14) (.tmp 16) 95 rfl 3 (.int .i64 0) 1 8 Try.underlying95 (by kernel_rfl) rfl (by decide) (some ⟨w.heap.size, 0, none⟩) 5 5 [.int .i64 c0, .int .i64 c1, .int .i64 c2, .int .i64 c3, .int .i64 c4] rfl (fun h => by cases h) rfl (((Blk.new_at rfl).alloc _).reads _ rfl) ⟨w.heap.size + 1, 0, none⟩ 1 1 [.int .i64 more] rfl rfl ((Blk.new_at (by simp)).reads' _ rfl) (by simp [Value.oneCell']) (by omega) (by decide) (by decide) ?_; intro g cap w1 hc1 hc2 hown hchg)
    refine (containsfit_any [c0, c1, c2, c3, c4, more] 6 g cap w1 rfl (by omega) (own_ints (xs := [c0, c1, c2, c3, c4, more]) hown)).mono ?_
    rintro e w' ⟨rfl, rfl⟩
    rw [H.out]
    have hk := (((hB.alloc _).alloc _).chg hchg id)
    have hbx : Blk w1 w.heap.size #[.int .i64 c0, .int .i64 c1, .int .i64 c2, .int .i64 c3, .int .i64 c4] 39 := (((Blk.new_at rfl).alloc _).chg hchg id)
    have e0 := hbx.cell 0
    have e1 := hbx.cell 1
    have e2 := hbx.cell 2
    have e3 := hbx.cell 3
    have e4 := hbx.cell 4
    have k0 := hk.cell 0
    have k1 := hk.cell 1
    go_wp2_with fail
    refine (sum_any c0 c1 c2 c3 c4 _ (by omega) (by omega) (by omega) (by omega) (by omega) (by omega) (by omega) (by omega) (by omega) (by omega)).mono ?_
    rintro e w2 ⟨rfl, hb2⟩
    have hk2 := hk.below hb2
    have k0 := hk2.cell 0
    have k1 := hk2.cell 1
    clear e0 e1 e2 e3 e4
    go_wp2
    go_ret
    exact ⟨rfl, ((((Chg.refl Non w).alloc _).alloc _ |>.trans hchg (fun _ x => x.elim)).then_below hb2).non_below⟩

end Go.Proofs.Ytmdpbbnieehmnaa
