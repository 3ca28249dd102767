/- budget: the chapter's example. -/
import Derived.Test.YtmdpbbnieehmnaaBudE
namespace Go.Proofs.Ytmdpbbnieehmnaa
open Go.RowKit

set_option maxHeartbeats 1000000 in
set_option maxRecDepth 100000 in
theorem awake17_any (w : World) : Calls Try.prog 21 #[] w fun e w' => e = .returned (.bool true) ∧ Below w.heap.size w w' := by
  go_enter Try.func21, Try.ntmps21
  go_wp2_with fail
  refine (new_ok 10 3 _ (by omega) (by omega) (by omega) (by omega)).mono ?_
  rintro e w1 ⟨rfl, rfl⟩
  have hb : Blk (w.alloc (.cells (budCells 10 3 0 0 0 0 0) 92)) w.heap.size (budCells 10 3 0 0 0 0 0) 92 := Blk.new_at rfl
  have hch := (Chg.refl Non w).alloc (.cells (budCells 10 3 0 0 0 0 0) 92)
  have hsz : (w.alloc (.cells (budCells 10 3 0 0 0 0 0) 92)).heap.size = w.heap.size + 1 := by simp
  generalize w.alloc (.cells (budCells 10 3 0 0 0 0 0) 92) = w1 at hb hch hsz ⊢
  go_wp2_with fail
  have hb' := hb.alloc (.cells #[.int .i64 5, .int .i64 0, .int .i64 0, .int .i64 0, .int .i64 0] 39)
  have hc : Blk (w1.alloc (.cells #[.int .i64 5, .int .i64 0, .int .i64 0, .int .i64 0, .int .i64 0] 39)) (w.heap.size + 1) #[.int .i64 5, .int .i64 0, .int .i64 0, .int .i64 0, .int .i64 0] 39 := Blk.new_at hsz.symm
  have hch2 := hch.alloc (.cells #[.int .i64 5, .int .i64 0, .int .i64 0, .int .i64 0, .int .i64 0] 39)
  generalize w1.alloc (.cells #[.int .i64 5, .int .i64 0, .int .i64 0, .int .i64 0, .int .i64 0] 39) = w2 at hb' hc hch2 ⊢
  clear hb hch hsz
  refine (fit_ok w.heap.size 10 3 0 0 0 0 0 5 0 0 0 0 2 false _ hb' (by omega) (by omega) (by omega) (by omega) (by unfold isGood; omega) (by decide)).mono ?_
  rintro e w3 ⟨rfl, hb, hch⟩
  have hc3 := hc.chg hch (by omega)
  have hch3 := hch2.trans hch (fun i hi => .inr (by omega))
  clear hc hb' hch hch2
  have e0 := hc3.cell 0
  have e1 := hc3.cell 1
  have e2 := hc3.cell 2
  have e3 := hc3.cell 3
  have e4 := hc3.cell 4
  go_wp2_with fail
  refine (fit_mem w.heap.size 10 3 _ _ _ _ _ 5 0 0 0 0 3 false _ hb (by omega) (by omega) (by omega) (by omega) (by unfold isGood; omega) (by decide)).mono ?_
  rintro e w4 ⟨rfl, hbe⟩
  have hb4 := hb.below hbe
  have hc4 := hc3.below hbe
  have hch4 := hch3.then_below hbe
  clear hb hc3 hch3 e0 e1 e2 e3 e4
  have e0 := hc4.cell 0
  have e1 := hc4.cell 1
  have e2 := hc4.cell 2
  have e3 := hc4.cell 3
  have e4 := hc4.cell 4
  go_wp2_with fail
  refine (fit_ok w.heap.size 10 3 _ _ _ _ _ 5 0 0 0 0 3 true _ hb4 (by omega) (by omega) (by omega) (by omega) (by unfold isGood; omega) (by decide)).mono ?_
  rintro e w5 ⟨rfl, _, hch⟩
  have hch5 := hch4.trans hch (fun i hi => .inr (by omega))
  clear hb4 hc4 hch4 hch e0 e1 e2 e3 e4
  go_wp2_with fail
  go_ret
  exact ⟨rfl, hch5.non_below⟩

set_option maxHeartbeats 1000000 in
set_option maxRecDepth 100000 in
theorem budgetNil_any (c0 c1 c2 c3 c4 more : Int) (vital : Bool) (w : World) :
    Calls Try.prog 8 #[.agg #[.int .i64 c0, .int .i64 c1, .int .i64 c2, .int .i64 c3, .int .i64 c4, .int .i64 more, .bool vital]] w fun e w' => e = .returned (.bool true) ∧ Below w.heap.size w w' := by
  have heq : ∀ w, (binOp .eql 39 (countsV 0 0 0 0 0) (countsV 0 0 0 0 0)).run Try.prog w = .ok (.bool true) w := fun _ => by kernel_rfl
  go_enter Try.func8, Try.ntmps8
  go_wp2_with fail
  refine (fit_nil c0 c1 c2 c3 c4 more vital _).mono ?_
  rintro e w1 ⟨rfl, h1⟩
  have hc1 := ((Chg.refl Non w).alloc _).then_below h1
  clear h1
  go_wp2_with fail
  refine (room_nil _).mono ?_
  rintro e w2 ⟨rfl, rfl⟩
  go_wp2_with fail
  refine (worst_nil _).mono ?_
  rintro e w2 ⟨rfl, h2⟩
  have hc2 := hc1.then_below h2
  clear h2 hc1
  go_wp2_with fail
  refine (awake17_any _).mono ?_
  rintro e w3 ⟨rfl, h3⟩
  have hc3 := hc2.then_below h3
  clear h3 hc2
  go_wp2_with fail
  go_ret
  exact ⟨rfl, hc3.non_below⟩
end Go.Proofs.Ytmdpbbnieehmnaa
