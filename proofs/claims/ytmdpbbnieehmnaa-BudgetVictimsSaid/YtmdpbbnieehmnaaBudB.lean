/- budget: New, Sum, Fit, Room, Worst. -/
import Derived.Test.YtmdpbbnieehmnaaBudA
import Derived.StillTailTactics
namespace Go.Proofs.Ytmdpbbnieehmnaa
open Go.RowKit

set_option maxRecDepth 100000 in
set_option maxHeartbeats 400000 in
theorem sum_any (c0 c1 c2 c3 c4 : Int) (w : World) (h0 : -2000000000 ≤ c0) (g0 : c0 ≤ 2000000000) (h1 : -2000000000 ≤ c1) (g1 : c1 ≤ 2000000000) (h2 : -2000000000 ≤ c2) (g2 : c2 ≤ 2000000000) (h3 : -2000000000 ≤ c3) (g3 : c3 ≤ 2000000000) (h4 : -2000000000 ≤ c4) (g4 : c4 ≤ 2000000000) :
    Calls Try.prog 23 #[.agg #[.int .i64 c0, .int .i64 c1, .int .i64 c2, .int .i64 c3, .int .i64 c4]] w fun e w' => e = .returned (.int .i64 (c0 + c1 + c2 + c3 + c4)) ∧ Below w.heap.size w w' := by
  have i0 : ∀ w, (Instr.index 39 (.agg #[.int .i64 c0, .int .i64 c1, .int .i64 c2, .int .i64 c3, .int .i64 c4]) (.int .i64 0)).run Try.prog w = .ok (.int .i64 c0) w := fun _ => by kernel_rfl
  have i1 : ∀ w, (Instr.index 39 (.agg #[.int .i64 c0, .int .i64 c1, .int .i64 c2, .int .i64 c3, .int .i64 c4]) (.int .i64 1)).run Try.prog w = .ok (.int .i64 c1) w := fun _ => by kernel_rfl
  have i2 : ∀ w, (Instr.index 39 (.agg #[.int .i64 c0, .int .i64 c1, .int .i64 c2, .int .i64 c3, .int .i64 c4]) (.int .i64 2)).run Try.prog w = .ok (.int .i64 c2) w := fun _ => by kernel_rfl
  have i3 : ∀ w, (Instr.index 39 (.agg #[.int .i64 c0, .int .i64 c1, .int .i64 c2, .int .i64 c3, .int .i64 c4]) (.int .i64 3)).run Try.prog w = .ok (.int .i64 c3) w := fun _ => by kernel_rfl
  have i4 : ∀ w, (Instr.index 39 (.agg #[.int .i64 c0, .int .i64 c1, .int .i64 c2, .int .i64 c3, .int .i64 c4]) (.int .i64 4)).run Try.prog w = .ok (.int .i64 c4) w := fun _ => by kernel_rfl
  go_enter Try.func23, Try.ntmps23
  go_wp2
  go_loop [3, 7] (fun n i => (i = .int .i64 0 ∧ n = .int .i64 (0)) ∨ (i = .int .i64 1 ∧ n = .int .i64 (c0)) ∨ (i = .int .i64 2 ∧ n = .int .i64 (c0 + c1)) ∨ (i = .int .i64 3 ∧ n = .int .i64 (c0 + c1 + c2)) ∨ (i = .int .i64 4 ∧ n = .int .i64 (c0 + c1 + c2 + c3)) ∨ (i = .int .i64 5 ∧ n = .int .i64 (c0 + c1 + c2 + c3 + c4))) (fun _ i => 5 - (intOf i).toNat)
  case atStart => exact .inl ⟨rfl, rfl⟩
  case round =>
    rcases hrel with ⟨rfl, rfl⟩ | ⟨rfl, rfl⟩ | ⟨rfl, rfl⟩ | ⟨rfl, rfl⟩ | ⟨rfl, rfl⟩ | ⟨rfl, rfl⟩
    · go_wp2
      go_round
      case rel => exact .inr (.inl ⟨rfl, by first | rfl | simp⟩)
      case measure => simp [intOf]
    · go_wp2
      go_round
      case rel => exact .inr (.inr (.inl ⟨rfl, by first | rfl | simp⟩))
      case measure => simp [intOf]
    · go_wp2
      go_round
      case rel => exact .inr (.inr (.inr (.inl ⟨rfl, by first | rfl | simp⟩)))
      case measure => simp [intOf]
    · go_wp2
      go_round
      case rel => exact .inr (.inr (.inr (.inr (.inl ⟨rfl, by first | rfl | simp⟩))))
      case measure => simp [intOf]
    · go_wp2
      go_round
      case rel => exact .inr (.inr (.inr (.inr (.inr (⟨rfl, rfl⟩)))))
      case measure => simp [intOf]
    · go_wp2
      go_ret
      exact ⟨rfl, (Below.refl _ _).alloc (Nat.le_refl _) _⟩

theorem new_bad (room reserve : Int) (w : World) (h : room < 1 ∨ 4096 < room ∨ reserve < 0 ∨ room < reserve) :
    Calls Try.prog 20 #[.int .i64 room, .int .i64 reserve] w fun e w' => e = .returned (.tuple #[.pointer none, .int .i64 1]) ∧ w = w' := by
  by_cases h1 : room < 1
  · clear h
    go_enter Try.func20, Try.ntmps20
    go_wp2
    go_ret2
    exact ⟨rfl, rfl⟩
  · by_cases h2 : 4096 < room
    · clear h
      go_enter Try.func20, Try.ntmps20
      go_wp2
      go_ret2
      exact ⟨rfl, rfl⟩
    · by_cases h3 : reserve < 0
      · clear h
        go_enter Try.func20, Try.ntmps20
        go_wp2
        go_ret2
        exact ⟨rfl, rfl⟩
      · have h4 : room < reserve := by omega
        clear h
        go_enter Try.func20, Try.ntmps20
        go_wp2
        go_ret2
        exact ⟨rfl, rfl⟩

abbrev budCells (room reserve v0 v1 v2 v3 v4 : Int) : Array Value := #[.int .i64 room, .int .i64 reserve, .int .i64 v0, .int .i64 v1, .int .i64 v2, .int .i64 v3, .int .i64 v4]

theorem new_ok (room reserve : Int) (w : World) (h1 : 1 ≤ room) (h2 : room ≤ 4096) (h3 : 0 ≤ reserve) (h4 : reserve ≤ room) :
    Calls Try.prog 20 #[.int .i64 room, .int .i64 reserve] w fun e w' => e = .returned (.tuple #[.pointer (some ⟨w.heap.size, 0, none⟩), .int .i64 0]) ∧ w' = w.alloc (.cells (budCells room reserve 0 0 0 0 0) 92) := by
  go_enter Try.func20, Try.ntmps20
  go_wp2
  go_ret2
  exact ⟨rfl, rfl⟩

end Go.Proofs.Ytmdpbbnieehmnaa
