/- mail: what is taken first does not count. -/
import Derived.Test.YtggbgfdgpkbmhaaMaiV
import Derived.Laws.StructEq
import Derived.ChangeKeysEq
namespace Go.Proofs.Ytggbgfdgpkbmhaa
open Go.RowKit
set_option linter.unusedSimpArgs false
set_option linter.unusedVariables false

theorem take_comm (a b : Int) (h : a ≠ b) : ∀ m : List Pk, (takeR a (takeR b m).2.2).1 = (takeR a m).1 ∧ (takeR a (takeR b m).2.2).2.1 = (takeR a m).2.1 ∧ (takeR a (takeR b m).2.2).2.2 = (takeR b (takeR a m).2.2).2.2 := by
  intro m
  induction m with
  | nil => exact ⟨rfl, rfl, rfl⟩
  | cons p m ih =>
    cases ha : (p.no == a)
    · cases hb : (p.no == b)
      · rw [take_miss hb, take_miss ha, take_miss ha]
        refine ⟨ih.1, ih.2.1, ?_⟩
        rw [take_miss hb, ih.2.2]
      · rw [take_hit hb, take_miss ha, take_hit hb]
        exact ⟨rfl, rfl, rfl⟩
    · have hb : (p.no == b) = false := by
        simp at ha ⊢
        omega
      rw [take_miss hb, take_hit ha, take_hit ha]
      exact ⟨rfl, rfl, rfl⟩

set_option maxRecDepth 100000 in
theorem pk_neq (p : Pk) (w : World) : (binOp .neq 67 (.agg #[.int .i64 p.no, .int .i64 p.src, .int .i64 p.dst, .int .i64 p.x]) (.agg #[.int .i64 p.no, .int .i64 p.src, .int .i64 p.dst, .int .i64 p.x])).run Try.prog w = .ok (.bool false) w := by
  have ht : Try.prog.underlying 67 = some (.struct (Try.prog.fieldsOf 67)) := by kernel_rfl
  have hp : Try.prog.stoodInHeld 67 = false := by kernel_rfl
  have hk : Try.prog.plainKey 3 = true := by kernel_rfl
  have q0 := fun w => run_part_plain (P := Try.prog) w hk (xs := #[.int .i64 p.no, .int .i64 p.src, .int .i64 p.dst, .int .i64 p.x]) (off := 0) rfl
  have q1 := fun w => run_part_plain (P := Try.prog) w hk (xs := #[.int .i64 p.no, .int .i64 p.src, .int .i64 p.dst, .int .i64 p.x]) (off := 1) rfl
  have q2 := fun w => run_part_plain (P := Try.prog) w hk (xs := #[.int .i64 p.no, .int .i64 p.src, .int .i64 p.dst, .int .i64 p.x]) (off := 2) rfl
  have q3 := fun w => run_part_plain (P := Try.prog) w hk (xs := #[.int .i64 p.no, .int .i64 p.src, .int .i64 p.dst, .int .i64 p.x]) (off := 3) rfl
  have hi := fun (a : Int) (w : World) => run_equalIn_int (P := Try.prog) (w := w) 9998 3 .i64 .i64 a a Try.underlying3
  rw [run_neq_struct]
  have e1 : (Op.equalIn (9999 + 1) 67 (.agg #[.int .i64 p.no, .int .i64 p.src, .int .i64 p.dst, .int .i64 p.x]) (.agg #[.int .i64 p.no, .int .i64 p.src, .int .i64 p.dst, .int .i64 p.x])).run Try.prog w = .ok true w := by
    rw [run_equalIn_agg w 9999 67 _ _ ht hp]
    simp only [Program.fieldsOf, Try.underlying67]
    simp [Op.eqFields, q0, q1, q2, q3, hi]
  have e2 : (Op.equalIn 10000 67 (.agg #[.int .i64 p.no, .int .i64 p.src, .int .i64 p.dst, .int .i64 p.x]) (.agg #[.int .i64 p.no, .int .i64 p.src, .int .i64 p.dst, .int .i64 p.x])).run Try.prog w = .ok true w := e1
  rw [e2]
  rfl
end Go.Proofs.Ytggbgfdgpkbmhaa
