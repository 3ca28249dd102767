/- events: whether two are the same; append of one. -/
import Derived.Test.YtmdpbbnieehmnaaVicM
import Derived.Laws.StructEq
import Derived.ChangeKeysEq
import Derived.Deep.RegionLaw
namespace Go.Proofs.Ytmdpbbnieehmnaa
open Go.RowKit
set_option linter.unusedSimpArgs false
set_option linter.unusedVariables false
set_option maxRecDepth 100000

theorem key_eqB (d : Nat) (a b c e a' b' c' e' : Int) (w : World) : (Op.equalIn (d + 2) (23 : Nat) (.agg #[.int .i64 a, .int .i64 b, .int .i64 c, .int .i64 e]) (.agg #[.int .i64 a', .int .i64 b', .int .i64 c', .int .i64 e'])).run Try.prog w = .ok (decide (a = a' ∧ b = b' ∧ c = c' ∧ e = e')) w := by
  have ht : Try.prog.underlying 23 = some (.struct (Try.prog.fieldsOf 23)) := by kernel_rfl
  have hp : Try.prog.stoodInHeld 23 = false := by kernel_rfl
  have hk : Try.prog.plainKey (3 : Nat) = true := by kernel_rfl
  have q := fun (x y z t : Int) (w : World) => And.intro (run_part_plain (P := Try.prog) w hk (xs := #[.int .i64 x, .int .i64 y, .int .i64 z, .int .i64 t]) (off := 0) rfl) (And.intro (run_part_plain (P := Try.prog) w hk (xs := #[.int .i64 x, .int .i64 y, .int .i64 z, .int .i64 t]) (off := 1) rfl) (And.intro (run_part_plain (P := Try.prog) w hk (xs := #[.int .i64 x, .int .i64 y, .int .i64 z, .int .i64 t]) (off := 2) rfl) (run_part_plain (P := Try.prog) w hk (xs := #[.int .i64 x, .int .i64 y, .int .i64 z, .int .i64 t]) (off := 3) rfl)))
  have hi := fun (a b : Int) (w : World) => run_equalIn_int (P := Try.prog) (w := w) d (3 : Nat) .i64 .i64 a b Try.underlying3
  rw [show d + 2 = (d + 1) + 1 from rfl, run_equalIn_agg w (d + 1) 23 _ _ ht hp]
  simp only [Program.fieldsOf, Try.underlying23]
  by_cases h1 : a = a' <;> by_cases h2 : b = b' <;> by_cases h3 : c = c' <;> by_cases h4 : e = e' <;>
    simp [Op.eqFields, (q _ _ _ _ _).1, (q _ _ _ _ _).2.1, (q _ _ _ _ _).2.2.1, (q _ _ _ _ _).2.2.2, hi, h1, h2, h3, h4]
theorem ev_key_part (x1 x2 x3 x4 x5 x6 x7 : Int) (w : World) : (part (23 : Nat) #[.int .i64 x1, .int .i64 x2, .int .i64 x3, .int .i64 x4, .int .i64 x5, .int .i64 x6, .int .i64 x7] 0).run Try.prog w = .ok (.agg #[.int .i64 x1, .int .i64 x2, .int .i64 x3, .int .i64 x4]) w := by kernel_rfl
theorem ev_eqB (d : Nat) (a b : Ev) (w : World) : (Op.equalIn (d + 3) 31 a.val b.val).run Try.prog w = .ok (decide (a = b)) w := by
  have ht : Try.prog.underlying 31 = some (.struct (Try.prog.fieldsOf 31)) := by kernel_rfl
  have hp : Try.prog.stoodInHeld 31 = false := by kernel_rfl
  have hk : Try.prog.plainKey (3 : Nat) = true := by kernel_rfl
  have q0 := fun (x1 x2 x3 x4 x5 x6 x7 : Int) (w : World) => ev_key_part x1 x2 x3 x4 x5 x6 x7 w
  have q4 := fun (x1 x2 x3 x4 x5 x6 x7 : Int) (w : World) => run_part_plain (P := Try.prog) w hk (xs := #[.int .i64 x1, .int .i64 x2, .int .i64 x3, .int .i64 x4, .int .i64 x5, .int .i64 x6, .int .i64 x7]) (off := 4) rfl
  have q5 := fun (x1 x2 x3 x4 x5 x6 x7 : Int) (w : World) => run_part_plain (P := Try.prog) w hk (xs := #[.int .i64 x1, .int .i64 x2, .int .i64 x3, .int .i64 x4, .int .i64 x5, .int .i64 x6, .int .i64 x7]) (off := 5) rfl
  have q6 := fun (x1 x2 x3 x4 x5 x6 x7 : Int) (w : World) => run_part_plain (P := Try.prog) w hk (xs := #[.int .i64 x1, .int .i64 x2, .int .i64 x3, .int .i64 x4, .int .i64 x5, .int .i64 x6, .int .i64 x7]) (off := 6) rfl
  have hi := fun (a b : Int) (w : World) => run_equalIn_int (P := Try.prog) (w := w) (d + 1) (3 : Nat) .i64 .i64 a b Try.underlying3
  unfold Ev.val
  rw [show d + 3 = (d + 2) + 1 from rfl, run_equalIn_agg w (d + 2) 31 _ _ ht hp]
  simp only [Program.fieldsOf, Try.underlying31]
  obtain ⟨a1, a2, a3, a4, a5, a6, a7⟩ := a
  obtain ⟨b1, b2, b3, b4, b5, b6, b7⟩ := b
  have kk := fun w => key_eqB d a1 a2 a3 a4 b1 b2 b3 b4 w
  have A0 := q0 a1 a2 a3 a4 a5 a6 a7
  have A4 := q4 a1 a2 a3 a4 a5 a6 a7
  have A5 := q5 a1 a2 a3 a4 a5 a6 a7
  have A6 := q6 a1 a2 a3 a4 a5 a6 a7
  have B0 := q0 b1 b2 b3 b4 b5 b6 b7
  have B4 := q4 b1 b2 b3 b4 b5 b6 b7
  have B5 := q5 b1 b2 b3 b4 b5 b6 b7
  have B6 := q6 b1 b2 b3 b4 b5 b6 b7
  clear q0 q4 q5 q6
  by_cases h1 : a1 = b1 ∧ a2 = b2 ∧ a3 = b3 ∧ a4 = b4
  · rw [decide_eq_true h1] at kk
    obtain ⟨rfl, rfl, rfl, rfl⟩ := h1
    by_cases h5 : a5 = b5
    · subst h5
      by_cases h6 : a6 = b6
      · subst h6
        by_cases h7 : a7 = b7
        · subst h7
          simp [Op.eqFields, A0, B0, kk, A4, B4, A5, B5, A6, B6, hi]
        · simp [Op.eqFields, A0, B0, kk, A4, B4, A5, B5, A6, B6, hi, h7]
      · simp [Op.eqFields, A0, B0, kk, A4, B4, A5, B5, A6, B6, hi, h6]
    · simp [Op.eqFields, A0, B0, kk, A4, B4, A5, B5, A6, B6, hi, h5]
  · rw [decide_eq_false h1] at kk
    have : (⟨a1, a2, a3, a4, a5, a6, a7⟩ : Ev) ≠ ⟨b1, b2, b3, b4, b5, b6, b7⟩ := fun e => by
      injection e with e1 e2 e3 e4
      exact h1 ⟨e1, e2, e3, e4⟩
    rw [decide_eq_false this]
    simp [Op.eqFields, A0, B0, kk]
theorem ev_eq (a b : Ev) (w : World) : (binOp .eql 31 (.agg #[.int .i64 a.at_, .int .i64 a.src, .int .i64 a.sent, .int .i64 a.no, .int .i64 a.dst, .int .i64 a.kind, .int .i64 a.data]) (.agg #[.int .i64 b.at_, .int .i64 b.src, .int .i64 b.sent, .int .i64 b.no, .int .i64 b.dst, .int .i64 b.kind, .int .i64 b.data])).run Try.prog w = .ok (.bool (decide (a = b))) w := by
  rw [run_eql_struct]
  have h := ev_eqB 9997 a b w
  unfold Ev.val at h
  rw [show 10000 = 9997 + 3 from rfl, h]
  rfl
theorem ev_ne (a b : Ev) (w : World) : (binOp .neq 31 (.agg #[.int .i64 a.at_, .int .i64 a.src, .int .i64 a.sent, .int .i64 a.no, .int .i64 a.dst, .int .i64 a.kind, .int .i64 a.data]) (.agg #[.int .i64 b.at_, .int .i64 b.src, .int .i64 b.sent, .int .i64 b.no, .int .i64 b.dst, .int .i64 b.kind, .int .i64 b.data])).run Try.prog w = .ok (.bool (!decide (a = b))) w := by
  rw [run_neq_struct]
  have h := ev_eqB 9997 a b w
  unfold Ev.val at h
  rw [show 10000 = 9997 + 3 from rfl, h]
  rfl
end Go.Proofs.Ytmdpbbnieehmnaa
