/- keys.Meets. -/
import Derived.Test.YtmdpbbnieehmnaaKeyC
namespace Go.Proofs.Ytmdpbbnieehmnaa
open Go.RowKit
set_option linter.unusedSimpArgs false
set_option linter.unusedVariables false

set_option maxHeartbeats 4000000 in
set_option maxRecDepth 100000 in
theorem meets_any (a b : Mg) (w : World) (ha : a.anti ≠ b.anti) (he : a.ev = b.ev) : Calls Try.prog 65 #[a.val, b.val] w fun e w' => e = .returned (.bool true) ∧ Chg Non w w' := by
  have h1 := (Blk.new w a.arr 63).alloc (.cells b.arr 63)
  have h2 := Blk.new_at (w := w.alloc (.cells a.arr 63)) (cs := b.arr) (t := 63) (g := w.heap.size + 1) (by simp)
  have hca : Chg Non w ((w.alloc (.cells a.arr 63)).alloc (.cells b.arr 63)) := ((Chg.refl Non w).alloc _).alloc _
  obtain ⟨ae, at_⟩ := a
  obtain ⟨be, bt⟩ := b
  subst he
  simp only at ha
  unfold Mg.arr at *
  simp only at *
  obtain ⟨a0, a1, a2, a3, a4, a5, a6, a7⟩ := h1.eight
  obtain ⟨b0, b1, b2, b3, b4, b5, b6, b7⟩ := h2.eight
  have heq := ev_eq ae ae
  rw [decide_eq_true rfl] at heq
  unfold Mg.val
  simp only
  clear h1 h2
  cases at_ <;> cases bt
  · exact absurd rfl ha
  · go_enter Try.func65, Try.ntmps65
    go_wp2
    go_ret
    exact ⟨rfl, hca⟩
  · go_enter Try.func65, Try.ntmps65
    go_wp2
    go_ret
    exact ⟨rfl, hca⟩
  · exact absurd rfl ha
end Go.Proofs.Ytmdpbbnieehmnaa
