/- keys.Of, keys.Meets; messages. -/
import Derived.Test.YtmdpbbnieehmnaaSrtM
import Derived.Maps.Own
import Derived.Maps.OwnOps
import Derived.Maps.Views
import Derived.DeepKeys4
namespace Go.Proofs.Ytmdpbbnieehmnaa
open Go.RowKit
open Go.Maps (Keyed)
set_option linter.unusedSimpArgs false
set_option linter.unusedVariables false

structure Mg where
  ev : Ev
  anti : Bool
deriving DecidableEq
def Mg.cells (m : Mg) : List Value := m.ev.cells ++ [.bool m.anti]
theorem Mg.len (m : Mg) : m.cells.length = 8 := rfl
def Mg.val (m : Mg) : Value := .agg #[.int .i64 m.ev.at_, .int .i64 m.ev.src, .int .i64 m.ev.sent, .int .i64 m.ev.no, .int .i64 m.ev.dst, .int .i64 m.ev.kind, .int .i64 m.ev.data, .bool m.anti]
def Mg.arr (m : Mg) : Array Value := #[.int .i64 m.ev.at_, .int .i64 m.ev.src, .int .i64 m.ev.sent, .int .i64 m.ev.no, .int .i64 m.ev.dst, .int .i64 m.ev.kind, .int .i64 m.ev.data, .bool m.anti]
theorem Mg.one (l : List Mg) : ∀ u ∈ l.flatMap Mg.cells, u.oneCell' = true := by
  intro u hu
  obtain ⟨p, _, hp⟩ := List.mem_flatMap.1 hu
  simp [Mg.cells, Ev.cells] at hp
  rcases hp with rfl | rfl | rfl | rfl | rfl | rfl | rfl | rfl <;> simp [Value.oneCell']
def Ev.idv (e : Ev) : Value := .agg #[.int .i64 e.src, .int .i64 e.sent, .int .i64 e.no]
theorem Blk.eight {w : World} {g : Nat} {a b c d e f h i : Value} {t : TypeId} (k : Blk w g #[a, b, c, d, e, f, h, i] t) : (w.cell? ⟨g, 0, none⟩ = some a ∧ w.cell? ⟨g, 1, none⟩ = some b ∧ w.cell? ⟨g, 2, none⟩ = some c ∧ w.cell? ⟨g, 3, none⟩ = some d ∧ w.cell? ⟨g, 4, none⟩ = some e ∧ w.cell? ⟨g, 5, none⟩ = some f ∧ w.cell? ⟨g, 6, none⟩ = some h ∧ w.cell? ⟨g, 7, none⟩ = some i) :=
  ⟨k.cell 0, k.cell 1, k.cell 2, k.cell 3, k.cell 4, k.cell 5, k.cell 6, k.cell 7⟩

set_option maxHeartbeats 2000000 in
set_option maxRecDepth 100000 in
theorem keyOf_any (a : Ev) (w : World) : Calls Try.prog 45 #[a.val] w fun e w' => e = .returned a.idv ∧ Chg Non w w' := by
  have h1 := (Blk.new w #[.int .i64 a.at_, .int .i64 a.src, .int .i64 a.sent, .int .i64 a.no, .int .i64 a.dst, .int .i64 a.kind, .int .i64 a.data] 31).alloc (.cells #[.int .i64 0, .int .i64 0, .int .i64 0] 86)
  have h2 := Blk.new_at (w := w.alloc (.cells #[.int .i64 a.at_, .int .i64 a.src, .int .i64 a.sent, .int .i64 a.no, .int .i64 a.dst, .int .i64 a.kind, .int .i64 a.data] 31)) (cs := #[.int .i64 0, .int .i64 0, .int .i64 0]) (t := 86) (g := w.heap.size + 1) (by simp)
  obtain ⟨a0, a1, a2, a3, a4, a5, a6⟩ := h1.seven
  have f0 := h2.frozen 0
  have f1 := h2.frozen 1
  have f2 := h2.frozen 2
  have e0 := h2.cell 0
  have e1 := h2.cell 1
  have e2 := h2.cell 2
  have hca : Chg Non w ((w.alloc (.cells #[.int .i64 a.at_, .int .i64 a.src, .int .i64 a.sent, .int .i64 a.no, .int .i64 a.dst, .int .i64 a.kind, .int .i64 a.data] 31)).alloc (.cells #[.int .i64 0, .int .i64 0, .int .i64 0] 86)) := ((Chg.refl Non w).alloc _).alloc _
  have hz : w.heap.size ≤ w.heap.size + 1 := by omega
  unfold Ev.val
  go_enter Try.func45, Try.ntmps45
  go_wp2
  refine bodyPost_ret (v := a.idv) (by simp [results, Try.results45, go_sem, Ev.idv]) rfl ⟨rfl, ?_⟩
  exact ((Chg.refl Non w).alloc _).alloc _
end Go.Proofs.Ytmdpbbnieehmnaa
