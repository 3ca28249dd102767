/- boomeranglaw02.awake. -/
import Derived.Test.YtmdpbbnieehmnaaKeyE
import Derived.Test.YtmdpbbnieehmnaaKeyF
import Derived.Deep.RegionHeld3
namespace Go.Proofs.Ytmdpbbnieehmnaa
open Go.RowKit
set_option linter.unusedSimpArgs false
set_option linter.unusedVariables false
set_option maxRecDepth 100000

def evA : Ev := ⟨5, 0, 1, 0, 1, 0, 0⟩
def evB : Ev := ⟨5, 0, 1, 1, 1, 0, 0⟩
def mgs3 : List Mg := [⟨evA, false⟩, ⟨evB, false⟩, ⟨evA, true⟩]
def whN (m : Mg) : Bool := m.ev.no == 0

theorem slread_blk {α : Type} {f : α → List Value} {k : Nat} (hf : ∀ x, (f x).length = k) {w : World} {g n : Nat} {cs : Array Value} {t : TypeId} {l : List α} (h : Blk w g cs t) (hl : cs.toList = l.flatMap f) (hn : l.length = n) (hm : n ≤ 1000000) : SlRead f k w (some ⟨g, 0, none⟩) n n l := by
  refine ⟨hn, Nat.le_refl _, (by unfold maxLen; omega), (fun e => by cases e), fun i p hp => ⟨_, rfl, fun j u hu => ?_⟩⟩
  have h1 := flatMap_get hf l i p j u hp hu
  rw [← hl, Array.getElem?_toList] at h1
  rw [add_plain, h.cell]
  exact h1
/-- What awake's last region reads: two events, and what Settle left. -/
def HeldW (w w2 : World) (A2 : Option Addr) (cap : Nat) (W : World) : Prop :=
  Blk W w.heap.size #[.int .i64 5, .int .i64 0, .int .i64 1, .int .i64 0, .int .i64 1, .int .i64 0, .int .i64 0] 31 ∧ Blk W (w.heap.size + 1) #[.int .i64 5, .int .i64 0, .int .i64 1, .int .i64 1, .int .i64 1, .int .i64 0, .int .i64 0] 31 ∧ SlRead Mg.cells 8 W A2 1 cap [⟨evB, false⟩] ∧ Chg Non w2 W
theorem HeldW.non {w w2 : World} {A2 : Option Addr} {cap : Nat} {W W' : World} (h : HeldW w w2 A2 cap W) (hc : Chg Non W W') : HeldW w w2 A2 cap W' :=
  ⟨h.1.chg hc id, h.2.1.chg hc id, h.2.2.1.non hc, h.2.2.2.trans hc (fun _ x => x.elim)⟩
theorem HeldW.cells {w w2 : World} {A2 : Option Addr} {cap : Nat} {w' : World} (h : HeldW w w2 A2 cap w') : w'.cell? ⟨w.heap.size, 0, none⟩ = some (.int .i64 5) ∧ w'.cell? ⟨w.heap.size, 1, none⟩ = some (.int .i64 0) ∧ w'.cell? ⟨w.heap.size, 2, none⟩ = some (.int .i64 1) ∧ w'.cell? ⟨w.heap.size, 3, none⟩ = some (.int .i64 0) ∧ w'.cell? ⟨w.heap.size, 4, none⟩ = some (.int .i64 1) ∧ w'.cell? ⟨w.heap.size, 5, none⟩ = some (.int .i64 0) ∧ w'.cell? ⟨w.heap.size, 6, none⟩ = some (.int .i64 0) ∧ w'.cell? ⟨w.heap.size + 1, 0, none⟩ = some (.int .i64 5) ∧ w'.cell? ⟨w.heap.size + 1, 1, none⟩ = some (.int .i64 0) ∧ w'.cell? ⟨w.heap.size + 1, 2, none⟩ = some (.int .i64 1) ∧ w'.cell? ⟨w.heap.size + 1, 3, none⟩ = some (.int .i64 1) ∧ w'.cell? ⟨w.heap.size + 1, 4, none⟩ = some (.int .i64 1) ∧ w'.cell? ⟨w.heap.size + 1, 5, none⟩ = some (.int .i64 0) ∧ w'.cell? ⟨w.heap.size + 1, 6, none⟩ = some (.int .i64 0) := by
  obtain ⟨i0, i1, i2, i3, i4, i5, i6⟩ := h.1.seven
  obtain ⟨j0, j1, j2, j3, j4, j5, j6⟩ := h.2.1.seven
  exact ⟨i0, i1, i2, i3, i4, i5, i6, j0, j1, j2, j3, j4, j5, j6⟩
set_option maxHeartbeats 8000000 in
theorem awake02_any (w : World) : Calls Try.prog 15 #[] w fun e w' => e = .returned (.bool true) ∧ Chg Non w w' := by
  have hB0 := Blk.new w #[.int .i64 5, .int .i64 0, .int .i64 1, .int .i64 0, .int .i64 1, .int .i64 0, .int .i64 0] 31
  obtain ⟨a0, a1, a2, a3, a4, a5, a6⟩ := hB0.seven
  have hB1 := hB0.alloc (.cells #[.int .i64 5, .int .i64 0, .int .i64 1, .int .i64 1, .int .i64 1, .int .i64 0, .int .i64 0] 31)
  have hB2 := Blk.new_at (w := w.alloc (.cells #[.int .i64 5, .int .i64 0, .int .i64 1, .int .i64 0, .int .i64 1, .int .i64 0, .int .i64 0] 31)) (cs := #[.int .i64 5, .int .i64 0, .int .i64 1, .int .i64 1, .int .i64 1, .int .i64 0, .int .i64 0]) (t := 31) (g := w.heap.size + 1) (by simp)
  obtain ⟨b0, b1, b2, b3, b4, b5, b6⟩ := hB1.seven
  obtain ⟨c0, c1, c2, c3, c4, c5, c6⟩ := hB2.seven
  go_enter Try.func15, Try.ntmps15
  go_wp2_with fail
  have hsl := slread_blk (f := Mg.cells) Mg.len (Blk.new_at (w := (w.alloc (.cells #[.int .i64 5, .int .i64 0, .int .i64 1, .int .i64 0, .int .i64 1, .int .i64 0, .int .i64 0] 31)).alloc (.cells #[.int .i64 5, .int .i64 0, .int .i64 1, .int .i64 1, .int .i64 1, .int .i64 0, .int .i64 0] 31)) (cs := #[.int .i64 5, .int .i64 0, .int .i64 1, .int .i64 0, .int .i64 1, .int .i64 0, .int .i64 0, .bool false, .int .i64 5, .int .i64 0, .int .i64 1, .int .i64 1, .int .i64 1, .int .i64 0, .int .i64 0, .bool false, .int .i64 5, .int .i64 0, .int .i64 1, .int .i64 0, .int .i64 1, .int .i64 0, .int .i64 0, .bool true]) (t := 63) (g := w.heap.size + 1 + 1) (by simp)) (l := mgs3) rfl rfl (by decide)
  refine (settle_any _ _ _ mgs3 whN _ hsl (by intro m hm; simp [mgs3] at hm; rcases hm with rfl | rfl | rfl <;> rfl) (by decide) (by intro m hm; simp [mgs3] at hm; rcases hm with rfl | rfl | rfl; exact .inr ⟨⟨evA, false⟩, ⟨evA, true⟩, rfl, by decide, rfl⟩; exact .inl ⟨⟨evB, false⟩, rfl⟩; exact .inr ⟨⟨evA, false⟩, ⟨evA, true⟩, rfl, by decide, rfl⟩)).mono ?_
  rintro e w2 ⟨A2, cap, rfl, hL, hc2⟩
  have hlf : left whN mgs3 = [⟨evB, false⟩] := by decide
  rw [hlf] at hL ⊢
  have hP : HeldW w w2 A2 cap w2 := ⟨((hB1.alloc _).chg hc2 id), ((hB2.alloc _).chg hc2 id), hL, Chg.refl _ _⟩
  obtain ⟨i0, i1, i2, i3, i4, i5, i6⟩ := hP.1.seven
  obtain ⟨j0, j1, j2, j3, j4, j5, j6⟩ := hP.2.1.seven
  have hcT : Chg Non w w2 := (((Chg.refl Non w).alloc _).alloc _ |>.alloc _).trans hc2 (fun _ x => x.elim)
  have HCT := Lib.hid hcT
  have hKC := fun w => keyCmp_any evA evB w
  have hcm : cmpK evA evB = -1 := by decide
  rw [hcm] at hKC
  have hKO := fun w => keyOf_any evB w
  unfold Ev.kval evA evB at hKC
  unfold Ev.val Ev.idv evB at hKO
  simp only at hKC hKO
  have hMs := fun (W : World) (g : Nat) (h : HeldW w w2 A2 cap W) (hb : Blk W g #[.int .i64 5, .int .i64 0, .int .i64 1, .int .i64 1, .int .i64 1, .int .i64 0, .int .i64 0, .bool false] 63) => messages02_eq A2 (some ⟨g, 0, none⟩) 1 cap 1 [⟨evB, false⟩] W h.2.2.1 (slread_blk (f := Mg.cells) Mg.len hb rfl rfl (by decide)) (by decide)
  have hide : ∀ w, (binOp .eql 86 (.agg #[.int .i64 0, .int .i64 1, .int .i64 1]) (.agg #[.int .i64 0, .int .i64 1, .int .i64 1])).run Try.prog w = .ok (.bool true) w := fun w => by kernel_rfl
  clear hlf hL hc2 hsl hB0 hB1 hB2 hcT hcm
  go_wp2_with fail
  refine (hKC _).mono ?_
  rintro e w3 ⟨rfl, hc3⟩
  have hP3 := hP.non hc3
  obtain ⟨i0, i1, i2, i3, i4, i5, i6⟩ := hP3.1.seven
  obtain ⟨j0, j1, j2, j3, j4, j5, j6⟩ := hP3.2.1.seven
  go_wp2_with fail
  refine (hMs _ _ (hP3.non ((Chg.refl Non _).alloc _)) (Blk.new _ _ _)).mono ?_
  rintro e w4 ⟨rfl, hc4⟩
  have hP4 := (hP3.non ((Chg.refl Non _).alloc _)).non hc4
  obtain ⟨i0, i1, i2, i3, i4, i5, i6⟩ := hP4.1.seven
  obtain ⟨j0, j1, j2, j3, j4, j5, j6⟩ := hP4.2.1.seven
  go_wp2_with fail
  refine (hKO _).mono ?_
  rintro e w5 ⟨rfl, hc5⟩
  have hP5 := hP4.non hc5
  have HF := Lib.hid (HCT.out.trans hP5.2.2.2 (fun _ x => x.elim))
  go_wp2
  go_ret
  exact ⟨rfl, HF.out⟩
end Go.Proofs.Ytmdpbbnieehmnaa
