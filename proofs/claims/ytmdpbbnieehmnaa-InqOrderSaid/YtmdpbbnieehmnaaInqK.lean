/- boomeranglaw10.awake. -/
import Derived.Test.YtmdpbbnieehmnaaInqJ
namespace Go.Proofs.Ytmdpbbnieehmnaa
open Go.RowKit
set_option linter.unusedSimpArgs false
set_option linter.unusedVariables false

theorem putR_ins {S S' : Bool → List Ev} {m : Mg} {met : Bool} (h : PutR S S' m met) (h1 : S (!m.anti) = []) (h2 : S m.anti = []) : met = false ∧ S' = upd S m.anti [m.ev] := by
  rcases h with ⟨_, i, _, hb, _⟩ | ⟨hm, _, j, hj, hS⟩
  · rw [h1] at hb
    simp [isAt] at hb
  · rw [h2] at hj hS
    have : j = 0 := Nat.le_zero.1 hj.1
    subst this
    exact ⟨hm, hS⟩
theorem putR_take {S S' : Bool → List Ev} {m : Mg} {met : Bool} (h : PutR S S' m met) (h1 : S (!m.anti) = [m.ev]) : met = true ∧ S' = upd S (!m.anti) [] := by
  have hat : ∀ i, At (S (!m.anti)) m.ev i → i = 0 := fun i hi => by
    rw [h1] at hi
    by_cases h0 : i = 0
    · exact h0
    · have := hi.2.1 0 (by omega)
      rw [show gE [m.ev] 0 = m.ev from rfl, eC_self] at this
      omega
  rcases h with ⟨hm, i, hi, hb, hS⟩ | ⟨_, ⟨i, hi, hb⟩, _⟩
  · obtain rfl := hat i hi
    refine ⟨hm, ?_⟩
    rw [hS, h1]
    rfl
  · obtain rfl := hat i hi
    rw [h1] at hb
    have : isAt [m.ev] m.ev 0 = true := by unfold isAt; simp [gE]
    rw [this] at hb
    cases hb

def ev10 : Ev := ⟨5, 1, 3, 0, 2, 0, 7⟩
/-- awake's world: its queue, and the variable that holds the event. -/
def Aw (w : World) (box : Nat) (W : World) (S : Bool → List Ev) : Prop := ∃ A c, QAt W w.heap.size S A c ∧ Blk W box #[.int .i64 5, .int .i64 1, .int .i64 3, .int .i64 0, .int .i64 2, .int .i64 0, .int .i64 7] 31 ∧ (∀ b ad, A b = some ad → box < ad.block) ∧ w.heap.size < box ∧ Chg Non w W
theorem aw_put (w : World) (box : Nat) (W : World) (S : Bool → List Ev) (an : Bool) (h : Aw w box W S) (hn : ∀ b, (S b).length ≤ 900000) :
    Calls Try.prog 33 #[.pointer (some ⟨w.heap.size, 0, none⟩), .agg #[.int .i64 5, .int .i64 1, .int .i64 3, .int .i64 0, .int .i64 2, .int .i64 0, .int .i64 7, .bool an]] W fun en w' => ∃ met S', en = .returned (.tuple #[.bool met, .int .i64 0]) ∧ PutR S S' ⟨ev10, an⟩ met ∧ Aw w box w' S' := by
  obtain ⟨A, c, hQ, hB, hA, hb, hc⟩ := h
  refine (put_ok w.heap.size S A c ⟨ev10, an⟩ W hQ ⟨by show (0 : Int) ≤ 5; decide, by show (5 : Int) ≤ 1073741824; decide⟩ hn).mono ?_
  rintro en w' ⟨met, S', A', c', rfl, hP, hQ', hC, hN⟩
  have hbl := hB.lt
  refine ⟨met, S', rfl, hP, A', c', hQ', hB.chg hC (fun hi => ?_), fun b ad e => ?_, hb, hc.trans hC (fun i hi => ?_)⟩
  · rcases hi with h | ⟨b, ad, e, h⟩
    · omega
    · have := hA b ad e; omega
  · rcases hN b ad e with ⟨b', ad', e', h'⟩ | h'
    · rw [h']; exact hA b' ad' e'
    · omega
  · rcases hi with rfl | ⟨b, ad, e, rfl⟩
    · exact .inr (Nat.le_refl _)
    · have := hA b ad e; exact .inr (by omega)
theorem Aw.non {w W W' : World} {box : Nat} {S : Bool → List Ev} (h : Aw w box W S) (hc : Chg Non W W') : Aw w box W' S := by
  obtain ⟨A, c, hQ, hB, hA, hb, hc0⟩ := h
  exact ⟨A, c, hQ.non hc, hB.chg hc id, hA, hb, hc0.trans hc (fun _ x => x.elim)⟩

set_option maxHeartbeats 8000000 in
set_option maxRecDepth 100000 in
theorem awake10_any (w : World) : Calls Try.prog 31 #[] w fun e w' => e = .returned (.bool true) ∧ Chg Non w w' := by
  have hH := fun (q : Nat) (S : Bool → List Ev) (A : Bool → Option Addr) (c : Bool → Nat) (w : World) (h : QAt w q S A c) (hn : ∀ b, (S b).length ≤ 900000) => inqHas_any q S A c ev10 w h hn
  unfold Ev.val ev10 at hH
  simp only at hH
  have HH := Lib.hid hH
  clear hH
  go_enter Try.func31, Try.ntmps31
  go_wp2_with fail
  refine (inqNew_any w).mono ?_
  rintro e w1 ⟨rfl, hQ, hc1⟩
  have hQlt := hQ.lt
  have hA0 : Aw w w1.heap.size (w1.alloc (.cells #[.int .i64 5, .int .i64 1, .int .i64 3, .int .i64 0, .int .i64 2, .int .i64 0, .int .i64 7] 31)) (fun _ => []) := ⟨_, _, hQ.non ((Chg.refl Non w1).alloc _), Blk.new _ _ _, (fun b ad e => by cases e), hQlt, hc1.alloc _⟩
  obtain ⟨B, hBB⟩ : ∃ B, B = w1.heap.size := ⟨_, rfl⟩
  rw [← hBB] at hA0
  obtain ⟨_, _, _, hbx, _⟩ := hA0
  obtain ⟨b0, b1, b2, b3, b4, b5, b6⟩ := hbx.seven
  rw [hBB] at b0 b1 b2 b3 b4 b5 b6
  have hA1 : Aw w w1.heap.size (w1.alloc (.cells #[.int .i64 5, .int .i64 1, .int .i64 3, .int .i64 0, .int .i64 2, .int .i64 0, .int .i64 7] 31)) (fun _ => []) := ⟨_, _, hQ.non ((Chg.refl Non w1).alloc _), Blk.new _ _ _, (fun b ad e => by cases e), hQlt, hc1.alloc _⟩
  clear hbx hBB
  have HA1 := Lib.hid hA1
  clear hA1 hQ hc1 hQlt
  go_wp2_with fail
  refine (aw_put w _ _ _ false HA1.out (fun b => by simp)).mono ?_
  rintro e w2 ⟨met, S2, rfl, hP2, hA2⟩
  obtain ⟨rfl, rfl⟩ := putR_ins hP2 rfl rfl
  have HA2 := Lib.hid hA2
  obtain ⟨_, _, _, hbx, _⟩ := hA2
  obtain ⟨b0, b1, b2, b3, b4, b5, b6⟩ := hbx.seven
  clear hbx hP2
  go_wp2_with fail
  refine (aw_put w _ _ _ true HA2.out (fun b => by cases b <;> simp [upd])).mono ?_
  rintro e w3 ⟨met, S3, rfl, hP3, hA3⟩
  obtain ⟨rfl, rfl⟩ := putR_take hP3 rfl
  have HA3 := Lib.hid hA3
  obtain ⟨_, _, _, hbx, _⟩ := hA3
  obtain ⟨b0, b1, b2, b3, b4, b5, b6⟩ := hbx.seven
  clear hbx hP3
  go_wp2_with fail
  refine (aw_put w _ _ _ true HA3.out (fun b => by cases b <;> simp [upd])).mono ?_
  rintro e w4 ⟨met, S4, rfl, hP4, hA4⟩
  obtain ⟨rfl, rfl⟩ := putR_ins hP4 rfl rfl
  have HA4 := Lib.hid hA4
  obtain ⟨A4, c4, hQ4, hbx, _⟩ := hA4
  obtain ⟨b0, b1, b2, b3, b4, b5, b6⟩ := hbx.seven
  have HQ4 := Lib.hid hQ4
  clear hbx hP4 hQ4
  go_wp2_with fail
  refine (HH.out _ _ _ _ _ HQ4.out (fun b => by cases b <;> simp [upd])).mono ?_
  rintro e w5 ⟨he, hc5⟩
  obtain rfl : e = .returned (.int .i64 (-1)) := he.trans (congrArg (fun z => Ending.returned (.int .i64 z)) (by decide))
  have HA5 := Lib.hid (HA4.out.non hc5)
  obtain ⟨_, _, _, hbx, _⟩ := HA5.out
  obtain ⟨b0, b1, b2, b3, b4, b5, b6⟩ := hbx.seven
  clear hbx hc5
  go_wp2_with fail
  refine (aw_put w _ _ _ false HA5.out (fun b => by cases b <;> simp [upd])).mono ?_
  rintro e w6 ⟨met, S6, rfl, hP6, hA6⟩
  obtain ⟨rfl, rfl⟩ := putR_take hP6 rfl
  have HA6 := Lib.hid hA6
  obtain ⟨A6, c6, hQ6, _, _, _, hc6⟩ := hA6
  have HQ6 := Lib.hid hQ6
  have HC6 := Lib.hid hc6
  clear hP6 hQ6 hc6
  go_wp2_with fail
  refine (inqLen_any _ _ _ _ _ HQ6.out (fun b => by cases b <;> simp [upd])).mono ?_
  rintro e w7 ⟨he, hc7⟩
  obtain rfl : e = .returned (.tuple #[.int .i64 0, .int .i64 0]) := he
  have HC7 := Lib.hid (HC6.out.trans hc7 (fun _ x => x.elim))
  clear hc7
  go_wp2
  go_ret
  exact ⟨rfl, HC7.out⟩
end Go.Proofs.Ytmdpbbnieehmnaa
