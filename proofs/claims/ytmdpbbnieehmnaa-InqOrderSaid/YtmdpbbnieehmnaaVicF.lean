/- events: what Victim asks of an event, how it compares two; MaxFunc. -/
import Derived.Test.YtmdpbbnieehmnaaVicE
namespace Go.Proofs.Ytmdpbbnieehmnaa
open Go.RowKit
set_option linter.unusedSimpArgs false
set_option linter.unusedVariables false

set_option maxRecDepth 100000 in
theorem vicF1_any (q : Nat) (from_ : Int) (p : Ev) (w : World) (h : w.cell? ⟨q, 0, none⟩ = some (.int .i64 from_)) :
    Calls Try.prog 54 #[p.val, .pointer (some ⟨q, 0, none⟩)] w fun e w' => e = .returned (.bool (!goodEv from_ p)) ∧ Chg Non w w' := by
  obtain ⟨a0, a1, a2, a3, a4, a5, a6⟩ := (Blk.new w #[.int .i64 p.at_, .int .i64 p.src, .int .i64 p.sent, .int .i64 p.no, .int .i64 p.dst, .int .i64 p.kind, .int .i64 p.data] 31).seven
  have hq := cell_alloc h (.cells #[.int .i64 p.at_, .int .i64 p.src, .int .i64 p.sent, .int .i64 p.no, .int .i64 p.dst, .int .i64 p.kind, .int .i64 p.data] 31)
  unfold Ev.val
  by_cases h1 : p.src < 0
  · have e : (!goodEv from_ p) = true := by
      unfold goodEv
      rw [decide_eq_false (by omega : ¬ 0 ≤ p.src)]
      rfl
    rw [e]
    go_enter Try.func54, Try.ntmps54
    go_wp2
    go_ret
    exact ⟨rfl, (Chg.refl Non w).alloc _⟩
  · have e : (!goodEv from_ p) = decide (p.sent < from_) := by
      unfold goodEv
      rw [decide_eq_true (by omega : 0 ≤ p.src)]
      by_cases h2 : p.sent < from_
      · rw [decide_eq_false (by omega : ¬ from_ ≤ p.sent), decide_eq_true h2]; rfl
      · rw [decide_eq_true (by omega : from_ ≤ p.sent), decide_eq_false h2]; rfl
    rw [e]
    go_enter Try.func54, Try.ntmps54
    go_wp2
    go_ret
    exact ⟨rfl, (Chg.refl Non w).alloc _⟩

theorem still_tail_d {P : Program} {id : Nat} {Q : Exit → Act → World → Prop} {a : Act} {w : World} {l : List Oper} (n : Nat) (hm : P.follows .mixedOrders = true) (hB : Region.lexTailB .any l.toArray n = true)
    (h : wpStill P l.toArray w.drew (fun a' => wpList P l.toArray Q (l.drop n) a' w.drew) (l.take n) a) : (Code.region id l.toArray true).wp P Q a w := wp_region_still_tail n hm hB h
theorem vk_or (a b : Ev) : lexC a.vkey b.vkey = orR [cmpI a.sent b.sent, lexC a.key b.key] := by
  unfold Ev.vkey
  by_cases e : a.sent = b.sent
  · rw [e, lexC_eq]
    have : cmpI b.sent b.sent = 0 := lexC_self [b.sent]
    rw [this]
    unfold orR
    rw [if_pos rfl]
    unfold orR
    split
    · rename_i h; rw [h]; rfl
    · rfl
  · rw [lexC_ne e]
    have hc : cmpI a.sent b.sent = if a.sent < b.sent then -1 else 1 := lexC_ne e
    rw [hc]
    unfold orR
    split <;> simp

set_option maxHeartbeats 2000000 in
set_option maxRecDepth 100000 in
theorem vicF2_any (a b : Ev) (w : World) : Calls Try.prog 56 #[a.val, b.val] w fun e w' => e = .returned (.int .i64 (lexC a.vkey b.vkey)) ∧ Chg Non w w' := by
  have hc0 := ((Chg.refl Non w).alloc (.cells #[.int .i64 a.at_, .int .i64 a.src, .int .i64 a.sent, .int .i64 a.no, .int .i64 a.dst, .int .i64 a.kind, .int .i64 a.data] 31)).alloc (.cells #[.int .i64 b.at_, .int .i64 b.src, .int .i64 b.sent, .int .i64 b.no, .int .i64 b.dst, .int .i64 b.kind, .int .i64 b.data] 31)
  have h1 := (Blk.new w #[.int .i64 a.at_, .int .i64 a.src, .int .i64 a.sent, .int .i64 a.no, .int .i64 a.dst, .int .i64 a.kind, .int .i64 a.data] 31).alloc (.cells #[.int .i64 b.at_, .int .i64 b.src, .int .i64 b.sent, .int .i64 b.no, .int .i64 b.dst, .int .i64 b.kind, .int .i64 b.data] 31)
  have h2 := Blk.new_at (w := w.alloc (.cells #[.int .i64 a.at_, .int .i64 a.src, .int .i64 a.sent, .int .i64 a.no, .int .i64 a.dst, .int .i64 a.kind, .int .i64 a.data] 31)) (cs := #[.int .i64 b.at_, .int .i64 b.src, .int .i64 b.sent, .int .i64 b.no, .int .i64 b.dst, .int .i64 b.kind, .int .i64 b.data]) (t := 31) (g := w.heap.size + 1) (by simp)
  obtain ⟨a0, a1, a2, a3, a4, a5, a6⟩ := h1.seven
  obtain ⟨b0, b1, b2, b3, b4, b5, b6⟩ := h2.seven
  have hC := fun w => inqCmp_any a b w
  rw [vk_or]
  unfold Ev.val at *
  go_enter Try.func56, Try.ntmps56
  go_wp2_with fail
  refine still_tail_d 9 (by kernel_rfl) (by kernel_rfl) ?_
  simp only [List.take_succ_cons, List.take_zero, List.drop_succ_cons, List.drop_zero]
  repeat (first | still_step | still_call (cmpInt_any _ _ _))
  refine wpStill_nil ?_
  go_wp2_with fail
  refine (hC _).mono ?_
  rintro e w3 ⟨rfl, hc3⟩
  have hi := ints_read (Blk.new_at (w := w3) (cs := #[.int .i64 (cmpI a.sent b.sent), .int .i64 (lexC a.key b.key)]) (t := 3) (g := w3.heap.size) rfl) [cmpI a.sent b.sent, lexC a.key b.key] (n := 2) rfl rfl (by decide)
  go_wp2_with fail
  refine (cmpOr_any _ 2 2 _ _ hi (by decide)).mono ?_
  rintro e w4 ⟨rfl, rfl⟩
  go_wp2
  go_ret
  exact ⟨rfl, ((hc0.drew.trans hc3 (fun _ x => x.elim)).alloc _)⟩
end Go.Proofs.Ytmdpbbnieehmnaa
