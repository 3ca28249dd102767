/- events: the document's Ahead. -/
import Derived.Test.YtmdpbbnieehmnaaVicD
namespace Go.Proofs.Ytmdpbbnieehmnaa
open Go.RowKit
set_option linter.unusedSimpArgs false
set_option linter.unusedVariables false

theorem lex_at {xs ys : List Int} (hl : xs.length = ys.length) {k : Nat} (h : xs.take k = ys.take k) {x y : Int} (hx : xs[k]? = some x) (hy : ys[k]? = some y) (hne : x ≠ y) : lexC xs ys = if x < y then -1 else 1 := by
  have h1 : k < xs.length := (List.getElem?_eq_some_iff.1 hx).1
  have h2 : k < ys.length := (List.getElem?_eq_some_iff.1 hy).1
  have e1 : xs.drop k = x :: xs.drop (k + 1) := by
    rw [List.drop_eq_getElem_cons h1]
    congr 1
    rw [List.getElem?_eq_getElem h1] at hx
    exact Option.some.inj hx
  have e2 : ys.drop k = y :: ys.drop (k + 1) := by
    rw [List.drop_eq_getElem_cons h2]
    congr 1
    rw [List.getElem?_eq_getElem h2] at hy
    exact Option.some.inj hy
  rw [← List.take_append_drop k xs, ← List.take_append_drop k ys, lexC_append _ _ _ _ (by rw [h]), h, lexC_self, if_pos rfl, e1, e2, lexC_ne hne]
def aheadB (a b : Ev) : Bool := decide (lexC a.key b.key < 0)

set_option maxHeartbeats 4000000 in
set_option maxRecDepth 100000 in
theorem ahead_any (a b : Ev) (w : World) : Calls Try.prog 30 #[a.val, b.val] w fun e w' => e = .returned (.bool (aheadB a b)) ∧ Chg Non w w' := by
  have h1 := (Blk.new w #[.int .i64 a.at_, .int .i64 a.src, .int .i64 a.sent, .int .i64 a.no, .int .i64 a.dst, .int .i64 a.kind, .int .i64 a.data] 31).alloc (.cells #[.int .i64 b.at_, .int .i64 b.src, .int .i64 b.sent, .int .i64 b.no, .int .i64 b.dst, .int .i64 b.kind, .int .i64 b.data] 31)
  have h2 := Blk.new_at (w := w.alloc (.cells #[.int .i64 a.at_, .int .i64 a.src, .int .i64 a.sent, .int .i64 a.no, .int .i64 a.dst, .int .i64 a.kind, .int .i64 a.data] 31)) (cs := #[.int .i64 b.at_, .int .i64 b.src, .int .i64 b.sent, .int .i64 b.no, .int .i64 b.dst, .int .i64 b.kind, .int .i64 b.data]) (t := 31) (g := w.heap.size + 1) (by simp)
  obtain ⟨a0, a1, a2, a3, a4, a5, a6⟩ := h1.seven
  obtain ⟨b0, b1, b2, b3, b4, b5, b6⟩ := h2.seven
  obtain ⟨c0, c1, c2, c3, c4, c5, c6⟩ := (h2.alloc (.cells #[.int .i64 a.at_, .int .i64 a.src, .int .i64 a.sent, .int .i64 a.no, .int .i64 a.dst, .int .i64 a.kind, .int .i64 a.data] 3)).seven
  have hcw := ((((Chg.refl Non w).alloc (.cells #[.int .i64 a.at_, .int .i64 a.src, .int .i64 a.sent, .int .i64 a.no, .int .i64 a.dst, .int .i64 a.kind, .int .i64 a.data] 31)).alloc (.cells #[.int .i64 b.at_, .int .i64 b.src, .int .i64 b.sent, .int .i64 b.no, .int .i64 b.dst, .int .i64 b.kind, .int .i64 b.data] 31)).alloc (.cells #[.int .i64 a.at_, .int .i64 a.src, .int .i64 a.sent, .int .i64 a.no, .int .i64 a.dst, .int .i64 a.kind, .int .i64 a.data] 3)).alloc (.cells #[.int .i64 b.at_, .int .i64 b.src, .int .i64 b.sent, .int .i64 b.no, .int .i64 b.dst, .int .i64 b.kind, .int .i64 b.data] 3)
  have hx := (ints_read (Blk.new_at (w := (w.alloc (.cells #[.int .i64 a.at_, .int .i64 a.src, .int .i64 a.sent, .int .i64 a.no, .int .i64 a.dst, .int .i64 a.kind, .int .i64 a.data] 31)).alloc (.cells #[.int .i64 b.at_, .int .i64 b.src, .int .i64 b.sent, .int .i64 b.no, .int .i64 b.dst, .int .i64 b.kind, .int .i64 b.data] 31)) (cs := #[.int .i64 a.at_, .int .i64 a.src, .int .i64 a.sent, .int .i64 a.no, .int .i64 a.dst, .int .i64 a.kind, .int .i64 a.data]) (t := 3) (g := w.heap.size + 1 + 1) (by simp)) a.key (n := 7) rfl rfl (by decide)).below ((Below.refl _ _).alloc (Nat.le_refl _) (.cells #[.int .i64 b.at_, .int .i64 b.src, .int .i64 b.sent, .int .i64 b.no, .int .i64 b.dst, .int .i64 b.kind, .int .i64 b.data] 3))
  have hy := ints_read (Blk.new_at (w := ((w.alloc (.cells #[.int .i64 a.at_, .int .i64 a.src, .int .i64 a.sent, .int .i64 a.no, .int .i64 a.dst, .int .i64 a.kind, .int .i64 a.data] 31)).alloc (.cells #[.int .i64 b.at_, .int .i64 b.src, .int .i64 b.sent, .int .i64 b.no, .int .i64 b.dst, .int .i64 b.kind, .int .i64 b.data] 31)).alloc (.cells #[.int .i64 a.at_, .int .i64 a.src, .int .i64 a.sent, .int .i64 a.no, .int .i64 a.dst, .int .i64 a.kind, .int .i64 a.data] 3)) (cs := #[.int .i64 b.at_, .int .i64 b.src, .int .i64 b.sent, .int .i64 b.no, .int .i64 b.dst, .int .i64 b.kind, .int .i64 b.data]) (t := 3) (g := w.heap.size + 1 + 1 + 1) (by simp)) b.key (n := 7) rfl rfl (by decide)
  have HX := Lib.hid hx
  have HY := Lib.hid hy
  have HC := Lib.hid hcw
  clear hx hy hcw
  unfold Ev.val
  go_enter Try.func30, Try.ntmps30
  go_wp2_with fail
  go_loopw [7] (fun i wr => ∃ k : Nat, k ≤ 7 ∧ i = .int .i64 k ∧ Hid (a.key.take k = b.key.take k) ∧ SlRead (fun x => [Value.int .i64 x]) 1 wr (some ⟨w.heap.size + 1 + 1, 0, none⟩) 7 7 a.key ∧ SlRead (fun x => [Value.int .i64 x]) 1 wr (some ⟨w.heap.size + 1 + 1 + 1, 0, none⟩) 7 7 b.key ∧ Chg Non w wr) (fun i _ => 7 - (intOf i).toNat)
  case atStart => exact ⟨0, by omega, rfl, rfl, HX.out, HY.out, HC.out⟩
  case round =>
    obtain ⟨k, hk, rfl, hT, hX, hY, hch⟩ := hrel
    by_cases hlt : k < 7
    · have hs : a.key[k]? = some (a.key[k]'(by show k < 7; exact hlt)) := List.getElem?_eq_getElem _
      have ht : b.key[k]? = some (b.key[k]'(by show k < 7; exact hlt)) := List.getElem?_eq_getElem _
      generalize a.key[k]'(by show k < 7; exact hlt) = x at hs
      generalize b.key[k]'(by show k < 7; exact hlt) = y at ht
      obtain ⟨_, e, hc⟩ := hX.cell k x hs
      cases e
      obtain ⟨_, e, hd⟩ := hY.cell k y ht
      cases e
      have x0 := hc 0 (.int .i64 x) rfl
      have y0 := hd 0 (.int .i64 y) rfl
      rw [add_plain] at x0 y0
      simp at x0 y0
      have HS := Lib.hid hs
      have HT := Lib.hid ht
      have HXX := Lib.hid hX
      have HYY := Lib.hid hY
      clear hs ht hc hd hX hY
      by_cases hxy : x = y
      · have hb : (x != y) = false := by simp [hxy]
        have HE := Lib.hid hxy
        clear hxy
        go_wp2_with fail
        go_quiet (fail)
        go_wp2
        refine ⟨⟨k + 1, by omega, by go_num, ?_, HXX.out.non ((Chg.refl Non wr).drewN nq), HYY.out.non ((Chg.refl Non wr).drewN nq), hch.drewN nq⟩, by simp [intOf]; omega⟩
        show a.key.take (k + 1) = b.key.take (k + 1)
        rw [List.take_add_one, List.take_add_one, HS.out, HT.out, hT.out, HE.out]
      · have hb : (x != y) = true := by simp [hxy]
        go_wp2_with fail
        go_quiet (fail)
        go_wp2_with fail
        go_quiet (fail)
        go_wp2
        go_ret
        refine ⟨?_, (hch.drewN _).drewN _⟩
        have e : aheadB a b = decide (x < y) := by
          unfold aheadB
          rw [lex_at (show a.key.length = b.key.length from rfl) hT.out HS.out HT.out hxy]
          by_cases h' : x < y <;> simp [h']
        rw [e]
        rfl
    · obtain rfl : k = 7 := by omega
      have hTT := hT.out
      go_wp2
      go_ret
      refine ⟨?_, hch⟩
      have e : aheadB a b = false := by
        have e1 : a.key = b.key := by
          have : a.key.take 7 = b.key.take 7 := hTT
          rwa [List.take_of_length_le (by show 7 ≤ 7; omega), List.take_of_length_le (by show 7 ≤ 7; omega)] at this
        unfold aheadB
        rw [e1, lexC_self]
        rfl
      rw [e]
      rfl
end Go.Proofs.Ytmdpbbnieehmnaa
