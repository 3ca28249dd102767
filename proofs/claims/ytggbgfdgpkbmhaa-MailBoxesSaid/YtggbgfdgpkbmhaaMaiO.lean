/- mail: the document's answer: Send. -/
import Derived.Test.YtggbgfdgpkbmhaaMaiN
import Derived.Test.YtggbgfdgpkbmhaaMaiE
namespace Go.Proofs.Ytggbgfdgpkbmhaa
open Go.RowKit
set_option linter.unusedSimpArgs false
set_option linter.unusedVariables false

set_option maxRecDepth 100000 in
theorem refSend_no (a c : Int) (B : Option Addr) (n d : Nat) (w : World) (b : Nat) (boxes next : Int) (A : Option Addr) (cap : Nat) (l : List Pk) (h : RNetAt w b boxes next A cap l) (hx : (inBox boxes a && inBox boxes c) = false) :
    Calls Try.prog 60 #[.pointer (some ⟨b, 0, none⟩), .int .i64 a, .int .i64 c, .slice B n d] w fun e w' => e = .returned (.tuple #[.int .i64 0, .int .i64 1]) ∧ w = w' := by
  obtain ⟨⟨c0, _, _⟩, _⟩ := h.blk.three
  have hx' : a < 0 ∨ (¬ a < 0 ∧ boxes ≤ a) ∨ (¬ a < 0 ∧ ¬ boxes ≤ a ∧ c < 0) ∨ (¬ a < 0 ∧ ¬ boxes ≤ a ∧ ¬ c < 0 ∧ boxes ≤ c) := by
    unfold inBox at hx
    by_cases h1 : a < 0
    · exact .inl h1
    · by_cases h2 : boxes ≤ a
      · exact .inr (.inl ⟨h1, h2⟩)
      · by_cases h3 : c < 0
        · exact .inr (.inr (.inl ⟨h1, h2, h3⟩))
        · by_cases h4 : boxes ≤ c
          · exact .inr (.inr (.inr ⟨h1, h2, h3, h4⟩))
          · simp at hx; omega
  clear hx
  rcases hx' with h1 | ⟨h1, h2⟩ | ⟨h1, h2, h3⟩ | ⟨h1, h2, h3, h4⟩
  all_goals
    go_enter Try.func60, Try.ntmps60
    go_wp2
    go_ret2
    exact ⟨rfl, rfl⟩

set_option maxHeartbeats 2000000 in
set_option maxRecDepth 100000 in
theorem refSend_ok (a c : Int) (B : Option Addr) (n d : Nat) (xs : List Int) (w : World) (b : Nat) (boxes next : Int) (A : Option Addr) (cap : Nat) (l : List Pk) (h : RNetAt w b boxes next A cap l) (ha : inBox boxes a = true) (hc : inBox boxes c = true)
    (hxs : SlRead (fun x => [Value.int .i64 x]) 1 w B n d xs) (hBb : 0 < n → ∀ ad, B = some ad → ad.block ≠ b) (hBA : 0 < n → ∀ ad ad', B = some ad → A = some ad' → ad.block ≠ ad'.block) (hn : n ≤ 1000) (hl : l.length ≤ 100000) (hnx : 0 ≤ next ∧ next ≤ 100000) :
    Calls Try.prog 60 #[.pointer (some ⟨b, 0, none⟩), .int .i64 a, .int .i64 c, .slice B n d] w fun e w' => e = .returned (.tuple #[.int .i64 next, .int .i64 0]) ∧ ∃ A' cap', RNetAt w' b boxes (next + n) A' cap' (l ++ sent next a c xs) ∧ Chg (netBlk b A) w w' ∧ rowFrom w A A' := by
  obtain ⟨⟨c0, c1, _⟩, _⟩ := h.blk.three
  have hlen := hxs.len
  have HX := Lib.hid hxs
  clear hxs
  unfold inBox at ha hc
  simp at ha hc
  obtain ⟨ha1, ha2⟩ := ha
  obtain ⟨hb1, hb2⟩ := hc
  have g1 : ¬ a < 0 := by omega
  have g2 : ¬ boxes ≤ a := by omega
  have g3 : ¬ c < 0 := by omega
  have g4 : ¬ boxes ≤ c := by omega
  clear ha1 ha2 hb1 hb2
  go_enter Try.func60, Try.ntmps60
  go_wp2
  go_loopw [11] (fun i wr => ∃ (k : Nat) (A' : Option Addr) (cap' : Nat), k ≤ n ∧ i = .int .i64 k ∧ RNetAt wr b boxes (next + k) A' cap' (l ++ sent next a c (xs.take k)) ∧ Chg (netBlk b A) w wr ∧ rowFrom w A A') (fun i _ => n - (intOf i).toNat)
  case atStart => exact ⟨0, A, cap, by omega, rfl, by simpa [sent] using h, Chg.refl _ _, fun ad e => .inl ⟨ad, e, rfl⟩⟩
  case round =>
    obtain ⟨k, A', cap', hk, rfl, hN, hch, hA'⟩ := hrel
    by_cases hlt : k < n
    · have hs : xs[k]? = some (xs[k]'(by omega)) := List.getElem?_eq_getElem (by omega)
      generalize xs[k]'(by omega) = x at hs
      obtain ⟨ad, e, hcell⟩ := (HX.out.chg hch (fun ad e => by rintro (e' | ⟨ad', e1, e2⟩); exact hBb (by omega) ad e e'; exact hBA (by omega) ad ad' e e1 e2)).cell k x hs
      subst e
      have x0 := hcell 0 (.int .i64 x) rfl
      simp at x0
      have hLen : (l ++ sent next a c (xs.take k)).length = l.length + k := by rw [List.length_append, sent_len, List.length_take]; omega
      obtain ⟨M, hM⟩ : ∃ M, M = l ++ sent next a c (xs.take k) := ⟨_, rfl⟩
      rw [← hM] at hLen hN
      have HM := Lib.hid hM
      have HLen := Lib.hid hLen
      clear hM hLen
      obtain ⟨⟨d0, d1, d2⟩, _⟩ := hN.blk.three
      have hcA := hN.non ((Chg.refl Non wr).drew.alloc (.cells #[.int .i64 (next + k), .int .i64 a, .int .i64 c, .int .i64 x] 111))
      have q2 : (wr.alloc (.cells #[.int .i64 (next + k), .int .i64 a, .int .i64 c, .int .i64 x] 111)).cell? ⟨b, 2, none⟩ = some (.slice A' M.length cap') := hcA.blk.cell 2
      have hnews := (Blk.new wr.drew #[.int .i64 (next + k), .int .i64 a, .int .i64 c, .int .i64 x] 111).reads' (Pk.cells ⟨next + k, a, c, x⟩) rfl
      go_wp2_with fail
      go_region_law (refine step_ap_own rfl (.tmp 48) (.tmp 60) 57 rfl 111 (.agg #[.int .i64 0, .int .i64 0, .int .i64 0, .int .i64 0]) 4 32 Try.underlying57 (by kernel_rfl) rfl (by decide) (.slice A' M.length cap') M.length (M.flatMap Pk.cells) (by simp [Act.eval, Act.put]) hcA.own ⟨wr.heap.size, 0, none⟩ 1 1 (Pk.cells ⟨next + k, a, c, x⟩) (by simp [Act.eval, Act.put]) rfl hnews (by simpa using Pk.one [⟨next + k, a, c, x⟩]) (by decide) (by rw [HLen.out]; unfold maxLen; omega) (by rw [HLen.out]; omega) ?_; intro g cap2 w2 hown2 hch2 hg2; have hb2 := hN.behind hch2; have j1 := hb2.cell 1; have j2 := hb2.cell 2; have f1 := hb2.frozen 1; have f2 := hb2.frozen 2)
      all_goals
        go_wp2
        go_roundw
        case rel =>
          obtain ⟨r1, r2, r3⟩ := hN.push (next2 := next + k + 1) hown2 hch2 hg2
          refine ⟨k + 1, some ⟨g, 0, none⟩, cap2, by omega, by go_num, ?_, hch.trans r2 (fun i hi => ?_), fun ad' e => ?_⟩
          · rw [List.take_add_one, hs, show some x = some x from rfl, Option.toList_some, sent_snoc, ← List.append_assoc, ← HM.out, List.length_take, hlen, Nat.min_eq_left (by omega)]
            simpa [Int.add_assoc] using r1
          · rcases hi with rfl | ⟨ad', e, rfl⟩
            · exact .inl (.inl rfl)
            · rcases hA' ad' e with ⟨a2, e2, h2⟩ | h2
              · exact .inl (.inr ⟨a2, e2, h2⟩)
              · exact .inr h2
          · cases e
            rcases r3 with ⟨a2, e2, h2⟩ | h2
            · rcases hA' a2 e2 with ⟨a3, e3, h3⟩ | h3
              · exact .inl ⟨a3, e3, h2.trans h3⟩
              · exact .inr (by show w.heap.size ≤ g; rw [h2]; exact h3)
            · exact .inr (by have := hch.size; show w.heap.size ≤ g; omega)
        case measure => simp [intOf]; omega
    · obtain rfl : k = n := by omega
      rw [List.take_of_length_le (by omega)] at hN
      go_wp2
      go_ret2
      exact ⟨rfl, A', cap', hN, hch, hA'⟩
end Go.Proofs.Ytggbgfdgpkbmhaa
