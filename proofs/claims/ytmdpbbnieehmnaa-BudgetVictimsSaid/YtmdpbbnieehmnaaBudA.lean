/- budget: Fit$1, IndexFunc, ContainsFunc over it; Sum. -/
import Derived.Test.YtmdpbbnieehmnaaBase
import Derived.Test.YtmdpbbnieehmnaaProg
import Derived.Deep.QuietTactic
import Derived.BigQuiet
namespace Go.Proofs.Ytmdpbbnieehmnaa
open Go.RowKit

def badB (n : Int) : Bool := decide (n < 0) || decide (1073741824 < n)

set_option maxRecDepth 100000 in
theorem fit1_any (n : Int) (w : World) : Calls Try.prog 52 #[.int .i64 n] w fun e w' => e = .returned (.bool (badB n)) ∧ w = w' := by
  by_cases h : n < 0
  · have hb : badB n = true := by simp [badB, h]
    rw [hb]
    go_enter Try.func52, Try.ntmps52
    go_wp2
    go_ret
    exact ⟨rfl, rfl⟩
  · by_cases h2 : 1073741824 < n
    · have hb : badB n = true := by simp [badB, h2]
      rw [hb]
      go_enter Try.func52, Try.ntmps52
      go_wp2
      go_ret
      exact ⟨rfl, rfl⟩
    · have hb : badB n = false := by simp [badB]; omega
      rw [hb]
      go_enter Try.func52, Try.ntmps52
      go_wp2
      go_ret
      exact ⟨rfl, rfl⟩

/-- Whether one of the first k is bad. -/
def badTo (xs : List Int) (k : Nat) : Bool := (xs.take k).any badB
theorem badTo_succ (xs : List Int) (k : Nat) (h : k < xs.length) : badTo xs (k + 1) = (badTo xs k || badB (xs[k]?.getD 0)) := by
  unfold badTo; rw [List.take_add_one, List.any_append, List.getElem?_eq_getElem h]; simp only [Option.toList_some, List.any_cons, List.any_nil, Bool.or_false, Option.getD_some]
theorem badTo_all (xs : List Int) : badTo xs xs.length = xs.any badB := by simp [badTo]

theorem badTo_any (xs : List Int) (k : Nat) (h : badTo xs k = true) : xs.any badB = true := by
  unfold badTo at h
  rw [List.any_eq_true] at h ⊢
  obtain ⟨x, hx, hb⟩ := h
  exact ⟨x, List.mem_of_mem_take hx, hb⟩

def FoundB (b : Bool) (w : World) (e : Ending) (w' : World) : Prop := ∃ r : Int, e = .returned (.int .i64 r) ∧ decide (0 ≤ r) = b ∧ w = w'

set_option maxRecDepth 100000 in
set_option maxHeartbeats 400000 in
theorem indexfit_any (xs : List Int) (n g cap : Nat) (w : World) (hl : xs.length = n) (hn : n ≤ 1000) (hc : ∀ i, i < xs.length → w.cell? ⟨g, i, none⟩ = some (.int .i64 (xs[i]?.getD 0))) :
    Calls Try.prog 67 #[.slice (some ⟨g, 0, none⟩) n cap, .func (.func 52) #[] #[]] w (FoundB (xs.any badB) w) := by
  subst hl
  have Hc := Lib.hid hc
  clear hc
  go_enter Try.func67, Try.ntmps67
  go_wp2
  go_loop [8] (fun i => ∃ k : Nat, k ≤ xs.length ∧ i = .int .i64 k ∧ Hid (badTo xs k = false)) (fun i => xs.length - (intOf i).toNat)
  case atStart => exact ⟨0, by omega, rfl, by simp [Hid, badTo]⟩
  case round =>
    obtain ⟨k, hk, rfl, Hb⟩ := hrel
    by_cases hlt : k < xs.length
    · have hs := badTo_succ xs k hlt
      have hcell := Hc.out k hlt
      generalize xs[k]?.getD 0 = x at hs hcell
      have Hs := Lib.hid hs
      clear hs
      cases hx : badB x with
      | true =>
        have hfit : ∀ w, Calls Try.prog 52 #[.int .i64 x] w fun e w' => e = .returned (.bool true) ∧ w = w' := fun w => hx ▸ fit1_any x w
        have Hf := Lib.hid hfit
        clear hfit
        have Hx := Lib.hid hx
        clear hx
        go_wp2_with (go_at_call 52; refine (Hf.out _).mono ?_; rintro e w' ⟨rfl, rfl⟩)
        go_ret
        have h1 : badTo xs (k + 1) = true := by rw [Hs.out, Hx.out]; simp
        exact ⟨k, rfl, by rw [badTo_any xs _ h1]; simp, rfl⟩
      | false =>
        have hfit : ∀ w, Calls Try.prog 52 #[.int .i64 x] w fun e w' => e = .returned (.bool false) ∧ w = w' := fun w => hx ▸ fit1_any x w
        have Hf := Lib.hid hfit
        clear hfit
        have Hx := Lib.hid hx
        clear hx
        go_wp2_with (go_at_call 52; refine (Hf.out _).mono ?_; rintro e w' ⟨rfl, rfl⟩)
        go_round
        case rel => exact ⟨k + 1, by omega, by go_num, by have := Hs.out; rw [Hx.out, Hb.out] at this; exact this⟩
        case measure => simp [intOf]; omega
    · obtain rfl : k = xs.length := by omega
      go_wp2
      go_ret
      exact ⟨-1, rfl, by rw [← badTo_all, Hb.out]; rfl, rfl⟩

set_option maxRecDepth 100000 in
theorem containsfit_any (xs : List Int) (n g cap : Nat) (w : World) (hl : xs.length = n) (hn : n ≤ 1000) (hc : ∀ i, i < xs.length → w.cell? ⟨g, i, none⟩ = some (.int .i64 (xs[i]?.getD 0))) :
    Calls Try.prog 51 #[.slice (some ⟨g, 0, none⟩) n cap, .func (.func 52) #[] #[]] w fun e w' => e = .returned (.bool (xs.any badB)) ∧ w = w' := by
  have Hi := Lib.hid (indexfit_any xs n g cap w hl hn hc)
  clear hc hl
  generalize xs.any badB = b at Hi
  cases b with
  | true =>
    go_enter Try.func51, Try.ntmps51
    go_wp2_with (go_at_call 67; refine Hi.out.mono ?_; rintro e w' ⟨r, rfl, hr, rfl⟩; have hr := of_decide_eq_true hr)
    go_ret
    exact ⟨rfl, rfl⟩
  | false =>
    go_enter Try.func51, Try.ntmps51
    go_wp2_with (go_at_call 67; refine Hi.out.mono ?_; rintro e w' ⟨r, rfl, hr, rfl⟩; have hr := of_decide_eq_false hr)
    go_ret
    exact ⟨rfl, rfl⟩
end Go.Proofs.Ytmdpbbnieehmnaa
