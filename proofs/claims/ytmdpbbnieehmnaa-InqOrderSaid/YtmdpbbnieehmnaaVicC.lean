/- events: Before, cmp.Compare, cmp.Or, inq.Compare. -/
import Derived.Test.YtmdpbbnieehmnaaVicB
import Derived.StillTailTactics
namespace Go.Proofs.Ytmdpbbnieehmnaa
open Go.RowKit
set_option linter.unusedSimpArgs false
set_option linter.unusedVariables false

def Ev.k4 (e : Ev) : List Int := [e.at_, e.src, e.sent, e.no]
def Ev.k3 (e : Ev) : List Int := [e.dst, e.kind, e.data]
def Ev.kval (e : Ev) : Value := .agg #[.int .i64 e.at_, .int .i64 e.src, .int .i64 e.sent, .int .i64 e.no]
theorem lexC_ne {x y : Int} {xs ys : List Int} (h : x ≠ y) : lexC (x :: xs) (y :: ys) = if x < y then -1 else 1 := by
  unfold lexC
  by_cases h1 : x < y
  · simp [h1]
  · have h2 : y < x := by omega
    simp [h1, h2]
theorem lexC_eq (x : Int) (xs ys : List Int) : lexC (x :: xs) (x :: ys) = lexC xs ys := by
  rw [lexC]
  simp
def beforeB (a b : Ev) : Bool := decide (lexC a.k4 b.k4 < 0)

theorem Blk.four' {w : World} {g : Nat} {a b c d : Value} {t : TypeId} (h : Blk w g #[a, b, c, d] t) : w.cell? ⟨g, 0, none⟩ = some a ∧ w.cell? ⟨g, 1, none⟩ = some b ∧ w.cell? ⟨g, 2, none⟩ = some c ∧ w.cell? ⟨g, 3, none⟩ = some d := ⟨h.cell 0, h.cell 1, h.cell 2, h.cell 3⟩

set_option maxRecDepth 100000 in
theorem before_any (a b : Ev) (w : World) : Calls Try.prog 42 #[a.kval, b.kval] w fun e w' => e = .returned (.bool (beforeB a b)) ∧ Chg Non w w' := by
  have h1 := (Blk.new w #[.int .i64 a.at_, .int .i64 a.src, .int .i64 a.sent, .int .i64 a.no] 23).alloc (.cells #[.int .i64 b.at_, .int .i64 b.src, .int .i64 b.sent, .int .i64 b.no] 23)
  have h2 := Blk.new_at (w := w.alloc (.cells #[.int .i64 a.at_, .int .i64 a.src, .int .i64 a.sent, .int .i64 a.no] 23)) (cs := #[.int .i64 b.at_, .int .i64 b.src, .int .i64 b.sent, .int .i64 b.no]) (t := 23) (g := w.heap.size + 1) (by simp)
  obtain ⟨a0, a1, a2, a3⟩ := h1.four'
  obtain ⟨b0, b1, b2, b3⟩ := h2.four'
  have key : ∀ r : Bool, beforeB a b = r → (Calls Try.prog 42 #[a.kval, b.kval] w fun e w' => e = .returned (.bool r) ∧ Chg Non w w') → Calls Try.prog 42 #[a.kval, b.kval] w fun e w' => e = .returned (.bool (beforeB a b)) ∧ Chg Non w w' := fun r h k => by rw [h]; exact k
  unfold Ev.kval at *
  by_cases e0 : a.at_ = b.at_
  · have d0 : (a.at_ != b.at_) = false := by simp [e0]
    by_cases e1 : a.src = b.src
    · have d1 : (a.src != b.src) = false := by simp [e1]
      by_cases e2 : a.sent = b.sent
      · have d2 : (a.sent != b.sent) = false := by simp [e2]
        refine key (decide (a.no < b.no)) ?_ ?_
        · unfold beforeB Ev.k4
          rw [e0, e1, e2, lexC_eq, lexC_eq, lexC_eq]
          by_cases h : a.no = b.no
          · rw [h, lexC_eq]; simp [lexC]
          · rw [lexC_ne h]; by_cases h' : a.no < b.no <;> simp [h']
        · clear key e0 e1 e2
          go_enter Try.func42, Try.ntmps42
          go_wp2
          go_ret
          exact ⟨rfl, ((Chg.refl Non w).alloc _).alloc _⟩
      · have d2 : (a.sent != b.sent) = true := by simp [e2]
        refine key (decide (a.sent < b.sent)) ?_ ?_
        · unfold beforeB Ev.k4
          rw [e0, e1, lexC_eq, lexC_eq, lexC_ne e2]
          by_cases h' : a.sent < b.sent <;> simp [h']
        · clear key e0 e1 e2
          go_enter Try.func42, Try.ntmps42
          go_wp2
          go_ret
          exact ⟨rfl, ((Chg.refl Non w).alloc _).alloc _⟩
    · have d1 : (a.src != b.src) = true := by simp [e1]
      refine key (decide (a.src < b.src)) ?_ ?_
      · unfold beforeB Ev.k4
        rw [e0, lexC_eq, lexC_ne e1]
        by_cases h' : a.src < b.src <;> simp [h']
      · clear key e0 e1
        go_enter Try.func42, Try.ntmps42
        go_wp2
        go_ret
        exact ⟨rfl, ((Chg.refl Non w).alloc _).alloc _⟩
  · have d0 : (a.at_ != b.at_) = true := by simp [e0]
    refine key (decide (a.at_ < b.at_)) ?_ ?_
    · unfold beforeB Ev.k4
      rw [lexC_ne e0]
      by_cases h' : a.at_ < b.at_ <;> simp [h']
    · clear key e0
      go_enter Try.func42, Try.ntmps42
      go_wp2
      go_ret
      exact ⟨rfl, ((Chg.refl Non w).alloc _).alloc _⟩

def cmpI (x y : Int) : Int := lexC [x] [y]
theorem isNaN_any (x : Int) (w : World) : Calls Try.prog 69 #[.int .i64 x] w fun e w' => e = .returned (.bool false) ∧ w = w' := by
  have h : (x != x) = false := bne_self_eq_false x
  go_enter Try.func69, Try.ntmps69
  go_wp2
  go_ret
  exact ⟨rfl, rfl⟩
theorem cmpInt_any (x y : Int) (w : World) : Calls Try.prog 58 #[.int .i64 x, .int .i64 y] w fun e w' => e = .returned (.int .i64 (cmpI x y)) ∧ w' = w := by
  unfold cmpI
  by_cases h1 : x < y
  · have e : lexC [x] [y] = -1 := by rw [lexC_ne (by omega), if_pos h1]
    rw [e]
    go_enter Try.func58, Try.ntmps58
    go_wp2_with (go_at_call 69; refine (isNaN_any _ _).mono ?_; rintro e w' ⟨rfl, rfl⟩)
    go_ret
    exact ⟨rfl, rfl⟩
  · by_cases h2 : y < x
    · have e : lexC [x] [y] = 1 := by rw [lexC_ne (by omega), if_neg h1]
      rw [e]
      go_enter Try.func58, Try.ntmps58
      go_wp2_with (go_at_call 69; refine (isNaN_any _ _).mono ?_; rintro e w' ⟨rfl, rfl⟩)
      go_ret
      exact ⟨rfl, rfl⟩
    · have e : lexC [x] [y] = 0 := by
        have : x = y := by omega
        rw [this, lexC_self]
      rw [e]
      go_enter Try.func58, Try.ntmps58
      go_wp2_with (go_at_call 69; refine (isNaN_any _ _).mono ?_; rintro e w' ⟨rfl, rfl⟩)
      go_ret
      exact ⟨rfl, rfl⟩

/-- The first that is not zero. -/
def orR : List Int → Int
  | [] => 0
  | x :: xs => if x = 0 then orR xs else x
theorem or_drop : ∀ (xs : List Int) (k : Nat), (∀ i x, i < k → xs[i]? = some x → x = 0) → orR (xs.drop k) = orR xs
  | [], k, _ => by simp
  | x :: xs, 0, _ => rfl
  | x :: xs, k + 1, h => by
    have h0 := h 0 x (by omega) rfl
    subst h0
    rw [List.drop_succ_cons, or_drop xs k (fun i y hi hy => h (i + 1) y (by omega) hy)]
    simp [orR]
set_option maxRecDepth 100000 in
theorem cmpOr_any (A : Option Addr) (n c : Nat) (xs : List Int) (w : World) (h : SlRead (fun x => [Value.int .i64 x]) 1 w A n c xs) (hn : n ≤ 1000) :
    Calls Try.prog 57 #[.slice A n c] w fun e w' => e = .returned (.int .i64 (orR xs)) ∧ w = w' := by
  have hlen := h.len
  have HL := Lib.hid h
  clear h
  go_enter Try.func57, Try.ntmps57
  go_wp2
  go_loop [8] (fun i => ∃ k : Nat, k ≤ n ∧ i = .int .i64 k ∧ Hid (∀ (i : Nat) (x : Int), i < k → xs[i]? = some x → x = 0)) (fun i => n - (intOf i).toNat)
  case atStart => exact ⟨0, by omega, rfl, fun i x hi => by omega⟩
  case round =>
    obtain ⟨k, hk, rfl, hall⟩ := hrel
    by_cases hlt : k < n
    · have hs : xs[k]? = some (xs[k]'(by omega)) := List.getElem?_eq_getElem (by omega)
      generalize xs[k]'(by omega) = x at hs
      obtain ⟨ad, e, hc⟩ := HL.out.cell k x hs
      subst e
      have x0 := hc 0 (.int .i64 x) rfl
      simp at x0
      have HS := Lib.hid hs
      clear hs hc
      by_cases hx : x = 0
      · have hb : (x != 0) = false := by simp [hx]
        have HX := Lib.hid hx
        clear hx
        go_wp2
        go_round
        case rel =>
          refine ⟨k + 1, by omega, by go_num, fun i y hi hy => ?_⟩
          by_cases h : i < k
          · exact hall i y h hy
          · obtain rfl : i = k := by omega
            rw [HS.out] at hy
            cases hy
            exact HX.out
        case measure => simp [intOf]; omega
      · have hb : (x != 0) = true := by simp [hx]
        go_wp2
        go_ret
        refine ⟨?_, rfl⟩
        have e : orR xs = x := by
          rw [← or_drop xs k hall]
          have : xs.drop k = x :: xs.drop (k + 1) := by
            have h' : k < xs.length := by omega
            rw [List.drop_eq_getElem_cons h']
            have := HS.out
            rw [List.getElem?_eq_getElem h'] at this
            cases this
            rfl
          rw [this]
          simp [orR, hx]
        rw [e]
        rfl
    · obtain rfl : k = n := by omega
      go_wp2
      go_ret
      refine ⟨?_, rfl⟩
      have e : orR xs = 0 := by
        rw [← or_drop xs k hall, List.drop_of_length_le (by omega)]
        rfl
      rw [e]
      rfl
end Go.Proofs.Ytmdpbbnieehmnaa
