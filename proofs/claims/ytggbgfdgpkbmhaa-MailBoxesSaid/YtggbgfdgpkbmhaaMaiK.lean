/- mail: a call (Op); few; Least of a nil net; packet. -/
import Derived.Test.YtggbgfdgpkbmhaaMaiJ
import Derived.Test.YtggbgfdgpkbmhaaMaiHA
import Derived.Test.YtggbgfdgpkbmhaaBaseR
namespace Go.Proofs.Ytggbgfdgpkbmhaa
open Go.RowKit
set_option linter.unusedSimpArgs false
set_option linter.unusedVariables false

/-- A call; its things lie in memory. -/
structure OpA where
  ask : Int
  a : Int
  b : Int
  A : Option Addr
  n : Nat
  c : Nat
deriving Inhabited
def OpA.cells (o : OpA) : List Value := [.int .i64 o.ask, .int .i64 o.a, .int .i64 o.b, .slice o.A o.n o.c]
def fewB (l : List OpA) : Bool := l.all (fun o => decide (o.n ≤ 20)) && decide (l.length ≤ 40)
theorem op_at {w : World} {A : Option Addr} {n c : Nat} {xs : List OpA} (h : SlRead OpA.cells 4 w A n c xs) {k : Nat} {o : OpA} (hp : xs[k]? = some o) : ∃ ad, A = some ad ∧ w.cell? (ad.add (k * 4)) = some (.int .i64 o.ask) ∧ w.cell? ⟨(ad.add (k * 4)).block, (ad.add (k * 4)).off + 1, none⟩ = some (.int .i64 o.a) ∧ w.cell? ⟨(ad.add (k * 4)).block, (ad.add (k * 4)).off + 2, none⟩ = some (.int .i64 o.b) ∧ w.cell? ⟨(ad.add (k * 4)).block, (ad.add (k * 4)).off + 3, none⟩ = some (.slice o.A o.n o.c) := by
  obtain ⟨ad, e, hc⟩ := h.cell k o hp
  refine ⟨ad, e, by simpa using hc 0 (.int .i64 o.ask) rfl, ?_, ?_, ?_⟩
  · rw [← add_field _ _ 1 (by omega)]; exact hc 1 (.int .i64 o.a) rfl
  · rw [← add_field _ _ 2 (by omega)]; exact hc 2 (.int .i64 o.b) rfl
  · rw [← add_field _ _ 3 (by omega)]; exact hc 3 (.slice o.A o.n o.c) rfl

set_option maxRecDepth 100000 in
theorem few14_any (A : Option Addr) (n c : Nat) (l : List OpA) (w : World) (h : SlRead OpA.cells 4 w A n c l) :
    Calls Try.prog 29 #[.slice A n c] w fun e w' => e = .returned (.bool (fewB l)) ∧ w = w' := by
  have hlen := h.len
  have hmx : n ≤ 9223372036854775807 := by have := h.cap; have := h.max; unfold maxLen at this; omega
  have HL := Lib.hid h
  clear h
  go_enter Try.func29, Try.ntmps29
  go_wp2
  go_loop [3] (fun i => ∃ k : Nat, k ≤ n ∧ i = .int .i64 k ∧ (l.take k).all (fun o => decide (o.n ≤ 20)) = true) (fun i => n - (intOf i).toNat)
  case atStart => exact ⟨0, by omega, rfl, by simp⟩
  case round =>
    obtain ⟨k, hk, rfl, hall⟩ := hrel
    by_cases hlt : k < n
    · have hs : l[k]? = some (l[k]'(by omega)) := List.getElem?_eq_getElem (by omega)
      generalize l[k]'(by omega) = o at hs
      obtain ⟨ad, rfl, _, _, _, c3⟩ := op_at HL.out hs
      have HA := Lib.hid hall
      have HS := Lib.hid hs
      clear hall hs
      by_cases h20 : o.n ≤ 20
      · have h20' : ¬ (20 : Int) < o.n := by omega
        go_wp2
        go_round
        case rel =>
          refine ⟨k + 1, by omega, by go_num, ?_⟩
          rw [List.take_add_one, HS.out, List.all_append, HA.out]
          simpa using h20
        case measure => simp [intOf]; omega
      · have h20' : (20 : Int) < o.n := by omega
        go_wp2
        go_ret
        refine ⟨?_, rfl⟩
        have hf : fewB l = false := by
          unfold fewB
          rw [Bool.and_eq_false_iff]
          left
          rw [List.all_eq_false]
          exact ⟨o, List.mem_of_getElem? HS.out, by simpa using h20⟩
        rw [hf]
        rfl
    · obtain rfl : k = n := by omega
      rw [List.take_of_length_le (by omega)] at hall
      go_wp2
      go_ret
      refine ⟨?_, rfl⟩
      have hf : fewB l = decide ((k : Int) ≤ 40) := by
        unfold fewB
        rw [hall, hlen, Bool.true_and]
        exact decide_eq_decide.2 (by omega)
      rw [hf]
      rfl

theorem fnNil (w : World) : (binOp .eql 48 .nilFunc .nilFunc).run Try.prog w = .ok (.bool true) w := by kernel_rfl
theorem fnTwice (w : World) : (binOp .eql 48 (.func (.func 40) #[] #[]) .nilFunc).run Try.prog w = .ok (.bool false) w := by kernel_rfl
theorem fnIter (bl q : Nat) (w : World) : (binOp .eql 63 (.func (.func 83) #[] #[.pointer (some ⟨bl, 0, none⟩), .pointer (some ⟨q, 0, none⟩)]) .nilFunc).run Try.prog w = .ok (.bool false) w := by kernel_rfl
theorem maiLeastI_nil (w : World) : Calls Try.prog 39 #[.pointer none, .func (.func 40) #[] #[]] w fun e w' => e = .returned (.tuple #[.int .i64 0, .bool false]) ∧ Chg Non w w' := by
  go_enter Try.func39, Try.ntmps39
  go_wp2
  go_ret2
  exact ⟨rfl, (Chg.refl Non w).alloc _⟩
set_option maxRecDepth 100000 in
theorem maiLeastI_nof (b : Nat) (w : World) : Calls Try.prog 39 #[.pointer (some ⟨b, 0, none⟩), .nilFunc] w fun e w' => e = .returned (.tuple #[.int .i64 0, .bool false]) ∧ Chg Non w w' := by
  have hfe := fnNil
  go_enter Try.func39, Try.ntmps39
  go_wp2
  go_ret2
  exact ⟨rfl, (Chg.refl Non w).alloc _⟩

set_option maxRecDepth 100000 in
theorem packet14_same (p : Pk) (w : World) : Calls Try.prog 62 #[.agg #[.int .i64 p.no, .int .i64 p.src, .int .i64 p.dst, .int .i64 p.x], .agg #[.int .i64 p.no, .int .i64 p.src, .int .i64 p.dst, .int .i64 p.x]] w fun e w' => e = .returned (.bool true) ∧ Chg Non w w' := by
  have h1 := (Blk.new w #[.int .i64 p.no, .int .i64 p.src, .int .i64 p.dst, .int .i64 p.x] 67).alloc (.cells #[.int .i64 p.no, .int .i64 p.src, .int .i64 p.dst, .int .i64 p.x] 111)
  have h2 := Blk.new_at (w := w.alloc (.cells #[.int .i64 p.no, .int .i64 p.src, .int .i64 p.dst, .int .i64 p.x] 67)) (cs := #[.int .i64 p.no, .int .i64 p.src, .int .i64 p.dst, .int .i64 p.x]) (t := 111) (g := w.heap.size + 1) (by simp)
  obtain ⟨⟨a0, a1, a2, a3⟩, _⟩ := h1.four
  obtain ⟨⟨b0, b1, b2, b3⟩, _⟩ := h2.four
  go_enter Try.func62, Try.ntmps62
  go_wp2
  go_ret
  exact ⟨rfl, ((Chg.refl Non w).alloc _).alloc _⟩
set_option maxRecDepth 100000 in
theorem packet14_not (p q : Pk) (hpq : p ≠ q) (w : World) : Calls Try.prog 62 #[.agg #[.int .i64 p.no, .int .i64 p.src, .int .i64 p.dst, .int .i64 p.x], .agg #[.int .i64 q.no, .int .i64 q.src, .int .i64 q.dst, .int .i64 q.x]] w fun e w' => e = .returned (.bool false) ∧ Chg Non w w' := by
  have h1 := (Blk.new w #[.int .i64 p.no, .int .i64 p.src, .int .i64 p.dst, .int .i64 p.x] 67).alloc (.cells #[.int .i64 q.no, .int .i64 q.src, .int .i64 q.dst, .int .i64 q.x] 111)
  have h2 := Blk.new_at (w := w.alloc (.cells #[.int .i64 p.no, .int .i64 p.src, .int .i64 p.dst, .int .i64 p.x] 67)) (cs := #[.int .i64 q.no, .int .i64 q.src, .int .i64 q.dst, .int .i64 q.x]) (t := 111) (g := w.heap.size + 1) (by simp)
  obtain ⟨⟨a0, a1, a2, a3⟩, _⟩ := h1.four
  obtain ⟨⟨b0, b1, b2, b3⟩, _⟩ := h2.four
  have hd : (p.no == q.no) = false ∨ ((p.no == q.no) = true ∧ (p.src == q.src) = false) ∨ ((p.no == q.no) = true ∧ (p.src == q.src) = true ∧ (p.dst == q.dst) = false) ∨ ((p.no == q.no) = true ∧ (p.src == q.src) = true ∧ (p.dst == q.dst) = true ∧ (p.x == q.x) = false) := by
    cases e1 : p.no == q.no
    · exact .inl rfl
    · cases e2 : p.src == q.src
      · exact .inr (.inl ⟨rfl, rfl⟩)
      · cases e3 : p.dst == q.dst
        · exact .inr (.inr (.inl ⟨rfl, rfl, rfl⟩))
        · cases e4 : p.x == q.x
          · exact .inr (.inr (.inr ⟨rfl, rfl, rfl, rfl⟩))
          · exfalso
            apply hpq
            cases p; cases q
            simp at e1 e2 e3 e4
            simp [e1, e2, e3, e4]
  clear hpq
  rcases hd with e1 | ⟨e1, e2⟩ | ⟨e1, e2, e3⟩ | ⟨e1, e2, e3, e4⟩
  all_goals
    go_enter Try.func62, Try.ntmps62
    go_wp2
    go_ret
    exact ⟨rfl, ((Chg.refl Non w).alloc _).alloc _⟩
theorem prefix_snoc {α : Type} {pre m : List α} {s : α} (h : pre <+: m) (ht : m[pre.length]? = some s) : pre ++ [s] <+: m := by
  obtain ⟨z, rfl⟩ := h
  rw [List.getElem?_append_right (Nat.le_refl _), Nat.sub_self] at ht
  cases z with
  | nil => simp at ht
  | cons y z => simp at ht; subst ht; exact ⟨z, by simp⟩
theorem snoc_prefix {α : Type} {pre m : List α} {s : α} (h : pre ++ [s] <+: m) : m[pre.length]? = some s := by
  obtain ⟨z, rfl⟩ := h
  rw [List.append_assoc, List.getElem?_append_right (Nat.le_refl _), Nat.sub_self]
  rfl
/-- Where a list is told in order, and something else comes. -/
def PkStop (m : List Pk) (_ : Code) (pre : List Pk) (_ : World) : Prop := ¬ pre <+: m
end Go.Proofs.Ytggbgfdgpkbmhaa
