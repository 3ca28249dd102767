/- mail: few; Send. -/
import Derived.Test.YtggbgfdgpkbmhaaMasC
namespace Go.Proofs.Ytggbgfdgpkbmhaa.S
open Go.RowKit
set_option linter.unusedSimpArgs false
set_option linter.unusedVariables false

/-- What Send adds. -/
def sent (next src dst : Int) : List ByteArray → List Pk
  | [] => []
  | x :: xs => ⟨next, src, dst, x⟩ :: sent (next + 1) src dst xs
theorem sent_len (next src dst : Int) (xs : List ByteArray) : (sent next src dst xs).length = xs.length := by
  induction xs generalizing next with
  | nil => rfl
  | cons x xs ih => simp [sent, ih]
theorem sent_snoc (src dst : Int) (xs : List ByteArray) (x : ByteArray) (next : Int) : sent next src dst (xs ++ [x]) = sent next src dst xs ++ [⟨next + xs.length, src, dst, x⟩] := by
  induction xs generalizing next with
  | nil => simp [sent]
  | cons y xs ih =>
    simp only [List.cons_append, sent, ih, List.length_cons]
    congr 3
    simp only [Pk.mk.injEq, and_self, and_true]
    omega

set_option maxRecDepth 100000 in
theorem maiSendI_no (a c : Int) (B : Option Addr) (n d : Nat) (w : World) (b : Nat) (boxes next : Int) (A : Option Addr) (cap : Nat) (l : List Pk) (h : NetAt w b boxes next A cap l) (hx : (inBox boxes a && inBox boxes c) = false) :
    Calls Try.prog 57 #[.pointer (some ⟨b, 0, none⟩), .int .i64 a, .int .i64 c, .slice B n d] w fun e w' => e = .returned (.tuple #[.int .i64 0, .int .i64 1]) ∧ w = w' := by
  cases h1 : inBox boxes a
  · go_enter Try.func57, Try.ntmps57
    go_wp2_with fail
    refine (h1 ▸ maiBoxI_any a w b boxes next A cap l h).mono ?_
    rintro e w1 ⟨rfl, rfl⟩
    go_wp2
    go_ret2
    exact ⟨rfl, rfl⟩
  · have h2 : inBox boxes c = false := by rw [h1] at hx; simpa using hx
    go_enter Try.func57, Try.ntmps57
    go_wp2_with fail
    refine (h1 ▸ maiBoxI_any a w b boxes next A cap l h).mono ?_
    rintro e w1 ⟨rfl, rfl⟩
    go_wp2_with fail
    refine (h2 ▸ maiBoxI_any c w b boxes next A cap l h).mono ?_
    rintro e w1 ⟨rfl, rfl⟩
    go_wp2
    go_ret2
    exact ⟨rfl, rfl⟩
end Go.Proofs.Ytggbgfdgpkbmhaa.S
