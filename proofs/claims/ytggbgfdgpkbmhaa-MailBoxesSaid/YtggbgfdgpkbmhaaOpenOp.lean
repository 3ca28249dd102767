/- Opening a call (a struct with a slice in it). -/
import Derived.Test.YtggbgfdgpkbmhaaOpen
import Derived.Test.YtggbgfdgpkbmhaaMaiK
namespace Go.Proofs.Ytggbgfdgpkbmhaa
open Go.RowKit Go.ChangeShapes Go.WideShapes
set_option linter.unusedVariables false

def OpA.wf (w : World) (o : OpA) : Prop := ∃ xs : List Int, SlRead (fun x => [Value.int .i64 x]) 1 w o.A o.n o.c xs
set_option maxRecDepth 100000 in
theorem opnInts {H : Type} {enc : TypeId × Value → H} {w : World} {fuel : Nat} {v : Value} {x : DataW H × List MemPlace} (h : DataW.trod enc Try.prog w 0 (fun _ => true) true fuel 33 [v] = some x) : ∃ (A : Option Addr) (n c : Nat) (xs : List Int), v = .slice A n c ∧ SlRead (fun x => [Value.int .i64 x]) 1 w A n c xs := by
  have hv : ∃ A n c, v = .slice A n c := by
    rcases Go.Deep.open_slice Try.underlying33 h with ⟨hcs, _⟩ | ⟨a, len, cap, m, k, D, Pl, hcs, _⟩
    · simp at hcs; exact ⟨_, _, _, hcs⟩
    · simp at hcs; exact ⟨_, _, _, hcs⟩
  obtain ⟨A, n, c, rfl⟩ := hv
  obtain ⟨xs, hx, _⟩ : ∃ xs : List Int, SlRead (fun x => [Value.int .i64 x]) 1 w A n c xs ∧ ∀ (i : Nat) x, xs[i]? = some x → True := by
    refine open_sl (z := 1) (wf := fun _ => True) Try.underlying33 (by kernel_rfl) h ?_
    intro cs fuel y hy
    obtain ⟨a, e, _⟩ := DataW.trod_int Try.underlying3 hy
    exact ⟨a, e, trivial⟩
  exact ⟨A, n, c, xs, rfl, hx⟩
set_option maxRecDepth 100000 in
theorem opnOp {H : Type} {enc : TypeId × Value → H} {w : World} {fuel : Nat} {cs : List Value} {x : DataW H × List MemPlace} (h : DataW.trod enc Try.prog w 0 (fun _ => true) true fuel 62 cs = some x) : ∃ o : OpA, cs = o.cells ∧ o.wf w := by
  obtain ⟨xs, n, _, _, hl, hlen, hf⟩ := DataW.trod_struct Try.underlying62 h
  have hl' : cs.length = 4 := hl.trans (by kernel_rfl)
  obtain ⟨c0, c1, c2, c3, rfl⟩ := list4 hl'
  have g3 : Try.prog.cellsOf 3 = 1 := by kernel_rfl
  have g33 : Try.prog.cellsOf 33 = 1 := by kernel_rfl
  have h0 : DataW.trod enc Try.prog w 0 (fun _ => true) true n 3 (([c0, c1, c2, c3].drop 0).take (Try.prog.cellsOf 3)) = xs[0]? := hf 0 _ rfl
  have h1 : DataW.trod enc Try.prog w 0 (fun _ => true) true n 3 (([c0, c1, c2, c3].drop 1).take (Try.prog.cellsOf 3)) = xs[1]? := hf 1 _ rfl
  have h2 : DataW.trod enc Try.prog w 0 (fun _ => true) true n 3 (([c0, c1, c2, c3].drop 2).take (Try.prog.cellsOf 3)) = xs[2]? := hf 2 _ rfl
  have h3 : DataW.trod enc Try.prog w 0 (fun _ => true) true n 33 (([c0, c1, c2, c3].drop 3).take (Try.prog.cellsOf 33)) = xs[3]? := hf 3 _ rfl
  rw [g3] at h0 h1 h2
  rw [g33] at h3
  obtain ⟨y0, hy0⟩ : ∃ y, xs[0]? = some y := ⟨xs[0]'(by rw [hlen]; decide), List.getElem?_eq_getElem _⟩
  obtain ⟨y1, hy1⟩ : ∃ y, xs[1]? = some y := ⟨xs[1]'(by rw [hlen]; decide), List.getElem?_eq_getElem _⟩
  obtain ⟨y2, hy2⟩ : ∃ y, xs[2]? = some y := ⟨xs[2]'(by rw [hlen]; decide), List.getElem?_eq_getElem _⟩
  obtain ⟨y3, hy3⟩ : ∃ y, xs[3]? = some y := ⟨xs[3]'(by rw [hlen]; decide), List.getElem?_eq_getElem _⟩
  rw [hy0] at h0
  rw [hy1] at h1
  rw [hy2] at h2
  rw [hy3] at h3
  obtain ⟨a0, e0, _⟩ := DataW.trod_int Try.underlying3 h0
  obtain ⟨a1, e1, _⟩ := DataW.trod_int Try.underlying3 h1
  obtain ⟨a2, e2, _⟩ := DataW.trod_int Try.underlying3 h2
  obtain ⟨A, m, c, zs, e3, hx⟩ := opnInts (v := c3) h3
  simp at e0 e1 e2
  subst e0 e1 e2 e3
  exact ⟨⟨a0, a1, a2, A, m, c⟩, rfl, zs, hx⟩
end Go.Proofs.Ytggbgfdgpkbmhaa
