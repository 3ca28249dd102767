/- The law InqOrder holds for every input: it returns true, and its arguments read as they did. No condition. -/
import Derived.Test.YtmdpbbnieehmnaaRows
import Derived.Test.YtmdpbbnieehmnaaInqM
import Derived.Test.YtmdpbbnieehmnaaOpen
import Derived.WalkKit
import Derived.ProofKit
import Derived.OpenShut
import Derived.ShutString
import Derived.ChangeOld
import Derived.Below
import Derived.SizedLaws
namespace Go.Proofs.Ytmdpbbnieehmnaa.inqOrder
open Go.ChangeShapes Go.WideShapes Go.ChangeAt Go.RowKit
open Go.ChangeMaps (open_string shut_string)
set_option linter.unusedVariables false
set_option maxRecDepth 100000 in
theorem opn3 {H : Type} {enc : TypeId × Value → H} {w : World} {base : Nat} {spare : Nat → Bool} {held : Bool} {fuel : Nat} {cs : List Value} {x : DataW H × List MemPlace} (h : DataW.trod enc Try.prog w base spare held fuel 3 cs = some x) : ∃ (a0 : Int), cs = [.int .i64 a0] ∧ (Lit.int .i64 a0).wf = true := by
  obtain ⟨a, e, _, wa⟩ := DataW.trod_int Try.underlying3 h
  exact ⟨a, e, wa⟩

set_option maxRecDepth 100000 in
theorem opn23 {H : Type} {enc : TypeId × Value → H} {w : World} {base : Nat} {spare : Nat → Bool} {held : Bool} {fuel : Nat} {cs : List Value} {x : DataW H × List MemPlace} (h : DataW.trod enc Try.prog w base spare held fuel 23 cs = some x) : ∃ (a0 : Int) (a1 : Int) (a2 : Int) (a3 : Int), cs = [.int .i64 a0, .int .i64 a1, .int .i64 a2, .int .i64 a3] ∧ (Lit.int .i64 a0).wf = true ∧ (Lit.int .i64 a1).wf = true ∧ (Lit.int .i64 a2).wf = true ∧ (Lit.int .i64 a3).wf = true := by
  obtain ⟨xs, n, _, _, hl, hlen, hf⟩ := DataW.trod_struct Try.underlying23 h
  have hl' : cs.length = 4 := hl.trans (by kernel_rfl)
  obtain ⟨c0, c1, c2, c3, rfl⟩ := list4 hl'
  have g0 : Try.prog.cellsOf 3 = 1 := by kernel_rfl
  have h0 : DataW.trod enc Try.prog w base spare held n 3 (([c0, c1, c2, c3].drop 0).take (Try.prog.cellsOf 3)) = xs[0]? := hf 0 _ rfl
  rw [g0] at h0
  obtain ⟨y0, hy0⟩ : ∃ y, xs[0]? = some y := ⟨xs[0]'(by rw [hlen]; decide), List.getElem?_eq_getElem _⟩
  rw [hy0] at h0
  replace h0 : DataW.trod enc Try.prog w base spare held n 3 [c0] = some y0 := h0
  have g1 : Try.prog.cellsOf 3 = 1 := by kernel_rfl
  have h1 : DataW.trod enc Try.prog w base spare held n 3 (([c0, c1, c2, c3].drop 1).take (Try.prog.cellsOf 3)) = xs[1]? := hf 1 _ rfl
  rw [g1] at h1
  obtain ⟨y1, hy1⟩ : ∃ y, xs[1]? = some y := ⟨xs[1]'(by rw [hlen]; decide), List.getElem?_eq_getElem _⟩
  rw [hy1] at h1
  replace h1 : DataW.trod enc Try.prog w base spare held n 3 [c1] = some y1 := h1
  have g2 : Try.prog.cellsOf 3 = 1 := by kernel_rfl
  have h2 : DataW.trod enc Try.prog w base spare held n 3 (([c0, c1, c2, c3].drop 2).take (Try.prog.cellsOf 3)) = xs[2]? := hf 2 _ rfl
  rw [g2] at h2
  obtain ⟨y2, hy2⟩ : ∃ y, xs[2]? = some y := ⟨xs[2]'(by rw [hlen]; decide), List.getElem?_eq_getElem _⟩
  rw [hy2] at h2
  replace h2 : DataW.trod enc Try.prog w base spare held n 3 [c2] = some y2 := h2
  have g3 : Try.prog.cellsOf 3 = 1 := by kernel_rfl
  have h3 : DataW.trod enc Try.prog w base spare held n 3 (([c0, c1, c2, c3].drop 3).take (Try.prog.cellsOf 3)) = xs[3]? := hf 3 _ rfl
  rw [g3] at h3
  obtain ⟨y3, hy3⟩ : ∃ y, xs[3]? = some y := ⟨xs[3]'(by rw [hlen]; decide), List.getElem?_eq_getElem _⟩
  rw [hy3] at h3
  replace h3 : DataW.trod enc Try.prog w base spare held n 3 [c3] = some y3 := h3
  obtain ⟨a0, e0, w0⟩ := opn3 h0
  simp only [List.cons.injEq, and_true] at e0
  subst e0
  obtain ⟨a1, e1, w1⟩ := opn3 h1
  simp only [List.cons.injEq, and_true] at e1
  subst e1
  obtain ⟨a2, e2, w2⟩ := opn3 h2
  simp only [List.cons.injEq, and_true] at e2
  subst e2
  obtain ⟨a3, e3, w3⟩ := opn3 h3
  simp only [List.cons.injEq, and_true] at e3
  subst e3
  exact ⟨a0, a1, a2, a3, rfl, w0, w1, w2, w3⟩

set_option maxRecDepth 100000 in
theorem opn31 {H : Type} {enc : TypeId × Value → H} {w : World} {base : Nat} {spare : Nat → Bool} {held : Bool} {fuel : Nat} {cs : List Value} {x : DataW H × List MemPlace} (h : DataW.trod enc Try.prog w base spare held fuel 31 cs = some x) : ∃ (a0 : Int) (a1 : Int) (a2 : Int) (a3 : Int) (a4 : Int) (a5 : Int) (a6 : Int), cs = [.int .i64 a0, .int .i64 a1, .int .i64 a2, .int .i64 a3, .int .i64 a4, .int .i64 a5, .int .i64 a6] ∧ (Lit.int .i64 a0).wf = true ∧ (Lit.int .i64 a1).wf = true ∧ (Lit.int .i64 a2).wf = true ∧ (Lit.int .i64 a3).wf = true ∧ (Lit.int .i64 a4).wf = true ∧ (Lit.int .i64 a5).wf = true ∧ (Lit.int .i64 a6).wf = true := by
  obtain ⟨xs, n, _, _, hl, hlen, hf⟩ := DataW.trod_struct Try.underlying31 h
  have hl' : cs.length = 7 := hl.trans (by kernel_rfl)
  obtain ⟨c0, c1, c2, c3, c4, c5, c6, rfl⟩ := list7 hl'
  have g0 : Try.prog.cellsOf 23 = 4 := by kernel_rfl
  have h0 : DataW.trod enc Try.prog w base spare held n 23 (([c0, c1, c2, c3, c4, c5, c6].drop 0).take (Try.prog.cellsOf 23)) = xs[0]? := hf 0 _ rfl
  rw [g0] at h0
  obtain ⟨y0, hy0⟩ : ∃ y, xs[0]? = some y := ⟨xs[0]'(by rw [hlen]; decide), List.getElem?_eq_getElem _⟩
  rw [hy0] at h0
  replace h0 : DataW.trod enc Try.prog w base spare held n 23 [c0, c1, c2, c3] = some y0 := h0
  have g1 : Try.prog.cellsOf 3 = 1 := by kernel_rfl
  have h1 : DataW.trod enc Try.prog w base spare held n 3 (([c0, c1, c2, c3, c4, c5, c6].drop 4).take (Try.prog.cellsOf 3)) = xs[1]? := hf 1 _ rfl
  rw [g1] at h1
  obtain ⟨y1, hy1⟩ : ∃ y, xs[1]? = some y := ⟨xs[1]'(by rw [hlen]; decide), List.getElem?_eq_getElem _⟩
  rw [hy1] at h1
  replace h1 : DataW.trod enc Try.prog w base spare held n 3 [c4] = some y1 := h1
  have g2 : Try.prog.cellsOf 3 = 1 := by kernel_rfl
  have h2 : DataW.trod enc Try.prog w base spare held n 3 (([c0, c1, c2, c3, c4, c5, c6].drop 5).take (Try.prog.cellsOf 3)) = xs[2]? := hf 2 _ rfl
  rw [g2] at h2
  obtain ⟨y2, hy2⟩ : ∃ y, xs[2]? = some y := ⟨xs[2]'(by rw [hlen]; decide), List.getElem?_eq_getElem _⟩
  rw [hy2] at h2
  replace h2 : DataW.trod enc Try.prog w base spare held n 3 [c5] = some y2 := h2
  have g3 : Try.prog.cellsOf 3 = 1 := by kernel_rfl
  have h3 : DataW.trod enc Try.prog w base spare held n 3 (([c0, c1, c2, c3, c4, c5, c6].drop 6).take (Try.prog.cellsOf 3)) = xs[3]? := hf 3 _ rfl
  rw [g3] at h3
  obtain ⟨y3, hy3⟩ : ∃ y, xs[3]? = some y := ⟨xs[3]'(by rw [hlen]; decide), List.getElem?_eq_getElem _⟩
  rw [hy3] at h3
  replace h3 : DataW.trod enc Try.prog w base spare held n 3 [c6] = some y3 := h3
  obtain ⟨a0, a1, a2, a3, e0, w0, w1, w2, w3⟩ := opn23 h0
  simp only [List.cons.injEq, and_true] at e0
  obtain ⟨rfl, rfl, rfl, rfl⟩ := e0
  obtain ⟨a4, e1, w4⟩ := opn3 h1
  simp only [List.cons.injEq, and_true] at e1
  subst e1
  obtain ⟨a5, e2, w5⟩ := opn3 h2
  simp only [List.cons.injEq, and_true] at e2
  subst e2
  obtain ⟨a6, e3, w6⟩ := opn3 h3
  simp only [List.cons.injEq, and_true] at e3
  subst e3
  exact ⟨a0, a1, a2, a3, a4, a5, a6, rfl, w0, w1, w2, w3, w4, w5, w6⟩

theorem own : ownKnob Try.prog.godebug = none := by kernel_rfl
theorem laidOut : laidOutB Try.prog = true := by kernel_rfl
set_option maxHeartbeats 2000000 in
set_option maxRecDepth 100000 in
theorem lifted (os : Os) (started : os.Started) (H : Type) (enc : TypeId × Value → H) :
    ReturnsInHanded {} Try.checked os 10 .any (Rows.inqOrderSpec.pre6 enc Try.prog Try.f10 Rows.inqOrderRow.domain false) (Rows.inqOrderSpec.post enc Try.prog Try.f10 false true false false) := by
  refine returnsInHanded_of_change_sized (C := Try.checked) own started (by kernel_rfl) Try.func10
    (ChangeSpec.witness6 (enc := enc) (C := Try.checked) false ⟨#[], #[.agg #[.int .i64 0, .int .i64 0, .int .i64 0, .int .i64 0, .int .i64 0, .int .i64 0, .int .i64 0], .agg #[.int .i64 0, .int .i64 0, .int .i64 0, .int .i64 0, .int .i64 0, .int .i64 0, .int .i64 0], .agg #[.int .i64 0, .int .i64 0, .int .i64 0, .int .i64 0, .int .i64 0, .int .i64 0, .int .i64 0]], []⟩ 8 (by kernel_rfl) (by kernel_rfl) (by kernel_rfl) (by kernel_rfl)) ?_
  intro W base args ds gs before hval0 hW hcnd hsz0 _
  have hsz : (DataW.weightsEach Try.prog (Try.f10.params.toList ++ Rows.inqOrderSpec.plain.varTypes Try.prog) (ds ++ gs)).all (· ≤ reachBytes) = true := hsz0
  have hval : ∀ (j : Nat) t v, Try.f10.params[j]? = some t → args[j]? = some v → Value.okWide Try.prog W .any base t v := hval0
  have hW' := hW
  obtain ⟨p, q, hA0, hV, rfl, hfz, hnd⟩ := hW
  have hA : DataW.TrodAll enc Try.prog W 0 (fun _ => true) true Try.f10.params.toList args.toList ds p := hA0
  rw [Try.params10] at hA hval hsz
  obtain ⟨v0, vs0, d0, ds0, p0, q0, hargs, rfl, rfl, h0, r0⟩ := trodAll_cons hA
  obtain ⟨v1, vs1, d1, ds1, p1, q1, rfl, rfl, rfl, h1, r1⟩ := trodAll_cons r0
  obtain ⟨v2, vs2, d2, ds2, p2, q2, rfl, rfl, rfl, h2, r2⟩ := trodAll_cons r1
  obtain ⟨rfl, rfl, rfl⟩ := trodAll_nil r2
  obtain rfl : args = #[v0, v1, v2] := by cases args; simp_all
  obtain ⟨rfl, rfl⟩ := trodVars_none hV
  have k0 := h0
  have lt0 : ∀ x ∈ p0, x.block < W.heap.size := by obtain ⟨m, hm⟩ := k0; exact DataW.trod_lt m _ _ _ hm
  obtain ⟨cs0, rfl, _⟩ := okWide_struct Try.underlying31 (hval 0 31 v0 rfl rfl)
  obtain ⟨fu0, hf0⟩ := h0
  obtain ⟨x0_0, x0_1, x0_2, x0_3, x0_4, x0_5, x0_6, e0, z0_0, z0_1, z0_2, z0_3, z0_4, z0_5, z0_6⟩ := opn31 hf0
  obtain rfl : cs0 = #[.int .i64 x0_0, .int .i64 x0_1, .int .i64 x0_2, .int .i64 x0_3, .int .i64 x0_4, .int .i64 x0_5, .int .i64 x0_6] := by cases cs0; simpa [Value.cells] using e0
  have k1 := h1
  have lt1 : ∀ x ∈ p1, x.block < W.heap.size := by obtain ⟨m, hm⟩ := k1; exact DataW.trod_lt m _ _ _ hm
  obtain ⟨cs1, rfl, _⟩ := okWide_struct Try.underlying31 (hval 1 31 v1 rfl rfl)
  obtain ⟨fu1, hf1⟩ := h1
  obtain ⟨x1_0, x1_1, x1_2, x1_3, x1_4, x1_5, x1_6, e1, z1_0, z1_1, z1_2, z1_3, z1_4, z1_5, z1_6⟩ := opn31 hf1
  obtain rfl : cs1 = #[.int .i64 x1_0, .int .i64 x1_1, .int .i64 x1_2, .int .i64 x1_3, .int .i64 x1_4, .int .i64 x1_5, .int .i64 x1_6] := by cases cs1; simpa [Value.cells] using e1
  have k2 := h2
  have lt2 : ∀ x ∈ p2, x.block < W.heap.size := by obtain ⟨m, hm⟩ := k2; exact DataW.trod_lt m _ _ _ hm
  obtain ⟨cs2, rfl, _⟩ := okWide_struct Try.underlying31 (hval 2 31 v2 rfl rfl)
  obtain ⟨fu2, hf2⟩ := h2
  obtain ⟨x2_0, x2_1, x2_2, x2_3, x2_4, x2_5, x2_6, e2, z2_0, z2_1, z2_2, z2_3, z2_4, z2_5, z2_6⟩ := opn31 hf2
  obtain rfl : cs2 = #[.int .i64 x2_0, .int .i64 x2_1, .int .i64 x2_2, .int .i64 x2_3, .int .i64 x2_4, .int .i64 x2_5, .int .i64 x2_6] := by cases cs2; simpa [Value.cells] using e2
  clear hA0 hval0 hsz0 hsz
  refine (inqOrder_any (w := W) x0_0 x0_1 x0_2 x0_3 x0_4 x0_5 x0_6 x1_0 x1_1 x1_2 x1_3 x1_4 x1_5 x1_6 x2_0 x2_1 x2_2 x2_3 x2_4 x2_5 x2_6).mono fun e W' ⟨he, bel⟩ => ?_
  subst he
  exact ⟨_, rfl, _, _, _, [], _, [], hW', trodAll_mk1 (shut_bool Try.underlying4 _), (trodAll_cons_mk (Below.trod laidOut (by kernel_rfl) (of_decide_eq_true (by kernel_rfl)) k0 bel lt0) (trodAll_cons_mk (Below.trod laidOut (by kernel_rfl) (of_decide_eq_true (by kernel_rfl)) k1 bel lt1) (trodAll_cons_mk (Below.trod laidOut (by kernel_rfl) (of_decide_eq_true (by kernel_rfl)) k2 bel lt2) trodAll_mk0))), rfl, bel.frame _, fun h => by cases h⟩
theorem over : Rows.inqOrderRow.holds Try.pinned (OpenSpec.ofChange Rows.inqOrderSpec) :=
  OpenClaim.holds_of_wide 10 Try.f10 rfl rfl rfl rfl rfl rfl rfl ⟨rfl, rfl, rfl, rfl, rfl⟩ rfl rfl rfl rfl rfl (by kernel_rfl) Try.func10 (by kernel_rfl)
    (of_decide_eq_true (by kernel_rfl)) (by unfold Func.isWrapper; first | (rw [if_pos (by decide +kernel)]; kernel_rfl) | (rw [if_neg (by decide +kernel)]; exact ⟨rfl, rfl⟩))
    (fun os started H enc _ => lifted os started H enc)
end Go.Proofs.Ytmdpbbnieehmnaa.inqOrder
namespace Go.Proofs.Ytmdpbbnieehmnaa
theorem inqOrder_holds : Rows.InqOrderSaid := inqOrder.over
#print axioms inqOrder_holds
end Go.Proofs.Ytmdpbbnieehmnaa
