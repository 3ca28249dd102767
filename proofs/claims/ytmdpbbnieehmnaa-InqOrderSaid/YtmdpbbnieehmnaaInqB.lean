/- copy of elements of several cells; slices.Insert at events, plain part. -/
import Derived.Test.YtmdpbbnieehmnaaInqA
import Derived.Test.YtmdpbbnieehmnaaVicL
import Derived.Test.YtmdpbbnieehmnaaBaseO
import Derived.Laws.CopyRow
import Derived.Lib.Overlaps
import Derived.Lib.AppendZerosOnto
namespace Go.Proofs.Ytmdpbbnieehmnaa
open Go.RowKit
set_option linter.unusedSimpArgs false
set_option linter.unusedVariables false

theorem run_copy_wide {P : Program} (w : World) (dT sT ty elem : TypeId) (z g o dLen dCap : Nat) (a : Addr) (sLen sCap : Nat) (cur : Array Value) (t : TypeId) (cs : List Value)
    (hu : P.underlying dT = some (.slice elem)) (hs : (P.info? elem).map (·.size) = some z) (hg : w.heap[g]? = some (.cells cur t (0, 0))) (hn : cs.length = Nat.min sLen dLen * z)
    (hsrc : ∀ j v, cs[j]? = some v → w.cell? (a.add j) = some v) (hfit : o + cs.length ≤ cur.size) (h1 : ∀ v ∈ cs, v.oneCell' = true) :
    (Builtin.copy_ #[dT, sT] ty #[.slice (some ⟨g, o, none⟩) dLen dCap, .slice (some a) sLen sCap]).run P w =
      .ok (goInt (Nat.min sLen dLen)) (w.setRow g (cur.toList.take o ++ cs ++ cur.toList.drop (o + cs.length)).toArray) := by
  have hl := run_loadCells_list (P := P) w a cs hsrc
  have hst := run_storeCells_at P g o t cs 0 cur w hg (by simpa using hfit) h1
  cases hq : P.info? elem with
  | none => simp [hq] at hs
  | some i =>
    have hi : i.size = z := by simpa [hq] using hs
    simp [Builtin.copy_, run_underlying hu, Builtin.lenOf, Builtin.firstCells, sizeOf, typeInfo, hq, hi, ← hn, hl, hst]
theorem wpList_copy_at {P : Program} (w : World) {ops : Array Oper} {rest : List Oper} {o : Oper} {a : Act} {Q : Exit → Act → World → Prop} (hgd : o.guard = none) (d s : Operand) (t t' : TypeId)
    (ho : o.op = .call { callee := .builtin .copy, args := #[d, s], argTypes := #[t, t'] }) (v u : Value) (hd : a.eval d = v) (hs : a.eval s = u) {v' : Value} {w' : World}
    (hr : (Builtin.copy_ #[t, t'] o.type #[v, u]).run P w = .ok v' w') (h : wpList P ops Q rest (a.put o.dst v') w') : wpList P ops Q (o :: rest) a w := by
  refine wpList_plain hgd fun K hK => ?_
  unfold Oper.wp
  simp [execOp, ho, resolve, invoke, builtin, hd, hs, hr, Result.andThen]
  exact hK _ _ h
theorem step_copy_at {P : Program} {ops : Array Oper} {o : Oper} {a : Act} {w : World} {K : Act → World → Prop} {Q : Exit → Act → World → Prop} {E : Prop}
    (hg : o.guard = none) (d x : Operand) (dT sT : TypeId) (hop : o.op = Op.call { callee := Callee.builtin Builtin.copy, args := #[d, x], argTypes := #[dT, sT] })
    (v u : Value) (hd : a.eval d = v) (hx : a.eval x = u) {v' : Value} {w' : World} (hr : (Builtin.copy_ #[dT, sT] o.type #[v, u]).run P w = .ok v' w') (hK : K (a.put o.dst v') w') :
    if Region.wanted o (yielded ops a.tmps) = true then Oper.wp P o a w K Q else E := by
  have hw : Region.wanted o (yielded ops a.tmps) = true := by simp [Region.wanted, hg]
  rw [if_pos hw]
  unfold Oper.wp
  simp [execOp, hop, resolve, invoke, builtin, hd, hx, hr, Result.andThen]
  exact hK

def insAt (R : List Ev) (i : Nat) (e : Ev) : List Ev := R.take i ++ e :: R.drop i
theorem insAt_len {R : List Ev} {i : Nat} (h : i ≤ R.length) (e : Ev) : (insAt R i e).length = R.length + 1 := by simp [insAt]; omega
theorem insAt_cells (R : List Ev) (i : Nat) (e : Ev) : (insAt R i e).flatMap Ev.cells = (R.take i).flatMap Ev.cells ++ (e.cells ++ (R.drop i).flatMap Ev.cells) := by simp [insAt]
theorem cells_take (R : List Ev) (i : Nat) (h : i ≤ R.length) : (R.flatMap Ev.cells).take (i * 7) = (R.take i).flatMap Ev.cells := by
  conv => lhs; rw [← List.take_append_drop i R]
  rw [List.flatMap_append, List.take_left' (by rw [flatMap_len Ev.len, List.length_take, Nat.min_eq_left h])]
theorem cells_drop (R : List Ev) (i : Nat) (h : i ≤ R.length) : (R.flatMap Ev.cells).drop (i * 7) = (R.drop i).flatMap Ev.cells := by
  conv => lhs; rw [← List.take_append_drop i R]
  rw [List.flatMap_append, List.drop_left' (by rw [flatMap_len Ev.len, List.length_take, Nat.min_eq_left h])]
/-- The row behind the two copies, where there was room. -/
theorem ins_shift {R : List Ev} {e : Ev} {n i cap : Nat} {cur : List Value} (hR : R.length = n) (hi : i ≤ n) (hroom : n + 1 ≤ cap) (hcl : cur.length = cap * 7) (ht : cur.take (n * 7) = R.flatMap Ev.cells) (c1 c2 : List Value)
    (h1 : c1 = cur.take ((i + 1) * 7) ++ (R.drop i).flatMap Ev.cells ++ cur.drop ((i + 1) * 7 + ((R.drop i).flatMap Ev.cells).length)) (h2 : c2 = c1.take (i * 7) ++ e.cells ++ c1.drop (i * 7 + e.cells.length)) :
    c1.length = cap * 7 ∧ c2.length = cap * 7 ∧ c2.take ((n + 1) * 7) = (insAt R i e).flatMap Ev.cells := by
  have l1 : ((R.drop i).flatMap Ev.cells).length = (n - i) * 7 := by rw [flatMap_len Ev.len, List.length_drop, hR]
  have l2 : ((R.take i).flatMap Ev.cells).length = i * 7 := by rw [flatMap_len Ev.len, List.length_take, hR, Nat.min_eq_left hi]
  have lA : (cur.take ((i + 1) * 7)).length = (i + 1) * 7 := by rw [List.length_take]; omega
  have le : e.cells.length = 7 := Ev.len e
  have hc1 : c1.length = cap * 7 := by
    rw [h1, List.length_append, List.length_append, lA, l1, List.length_drop, hcl]
    omega
  have hti : c1.take (i * 7) = (R.take i).flatMap Ev.cells := by
    have e1 : c1.take (i * 7) = cur.take (i * 7) := by
      rw [h1, List.append_assoc, List.take_append_of_le_length (by rw [lA]; omega), List.take_take, Nat.min_eq_left (by omega)]
    have e2 : cur.take (i * 7) = (cur.take (n * 7)).take (i * 7) := by rw [List.take_take, Nat.min_eq_left (by omega)]
    rw [e1, e2, ht, cells_take R i (by omega)]
  have hdi : c1.drop (i * 7 + e.cells.length) = (R.drop i).flatMap Ev.cells ++ cur.drop ((n + 1) * 7) := by
    rw [h1, List.append_assoc, le, show i * 7 + 7 = (i + 1) * 7 by omega, List.drop_left' lA, l1, show (i + 1) * 7 + (n - i) * 7 = (n + 1) * 7 by omega]
  have hc2' : c2 = (insAt R i e).flatMap Ev.cells ++ cur.drop ((n + 1) * 7) := by
    rw [h2, hti, hdi, insAt_cells]
    simp
  have l3 : ((insAt R i e).flatMap Ev.cells).length = (n + 1) * 7 := by rw [flatMap_len Ev.len, insAt_len (by omega), hR]
  refine ⟨hc1, ?_, ?_⟩
  · rw [hc2', List.length_append, l3, List.length_drop, hcl]; omega
  · rw [hc2', List.take_left' l3]
/-- The row behind the two copies, where it was made anew. -/
theorem ins_grow {R : List Ev} {e : Ev} {n i cap : Nat} {cur : List Value} (hR : R.length = n) (hi : i ≤ n) (hroom : n + 1 ≤ cap) (hcl : cur.length = cap * 7) (ht : cur.take (i * 7) = (R.take i).flatMap Ev.cells) (c1 c2 : List Value)
    (h1 : c1 = cur.take (i * 7) ++ e.cells ++ cur.drop (i * 7 + e.cells.length)) (h2 : c2 = c1.take ((i + 1) * 7) ++ (R.drop i).flatMap Ev.cells ++ c1.drop ((i + 1) * 7 + ((R.drop i).flatMap Ev.cells).length)) :
    c1.length = cap * 7 ∧ c2.length = cap * 7 ∧ c2.take ((n + 1) * 7) = (insAt R i e).flatMap Ev.cells := by
  have l1 : ((R.drop i).flatMap Ev.cells).length = (n - i) * 7 := by rw [flatMap_len Ev.len, List.length_drop, hR]
  have l2 : ((R.take i).flatMap Ev.cells).length = i * 7 := by rw [flatMap_len Ev.len, List.length_take, hR, Nat.min_eq_left hi]
  have lA : (cur.take (i * 7)).length = i * 7 := by rw [List.length_take]; omega
  have le : e.cells.length = 7 := Ev.len e
  have hc1 : c1.length = cap * 7 := by
    rw [h1, List.length_append, List.length_append, lA, le, List.length_drop, hcl]
    omega
  have hti : c1.take ((i + 1) * 7) = (R.take i).flatMap Ev.cells ++ e.cells := by
    rw [h1, ht, List.take_left' (by rw [List.length_append, l2, le]; omega)]
  have l3 : ((insAt R i e).flatMap Ev.cells).length = (n + 1) * 7 := by rw [flatMap_len Ev.len, insAt_len (by omega), hR]
  have hc2' : c2 = (insAt R i e).flatMap Ev.cells ++ c1.drop ((i + 1) * 7 + ((R.drop i).flatMap Ev.cells).length) := by
    rw [h2, hti, insAt_cells]
    simp
  refine ⟨hc1, ?_, ?_⟩
  · rw [hc2', List.length_append, l3, List.length_drop, hc1, l1]; omega
  · rw [hc2', List.take_left' l3]
end Go.Proofs.Ytmdpbbnieehmnaa
