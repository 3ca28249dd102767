/- A region that draws its order, in a round of a loop over a function: by the walk outside of rounds. -/
import Derived.Test.YtggbgfdgpkbmhaaBaseQ
import Derived.StillTailTactics
namespace Go.Proofs.Ytggbgfdgpkbmhaa
open Go.RowKit
open Go

section
variable {n : Nat} {P : Program} {Q : Exit → Act → World → Prop}
theorem rows_wide {row : String} {args : Array Value} {w : World} {R : Value → World → Prop} (h : Rows P row args w R) : RowsIn Fence.wide n P row args w R :=
  fun c cs _ => let ⟨v, w', r, s⟩ := h c cs; ⟨v, w', r, stepsIn_wide.2 s⟩
theorem oper_wide {o : Oper} {a : Act} {w : World} {K : Act → World → Prop} (h : o.wp P a w K Q) : o.wpIn Fence.wide n P a w K Q := by
  unfold Oper.wp at h
  unfold Oper.wpIn
  refine ⟨fun _ _ => trivial, ?_⟩
  rw [show Fence.wide.round = none from rfl, Oper.semAt_none]
  generalize (execOp a.eval o).run P w = r at *
  cases r with
  | ok x w' =>
    cases x <;> simp only [Oper.uponIn, Oper.upon] at h ⊢ <;>
      first
        | exact h
        | exact ⟨fun h => (by cases h), callsIn_wide.2 h⟩
        | exact ⟨fun h => (by cases h), rows_wide h⟩
  | halt x w' => cases x <;> simp only [Oper.uponIn, Oper.upon] at h ⊢ <;> exact h
theorem any_wide (hQ : ¬ LetsOut Q) {md : Region.Mode} {ops : Array Oper} : ∀ (fuel : Nat) (listed : Array Bool) (a : Act) (w : World), wpAny P md ops Q fuel listed a w → wpAnyIn Fence.wide n P md ops Q fuel listed a w
  | 0, _, _, _, h => h
  | fuel + 1, listed, a, w, h => ⟨h.1, fun i hi => by
      have h2 := h.2 i hi
      unfold wpOp at h2
      unfold wpOpIn
      split
      · rename_i h0
        simp only [h0] at h2
        exact any_wide hQ fuel _ _ _ h2
      · rename_i o h0
        simp only [h0] at h2
        split
        · rename_i hw
          rw [if_pos hw] at h2
          rcases h2 with h2 | ⟨_, h2⟩
          · exact Oper.wpIn_mono (fun a' w' h' => any_wide hQ fuel _ a' w' h') (oper_wide h2)
          · exact absurd h2 hQ
        · rename_i hw
          rw [if_neg hw] at h2
          exact ⟨fun _ _ => trivial, any_wide hQ fuel _ _ _ h2⟩⟩

theorem still_tail_round (lp : Nat) {id : Nat} {a : Act} {w : World} {l : List Oper} (m : Nat) (hQ : ¬ LetsOut Q) (hm : P.follows .mixedOrders = true) (hB : Region.lexTailB .any l.toArray m = true) (hd : noDefer l = true)
    (h : wpStill P l.toArray w.drew (fun a' => wpList P l.toArray Q (l.drop m) a' w.drew) (l.take m) a) : (Code.region id l.toArray true).wpIn (Fence.wide.inRound lp) n P Q a w := by
  simp only [Region.lexTailB, Bool.and_eq_true, decide_eq_true_eq] at hB
  obtain ⟨⟨⟨⟨hsel, hn⟩, hs⟩, hc⟩, hlex⟩ := hB
  have hn' : m < l.length := by simpa using hn
  have htl : (l.take m).length = m := by simp; omega
  have hdl : (l.drop m).length = l.toArray.size - m := by simp
  have inv0 : HeadInv .any l.toArray m (Array.replicate l.toArray.size false) :=
    ⟨by simp, fun j oj _ hl => (by rw [getD_replicate_false] at hl; cases hl), fun t _ ht => getD_in (by simpa using ht) (getD_replicate_false _ _)⟩
  have H := wpAnyL_lex (md := .any) (g := l.toArray.size - m) hsel hs hc hn (l.take m) 0 _ a (fun j hj => by
    have hj' : j < m := by rw [htl] at hj; exact hj
    simp [hj']) (by simpa using htl) inv0 (by rw [htl]; exact hlex) h
  refine wpIn_region_any hm (any_round lp rfl hd _ _ _ _ (any_wide hQ _ _ _ _ ?_))
  have := wpAny_of_head (Q' := Q) (g := l.toArray.size - m) (fun listed a' hL => by
    have := wpAny_of_seq (md := .any) (Q' := Q) (l.drop m) m listed a' w.drew (fun j => by simp [List.getElem?_drop]) (by rw [hdl]; exact hL.1) hL.2
    rwa [hdl] at this) _ _ _ H
  rw [htl, show m + (l.toArray.size - m) = l.toArray.size by omega] at this
  exact this
end
end Go.Proofs.Ytggbgfdgpkbmhaa
macro "gi_still_tail_r " n:num : tactic => `(tactic|
  (refine Go.Proofs.Ytggbgfdgpkbmhaa.still_tail_round _ $n (fun h => h.elim fun _ h => h.elim fun _ h => h) (by kernel_rfl) (by kernel_rfl) (by kernel_rfl) ?_
   simp only [List.take_succ_cons, List.take_zero, List.drop_succ_cons, List.drop_zero]
   repeat still_step
   try refine Go.wpStill_nil ?_))
