/- A region that draws its order and only reads, in a round of a loop over a function. -/
import Derived.Test.YtggbgfdgpkbmhaaBaseIn
import Derived.Sort.QuietIn
import Derived.RangeFuncCalls
namespace Go.Proofs.Ytggbgfdgpkbmhaa
open Go.RowKit
open Go

def noDefer (l : List Oper) : Bool := l.all fun o => match o.op with | .defer _ => false | _ => true
theorem noDefer_at {l : List Oper} (h : noDefer l = true) {i : Nat} {o : Oper} (ho : l.toArray[i]? = some o) : ∀ c, o.op ≠ .defer c := by
  intro c hc
  have hm : o ∈ l := by
    rw [List.getElem?_toArray] at ho
    exact List.mem_of_getElem? ho
  have := List.all_eq_true.1 h o hm
  rw [hc] at this
  cases this

section
variable {F : Fence} {n : Nat} {P : Program} {Q : Exit → Act → World → Prop}
theorem op_round (lp : Nat) (hro : F.round = none) {o : Oper} {a : Act} {w : World} {K : Act → World → Prop} (hd : ∀ c, o.op ≠ .defer c) (h : o.wpIn F n P a w K Q) : o.wpIn (F.inRound lp) n P a w K Q := by
  unfold Oper.wpIn at *
  refine ⟨h.1, ?_⟩
  have h2 := h.2
  rw [hro, Oper.semAt_none] at h2
  show o.uponIn (F.inRound lp) n P a K Q ((o.semAt (some lp) a.eval).run P w)
  rw [Oper.semAt_some lp _ o hd]
  exact h2
theorem any_round (lp : Nat) (hro : F.round = none) {l : List Oper} (hd : noDefer l = true) : ∀ (fuel : Nat) (listed : Array Bool) (a : Act) (w : World), wpAnyIn F n P .any l.toArray Q fuel listed a w → wpAnyIn (F.inRound lp) n P .any l.toArray Q fuel listed a w
  | 0, _, _, _, h => h
  | fuel + 1, listed, a, w, h => ⟨h.1, fun i hi => by
      have h2 := h.2 i hi
      unfold wpOpIn at h2 ⊢
      split
      · rename_i h0
        simp only [h0] at h2
        exact any_round lp hro hd fuel _ _ _ h2
      · rename_i o h0
        simp only [h0] at h2
        split
        · rename_i hw
          rw [if_pos hw] at h2
          exact op_round lp hro (noDefer_at hd h0) (Oper.wpIn_mono (fun a' w' h' => any_round lp hro hd fuel _ a' w' h') h2)
        · rename_i hw
          rw [if_neg hw] at h2
          exact ⟨h2.1, any_round lp hro hd fuel _ _ _ h2.2⟩⟩
theorem quiet_round (lp : Nat) {id : Nat} {a : Act} {w : World} {l : List Oper} (hro : F.round = none) (hm : P.follows .mixedOrders = true) (hB : Region.lexB .any l.toArray = true) (hd : noDefer l = true)
    (h : wpQuietIn F n P l.toArray (fun w' => ∃ n, w' = w.drewN n) (fun a' => ∀ w', (∃ n, w' = w.drewN n) → Q .normal a' w') l a) : (Code.region id l.toArray true).wpIn (F.inRound lp) n P Q a w := by
  simp only [Region.lexB, Bool.and_eq_true] at hB
  refine wpIn_region_any hm (any_round lp hro hd _ _ _ _ (wpAnyIn_of_quiet (Q := fun a' => ∀ w', (∃ n, w' = w.drewN n) → Q .normal a' w') (C := fun w' => ∃ n, w' = w.drewN n) hro (fun _ w' hw' h => h w' hw') _ _ _ _ ⟨1, rfl⟩ ?_))
  have := wpAnyQIn_lex (F := F) (n := n) (C := fun w' => ∃ n, w' = w.drewN n) (md := .any) hB.1 l 0 (Array.replicate l.toArray.size false) a (by simp) (by simpa using hB.2) (by simpa using h)
  simpa using this
end
end Go.Proofs.Ytggbgfdgpkbmhaa
