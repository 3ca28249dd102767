/- saves: the plain law of Last behind Free, Cut and Save; calls as they are told. -/
import Derived.Test.YtggbgfdgpkbmhaaSavD
namespace Go.Proofs.Ytggbgfdgpkbmhaa
open Go.RowKit
set_option linter.unusedSimpArgs false
set_option linter.unusedVariables false

structure Op3 where
  ask : Int
  at_ : Int
  x : Int
deriving Inhabited
def Op3.mk' (a b c : Int) : Op3 := ⟨a, b, c⟩
def Op3.cells (o : Op3) : List Value := [.int .i64 o.ask, .int .i64 o.at_, .int .i64 o.x]
theorem Op3.len (o : Op3) : o.cells.length = 3 := rfl
def Op3.wf (o : Op3) : Prop := (Lit.int .i64 o.ask).wf = true ∧ (Lit.int .i64 o.at_).wf = true ∧ (Lit.int .i64 o.x).wf = true
theorem op3_at {w : World} {A : Option Addr} {n c : Nat} {xs : List Op3} (h : SlRead Op3.cells 3 w A n c xs) {k : Nat} {o : Op3} (ho : xs[k]? = some o) : ∃ ad, A = some ad ∧ w.cell? (ad.add (k * 3)) = some (.int .i64 o.ask) ∧ w.cell? ⟨(ad.add (k * 3)).block, (ad.add (k * 3)).off + 1, none⟩ = some (.int .i64 o.at_) ∧ w.cell? ⟨(ad.add (k * 3)).block, (ad.add (k * 3)).off + 2, none⟩ = some (.int .i64 o.x) := by
  obtain ⟨ad, e, hc⟩ := h.cell k o ho
  refine ⟨ad, e, by simpa using hc 0 (.int .i64 o.ask) rfl, ?_, ?_⟩
  · rw [← add_field _ _ 1 (by omega)]; exact hc 1 (.int .i64 o.at_) rfl
  · rw [← add_field _ _ 2 (by omega)]; exact hc 2 (.int .i64 o.x) rfl

theorem bel_uniq (at_ : Int) (l : List SvI) (k : Nat) (h1 : ∀ (j : Nat) s, j < k → l[j]? = some s → s.at_ < at_) (h2 : k ≤ l.length) (h3 : ∀ s, l[k]? = some s → ¬ s.at_ < at_) : belI at_ l = k := by
  refine belI_eq at_ l k h1 h2 ?_
  by_cases hk : k < l.length
  · exact .inr ⟨l[k], List.getElem?_eq_getElem hk, h3 _ (List.getElem?_eq_getElem hk)⟩
  · exact .inl (by omega)
theorem bel_mono {l : List SvI} {a b : Int} (h : a ≤ b) : belI a l ≤ belI b l := by
  apply Classical.byContradiction
  intro hn
  have hb : belI b l < l.length := by have := belI_le a l; omega
  have h1 := bel_stop b l l[belI b l] (List.getElem?_eq_getElem hb)
  have h2 := bel_lt a l (belI b l) l[belI b l] (List.getElem?_eq_getElem hb) (by omega)
  omega
theorem bel_snoc (below at_ x : Int) (l : List SvI) (h : below ≤ at_) : belI below (l ++ [⟨at_, x⟩]) = belI below l := by
  have hle := belI_le below l
  refine bel_uniq below _ _ (fun j s hj hs => ?_) (by simp; omega) (fun s hs => ?_)
  · rw [List.getElem?_append_left (by omega)] at hs
    exact bel_lt below l j s hs hj
  · by_cases hb : belI below l < l.length
    · rw [List.getElem?_append_left hb] at hs
      exact bel_stop below l s hs
    · rw [List.getElem?_append_right (by omega)] at hs
      have : belI below l - l.length = 0 := by omega
      rw [this] at hs
      simp at hs; subst hs
      show ¬ at_ < below
      omega
theorem bel_take (below : Int) (l : List SvI) (n : Nat) (h : belI below l ≤ n) : belI below (l.take n) = belI below l := by
  have hle := belI_le below l
  refine bel_uniq below _ _ (fun j s hj hs => ?_) (by simp; omega) (fun s hs => ?_)
  · rw [List.getElem?_take] at hs
    split at hs
    · exact bel_lt below l j s hs hj
    · cases hs
  · rw [List.getElem?_take] at hs
    split at hs
    · exact bel_stop below l s hs
    · cases hs
theorem bel_drop {l : List SvI} (below : Int) (d : Nat) (h : d ≤ belI below l) : belI below (l.drop d) = belI below l - d := by
  have hle := belI_le below l
  refine bel_uniq below _ _ (fun j s hj hs => ?_) (by simp; omega) (fun s hs => ?_)
  · rw [List.getElem?_drop] at hs
    exact bel_lt below l (d + j) s hs (by omega)
  · rw [List.getElem?_drop, show d + (belI below l - d) = belI below l by omega] at hs
    exact bel_stop below l s hs

/-- A call that may not turn what Last answers of a time. -/
def mayNot (below ask at_ : Int) : Bool := (decide (ask = 2) && decide (below < at_)) || (!decide (ask = 2) && decide (at_ < below))
theorem last_same (below ask at_ x : Int) (l : List SvI) (h : mayNot below ask at_ = false) : lastOfI below (opI ask at_ x l) = lastOfI below l := by
  simp [mayNot] at h
  obtain ⟨hf, hs⟩ := h
  have hle := belI_le below l
  unfold opI
  split
  · rename_i h0
    have hat : below ≤ at_ := hs (by omega)
    unfold saveL
    split
    · unfold lastOfI
      rw [bel_snoc below at_ x l hat]
      split
      · rfl
      · rw [List.getElem?_append_left (by omega)]
    · rfl
  · split
    · rename_i _ h1
      have hat : below ≤ at_ := hs (by omega)
      have hm := bel_mono (l := l) hat
      unfold lastOfI
      rw [bel_take below l _ (by omega)]
      split
      · rfl
      · rw [List.getElem?_take, if_pos (by omega)]
    · split
      · rename_i _ _ h2
        have hat : at_ ≤ below := hf h2
        have hm := bel_mono (l := l) hat
        unfold lastOfI
        rw [bel_drop below _ (by omega)]
        split
        · rw [if_pos (by omega)]
        · rw [if_neg (by omega), List.getElem?_drop]
          congr 1
          omega
      · rfl

end Go.Proofs.Ytggbgfdgpkbmhaa
