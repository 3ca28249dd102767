/- events: Victim. -/
import Derived.Test.YtmdpbbnieehmnaaVicK
namespace Go.Proofs.Ytmdpbbnieehmnaa
open Go.RowKit
set_option linter.unusedSimpArgs false
set_option linter.unusedVariables false

theorem cloneEv_any (l : List Ev) (A : Option Addr) (n c : Nat) (w : World) (hr : SlRead Ev.cells 7 w A n c l) (hn : n ≤ 1000000) : Calls Try.prog 46 #[.slice A n c] w (cloneEv l w) := by
  have hl := hr.len
  cases A with
  | none =>
    obtain rfl := hr.nil rfl
    have h0 : n = 0 := by have := hr.cap; omega
    subst h0
    have : l = [] := List.eq_nil_of_length_eq_zero hl
    subst this
    exact cloneEv_none w
  | some ad =>
    by_cases hp : 0 < n
    · exact cloneEv_some l ad n c w hr hp hn
    · obtain rfl : n = 0 := by omega
      have : l = [] := List.eq_nil_of_length_eq_zero hl
      subst this
      exact cloneEv_zero ad c w
theorem evown_read {w : World} {A : Option Addr} {cap : Nat} {l : List Ev} (h : w.ownsRow 0 31 7 (.slice A l.length cap) l.length (l.flatMap Ev.cells)) : SlRead Ev.cells 7 w A l.length cap l := by
  have h0 := h
  obtain ⟨h1, h2⟩ := h0
  rcases h2 with ⟨hv, _⟩ | ⟨g', cap', cur, hv, _, hh, hle, hm, hs, ht⟩
  · injection hv with e1 hl e3
    subst e1 e3
    have : l = [] := List.eq_nil_of_length_eq_zero hl
    subst this
    exact ⟨rfl, Nat.le_refl _, by simp [maxLen], fun _ => rfl, by simp⟩
  · cases hv
    exact own_read Ev.len h (by decide)
/-- DeleteFunc on a row of its own, found or not. -/
theorem delEv_any (q : Nat) (f : Int) (w : World) (A : Option Addr) (cap : Nat) (l : List Ev) (h : w.ownsRow 0 31 7 (.slice A l.length cap) l.length (l.flatMap Ev.cells)) (hq : w.cell? ⟨q, 0, none⟩ = some (.int .i64 f)) (hqA : ∀ ad, A = some ad → q ≠ ad.block) (hn : l.length ≤ 1000000) :
    Calls Try.prog 53 #[.slice A l.length cap, .func (.func 54) #[] #[.pointer (some ⟨q, 0, none⟩)]] w fun e w' => ∃ m, m = (l.filter (goodEv f)).length ∧ e = .returned (.slice A m cap) ∧ SlRead Ev.cells 7 w' A m cap (l.filter (goodEv f)) ∧ Chg (fun k => ∃ ad, A = some ad ∧ k = ad.block) w w' := by
  by_cases hi : idxE f l < l.length
  · obtain ⟨g, cap', hv, _, _, _, _, _, _⟩ := own_cells h (by omega)
    cases hv
    refine (delEv_some q f w g l.length cap l h rfl hq (hqA _ rfl) hn _ rfl hi).mono ?_
    rintro e w' ⟨m, h1, h2, h3, h4⟩
    exact ⟨m, h1, h2, h3, h4.mono (fun k _ hk => ⟨_, rfl, hk⟩)⟩
  · refine (delEv_none q f w A l.length cap l (evown_read h) hq hn hi).mono ?_
    rintro e w' ⟨rfl, hc⟩
    have hfl : l.filter (goodEv f) = l := by
      have h1 := idxE_take f l
      have h2 := idxE_le f l
      rw [List.take_of_length_le (by omega)] at h1
      exact h1
    rw [hfl]
    exact ⟨l.length, rfl, rfl, (evown_read h).non hc, hc.mono (fun _ _ x => x.elim)⟩

end Go.Proofs.Ytmdpbbnieehmnaa
