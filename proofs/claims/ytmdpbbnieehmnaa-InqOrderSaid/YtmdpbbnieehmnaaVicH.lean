/- events: IndexFunc by what Victim asks. -/
import Derived.Test.YtmdpbbnieehmnaaVicG
namespace Go.Proofs.Ytmdpbbnieehmnaa
open Go.RowKit
set_option linter.unusedSimpArgs false
set_option linter.unusedVariables false

/-- Where the first event is that is not asked for. -/
def idxE (f : Int) (l : List Ev) : Nat := (l.takeWhile (goodEv f)).length
def idxER (f : Int) (l : List Ev) (n : Nat) : Int := if idxE f l < n then (idxE f l : Int) else -1
theorem idxE_le (f : Int) (l : List Ev) : idxE f l ≤ l.length := (List.takeWhile_prefix _).length_le
theorem idxE_lt (f : Int) : ∀ (l : List Ev) (k : Nat) p, l[k]? = some p → k < idxE f l → goodEv f p = true := by
  intro l
  induction l with
  | nil => intro k p h; simp at h
  | cons y l ih =>
    intro k p h hk
    unfold idxE at ih hk
    cases hy : goodEv f y
    · simp [List.takeWhile_cons, hy] at hk
    · simp only [List.takeWhile_cons, hy, if_true, List.length_cons] at hk
      cases k with
      | zero => simp at h; subst h; exact hy
      | succ k => exact ih k p (by simpa using h) (by omega)
theorem idxE_stop (f : Int) : ∀ (l : List Ev) p, l[idxE f l]? = some p → goodEv f p = false := by
  intro l
  induction l with
  | nil => intro p h; simp [idxE] at h
  | cons y l ih =>
    intro p h
    unfold idxE at ih h
    cases hy : goodEv f y
    · simp [List.takeWhile_cons, hy] at h
      subst h; exact hy
    · simp only [List.takeWhile_cons, hy, if_true, List.length_cons, List.getElem?_cons_succ] at h
      exact ih p h
theorem idxE_take (f : Int) (l : List Ev) : (l.take (idxE f l)).filter (goodEv f) = l.take (idxE f l) := by
  rw [List.filter_eq_self]
  intro p hp
  obtain ⟨i, hi, e⟩ := List.getElem_of_mem hp
  have h1 : i < idxE f l := by rw [List.length_take] at hi; omega
  have h2 : l[i]? = some p := by
    rw [List.getElem_take] at e
    rw [← e]
    exact List.getElem?_eq_getElem _
  exact idxE_lt f l i p h2 h1

set_option maxRecDepth 100000 in
theorem idxEv_any (q : Nat) (f : Int) (w : World) (A : Option Addr) (n c : Nat) (l : List Ev) (hl : SlRead Ev.cells 7 w A n c l) (hq : w.cell? ⟨q, 0, none⟩ = some (.int .i64 f)) (hn : n ≤ 1000000) :
    Calls Try.prog 68 #[.slice A n c, .func (.func 54) #[] #[.pointer (some ⟨q, 0, none⟩)]] w fun e w' => e = .returned (.int .i64 (idxER f l n)) ∧ Chg Non w w' := by
  have hlen := hl.len
  have hle := idxE_le f l
  have HL := Lib.hid hl
  clear hl
  go_enter Try.func68, Try.ntmps68
  go_wp2
  go_loopw [8] (fun i wr => ∃ k : Nat, k ≤ idxE f l ∧ k ≤ n ∧ i = .int .i64 k ∧ Chg Non w wr) (fun i _ => n - (intOf i).toNat)
  case atStart => exact ⟨0, by omega, by omega, rfl, Chg.refl _ _⟩
  case round =>
    obtain ⟨k, hk, hkn, rfl, hch⟩ := hrel
    by_cases hlt : k < n
    · have hp : l[k]? = some (l[k]'(by omega)) := List.getElem?_eq_getElem (by omega)
      generalize l[k]'(by omega) = p at hp
      have hstop := fun (e : k = idxE f l) => idxE_stop f l p (by rw [← e]; exact hp)
      have hgo := idxE_lt f l k p hp
      obtain ⟨ad, rfl, c0, c1, c2, c3, c4, c5, c6⟩ := ev_at (HL.out.non hch) hp
      clear hp
      have hq2 := hch.cell hq id
      have hF0 := fun (w : World) (h : w.cell? ⟨q, 0, none⟩ = some (.int .i64 f)) => vicF1_any q f p w h
      unfold Ev.val at hF0
      have HF := Lib.hid hF0
      clear hF0
      by_cases hki : k = idxE f l
      · have hb : (!goodEv f p) = true := by rw [hstop hki]; rfl
        have HK := Lib.hid hki
        clear hki hstop hgo
        go_wp2_with (go_at_call 54; refine (hb ▸ HF.out _ hq2).mono ?_; rintro e w2 ⟨rfl, hc2⟩)
        go_ret
        exact ⟨by unfold idxER; rw [← HK.out, if_pos hlt]; rfl, hch.trans hc2 (fun _ x => x.elim)⟩
      · have hb : (!goodEv f p) = false := by rw [hgo (by omega)]; rfl
        clear hstop hgo
        go_wp2_with (go_at_call 54; refine (hb ▸ HF.out _ hq2).mono ?_; rintro e w2 ⟨rfl, hc2⟩)
        go_roundw
        case rel => exact ⟨k + 1, by omega, by omega, by go_num, hch.trans hc2 (fun _ x => x.elim)⟩
        case measure => simp [intOf]; omega
    · obtain rfl : k = n := by omega
      go_wp2
      go_ret
      exact ⟨by unfold idxER; rw [if_neg (by omega)]; rfl, hch⟩
end Go.Proofs.Ytmdpbbnieehmnaa
