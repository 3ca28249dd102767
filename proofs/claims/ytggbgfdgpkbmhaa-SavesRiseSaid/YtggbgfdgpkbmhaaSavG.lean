/- saves: Ints; Times of a row; SavesCuts. -/
import Derived.Test.YtggbgfdgpkbmhaaSavF
namespace Go.Proofs.Ytggbgfdgpkbmhaa
open Go.RowKit
set_option linter.unusedSimpArgs false
set_option linter.unusedVariables false

theorem IntsAt.read {w : World} {A : Option Addr} {c : Nat} {xs : List Int} (h : IntsAt w A c xs) : SlRead ic 1 w A xs.length c xs := by
  have h0 := h.own
  obtain ⟨h1, h2⟩ := h0
  rcases h2 with ⟨hv, _⟩ | ⟨g', cap', cur, hv, _, hh, hle, hm, hs, ht⟩
  · injection hv with e1 hl e3
    subst e1 e3
    have : xs = [] := List.eq_nil_of_length_eq_zero hl
    subst this
    exact ⟨rfl, Nat.le_refl _, by simp [maxLen], fun _ => rfl, by simp⟩
  · cases hv
    exact own_read ic_len h.own (by decide)
def timesPost (w : World) (l : List SvI) (e : Ending) (w' : World) : Prop := ∃ A c, e = .returned (.slice A l.length c) ∧ SlRead ic 1 w' A l.length c (l.map (·.at_)) ∧ Chg Non w w' ∧ ∀ ad, A = some ad → w.heap.size ≤ ad.block
theorem savTimesI_any (w : World) (b g cap : Nat) (l : List SvI) (h : RowIAt w b g cap l) (hn : l.length ≤ 1000000) :
    Calls Try.prog 19 #[.pointer (some ⟨b, 0, none⟩)] w (timesPost w l) := by
  refine (savTimesI_it w (.pointer (some ⟨b, 0, none⟩)) l hn (fun w1 hc => savAllI_any w1 b g cap l (h.chg hc id id) hn)).mono ?_
  rintro e w1 ⟨A, c, rfl, hi, hc, hA⟩
  have := hi.read
  rw [List.length_map] at this
  exact ⟨A, c, rfl, this, hc, hA⟩
theorem int_at {w : World} {A : Option Addr} {n c : Nat} {xs : List Int} (h : SlRead ic 1 w A n c xs) {k : Nat} {x : Int} (hx : xs[k]? = some x) : ∃ ad, A = some ad ∧ w.cell? (ad.add k) = some (.int .i64 x) := by
  obtain ⟨ad, e, hc⟩ := h.cell k x hx
  exact ⟨ad, e, by simpa using hc 0 (.int .i64 x) rfl⟩

set_option maxRecDepth 100000 in
theorem ints_any (w : World) (A : Option Addr) (n c : Nat) (xs : List Int) (hx : SlRead ic 1 w A n c xs) (B : Option Addr) (m d : Nat) (ys : List Int) (hy : SlRead ic 1 w B m d ys) :
    Calls Try.prog 20 #[.slice A n c, .slice B m d] w fun e w' => e = .returned (.bool (decide (xs = ys))) ∧ Chg Non w w' := by
  have hn := hx.len
  have hm := hy.len
  have hnm := hx.cap
  have hnM := hx.max
  have HX := Lib.hid hx
  have HY := Lib.hid hy
  clear hx hy
  unfold maxLen at hnM
  by_cases hl : n = m
  · subst hl
    go_enter Try.func20, Try.ntmps20
    go_wp2
    go_loopw [5] (fun i wr => ∃ k : Nat, k ≤ n ∧ i = .int .i64 k ∧ xs.take k = ys.take k ∧ Chg Non w wr) (fun i _ => n - (intOf i).toNat)
    case atStart => exact ⟨0, by omega, rfl, by simp, Chg.refl _ _⟩
    case round =>
      obtain ⟨k, hk, rfl, htk, hch⟩ := hrel
      by_cases hlt : k < n
      · have h1 : xs[k]? = some (xs[k]'(by omega)) := List.getElem?_eq_getElem (by omega)
        have h2 : ys[k]? = some (ys[k]'(by omega)) := List.getElem?_eq_getElem (by omega)
        generalize xs[k]'(by omega) = x at h1
        generalize ys[k]'(by omega) = y at h2
        obtain ⟨a1, rfl, e1⟩ := int_at (HX.out.non hch) h1
        obtain ⟨a2, rfl, e2⟩ := int_at (HY.out.non hch) h2
        have H1 := Lib.hid h1
        have H2 := Lib.hid h2
        have HT := Lib.hid htk
        clear h1 h2 htk
        by_cases hxy : x = y
        · subst hxy
          go_wp2
          go_quiet (fail)
          go_wp2
          go_roundw
          case rel => exact ⟨k + 1, by omega, by go_num, by rw [List.take_add_one, List.take_add_one, HT.out, H1.out, H2.out], hch.drewN _⟩
          case measure => simp [intOf]; omega
        · have hne := Lib.hid (show ¬ xs = ys from fun e => hxy (by have h1 := H1.out; rw [e, H2.out] at h1; cases h1; rfl))
          go_wp2
          go_quiet (fail)
          go_wp2
          go_ret
          exact ⟨by rw [decide_eq_false hne.out]; rfl, hch.drewN _⟩
      · obtain rfl : k = n := by omega
        have he := Lib.hid (show xs = ys from by rw [List.take_of_length_le (by omega), List.take_of_length_le (by omega)] at htk; exact htk)
        clear htk
        go_wp2
        go_ret
        exact ⟨by rw [decide_eq_true he.out]; rfl, hch⟩
  · have hne := Lib.hid (show ¬ xs = ys from fun e => hl (by rw [← hn, ← hm, e]))
    go_enter Try.func20, Try.ntmps20
    go_wp2
    go_ret
    exact ⟨by rw [decide_eq_false hne.out]; rfl, Chg.refl _ _⟩
end Go.Proofs.Ytggbgfdgpkbmhaa
