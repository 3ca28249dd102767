/- saves: the chapter's examples; SavesDue, the walk. -/
import Derived.Test.YtggbgfdgpkbmhaaSavS
namespace Go.Proofs.Ytggbgfdgpkbmhaa
open Go.RowKit
set_option linter.unusedSimpArgs false
set_option linter.unusedVariables false

set_option maxHeartbeats 2000000 in
set_option maxRecDepth 100000 in
theorem awake12_any (w : World) : Calls Try.prog 14 #[] w fun e w' => e = .returned (.bool true) ∧ Below w.heap.size w w' := by
  go_enter Try.func14, Try.ntmps14
  go_wp2_with fail
  refine (savNewS_any ⟨#[97]⟩ _).mono ?_
  rintro e w1 ⟨b, g1, k1, rfl, h1, c1, hlb, hlg⟩
  go_wp2_with fail
  refine (savSaveS_ok 3 ⟨#[98]⟩ _ b g1 k1 0 _ h1 (by decide) rfl ⟨-1, ⟨#[97]⟩⟩ rfl (by decide) (by decide)).mono ?_
  rintro e w2 ⟨rfl, ⟨g2, k2, h2, hg2⟩, c2⟩
  replace c2 := c1.trans c2 (fun i hi => by have := c1.size; exact .inr (by omega))
  have hl2 : w.heap.size ≤ g2 := by have := c1.size; omega
  clear c1 h1 hg2 hlg
  go_wp2_with fail
  refine (savSaveS_ok 7 ⟨#[99]⟩ _ b g2 k2 1 _ h2 (by decide) rfl ⟨3, ⟨#[98]⟩⟩ rfl (by decide) (by decide)).mono ?_
  rintro e w3 ⟨rfl, ⟨g3, k3, h3, hg3⟩, c3⟩
  replace c3 := c2.trans c3 (fun i hi => by exact .inr (by omega))
  have hl3 : w.heap.size ≤ g3 := by have := c2.size; omega
  clear c2 h2 hg3 hl2
  go_wp2_with fail
  refine (savCopyS_any _ b g3 k3 _ h3 (by decide)).mono ?_
  rintro e w4 ⟨d, f4, j4, rfl, d4, c4, hld, hlf⟩
  have h4 := h3.chg c4 id id
  have hbd : b ≠ d := by have := h3.ltb; omega
  have hbf : b ≠ f4 := by have := h3.ltb; omega
  have hgd : g3 ≠ d := by have := h3.ltg; omega
  have hgf : g3 ≠ f4 := by have := h3.ltg; omega
  replace c4 := c3.trans c4 (fun i hi => hi.elim)
  replace hld : w.heap.size ≤ d := by have := c3.size; omega
  replace hlf : w.heap.size ≤ f4 := by have := c3.size; omega
  clear h3 c3
  go_wp2_with fail
  refine (savLastS_some 7 _ b g3 k3 _ h4 (by decide) 1 ⟨3, ⟨#[98]⟩⟩ (by decide) rfl).mono ?_
  rintro e w5 ⟨rfl, c5⟩
  have h5 := h4.chg c5 id id
  have d5 := d4.chg c5 id id
  replace c5 := c4.trans c5 (fun i hi => hi.elim)
  clear h4 d4 c4
  go_wp2_with fail
  refine (savLastS_some 8 _ b g3 k3 _ h5 (by decide) 2 ⟨7, ⟨#[99]⟩⟩ (by decide) rfl).mono ?_
  rintro e w6 ⟨rfl, c6⟩
  have h6 := h5.chg c6 id id
  have d6 := d5.chg c6 id id
  replace c6 := c5.trans c6 (fun i hi => hi.elim)
  clear h5 d5 c5
  go_wp2_with fail
  refine (savFreeS_many 8 _ b g3 k3 1 _ h6 (by decide) (by decide)).mono ?_
  rintro e w7 ⟨rfl, ⟨g7, k7, h7, hg7⟩, c7⟩
  have d7 := d6.chg c7 (by omega) (by omega)
  replace c7 := c6.trans c7 (fun i hi => .inr (by omega))
  clear h6 d6 hg7
  go_wp2_with fail
  refine (savLastS_none 7 _ b g7 k7 _ h7 (by decide) (by decide)).mono ?_
  rintro e w8 ⟨rfl, rfl⟩
  go_wp2_with fail
  refine (savCutS_any 0 _ d f4 j4 _ d7 (by decide)).mono ?_
  rintro e w9 ⟨rfl, ⟨f9, j9, d9, hf9⟩, c9⟩
  replace c9 := c7.trans c9 (fun i hi => .inr (by omega))
  clear h7 d7 hf9
  go_wp2_with fail
  refine (savLastS_some 99 _ d f9 j9 _ d9 (by decide) 0 ⟨-1, ⟨#[97]⟩⟩ (by decide) rfl).mono ?_
  rintro e w10 ⟨rfl, c10⟩
  replace c10 := c9.trans c10 (fun i hi => hi.elim)
  go_wp2_with fail
  go_ret
  exact ⟨rfl, c10.non_below⟩

def dueB (every since : Int) : Bool := decide (0 < every) && decide (every ≤ since)
theorem due_any (every since : Int) (w : World) : Calls Try.prog 13 #[.int .i64 every, .int .i64 since] w fun e w' => e = .returned (.bool (dueB every since)) ∧ w = w' := by
  by_cases h1 : 0 < every
  · by_cases h2 : every ≤ since
    · rw [show dueB every since = true by simp [dueB, h1, h2]]
      go_enter Try.func13, Try.ntmps13
      go_wp2
      go_ret
      exact ⟨rfl, rfl⟩
    · rw [show dueB every since = false by simp [dueB, h2]]
      go_enter Try.func13, Try.ntmps13
      go_wp2
      go_ret
      exact ⟨rfl, rfl⟩
  · rw [show dueB every since = false by simp [dueB, h1]]
    go_enter Try.func13, Try.ntmps13
    go_wp2
    go_ret
    exact ⟨rfl, rfl⟩

theorem savesDue_any (every since : Int) (w : World) : Calls Try.prog 3 #[.int .i64 every, .int .i64 since] w fun e w' => e = .returned (.bool true) ∧ Below w.heap.size w w' := by
  have H := Lib.hid (due_any every since w)
  by_cases h1 : 0 < every
  · by_cases h2 : every ≤ since
    · rw [show dueB every since = true by simp [dueB, h1, h2]] at H
      go_enter Try.func3, Try.ntmps3
      go_wp2_with fail
      refine H.out.mono ?_
      rintro e w1 ⟨rfl, rfl⟩
      go_wp2_with fail
      refine (awake12_any _).mono ?_
      rintro e w1 ⟨rfl, hb⟩
      go_wp2_with fail
      go_ret
      exact ⟨rfl, hb⟩
    · rw [show dueB every since = false by simp [dueB, h2]] at H
      go_enter Try.func3, Try.ntmps3
      go_wp2_with fail
      refine H.out.mono ?_
      rintro e w1 ⟨rfl, rfl⟩
      go_wp2_with fail
      refine (awake12_any _).mono ?_
      rintro e w1 ⟨rfl, hb⟩
      go_wp2_with fail
      go_ret
      exact ⟨by show Ending.returned (.bool (!decide (every ≤ since))) = _; simp [h2], hb⟩
  · rw [show dueB every since = false by simp [dueB, h1]] at H
    go_enter Try.func3, Try.ntmps3
    go_wp2_with fail
    refine H.out.mono ?_
    rintro e w1 ⟨rfl, rfl⟩
    go_wp2_with fail
    refine (awake12_any _).mono ?_
    rintro e w1 ⟨rfl, hb⟩
    go_wp2_with fail
    go_ret
    exact ⟨rfl, hb⟩
end Go.Proofs.Ytggbgfdgpkbmhaa
