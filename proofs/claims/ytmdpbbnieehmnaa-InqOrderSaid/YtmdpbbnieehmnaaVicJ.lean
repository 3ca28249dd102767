/- events: a row that is owned, one element laid anew. -/
import Derived.Test.YtmdpbbnieehmnaaVicI
namespace Go.Proofs.Ytmdpbbnieehmnaa
open Go.RowKit
set_option linter.unusedSimpArgs false
set_option linter.unusedVariables false

theorem set7_blk {w : World} {g : Nat} {cur : Array Value} {t : TypeId} (h : Blk w g cur t) (o : Nat) (hl : o + 7 ≤ cur.size) (a b c d e f k : Value) :
    ∃ cur' : Array Value, Blk (((((((w.setCell ⟨g, o, none⟩ a).setCell ⟨g, o + 1, none⟩ b).setCell ⟨g, o + 2, none⟩ c).setCell ⟨g, o + 3, none⟩ d).setCell ⟨g, o + 4, none⟩ e).setCell ⟨g, o + 5, none⟩ f).setCell ⟨g, o + 6, none⟩ k) g cur' t ∧ cur'.size = cur.size ∧ (∀ i, i < o ∨ o + 7 ≤ i → cur'[i]? = cur[i]?) ∧ cur'[o]? = some a ∧ cur'[o + 1]? = some b ∧ cur'[o + 2]? = some c ∧ cur'[o + 3]? = some d ∧ cur'[o + 4]? = some e ∧ cur'[o + 5]? = some f ∧ cur'[o + 6]? = some k := by
  refine ⟨_, ((((((h.set o a).set (o + 1) b).set (o + 2) c).set (o + 3) d).set (o + 4) e).set (o + 5) f).set (o + 6) k, by simp, fun i hi => ?_, ?_, ?_, ?_, ?_, ?_, ?_, ?_⟩
  · simp only [Array.getElem?_setIfInBounds]
    rw [if_neg (by omega), if_neg (by omega), if_neg (by omega), if_neg (by omega), if_neg (by omega), if_neg (by omega), if_neg (by omega)]
  all_goals
    simp [Array.getElem?_setIfInBounds]
    omega

/-- An owned row, element i laid anew. -/
theorem own_set7 {w : World} {e : TypeId} {g cap n : Nat} {R : List Ev} (h : w.ownsRow 0 e 7 (.slice (some ⟨g, 0, none⟩) n cap) n (R.flatMap Ev.cells)) {i : Nat} (hi : i < n) (v : Ev) :
    (((((((w.setCell ⟨g, i * 7, none⟩ (.int .i64 v.at_)).setCell ⟨g, i * 7 + 1, none⟩ (.int .i64 v.src)).setCell ⟨g, i * 7 + 2, none⟩ (.int .i64 v.sent)).setCell ⟨g, i * 7 + 3, none⟩ (.int .i64 v.no)).setCell ⟨g, i * 7 + 4, none⟩ (.int .i64 v.dst)).setCell ⟨g, i * 7 + 5, none⟩ (.int .i64 v.kind)).setCell ⟨g, i * 7 + 6, none⟩ (.int .i64 v.data)).ownsRow 0 e 7 (.slice (some ⟨g, 0, none⟩) n cap) n ((R.set i v).flatMap Ev.cells) := by
  have h1 := h.1
  have hR : R.length = n := by
    have := flatMap_len Ev.len R
    omega
  obtain ⟨_, h2⟩ := h
  rcases h2 with ⟨hv, _⟩ | ⟨g', cap', cur, hv, hb, hh, hle, hm, hs, ht⟩
  · cases hv
  · cases hv
    have hcap : n * 7 ≤ cap * 7 := Nat.mul_le_mul_right _ hle
    obtain ⟨cur', hb', hs', hk, k0, k1, k2, k3, k4, k5, k6⟩ := set7_blk (show Blk w g cur e from hh) (i * 7) (by omega) (.int .i64 v.at_) (.int .i64 v.src) (.int .i64 v.sent) (.int .i64 v.no) (.int .i64 v.dst) (.int .i64 v.kind) (.int .i64 v.data)
    have hlen : ((R.set i v).flatMap Ev.cells).length = n * 7 := by
      rw [flatMap_len Ev.len, List.length_set, hR]
    refine ⟨hlen, .inr ⟨g, cap, cur', rfl, Nat.zero_le _, hb', hle, hm, by rw [hs', hs], ?_⟩⟩
    apply List.ext_getElem?
    intro t
    rw [List.getElem?_take]
    split
    · rename_i htn
      rw [Array.getElem?_toList]
      obtain ⟨q, r, hr, rfl⟩ : ∃ q r, r < 7 ∧ t = q * 7 + r := ⟨t / 7, t % 7, Nat.mod_lt _ (by decide), by omega⟩
      have hq : q < n := by omega
      by_cases hqi : q = i
      · subst hqi
        have hx : (R.set q v)[q]? = some v := by rw [List.getElem?_set_self (by omega)]
        have key : ∀ j u, v.cells[j]? = some u → ((R.set q v).flatMap Ev.cells)[q * 7 + j]? = some u := fun j u hu => flatMap_get Ev.len (R.set q v) q v j u hx hu
        have : r = 0 ∨ r = 1 ∨ r = 2 ∨ r = 3 ∨ r = 4 ∨ r = 5 ∨ r = 6 := by omega
        rcases this with rfl | rfl | rfl | rfl | rfl | rfl | rfl
        · rw [key 0 _ rfl]; exact k0
        · rw [key 1 _ rfl]; exact k1
        · rw [key 2 _ rfl]; exact k2
        · rw [key 3 _ rfl]; exact k3
        · rw [key 4 _ rfl]; exact k4
        · rw [key 5 _ rfl]; exact k5
        · rw [key 6 _ rfl]; exact k6
      · have hx : R[q]? = some (R[q]'(by omega)) := List.getElem?_eq_getElem _
        generalize R[q]'(by omega) = y at hx
        have hx' : (R.set i v)[q]? = some y := by rw [List.getElem?_set_ne (fun e => hqi e.symm)]; exact hx
        obtain ⟨u, hu⟩ : ∃ u, y.cells[r]? = some u := ⟨_, List.getElem?_eq_getElem (by rw [Ev.len]; exact hr)⟩
        rw [flatMap_get Ev.len (R.set i v) q y r u hx' hu, hk _ (by omega)]
        have h3 := flatMap_get Ev.len R q y r u hx hu
        rw [← ht, List.getElem?_take, if_pos (by omega), Array.getElem?_toList] at h3
        exact h3
    · rename_i htn
      rw [List.getElem?_eq_none (by rw [hlen]; omega)]
end Go.Proofs.Ytmdpbbnieehmnaa
