/- mail: the plain law: the document's answer is the program's; numbers rise. -/
import Derived.Test.YtggbgfdgpkbmhaaMaiP
import Derived.Test.YtggbgfdgpkbmhaaMaiJ
namespace Go.Proofs.Ytggbgfdgpkbmhaa
open Go.RowKit
set_option linter.unusedSimpArgs false
set_option linter.unusedVariables false

theorem idx_hit {no : Int} {p : Pk} {l : List Pk} (h : (p.no == no) = true) : idxOf no (p :: l) = 0 := by simp [idxOf, List.takeWhile_cons, h]
theorem idx_miss {no : Int} {p : Pk} {l : List Pk} (h : (p.no == no) = false) : idxOf no (p :: l) = idxOf no l + 1 := by simp [idxOf, List.takeWhile_cons, h]
theorem take_hit {no : Int} {p : Pk} {l : List Pk} (h : (p.no == no) = true) : takeR no (p :: l) = (p, 0, l) := by simp [takeR, idx_hit h]
theorem take_miss {no : Int} {p : Pk} {l : List Pk} (h : (p.no == no) = false) : takeR no (p :: l) = ((takeR no l).1, (takeR no l).2.1, p :: (takeR no l).2.2) := by
  unfold takeR
  rw [idx_miss h, List.getElem?_cons_succ]
  cases l[idxOf no l]? <;> rfl

/-- The numbers rise, and are below the next one. -/
def NumsOk (next : Int) (l : List Pk) : Prop := l.Pairwise (fun a b => a.no < b.no) ∧ ∀ p ∈ l, 0 ≤ p.no ∧ p.no < next
theorem nums_nil (next : Int) : NumsOk next [] := ⟨List.Pairwise.nil, by simp⟩
theorem fold_none {no : Int} (l : List Pk) (o : Pk × Int) (h : ∀ q ∈ l, (q.no == no) = false) : l.foldl (fun o p => if (p.no == no) = true then (p, 0) else o) o = o := by
  induction l generalizing o with
  | nil => rfl
  | cons q l ih =>
    rw [List.foldl_cons, h q (by simp)]
    exact ih o (fun q' hq => h q' (by simp [hq]))
theorem hit_take (no : Int) : ∀ l : List Pk, l.Pairwise (fun a b => a.no < b.no) → hitR no l = ((takeR no l).1, (takeR no l).2.1) ∧ leftR no l = (takeR no l).2.2 := by
  intro l
  induction l with
  | nil => intro _; exact ⟨rfl, rfl⟩
  | cons p l ih =>
    intro h
    rw [List.pairwise_cons] at h
    cases hp : (p.no == no)
    · rw [take_miss hp]
      obtain ⟨h1, h2⟩ := ih h.2
      refine ⟨?_, ?_⟩
      · unfold hitR at *
        rw [List.foldl_cons, hp]
        exact h1
      · unfold leftR at *
        rw [List.filter_cons_of_pos (by simp [hp]), h2]
    · rw [take_hit hp]
      have hno : ∀ q ∈ l, (q.no == no) = false := fun q hq => by
        have := h.1 q hq
        simp at hp ⊢
        omega
      refine ⟨?_, ?_⟩
      · unfold hitR
        rw [List.foldl_cons, hp]
        exact fold_none l _ hno
      · unfold leftR
        rw [List.filter_cons_of_neg (by simp [hp]), List.filter_eq_self.2 (fun q hq => by simp [hno q hq])]
theorem take_sub (no : Int) (l : List Pk) : (takeR no l).2.2.Sublist l := by
  unfold takeR
  cases l[idxOf no l]? with
  | none => exact List.Sublist.refl _
  | some p => exact List.eraseIdx_sublist _ _
theorem pick_sub (boxes to which : Int) (l : List Pk) : (pickR boxes to which l).2.2.Sublist l := by
  unfold pickR
  split
  · exact List.Sublist.refl _
  · split
    · exact List.Sublist.refl _
    · exact take_sub _ _
theorem NumsOk.sub {next : Int} {l m : List Pk} (h : NumsOk next l) (hm : m.Sublist l) : NumsOk next m := ⟨h.1.sublist hm, fun p hp => h.2 p (hm.subset hp)⟩
theorem sent_ge (src dst : Int) (xs : List Int) : ∀ (next : Int), ∀ p ∈ sent next src dst xs, next ≤ p.no ∧ p.no < next + xs.length := by
  induction xs with
  | nil => intro next p hp; simp [sent] at hp
  | cons x xs ih =>
    intro next p hp
    simp only [sent, List.mem_cons] at hp
    simp only [List.length_cons]
    rcases hp with rfl | hp
    · exact ⟨Int.le_refl _, by show next < _; omega⟩
    · have := ih (next + 1) p hp
      omega
theorem sent_pair (src dst : Int) (xs : List Int) : ∀ (next : Int), (sent next src dst xs).Pairwise (fun a b => a.no < b.no) := by
  induction xs with
  | nil => intro next; exact List.Pairwise.nil
  | cons x xs ih =>
    intro next
    refine List.pairwise_cons.2 ⟨fun q hq => ?_, ih _⟩
    have := (sent_ge src dst xs (next + 1) q hq).1
    show next < q.no
    omega
theorem NumsOk.sent {next : Int} {l : List Pk} (h : NumsOk next l) (h0 : 0 ≤ next) (src dst : Int) (xs : List Int) : NumsOk (next + xs.length) (l ++ sent next src dst xs) := by
  refine ⟨List.pairwise_append.2 ⟨h.1, sent_pair _ _ _ _, fun p hp q hq => ?_⟩, fun p hp => ?_⟩
  · have := (h.2 p hp).2
    have := (sent_ge src dst xs next q hq).1
    omega
  · rcases List.mem_append.1 hp with hp | hp
    · have := h.2 p hp; omega
    · have := sent_ge src dst xs next p hp; omega
theorem pick_r (which : Int) (k : Nat) (hk : 0 < k) : (pickI which k : Int) = if which.tmod k < 0 then which.tmod k + k else which.tmod k := by
  obtain ⟨h1, h2, h3, h4⟩ := pick_lt which k hk
  rw [← h2]
  split
  · rw [Int.tmod_eq_emod_of_nonneg (by omega), Int.emod_eq_of_lt (by omega) (by omega)]
  · rw [Int.tmod_eq_emod_of_nonneg (by omega), Int.add_emod_right, Int.emod_eq_of_lt (by omega) (by omega)]
end Go.Proofs.Ytggbgfdgpkbmhaa
