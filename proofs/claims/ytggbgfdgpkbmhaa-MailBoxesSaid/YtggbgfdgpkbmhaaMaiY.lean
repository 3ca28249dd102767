/- mail: the packets to all boxes: the plain law. -/
import Derived.Test.YtggbgfdgpkbmhaaMaiV
namespace Go.Proofs.Ytggbgfdgpkbmhaa
open Go.RowKit
set_option linter.unusedSimpArgs false
set_option linter.unusedVariables false

theorem take_first (t : Int) : ∀ m : List Pk, m.Pairwise (fun a b => a.no < b.no) → ∀ (p : Pk) (f : List Pk), m.filter (givT t) = p :: f → ∃ m1, takeR p.no m = (p, 0, m1) ∧ m1.filter (givT t) = f ∧ ∀ g : Pk → Bool, g p = false → m1.filter g = m.filter g := by
  intro m
  induction m with
  | nil => intro _ p f h; simp at h
  | cons x m ih =>
    intro hok p f h
    rw [List.pairwise_cons] at hok
    cases hx : givT t x
    · rw [List.filter_cons_of_neg (by simp [hx])] at h
      have hp : p ∈ m := by
        have : p ∈ m.filter (givT t) := by rw [h]; simp
        exact (List.mem_filter.1 this).1
      have hlt := hok.1 p hp
      obtain ⟨m1, h1, h2, h3⟩ := ih hok.2 p f h
      refine ⟨x :: m1, ?_, ?_, fun g hg => ?_⟩
      · rw [take_miss (by simp; omega), h1]
      · rw [List.filter_cons_of_neg (by simp [hx]), h2]
      · rw [List.filter_cons, List.filter_cons, h3 g hg]
    · rw [List.filter_cons_of_pos hx] at h
      simp only [List.cons.injEq] at h
      obtain ⟨rfl, rfl⟩ := h
      exact ⟨m, take_hit (by simp), rfl, fun g hg => by rw [List.filter_cons_of_neg (by simp [hg])]⟩
theorem pickI_zero (k : Nat) : pickI 0 k = 0 := by simp [pickI]
theorem pick_nil {K t : Int} {m : List Pk} (hin : inBox K t = true) (hf : m.filter (givT t) = []) : pickR K t 0 m = (.zero, 14, m) := by
  unfold pickR
  rw [hin, hf]
  rfl
theorem pick_cons {K t : Int} {m : List Pk} (hin : inBox K t = true) (hok : m.Pairwise (fun a b => a.no < b.no)) {p : Pk} {f : List Pk} (hf : m.filter (givT t) = p :: f) :
    ∃ m1, pickR K t 0 m = (p, 0, m1) ∧ m1.filter (givT t) = f ∧ ∀ g : Pk → Bool, g p = false → m1.filter g = m.filter g := by
  obtain ⟨m1, h1, h2, h3⟩ := take_first t m hok p f hf
  refine ⟨m1, ?_, h2, h3⟩
  unfold pickR
  rw [hin, hf, pickI_zero]
  exact h1

/-- The packets to a box below t. -/
def below (t : Int) (m : List Pk) : List Pk := m.filter (fun p => decide (p.dst < t))
theorem below_succ (t : Int) (m : List Pk) : (below (t + 1) m).length = (below t m).length + (m.filter (givT t)).length := by
  unfold below
  induction m with
  | nil => rfl
  | cons x m ih =>
    simp only [List.filter_cons, givT] at ih ⊢
    by_cases h1 : x.dst < t
    · have h2 : x.dst < t + 1 := by omega
      have h3 : (x.dst == t) = false := by simp; omega
      simp only [h1, h2, h3, decide_true, if_true, List.length_cons]
      simp only [Bool.false_eq_true, if_false]
      omega
    · by_cases h3 : x.dst = t
      · have h2 : x.dst < t + 1 := by omega
        have h4 : (x.dst == t) = true := by simpa using h3
        simp only [h1, h2, h4, decide_true, decide_false, if_true, List.length_cons]
        simp only [Bool.false_eq_true, if_false]
        omega
      · have h2 : ¬ x.dst < t + 1 := by omega
        have h4 : (x.dst == t) = false := by simpa using h3
        simp only [h1, h2, h4, decide_false]
        simp only [Bool.false_eq_true, if_false]
        omega
def boxOk (K : Int) (m : List Pk) : Prop := ∀ p ∈ m, 0 ≤ p.src ∧ p.src < K ∧ 0 ≤ p.dst ∧ p.dst < K
theorem boxOk.sub {K : Int} {l m : List Pk} (h : boxOk K l) (hm : m.Sublist l) : boxOk K m := fun p hp => h p (hm.subset hp)
theorem sent_box (src dst : Int) (xs : List Int) : ∀ next : Int, ∀ p ∈ sent next src dst xs, p.src = src ∧ p.dst = dst := by
  induction xs with
  | nil => intro next p hp; simp [sent] at hp
  | cons x xs ih =>
    intro next p hp
    simp only [sent, List.mem_cons] at hp
    rcases hp with rfl | hp
    · exact ⟨rfl, rfl⟩
    · exact ih _ p hp
theorem step_box (K next : Int) (m : List Pk) (h : boxOk K m) (ask a b : Int) (xs : List Int) : boxOk K (stepR K next m ask a b xs).2 := by
  unfold stepR
  split
  · split
    · rename_i hb
      obtain ⟨h1, h2⟩ := Bool.and_eq_true_iff.1 hb
      have g1 := box_true h1
      have g2 := box_true h2
      intro p hp
      rcases List.mem_append.1 hp with hp | hp
      · exact h p hp
      · obtain ⟨e1, e2⟩ := sent_box a b xs next p hp
        rw [e1, e2]
        omega
    · exact h
  · split
    · exact h.sub (take_sub _ _)
    · exact h.sub (pick_sub _ _ _ _)
theorem below_zero {K : Int} {m : List Pk} (h : boxOk K m) : below 0 m = [] := by
  unfold below
  rw [List.filter_eq_nil_iff]
  intro p hp
  have := (h p hp).2.2.1
  simp
  omega
theorem below_all {K : Int} {m : List Pk} (h : boxOk K m) : below K m = m := by
  unfold below
  rw [List.filter_eq_self]
  intro p hp
  simpa using (h p hp).2.2.2

/-- What the loop over a box's packets asks of them. -/
def chk (K t : Int) (pre : List Pk) : Prop := pre.Pairwise (fun a b => a.no < b.no) ∧ ∀ p ∈ pre, p.dst = t ∧ 0 ≤ p.no ∧ 0 ≤ p.src ∧ p.src < K
def lastOf (pre : List Pk) : Int := (pre.getLast?.map (·.no)).getD (-1)
theorem last_snoc (pre : List Pk) (s : Pk) : lastOf (pre ++ [s]) = s.no := by simp [lastOf]
theorem chk.pre {K t : Int} {f pre : List Pk} (h : chk K t f) (hp : pre <+: f) : chk K t pre := ⟨h.1.sublist hp.sublist, fun p hm => h.2 p (hp.sublist.subset hm)⟩
theorem chk_nil (K t : Int) : chk K t [] := ⟨List.Pairwise.nil, by simp⟩
theorem nil_or_snoc (l : List Pk) : l = [] ∨ ∃ ini z, l = ini ++ [z] := by
  rcases List.eq_nil_or_concat l with h | ⟨ini, z, h⟩
  · exact .inl h
  · exact .inr ⟨ini, z, by rw [h, List.concat_eq_append]⟩
theorem chk_le {K t : Int} {pre : List Pk} (h : chk K t pre) : (∀ p ∈ pre, p.no ≤ lastOf pre) ∧ -1 ≤ lastOf pre ∧ (0 < pre.length → 0 ≤ lastOf pre) := by
  rcases nil_or_snoc pre with rfl | ⟨ini, z, rfl⟩
  · exact ⟨by simp, by simp [lastOf], by simp⟩
  · rw [last_snoc]
    have hz := (h.2 z (by simp)).2.1
    refine ⟨fun p hp => ?_, by omega, fun _ => hz⟩
    rcases List.mem_append.1 hp with hp | hp
    · have := (List.pairwise_append.1 h.1).2.2 p hp z (by simp)
      omega
    · simp at hp; subst hp; exact Int.le_refl _
theorem chk_snoc {K t : Int} {pre : List Pk} {s : Pk} (h : chk K t pre) (c1 : s.dst = t) (c2 : lastOf pre < s.no) (c3 : 0 ≤ s.src) (c4 : s.src < K) : chk K t (pre ++ [s]) := by
  obtain ⟨h1, h2, _⟩ := chk_le h
  refine ⟨List.pairwise_append.2 ⟨h.1, by simp, fun p hp q hq => ?_⟩, fun p hp => ?_⟩
  · simp at hq; subst hq
    have := h1 p hp
    omega
  · rcases List.mem_append.1 hp with hp | hp
    · exact h.2 p hp
    · simp at hp; subst hp
      exact ⟨c1, by omega, c3, c4⟩
theorem chk_not {K t : Int} {pre : List Pk} {s : Pk} (hn : s.dst ≠ t ∨ s.no ≤ lastOf pre ∨ s.src < 0 ∨ K ≤ s.src) : ¬ chk K t (pre ++ [s]) := by
  intro h
  obtain ⟨e1, e2, e3, e4⟩ := h.2 s (by simp)
  rcases hn with h1 | h1 | h1 | h1
  · exact h1 e1
  · rcases nil_or_snoc pre with rfl | ⟨ini, z, rfl⟩
    · simp [lastOf] at h1; omega
    · rw [last_snoc] at h1
      have := (List.pairwise_append.1 h.1).2.2 z (by simp) s (by simp)
      omega
  · omega
  · omega
theorem chk_filter {K t next : Int} {m : List Pk} (hok : NumsOk next m) (hb : boxOk K m) : chk K t (m.filter (givT t)) :=
  ⟨hok.1.sublist List.filter_sublist, fun p hp => by
    obtain ⟨hm, hg⟩ := List.mem_filter.1 hp
    have := hok.2 p hm
    have := hb p hm
    simp [givT] at hg
    exact ⟨hg, by omega, by omega, by omega⟩⟩
theorem pick_two {K t next : Int} {m : List Pk} (hin : inBox K t = true) (hok : NumsOk next m) (hb : boxOk K m) : ∃ o1 e1 m1 o2 e2 m2, pickR K t 0 m = (o1, e1, m1) ∧ pickR K t 0 m1 = (o2, e2, m2) ∧ m1.Sublist m ∧ m2.Sublist m ∧
    ((e1 = 14 ∧ e2 = 14 ∧ lastOf (m.filter (givT t)) = -1 ∧ (m.filter (givT t)).length = 0 ∧ (below (t + 1) m2).length = (below t m).length) ∨
     (e1 = 0 ∧ e2 = 14 ∧ 0 ≤ lastOf (m.filter (givT t)) ∧ (m.filter (givT t)).length = 1 ∧ (below (t + 1) m2).length = (below t m).length) ∨
     (e1 = 0 ∧ e2 = 0 ∧ 0 ≤ lastOf (m.filter (givT t)) ∧ o1.no < o2.no ∧ 2 ≤ (m.filter (givT t)).length ∧ (below (t + 1) m2).length + 2 = (below t m).length + (m.filter (givT t)).length)) := by
  have hc := chk_filter (t := t) hok hb
  have hmem : ∀ p ∈ m.filter (givT t), p.dst = t := fun p hp => by simpa [givT] using (List.mem_filter.1 hp).2
  cases hf : m.filter (givT t) with
  | nil =>
    have hp := pick_nil hin hf
    refine ⟨_, _, _, _, _, _, hp, hp, List.Sublist.refl _, List.Sublist.refl _, .inl ⟨rfl, rfl, rfl, rfl, ?_⟩⟩
    rw [below_succ, hf]
    rfl
  | cons p f =>
    rw [hf] at hc hmem
    have hl := (chk_le hc).2.2 (by simp)
    obtain ⟨m1, h1, h2, h3⟩ := pick_cons hin hok.1 hf
    have hs1 : m1.Sublist m := by have := pick_sub K t 0 m; rwa [h1] at this
    have hpd := hmem p (by simp)
    have hb1 : below t m1 = below t m := h3 _ (by simp; omega)
    cases f with
    | nil =>
      have hp := pick_nil hin h2
      refine ⟨_, _, _, _, _, _, h1, hp, hs1, hs1, .inr (.inl ⟨rfl, rfl, hl, rfl, ?_⟩)⟩
      rw [below_succ, h2, hb1]
      rfl
    | cons q f =>
      obtain ⟨m2, k1, k2, k3⟩ := pick_cons hin (hok.sub hs1).1 h2
      have hs2 : m2.Sublist m1 := by have := pick_sub K t 0 m1; rwa [k1] at this
      have hqd := hmem q (by simp)
      have hb2 : below t m2 = below t m1 := k3 _ (by simp; omega)
      have hlt : p.no < q.no := by
        have := hc.1
        rw [List.pairwise_cons] at this
        exact this.1 q (by simp)
      refine ⟨_, _, _, _, _, _, h1, k1, hs1, hs2.trans hs1, .inr (.inr ⟨rfl, rfl, hl, hlt, by simp, ?_⟩)⟩
      rw [below_succ, k2, hb2, hb1]
      simp
      omega
end Go.Proofs.Ytggbgfdgpkbmhaa
