/- events: their order, and the greatest one; plain. -/
import Derived.Test.YtmdpbbnieehmnaaBase
namespace Go.Proofs.Ytmdpbbnieehmnaa
open Go.RowKit
set_option linter.unusedSimpArgs false
set_option linter.unusedVariables false

/-- An event. -/
structure Ev where
  at_ : Int
  src : Int
  sent : Int
  no : Int
  dst : Int
  kind : Int
  data : Int
deriving Inhabited, DecidableEq
def Ev.cells (e : Ev) : List Value := [.int .i64 e.at_, .int .i64 e.src, .int .i64 e.sent, .int .i64 e.no, .int .i64 e.dst, .int .i64 e.kind, .int .i64 e.data]
def Ev.val (e : Ev) : Value := .agg #[.int .i64 e.at_, .int .i64 e.src, .int .i64 e.sent, .int .i64 e.no, .int .i64 e.dst, .int .i64 e.kind, .int .i64 e.data]
def Ev.zero : Ev := ⟨0, 0, 0, 0, 0, 0, 0⟩
def Ev.mk' (a b c d e f g : Int) : Ev := ⟨a, b, c, d, e, f, g⟩
theorem Ev.len (e : Ev) : e.cells.length = 7 := rfl
theorem Ev.one (l : List Ev) : ∀ u ∈ l.flatMap Ev.cells, u.oneCell' = true := by
  intro u hu
  obtain ⟨p, _, hp⟩ := List.mem_flatMap.1 hu
  simp [Ev.cells] at hp
  rcases hp with rfl | rfl | rfl | rfl | rfl | rfl | rfl <;> simp [Value.oneCell']
def Ev.key (e : Ev) : List Int := [e.at_, e.src, e.sent, e.no, e.dst, e.kind, e.data]
theorem Ev.key_inj {a b : Ev} (h : a.key = b.key) : a = b := by
  cases a; cases b
  simp [Ev.key] at h
  simp [h]

/-- Which of two lists of numbers is ahead. -/
def lexC : List Int → List Int → Int
  | x :: xs, y :: ys => if x < y then -1 else if y < x then 1 else lexC xs ys
  | _, _ => 0
theorem lexC_range : ∀ a b : List Int, lexC a b = -1 ∨ lexC a b = 0 ∨ lexC a b = 1
  | [], _ => .inr (.inl (by simp [lexC]))
  | _ :: _, [] => .inr (.inl (by simp [lexC]))
  | x :: xs, y :: ys => by
    unfold lexC
    split
    · exact .inl rfl
    · split
      · exact .inr (.inr rfl)
      · exact lexC_range xs ys
theorem lexC_swap : ∀ a b : List Int, lexC b a = -lexC a b
  | [], [] => rfl
  | [], _ :: _ => rfl
  | _ :: _, [] => rfl
  | x :: xs, y :: ys => by
    unfold lexC
    by_cases h1 : x < y
    · have h2 : ¬ y < x := by omega
      simp [h1, h2]
    · by_cases h2 : y < x
      · simp [h1, h2]
      · simp [h1, h2]
        exact lexC_swap xs ys
theorem lexC_zero : ∀ a b : List Int, a.length = b.length → lexC a b = 0 → a = b
  | [], [], _, _ => rfl
  | x :: xs, y :: ys, hl, h => by
    unfold lexC at h
    by_cases h1 : x < y
    · simp [h1] at h
    · by_cases h2 : y < x
      · simp [h1, h2] at h
      · simp [h1, h2] at h
        have : x = y := by omega
        subst this
        rw [lexC_zero xs ys (by simpa using hl) h]
theorem lexC_self : ∀ a : List Int, lexC a a = 0
  | [] => rfl
  | x :: xs => by unfold lexC; simp [lexC_self xs]
theorem lexC_trans : ∀ a b c : List Int, a.length = b.length → b.length = c.length → lexC a b ≤ 0 → lexC b c ≤ 0 → lexC a c ≤ 0
  | [], [], [], _, _, _, _ => by simp [lexC]
  | x :: xs, y :: ys, z :: zs, h1, h2, k1, k2 => by
    unfold lexC at k1 k2 ⊢
    by_cases a1 : x < z
    · simp [a1]
    · by_cases b1 : x < y
      · have b2 : ¬ y < z := by omega
        have b3 : z < y := by omega
        simp [b2, b3] at k2
      · by_cases b2 : y < x
        · simp [b1, b2] at k1
        · have e : x = y := by omega
          subst e
          by_cases c2 : z < x
          · simp [a1, c2] at k2
          · simp [a1, c2] at k1 k2 ⊢
            exact lexC_trans xs ys zs (by simpa using h1) (by simpa using h2) k1 k2

/-- The greatest of some. -/
def Ev.vkey (e : Ev) : List Int := e.sent :: e.key
theorem vkey_inj {a b : Ev} (h : a.vkey = b.vkey) : a = b := Ev.key_inj (List.cons.inj h).2
def better (m e : Ev) : Ev := if 0 < lexC e.vkey m.vkey then e else m
def maxBy (m : Ev) (l : List Ev) : Ev := l.foldl better m
theorem better_ge (m e : Ev) : lexC m.vkey (better m e).vkey ≤ 0 ∧ lexC e.vkey (better m e).vkey ≤ 0 ∧ (better m e = m ∨ better m e = e) := by
  unfold better
  split
  · rename_i h
    have := lexC_swap e.vkey m.vkey
    exact ⟨by omega, by rw [lexC_self]; omega, .inr rfl⟩
  · rename_i h
    exact ⟨by rw [lexC_self]; omega, by omega, .inl rfl⟩
theorem vk_len (a b : Ev) : a.vkey.length = b.vkey.length := rfl
theorem maxBy_spec : ∀ (l : List Ev) (m : Ev), (∀ x ∈ m :: l, lexC x.vkey (maxBy m l).vkey ≤ 0) ∧ maxBy m l ∈ m :: l
  | [], m => ⟨fun x hx => by simp at hx; subst hx; show lexC x.vkey x.vkey ≤ 0; rw [lexC_self]; omega, by simp [maxBy]⟩
  | e :: l, m => by
    obtain ⟨h1, h2⟩ := maxBy_spec l (better m e)
    obtain ⟨b1, b2, b3⟩ := better_ge m e
    have hb := h1 (better m e) (by simp)
    refine ⟨fun x hx => ?_, ?_⟩
    · simp only [List.mem_cons] at hx
      rcases hx with rfl | rfl | hx
      · exact lexC_trans _ _ _ (vk_len _ _) (vk_len _ _) b1 hb
      · exact lexC_trans _ _ _ (vk_len _ _) (vk_len _ _) b2 hb
      · exact h1 x (by simp [hx])
    · have h2' : maxBy m (e :: l) ∈ better m e :: l := h2
      simp only [List.mem_cons] at h2' ⊢
      rcases h2' with h | h
      · rcases b3 with b | b
        · left; rw [h]; exact b
        · right; left; rw [h]; exact b
      · right; right; exact h
theorem maxBy_unique {l k : List Ev} {a b : Ev} (hl : ∀ x, x ∈ a :: l ↔ x ∈ b :: k) : maxBy a l = maxBy b k := by
  obtain ⟨h1, h2⟩ := maxBy_spec l a
  obtain ⟨k1, k2⟩ := maxBy_spec k b
  have p1 := h1 _ ((hl _).2 k2)
  have p2 := k1 _ ((hl _).1 h2)
  have p3 := lexC_swap (maxBy a l).vkey (maxBy b k).vkey
  exact vkey_inj (lexC_zero _ _ (vk_len _ _) (by omega))
/-- What the greatest of a list is; none: there is none. -/
def maxOf : List Ev → Option Ev
  | [] => none
  | m :: l => some (maxBy m l)
theorem maxOf_perm {l k : List Ev} (h : ∀ x, x ∈ l ↔ x ∈ k) : maxOf l = maxOf k := by
  cases l with
  | nil =>
    cases k with
    | nil => rfl
    | cons b k => exact absurd ((h b).2 (by simp)) (by simp)
  | cons a l =>
    cases k with
    | nil => exact absurd ((h a).1 (by simp)) (by simp)
    | cons b k => show some (maxBy a l) = some (maxBy b k); rw [maxBy_unique h]
def goodEv (from_ : Int) (e : Ev) : Bool := decide (0 ≤ e.src) && decide (from_ ≤ e.sent)
def victim (from_ : Int) (l : List Ev) : Option Ev := maxOf (l.filter (goodEv from_))
theorem victim_reverse (from_ : Int) (l : List Ev) : victim from_ l.reverse = victim from_ l := maxOf_perm (fun x => by simp [List.mem_filter])
end Go.Proofs.Ytmdpbbnieehmnaa
