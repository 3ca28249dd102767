/- sorting, plain: what a stretch of a row turned in itself is. -/
import Derived.Test.YtmdpbbnieehmnaaVicN
namespace Go.Proofs.Ytmdpbbnieehmnaa
open Go.RowKit
set_option linter.unusedSimpArgs false
set_option linter.unusedVariables false

def cmpK (x y : Ev) : Int := lexC x.k4 y.k4
theorem cmpK_swap (x y : Ev) : cmpK y x = -cmpK x y := lexC_swap _ _
theorem cmpK_self (x : Ev) : cmpK x x = 0 := lexC_self _
theorem cmpK_trans {x y z : Ev} (h : cmpK x y ≤ 0) (k : cmpK y z ≤ 0) : cmpK x z ≤ 0 := lexC_trans x.k4 y.k4 z.k4 rfl rfl h k
theorem cmpK_ne {x y : Ev} (h : cmpK x y < 0) : x.k4 ≠ y.k4 := by
  intro e
  unfold cmpK at h
  rw [e, lexC_self] at h
  omega
theorem cmpK_lt_le {x y z : Ev} (h : cmpK x y < 0) (k : cmpK y z ≤ 0) : cmpK x z < 0 := by
  have h1 := cmpK_trans (Int.le_of_lt h) k
  by_cases h2 : cmpK x z = 0
  · have h3 : cmpK z x ≤ 0 := by rw [cmpK_swap, h2]; decide
    have h4 := cmpK_trans k h3
    have := cmpK_swap y x
    omega
  · omega
theorem cmpK_le_lt {x y z : Ev} (h : cmpK x y ≤ 0) (k : cmpK y z < 0) : cmpK x z < 0 := by
  have h1 := cmpK_trans h (Int.le_of_lt k)
  by_cases h2 : cmpK x z = 0
  · have h3 : cmpK z x ≤ 0 := by rw [cmpK_swap, h2]; decide
    have h4 := cmpK_trans h3 h
    have := cmpK_swap y z
    omega
  · omega

def gE (R : List Ev) (i : Nat) : Ev := R.getD i Ev.zero
theorem gE_some {R : List Ev} {i : Nat} (h : i < R.length) : R[i]? = some (gE R i) := by
  unfold gE
  rw [List.getD_eq_getElem?_getD, List.getElem?_eq_getElem h]
  rfl
theorem gE_app_l {P Q : List Ev} {i : Nat} (h : i < P.length) : gE (P ++ Q) i = gE P i := by
  unfold gE
  rw [List.getD_eq_getElem?_getD, List.getD_eq_getElem?_getD, List.getElem?_append_left h]
theorem gE_app_r {P Q : List Ev} {i : Nat} (h : P.length ≤ i) : gE (P ++ Q) i = gE Q (i - P.length) := by
  unfold gE
  rw [List.getD_eq_getElem?_getD, List.getD_eq_getElem?_getD, List.getElem?_append_right h]
theorem gE_mem {R : List Ev} {i : Nat} (h : i < R.length) : gE R i ∈ R := List.mem_of_getElem? (gE_some h)
theorem gE_take {R : List Ev} {i n : Nat} (h : i < n) : gE (R.take n) i = gE R i := by
  unfold gE
  rw [List.getD_eq_getElem?_getD, List.getD_eq_getElem?_getD, List.getElem?_take, if_pos h]
theorem gE_drop (R : List Ev) (i n : Nat) : gE (R.drop n) i = gE R (n + i) := by
  unfold gE
  rw [List.getD_eq_getElem?_getD, List.getD_eq_getElem?_getD, List.getElem?_drop]

def swp (R : List Ev) (i j : Nat) : List Ev := (R.set i (gE R j)).set j (gE R i)
theorem swp_len (R : List Ev) (i j : Nat) : (swp R i j).length = R.length := by simp [swp]
theorem gE_swp {R : List Ev} {i j : Nat} (hi : i < R.length) (hj : j < R.length) (t : Nat) : gE (swp R i j) t = if t = j then gE R i else if t = i then gE R j else gE R t := by
  unfold swp
  show ((R.set i (gE R j)).set j (gE R i)).getD t Ev.zero = _
  rw [List.getD_eq_getElem?_getD, List.getElem?_set, List.getElem?_set]
  by_cases h1 : j = t
  · subst h1; simp [hj]
  · rw [if_neg h1, if_neg (Ne.symm h1)]
    by_cases h2 : i = t
    · subst h2; simp [hi]
    · rw [if_neg h2, if_neg (Ne.symm h2)]; rfl

structure Turn (a b : Nat) (R R' : List Ev) : Prop where
  len : R'.length = R.length
  out : ∀ t, t < a ∨ b ≤ t → gE R' t = gE R t
  inn : ∀ t, a ≤ t → t < b → ∃ k, a ≤ k ∧ k < b ∧ gE R' t = gE R k
  same : ∀ k, R'.filter (fun e => e.k4 == k) = R.filter (fun e => e.k4 == k)
theorem Turn.refl (a b : Nat) (R : List Ev) : Turn a b R R := ⟨rfl, fun _ _ => rfl, fun t h k => ⟨t, h, k, rfl⟩, fun _ => rfl⟩
theorem Turn.trans {a b : Nat} {R R1 R2 : List Ev} (h : Turn a b R R1) (k : Turn a b R1 R2) : Turn a b R R2 :=
  ⟨k.len.trans h.len, fun t ht => (k.out t ht).trans (h.out t ht), fun t h1 h2 => by
    obtain ⟨u, u1, u2, u3⟩ := k.inn t h1 h2
    obtain ⟨v, v1, v2, v3⟩ := h.inn u u1 u2
    exact ⟨v, v1, v2, u3.trans v3⟩, fun c => (k.same c).trans (h.same c)⟩
theorem Turn.wide {a b a' b' : Nat} {R R' : List Ev} (h : Turn a b R R') (ha : a' ≤ a) (hb : b ≤ b') : Turn a' b' R R' :=
  ⟨h.len, fun t ht => h.out t (by omega), fun t h1 h2 => by
    by_cases hi : a ≤ t ∧ t < b
    · obtain ⟨k, k1, k2, k3⟩ := h.inn t hi.1 hi.2
      exact ⟨k, by omega, by omega, k3⟩
    · exact ⟨t, h1, h2, h.out t (by omega)⟩, h.same⟩
theorem swp_app (P Q : List Ev) (x y : Ev) : swp (P ++ (x :: y :: Q)) P.length (P.length + 1) = P ++ (y :: x :: Q) := by
  have h1 : gE (P ++ (x :: y :: Q)) P.length = x := by rw [gE_app_r (Nat.le_refl _), Nat.sub_self]; rfl
  have h2 : gE (P ++ (x :: y :: Q)) (P.length + 1) = y := by rw [gE_app_r (by omega), Nat.add_sub_cancel_left]; rfl
  unfold swp
  rw [h1, h2, List.set_append_right _ _ (Nat.le_refl _), Nat.sub_self, List.set_cons_zero, List.set_append_right _ _ (by omega), Nat.add_sub_cancel_left]
  rfl
theorem swp_comm (R : List Ev) (i j : Nat) : swp R i j = swp R j i := by
  unfold swp
  by_cases h : i = j
  · subst h; rfl
  · rw [List.set_comm _ _ h]
theorem two_split {R : List Ev} {i : Nat} (h : i + 1 < R.length) : R = R.take i ++ (gE R i :: gE R (i + 1) :: R.drop (i + 2)) := by
  have h1 : R.drop i = gE R i :: R.drop (i + 1) := by
    rw [List.drop_eq_getElem_cons (by omega)]
    congr 1
    have := gE_some (R := R) (i := i) (by omega)
    rw [List.getElem?_eq_getElem (by omega)] at this
    exact Option.some.inj this
  have h2 : R.drop (i + 1) = gE R (i + 1) :: R.drop (i + 2) := by
    rw [List.drop_eq_getElem_cons h]
    congr 1
    have := gE_some h
    rw [List.getElem?_eq_getElem h] at this
    exact Option.some.inj this
  rw [← h2, ← h1, List.take_append_drop]
theorem Turn.swap {a b : Nat} {R : List Ev} {i : Nat} (h : i + 1 < R.length) (ha : a ≤ i) (hb : i + 2 ≤ b) (hne : (gE R i).k4 ≠ (gE R (i + 1)).k4) : Turn a b R (swp R i (i + 1)) := by
  refine ⟨swp_len _ _ _, fun t ht => ?_, fun t h1 h2 => ?_, fun k => ?_⟩
  · rw [gE_swp (by omega) h, if_neg (by omega), if_neg (by omega)]
  · rw [gE_swp (by omega) h]
    split
    · exact ⟨i, by omega, by omega, rfl⟩
    · split
      · exact ⟨i + 1, by omega, by omega, rfl⟩
      · exact ⟨t, h1, h2, rfl⟩
  · have hs := two_split h
    have hl : (R.take i).length = i := by rw [List.length_take]; omega
    have h2 := swp_app (R.take i) (R.drop (i + 2)) (gE R i) (gE R (i + 1))
    rw [hl, ← hs] at h2
    rw [h2]
    conv => rhs; rw [hs]
    rw [List.filter_append, List.filter_append, List.filter_cons, List.filter_cons, List.filter_cons, List.filter_cons]
    by_cases e1 : (gE R i).k4 = k
    · have e2 : (gE R (i + 1)).k4 ≠ k := fun e => hne (e1.trans e.symm)
      simp [e1, e2]
    · simp [e1]
theorem Turn.swap' {a b : Nat} {R : List Ev} {i : Nat} (h : i + 1 < R.length) (ha : a ≤ i) (hb : i + 2 ≤ b) (hne : (gE R i).k4 ≠ (gE R (i + 1)).k4) : Turn a b R (swp R (i + 1) i) := by
  rw [swp_comm]
  exact Turn.swap h ha hb hne

def rot (R : List Ev) (s m e : Nat) : List Ev := R.take s ++ ((R.drop m).take (e - m) ++ ((R.drop s).take (m - s) ++ R.drop e))
theorem rot_len {R : List Ev} {s m e : Nat} (h1 : s ≤ m) (h2 : m ≤ e) (h3 : e ≤ R.length) : (rot R s m e).length = R.length := by
  simp [rot]
  omega
theorem rot_parts {R : List Ev} {s m e : Nat} (h1 : s ≤ m) (h2 : m ≤ e) : R = R.take s ++ ((R.drop s).take (m - s) ++ ((R.drop m).take (e - m) ++ R.drop e)) := by
  have e1 : R.drop m = (R.drop m).take (e - m) ++ R.drop e := by
    conv => lhs; rw [← List.take_append_drop (e - m) (R.drop m)]
    rw [List.drop_drop, Nat.add_sub_cancel' h2]
  have e2 : R.drop s = (R.drop s).take (m - s) ++ R.drop m := by
    conv => lhs; rw [← List.take_append_drop (m - s) (R.drop s)]
    rw [List.drop_drop, Nat.add_sub_cancel' h1]
  rw [← e1, ← e2, List.take_append_drop]
theorem rot_get {R : List Ev} {s m e : Nat} (h1 : s ≤ m) (h2 : m ≤ e) (h3 : e ≤ R.length) (t : Nat) :
    gE (rot R s m e) t = if t < s then gE R t else if t < s + (e - m) then gE R (t + (m - s)) else if t < e then gE R (t - (e - m)) else gE R t := by
  have l1 : (R.take s).length = s := by rw [List.length_take]; omega
  have l2 : ((R.drop m).take (e - m)).length = e - m := by rw [List.length_take, List.length_drop]; omega
  have l3 : ((R.drop s).take (m - s)).length = m - s := by rw [List.length_take, List.length_drop]; omega
  unfold rot
  split
  · rw [gE_app_l (by omega), gE_take (by assumption)]
  · rw [gE_app_r (by omega), l1]
    split
    · rw [gE_app_l (by omega), gE_take (by omega), gE_drop]
      congr 1
      omega
    · rw [gE_app_r (by omega), l2]
      split
      · rw [gE_app_l (by omega), gE_take (by omega), gE_drop]
        congr 1
        omega
      · rw [gE_app_r (by omega), l3, gE_drop]
        congr 1
        omega
theorem filter_none {k : List Int} {L : List Ev} (h : ∀ x ∈ L, x.k4 ≠ k) : L.filter (fun e => e.k4 == k) = [] := by
  rw [List.filter_eq_nil_iff]
  intro x hx
  simp [h x hx]
theorem Turn.rot {a b : Nat} {R : List Ev} {s m e : Nat} (h1 : s ≤ m) (h2 : m ≤ e) (h3 : e ≤ R.length) (ha : a ≤ s) (hb : e ≤ b) (hne : ∀ i j, s ≤ i → i < m → m ≤ j → j < e → (gE R i).k4 ≠ (gE R j).k4) : Turn a b R (rot R s m e) := by
  refine ⟨rot_len h1 h2 h3, fun t ht => ?_, fun t k1 k2 => ?_, fun k => ?_⟩
  · rw [rot_get h1 h2 h3]
    rcases ht with ht | ht
    · rw [if_pos (by omega)]
    · rw [if_neg (by omega), if_neg (by omega), if_neg (by omega)]
  · rw [rot_get h1 h2 h3]
    split
    · exact ⟨t, k1, k2, rfl⟩
    · split
      · exact ⟨_, by omega, by omega, rfl⟩
      · split
        · exact ⟨_, by omega, by omega, rfl⟩
        · exact ⟨t, k1, k2, rfl⟩
  · conv => rhs; rw [rot_parts (R := R) h1 h2]
    unfold Proofs.Ytmdpbbnieehmnaa.rot
    simp only [List.filter_append]
    have hor : ((R.drop s).take (m - s)).filter (fun e => e.k4 == k) = [] ∨ ((R.drop m).take (e - m)).filter (fun e => e.k4 == k) = [] := by
      by_cases hx : ∃ i, s ≤ i ∧ i < m ∧ (gE R i).k4 = k
      · obtain ⟨i, i1, i2, i3⟩ := hx
        refine .inr (filter_none fun x hx hkx => ?_)
        obtain ⟨j, hj, rfl⟩ := List.mem_iff_getElem.1 hx
        have hjl : j < e - m := by rw [List.length_take, List.length_drop] at hj; omega
        have : gE R (m + j) = ((R.drop m).take (e - m))[j] := by
          have := gE_some hj
          rw [List.getElem?_eq_getElem hj, gE_take hjl, gE_drop] at this
          exact (Option.some.inj this).symm
        exact hne i (m + j) i1 i2 (by omega) (by omega) (by rw [i3, this, hkx])
      · refine .inl (filter_none fun x hx' hkx => hx ?_)
        obtain ⟨j, hj, rfl⟩ := List.mem_iff_getElem.1 hx'
        have hjl : j < m - s := by rw [List.length_take, List.length_drop] at hj; omega
        have : gE R (s + j) = ((R.drop s).take (m - s))[j] := by
          have := gE_some hj
          rw [List.getElem?_eq_getElem hj, gE_take hjl, gE_drop] at this
          exact (Option.some.inj this).symm
        exact ⟨s + j, by omega, by omega, by rw [this, hkx]⟩
    rcases hor with h | h <;> rw [h] <;> simp
theorem rot_id {R : List Ev} {s m e : Nat} (h1 : s ≤ m) (h2 : m ≤ e) (h : s = m ∨ m = e) : rot R s m e = R := by
  have hp := rot_parts (R := R) h1 h2
  rcases h with rfl | rfl
  · unfold rot
    rw [Nat.sub_self, List.take_zero] at hp ⊢
    exact hp.symm
  · unfold rot
    rw [Nat.sub_self, List.take_zero] at hp ⊢
    exact hp.symm

def Seg (R : List Ev) (a b : Nat) : Prop := ∀ s t, a ≤ s → s < t → t < b → cmpK (gE R s) (gE R t) ≤ 0
def Cross (R : List Ev) (a m b : Nat) : Prop := ∀ s t, a ≤ s → s < m → m ≤ t → t < b → cmpK (gE R s) (gE R t) ≤ 0
theorem Seg.le {R : List Ev} {a b : Nat} (h : Seg R a b) {s t : Nat} (h1 : a ≤ s) (h2 : s ≤ t) (h3 : t < b) : cmpK (gE R s) (gE R t) ≤ 0 := by
  by_cases e : s = t
  · subst e; rw [cmpK_self]; omega
  · exact h s t h1 (by omega) h3
theorem Seg.join {R : List Ev} {a m b : Nat} (h1 : Seg R a m) (h2 : Seg R m b) (h3 : Cross R a m b) : Seg R a b := by
  intro s t k1 k2 k3
  by_cases c1 : t < m
  · exact h1 s t k1 k2 c1
  · by_cases c2 : m ≤ s
    · exact h2 s t c2 k2 k3
    · exact h3 s t k1 (by omega) (by omega) k3
theorem Seg.far {R R' : List Ev} {a b c d : Nat} (h : Seg R c d) (hT : Turn a b R R') (hd : d ≤ a ∨ b ≤ c) : Seg R' c d := by
  intro s t k1 k2 k3
  rw [hT.out s (by omega), hT.out t (by omega)]
  exact h s t k1 k2 k3
theorem Cross.left {R R' : List Ev} {a m b : Nat} (h : Cross R a m b) (hT : Turn a m R R') : Cross R' a m b := by
  intro s t k1 k2 k3 k4
  obtain ⟨u, u1, u2, u3⟩ := hT.inn s k1 k2
  rw [u3, hT.out t (by omega)]
  exact h u t u1 u2 k3 k4
theorem Cross.right {R R' : List Ev} {a m b : Nat} (h : Cross R a m b) (hT : Turn m b R R') : Cross R' a m b := by
  intro s t k1 k2 k3 k4
  obtain ⟨u, u1, u2, u3⟩ := hT.inn t k3 k4
  rw [u3, hT.out s (by omega)]
  exact h s u k1 k2 u1 u2
/-- What a turn about the middle of two stretches gives. -/
theorem sym_core {R : List Ev} {a m b s e mid : Nat} (hb : b ≤ R.length) (hA : Seg R a m) (hB : Seg R m b) (hn : s + e = mid + m) (h1 : a ≤ s) (h2 : s ≤ mid) (h3 : s ≤ m) (h4 : m ≤ e) (h5 : mid ≤ e) (h6 : e ≤ b)
    (F1 : s = a ∨ e = b ∨ ¬ cmpK (gE R e) (gE R (s - 1)) < 0) (F2 : s = m ∨ e = m ∨ cmpK (gE R (e - 1)) (gE R s) < 0) :
    Turn a b R (rot R s m e) ∧ Seg (rot R s m e) a s ∧ Seg (rot R s m e) s mid ∧ Seg (rot R s m e) mid e ∧ Seg (rot R s m e) e b ∧ Cross (rot R s m e) a mid b := by
  have hg := rot_get (R := R) h3 h4 (by omega)
  have hlt : ∀ i j, s ≤ i → i < m → m ≤ j → j < e → cmpK (gE R j) (gE R i) < 0 := by
    intro i j i1 i2 j1 j2
    rcases F2 with F | F | F
    · omega
    · omega
    · exact cmpK_lt_le (cmpK_le_lt (hB.le j1 (by omega) (by omega)) F) (hA.le h1 i1 i2)
  refine ⟨Turn.rot h3 h4 (by omega) h1 h6 (fun i j i1 i2 j1 j2 => Ne.symm (cmpK_ne (hlt i j i1 i2 j1 j2))), ?_, ?_, ?_, ?_, ?_⟩
  · intro x y k1 k2 k3
    rw [hg, hg, if_pos (by omega), if_pos (by omega)]
    exact hA.le k1 (by omega) (by omega)
  · intro x y k1 k2 k3
    rw [hg, hg, if_neg (by omega), if_pos (by omega), if_neg (by omega), if_pos (by omega)]
    exact hB.le (by omega) (by omega) (by omega)
  · intro x y k1 k2 k3
    rw [hg, hg, if_neg (by omega), if_neg (by omega), if_pos (by omega), if_neg (by omega), if_neg (by omega), if_pos (by omega)]
    exact hA.le (by omega) (by omega) (by omega)
  · intro x y k1 k2 k3
    rw [hg, hg, if_neg (by omega), if_neg (by omega), if_neg (by omega), if_neg (by omega), if_neg (by omega), if_neg (by omega)]
    exact hB.le (by omega) (by omega) (by omega)
  · intro x y k1 k2 k3 k4
    rw [hg, hg]
    by_cases c1 : x < s
    · rw [if_pos c1]
      by_cases c2 : y < e
      · rw [if_neg (by omega), if_neg (by omega), if_pos c2]
        exact hA.le k1 (by omega) (by omega)
      · rw [if_neg (by omega), if_neg (by omega), if_neg c2]
        rcases F1 with F | F | F
        · omega
        · omega
        · have := cmpK_swap (gE R e) (gE R (s - 1))
          exact cmpK_trans (hA.le k1 (show x ≤ s - 1 by omega) (by omega)) (cmpK_trans (by omega) (hB.le h4 (by omega) k4))
    · rw [if_neg c1, if_pos (by omega)]
      by_cases c2 : y < e
      · rw [if_neg (by omega), if_neg (by omega), if_pos c2]
        exact Int.le_of_lt (hlt _ _ (by omega) (by omega) (by omega) (by omega))
      · rw [if_neg (by omega), if_neg (by omega), if_neg c2]
        exact hB.le (by omega) (by omega) k4
end Go.Proofs.Ytmdpbbnieehmnaa
