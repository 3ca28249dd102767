/- inq: a queue in memory; put and take on one of its rows. -/
import Derived.Test.YtmdpbbnieehmnaaInqG
namespace Go.Proofs.Ytmdpbbnieehmnaa
open Go.RowKit
set_option linter.unusedSimpArgs false
set_option linter.unusedVariables false

theorem gE_ins {l : List Ev} {i : Nat} (hi : i ≤ l.length) (e : Ev) (t : Nat) : gE (insAt l i e) t = if t < i then gE l t else if t = i then e else gE l (t - 1) := by
  have lt : (l.take i).length = i := by rw [List.length_take]; omega
  unfold insAt
  split
  · rw [gE_app_l (by omega), gE_take (by assumption)]
  · rw [gE_app_r (by omega), lt]
    split
    · rename_i h1 h2
      rw [h2, Nat.sub_self]; rfl
    · obtain ⟨d, hd⟩ : ∃ d, t - i = d + 1 := ⟨t - i - 1, by omega⟩
      rw [hd]
      show gE (l.drop i) d = _
      rw [gE_drop]
      congr 1
      omega
theorem segE_ins {l : List Ev} {e : Ev} {i : Nat} (h : SegE l) (ha : At l e i) : SegE (insAt l i e) := by
  intro s t hst ht
  rw [insAt_len ha.1] at ht
  rw [gE_ins ha.1, gE_ins ha.1]
  by_cases h1 : s < i
  · rw [if_pos h1]
    by_cases h2 : t < i
    · rw [if_pos h2]; exact h s t hst (by have := ha.1; omega)
    · rw [if_neg h2]
      by_cases h3 : t = i
      · rw [if_pos h3]; exact Int.le_of_lt (ha.2.1 s h1)
      · rw [if_neg h3]; exact h.le (by omega) (by omega)
  · rw [if_neg h1, if_neg (show ¬ t < i by omega), if_neg (show ¬ t = i by omega)]
    by_cases h3 : s = i
    · rw [if_pos h3]
      have := ha.2.2 (t - 1) (by omega) (by omega)
      rw [eC_swap]
      omega
    · rw [if_neg h3]; exact h.le (by omega) (by omega)
theorem gE_erase (l : List Ev) (i t : Nat) : gE (l.eraseIdx i) t = if t < i then gE l t else gE l (t + 1) := by
  unfold gE
  rw [List.getD_eq_getElem?_getD, List.getElem?_eraseIdx]
  split
  · rw [List.getD_eq_getElem?_getD]
  · rw [List.getD_eq_getElem?_getD]
theorem segE_erase {l : List Ev} (h : SegE l) {i : Nat} (hi : i < l.length) : SegE (l.eraseIdx i) := by
  intro s t hst ht
  rw [List.length_eraseIdx, if_pos hi] at ht
  rw [gE_erase, gE_erase]
  repeat' split
  all_goals exact h.le (by omega) (by omega)

def off (b : Bool) : Nat := if b then 1 else 0
def upd {α : Type} (f : Bool → α) (b : Bool) (v : α) : Bool → α := fun x => if x = b then v else f x
theorem upd_same {α : Type} (f : Bool → α) (b : Bool) (v : α) : upd f b v b = v := if_pos rfl
theorem upd_not {α : Type} (f : Bool → α) (b : Bool) (v : α) : upd f b v (!b) = f (!b) := if_neg (by cases b <;> simp)
/-- A queue: its events (false), and what was taken back ahead of time (true). -/
structure QAt (W : World) (q : Nat) (S : Bool → List Ev) (A : Bool → Option Addr) (c : Bool → Nat) : Prop where
  blk : Blk W q #[.slice (A false) (S false).length (c false), .slice (A true) (S true).length (c true)] 108
  own : ∀ b, W.ownsRow 0 31 7 (.slice (A b) (S b).length (c b)) (S b).length ((S b).flatMap Ev.cells)
  ne : ∀ b ad, A b = some ad → ad.block ≠ q
  ap : ∀ b ad ad', A b = some ad → A (!b) = some ad' → ad.block ≠ ad'.block
  seg : ∀ b, SegE (S b)
def qBlk (q : Nat) (A : Bool → Option Addr) : Nat → Prop := fun i => i = q ∨ ∃ b ad, A b = some ad ∧ i = ad.block
def qNew (w : World) (A A' : Bool → Option Addr) : Prop := ∀ b ad, A' b = some ad → (∃ b' ad', A b' = some ad' ∧ ad.block = ad'.block) ∨ w.heap.size ≤ ad.block
theorem QAt.cell {W : World} {q : Nat} {S : Bool → List Ev} {A : Bool → Option Addr} {c : Bool → Nat} (h : QAt W q S A c) (b : Bool) : W.cell? ⟨q, off b, none⟩ = some (.slice (A b) (S b).length (c b)) := by
  cases b
  · exact h.blk.cell 0
  · exact h.blk.cell 1
theorem QAt.lt {W : World} {q : Nat} {S : Bool → List Ev} {A : Bool → Option Addr} {c : Bool → Nat} (h : QAt W q S A c) : q < W.heap.size := h.blk.lt
theorem QAt.chg {W W' : World} {q : Nat} {S : Bool → List Ev} {A : Bool → Option Addr} {c : Bool → Nat} (h : QAt W q S A c) {P : Nat → Prop} (hc : Chg P W W') (hq : ¬ P q) (hA : ∀ b ad, A b = some ad → ¬ P ad.block) : QAt W' q S A c :=
  ⟨h.blk.chg hc hq, fun b => own_chg_opt (h.own b) hc (hA b), h.ne, h.ap, h.seg⟩
theorem QAt.non {W W' : World} {q : Nat} {S : Bool → List Ev} {A : Bool → Option Addr} {c : Bool → Nat} (h : QAt W q S A c) (hc : Chg Non W W') : QAt W' q S A c := h.chg hc id (fun _ _ _ => id)
theorem QAt.turn {w w3 : World} {q : Nat} {S : Bool → List Ev} {A : Bool → Option Addr} {c : Bool → Nat} (h : QAt w q S A c) (b : Bool) {A' : Option Addr} {cap' : Nat} {l' : List Ev}
    (hown : w3.ownsRow 0 31 7 (.slice A' l'.length cap') l'.length (l'.flatMap Ev.cells)) (hch : Chg (fun k => ∃ ad, A b = some ad ∧ k = ad.block) w w3) (hA' : ∀ ad, A' = some ad → (∃ ad', A b = some ad' ∧ ad.block = ad'.block) ∨ w.heap.size ≤ ad.block) (hs : SegE l') :
    QAt (w3.setCell ⟨q, off b, none⟩ (.slice A' l'.length cap')) q (upd S b l') (upd A b A') (upd c b cap') ∧ Chg (qBlk q A) w (w3.setCell ⟨q, off b, none⟩ (.slice A' l'.length cap')) ∧ qNew w A (upd A b A') := by
  have hq : ¬ ∃ ad, A b = some ad ∧ q = ad.block := fun ⟨ad, e, h'⟩ => h.ne b ad e h'.symm
  have hb3 := h.blk.chg hch hq
  have hne' : ∀ ad, A' = some ad → ad.block ≠ q := fun ad e => by
    rcases hA' ad e with ⟨ad', e', h'⟩ | h'
    · rw [h']; exact h.ne b ad' e'
    · have := h.lt; omega
  have hoth := own_far_opt (own_chg_opt (h.own (!b)) hch (fun ad e => fun ⟨ad', e', h'⟩ => h.ap b ad' ad e' e h'.symm)) (p := ⟨q, off b, none⟩) (h.ne (!b)) (.slice A' l'.length cap')
  have hmine := own_far_opt hown (p := ⟨q, off b, none⟩) hne' (.slice A' l'.length cap')
  refine ⟨⟨?_, fun x => ?_, fun x ad e => ?_, fun x ad ad' e e' => ?_, fun x => ?_⟩, ?_, fun x ad e => ?_⟩
  · have := hb3.set (off b) (.slice A' l'.length cap')
    cases b
    · simpa [off, upd] using this
    · simpa [off, upd] using this
  · by_cases hx : x = b
    · subst hx; rw [upd_same, upd_same, upd_same]; exact hmine
    · obtain rfl : x = !b := by cases x <;> cases b <;> simp_all
      rw [upd_not, upd_not, upd_not]; exact hoth
  · by_cases hx : x = b
    · subst hx; rw [upd_same] at e; exact hne' ad e
    · obtain rfl : x = !b := by cases x <;> cases b <;> simp_all
      rw [upd_not] at e; exact h.ne _ ad e
  · have key : ∀ a a', A' = some a → A (!b) = some a' → a.block ≠ a'.block := fun a a' h1 h2 => by
      rcases hA' a h1 with ⟨ad', e', h'⟩ | h'
      · rw [h']; exact h.ap b ad' a' e' h2
      · have := own_lt (h.own (!b)) a' h2
        omega
    by_cases hx : x = b
    · subst hx; rw [upd_same] at e; rw [upd_not] at e'; exact key ad ad' e e'
    · obtain rfl : x = !b := by cases x <;> cases b <;> simp_all
      rw [upd_not] at e
      rw [Bool.not_not, upd_same] at e'
      exact (key ad' ad e' e).symm
  · by_cases hx : x = b
    · subst hx; rw [upd_same]; exact hs
    · obtain rfl : x = !b := by cases x <;> cases b <;> simp_all
      rw [upd_not]; exact h.seg _
  · exact (hch.mono (fun i _ hi => by obtain ⟨ad, e, rfl⟩ := hi; exact .inr ⟨b, ad, e, rfl⟩) : Chg (qBlk q A) w w3).setCell (.inl (.inl rfl)) _
  · by_cases hx : x = b
    · subst hx; rw [upd_same] at e
      rcases hA' ad e with ⟨ad', e', h'⟩ | h'
      · exact .inl ⟨x, ad', e', h'⟩
      · exact .inr h'
    · obtain rfl : x = !b := by cases x <;> cases b <;> simp_all
      rw [upd_not] at e; exact .inl ⟨_, ad, e, rfl⟩
theorem qput_any (b : Bool) (q : Nat) (S : Bool → List Ev) (A : Bool → Option Addr) (c : Bool → Nat) (e : Ev) (w : World) (h : QAt w q S A c) (hn : (S b).length ≤ 900000) :
    Calls Try.prog 60 #[.pointer (some ⟨q, off b, none⟩), e.val] w fun en w' => en = .returned (.tuple #[]) ∧ ∃ A' c' i, At (S b) e i ∧ QAt w' q (upd S b (insAt (S b) i e)) A' c' ∧ Chg (qBlk q A) w w' ∧ qNew w A A' := by
  refine (rowPut_any q (off b) (A b) (c b) (S b) e w (h.own b) (h.cell b) (h.blk.frozen _) (h.ne b) (h.seg b) hn).mono ?_
  rintro en w' ⟨rfl, w3, A', cap', i, rfl, ho, ha, hc, hA⟩
  obtain ⟨r1, r2, r3⟩ := h.turn b ho hc hA (segE_ins (h.seg b) ha)
  exact ⟨rfl, _, _, i, ha, r1, r2, r3⟩
theorem qtake_any (b : Bool) (q : Nat) (S : Bool → List Ev) (A : Bool → Option Addr) (c : Bool → Nat) (e : Ev) (w : World) (h : QAt w q S A c) (hn : (S b).length ≤ 900000) :
    Calls Try.prog 59 #[.pointer (some ⟨q, off b, none⟩), e.val] w fun en w' => ∃ i, At (S b) e i ∧ en = .returned (.bool (isAt (S b) e i)) ∧ ∃ A' c', QAt w' q (if isAt (S b) e i then upd S b ((S b).eraseIdx i) else S) A' c' ∧ Chg (qBlk q A) w w' ∧ qNew w A A' := by
  refine (rowTake_any q (off b) (A b) (c b) (S b) e w (h.own b) (h.cell b) (h.blk.frozen _) (h.ne b) (h.seg b) hn).mono ?_
  rintro en w' ⟨i, ha, rfl, h1, h2⟩
  refine ⟨i, ha, rfl, ?_⟩
  cases hb : isAt (S b) e i
  · have hc := h2 hb
    exact ⟨A, c, by simpa using h.non hc, hc.mono (fun _ _ x => x.elim), fun b ad e => .inl ⟨b, ad, e, rfl⟩⟩
  · obtain ⟨w3, rfl, ho, hc⟩ := h1 hb
    have hil : i < (S b).length := by unfold isAt at hb; simp at hb; exact hb.1
    have hl : ((S b).eraseIdx i).length = (S b).length - 1 := by rw [List.length_eraseIdx, if_pos hil]
    rw [← hl] at ho ⊢
    obtain ⟨r1, r2, r3⟩ := h.turn b ho hc (fun ad e => .inl ⟨ad, e, rfl⟩) (segE_erase (h.seg b) hil)
    exact ⟨_, _, by simpa using r1, r2, r3⟩
end Go.Proofs.Ytmdpbbnieehmnaa
