/- mail: IndexFunc by a number (Take). -/
import Derived.Test.YtggbgfdgpkbmhaaMasA
namespace Go.Proofs.Ytggbgfdgpkbmhaa.S
open Go.RowKit
set_option linter.unusedSimpArgs false
set_option linter.unusedVariables false

/-- Where the first packet of a number is. -/
def idxOf (no : Int) (l : List Pk) : Nat := (l.takeWhile fun p => !(p.no == no)).length
def idxR (no : Int) (l : List Pk) (n : Nat) : Int := if idxOf no l < n then (idxOf no l : Int) else -1
theorem idx_le (no : Int) (l : List Pk) : idxOf no l ≤ l.length := (List.takeWhile_prefix _).length_le
theorem idx_lt (no : Int) : ∀ (l : List Pk) (k : Nat) p, l[k]? = some p → k < idxOf no l → (p.no == no) = false := by
  intro l
  induction l with
  | nil => intro k p h; simp at h
  | cons y l ih =>
    intro k p h hk
    unfold idxOf at ih hk
    cases hy : (y.no == no)
    · simp only [List.takeWhile_cons, hy, Bool.not_false, if_true, List.length_cons] at hk
      cases k with
      | zero => simp at h; subst h; exact hy
      | succ k => exact ih k p (by simpa using h) (by omega)
    · simp [List.takeWhile_cons, hy] at hk
theorem idx_stop (no : Int) : ∀ (l : List Pk) p, l[idxOf no l]? = some p → (p.no == no) = true := by
  intro l
  induction l with
  | nil => intro p h; simp [idxOf] at h
  | cons y l ih =>
    intro p h
    unfold idxOf at ih h
    cases hy : (y.no == no)
    · simp only [List.takeWhile_cons, hy, Bool.not_false, if_true, List.length_cons, List.getElem?_cons_succ] at h
      exact ih p h
    · simp [List.takeWhile_cons, hy] at h
      subst h; exact hy
theorem idx_at (no : Int) (l : List Pk) {k : Nat} {p : Pk} (hp : l[k]? = some p) (hk : k ≤ idxOf no l) : (p.no == no) = decide (k = idxOf no l) := by
  by_cases e : k = idxOf no l
  · subst e
    rw [idx_stop no l p hp]; simp
  · rw [idx_lt no l k p hp (by omega)]; simp [e]

theorem NetAt.read {w : World} {b : Nat} {boxes next : Int} {A : Option Addr} {cap : Nat} {l : List Pk} (h : NetAt w b boxes next A cap l) : SlRead Pk.cells 4 w A l.length cap l := by
  have h0 := h.own
  obtain ⟨h1, h2⟩ := h0
  rcases h2 with ⟨hv, _⟩ | ⟨g', cap', cur, hv, _, hh, hle, hm, hs, ht⟩
  · injection hv with e1 hl e3
    subst e1 e3
    have : l = [] := List.eq_nil_of_length_eq_zero hl
    subst this
    exact ⟨rfl, Nat.le_refl _, by simp [maxLen], fun _ => rfl, by simp⟩
  · cases hv
    exact own_read Pk.len h.own (by decide)
theorem pk_at {w : World} {A : Option Addr} {n c : Nat} {xs : List Pk} (h : SlRead Pk.cells 4 w A n c xs) {k : Nat} {p : Pk} (hp : xs[k]? = some p) : ∃ ad, A = some ad ∧ w.cell? (ad.add (k * 4)) = some (.int .i64 p.no) ∧ w.cell? ⟨(ad.add (k * 4)).block, (ad.add (k * 4)).off + 1, none⟩ = some (.int .i64 p.src) ∧ w.cell? ⟨(ad.add (k * 4)).block, (ad.add (k * 4)).off + 2, none⟩ = some (.int .i64 p.dst) ∧ w.cell? ⟨(ad.add (k * 4)).block, (ad.add (k * 4)).off + 3, none⟩ = some (.string p.x) := by
  obtain ⟨ad, e, hc⟩ := h.cell k p hp
  refine ⟨ad, e, by simpa using hc 0 (.int .i64 p.no) rfl, ?_, ?_, ?_⟩
  · rw [← add_field _ _ 1 (by omega)]; exact hc 1 (.int .i64 p.src) rfl
  · rw [← add_field _ _ 2 (by omega)]; exact hc 2 (.int .i64 p.dst) rfl
  · rw [← add_field _ _ 3 (by omega)]; exact hc 3 (.string p.x) rfl

/-- The closure of Take: is a packet of this number? -/
theorem takeF_any (q : Nat) (no : Int) (p : Pk) (w : World) (h : w.cell? ⟨q, 0, none⟩ = some (.int .i64 no)) :
    Calls Try.prog 81 #[.agg #[.int .i64 p.no, .int .i64 p.src, .int .i64 p.dst, .string p.x], .pointer (some ⟨q, 0, none⟩)] w fun e w' => e = .returned (.bool (p.no == no)) ∧ Chg Non w w' := by
  have hb : Blk (w.alloc (.cells #[.int .i64 p.no, .int .i64 p.src, .int .i64 p.dst, .string p.x] 106)) w.heap.size #[.int .i64 p.no, .int .i64 p.src, .int .i64 p.dst, .string p.x] 106 := Blk.new_at rfl
  have c0 := hb.cell 0
  have c1 := cell_alloc h (.cells #[.int .i64 p.no, .int .i64 p.src, .int .i64 p.dst, .string p.x] 106)
  go_enter Try.func81, Try.ntmps81
  go_wp2
  go_ret
  exact ⟨rfl, (Chg.refl Non w).alloc _⟩

set_option maxRecDepth 100000 in
theorem idxI_any (q : Nat) (no : Int) (w : World) (A : Option Addr) (n c : Nat) (l : List Pk) (hl : SlRead Pk.cells 4 w A n c l) (hq : w.cell? ⟨q, 0, none⟩ = some (.int .i64 no)) (hn : n ≤ 1000000) :
    Calls Try.prog 80 #[.slice A n c, .func (.func 81) #[] #[.pointer (some ⟨q, 0, none⟩)]] w fun e w' => e = .returned (.int .i64 (idxR no l n)) ∧ Chg Non w w' := by
  have hlen := hl.len
  have hle := idx_le no l
  have HL := Lib.hid hl
  clear hl
  go_enter Try.func80, Try.ntmps80
  go_wp2
  go_loopw [8] (fun i wr => ∃ k : Nat, k ≤ idxOf no l ∧ k ≤ n ∧ i = .int .i64 k ∧ Chg Non w wr) (fun i _ => n - (intOf i).toNat)
  case atStart => exact ⟨0, by omega, by omega, rfl, Chg.refl _ _⟩
  case round =>
    obtain ⟨k, hk, hkn, rfl, hch⟩ := hrel
    by_cases hlt : k < n
    · have hp : l[k]? = some (l[k]'(by omega)) := List.getElem?_eq_getElem (by omega)
      generalize l[k]'(by omega) = p at hp
      have hd := idx_at no l hp hk
      obtain ⟨ad, rfl, c0, c1, c2, c3⟩ := pk_at (HL.out.non hch) hp
      clear hp
      have hq2 := hch.cell hq id
      by_cases hki : k = idxOf no l
      · have hb : (p.no == no) = true := by rw [hd]; simp [hki]
        have HK := Lib.hid hki
        clear hd hki
        go_wp2_with (go_at_call 81; refine (hb ▸ takeF_any q no p _ hq2).mono ?_; rintro e w2 ⟨rfl, hc2⟩)
        go_ret
        exact ⟨by unfold idxR; rw [← HK.out, if_pos hlt]; rfl, hch.trans hc2 (fun _ x => x.elim)⟩
      · have hb : (p.no == no) = false := by rw [hd]; simp [hki]
        clear hd
        go_wp2_with (go_at_call 81; refine (hb ▸ takeF_any q no p _ hq2).mono ?_; rintro e w2 ⟨rfl, hc2⟩)
        go_roundw
        case rel => exact ⟨k + 1, by omega, by omega, by go_num, hch.trans hc2 (fun _ x => x.elim)⟩
        case measure => simp [intOf]; omega
    · obtain rfl : k = n := by omega
      go_wp2
      go_ret
      exact ⟨by unfold idxR; rw [if_neg (by omega)]; rfl, hch⟩
end Go.Proofs.Ytggbgfdgpkbmhaa.S
