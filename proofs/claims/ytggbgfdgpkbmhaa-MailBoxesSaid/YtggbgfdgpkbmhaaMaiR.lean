/- mail: the document's answer: Pick. -/
import Derived.Test.YtggbgfdgpkbmhaaMaiQ
namespace Go.Proofs.Ytggbgfdgpkbmhaa
open Go.RowKit
set_option linter.unusedSimpArgs false
set_option linter.unusedVariables false

theorem rown_read {w : World} {A : Option Addr} {cap : Nat} {l : List Pk} (h : w.ownsRow 0 111 4 (.slice A l.length cap) l.length (l.flatMap Pk.cells)) : SlRead Pk.cells 4 w A l.length cap l := by
  have h0 := h
  obtain ⟨h1, h2⟩ := h0
  rcases h2 with ⟨hv, _⟩ | ⟨g', cap', cur, hv, _, hh, hle, hm, hs, ht⟩
  · injection hv with e1 hl e3
    subst e1 e3
    have : l = [] := List.eq_nil_of_length_eq_zero hl
    subst this
    exact ⟨rfl, Nat.le_refl _, by simp [maxLen], fun _ => rfl, by simp⟩
  · cases hv
    exact own_read Pk.len h (by decide)
theorem box_cases {boxes i : Int} (h : inBox boxes i = false) : i < 0 ∨ (¬ i < 0 ∧ boxes ≤ i) := by
  unfold inBox at h
  by_cases h1 : i < 0
  · exact .inl h1
  · by_cases h2 : boxes ≤ i
    · exact .inr ⟨h1, h2⟩
    · simp at h; omega
theorem box_true {boxes i : Int} (h : inBox boxes i = true) : ¬ i < 0 ∧ ¬ boxes ≤ i := by
  unfold inBox at h
  simp at h
  omega

set_option maxRecDepth 100000 in
theorem refPick_out (to which : Int) (w : World) (b : Nat) (boxes next : Int) (A : Option Addr) (cap : Nat) (l : List Pk) (h : RNetAt w b boxes next A cap l) (hi : inBox boxes to = false) :
    Calls Try.prog 63 #[.pointer (some ⟨b, 0, none⟩), .int .i64 to, .int .i64 which] w fun e w' => e = .returned (.tuple #[Pk.zero.val, .int .i64 1]) ∧ Chg Non w w' := by
  have hbl := h.lt
  obtain ⟨⟨c0, _, _⟩, _⟩ := h.blk.three
  obtain ⟨⟨d0, _, _⟩, _⟩ := (h.non ((Chg.refl Non w).alloc (.cells #[.int .i64 0, .int .i64 0, .int .i64 0, .int .i64 0] 111))).blk.three
  rcases box_cases hi with h1 | ⟨h1, h2⟩
  all_goals
    go_enter Try.func63, Try.ntmps63
    go_wp2
    exact bodyPost_ret (v := .tuple #[Pk.zero.val, .int .i64 1]) (by simp [results, Try.results63, go_sem, Pk.zero, Pk.val]) rfl ⟨rfl, (Chg.refl Non w).alloc _⟩

set_option maxHeartbeats 1000000 in
set_option maxRecDepth 100000 in
theorem refPick_none (to which : Int) (w : World) (b : Nat) (boxes next : Int) (A : Option Addr) (cap : Nat) (l : List Pk) (h : RNetAt w b boxes next A cap l) (hn : l.length ≤ 1000000) (hi : inBox boxes to = true) (hm : l.filter (givT to) = []) :
    Calls Try.prog 63 #[.pointer (some ⟨b, 0, none⟩), .int .i64 to, .int .i64 which] w fun e w' => e = .returned (.tuple #[Pk.zero.val, .int .i64 14]) ∧ Chg Non w w' := by
  have hbl := h.lt
  obtain ⟨⟨c0, _, _⟩, _⟩ := h.blk.three
  have h1 := h.non ((Chg.refl Non w).alloc (.cells #[.int .i64 0, .int .i64 0, .int .i64 0, .int .i64 0] 111))
  obtain ⟨⟨d0, _, _⟩, _⟩ := h1.blk.three
  obtain ⟨g1, g2⟩ := box_true hi
  have H1 := Lib.hid h1
  clear h1 h
  go_enter Try.func63, Try.ntmps63
  go_wp2_with fail
  refine (refTo_any to _ b boxes next A cap l H1.out hn).mono ?_
  rintro e w3 ⟨A3, c3, rfl, ho, hc3, _⟩
  rw [hm]
  have hr := (Blk.new_at (w := w) (cs := #[.int .i64 0, .int .i64 0, .int .i64 0, .int .i64 0]) (t := 111) rfl).chg hc3 id
  obtain ⟨⟨r0, r1, r2, r3⟩, r4, r5, r6, r7⟩ := hr.four
  go_wp2
  refine bodyPost_ret (v := .tuple #[Pk.zero.val, .int .i64 14]) (by simp [results, Try.results63, go_sem, Pk.zero, Pk.val, r0, r1, r2, r3]) rfl ⟨rfl, ?_⟩
  refine (((((((Chg.refl Non w).alloc _).trans hc3 (fun _ x => x.elim)).setCell (.inr ?_) _).setCell (.inr ?_) _).setCell (.inr ?_) _).setCell (.inr ?_) _) <;> simp

set_option maxHeartbeats 2000000 in
set_option maxRecDepth 100000 in
theorem refPick_in (to which : Int) (w : World) (b : Nat) (boxes next : Int) (A : Option Addr) (cap : Nat) (l : List Pk) (h : RNetAt w b boxes next A cap l) (hn : l.length ≤ 1000000) (hi : inBox boxes to = true) (m : List Pk) (hm : l.filter (givT to) = m) (p : Pk) (hp : m[pickI which m.length]? = some p) :
    Calls Try.prog 63 #[.pointer (some ⟨b, 0, none⟩), .int .i64 to, .int .i64 which] w fun e w' => e = .returned (.tuple #[(hitR p.no l).1.val, .int .i64 (hitR p.no l).2]) ∧ ∃ A' cap', RNetAt w' b boxes next A' cap' (leftR p.no l) ∧ Chg (· = b) w w' ∧ ∀ ad, A' = some ad → w.heap.size ≤ ad.block := by
  have h1 := h.non ((Chg.refl Non w).alloc (.cells #[.int .i64 0, .int .i64 0, .int .i64 0, .int .i64 0] 111))
  have hml : m.length ≤ 1000000 := by rw [← hm]; exact Nat.le_trans (List.length_filter_le _ _) hn
  have hpl : pickI which m.length < m.length := (List.getElem?_eq_some_iff.1 hp).1
  obtain ⟨_, _, e2, e3⟩ := pick_lt which m.length (by omega)
  have hpr := pick_r which m.length (by omega)
  have hbl := h.lt
  obtain ⟨⟨c0, _, _⟩, _⟩ := h.blk.three
  obtain ⟨⟨d0, _, _⟩, _⟩ := h1.blk.three
  obtain ⟨g1, g2⟩ := box_true hi
  have H1 := Lib.hid h1
  clear h1 h hi
  by_cases hneg : which.tmod m.length < 0
  all_goals
    first | rw [if_pos hneg] at hpr | rw [if_neg hneg] at hpr
    have hpr' := hpr.symm
    clear hpr
    go_enter Try.func63, Try.ntmps63
    go_wp2_with fail
    refine (refTo_any to _ b boxes next A cap l H1.out hn).mono ?_
    rintro e w3 ⟨A3, c3, rfl, ho, hc3, _⟩
    rw [hm] at ho ⊢
    have hr := (Blk.new_at (w := w) (cs := #[.int .i64 0, .int .i64 0, .int .i64 0, .int .i64 0]) (t := 111) rfl).chg hc3 id
    have hN := H1.out.non hc3
    obtain ⟨ad, rfl, a0, _⟩ := pk_at (rown_read ho) hp
    have HN := Lib.hid hN
    clear hN
    have hs3 := hc3.size
    simp at hs3
    go_wp2_with fail
    refine (refTake_any p.no w3 b boxes next A cap l HN.out hn).mono ?_
    obtain ⟨⟨o1, o2⟩, hO⟩ : ∃ o, hitR p.no l = o := ⟨_, rfl⟩
    rw [hO]
    rintro e w4 ⟨rfl, A', cap', hN4, hc4, hA4⟩
    have hr4 := hr.chg hc4 (fun e => by omega)
    obtain ⟨⟨r0, r1, r2, r3⟩, r4, r5, r6, r7⟩ := hr4.four
    unfold Pk.val
    go_wp2
    refine bodyPost_ret (v := .tuple #[o1.val, .int .i64 o2]) (by simp [results, Try.results63, go_sem, Pk.val, r0, r1, r2, r3]) rfl ⟨by rw [hO], A', cap', ?_, ?_, fun ad e => by have := hA4 ad e; omega⟩
    · exact hN4.chg (Chg.set4 _ w.heap.size _ _ _ _) (by omega) (fun ad e => by have := hA4 ad e; omega)
    · exact ((((Chg.refl (· = b) w).alloc _).trans hc3 (fun _ x => x.elim)).trans hc4 (fun i hi => .inl hi)).trans (Chg.set4 _ w.heap.size _ _ _ _) (fun i hi => .inr (by have hi' : i = w.heap.size := hi; omega))

theorem refTake_ok (no : Int) (w : World) (b : Nat) (boxes next : Int) (A : Option Addr) (cap : Nat) (l : List Pk) (h : RNetAt w b boxes next A cap l) (hl : l.length ≤ 1000000) (hok : NumsOk next l) :
    Calls Try.prog 61 #[.pointer (some ⟨b, 0, none⟩), .int .i64 no] w fun e w' => e = .returned (.tuple #[(takeR no l).1.val, .int .i64 (takeR no l).2.1]) ∧ ∃ A' cap', RNetAt w' b boxes next A' cap' (takeR no l).2.2 ∧ Chg (· = b) w w' ∧ rowFrom w A A' := by
  obtain ⟨h1, h2⟩ := hit_take no l hok.1
  refine (refTake_any no w b boxes next A cap l h hl).mono ?_
  rintro e w' ⟨rfl, A', cap', hN, hc, hA⟩
  rw [h1, h2] at *
  exact ⟨rfl, A', cap', hN, hc, fun ad e => .inr (hA ad e)⟩
theorem refPick_ok (to which : Int) (w : World) (b : Nat) (boxes next : Int) (A : Option Addr) (cap : Nat) (l : List Pk) (h : RNetAt w b boxes next A cap l) (hn : l.length ≤ 1000000) (hok : NumsOk next l) :
    Calls Try.prog 63 #[.pointer (some ⟨b, 0, none⟩), .int .i64 to, .int .i64 which] w fun e w' => e = .returned (.tuple #[(pickR boxes to which l).1.val, .int .i64 (pickR boxes to which l).2.1]) ∧ ∃ A' cap', RNetAt w' b boxes next A' cap' (pickR boxes to which l).2.2 ∧ Chg (· = b) w w' ∧ rowFrom w A A' := by
  unfold pickR
  cases hi : inBox boxes to
  · refine (refPick_out to which w b boxes next A cap l h hi).mono ?_
    rintro e w' ⟨rfl, hc⟩
    exact ⟨rfl, A, cap, h.non hc, hc.mono (fun _ _ x => x.elim), fun ad e => .inl ⟨ad, e, rfl⟩⟩
  · simp only [Bool.true_eq_false, if_false]
    cases hp : (l.filter (givT to))[pickI which (l.filter (givT to)).length]? with
    | none =>
      have hm : l.filter (givT to) = [] := by
        by_cases h0 : 0 < (l.filter (givT to)).length
        · have := (pick_lt which _ h0).1
          rw [List.getElem?_eq_getElem this] at hp
          cases hp
        · exact List.eq_nil_of_length_eq_zero (by omega)
      refine (refPick_none to which w b boxes next A cap l h hn hi hm).mono ?_
      rintro e w' ⟨rfl, hc⟩
      exact ⟨rfl, A, cap, h.non hc, hc.mono (fun _ _ x => x.elim), fun ad e => .inl ⟨ad, e, rfl⟩⟩
    | some p =>
      obtain ⟨h1, h2⟩ := hit_take p.no l hok.1
      refine (refPick_in to which w b boxes next A cap l h hn hi _ rfl p hp).mono ?_
      rintro e w' ⟨rfl, A', cap', hN, hc, hA⟩
      rw [h1, h2] at *
      exact ⟨rfl, A', cap', hN, hc, fun ad e => .inr (hA ad e)⟩
end Go.Proofs.Ytggbgfdgpkbmhaa
