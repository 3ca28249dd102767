/- events: MaxFunc. -/
import Derived.Test.YtmdpbbnieehmnaaVicF
namespace Go.Proofs.Ytmdpbbnieehmnaa
open Go.RowKit
set_option linter.unusedSimpArgs false
set_option linter.unusedVariables false

theorem ev_at {w : World} {A : Option Addr} {n c : Nat} {xs : List Ev} (h : SlRead Ev.cells 7 w A n c xs) {k : Nat} {p : Ev} (hp : xs[k]? = some p) : ∃ ad, A = some ad ∧ w.cell? (ad.add (k * 7)) = some (.int .i64 p.at_) ∧ w.cell? ⟨(ad.add (k * 7)).block, (ad.add (k * 7)).off + 1, none⟩ = some (.int .i64 p.src) ∧ w.cell? ⟨(ad.add (k * 7)).block, (ad.add (k * 7)).off + 2, none⟩ = some (.int .i64 p.sent) ∧ w.cell? ⟨(ad.add (k * 7)).block, (ad.add (k * 7)).off + 3, none⟩ = some (.int .i64 p.no) ∧ w.cell? ⟨(ad.add (k * 7)).block, (ad.add (k * 7)).off + 4, none⟩ = some (.int .i64 p.dst) ∧ w.cell? ⟨(ad.add (k * 7)).block, (ad.add (k * 7)).off + 5, none⟩ = some (.int .i64 p.kind) ∧ w.cell? ⟨(ad.add (k * 7)).block, (ad.add (k * 7)).off + 6, none⟩ = some (.int .i64 p.data) := by
  obtain ⟨ad, e, hc⟩ := h.cell k p hp
  refine ⟨ad, e, by simpa using hc 0 (.int .i64 p.at_) rfl, ?_, ?_, ?_, ?_, ?_, ?_⟩
  · rw [← add_field _ _ 1 (by omega)]; exact hc 1 (.int .i64 p.src) rfl
  · rw [← add_field _ _ 2 (by omega)]; exact hc 2 (.int .i64 p.sent) rfl
  · rw [← add_field _ _ 3 (by omega)]; exact hc 3 (.int .i64 p.no) rfl
  · rw [← add_field _ _ 4 (by omega)]; exact hc 4 (.int .i64 p.dst) rfl
  · rw [← add_field _ _ 5 (by omega)]; exact hc 5 (.int .i64 p.kind) rfl
  · rw [← add_field _ _ 6 (by omega)]; exact hc 6 (.int .i64 p.data) rfl
theorem Blk.sevenf {w : World} {g : Nat} {a b c d e f h : Value} {t : TypeId} (k : Blk w g #[a, b, c, d, e, f, h] t) : w.frozen? ⟨g, 0, none⟩ = false ∧ w.frozen? ⟨g, 1, none⟩ = false ∧ w.frozen? ⟨g, 2, none⟩ = false ∧ w.frozen? ⟨g, 3, none⟩ = false ∧ w.frozen? ⟨g, 4, none⟩ = false ∧ w.frozen? ⟨g, 5, none⟩ = false ∧ w.frozen? ⟨g, 6, none⟩ = false :=
  ⟨k.frozen 0, k.frozen 1, k.frozen 2, k.frozen 3, k.frozen 4, k.frozen 5, k.frozen 6⟩
theorem Blk.set7 {w : World} {g : Nat} {a b c d e f h : Value} {t : TypeId} (k : Blk w g #[a, b, c, d, e, f, h] t) (a' b' c' d' e' f' h' : Value) :
    Blk (((((((w.setCell ⟨g, 0, none⟩ a').setCell ⟨g, 1, none⟩ b').setCell ⟨g, 2, none⟩ c').setCell ⟨g, 3, none⟩ d').setCell ⟨g, 4, none⟩ e').setCell ⟨g, 5, none⟩ f').setCell ⟨g, 6, none⟩ h') g #[a', b', c', d', e', f', h'] t := by
  simpa using ((((((k.set 0 a').set 1 b').set 2 c').set 3 d').set 4 e').set 5 f').set 6 h'
theorem Chg.set7 (w : World) (g : Nat) (a' b' c' d' e' f' h' : Value) : Chg (· = g) w (((((((w.setCell ⟨g, 0, none⟩ a').setCell ⟨g, 1, none⟩ b').setCell ⟨g, 2, none⟩ c').setCell ⟨g, 3, none⟩ d').setCell ⟨g, 4, none⟩ e').setCell ⟨g, 5, none⟩ f').setCell ⟨g, 6, none⟩ h') :=
  (((((((Chg.refl (· = g) w).setCell (p := ⟨g, 0, none⟩) (.inl rfl) _).setCell (p := ⟨g, 1, none⟩) (.inl rfl) _).setCell (p := ⟨g, 2, none⟩) (.inl rfl) _).setCell (p := ⟨g, 3, none⟩) (.inl rfl) _).setCell (p := ⟨g, 4, none⟩) (.inl rfl) _).setCell (p := ⟨g, 5, none⟩) (.inl rfl) _).setCell (p := ⟨g, 6, none⟩) (.inl rfl) _

def MaxNow (w : World) (m : Ev) (W : World) : Prop := Blk W w.heap.size #[.int .i64 0, .int .i64 0, .int .i64 0, .int .i64 0, .int .i64 0, .int .i64 0, .int .i64 0] 31 ∧ Blk W (w.heap.size + 1) #[.int .i64 m.at_, .int .i64 m.src, .int .i64 m.sent, .int .i64 m.no, .int .i64 m.dst, .int .i64 m.kind, .int .i64 m.data] 31 ∧ Chg Non w W ∧ w.heap.size + 2 ≤ W.heap.size

set_option maxHeartbeats 4000000 in
set_option maxRecDepth 100000 in
theorem maxEv_any (A : Option Addr) (n c : Nat) (l : List Ev) (m0 : Ev) (t : List Ev) (hl : l = m0 :: t) (w : World) (h : SlRead Ev.cells 7 w A n c l) (hn : n ≤ 1000000) :
    Calls Try.prog 55 #[.slice A n c, .func (.func 56) #[] #[]] w fun e w' => e = .returned (maxBy m0 t).val ∧ Chg Non w w' := by
  have hlen := h.len
  have hnt : n = t.length + 1 := by rw [← hlen, hl]; rfl
  have h1 := h.non ((Chg.refl Non w).alloc (.cells #[.int .i64 0, .int .i64 0, .int .i64 0, .int .i64 0, .int .i64 0, .int .i64 0, .int .i64 0] 31))
  obtain ⟨ad, rfl, a0, a1, a2, a3, a4, a5, a6⟩ := ev_at h1 (k := 0) (p := m0) (by rw [hl]; rfl)
  rw [Nat.zero_mul, show ad.add 0 = ad by unfold Addr.add; simp] at a0 a1 a2 a3 a4 a5 a6
  have hM0 : MaxNow w m0 ((w.alloc (.cells #[.int .i64 0, .int .i64 0, .int .i64 0, .int .i64 0, .int .i64 0, .int .i64 0, .int .i64 0] 31)).alloc (.cells #[.int .i64 m0.at_, .int .i64 m0.src, .int .i64 m0.sent, .int .i64 m0.no, .int .i64 m0.dst, .int .i64 m0.kind, .int .i64 m0.data] 31)) :=
    ⟨(Blk.new _ _ _).alloc _, Blk.new_at (by simp), ((Chg.refl Non w).alloc _).alloc _, by simp⟩
  have HL := Lib.hid h
  have HE := Lib.hid hl
  have hn1 : ¬ (n : Int) < 1 := by omega
  have hn0 : 0 < n := by omega
  have HNT := Lib.hid hnt
  clear h h1 hl hnt
  go_enter Try.func55, Try.ntmps55
  go_wp2_with fail
  go_loopw [6] (fun i wr => ∃ k : Nat, k ≤ t.length ∧ i = .int .i64 ((k : Int) + 1) ∧ MaxNow w (maxBy m0 (t.take k)) wr) (fun i _ => n - (intOf i).toNat)
  case atStart => exact ⟨0, by omega, rfl, hM0⟩
  case round =>
    obtain ⟨k, hk, rfl, hB0, hB1, hch, hsz⟩ := hrel
    obtain ⟨m, hm⟩ : ∃ m, maxBy m0 (t.take k) = m := ⟨_, rfl⟩
    rw [hm] at hB1
    obtain ⟨c0, c1, c2, c3, c4, c5, c6⟩ := hB1.seven
    obtain ⟨f0, f1, f2, f3, f4, f5, f6⟩ := hB1.sevenf
    by_cases hlt : k < t.length
    · have hs : t[k]? = some t[k] := List.getElem?_eq_getElem hlt
      have hts : t.take (k + 1) = t.take k ++ [t[k]] := by rw [List.take_add_one, hs]; rfl
      generalize t[k] = e at hs hts
      have hltn : ((k : Int) + 1) < n := by have := HNT.out; omega
      have h0k : (0 : Int) ≤ (k : Int) + 1 := by omega
      have hmn : maxBy m0 (t.take (k + 1)) = better m e := by rw [hts, ← hm]; simp [maxBy]
      have hle : l[k + 1]? = some e := by rw [HE.out]; simpa using hs
      have hR := HL.out.non hch
      obtain ⟨_, e', d0, d1, d2, d3, d4, d5, d6⟩ := ev_at hR hle
      cases e'
      have HN := Lib.hid hmn
      have HM := Lib.hid hm
      have HH := Lib.hid hle
      have hC0 := fun w => vicF2_any e m w
      unfold Ev.val at hC0
      have HC := Lib.hid hC0
      clear hC0
      clear hs hts hmn hm hle hR
      go_wp2_with fail
      refine still_tail_d 6 (by kernel_rfl) (by kernel_rfl) ?_
      simp only [List.take_succ_cons, List.take_zero, List.drop_succ_cons, List.drop_zero]
      repeat still_step
      refine wpStill_nil ?_
      go_wp2_with fail
      refine (HC.out _).mono ?_
      rintro e2 w3 ⟨rfl, hc3⟩
      have hB03 := hB0.drew.chg hc3 id
      have hB13 := hB1.drew.chg hc3 id
      have hch3 := hch.drew.trans hc3 (fun _ x => x.elim)
      have hs3 := hc3.size
      obtain ⟨_, e', g0, g1, g2, g3, g4, g5, g6⟩ := ev_at (HL.out.non hch3) HH.out
      cases e'
      obtain ⟨p0, p1, p2, p3, p4, p5, p6⟩ := hB13.seven
      obtain ⟨q0, q1, q2, q3, q4, q5, q6⟩ := hB13.sevenf
      by_cases hb : 0 < lexC e.vkey m.vkey
      · have hbe : better m e = e := if_pos hb
        have HB := Lib.hid hbe
        clear hbe
        go_wp2
        go_roundw
        case rel =>
          have hS := Chg.set7 w3 (w.heap.size + 1) (.int .i64 e.at_) (.int .i64 e.src) (.int .i64 e.sent) (.int .i64 e.no) (.int .i64 e.dst) (.int .i64 e.kind) (.int .i64 e.data)
          refine ⟨k + 1, by omega, by go_num, ?_⟩
          rw [HN.out, HB.out]
          exact ⟨hB03.chg hS (by omega), hB13.set7 _ _ _ _ _ _ _, hch3.trans hS (fun i hi => .inr (by have hi' : i = w.heap.size + 1 := hi; omega)), Nat.le_trans (Nat.le_trans hsz hs3) hS.size⟩
        case measure => have := HNT.out; simp [intOf]; omega
      · have hbe : better m e = m := if_neg hb
        have HB := Lib.hid hbe
        clear hbe
        go_wp2
        go_roundw
        case rel =>
          refine ⟨k + 1, by omega, by go_num, ?_⟩
          rw [HN.out, HB.out]
          exact ⟨hB03, hB13, hch3, Nat.le_trans hsz hs3⟩
        case measure => have := HNT.out; simp [intOf]; omega
    · obtain rfl : k = t.length := by omega
      have hltn : ¬ (((t.length : Nat) : Int) + 1) < n := by have := HNT.out; omega
      rw [List.take_length] at hm
      have HM := Lib.hid hm
      clear hm
      obtain ⟨y0, y1, y2, y3, y4, y5, y6⟩ := hB0.sevenf
      obtain ⟨x0, x1, x2, x3, x4, x5, x6⟩ := hB0.seven
      go_wp2
      obtain ⟨z0, z1, z2, z3, z4, z5, z6⟩ := (hB0.set7 (.int .i64 m.at_) (.int .i64 m.src) (.int .i64 m.sent) (.int .i64 m.no) (.int .i64 m.dst) (.int .i64 m.kind) (.int .i64 m.data)).seven
      refine bodyPost_ret (v := m.val) (by simp [results, Try.results55, go_sem, Ev.val, z0, z1, z2, z3, z4, z5, z6]) rfl ⟨by rw [HM.out], ?_⟩
      exact hch.trans (Chg.set7 wr w.heap.size _ _ _ _ _ _ _) (fun i hi => .inr (by have hi' : i = w.heap.size := hi; omega))
end Go.Proofs.Ytmdpbbnieehmnaa
