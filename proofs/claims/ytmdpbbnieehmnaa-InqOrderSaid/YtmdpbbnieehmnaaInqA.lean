/- slices.BinarySearchFunc at events, by inq.Compare. -/
import Derived.Test.YtmdpbbnieehmnaaSrtB
import Derived.Deep.RegionHeld3
namespace Go.Proofs.Ytmdpbbnieehmnaa
open Go.RowKit
set_option linter.unusedSimpArgs false
set_option linter.unusedVariables false

def eC (a b : Ev) : Int := lexC a.key b.key
theorem eC_swap (a b : Ev) : eC b a = -eC a b := lexC_swap _ _
theorem eC_self (a : Ev) : eC a a = 0 := lexC_self _
theorem eC_zero {a b : Ev} (h : eC a b = 0) : a = b := Ev.key_inj (lexC_zero a.key b.key rfl h)
theorem eC_trans {a b c : Ev} (h : eC a b ≤ 0) (k : eC b c ≤ 0) : eC a c ≤ 0 := lexC_trans a.key b.key c.key rfl rfl h k
theorem eC_lt_le {a b c : Ev} (h : eC a b < 0) (k : eC b c ≤ 0) : eC a c < 0 := by
  have h1 := eC_trans (Int.le_of_lt h) k
  by_cases h2 : eC a c = 0
  · have e := eC_zero h2
    subst e
    have := eC_swap a b
    omega
  · omega
theorem eC_le_lt {a b c : Ev} (h : eC a b ≤ 0) (k : eC b c < 0) : eC a c < 0 := by
  have h1 := eC_trans h (Int.le_of_lt k)
  by_cases h2 : eC a c = 0
  · have e := eC_zero h2
    subst e
    have := eC_swap a b
    omega
  · omega
/-- In the order of events. -/
def SegE (R : List Ev) : Prop := ∀ s t, s < t → t < R.length → eC (gE R s) (gE R t) ≤ 0
theorem SegE.le {R : List Ev} (h : SegE R) {s t : Nat} (h1 : s ≤ t) (h2 : t < R.length) : eC (gE R s) (gE R t) ≤ 0 := by
  by_cases e : s = t
  · subst e; rw [eC_self]; omega
  · exact h s t (by omega) h2
def At (l : List Ev) (e : Ev) (i : Nat) : Prop := i ≤ l.length ∧ (∀ t, t < i → eC (gE l t) e < 0) ∧ (∀ t, i ≤ t → t < l.length → 0 ≤ eC (gE l t) e)
def isAt (l : List Ev) (e : Ev) (i : Nat) : Bool := decide (i < l.length) && decide (gE l i = e)

set_option maxHeartbeats 8000000 in
set_option maxRecDepth 100000 in
theorem binSrch_any (A : Option Addr) (n c : Nat) (l : List Ev) (e : Ev) (w : World) (h : SlRead Ev.cells 7 w A n c l) (hS : SegE l) (hn : n ≤ 1000000) :
    Calls Try.prog 70 #[.slice A n c, e.val, .func (.func 29) #[] #[]] w fun en w' => ∃ i : Nat, en = .returned (.tuple #[.int .i64 i, .bool (isAt l e i)]) ∧ At l e i ∧ Chg Non w w' := by
  have hlen := h.len
  subst hlen
  have HL := Lib.hid h
  have HS := Lib.hid hS
  clear h hS
  have hB0 := Blk.new w #[.int .i64 e.at_, .int .i64 e.src, .int .i64 e.sent, .int .i64 e.no, .int .i64 e.dst, .int .i64 e.kind, .int .i64 e.data] 31
  have HB0 := Lib.hid hB0
  have HC0 := Lib.hid ((Chg.refl Non w).alloc (.cells #[.int .i64 e.at_, .int .i64 e.src, .int .i64 e.sent, .int .i64 e.no, .int .i64 e.dst, .int .i64 e.kind, .int .i64 e.data] 31))
  clear hB0
  unfold Ev.val
  go_enter Try.func70, Try.ntmps70
  go_wp2_with fail
  go_loopw [9, 10] (fun i j wr => ∃ x y : Nat, x ≤ y ∧ y ≤ l.length ∧ i = .int .i64 x ∧ j = .int .i64 y ∧ Hid ((∀ t, t < x → eC (gE l t) e < 0) ∧ (∀ t, y ≤ t → t < l.length → 0 ≤ eC (gE l t) e) ∧ Blk wr w.heap.size #[.int .i64 e.at_, .int .i64 e.src, .int .i64 e.sent, .int .i64 e.no, .int .i64 e.dst, .int .i64 e.kind, .int .i64 e.data] 31 ∧ Chg Non w wr)) (fun i j _ => (intOf j).toNat - (intOf i).toNat)
  case atStart => exact ⟨0, l.length, by omega, Nat.le_refl _, rfl, rfl, fun t h1 => by omega, fun t h1 h2 => by omega, HB0.out, HC0.out⟩
  case round =>
    obtain ⟨x, y, hxy, hy, rfl, rfl, hI⟩ := hrel
    by_cases hlt : x < y
    · obtain ⟨q, hq⟩ : ∃ q, q = (x + y) / 2 := ⟨_, rfl⟩
      have hqi : ((x : Int) + (y : Int)) / 2 = (q : Int) := by omega
      have q1 : x ≤ q := by omega
      have q2 : q < y := by omega
      clear hq
      have hx := gE_some (R := l) (i := q) (by omega)
      obtain ⟨z, hz⟩ : ∃ z, gE l q = z := ⟨_, rfl⟩
      rw [hz] at hx
      obtain ⟨ad, rfl, c0, c1, c2, c3, c4, c5, c6⟩ := ev_at (HL.out.non hI.out.2.2.2) hx
      obtain ⟨d0, d1, d2, d3, d4, d5, d6⟩ := hI.out.2.2.1.seven
      have hF := fun w => inqCmp_any z e w
      unfold Ev.val at hF
      have hqn : q < l.length := by omega
      have HZ := Lib.hid hz
      clear hx hz
      go_wp2_with fail
      refine still_tail_d 6 (by kernel_rfl) (by kernel_rfl) ?_
      simp only [List.take_succ_cons, List.take_zero, List.drop_succ_cons, List.drop_zero]
      repeat still_step
      refine wpStill_nil ?_
      go_wp2_with fail
      refine (hF _).mono ?_
      rintro en w2 ⟨rfl, hc2⟩
      have hc2' : Chg Non wr w2 := (Chg.refl Non wr).drew.trans hc2 (fun _ x => x.elim)
      have hE2 := hI.out.2.2.1.chg hc2' id
      have hcE := hI.out.2.2.2.trans hc2' (fun _ x => x.elim)
      have heC : lexC z.key e.key = eC z e := rfl
      rw [heC]
      by_cases hlt3 : eC z e < 0
      · have hfin : ∃ x2 y2 : Nat, x2 ≤ y2 ∧ y2 ≤ l.length ∧ Value.int .i64 ((q : Int) + 1) = .int .i64 x2 ∧ Value.int .i64 (y : Int) = .int .i64 y2 ∧ Hid ((∀ t, t < x2 → eC (gE l t) e < 0) ∧ (∀ t, y2 ≤ t → t < l.length → 0 ≤ eC (gE l t) e) ∧ Blk w2 w.heap.size #[.int .i64 e.at_, .int .i64 e.src, .int .i64 e.sent, .int .i64 e.no, .int .i64 e.dst, .int .i64 e.kind, .int .i64 e.data] 31 ∧ Chg Non w w2) :=
          ⟨q + 1, y, by omega, hy, by go_num, rfl, fun t h1 => eC_le_lt (HS.out.le (show t ≤ q by omega) hqn) (by rw [HZ.out]; exact hlt3), hI.out.2.1, hE2, hcE⟩
        have HFIN := Lib.hid hfin
        generalize eC z e = cc at hlt3 ⊢
        clear hfin hE2 hcE hc2' hc2 hI hF heC c0 c1 c2 c3 c4 c5 c6 d0 d1 d2 d3 d4 d5 d6
        go_wp2
        go_roundw
        case rel => exact HFIN.out
        case measure => simp [intOf]; omega
      · have hfin : ∃ x2 y2 : Nat, x2 ≤ y2 ∧ y2 ≤ l.length ∧ Value.int .i64 (x : Int) = .int .i64 x2 ∧ Value.int .i64 (q : Int) = .int .i64 y2 ∧ Hid ((∀ t, t < x2 → eC (gE l t) e < 0) ∧ (∀ t, y2 ≤ t → t < l.length → 0 ≤ eC (gE l t) e) ∧ Blk w2 w.heap.size #[.int .i64 e.at_, .int .i64 e.src, .int .i64 e.sent, .int .i64 e.no, .int .i64 e.dst, .int .i64 e.kind, .int .i64 e.data] 31 ∧ Chg Non w w2) :=
          ⟨x, q, q1, by omega, rfl, rfl, hI.out.1, fun t h1 h2 => Int.not_lt.1 fun h3 => hlt3 (by rw [← HZ.out]; exact eC_le_lt (HS.out.le h1 h2) h3), hE2, hcE⟩
        have HFIN := Lib.hid hfin
        generalize eC z e = cc at hlt3 ⊢
        clear hfin hE2 hcE hc2' hc2 hI hF heC c0 c1 c2 c3 c4 c5 c6 d0 d1 d2 d3 d4 d5 d6
        go_wp2
        go_roundw
        case rel => exact HFIN.out
        case measure => simp [intOf]; omega
    · obtain rfl : x = y := by omega
      have HA : Hid (At l e x) := Lib.hid ⟨hy, hI.out.1, hI.out.2.1⟩
      have HB := Lib.hid hI.out.2.2.1
      have HC := Lib.hid hI.out.2.2.2
      clear hI
      by_cases hxn : x < l.length
      · have hx := gE_some hxn
        obtain ⟨z, hz⟩ : ∃ z, gE l x = z := ⟨_, rfl⟩
        rw [hz] at hx
        obtain ⟨ad, rfl, c0, c1, c2, c3, c4, c5, c6⟩ := ev_at (HL.out.non HC.out) hx
        obtain ⟨d0, d1, d2, d3, d4, d5, d6⟩ := HB.out.seven
        have hF := fun w => inqCmp_any z e w
        unfold Ev.val at hF
        have his : isAt l e x = (lexC z.key e.key == 0) := by
          unfold isAt
          rw [decide_eq_true hxn, hz, Bool.true_and]
          by_cases h : z = e
          · rw [h, decide_eq_true rfl, lexC_self]; rfl
          · rw [decide_eq_false h]
            have : lexC z.key e.key ≠ 0 := fun h0 => h (Ev.key_inj (lexC_zero z.key e.key rfl h0))
            simp [this]
        have HIS := Lib.hid his
        have HX := Lib.hid hx
        clear hx hz his
        have hS0 : ∀ W, Chg Non wr W → (W.cell? (ad.add (x * 7)) = some (.int .i64 z.at_) ∧ W.cell? ⟨(ad.add (x * 7)).block, (ad.add (x * 7)).off + 1, none⟩ = some (.int .i64 z.src) ∧ W.cell? ⟨(ad.add (x * 7)).block, (ad.add (x * 7)).off + 2, none⟩ = some (.int .i64 z.sent) ∧ W.cell? ⟨(ad.add (x * 7)).block, (ad.add (x * 7)).off + 3, none⟩ = some (.int .i64 z.no) ∧ W.cell? ⟨(ad.add (x * 7)).block, (ad.add (x * 7)).off + 4, none⟩ = some (.int .i64 z.dst) ∧ W.cell? ⟨(ad.add (x * 7)).block, (ad.add (x * 7)).off + 5, none⟩ = some (.int .i64 z.kind) ∧ W.cell? ⟨(ad.add (x * 7)).block, (ad.add (x * 7)).off + 6, none⟩ = some (.int .i64 z.data) ∧ W.cell? ⟨w.heap.size, 0, none⟩ = some (.int .i64 e.at_) ∧ W.cell? ⟨w.heap.size, 1, none⟩ = some (.int .i64 e.src) ∧ W.cell? ⟨w.heap.size, 2, none⟩ = some (.int .i64 e.sent) ∧ W.cell? ⟨w.heap.size, 3, none⟩ = some (.int .i64 e.no) ∧ W.cell? ⟨w.heap.size, 4, none⟩ = some (.int .i64 e.dst) ∧ W.cell? ⟨w.heap.size, 5, none⟩ = some (.int .i64 e.kind) ∧ W.cell? ⟨w.heap.size, 6, none⟩ = some (.int .i64 e.data)) := fun W h => by
          obtain ⟨_, e0, c0, c1, c2, c3, c4, c5, c6⟩ := ev_at (HL.out.non (HC.out.trans h (fun _ x => x.elim))) HX.out
          cases e0
          obtain ⟨d0, d1, d2, d3, d4, d5, d6⟩ := (HB.out.chg h id).seven
          exact ⟨c0, c1, c2, c3, c4, c5, c6, d0, d1, d2, d3, d4, d5, d6⟩
        have HS0 := Lib.hid hS0
        clear hS0
        go_wp2_with fail
        go_region_held3 (fun w' => w'.cell? (ad.add (x * 7)) = some (.int .i64 z.at_) ∧ w'.cell? ⟨(ad.add (x * 7)).block, (ad.add (x * 7)).off + 1, none⟩ = some (.int .i64 z.src) ∧ w'.cell? ⟨(ad.add (x * 7)).block, (ad.add (x * 7)).off + 2, none⟩ = some (.int .i64 z.sent) ∧ w'.cell? ⟨(ad.add (x * 7)).block, (ad.add (x * 7)).off + 3, none⟩ = some (.int .i64 z.no) ∧ w'.cell? ⟨(ad.add (x * 7)).block, (ad.add (x * 7)).off + 4, none⟩ = some (.int .i64 z.dst) ∧ w'.cell? ⟨(ad.add (x * 7)).block, (ad.add (x * 7)).off + 5, none⟩ = some (.int .i64 z.kind) ∧ w'.cell? ⟨(ad.add (x * 7)).block, (ad.add (x * 7)).off + 6, none⟩ = some (.int .i64 z.data) ∧ w'.cell? ⟨w.heap.size, 0, none⟩ = some (.int .i64 e.at_) ∧ w'.cell? ⟨w.heap.size, 1, none⟩ = some (.int .i64 e.src) ∧ w'.cell? ⟨w.heap.size, 2, none⟩ = some (.int .i64 e.sent) ∧ w'.cell? ⟨w.heap.size, 3, none⟩ = some (.int .i64 e.no) ∧ w'.cell? ⟨w.heap.size, 4, none⟩ = some (.int .i64 e.dst) ∧ w'.cell? ⟨w.heap.size, 5, none⟩ = some (.int .i64 e.kind) ∧ w'.cell? ⟨w.heap.size, 6, none⟩ = some (.int .i64 e.data)) (first | exact HS0.out _ ((Chg.refl Non _).drew) | exact HS0.out _ (Chg.refl Non _) | exact HS0.out _ hcx) (first | (go_at_call 29; refine (hF _).mono ?_; rintro en w2 ⟨rfl, hc2⟩; have hcx : Chg Non wr w2 := (Chg.refl Non wr).drew.trans hc2 (fun _ x => x.elim)))
        all_goals
          have HC2 := Lib.hid (HC.out.trans hcx (fun _ x => x.elim))
          clear hcx hc2
          generalize lexC z.key e.key = cc at *
          go_wp2_with fail
          refine bodyPost_ret (v := .tuple #[.int .i64 x, .bool (cc == 0)]) (by simp [results, Try.results70, go_sem]) rfl ⟨x, by rw [HIS.out], HA.out, HC2.out⟩
      · have his : isAt l e x = false := by
          unfold isAt
          rw [decide_eq_false hxn]; rfl
        have HIS := Lib.hid his
        clear his
        go_wp2_with fail
        have hgd : ¬ (x : Int) < (l.length : Int) := by omega
        clear hxn hy
        go_quiet (fail)
        go_wp2_with fail
        refine bodyPost_ret (v := .tuple #[.int .i64 x, .bool false]) (by simp [results, Try.results70, go_sem]) rfl ⟨x, by rw [HIS.out], HA.out, HC.out.drewN _⟩
end Go.Proofs.Ytmdpbbnieehmnaa
