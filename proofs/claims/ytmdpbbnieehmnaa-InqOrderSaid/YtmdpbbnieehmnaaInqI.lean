/- inq: Put. -/
import Derived.Test.YtmdpbbnieehmnaaInqH
import Derived.Test.YtmdpbbnieehmnaaKeyA
namespace Go.Proofs.Ytmdpbbnieehmnaa
open Go.RowKit
set_option linter.unusedSimpArgs false
set_option linter.unusedVariables false

def PutR (S S' : Bool → List Ev) (m : Mg) (met : Bool) : Prop :=
  (met = true ∧ ∃ i, At (S (!m.anti)) m.ev i ∧ isAt (S (!m.anti)) m.ev i = true ∧ S' = upd S (!m.anti) ((S (!m.anti)).eraseIdx i)) ∨
  (met = false ∧ (∃ i, At (S (!m.anti)) m.ev i ∧ isAt (S (!m.anti)) m.ev i = false) ∧ ∃ j, At (S m.anti) m.ev j ∧ S' = upd S m.anti (insAt (S m.anti) j m.ev))
def inTime (m : Mg) : Prop := 0 ≤ m.ev.at_ ∧ m.ev.at_ ≤ 1073741824
def putQPost (q : Nat) (S : Bool → List Ev) (A : Bool → Option Addr) (m : Mg) (w : World) (en : Ending) (w' : World) : Prop :=
  ∃ met S' A' c', en = .returned (.tuple #[.bool met, .int .i64 0]) ∧ PutR S S' m met ∧ QAt w' q S' A' c' ∧ Chg (qBlk q A) w w' ∧ qNew w A A'

set_option maxHeartbeats 8000000 in
set_option maxRecDepth 100000 in
theorem put_bad (q : Nat) (m : Mg) (w : World) (hq : q < w.heap.size) (ht : ¬ inTime m) :
    Calls Try.prog 33 #[.pointer (some ⟨q, 0, none⟩), m.val] w fun en w' => en = .returned (.tuple #[.bool false, .int .i64 10]) ∧ Chg Non w w' := by
  obtain ⟨e, anti⟩ := m
  unfold inTime at ht
  simp only at ht
  have hb := Blk.new w #[.int .i64 e.at_, .int .i64 e.src, .int .i64 e.sent, .int .i64 e.no, .int .i64 e.dst, .int .i64 e.kind, .int .i64 e.data, .bool anti] 63
  obtain ⟨b0, b1, b2, b3, b4, b5, b6, b7⟩ := hb.eight
  unfold Mg.val
  simp only
  by_cases h1 : e.at_ < 0
  · clear ht hb
    go_enter Try.func33, Try.ntmps33
    go_wp2
    refine bodyPost_ret (v := .tuple #[.bool false, .int .i64 10]) (by simp [results, Try.results33, go_sem]) rfl ⟨rfl, (Chg.refl Non w).alloc _⟩
  · have h2 : 1073741824 < e.at_ := by omega
    clear ht hb
    go_enter Try.func33, Try.ntmps33
    go_wp2
    refine bodyPost_ret (v := .tuple #[.bool false, .int .i64 10]) (by simp [results, Try.results33, go_sem]) rfl ⟨rfl, (Chg.refl Non w).alloc _⟩
theorem qNew.trans {w w1 : World} {A A1 A2 : Bool → Option Addr} (h : qNew w A A1) (k : qNew w1 A1 A2) (hz : w.heap.size ≤ w1.heap.size) : qNew w A A2 := fun b ad e => by
  rcases k b ad e with ⟨b', ad', e', h'⟩ | h'
  · rcases h b' ad' e' with ⟨b2, ad2, e2, h2⟩ | h2
    · exact .inl ⟨b2, ad2, e2, h'.trans h2⟩
    · exact .inr (by rw [h']; exact h2)
  · exact .inr (by omega)
theorem qChg {w w1 w2 : World} {q : Nat} {A A1 : Bool → Option Addr} (h : Chg (qBlk q A) w w1) (hn : qNew w A A1) (k : Chg (qBlk q A1) w1 w2) : Chg (qBlk q A) w w2 :=
  h.trans k (fun i hi => by
    rcases hi with rfl | ⟨b, ad, e, rfl⟩
    · exact .inl (.inl rfl)
    · rcases hn b ad e with ⟨b', ad', e', h'⟩ | h'
      · exact .inl (.inr ⟨b', ad', e', h'⟩)
      · exact .inr h')

set_option maxHeartbeats 8000000 in
set_option maxRecDepth 100000 in
theorem put_ok (q : Nat) (S : Bool → List Ev) (A : Bool → Option Addr) (c : Bool → Nat) (m : Mg) (w : World) (h : QAt w q S A c) (ht : inTime m) (hn : ∀ b, (S b).length ≤ 900000) :
    Calls Try.prog 33 #[.pointer (some ⟨q, 0, none⟩), m.val] w (putQPost q S A m w) := by
  obtain ⟨e, anti⟩ := m
  unfold inTime at ht
  simp only at ht
  obtain ⟨ht1, ht2⟩ := ht
  have hb := Blk.new w #[.int .i64 e.at_, .int .i64 e.src, .int .i64 e.sent, .int .i64 e.no, .int .i64 e.dst, .int .i64 e.kind, .int .i64 e.data, .bool anti] 63
  obtain ⟨b0, b1, b2, b3, b4, b5, b6, b7⟩ := hb.eight
  have hA := h.non ((Chg.refl Non w).alloc (.cells #[.int .i64 e.at_, .int .i64 e.src, .int .i64 e.sent, .int .i64 e.no, .int .i64 e.dst, .int .i64 e.kind, .int .i64 e.data, .bool anti] 63))
  have hql := h.lt
  have hbl : ∀ W, Chg (qBlk q A) (w.alloc (.cells #[.int .i64 e.at_, .int .i64 e.src, .int .i64 e.sent, .int .i64 e.no, .int .i64 e.dst, .int .i64 e.kind, .int .i64 e.data, .bool anti] 63)) W → Blk W w.heap.size #[.int .i64 e.at_, .int .i64 e.src, .int .i64 e.sent, .int .i64 e.no, .int .i64 e.dst, .int .i64 e.kind, .int .i64 e.data, .bool anti] 63 := fun W hW => hb.chg hW (fun hi => by
    rcases hi with e' | ⟨b, ad, e', h'⟩
    · omega
    · have := own_lt (h.own b) ad e'; omega)
  have H := Lib.hid h
  have HN := Lib.hid hn
  have HBL := Lib.hid hbl
  have HTake := Lib.hid (fun (W : World) (hc : Chg Non w W) => qtake_any (!anti) q S A c e W (H.out.non hc) (HN.out _))
  have g1 : ¬ e.at_ < 0 := by omega
  have g2 : ¬ 1073741824 < e.at_ := by omega
  clear h hn hb hbl ht1 ht2 hA
  unfold Mg.val
  simp only
  cases anti
  · have hT := HTake.out
    unfold Ev.val at hT
    have HT := Lib.hid hT
    clear hT
    go_enter Try.func33, Try.ntmps33
    go_wp2_with fail
    go_quiet (fail)
    go_wp2_with fail
    refine (HT.out _ (((Chg.refl Non w).alloc _).drewN _)).mono ?_
    rintro en w2 ⟨i, hAt, rfl, A1, c1, hQ1, hC1, hN1⟩
    have hbx := HBL.out w2 (((Chg.refl (qBlk q A) _).drewN _).trans hC1 (fun i h => .inl h))
    obtain ⟨b0, b1, b2, b3, b4, b5, b6, b7⟩ := hbx.eight
    have hC1' : Chg (qBlk q A) w w2 := ((((Chg.refl (qBlk q A) w).alloc _).drewN _).trans hC1 (fun i h => .inl h))
    have hN1' : qNew w A A1 := fun b ad e => by
      rcases hN1 b ad e with h' | h'
      · exact .inl h'
      · refine .inr (Nat.le_trans ?_ h')
        exact (((Chg.refl Non w).alloc _).drewN _).size
    have HATT := Lib.hid hAt
    have HCC := Lib.hid (And.intro hC1' hN1')
    clear hAt hbx hC1 hN1 hC1' hN1'
    generalize hb : isAt (S (!false)) e i = bb at *
    cases bb
    · simp only [Bool.false_eq_true, if_false] at hQ1
      have HQ1 := Lib.hid hQ1
      have HB := Lib.hid hb
      have hP := qput_any false q S A1 c1 e w2 hQ1 (HN.out false)
      unfold Ev.val at hP
      have HP := Lib.hid hP
      clear hP hQ1 hb
      go_wp2_with fail
      refine HP.out.mono ?_
      rintro en w3 ⟨rfl, A2, c2, j, hAt2, hQ2, hC2, hN2⟩
      have HF := Lib.hid (And.intro hAt2 (And.intro hQ2 (And.intro (qChg HCC.out.1 HCC.out.2 hC2) (HCC.out.2.trans hN2 HCC.out.1.size))))
      clear hAt2 hQ2 hC2 hN2
      go_wp2
      exact bodyPost_ret (v := .tuple #[.bool false, .int .i64 0]) (by simp [results, Try.results33, go_sem]) rfl ⟨false, _, A2, c2, rfl, .inr ⟨rfl, ⟨i, HATT.out, HB.out⟩, j, HF.out.1, rfl⟩, HF.out.2.1, HF.out.2.2.1, HF.out.2.2.2⟩
    · simp only [if_true] at hQ1
      have HQ1 := Lib.hid hQ1
      have HB := Lib.hid hb
      clear hQ1 hb
      go_wp2
      exact bodyPost_ret (v := .tuple #[.bool true, .int .i64 0]) (by simp [results, Try.results33, go_sem]) rfl ⟨true, _, A1, c1, rfl, .inl ⟨rfl, i, HATT.out, HB.out, rfl⟩, HQ1.out, HCC.out.1, HCC.out.2⟩
  · have hT := HTake.out
    unfold Ev.val at hT
    have HT := Lib.hid hT
    clear hT
    go_enter Try.func33, Try.ntmps33
    go_wp2_with fail
    go_quiet (fail)
    go_wp2_with fail
    refine (HT.out _ (((Chg.refl Non w).alloc _).drewN _)).mono ?_
    rintro en w2 ⟨i, hAt, rfl, A1, c1, hQ1, hC1, hN1⟩
    have hbx := HBL.out w2 (((Chg.refl (qBlk q A) _).drewN _).trans hC1 (fun i h => .inl h))
    obtain ⟨b0, b1, b2, b3, b4, b5, b6, b7⟩ := hbx.eight
    have hC1' : Chg (qBlk q A) w w2 := ((((Chg.refl (qBlk q A) w).alloc _).drewN _).trans hC1 (fun i h => .inl h))
    have hN1' : qNew w A A1 := fun b ad e => by
      rcases hN1 b ad e with h' | h'
      · exact .inl h'
      · refine .inr (Nat.le_trans ?_ h')
        exact (((Chg.refl Non w).alloc _).drewN _).size
    have HATT := Lib.hid hAt
    have HCC := Lib.hid (And.intro hC1' hN1')
    clear hAt hbx hC1 hN1 hC1' hN1'
    generalize hb : isAt (S (!true)) e i = bb at *
    cases bb
    · simp only [Bool.false_eq_true, if_false] at hQ1
      have HQ1 := Lib.hid hQ1
      have HB := Lib.hid hb
      have hP := qput_any true q S A1 c1 e w2 hQ1 (HN.out true)
      unfold Ev.val at hP
      have HP := Lib.hid hP
      clear hP hQ1 hb
      go_wp2_with fail
      refine HP.out.mono ?_
      rintro en w3 ⟨rfl, A2, c2, j, hAt2, hQ2, hC2, hN2⟩
      have HF := Lib.hid (And.intro hAt2 (And.intro hQ2 (And.intro (qChg HCC.out.1 HCC.out.2 hC2) (HCC.out.2.trans hN2 HCC.out.1.size))))
      clear hAt2 hQ2 hC2 hN2
      go_wp2
      exact bodyPost_ret (v := .tuple #[.bool false, .int .i64 0]) (by simp [results, Try.results33, go_sem]) rfl ⟨false, _, A2, c2, rfl, .inr ⟨rfl, ⟨i, HATT.out, HB.out⟩, j, HF.out.1, rfl⟩, HF.out.2.1, HF.out.2.2.1, HF.out.2.2.2⟩
    · simp only [if_true] at hQ1
      have HQ1 := Lib.hid hQ1
      have HB := Lib.hid hb
      clear hQ1 hb
      go_wp2
      exact bodyPost_ret (v := .tuple #[.bool true, .int .i64 0]) (by simp [results, Try.results33, go_sem]) rfl ⟨true, _, A1, c1, rfl, .inl ⟨rfl, i, HATT.out, HB.out, rfl⟩, HQ1.out, HCC.out.1, HCC.out.2⟩
end Go.Proofs.Ytmdpbbnieehmnaa
