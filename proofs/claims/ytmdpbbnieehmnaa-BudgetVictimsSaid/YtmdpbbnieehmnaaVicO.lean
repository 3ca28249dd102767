/- BudgetVictims: the walk. -/
import Derived.Test.YtmdpbbnieehmnaaVicN
import Derived.Test.YtmdpbbnieehmnaaBaseO
import Derived.Test.YtmdpbbnieehmnaaBudF
namespace Go.Proofs.Ytmdpbbnieehmnaa
open Go.RowKit
set_option linter.unusedSimpArgs false
set_option linter.unusedVariables false

def Ev.wf (e : Ev) : Prop := (Lit.int .i64 e.at_).wf = true ∧ (Lit.int .i64 e.src).wf = true ∧ (Lit.int .i64 e.sent).wf = true ∧ (Lit.int .i64 e.no).wf = true ∧ (Lit.int .i64 e.dst).wf = true ∧ (Lit.int .i64 e.kind).wf = true ∧ (Lit.int .i64 e.data).wf = true
theorem rev_take {α : Type} (l : List α) (k : Nat) (x : α) (h : l[k]? = some x) : (l.drop (k + 1)).reverse ++ [x] = (l.drop k).reverse := by
  have hk := (List.getElem?_eq_some_iff.1 h).1
  have : l.drop k = x :: l.drop (k + 1) := by
    rw [List.drop_eq_getElem_cons hk]
    congr 1
    exact (List.getElem?_eq_some_iff.1 h).2
  rw [this, List.reverse_cons]
set_option maxHeartbeats 8000000 in
set_option maxRecDepth 100000 in
theorem budgetVictims_any (A : Option Addr) (n c : Nat) (l : List Ev) (w : World) (h : SlRead Ev.cells 7 w A n c l) (f : Int) :
    Calls Try.prog 9 #[.slice A n c, .int .i64 f] w fun e w' => e = .returned (.bool true) ∧ Below w.heap.size w w' := by
  have hlen := h.len
  subst hlen
  have HL := Lib.hid h
  clear h
  by_cases hbig : (60 : Int) < l.length
  · go_enter Try.func9, Try.ntmps9
    go_wp2_with fail
    refine (awake17_any _).mono ?_
    rintro e w5 ⟨rfl, hb5⟩
    go_wp2
    go_ret
    exact ⟨rfl, hb5⟩
  have hsm : l.length ≤ 60 := by omega
  go_enter Try.func9, Try.ntmps9
  go_wp2_with fail
  go_loopw [5, 6] (fun s i wr => ∃ (k : Nat) (A5 : Option Addr) (cap5 : Nat), k ≤ l.length ∧ i = .int .i64 ((k : Int) - 1) ∧ s = .slice A5 (l.drop k).reverse.length cap5 ∧ Grow Ev.cells 7 31 w wr A5 cap5 (l.drop k).reverse) (fun s i _ => (intOf i + 1).toNat)
  case atStart => exact ⟨l.length, none, 0, Nat.le_refl _, rfl, by simp, by rw [List.drop_length]; exact Grow.nil _ _ _ _ _ (Chg.refl _ _)⟩
  case round =>
    obtain ⟨k, A5, cap5, hk, rfl, rfl, hG⟩ := hrel
    cases k with
    | zero =>
      rw [List.drop_zero] at hG
      rw [List.drop_zero]
      have HG := Lib.hid hG
      have hrl : l.reverse.length = l.length := by simp
      rw [hrl]
      have hck := hG.2.1
      clear hG
      obtain ⟨⟨v1, vb⟩, hv⟩ : ∃ o, refV f l = o := ⟨_, rfl⟩
      have hvr : refV f l.reverse = (v1, vb) := by rw [← hv, refV_victim, refV_victim, victim_reverse]
      have HV := Lib.hid hv
      have HVR := Lib.hid hvr
      clear hvr
      go_wp2_with fail
      refine (victim_any f A l.length c l _ (HL.out.non hck) (by omega)).mono ?_
      rintro e w2 ⟨rfl, hc2⟩
      rw [HV.out]
      unfold Ev.val
      clear hv
      have V2 := (Blk.new w2 #[.int .i64 v1.at_, .int .i64 v1.src, .int .i64 v1.sent, .int .i64 v1.no, .int .i64 v1.dst, .int .i64 v1.kind, .int .i64 v1.data] 31)
      have hcA := hc2.alloc (.cells #[.int .i64 v1.at_, .int .i64 v1.src, .int .i64 v1.sent, .int .i64 v1.no, .int .i64 v1.dst, .int .i64 v1.kind, .int .i64 v1.data] 31)
      go_wp2_with fail
      have hG2 := HG.out.non hcA
      have hcB := hG2.2.1
      refine (victim_any f A5 l.length cap5 l.reverse _ (by have := hG2.read Ev.len (by decide); rwa [hrl] at this) (by omega)).mono ?_
      rintro e w3 ⟨rfl, hc3⟩
      rw [HVR.out]
      have V3 := V2.chg hc3 id
      have hcC := (hcB.trans hc3 (fun _ x => x.elim)).alloc (.cells #[.int .i64 v1.at_, .int .i64 v1.src, .int .i64 v1.sent, .int .i64 v1.no, .int .i64 v1.dst, .int .i64 v1.kind, .int .i64 v1.data] 31)
      have V3' := V3.alloc (.cells #[.int .i64 v1.at_, .int .i64 v1.src, .int .i64 v1.sent, .int .i64 v1.no, .int .i64 v1.dst, .int .i64 v1.kind, .int .i64 v1.data] 31)
      have V4 := Blk.new w3 #[.int .i64 v1.at_, .int .i64 v1.src, .int .i64 v1.sent, .int .i64 v1.no, .int .i64 v1.dst, .int .i64 v1.kind, .int .i64 v1.data] 31
      unfold Ev.val
      clear hG2 hcB
      go_wp2_with fail
      refine (refVictim_any f A l.length c l _ (HL.out.non hcC) (by omega)).mono ?_
      rintro e w4 ⟨rfl, hc4⟩
      rw [HV.out]
      have V5 := (V3'.chg hc4 id).alloc (.cells #[.int .i64 v1.at_, .int .i64 v1.src, .int .i64 v1.sent, .int .i64 v1.no, .int .i64 v1.dst, .int .i64 v1.kind, .int .i64 v1.data] 31)
      have V6 := (V4.chg hc4 id).alloc (.cells #[.int .i64 v1.at_, .int .i64 v1.src, .int .i64 v1.sent, .int .i64 v1.no, .int .i64 v1.dst, .int .i64 v1.kind, .int .i64 v1.data] 31)
      have V7 := Blk.new w4 #[.int .i64 v1.at_, .int .i64 v1.src, .int .i64 v1.sent, .int .i64 v1.no, .int .i64 v1.dst, .int .i64 v1.kind, .int .i64 v1.data] 31
      have hcD := (hcC.trans hc4 (fun _ x => x.elim)).alloc (.cells #[.int .i64 v1.at_, .int .i64 v1.src, .int .i64 v1.sent, .int .i64 v1.no, .int .i64 v1.dst, .int .i64 v1.kind, .int .i64 v1.data] 31)
      obtain ⟨a0, a1, a2, a3, a4, a5, a6⟩ := V5.seven
      obtain ⟨b0, b1, b2, b3, b4, b5, b6⟩ := V6.seven
      obtain ⟨c0, c1, c2, c3, c4, c5, c6⟩ := V7.seven
      have heq := ev_eq v1 v1
      rw [decide_eq_true rfl] at heq
      unfold Ev.val
      clear hck hc2 hcA hc3 hcC hc4 V2 V3 V3' V4 V5 V6 V7
      cases vb
      all_goals
        go_wp2_with fail
        refine (awake17_any _).mono ?_
        rintro e w5 ⟨rfl, hb5⟩
        go_wp2
        go_ret
        exact ⟨rfl, (hcD.then_below hb5).non_below⟩
    | succ k =>
      have hs : l[k]? = some (l[k]'(by omega)) := List.getElem?_eq_getElem (by omega)
      generalize l[k]'(by omega) = p at hs
      have hrv := rev_take l k p hs
      obtain ⟨ad, rfl, d0, d1, d2, d3, d4, d5, d6⟩ := ev_at (HL.out.non hG.2.1) hs
      have hml : (l.drop (k + 1)).reverse.length + (k + 1) = l.length := by simp; omega
      have HG := Lib.hid hG
      have HR := Lib.hid hrv
      clear hrv hs hG
      generalize hM : (l.drop (k + 1)).reverse = M at *
      clear hM
      have HML := Lib.hid hml
      clear hml
      have hk0 : (0 : Int) ≤ ((k + 1 : Nat) : Int) - 1 := by omega
      have hix : (((k + 1 : Nat) : Int) - 1) = (k : Int) := by omega
      rw [hix]
      clear hix hk0
      go_wp2_with (at_builtin; refine ap_push rfl (.tmp 24) (.tmp 29) 27 rfl 31 (.agg #[.int .i64 0, .int .i64 0, .int .i64 0, .int .i64 0, .int .i64 0, .int .i64 0, .int .i64 0]) 7 56 Try.underlying27 (by kernel_rfl) rfl (by decide) HG.out ((Chg.refl Non _).alloc _) p rfl wr.heap.size (Blk.new _ _ _) rfl rfl (by simpa using Ev.one [p]) (by unfold maxLen; have := HML.out; omega) (by have := HML.out; omega) ?_; intro g cap2 w2 hG2)
      go_roundw
      case rel => exact ⟨k, some ⟨g, 0, none⟩, cap2, by omega, rfl, by rw [← HR.out]; simp, by rw [← HR.out]; exact hG2⟩
      case measure => simp [intOf]
end Go.Proofs.Ytmdpbbnieehmnaa
