/- events: the document's Victim. -/
import Derived.Test.YtmdpbbnieehmnaaVicH
namespace Go.Proofs.Ytmdpbbnieehmnaa
open Go.RowKit
set_option linter.unusedSimpArgs false
set_option linter.unusedVariables false

/-- The document's loop, one event on. -/
def refStep (f : Int) (o : Ev × Bool) (e : Ev) : Ev × Bool := if goodEv f e = true then (if o.2 = true then (better o.1 e, true) else (e, true)) else o
def refV (f : Int) (l : List Ev) : Ev × Bool := l.foldl (refStep f) (Ev.zero, false)
theorem refV_snoc (f : Int) (l : List Ev) (e : Ev) : refV f (l ++ [e]) = refStep f (refV f l) e := by simp [refV]
theorem refV_fold (f : Int) : ∀ (l : List Ev) (m : Ev), l.foldl (refStep f) (m, true) = (maxBy m (l.filter (goodEv f)), true) := by
  intro l
  induction l with
  | nil => intro m; rfl
  | cons e l ih =>
    intro m
    rw [List.foldl_cons]
    cases h : goodEv f e
    · rw [List.filter_cons_of_neg (by simp [h])]
      have : refStep f (m, true) e = (m, true) := by simp [refStep, h]
      rw [this, ih]
    · rw [List.filter_cons_of_pos h]
      have : refStep f (m, true) e = (better m e, true) := by simp [refStep, h]
      rw [this, ih]
      rfl
theorem refV_victim (f : Int) : ∀ l : List Ev, refV f l = match victim f l with
    | some m => (m, true)
    | none => (Ev.zero, false) := by
  intro l
  unfold victim refV
  induction l with
  | nil => rfl
  | cons e l ih =>
    rw [List.foldl_cons]
    cases h : goodEv f e
    · rw [List.filter_cons_of_neg (by simp [h])]
      have : refStep f (Ev.zero, false) e = (Ev.zero, false) := by simp [refStep, h]
      rw [this, ih]
    · rw [List.filter_cons_of_pos h]
      have : refStep f (Ev.zero, false) e = (e, true) := by simp [refStep, h]
      rw [this, refV_fold]
      rfl

set_option maxHeartbeats 8000000 in
set_option maxRecDepth 100000 in
theorem refVictim_any (f : Int) (A : Option Addr) (n c : Nat) (l : List Ev) (w : World) (h : SlRead Ev.cells 7 w A n c l) (hn : n ≤ 1000000) :
    Calls Try.prog 28 #[.int .i64 f, .slice A n c] w fun e w' => e = .returned (.tuple #[(refV f l).1.val, .bool (refV f l).2]) ∧ Chg Non w w' := by
  have hlen := h.len
  have hM0 : MaxNow w Ev.zero ((w.alloc (.cells #[.int .i64 0, .int .i64 0, .int .i64 0, .int .i64 0, .int .i64 0, .int .i64 0, .int .i64 0] 31)).alloc (.cells #[.int .i64 0, .int .i64 0, .int .i64 0, .int .i64 0, .int .i64 0, .int .i64 0, .int .i64 0] 31)) :=
    ⟨(Blk.new _ _ _).alloc _, Blk.new_at (by simp), ((Chg.refl Non w).alloc _).alloc _, by simp⟩
  have HL := Lib.hid h
  clear h
  go_enter Try.func28, Try.ntmps28
  go_wp2_with fail
  go_loopw [7, 8] (fun s i wr => ∃ (k : Nat) (o : Ev) (b : Bool), k ≤ n ∧ i = .int .i64 k ∧ s = .bool b ∧ Hid (refV f (l.take k) = (o, b)) ∧ MaxNow w o wr) (fun s i _ => n - (intOf i).toNat)
  case atStart => exact ⟨0, Ev.zero, false, by omega, rfl, rfl, rfl, hM0⟩
  case round =>
    obtain ⟨k, o, b, hk, rfl, rfl, hR, hB0, hB1, hch, hsz⟩ := hrel
    by_cases hlt : k < n
    · have hs : l[k]? = some (l[k]'(by omega)) := List.getElem?_eq_getElem (by omega)
      have hts : l.take (k + 1) = l.take k ++ [l[k]'(by omega)] := by rw [List.take_add_one, hs]; rfl
      generalize l[k]'(by omega) = p at hs hts
      obtain ⟨ad, rfl, d0, d1, d2, d3, d4, d5, d6⟩ := ev_at (HL.out.non hch) hs
      have hB0a := hB0.alloc (.cells #[.int .i64 p.at_, .int .i64 p.src, .int .i64 p.sent, .int .i64 p.no, .int .i64 p.dst, .int .i64 p.kind, .int .i64 p.data] 31)
      have hB1a := hB1.alloc (.cells #[.int .i64 p.at_, .int .i64 p.src, .int .i64 p.sent, .int .i64 p.no, .int .i64 p.dst, .int .i64 p.kind, .int .i64 p.data] 31)
      have hcha := hch.alloc (.cells #[.int .i64 p.at_, .int .i64 p.src, .int .i64 p.sent, .int .i64 p.no, .int .i64 p.dst, .int .i64 p.kind, .int .i64 p.data] 31)
      have hEa := Blk.new wr #[.int .i64 p.at_, .int .i64 p.src, .int .i64 p.sent, .int .i64 p.no, .int .i64 p.dst, .int .i64 p.kind, .int .i64 p.data] 31
      obtain ⟨c0, c1, c2, c3, c4, c5, c6⟩ := hB1a.seven
      obtain ⟨f0, f1, f2, f3, f4, f5, f6⟩ := hB1a.sevenf
      obtain ⟨e0, e1, e2, e3, e4, e5, e6⟩ := hEa.seven
      have hst : refV f (l.take (k + 1)) = refStep f (o, b) p := by rw [hts, refV_snoc, hR.out]
      have HT := Lib.hid hst
      have hkeep : ∀ (o' : Ev) (b' : Bool), refStep f (o, b) p = (o', b') → Hid (refV f (l.take (k + 1)) = (o', b')) := fun o' b' e => HT.out.trans e
      have HK := Lib.hid hkeep
      clear hts hst hkeep hs
      by_cases q1 : p.src < 0
      · have hg : goodEv f p = false := by unfold goodEv; rw [decide_eq_false (by omega : ¬ 0 ≤ p.src)]; rfl
        have hkp := Lib.hid (HK.out o b (by unfold refStep; rw [hg]; rfl))
        clear hg
        go_wp2
        go_roundw
        case rel => exact ⟨k + 1, o, b, by omega, by go_num, rfl, hkp.out, hB0a, hB1a, hcha, by simp; omega⟩
        case measure => simp [intOf]; omega
      · by_cases q2 : p.sent < f
        · have hg : goodEv f p = false := by unfold goodEv; rw [decide_eq_false (by omega : ¬ f ≤ p.sent)]; simp
          have hkp := Lib.hid (HK.out o b (by unfold refStep; rw [hg]; rfl))
          clear hg
          go_wp2
          go_roundw
          case rel => exact ⟨k + 1, o, b, by omega, by go_num, rfl, hkp.out, hB0a, hB1a, hcha, by simp; omega⟩
          case measure => simp [intOf]; omega
        · have hg : goodEv f p = true := by unfold goodEv; rw [decide_eq_true (by omega : 0 ≤ p.src), decide_eq_true (by omega : f ≤ p.sent)]; rfl
          have HG := Lib.hid hg
          clear hg
          have hS := Chg.set7 (wr.alloc (.cells #[.int .i64 p.at_, .int .i64 p.src, .int .i64 p.sent, .int .i64 p.no, .int .i64 p.dst, .int .i64 p.kind, .int .i64 p.data] 31)) (w.heap.size + 1) (.int .i64 p.at_) (.int .i64 p.src) (.int .i64 p.sent) (.int .i64 p.no) (.int .i64 p.dst) (.int .i64 p.kind) (.int .i64 p.data)
          have hza : w.heap.size + 2 ≤ (wr.alloc (.cells #[.int .i64 p.at_, .int .i64 p.src, .int .i64 p.sent, .int .i64 p.no, .int .i64 p.dst, .int .i64 p.kind, .int .i64 p.data] 31)).heap.size := by simp; omega
          have hTake : ∀ b', refStep f (o, b) p = (p, b') → ∃ (k_1 : Nat) (o' : Ev) (b'' : Bool), k_1 ≤ n ∧ Value.int .i64 ((k : Int) + 1) = Value.int .i64 k_1 ∧ Value.bool b' = Value.bool b'' ∧ Hid (refV f (l.take k_1) = (o', b'')) ∧ MaxNow w o' (((((((((wr.alloc (.cells #[.int .i64 p.at_, .int .i64 p.src, .int .i64 p.sent, .int .i64 p.no, .int .i64 p.dst, .int .i64 p.kind, .int .i64 p.data] 31)).setCell ⟨w.heap.size + 1, 0, none⟩ (.int .i64 p.at_)).setCell ⟨w.heap.size + 1, 1, none⟩ (.int .i64 p.src)).setCell ⟨w.heap.size + 1, 2, none⟩ (.int .i64 p.sent)).setCell ⟨w.heap.size + 1, 3, none⟩ (.int .i64 p.no)).setCell ⟨w.heap.size + 1, 4, none⟩ (.int .i64 p.dst)).setCell ⟨w.heap.size + 1, 5, none⟩ (.int .i64 p.kind)).setCell ⟨w.heap.size + 1, 6, none⟩ (.int .i64 p.data))) := fun b' hb' =>
            ⟨k + 1, p, b', by omega, by go_num, rfl, HK.out p b' hb', hB0a.chg hS (by omega), hB1a.set7 _ _ _ _ _ _ _, hcha.trans hS (fun i hi => .inr (by have hi' : i = w.heap.size + 1 := hi; omega)), Nat.le_trans hza hS.size⟩
          have HTK := Lib.hid hTake
          clear hTake
          cases b
          · have hfin := Lib.hid (HTK.out true (by unfold refStep; rw [HG.out]; rfl))
            go_wp2
            go_roundw
            case rel => exact hfin.out
            case measure => simp [intOf]; omega
          · have hvs : p.sent ≠ o.sent → lexC p.vkey o.vkey = if p.sent < o.sent then -1 else 1 := fun h => lexC_ne h
            have hve : p.sent = o.sent → lexC p.vkey o.vkey = lexC p.key o.key := fun h => by unfold Ev.vkey; rw [h, lexC_eq]
            have hsw := lexC_swap o.key p.key
            by_cases r1 : o.sent < p.sent
            · have hv := hvs (by omega)
              rw [if_neg (by omega)] at hv
              have hfin := Lib.hid (HTK.out true (by unfold refStep better; rw [HG.out]; simp [hv]))
              clear hv hvs hve hsw
              go_wp2
              go_roundw
              case rel => exact hfin.out
              case measure => simp [intOf]; omega
            · by_cases r2 : p.sent = o.sent
              · have hb : (p.sent == o.sent) = true := by simp [r2]
                have hv := hve r2
                have hAh := fun w => ahead_any o p w
                unfold Ev.val at hAh
                by_cases r3 : lexC o.key p.key < 0
                · have ha : aheadB o p = true := by simp [aheadB, r3]
                  rw [ha] at hAh
                  have hbt : better o p = p := if_pos (by rw [hv]; omega)
                  have hkp := Lib.hid (HK.out p true (by unfold refStep; rw [HG.out]; simp [hbt]))
                  clear hv hvs hve hsw ha r3 hbt r2
                  go_wp2_with fail
                  refine (hAh _).mono ?_
                  rintro e w3 ⟨rfl, hc3⟩
                  have hB03 := hB0a.chg hc3 id
                  have hB13 := hB1a.chg hc3 id
                  have hch3 := hcha.trans hc3 (fun _ x => x.elim)
                  have hs3 := hc3.size
                  obtain ⟨u0, u1, u2, u3, u4, u5, u6⟩ := (hEa.chg hc3 id).seven
                  obtain ⟨v0, v1, v2, v3, v4, v5, v6⟩ := hB13.seven
                  obtain ⟨x0, x1, x2, x3, x4, x5, x6⟩ := hB13.sevenf
                  go_wp2
                  go_roundw
                  case rel =>
                    have hS3 := Chg.set7 w3 (w.heap.size + 1) (.int .i64 p.at_) (.int .i64 p.src) (.int .i64 p.sent) (.int .i64 p.no) (.int .i64 p.dst) (.int .i64 p.kind) (.int .i64 p.data)
                    exact ⟨k + 1, p, true, by omega, by go_num, rfl, hkp.out, hB03.chg hS3 (by omega), hB13.set7 _ _ _ _ _ _ _, hch3.trans hS3 (fun i hi => .inr (by have hi' : i = w.heap.size + 1 := hi; omega)), Nat.le_trans (Nat.le_trans hza hs3) hS3.size⟩
                  case measure => simp [intOf]; omega
                · have ha : aheadB o p = false := by simp [aheadB]; omega
                  rw [ha] at hAh
                  have hbt : better o p = o := if_neg (by rw [hv]; omega)
                  have hkp := Lib.hid (HK.out o true (by unfold refStep; rw [HG.out]; simp [hbt]))
                  clear hv hvs hve hsw ha r3 hbt r2
                  go_wp2_with fail
                  refine (hAh _).mono ?_
                  rintro e w3 ⟨rfl, hc3⟩
                  have hB03 := hB0a.chg hc3 id
                  have hB13 := hB1a.chg hc3 id
                  have hch3 := hcha.trans hc3 (fun _ x => x.elim)
                  have hs3 := hc3.size
                  go_wp2
                  go_roundw
                  case rel => exact ⟨k + 1, o, true, by omega, by go_num, rfl, hkp.out, hB03, hB13, hch3, Nat.le_trans hza hs3⟩
                  case measure => simp [intOf]; omega
              · have hb : (p.sent == o.sent) = false := by simp [r2]
                have hv := hvs r2
                rw [if_pos (by omega)] at hv
                have hbt : better o p = o := if_neg (by rw [hv]; omega)
                have hkp := Lib.hid (HK.out o true (by unfold refStep; rw [HG.out]; simp [hbt]))
                clear hv hvs hve hsw hbt
                go_wp2
                go_roundw
                case rel => exact ⟨k + 1, o, true, by omega, by go_num, rfl, hkp.out, hB0a, hB1a, hcha, hza⟩
                case measure => simp [intOf]; omega
    · obtain rfl : k = n := by omega
      have hR' := hR.out
      rw [List.take_of_length_le (by omega)] at hR'
      have HR := Lib.hid hR'
      clear hR hR'
      obtain ⟨y0, y1, y2, y3, y4, y5, y6⟩ := hB0.sevenf
      obtain ⟨x0, x1, x2, x3, x4, x5, x6⟩ := hB0.seven
      obtain ⟨c0, c1, c2, c3, c4, c5, c6⟩ := hB1.seven
      go_wp2
      obtain ⟨z0, z1, z2, z3, z4, z5, z6⟩ := (hB0.set7 (.int .i64 o.at_) (.int .i64 o.src) (.int .i64 o.sent) (.int .i64 o.no) (.int .i64 o.dst) (.int .i64 o.kind) (.int .i64 o.data)).seven
      refine bodyPost_ret (v := .tuple #[o.val, .bool b]) (by simp [results, Try.results28, go_sem, Ev.val, z0, z1, z2, z3, z4, z5, z6]) rfl ⟨by rw [HR.out], ?_⟩
      exact hch.trans (Chg.set7 wr w.heap.size _ _ _ _ _ _ _) (fun i hi => .inr (by have hi' : i = w.heap.size := hi; omega))
end Go.Proofs.Ytmdpbbnieehmnaa
