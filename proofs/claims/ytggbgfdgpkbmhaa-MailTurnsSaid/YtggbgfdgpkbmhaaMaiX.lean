/- mail: what is taken first does not count: the walk. -/
import Derived.Test.YtggbgfdgpkbmhaaMaiW
namespace Go.Proofs.Ytggbgfdgpkbmhaa
open Go.RowKit
set_option linter.unusedSimpArgs false
set_option linter.unusedVariables false

set_option maxHeartbeats 8000000 in
set_option maxRecDepth 100000 in
theorem mailTurns_any (A : Option Addr) (n c : Nat) (l : List OpA) (w : World) (h : SlRead OpA.cells 4 w A n c l) (hw : ∀ (i : Nat) o, l[i]? = some o → o.wf w) (a b : Int) :
    Calls Try.prog 11 #[.slice A n c, .int .i64 a, .int .i64 b] w fun e w' => e = .returned (.bool true) ∧ Below w.heap.size w w' := by
  have hlen := h.len
  have HL := Lib.hid h
  have HW := Lib.hid hw
  clear h hw
  cases hfew : fewB l
  · go_enter Try.func11, Try.ntmps11
    go_wp2_with fail
    refine (maiNewI_ok 4 (by decide) (by decide) w).mono ?_
    rintro e w1 ⟨rfl, hN, hc1⟩
    go_wp2_with fail
    refine (hfew ▸ few14_any A n c l _ (HL.out.non hc1)).mono ?_
    rintro e w2 ⟨rfl, rfl⟩
    go_wp2_with fail
    refine (S.awake14_any _).mono ?_
    rintro e w5 ⟨rfl, hb5⟩
    go_wp2
    go_ret
    exact ⟨rfl, (hc1.then_below hb5).non_below⟩
  · obtain ⟨hl40, hl20⟩ := few_true hfew
    have H20 := Lib.hid hl20
    clear hl20
    go_enter Try.func11, Try.ntmps11
    go_wp2_with fail
    refine (maiNewI_ok 4 (by decide) (by decide) w).mono ?_
    rintro e w1 ⟨rfl, hN, hc1⟩
    have hs1 := hc1.size
    have hnl := hN.lt
    go_wp2_with fail
    refine (hfew ▸ few14_any A n c l _ (HL.out.non hc1)).mono ?_
    rintro e w2 ⟨rfl, rfl⟩
    have hP0 : PairNow w w.heap.size w1.heap.size 4 0 (w1.alloc (.cells #[.int .i64 4, .int .i64 0, .slice none 0 0] 59)) :=
      ⟨0, [], ⟨none, 0, none, 0, hN.non ((Chg.refl Non w1).alloc _), ⟨Blk.new _ _ _, World.ownsRow_nil _ _ _ _, fun _ e => by cases e⟩, ⟨Nat.le_refl _, by omega, by omega, (fun _ e => by cases e), (fun _ e => by cases e), fun _ _ e => by cases e⟩⟩, nums_nil 0, by omega, by omega, by simp, hc1.alloc _⟩
    go_wp2_with fail
    go_loopw [10] (fun i wr => ∃ k : Nat, k ≤ n ∧ i = .int .i64 k ∧ PairNow w w.heap.size w1.heap.size 4 k wr) (fun i _ => n - (intOf i).toNat)
    case atStart => exact ⟨0, by omega, rfl, hP0⟩
    case round =>
      obtain ⟨k, hk, rfl, hP⟩ := hrel
      by_cases hlt : k < n
      · have hs : l[k]? = some (l[k]'(by omega)) := List.getElem?_eq_getElem (by omega)
        generalize l[k]'(by omega) = o at hs
        have hch : Chg Non w wr := by obtain ⟨_, _, _, _, _, _, _, hch⟩ := hP; exact hch
        obtain ⟨ad, rfl, o0, o1, o2, o3⟩ := op_at (HL.out.non hch) hs
        have ho := HW.out k o hs
        have h20 := H20.out o (List.mem_of_getElem? hs)
        have HS := Lib.hid hs
        clear hs hch
        go_wp2_with fail
        refine (does_now w wr _ _ 4 k hP (by omega) o ho h20).mono ?_
        rintro e w3 ⟨rfl, hP3⟩
        go_wp2
        go_roundw
        case rel => exact ⟨k + 1, by omega, by go_num, hP3⟩
        case measure => simp [intOf]; omega
      · obtain rfl : k = n := by omega
        obtain ⟨next, m, ⟨NA, cap, RA, rcap, hN0, hR0, hA0⟩, hok, hn0, hn1, hm1, hch⟩ := hP
        have hml : m.length ≤ 100000 := by omega
        clear hn0 hn1 hm1 hok
        go_wp2_with fail
        refine (maiCopyI_any wr _ _ next NA cap m hN0 (by omega)).mono ?_
        rintro e w2 ⟨bc, Ac, capc, rfl, hC2, hc2, hbc, hAc⟩
        have hN2 := hN0.non hc2
        go_wp2_with fail
        refine (maiCopyI_any w2 _ _ next NA cap m hN2 (by omega)).mono ?_
        rintro e w3 ⟨bd, Ad, capd, rfl, hD3, hc3, hbd, hAd⟩
        have hC3 := hC2.non hc3
        have hR3 := (hR0.non hc2).non hc3
        go_wp2_with fail
        refine (same14_any w3 bc _ 4 next Ac RA capc rcap m hC3 hR3 hml (by decide)).mono ?_
        rintro e w4 ⟨rfl, hc4⟩
        have hC4 := hC3.non hc4
        have hD4 := hD3.non hc4
        have z2 := hc2.size
        have z3 := hc3.size
        have z4 := hc4.size
        have hcb : ∀ i, netBlk bc Ac i → wr.heap.size ≤ i ∧ i < w2.heap.size := fun i hi => by
          rcases hi with rfl | ⟨ad, e, rfl⟩
          · exact ⟨hbc, hC2.lt⟩
          · exact ⟨hAc ad e, own_lt hC2.own ad e⟩
        have hdb : ∀ i, netBlk bd Ad i → w2.heap.size ≤ i ∧ i < w3.heap.size := fun i hi => by
          rcases hi with rfl | ⟨ad, e, rfl⟩
          · exact ⟨hbd, hD3.lt⟩
          · exact ⟨hAd ad e, own_lt hD3.own ad e⟩
        obtain ⟨⟨p1, p2, p3⟩, hp⟩ : ∃ o, takeR a m = o := ⟨_, rfl⟩
        obtain ⟨⟨q1, q2, q3⟩, hq⟩ : ∃ o, takeR b p3 = o := ⟨_, rfl⟩
        obtain ⟨⟨x1, x2, x3⟩, hx⟩ : ∃ o, takeR b m = o := ⟨_, rfl⟩
        obtain ⟨⟨y1, y2, y3⟩, hy⟩ : ∃ o, takeR a x3 = o := ⟨_, rfl⟩
        have hpl : p3.length ≤ m.length := by have := (take_sub a m).length_le; rwa [hp] at this
        have hxl : x3.length ≤ m.length := by have := (take_sub b m).length_le; rwa [hx] at this
        have hT1 := maiTakeI_any a w4 bc _ next Ac capc m hC4 (by omega)
        rw [hp] at hT1
        unfold Pk.val at hT1
        go_wp2_with fail
        refine hT1.mono ?_
        rintro e w5 ⟨rfl, hC5, hc5⟩
        have hC5' := hC5.non ((Chg.refl Non w5).alloc (.cells #[.int .i64 p1.no, .int .i64 p1.src, .int .i64 p1.dst, .int .i64 p1.x] 67))
        have hT2 := maiTakeI_any b _ bc _ next Ac capc p3 hC5' (by omega)
        rw [hq] at hT2
        unfold Pk.val at hT2
        go_wp2_with fail
        refine hT2.mono ?_
        rintro e w6 ⟨rfl, hC6, hc6⟩
        have z5 := hc5.size
        have z6 := hc6.size
        simp at z6
        have hD6 := ((hD4.chg hc5 (fun hi => by have := hcb _ hi; omega) (fun ad e hi => by have := hcb _ hi; have := hAd ad e; omega)).non ((Chg.refl Non w5).alloc (.cells #[.int .i64 p1.no, .int .i64 p1.src, .int .i64 p1.dst, .int .i64 p1.x] 67))).chg hc6 (fun hi => by have := hcb _ hi; omega) (fun ad e hi => by have := hcb _ hi; have := hAd ad e; omega)
        have hP6 := (Blk.new w5 #[.int .i64 p1.no, .int .i64 p1.src, .int .i64 p1.dst, .int .i64 p1.x] 67).chg hc6 (fun hi => by have := hcb _ hi; omega)
        have hD6' := hD6.non ((Chg.refl Non w6).alloc (.cells #[.int .i64 q1.no, .int .i64 q1.src, .int .i64 q1.dst, .int .i64 q1.x] 67))
        have hT3 := maiTakeI_any b _ bd _ next Ad capd m hD6' (by omega)
        rw [hx] at hT3
        unfold Pk.val at hT3
        go_wp2_with fail
        refine hT3.mono ?_
        rintro e w7 ⟨rfl, hD7, hc7⟩
        have z7 := hc7.size
        simp at z7
        have hP7 := (hP6.alloc (.cells #[.int .i64 q1.no, .int .i64 q1.src, .int .i64 q1.dst, .int .i64 q1.x] 67)).chg hc7 (fun hi => by have := hdb _ hi; omega)
        have hQ7 := (Blk.new w6 #[.int .i64 q1.no, .int .i64 q1.src, .int .i64 q1.dst, .int .i64 q1.x] 67).chg hc7 (fun hi => by have := hdb _ hi; omega)
        have hD7' := hD7.non ((Chg.refl Non w7).alloc (.cells #[.int .i64 x1.no, .int .i64 x1.src, .int .i64 x1.dst, .int .i64 x1.x] 67))
        have hT4 := maiTakeI_any a _ bd _ next Ad capd x3 hD7' (by omega)
        rw [hy] at hT4
        unfold Pk.val at hT4
        go_wp2_with fail
        refine hT4.mono ?_
        rintro e w8 ⟨rfl, hD8, hc8⟩
        have z8 := hc8.size
        simp at z8
        have hP8 := ((hP7.alloc (.cells #[.int .i64 x1.no, .int .i64 x1.src, .int .i64 x1.dst, .int .i64 x1.x] 67)).chg hc8 (fun hi => by have := hdb _ hi; omega)).alloc (.cells #[.int .i64 y1.no, .int .i64 y1.src, .int .i64 y1.dst, .int .i64 y1.x] 67)
        have hQ8 := ((hQ7.alloc (.cells #[.int .i64 x1.no, .int .i64 x1.src, .int .i64 x1.dst, .int .i64 x1.x] 67)).chg hc8 (fun hi => by have := hdb _ hi; omega)).alloc (.cells #[.int .i64 y1.no, .int .i64 y1.src, .int .i64 y1.dst, .int .i64 y1.x] 67)
        have hX8 := ((Blk.new w7 #[.int .i64 x1.no, .int .i64 x1.src, .int .i64 x1.dst, .int .i64 x1.x] 67).chg hc8 (fun hi => by have := hdb _ hi; omega)).alloc (.cells #[.int .i64 y1.no, .int .i64 y1.src, .int .i64 y1.dst, .int .i64 y1.x] 67)
        have hY8 := Blk.new w8 #[.int .i64 y1.no, .int .i64 y1.src, .int .i64 y1.dst, .int .i64 y1.x] 67
        have hcW : Chg Non wr (w8.alloc (.cells #[.int .i64 y1.no, .int .i64 y1.src, .int .i64 y1.dst, .int .i64 y1.x] 67)) :=
          ((((((((((hc2.trans hc3 (fun _ x => x.elim)).trans hc4 (fun _ x => x.elim)).trans hc5 (fun i hi => .inr (hcb i hi).1)).alloc _).trans hc6 (fun i hi => .inr (hcb i hi).1)).alloc _).trans hc7 (fun i hi => .inr (by have := hdb i hi; omega))).alloc _).trans hc8 (fun i hi => .inr (by have := hdb i hi; omega))).alloc _)
        have hC8 := ((((hC6.non ((Chg.refl Non w6).alloc (.cells #[.int .i64 q1.no, .int .i64 q1.src, .int .i64 q1.dst, .int .i64 q1.x] 67))).chg hc7 (fun hi => by have := hdb _ hi; have := hC2.lt; omega) (fun ad e hi => by have := hdb _ hi; have := own_lt hC2.own ad e; omega)).non ((Chg.refl Non w7).alloc (.cells #[.int .i64 x1.no, .int .i64 x1.src, .int .i64 x1.dst, .int .i64 x1.x] 67))).chg hc8 (fun hi => by have := hdb _ hi; have := hC2.lt; omega) (fun ad e hi => by have := hdb _ hi; have := own_lt hC2.own ad e; omega)).non ((Chg.refl Non w8).alloc (.cells #[.int .i64 y1.no, .int .i64 y1.src, .int .i64 y1.dst, .int .i64 y1.x] 67))
        have hD8' := hD8.non ((Chg.refl Non w8).alloc (.cells #[.int .i64 y1.no, .int .i64 y1.src, .int .i64 y1.dst, .int .i64 y1.x] 67))
        have hN8 := hN0.non hcW
        have hR8 := hR0.non hcW
        have hyq : y3.length = q3.length := by
          by_cases hab : a = b
          · subst hab
            rw [hp] at hx
            cases hx
            rw [hq] at hy
            cases hy
            rfl
          · have e3 := (take_comm a b hab m).2.2
            rw [hp, hx] at e3
            simp only at e3
            rw [hq, hy] at e3
            simp only at e3
            rw [e3]
        obtain ⟨⟨a0, a1, a2, a3⟩, _⟩ := hP8.four
        obtain ⟨⟨b0, b1, b2, b3⟩, _⟩ := hQ8.four
        obtain ⟨⟨c0, c1, c2, c3⟩, _⟩ := hX8.four
        obtain ⟨⟨d0, d1, d2, d3⟩, _⟩ := hY8.four
        by_cases hab : a = b
        · have hne : (a != b) = false := by rw [hab]; exact bne_self_eq_false b
          go_wp2_with fail
          refine (maiLenI_any _ bc _ next Ac capc q3 hC8).mono ?_
          rintro e w9 ⟨rfl, rfl⟩
          go_wp2_with fail
          refine (maiLenI_any _ bd _ next Ad capd y3 hD8').mono ?_
          rw [hyq]
          rintro e w9 ⟨rfl, rfl⟩
          go_wp2_with fail
          refine (same14_any _ _ _ 4 next NA RA cap rcap m hN8 hR8 hml (by decide)).mono ?_
          rintro e w10 ⟨rfl, hc10⟩
          go_wp2_with fail
          refine (S.awake14_any _).mono ?_
          rintro e w11 ⟨rfl, hb11⟩
          go_wp2
          go_ret
          exact ⟨rfl, (((hch.trans hcW (fun _ x => x.elim)).trans hc10 (fun _ x => x.elim)).then_below hb11).non_below⟩
        · have hne : (a != b) = true := by simpa using hab
          have e1 := take_comm a b hab m
          have e2 := take_comm b a (fun e => hab e.symm) m
          rw [hp, hx] at e1 e2
          simp only at e1 e2
          rw [hy] at e1
          rw [hq] at e2
          simp only at e1 e2
          obtain ⟨rfl, rfl, h3⟩ := e1
          clear h3
          obtain ⟨rfl, rfl, h3⟩ := e2
          clear h3
          have n1 := pk_neq y1
          have n2 := pk_neq q1
          go_wp2_with fail
          refine (maiLenI_any _ bc _ next Ac capc q3 hC8).mono ?_
          rintro e w9 ⟨rfl, rfl⟩
          go_wp2_with fail
          refine (maiLenI_any _ bd _ next Ad capd y3 hD8').mono ?_
          rw [hyq]
          rintro e w9 ⟨rfl, rfl⟩
          go_wp2_with fail
          refine (same14_any _ _ _ 4 next NA RA cap rcap m hN8 hR8 hml (by decide)).mono ?_
          rintro e w10 ⟨rfl, hc10⟩
          go_wp2_with fail
          refine (S.awake14_any _).mono ?_
          rintro e w11 ⟨rfl, hb11⟩
          go_wp2
          go_ret
          exact ⟨rfl, (((hch.trans hcW (fun _ x => x.elim)).trans hc10 (fun _ x => x.elim)).then_below hb11).non_below⟩
end Go.Proofs.Ytggbgfdgpkbmhaa
