/- mail: same. -/
import Derived.Test.YtggbgfdgpkbmhaaMaiT
namespace Go.Proofs.Ytggbgfdgpkbmhaa
open Go.RowKit
set_option linter.unusedSimpArgs false
set_option linter.unusedVariables false

theorem maiLeastI_any (w : World) (b : Nat) (boxes next : Int) (A : Option Addr) (cap : Nat) (l : List Pk) (h : NetAt w b boxes next A cap l) (hn : l.length ≤ 1000000) :
    Calls Try.prog 39 #[.pointer (some ⟨b, 0, none⟩), .func (.func 40) #[] #[]] w fun e w' => e = .returned (.tuple #[.int .i64 (leastR l), .bool (decide (0 < l.length))]) ∧ Chg Non w w' := by
  cases l with
  | nil =>
    refine (maiLeastI_zero w b boxes next A cap h).mono ?_
    rintro e w' ⟨rfl, hc⟩
    exact ⟨rfl, hc⟩
  | cons p t =>
    refine (maiLeastI_some w b boxes next A cap p t _ rfl h hn).mono ?_
    rintro e w' ⟨rfl, hc⟩
    exact ⟨by simp, hc⟩
theorem least_one (p : Pk) : leastR [p] = twiceR p.x := by simp [leastR]
theorem least_snoc (l : List Pk) (h : 0 < l.length) (s : Pk) : leastR (l ++ [s]) = min (leastR l) (twiceR s.x) := by
  cases l with
  | nil => simp at h
  | cons p t => simp [leastR, List.foldl_append]

set_option maxHeartbeats 4000000 in
set_option maxRecDepth 100000 in
theorem same14_any (w : World) (bn bo : Nat) (K : Nat) (next : Int) (A R : Option Addr) (cap rcap : Nat) (l : List Pk) (hN : NetAt w bn (K : Int) next A cap l) (hR : RNetAt w bo (K : Int) next R rcap l) (hn : l.length ≤ 100000) (hK : K ≤ 64) :
    Calls Try.prog 35 #[.pointer (some ⟨bn, 0, none⟩), .pointer (some ⟨bo, 0, none⟩)] w fun e w' => e = .returned (.bool true) ∧ Chg Non w w' := by
  have HN := Lib.hid hN
  have HR := Lib.hid hR
  clear hN hR
  go_enter Try.func35, Try.ntmps35
  go_wp2
  go_loopw [5] (fun i wr => ∃ k : Nat, k ≤ K + 2 ∧ i = .int .i64 ((k : Int) - 1) ∧ Chg Non w wr) (fun i _ => K + 2 - (intOf i + 1).toNat)
  case atStart => exact ⟨0, by omega, rfl, Chg.refl _ _⟩
  case round =>
    obtain ⟨k, hk, rfl, hch⟩ := hrel
    have hN2 := HN.out.non hch
    have hR2 := HR.out.non hch
    obtain ⟨⟨d0, _, _⟩, _⟩ := hR2.blk.three
    by_cases hlt : k < K + 2
    · have hle : ((k : Int) - 1) ≤ K := by omega
      go_wp2_with fail
      refine (maiToI_any ((k : Int) - 1) _ bn K next A cap l hN2 (by omega)).mono ?_
      rintro e w2 ⟨bl, q, r, A2, c2, rfl, hI, hc2, _⟩
      go_wp2_with fail
      refine (refTo_any ((k : Int) - 1) w2 bo K next R rcap l (hR2.non hc2) (by omega)).mono ?_
      rintro e w3 ⟨A3, c3, rfl, ho, hc3, _⟩
      go_wp2_with fail
      refine (packetsT_any w3 bl q r ((k : Int) - 1) A2 c2 l (hI.non hc3) (by omega) A3 _ c3 _ (rown_read ho) rfl).mono ?_
      rintro e w4 ⟨rfl, hc4⟩
      go_wp2
      go_roundw
      case rel => exact ⟨k + 1, by omega, by go_num, ((hch.trans hc2 (fun _ x => x.elim)).trans hc3 (fun _ x => x.elim)).trans hc4 (fun _ x => x.elim)⟩
      case measure => simp [intOf]; omega
    · obtain rfl : k = K + 2 := by omega
      have hle : ¬ (((K + 2 : Nat) : Int) - 1) ≤ K := by omega
      go_wp2_with fail
      refine (maiLeastI_any _ bn K next A cap l hN2 (by omega)).mono ?_
      rintro e w2 ⟨rfl, hc2⟩
      have hch2 := hch.trans hc2 (fun _ x => x.elim)
      clear hN2 hR2 d0
      go_wp2_with fail
      go_loopw [8, 9] (fun m i wr2 => ∃ k : Nat, k ≤ l.length ∧ i = .int .i64 k ∧ m = .int .i64 (leastR (l.take k)) ∧ Chg Non w wr2) (fun m i _ => l.length - (intOf i).toNat)
      case atStart => exact ⟨0, by omega, rfl, rfl, hch2⟩
      case round =>
        obtain ⟨k, hk2, rfl, rfl, hch3⟩ := hrel
        have hN3 := HN.out.non hch3
        have hR3 := HR.out.non hch3
        obtain ⟨⟨_, _, d2⟩, _⟩ := hR3.blk.three
        by_cases hlt2 : k < l.length
        · have hs : l[k]? = some l[k] := List.getElem?_eq_getElem hlt2
          have hts : l.take (k + 1) = l.take k ++ [l[k]] := by rw [List.take_add_one, hs]; rfl
          generalize l[k] = s at hs hts
          obtain ⟨ad, rfl, _, _, _, x3⟩ := pk_at hR3.read hs
          have HT := Lib.hid hts
          clear hts hs hN3 hR3
          by_cases h0 : k = 0
          · have hk0 : ((k : Int) == 0) = true := by rw [h0]; rfl
            have H0 := Lib.hid h0
            clear h0
            go_wp2_with (go_at_call 40; refine (twice14_any s.x _).mono ?_; rintro e w5 ⟨rfl, rfl⟩)
            go_roundw
            case rel => exact ⟨k + 1, by omega, by go_num, by rw [HT.out, H0.out]; simp [least_one], hch3⟩
            case measure => simp [intOf]; omega
          · have hk0 : ((k : Int) == 0) = false := by rw [beq_eq_false_iff_ne]; omega
            have hl0 : 0 < (l.take k).length := by rw [List.length_take]; omega
            by_cases hm : twiceR s.x < leastR (l.take k)
            · go_wp2_with (go_at_call 40; refine (twice14_any s.x _).mono ?_; rintro e w5 ⟨rfl, rfl⟩)
              go_roundw
              case rel => exact ⟨k + 1, by omega, by go_num, by rw [HT.out, least_snoc _ hl0, Int.min_eq_right (by omega)], hch3⟩
              case measure => simp [intOf]; omega
            · go_wp2_with (go_at_call 40; refine (twice14_any s.x _).mono ?_; rintro e w5 ⟨rfl, rfl⟩)
              go_roundw
              case rel => exact ⟨k + 1, by omega, by go_num, by rw [HT.out, least_snoc _ hl0, Int.min_eq_left (by omega)], hch3⟩
              case measure => simp [intOf]; omega
        · obtain rfl : k = l.length := by omega
          rw [List.take_length]
          obtain ⟨zb, hzb⟩ : ∃ zb, decide (0 < l.length) = zb := ⟨_, rfl⟩
          have hzi : decide ((0 : Int) < l.length) = zb := by rw [← hzb]; exact decide_eq_decide.2 (by omega)
          have hN4 := hN3.non ((Chg.refl Non _).drew)
          have hR4 := hR3.non ((Chg.refl Non _).drew)
          have HN4 := Lib.hid hN4
          have HR4 := Lib.hid hR4
          clear hN3 hR3 hN4 hR4
          go_wp2_with fail
          go_region_held3 (fun w' => w'.cell? ⟨bo, 2, none⟩ = some (.slice R l.length rcap)) (first | exact j1 | exact i1 | exact d2) (first | (go_at_call 42; refine (maiAllI_any _ bn K next A cap l HN4.out (by omega)).mono ?_; rintro e w5 ⟨bl, q, r, A5, c5, rfl, hI5, hc5, _⟩; have i1 := hc5.cell (a := ⟨bo, 2, none⟩) d2 id) | (go_at_call 41; refine (packetsA_any _ bl q r 0 A5 c5 l hI5 (by omega) R l.length rcap l (HR4.out.non hc5).read (filtA l)).mono ?_; rintro e w6 ⟨rfl, hc6⟩; have j1 := hc6.cell (a := ⟨bo, 2, none⟩) i1 id) | (go_at_call 34; refine (maiLenI_any _ bn K next A cap l ((HN4.out.non hc5).non hc6)).mono ?_; rintro e w7 ⟨rfl, rfl⟩))
          all_goals
            go_wp2
            go_ret
            exact ⟨rfl, ((hch3.drew.trans hc5 (fun _ x => x.elim)).trans hc6 (fun _ x => x.elim))⟩
end Go.Proofs.Ytggbgfdgpkbmhaa
