/- saves: SavesCuts. -/
import Derived.Test.YtggbgfdgpkbmhaaSavG
namespace Go.Proofs.Ytggbgfdgpkbmhaa
open Go.RowKit
set_option linter.unusedSimpArgs false
set_option linter.unusedVariables false

theorem lastE_eq (below : Int) (l : List SvI) : lastE below l = if belI below l = 0 then 14 else 0 := by
  have hle := belI_le below l
  unfold lastE lastOfI
  split
  · rfl
  · rw [List.getElem?_eq_getElem (by omega)]; rfl

set_option maxHeartbeats 4000000 in
set_option maxRecDepth 100000 in
theorem savesCuts_any (w : World) (A : Option Addr) (n c : Nat) (l : List Op3) (hl : SlRead Op3.cells 3 w A n c l) (at_ : Int) :
    Calls Try.prog 8 #[.slice A n c, .int .i64 at_] w fun e w' => e = .returned (.bool true) ∧ Below w.heap.size w w' := by
  have hn := hl.len
  have HL := Lib.hid hl
  clear hl
  by_cases t1 : 60 < n
  · go_enter Try.func8, Try.ntmps8
    go_wp2_with fail
    refine (newNow w w (Chg.refl _ _) 0).mono ?_
    rintro e w1 ⟨b, g, rfl, hN⟩
    go_wp2_with fail
    refine (awake12_any _).mono ?_
    rintro e w2 ⟨rfl, hb⟩
    go_wp2_with fail
    go_ret
    exact ⟨rfl, (hN.chg.then_below hb).non_below⟩
  by_cases t2 : at_ < 0
  · go_enter Try.func8, Try.ntmps8
    go_wp2_with fail
    refine (newNow w w (Chg.refl _ _) 0).mono ?_
    rintro e w1 ⟨b, g, rfl, hN⟩
    go_wp2_with fail
    refine (awake12_any _).mono ?_
    rintro e w2 ⟨rfl, hb⟩
    go_wp2_with fail
    go_ret
    exact ⟨rfl, (hN.chg.then_below hb).non_below⟩
  by_cases t3 : 1073741824 < at_
  · go_enter Try.func8, Try.ntmps8
    go_wp2_with fail
    refine (newNow w w (Chg.refl _ _) 0).mono ?_
    rintro e w1 ⟨b, g, rfl, hN⟩
    go_wp2_with fail
    refine (awake12_any _).mono ?_
    rintro e w2 ⟨rfl, hb⟩
    go_wp2_with fail
    go_ret
    exact ⟨rfl, (hN.chg.then_below hb).non_below⟩
  go_enter Try.func8, Try.ntmps8
  go_wp2_with fail
  refine (newNow w w (Chg.refl _ _) 0).mono ?_
  rintro e w1 ⟨b, g, rfl, hN⟩
  go_wp2_with fail
  go_loopw [6] (fun i wr => ∃ (k g : Nat) (lst : List SvI), k ≤ n ∧ i = .int .i64 k ∧ RowNow w wr b g lst (k + 1)) (fun i _ => n - (intOf i).toNat)
  case atStart => exact ⟨0, g, _, by omega, rfl, hN⟩
  case round =>
    obtain ⟨k, g, lst, hk, rfl, hN⟩ := hrel
    by_cases hlt : k < n
    · have hs : l[k]? = some (l[k]'(by omega)) := List.getElem?_eq_getElem (by omega)
      generalize l[k]'(by omega) = o at hs
      obtain ⟨ad, rfl, k1, k2, k3⟩ := op3_at HL.out hs
      clear hs
      have K1 := Lib.hid k1
      have K2 := Lib.hid k2
      have K3 := Lib.hid k3
      replace k1 := hN.chg.cell k1 id
      replace k2 := hN.chg.cell k2 id
      replace k3 := hN.chg.cell k3 id
      have HN := Lib.hid (hN.non ((Chg.refl _ _).drew))
      have hch := hN.chg
      go_wp2_with fail
      go_region_held3 (fun w' => w'.cell? (ad.add (k * 3)) = some (.int .i64 o.ask) ∧ w'.cell? ⟨(ad.add (k * 3)).block, (ad.add (k * 3)).off + 1, none⟩ = some (.int .i64 o.at_) ∧ w'.cell? ⟨(ad.add (k * 3)).block, (ad.add (k * 3)).off + 2, none⟩ = some (.int .i64 o.x)) (first | exact ⟨j1, j2, j3⟩ | exact ⟨i1, i2, i3⟩ | exact ⟨k1, k2, k3⟩) (first | (go_at_call 17; refine (refNewNow 0 _).mono ?_; rintro e w1 ⟨p, ga, gx, rfl, hf⟩; have i1 := hf.chg.cell k1 id; have i2 := hf.chg.cell k2 id; have i3 := hf.chg.cell k3 id) | (go_at_call 16; refine (doesNow o.ask o.at_ o.x HN.out (by omega) hf).mono ?_; rintro e w2 ⟨bo, g', rfl, hN2, _⟩; have j1 := hN2.chg.cell K1.out id; have j2 := hN2.chg.cell K2.out id; have j3 := hN2.chg.cell K3.out id))
      all_goals
        go_wp2
        go_roundw
        case rel => exact ⟨k + 1, g', _, by omega, by go_num, hN2⟩
        case measure => simp [intOf]; omega
    · obtain rfl : k = n := by omega
      obtain ⟨cap, hrow⟩ := hN.row
      have hll := hN.len
      have hpos := hN.pos
      have hle := belI_le at_ lst
      have hlb := hN.ltb
      have hlg := hN.ltg
      have hrise := hN.rise
      have hchN := hN.chg
      have s0 := hchN.size
      have qlb := hN.lb
      have qlg := hN.lg
      clear hN
      go_wp2_with fail
      refine (savCopyI_any _ b g cap lst hrow (by omega)).mono ?_
      rintro e w2 ⟨b2, g2, cap2, rfl, hrow2, hc2, hb2, hg2⟩
      have s2 := hc2.size
      replace hrow := hrow.chg hc2 id id
      replace hchN := hchN.trans hc2 (fun _ x => x.elim)
      clear hc2
      go_wp2_with fail
      refine (savTimesI_any _ b2 g2 cap2 lst hrow2 (by omega)).mono ?_
      rintro e w3 ⟨A3, c3, rfl, hwas, hc3, hA3⟩
      have s3 := hc3.size
      have l2 := hrow2.ltb
      have l3 := hrow2.ltg
      replace hrow := hrow.chg hc3 id id
      replace hrow2 := hrow2.chg hc3 id id
      replace hchN := hchN.trans hc3 (fun _ x => x.elim)
      clear hc3
      obtain ⟨ad3, rfl, _⟩ := hwas.cell 0 _ (List.getElem?_eq_getElem (by rw [List.length_map]; exact hpos))
      replace hA3 := hA3 _ rfl
      have hcap3 := hwas.cap
      have hmax3 := hwas.max
      unfold maxLen at hmax3
      go_wp2_with fail
      refine (savCutI_any at_ _ b2 g2 cap2 lst hrow2 (by omega)).mono ?_
      rintro e w4 ⟨rfl, hd⟩
      obtain ⟨M, hM⟩ : ∃ M, max 1 (belI at_ lst) = M := ⟨_, rfl⟩
      rw [hM] at hd ⊢
      have hM1 : 1 ≤ M := by omega
      have hM2 : M ≤ lst.length := by omega
      have htl : (lst.take M).length = M := by rw [List.length_take]; omega
      have HTL := Lib.hid htl
      have HM := Lib.hid hM
      clear hM htl
      obtain ⟨g4, cap4, hrow4, hg4⟩ := hd.row
      have hc4 := hd.chg
      have s4 := hc4.size
      have l4 := hrow4.ltb
      have l5 := hrow4.ltg
      replace hrow := hrow.chg hc4 (by omega) (by omega)
      replace hwas := hwas.chg hc4 (fun ad e => by cases e; omega)
      replace hchN := hchN.trans hc4 (fun i hi => .inr (by omega))
      clear hd
      have htk := HTL.out
      go_wp2_with fail
      refine (savTimesI_any _ b2 g4 cap4 (lst.take M) hrow4 (by omega)).mono ?_
      rintro e w5 ⟨A5, c5, rfl, hnow, hc5, hA5⟩
      rw [htk] at hnow ⊢
      have s5 := hc5.size
      replace hrow := hrow.chg hc5 id id
      replace hrow4 := hrow4.chg hc5 id id
      replace hwas := hwas.non hc5
      replace hchN := hchN.trans hc5 (fun _ x => x.elim)
      clear hc5 htk hc4
      obtain ⟨ad5, rfl, _⟩ := hnow.cell 0 _ (List.getElem?_eq_getElem (by rw [List.length_map, HTL.out]; omega))
      have hcap5 := hnow.cap
      have hmax5 := hnow.max
      unfold maxLen at hmax5
      obtain ⟨R, hR⟩ : ∃ R : Int, (lst.length : Int) - (M : Int) = R := ⟨_, rfl⟩
      rw [hR]
      go_wp2_with fail
      rw [show ((lst.length : Int) - R).toNat = M by omega]
      refine (ints_any _ (some ad5) M c5 _ hnow (some ad3) M c3 _ (hwas.take_ M (by omega))).mono ?_
      rintro e w6 ⟨rfl, hc6⟩
      rw [decide_eq_true (by rw [List.map_take])]
      have s6 := hc6.size
      replace hrow := hrow.chg hc6 id id
      replace hrow4 := hrow4.chg hc6 id id
      replace hnow := hnow.non hc6
      replace hchN := hchN.trans hc6 (fun _ x => x.elim)
      clear hc6 hwas
      go_wp2_with fail
      go_loop [11] (fun i => ∃ k : Nat, 1 ≤ k ∧ k ≤ M ∧ i = .int .i64 k) (fun i => M - (intOf i).toNat)
      case atStart => exact ⟨1, by omega, by omega, rfl⟩
      case round =>
        obtain ⟨k, hk1, hk, rfl⟩ := hrel
        by_cases hlt : k < M
        · have hM := HM.out
          have hs : lst[k]? = some (lst[k]'(by omega)) := List.getElem?_eq_getElem (by omega)
          have hx := bel_lt at_ lst k _ hs (by omega)
          have hs2 : ((lst.take M).map (·.at_))[k]? = some (lst[k]'(by omega)).at_ := by rw [List.getElem?_map, List.getElem?_take, if_pos hlt, hs]; rfl
          generalize (lst[k]'(by omega)).at_ = x at hx hs2
          obtain ⟨_, e5, k1⟩ := int_at hnow hs2
          cases e5
          clear hs2 hs hM
          go_wp2
          go_round
          case rel => exact ⟨k + 1, by omega, by omega, by go_num⟩
          case measure => simp [intOf]; omega
        · obtain rfl : k = M := by omega
          have hs : lst[0]? = some (lst[0]'(by omega)) := List.getElem?_eq_getElem (by omega)
          have hs2 : ((lst.take k).map (·.at_))[0]? = some (lst[0]'(by omega)).at_ := by rw [List.getElem?_map, List.getElem?_take, if_pos (by omega), hs]; rfl
          have hx := bel_iff hrise at_ hs
          generalize (lst[0]'(by omega)).at_ = x at hx hs2
          obtain ⟨_, e5, k1⟩ := int_at hnow hs2
          cases e5
          have k0 : w6.cell? ad5 = some (.int .i64 x) := (show ad5.add 0 = ad5 from by (unfold Addr.add; simp)) ▸ k1
          have HX := Lib.hid hx
          clear hs hs2 hx
          by_cases hz : belI at_ lst = 0
          · have hnx : ¬ x < at_ := fun hh => by have := HX.out.1 hh; omega
            replace hrow := hrow
            go_wp2_with fail
            refine (savLastI_any at_ _ b g cap lst hrow (by omega)).mono ?_
            rintro e w9 ⟨rfl, hc9⟩
            have hE : lastE at_ lst = 14 := by rw [lastE_eq]; simp [hz]
            rw [hE]
            clear hE
            replace hrow := hrow.chg hc9 id id
            replace hchN := hchN.trans hc9 (fun _ x => x.elim)
            clear hc9
            go_wp2_with fail
            refine (savFreeI_any at_ _ b g cap lst hrow (by omega)).mono ?_
            rintro e w10 ⟨rfl, hd⟩
            have hF : belI at_ lst - 1 = 0 := by omega
            rw [hF] at hd ⊢
            clear hF
            have hN : (lst.drop 0).length = lst.length - 0 := by rw [List.length_drop]
            obtain ⟨g10, cap10, hrow10, hg10⟩ := hd.row
            replace hchN := hchN.trans hd.chg (fun i hi => .inr (by omega))
            clear hd hrow
            go_wp2_with fail
            refine (savTimesI_any _ b g10 cap10 (lst.drop 0) hrow10 (by omega)).mono ?_
            rintro e w11 ⟨A11, c11, rfl, hleft, hc11, _⟩
            replace hchN := hchN.trans hc11 (fun _ x => x.elim)
            rw [hN] at hleft ⊢
            clear hN hc11 hrow10
            have hNN : ((lst.length - 0 : Nat) : Int) = (lst.length : Int) - ((0 : Nat) : Int) := by omega
            have hsub2 := IntWalk.i64_in ((lst.length : Int) - ((0 : Nat) : Int)) (by omega)
            generalize hNe : lst.length - 0 = N at hleft hNN ⊢
            have HNE := Lib.hid hNe
            clear hNe
            go_wp2_with fail
            go_loop [17, 18] (fun a i => ∃ k : Nat, k ≤ N ∧ i = .int .i64 k ∧ a = .int .i64 ((min k 0 : Nat) : Int)) (fun _ i => N - (intOf i).toNat)
            case atStart => exact ⟨0, by omega, rfl, by simp⟩
            case round =>
              obtain ⟨k, hk, rfl, rfl⟩ := hrel
              by_cases hlt : k < N
              · have hNe := HNE.out
                have hs : lst[0 + k]? = some (lst[0 + k]'(by omega)) := List.getElem?_eq_getElem (by omega)
                have hx := bel_iff hrise at_ hs
                have hs2 : ((lst.drop (0)).map (·.at_))[k]? = some (lst[0 + k]'(by omega)).at_ := by rw [List.getElem?_map, List.getElem?_drop, hs]; rfl
                generalize (lst[0 + k]'(by omega)).at_ = y at hx hs2
                obtain ⟨ad, rfl, q1⟩ := int_at hleft hs2
                clear hs hs2 hNe
                by_cases hy : y < at_
                · have hkm := hx.1 hy
                  omega
                · have hkm : ¬ (0 + k < belI at_ lst) := fun x => hy (hx.2 x)
                  clear hx
                  go_wp2
                  go_round
                  case rel => exact ⟨k + 1, by omega, by go_num, by congr 2 <;> omega⟩
                  case measure => simp [intOf]; omega
              · obtain rfl : k = N := by omega
                have hmin : min k 0 = 0 := by have := HNE.out; omega
                try rw [hmin]
                clear hmin
                go_wp2_with fail
                refine (awake12_any _).mono ?_
                rintro e w12 ⟨rfl, hb⟩
                go_wp2
                go_ret
                exact ⟨rfl, (hchN.then_below hb).non_below⟩
          · obtain ⟨m, hm⟩ : ∃ m, belI at_ lst = m + 1 := ⟨belI at_ lst - 1, by omega⟩
            have hxx : x < at_ := HX.out.2 (by omega)
            have hMk : k = m + 1 := by have := HM.out; omega
            have htk := HTL.out
            have hsB : saveB at_ (lst.take k) = true := by
              have := bel_take at_ lst k (by omega)
              simp only [saveB, this, htk, Bool.and_eq_true, decide_eq_true_eq]
              omega
            go_wp2_with fail
            refine (savSaveI_any at_ 5 _ b2 g4 cap4 (lst.take k) hrow4 (rising_take hrise k) (by omega)).mono ?_
            rintro e w7 ⟨rfl, hd⟩
            rw [hsB]
            have hsl : (saveL at_ 5 (lst.take k)).length = k + 1 := by simp only [saveL, hsB, if_true, List.length_append, htk]; rfl
            obtain ⟨g7, cap7, hrow7, hg7⟩ := hd.row
            replace hrow := hrow.chg hd.chg (by omega) (by omega)
            replace hchN := hchN.trans hd.chg (fun i hi => .inr (by omega))
            clear hd
            go_wp2_with fail
            refine (savLenI_any _ b2 g7 cap7 _ hrow7 (by omega)).mono ?_
            rintro e w8 ⟨rfl, rfl⟩
            rw [hsl]
            clear hrow7 hsl hsB htk
            replace hrow := hrow
            go_wp2_with fail
            refine (savLastI_any at_ _ b g cap lst hrow (by omega)).mono ?_
            rintro e w9 ⟨rfl, hc9⟩
            have hE : lastE at_ lst = 0 := by rw [lastE_eq]; simp [hz]
            rw [hE]
            clear hE
            replace hrow := hrow.chg hc9 id id
            replace hchN := hchN.trans hc9 (fun _ x => x.elim)
            clear hc9
            go_wp2_with fail
            refine (savFreeI_any at_ _ b g cap lst hrow (by omega)).mono ?_
            rintro e w10 ⟨rfl, hd⟩
            have hF : belI at_ lst - 1 = m := by omega
            rw [hF] at hd ⊢
            clear hF
            have hN : (lst.drop m).length = lst.length - m := by rw [List.length_drop]
            obtain ⟨g10, cap10, hrow10, hg10⟩ := hd.row
            replace hchN := hchN.trans hd.chg (fun i hi => .inr (by omega))
            clear hd hrow
            go_wp2_with fail
            refine (savTimesI_any _ b g10 cap10 (lst.drop m) hrow10 (by omega)).mono ?_
            rintro e w11 ⟨A11, c11, rfl, hleft, hc11, _⟩
            replace hchN := hchN.trans hc11 (fun _ x => x.elim)
            rw [hN] at hleft ⊢
            clear hN hc11 hrow10
            have hNN : ((lst.length - m : Nat) : Int) = (lst.length : Int) - ((m : Nat) : Int) := by omega
            have hsub2 := IntWalk.i64_in ((lst.length : Int) - ((m : Nat) : Int)) (by omega)
            generalize hNe : lst.length - m = N at hleft hNN ⊢
            have HNE := Lib.hid hNe
            clear hNe
            go_wp2_with fail
            go_loop [17, 18] (fun a i => ∃ k : Nat, k ≤ N ∧ i = .int .i64 k ∧ a = .int .i64 ((min k 1 : Nat) : Int)) (fun _ i => N - (intOf i).toNat)
            case atStart => exact ⟨0, by omega, rfl, by simp⟩
            case round =>
              obtain ⟨k, hk, rfl, rfl⟩ := hrel
              by_cases hlt : k < N
              · have hNe := HNE.out
                have hs : lst[m + k]? = some (lst[m + k]'(by omega)) := List.getElem?_eq_getElem (by omega)
                have hx := bel_iff hrise at_ hs
                have hs2 : ((lst.drop (m)).map (·.at_))[k]? = some (lst[m + k]'(by omega)).at_ := by rw [List.getElem?_map, List.getElem?_drop, hs]; rfl
                generalize (lst[m + k]'(by omega)).at_ = y at hx hs2
                obtain ⟨ad, rfl, q1⟩ := int_at hleft hs2
                clear hs hs2 hNe
                by_cases hy : y < at_
                · have hkm := hx.1 hy
                  clear hx
                  go_wp2
                  go_round
                  case rel => exact ⟨k + 1, by omega, by go_num, by congr 1 <;> omega⟩
                  case measure => simp [intOf]; omega
                · have hkm : ¬ (m + k < belI at_ lst) := fun x => hy (hx.2 x)
                  clear hx
                  go_wp2
                  go_round
                  case rel => exact ⟨k + 1, by omega, by go_num, by congr 2 <;> omega⟩
                  case measure => simp [intOf]; omega
              · obtain rfl : k = N := by omega
                have hmin : min k 1 = 1 := by have := HNE.out; omega
                try rw [hmin]
                clear hmin
                go_wp2_with fail
                refine (awake12_any _).mono ?_
                rintro e w12 ⟨rfl, hb⟩
                go_wp2
                go_ret
                exact ⟨rfl, (hchN.then_below hb).non_below⟩
end Go.Proofs.Ytggbgfdgpkbmhaa
