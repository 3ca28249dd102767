/- saves: rounds of does with a row behind a fresh document's answer; SavesLast. -/
import Derived.Test.YtggbgfdgpkbmhaaSavE
import Derived.Test.YtggbgfdgpkbmhaaSavA
namespace Go.Proofs.Ytggbgfdgpkbmhaa
open Go.RowKit
set_option linter.unusedSimpArgs false
set_option linter.unusedVariables false

def lastT (below : Int) (l : List SvI) : Int := ((lastOfI below l).map (·.at_)).getD 0
def lastX (below : Int) (l : List SvI) : Int := ((lastOfI below l).map (·.x)).getD 0
def lastE (below : Int) (l : List SvI) : Int := ((lastOfI below l).map (fun _ => 0)).getD 14
theorem savLastI_any (below : Int) (w : World) (b g cap : Nat) (l : List SvI) (h : RowIAt w b g cap l) (hn : l.length ≤ 1000000) :
    Calls Try.prog 23 #[.pointer (some ⟨b, 0, none⟩), .int .i64 below] w fun e w' => e = .returned (.tuple #[.int .i64 (lastT below l), .int .i64 (lastX below l), .int .i64 (lastE below l)]) ∧ Chg Non w w' := by
  have hle := belI_le below l
  by_cases h0 : belI below l = 0
  · have e : lastOfI below l = none := by simp [lastOfI, h0]
    refine (savLastI_none below w b g cap l h hn h0).mono ?_
    rintro e1 w1 ⟨rfl, rfl⟩
    simp only [lastT, lastX, lastE, e]
    exact ⟨rfl, Chg.refl _ _⟩
  · obtain ⟨m, hm⟩ : ∃ m, belI below l = m + 1 := ⟨belI below l - 1, by omega⟩
    have hs : l[m]? = some l[m] := List.getElem?_eq_getElem (by omega)
    have e : lastOfI below l = some l[m] := by simp only [lastOfI, hm]; simp
    refine (savLastI_some below w b g cap l h hn m _ hm hs).mono ?_
    rintro e1 w1 ⟨rfl, hc⟩
    simp only [lastT, lastX, lastE, e]
    exact ⟨rfl, hc⟩

structure RowNow (w0 w : World) (b g : Nat) (l : List SvI) (k : Nat) : Prop where
  row : ∃ cap, RowIAt w b g cap l
  lb : w0.heap.size ≤ b
  lg : w0.heap.size ≤ g
  rise : Rising l
  len : l.length ≤ k
  chg : Chg Non w0 w
theorem RowNow.pos {w0 w : World} {b g : Nat} {l : List SvI} {k : Nat} (h : RowNow w0 w b g l k) : 0 < l.length := by obtain ⟨c, h⟩ := h.row; exact h.pos
theorem RowNow.ltb {w0 w : World} {b g : Nat} {l : List SvI} {k : Nat} (h : RowNow w0 w b g l k) : b < w.heap.size := by obtain ⟨c, h⟩ := h.row; exact h.ltb
theorem RowNow.ltg {w0 w : World} {b g : Nat} {l : List SvI} {k : Nat} (h : RowNow w0 w b g l k) : g < w.heap.size := by obtain ⟨c, h⟩ := h.row; exact h.ltg
theorem RowNow.non {w0 w w1 : World} {b g : Nat} {l : List SvI} {k : Nat} (h : RowNow w0 w b g l k) (hc : Chg Non w w1) : RowNow w0 w1 b g l k := by
  obtain ⟨c, hr⟩ := h.row
  exact ⟨⟨c, hr.chg hc id id⟩, h.lb, h.lg, h.rise, h.len, h.chg.trans hc (fun _ x => x.elim)⟩
theorem RowNow.le {w0 w : World} {b g : Nat} {l : List SvI} {k k' : Nat} (h : RowNow w0 w b g l k) (hk : k ≤ k') : RowNow w0 w b g l k' := ⟨h.row, h.lb, h.lg, h.rise, Nat.le_trans h.len hk, h.chg⟩
theorem rising_one (x : SvI) : Rising [x] := fun i j s t hij hs ht => by
  cases j with
  | zero => omega
  | succ j => simp at ht
theorem newNow (w0 w : World) (hc : Chg Non w0 w) (x : Int) : Calls Try.prog 15 #[.int .i64 x] w fun e w' => ∃ b g, e = .returned (.pointer (some ⟨b, 0, none⟩)) ∧ RowNow w0 w' b g [⟨-1, x⟩] 1 := by
  refine (savNewI_any x w).mono ?_
  rintro e w1 ⟨b, g, cap, rfl, hrow, hch, hb, hg⟩
  have := hc.size
  exact ⟨b, g, rfl, ⟨cap, hrow⟩, by omega, by omega, rising_one _, by simp, hc.trans hch (fun _ x => x.elim)⟩

/-- A fresh document's answer beside a row. -/
structure RefNow (w w1 : World) (p ga gx : Nat) (l2 : List SvI) : Prop where
  ref : ∃ oa ca ox cx, RefAt w1 p ga oa ca gx ox cx l2
  rise : Rising l2
  len : l2.length ≤ 1
  chg : Chg Non w w1
  lp : w.heap.size ≤ p
  la : w.heap.size ≤ ga
  lx : w.heap.size ≤ gx
theorem refNewNow (x : Int) (w : World) : Calls Try.prog 17 #[.int .i64 x] w fun e w' => ∃ p ga gx, e = .returned (.pointer (some ⟨p, 0, none⟩)) ∧ RefNow w w' p ga gx [⟨-1, x⟩] := by
  refine (refNew_any x w).mono ?_
  rintro e w1 ⟨p, ga, ca, gx, cx, rfl, h, hch, h1, h2, h3⟩
  exact ⟨p, ga, gx, rfl, ⟨_, _, _, _, h⟩, rising_one _, by simp, hch, h1, h2, h3⟩

def opO (o : Op3) (l : List SvI) : List SvI := opI o.ask o.at_ o.x l
theorem doesNow (ask at_ x : Int) {w0 w w1 : World} {b g : Nat} {l : List SvI} {k p ga gx : Nat} {l2 : List SvI} (h : RowNow w0 w b g l k) (hk : k ≤ 1000) (hr : RefNow w w1 p ga gx l2) :
    Calls Try.prog 16 #[.pointer (some ⟨b, 0, none⟩), .pointer (some ⟨p, 0, none⟩), opV ask at_ x] w1 fun e w' => ∃ bo g', e = .returned (.bool bo) ∧ RowNow w0 w' b g' (opI ask at_ x l) (k + 1) ∧ Chg (fun i => i = b ∨ i = g) w w' := by
  have hlb := h.ltb
  have hlg := h.ltg
  have hp := hr.lp
  have ha := hr.la
  have hx := hr.lx
  have h1 := h.non hr.chg
  have hll := h.len
  have hl2 := hr.len
  refine (does_any ask at_ x w1 b g l p ga gx l2 ⟨h1.row, hr.ref, by omega, by omega, by omega, by omega, by omega, by omega⟩ h.rise hr.rise (by omega) (by omega)).mono ?_
  rintro e w2 ⟨bo, g', ga', gx', rfl, _, hb, hch, hg, _, _⟩
  have s1 := hr.chg.size
  have s0 := h.chg.size
  have q1 := h.lb
  have q2 := h.lg
  have hol := opI_len l ask at_ x
  refine ⟨bo, g', rfl, ⟨hb.row, q1, by omega, opI_rising h.rise ask at_ x, by omega, h1.chg.trans hch (fun i hi => .inr (by omega))⟩, ?_⟩
  exact (hr.chg.mono (fun _ _ x => x.elim)).trans hch (fun i hi => by omega)

set_option maxHeartbeats 4000000 in
set_option maxRecDepth 100000 in
theorem savesLast_any (w : World) (A : Option Addr) (n c : Nat) (l : List Op3) (hl : SlRead Op3.cells 3 w A n c l) (below : Int) (B : Option Addr) (n2 c2 : Nat) (m : List Op3) (hm : SlRead Op3.cells 3 w B n2 c2 m) :
    Calls Try.prog 6 #[.slice A n c, .int .i64 below, .slice B n2 c2] w fun e w' => e = .returned (.bool true) ∧ Below w.heap.size w w' := by
  have hn := hl.len
  have hn2 := hm.len
  have HL := Lib.hid hl
  have HM := Lib.hid hm
  clear hl hm
  by_cases t1 : 60 < n
  · go_enter Try.func6, Try.ntmps6
    go_wp2_with fail
    refine (newNow w w (Chg.refl _ _) 0).mono ?_
    rintro e w1 ⟨b, g, rfl, hN⟩
    go_wp2_with fail
    refine (awake12_any _).mono ?_
    rintro e w2 ⟨rfl, hb⟩
    go_wp2_with fail
    go_ret
    exact ⟨rfl, (hN.chg.then_below hb).non_below⟩
  by_cases t2 : 60 < n2
  · go_enter Try.func6, Try.ntmps6
    go_wp2_with fail
    refine (newNow w w (Chg.refl _ _) 0).mono ?_
    rintro e w1 ⟨b, g, rfl, hN⟩
    go_wp2_with fail
    refine (awake12_any _).mono ?_
    rintro e w2 ⟨rfl, hb⟩
    go_wp2_with fail
    go_ret
    exact ⟨rfl, (hN.chg.then_below hb).non_below⟩
  go_enter Try.func6, Try.ntmps6
  go_wp2_with fail
  refine (newNow w w (Chg.refl _ _) 0).mono ?_
  rintro e w1 ⟨b, g, rfl, hN⟩
  go_wp2_with fail
  go_loopw [8] (fun i wr => ∃ (k g : Nat) (lst : List SvI), k ≤ n ∧ i = .int .i64 k ∧ RowNow w wr b g lst (k + 1)) (fun i _ => n - (intOf i).toNat)
  case atStart => exact ⟨0, g, _, by omega, rfl, hN⟩
  case round =>
    obtain ⟨k, g, lst, hk, rfl, hN⟩ := hrel
    by_cases hlt : k < n
    · have hs : l[k]? = some (l[k]'(by omega)) := List.getElem?_eq_getElem (by omega)
      generalize l[k]'(by omega) = o at hs
      obtain ⟨ad, rfl, k1, k2, k3⟩ := op3_at HL.out hs
      clear hs
      have K1 := Lib.hid k1
      have K2 := Lib.hid k2
      have K3 := Lib.hid k3
      replace k1 := hN.chg.cell k1 id
      replace k2 := hN.chg.cell k2 id
      replace k3 := hN.chg.cell k3 id
      have HN := Lib.hid (hN.non ((Chg.refl _ _).drew))
      have hch := hN.chg
      go_wp2_with fail
      go_region_held3 (fun w' => w'.cell? (ad.add (k * 3)) = some (.int .i64 o.ask) ∧ w'.cell? ⟨(ad.add (k * 3)).block, (ad.add (k * 3)).off + 1, none⟩ = some (.int .i64 o.at_) ∧ w'.cell? ⟨(ad.add (k * 3)).block, (ad.add (k * 3)).off + 2, none⟩ = some (.int .i64 o.x)) (first | exact ⟨j1, j2, j3⟩ | exact ⟨i1, i2, i3⟩ | exact ⟨k1, k2, k3⟩) (first | (go_at_call 17; refine (refNewNow 0 _).mono ?_; rintro e w1 ⟨p, ga, gx, rfl, hf⟩; have i1 := hf.chg.cell k1 id; have i2 := hf.chg.cell k2 id; have i3 := hf.chg.cell k3 id) | (go_at_call 16; refine (doesNow o.ask o.at_ o.x HN.out (by omega) hf).mono ?_; rintro e w2 ⟨bo, g', rfl, hN2, _⟩; have j1 := hN2.chg.cell K1.out id; have j2 := hN2.chg.cell K2.out id; have j3 := hN2.chg.cell K3.out id))
      all_goals
        go_wp2
        go_roundw
        case rel => exact ⟨k + 1, g', _, by omega, by go_num, hN2⟩
        case measure => simp [intOf]; omega
    · obtain rfl : k = n := by omega
      obtain ⟨cap, hrow⟩ := hN.row
      have hll := hN.len
      go_wp2_with fail
      refine (savLastI_any below _ b g cap lst hrow (by omega)).mono ?_
      rintro e w2 ⟨rfl, hc2⟩
      replace hN := hN.non hc2
      generalize hT : lastT below lst = T
      generalize hX : lastX below lst = X
      generalize hE : lastE below lst = E
      have HO := Lib.hid (show lastT below lst = T ∧ lastX below lst = X ∧ lastE below lst = E from ⟨hT, hX, hE⟩)
      clear hT hX hE hrow hc2
      go_wp2_with fail
      go_loopw [12] (fun i wr => ∃ (j g : Nat) (lst : List SvI), j ≤ n2 ∧ i = .int .i64 j ∧ RowNow w wr b g lst (k + 1 + j) ∧ lastT below lst = T ∧ lastX below lst = X ∧ lastE below lst = E) (fun i _ => n2 - (intOf i).toNat)
      case atStart => exact ⟨0, g, _, by omega, rfl, hN, HO.out⟩
      case round =>
        clear hN HO
        obtain ⟨j, g, lst, hk, rfl, hN, hO⟩ := hrel
        have HO := Lib.hid hO
        clear hO
        by_cases hlt : j < n2
        · have hs : m[j]? = some (m[j]'(by omega)) := List.getElem?_eq_getElem (by omega)
          generalize m[j]'(by omega) = o at hs
          obtain ⟨ad, rfl, k1, k2, k3⟩ := op3_at HM.out hs
          clear hs
          replace k1 := hN.chg.cell k1 id
          replace k2 := hN.chg.cell k2 id
          replace k3 := hN.chg.cell k3 id
          have hll := hN.len
          obtain ⟨oa, ot, ox⟩ := o
          dsimp only at k1 k2 k3
          by_cases a2 : oa = 2
          · subst a2
            have HN := Lib.hid ((hN.non ((Chg.refl _ _).alloc (.cells #[.int .i64 2, .int .i64 ot, .int .i64 ox] 31))).non ((Chg.refl _ _).drew))
            have hlb := hN.ltb
            have hlg := hN.ltg
            have hbx : Blk (wr.alloc (.cells #[.int .i64 2, .int .i64 ot, .int .i64 ox] 31)) wr.heap.size #[.int .i64 2, .int .i64 ot, .int .i64 ox] 31 := Blk.new_at rfl
            have x0 := hbx.cell 0
            have x1 := hbx.cell 1
            have x2 := hbx.cell 2
            by_cases a3 : below < ot
            · go_wp2
              go_roundw
              case rel => exact ⟨j + 1, g, lst, by omega, by go_num, (hN.non ((Chg.refl _ _).alloc _)).le (by omega), HO.out⟩
              case measure => simp [intOf]; omega
            · go_wp2_with fail
              go_region_held3 (fun w' => w'.cell? ⟨wr.heap.size, 0, none⟩ = some (.int .i64 2) ∧ w'.cell? ⟨wr.heap.size, 1, none⟩ = some (.int .i64 ot) ∧ w'.cell? ⟨wr.heap.size, 2, none⟩ = some (.int .i64 ox)) (first | exact ⟨j1, j2, j3⟩ | exact ⟨i1, i2, i3⟩ | exact ⟨x0, x1, x2⟩) (first | (go_at_call 17; refine (refNewNow 0 _).mono ?_; rintro e w1 ⟨p, ga, gx, rfl, hf⟩; have i1 := hf.chg.cell (a := ⟨wr.heap.size, 0, none⟩) x0 id; have i2 := hf.chg.cell (a := ⟨wr.heap.size, 1, none⟩) x1 id; have i3 := hf.chg.cell (a := ⟨wr.heap.size, 2, none⟩) x2 id) | (go_at_call 16; refine (doesNow 2 ot ox HN.out (by omega) hf).mono ?_; rintro e w2 ⟨bo, g', rfl, hN2, hcc⟩; have j1 := hcc.cell (a := ⟨wr.heap.size, 0, none⟩) x0 (by show ¬ (wr.heap.size = b ∨ wr.heap.size = g); omega); have j2 := hcc.cell (a := ⟨wr.heap.size, 1, none⟩) x1 (by show ¬ (wr.heap.size = b ∨ wr.heap.size = g); omega); have j3 := hcc.cell (a := ⟨wr.heap.size, 2, none⟩) x2 (by show ¬ (wr.heap.size = b ∨ wr.heap.size = g); omega)))
              all_goals
                obtain ⟨cap', hrow'⟩ := hN2.row
                have hl3 := hN2.len
                have hpos := hN2.pos
                go_wp2_with fail
                refine (savLastI_any below _ b g' cap' _ hrow' (by omega)).mono ?_
                rintro e w3 ⟨rfl, hc3⟩
                have hls := last_same below 2 ot ox lst (by simp [mayNot]; omega)
                have hO := HO.out
                unfold lastT lastX lastE at hO
                rw [← hls] at hO
                obtain ⟨hT, hX, hE⟩ := hO
                have HO2 := Lib.hid (show lastT below (opI 2 ot ox lst) = T ∧ lastX below (opI 2 ot ox lst) = X ∧ lastE below (opI 2 ot ox lst) = E from ⟨hT, hX, hE⟩)
                change lastT below (opI 2 ot ox lst) = T at hT
                change lastX below (opI 2 ot ox lst) = X at hX
                change lastE below (opI 2 ot ox lst) = E at hE
                rw [hT, hX, hE]
                clear hT hX hE hls
                have HN2 := Lib.hid (hN2.non hc3)
                have hrow3 := hrow'.chg hc3 id id
                generalize opI 2 ot ox lst = lst' at hrow3 hpos hl3 HN2 HO2
                go_wp2_with fail
                refine (savLenI_any _ b g' cap' lst' hrow3 (by omega)).mono ?_
                rintro e w4 ⟨rfl, rfl⟩
                go_wp2
                go_roundw
                case rel => exact ⟨j + 1, g', lst', by omega, by go_num, HN2.out.le (by omega), HO2.out⟩
                case measure => simp [intOf]; omega
          · have a2b : (oa == 2) = false := beq_eq_false_iff_ne.2 a2
            have HN := Lib.hid ((hN.non ((Chg.refl _ _).alloc (.cells #[.int .i64 oa, .int .i64 ot, .int .i64 ox] 31))).non ((Chg.refl _ _).drew))
            have hlb := hN.ltb
            have hlg := hN.ltg
            have hbx : Blk (wr.alloc (.cells #[.int .i64 oa, .int .i64 ot, .int .i64 ox] 31)) wr.heap.size #[.int .i64 oa, .int .i64 ot, .int .i64 ox] 31 := Blk.new_at rfl
            have x0 := hbx.cell 0
            have x1 := hbx.cell 1
            have x2 := hbx.cell 2
            by_cases a3 : ot < below
            · go_wp2
              go_roundw
              case rel => exact ⟨j + 1, g, lst, by omega, by go_num, (hN.non ((Chg.refl _ _).alloc _)).le (by omega), HO.out⟩
              case measure => simp [intOf]; omega
            · go_wp2_with fail
              go_region_held3 (fun w' => w'.cell? ⟨wr.heap.size, 0, none⟩ = some (.int .i64 oa) ∧ w'.cell? ⟨wr.heap.size, 1, none⟩ = some (.int .i64 ot) ∧ w'.cell? ⟨wr.heap.size, 2, none⟩ = some (.int .i64 ox)) (first | exact ⟨j1, j2, j3⟩ | exact ⟨i1, i2, i3⟩ | exact ⟨x0, x1, x2⟩) (first | (go_at_call 17; refine (refNewNow 0 _).mono ?_; rintro e w1 ⟨p, ga, gx, rfl, hf⟩; have i1 := hf.chg.cell (a := ⟨wr.heap.size, 0, none⟩) x0 id; have i2 := hf.chg.cell (a := ⟨wr.heap.size, 1, none⟩) x1 id; have i3 := hf.chg.cell (a := ⟨wr.heap.size, 2, none⟩) x2 id) | (go_at_call 16; refine (doesNow oa ot ox HN.out (by omega) hf).mono ?_; rintro e w2 ⟨bo, g', rfl, hN2, hcc⟩; have j1 := hcc.cell (a := ⟨wr.heap.size, 0, none⟩) x0 (by show ¬ (wr.heap.size = b ∨ wr.heap.size = g); omega); have j2 := hcc.cell (a := ⟨wr.heap.size, 1, none⟩) x1 (by show ¬ (wr.heap.size = b ∨ wr.heap.size = g); omega); have j3 := hcc.cell (a := ⟨wr.heap.size, 2, none⟩) x2 (by show ¬ (wr.heap.size = b ∨ wr.heap.size = g); omega)))
              all_goals
                obtain ⟨cap', hrow'⟩ := hN2.row
                have hl3 := hN2.len
                have hpos := hN2.pos
                go_wp2_with fail
                refine (savLastI_any below _ b g' cap' _ hrow' (by omega)).mono ?_
                rintro e w3 ⟨rfl, hc3⟩
                have hls := last_same below oa ot ox lst (by simp [mayNot]; omega)
                have hO := HO.out
                unfold lastT lastX lastE at hO
                rw [← hls] at hO
                obtain ⟨hT, hX, hE⟩ := hO
                have HO2 := Lib.hid (show lastT below (opI oa ot ox lst) = T ∧ lastX below (opI oa ot ox lst) = X ∧ lastE below (opI oa ot ox lst) = E from ⟨hT, hX, hE⟩)
                change lastT below (opI oa ot ox lst) = T at hT
                change lastX below (opI oa ot ox lst) = X at hX
                change lastE below (opI oa ot ox lst) = E at hE
                rw [hT, hX, hE]
                clear hT hX hE hls
                have HN2 := Lib.hid (hN2.non hc3)
                have hrow3 := hrow'.chg hc3 id id
                generalize opI oa ot ox lst = lst' at hrow3 hpos hl3 HN2 HO2
                go_wp2_with fail
                refine (savLenI_any _ b g' cap' lst' hrow3 (by omega)).mono ?_
                rintro e w4 ⟨rfl, rfl⟩
                go_wp2
                go_roundw
                case rel => exact ⟨j + 1, g', lst', by omega, by go_num, HN2.out.le (by omega), HO2.out⟩
                case measure => simp [intOf]; omega
        · obtain rfl : j = n2 := by omega
          obtain ⟨cap, hrow⟩ := hN.row
          have hll := hN.len
          have hpos := hN.pos
          have hge : decide (1 ≤ (lst.length : Int)) = true := decide_eq_true (by omega)
          go_wp2_with fail
          refine (savLenI_any _ b g cap lst hrow (by omega)).mono ?_
          rintro e w4 ⟨rfl, rfl⟩
          go_wp2_with fail
          refine (savTimesI_it _ (.pointer (some ⟨b, 0, none⟩)) lst (by omega) (fun w1 hc => savAllI_any w1 b g cap lst (hrow.chg hc id id) (by omega))).mono ?_
          rintro e w5 ⟨A5, c5, rfl, _, hc5, _⟩
          go_wp2_with fail
          refine (savLenI_any _ b g cap lst (hrow.chg hc5 id id) (by omega)).mono ?_
          rintro e w6 ⟨rfl, rfl⟩
          go_wp2_with fail
          refine (awake12_any _).mono ?_
          rintro e w7 ⟨rfl, hb⟩
          go_wp2
          go_ret
          exact ⟨rfl, ((hN.chg.trans hc5 (fun _ x => x.elim)).then_below hb).non_below⟩
end Go.Proofs.Ytggbgfdgpkbmhaa
