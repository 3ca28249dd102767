/- saves: SavesPlays. -/
import Derived.Test.YtggbgfdgpkbmhaaSavP
namespace Go.Proofs.Ytggbgfdgpkbmhaa
open Go.RowKit
set_option linter.unusedSimpArgs false
set_option linter.unusedVariables false

structure PlaysNow (w0 w : World) (b g p ga gx : Nat) (l : List SvI) (k : Nat) : Prop where
  both : Both w b g l p ga gx l
  rise : Rising l
  len : l.length ≤ k
  lb : w0.heap.size ≤ b
  lg : w0.heap.size ≤ g
  lp : w0.heap.size ≤ p
  la : w0.heap.size ≤ ga
  lx : w0.heap.size ≤ gx
  chg : Chg Non w0 w
theorem doesPlays (ask at_ x : Int) {w0 w : World} {b g p ga gx : Nat} {l : List SvI} {k : Nat} (h : PlaysNow w0 w b g p ga gx l k) (hk : k ≤ 1000) :
    Calls Try.prog 16 #[.pointer (some ⟨b, 0, none⟩), .pointer (some ⟨p, 0, none⟩), opV ask at_ x] w fun e w' => ∃ g' ga' gx', e = .returned (.bool true) ∧ PlaysNow w0 w' b g' p ga' gx' (opI ask at_ x l) (k + 1) := by
  have hl := h.len
  refine (does_any ask at_ x w b g l p ga gx l h.both h.rise h.rise (by omega) (by omega)).mono ?_
  rintro e w2 ⟨bo, g', ga', gx', rfl, hbo, hb, hch, e1, e2, e3⟩
  have hbo := hbo rfl
  subst hbo
  have s0 := h.chg.size
  have q1 := h.lb
  have q2 := h.lg
  have q3 := h.lp
  have q4 := h.la
  have q5 := h.lx
  have hol := opI_len l ask at_ x
  exact ⟨g', ga', gx', rfl, hb, opI_rising h.rise ask at_ x, by omega, by omega, by omega, by omega, by omega, by omega, h.chg.trans hch (fun i hi => .inr (by omega))⟩
theorem samePlays {w0 w : World} {b g p ga gx : Nat} {l : List SvI} {k : Nat} (h : PlaysNow w0 w b g p ga gx l k) (hk : k ≤ 1000) :
    Calls Try.prog 22 #[.pointer (some ⟨b, 0, none⟩), .pointer (some ⟨p, 0, none⟩)] w fun e w' => e = .returned (.bool true) ∧ PlaysNow w0 w' b g p ga gx l k := by
  have hl := h.len
  obtain ⟨cap, hr⟩ := h.both.row
  obtain ⟨oa, ca, ox, cx, hf⟩ := h.both.ref
  refine (same_true w b g cap l hr p ga oa ca gx ox cx hf (by omega)).mono ?_
  rintro e w2 ⟨rfl, hc⟩
  exact ⟨rfl, h.both.keep hc id id id id id, h.rise, h.len, h.lb, h.lg, h.lp, h.la, h.lx, h.chg.trans hc (fun _ x => x.elim)⟩

set_option maxHeartbeats 4000000 in
set_option maxRecDepth 100000 in
theorem savesPlays_any (first : Int) (w : World) (A : Option Addr) (n c : Nat) (l : List Op3) (hl : SlRead Op3.cells 3 w A n c l) :
    Calls Try.prog 5 #[.int .i64 first, .slice A n c] w fun e w' => e = .returned (.bool true) ∧ Below w.heap.size w w' := by
  have hn := hl.len
  have HL := Lib.hid hl
  clear hl
  by_cases t1 : 60 < n
  · go_enter Try.func5, Try.ntmps5
    go_wp2_with fail
    refine (newNow w w (Chg.refl _ _) first).mono ?_
    rintro e w1 ⟨b, g, rfl, hN⟩
    go_wp2_with fail
    refine (awake12_any _).mono ?_
    rintro e w2 ⟨rfl, hb⟩
    go_wp2_with fail
    go_ret
    exact ⟨rfl, (hN.chg.then_below hb).non_below⟩
  go_enter Try.func5, Try.ntmps5
  go_wp2_with fail
  refine (newNow w w (Chg.refl _ _) first).mono ?_
  rintro e w1 ⟨b, g, rfl, hN⟩
  go_wp2_with fail
  refine (refNew_any first _).mono ?_
  rintro e w2 ⟨p, ga, ca, gx, cx, rfl, hf, hc2, h1, h2, h3⟩
  have hP : PlaysNow w w2 b g p ga gx [⟨-1, first⟩] 1 := by
    have hN2 := hN.non hc2
    have l1 := hN.ltb
    have l2 := hN.ltg
    have s0 := hN.chg.size
    exact ⟨⟨hN2.row, ⟨_, _, _, _, hf⟩, by omega, by omega, by omega, by omega, by omega, by omega⟩, rising_one _, by simp, hN.lb, hN.lg, by omega, by omega, by omega, hN2.chg⟩
  clear hN hf hc2 h1 h2 h3
  go_wp2_with fail
  go_loopw [7] (fun i wr => ∃ (k g ga gx : Nat) (lst : List SvI), k ≤ n ∧ i = .int .i64 k ∧ PlaysNow w wr b g p ga gx lst (k + 1)) (fun i _ => n - (intOf i).toNat)
  case atStart => exact ⟨0, g, ga, gx, _, by omega, rfl, hP⟩
  case round =>
    clear hP
    obtain ⟨k, g, ga, gx, lst, hk, rfl, hP⟩ := hrel
    by_cases hlt : k < n
    · have hs : l[k]? = some (l[k]'(by omega)) := List.getElem?_eq_getElem (by omega)
      generalize l[k]'(by omega) = o at hs
      obtain ⟨ad, rfl, k1, k2, k3⟩ := op3_at HL.out hs
      clear hs
      replace k1 := hP.chg.cell k1 id
      replace k2 := hP.chg.cell k2 id
      replace k3 := hP.chg.cell k3 id
      go_wp2_with fail
      refine (doesPlays o.ask o.at_ o.x hP (by omega)).mono ?_
      rintro e w3 ⟨g', ga', gx', rfl, hP2⟩
      clear hP k1 k2 k3
      go_wp2_with fail
      refine (samePlays hP2 (by omega)).mono ?_
      rintro e w4 ⟨rfl, hP3⟩
      clear hP2
      go_wp2
      go_roundw
      case rel => exact ⟨k + 1, g', ga', gx', _, by omega, by go_num, hP3⟩
      case measure => simp [intOf]; omega
    · obtain rfl : k = n := by omega
      go_wp2_with fail
      refine (awake12_any _).mono ?_
      rintro e w5 ⟨rfl, hb⟩
      go_wp2
      go_ret
      exact ⟨rfl, (hP.chg.then_below hb).non_below⟩
end Go.Proofs.Ytggbgfdgpkbmhaa
