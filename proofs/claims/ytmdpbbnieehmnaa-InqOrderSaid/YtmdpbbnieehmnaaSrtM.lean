/- keys.Sort. -/
import Derived.Test.YtmdpbbnieehmnaaSrtL
import Derived.Test.YtmdpbbnieehmnaaBaseO
import Derived.Test.YtmdpbbnieehmnaaVicL
namespace Go.Proofs.Ytmdpbbnieehmnaa
open Go.RowKit
set_option linter.unusedSimpArgs false
set_option linter.unusedVariables false

/-- R is l, sorted by its keys, those of one key in the order in which they came. -/
def IsSort (l R : List Ev) : Prop := Turn 0 l.length l R ∧ Seg R 0 l.length
theorem IsSort.len {l R : List Ev} (h : IsSort l R) : R.length = l.length := h.1.len

set_option maxHeartbeats 8000000 in
set_option maxRecDepth 100000 in
theorem stableCmp_nil (w : World) : Calls Try.prog 66 #[.slice none 0 0, .int .i64 0, .func (.func 48) #[] #[]] w fun e w' => e = .returned (.tuple #[]) ∧ Chg Non w w' := by
  have hI : ∀ w, Calls Try.prog 76 #[.slice none 0 0, .int .i64 0, .int .i64 0, .func (.func 48) #[] #[]] w fun e w' => e = .returned (.tuple #[]) ∧ w' = w := by
    intro w
    go_enter Try.func76, Try.ntmps76
    go_wp2_with fail
    go_loopw [8] (fun i wr => i = .int .i64 1 ∧ wr = w) (fun i _ => 0)
    case atStart => exact ⟨rfl, rfl⟩
    case round =>
      obtain ⟨rfl, rfl⟩ := hrel
      go_wp2
      exact bodyPost_end (by simp [results, Try.results76, go_sem]) rfl ⟨rfl, rfl⟩
  go_enter Try.func66, Try.ntmps66
  go_wp2_with fail
  go_loopw [7, 8] (fun i j wr => i = .int .i64 0 ∧ j = .int .i64 20 ∧ Hid (Chg Non w wr)) (fun i _ _ => 0)
  case atStart => exact ⟨rfl, rfl, Chg.refl _ _⟩
  case round =>
    obtain ⟨rfl, rfl, hI1⟩ := hrel
    go_wp2_with fail
    refine (hI _).mono ?_
    rintro e wr2 ⟨rfl, rfl⟩
    go_wp2_with fail
    go_loopw [6] (fun i wr => i = .int .i64 20 ∧ Hid (Chg Non w wr)) (fun i _ => 0)
    case atStart => exact ⟨rfl, hI1⟩
    case round =>
      obtain ⟨rfl, hI2⟩ := hrel
      go_wp2
      exact bodyPost_end (by simp [results, Try.results66, go_sem]) rfl ⟨rfl, hI2.out⟩
set_option maxHeartbeats 8000000 in
set_option maxRecDepth 100000 in
theorem stableF_any (A : Option Addr) (cap : Nat) (l : List Ev) (w : World) (h : w.ownsRow 0 31 7 (.slice A l.length cap) l.length (l.flatMap Ev.cells)) (hn : l.length ≤ 1000000) :
    Calls Try.prog 47 #[.slice A l.length cap, .func (.func 48) #[] #[]] w fun e w' => e = .returned (.tuple #[]) ∧ ∃ R, w'.ownsRow 0 31 7 (.slice A l.length cap) l.length (R.flatMap Ev.cells) ∧ IsSort l R ∧ Chg (fun k => ∃ ad, A = some ad ∧ k = ad.block) w w' := by
  have h0 := h
  obtain ⟨h1, h2⟩ := h0
  rcases h2 with ⟨hv, _⟩ | ⟨g', cap', cur, hv, _, hh, hle, hm, hs, ht⟩
  · injection hv with e1 hl e3
    subst e1 e3
    have : l = [] := List.eq_nil_of_length_eq_zero hl
    subst this
    clear h1 hl
    have H := Lib.hid h
    clear h
    go_enter Try.func47, Try.ntmps47
    go_wp2_with fail
    refine (stableCmp_nil _).mono ?_
    rintro e w2 ⟨rfl, hc⟩
    go_wp2
    exact bodyPost_end (by simp [results, Try.results47, go_sem]) rfl ⟨rfl, [], World.ownsRow_nil _ _ _ _, ⟨Turn.refl _ _ _, Seg.none (Nat.le_refl _)⟩, hc.mono (fun _ _ x => x.elim)⟩
  · injection hv with e1 e2 e3
    subst e1 e3
    have hR : RowE w g' cap l := h
    have HR := Lib.hid hR
    have HC := Lib.hid (stableCmp_any g' cap l w hR hn)
    clear h h1 hh hle hm hs ht hR e2
    generalize hk : l.length = n at *
    go_enter Try.func47, Try.ntmps47
    go_wp2_with fail
    refine HC.out.mono ?_
    rintro e w2 ⟨rfl, R, hR2, hT, hS, hc⟩
    have hl : R.length = n := hT.len.trans hk
    have hfin : w2.ownsRow 0 31 7 (.slice (some ⟨g', 0, none⟩) n cap) n (R.flatMap Ev.cells) := by
      unfold RowE at hR2
      rwa [hl] at hR2
    have HF := Lib.hid (And.intro hfin (And.intro (show IsSort l R from ⟨by rw [hk]; exact hT, by rw [hk]; exact hS⟩) hc))
    clear hfin hR2 hT hS hc hl
    go_wp2
    exact bodyPost_end (by simp [results, Try.results47, go_sem]) rfl ⟨rfl, R, HF.out.1, HF.out.2.1, HF.out.2.2.mono (fun k _ hk => ⟨_, rfl, hk⟩)⟩
/-- What keys.Sort answers of l. -/
def sortPost (l : List Ev) (w : World) (e : Ending) (w' : World) : Prop := ∃ A cap R, e = .returned (.slice A l.length cap) ∧ w'.ownsRow 0 31 7 (.slice A l.length cap) l.length (R.flatMap Ev.cells) ∧ IsSort l R ∧ Chg Non w w' ∧ ∀ ad, A = some ad → w.heap.size ≤ ad.block
set_option maxHeartbeats 8000000 in
set_option maxRecDepth 100000 in
theorem keysSort_any (A : Option Addr) (n c : Nat) (l : List Ev) (w : World) (h : SlRead Ev.cells 7 w A n c l) (hn : n ≤ 1000000) : Calls Try.prog 16 #[.slice A n c] w (sortPost l w) := by
  have hlen := h.len
  subst hlen
  have HL := Lib.hid h
  clear h
  go_enter Try.func16, Try.ntmps16
  go_wp2_with fail
  refine (cloneEv_any l A l.length c _ HL.out hn).mono ?_
  rintro e w2 ⟨A2, cap2, rfl, ho, hc2, hA2⟩
  have HA := Lib.hid hA2
  have HO := Lib.hid ho
  clear hA2 ho
  go_wp2_with fail
  refine (stableF_any A2 cap2 l w2 HO.out hn).mono ?_
  rintro e w3 ⟨rfl, R, ho3, hS, hc3⟩
  have hcT : Chg Non w w3 := hc2.trans hc3 (fun i hi => .inr (by obtain ⟨ad, e, rfl⟩ := hi; exact HA.out ad e))
  have HF := Lib.hid (And.intro ho3 (And.intro hS hcT))
  clear ho3 hS hcT hc3 hc2
  go_wp2
  go_ret
  exact ⟨A2, cap2, R, rfl, HF.out.1, HF.out.2.1, HF.out.2.2, HA.out⟩
end Go.Proofs.Ytmdpbbnieehmnaa
