/- inq: put of an event into a row. -/
import Derived.Test.YtmdpbbnieehmnaaInqE
import Derived.Deep.RegionHeld3
namespace Go.Proofs.Ytmdpbbnieehmnaa
open Go.RowKit
set_option linter.unusedSimpArgs false
set_option linter.unusedVariables false

theorem insert_any (A : Option Addr) (cap i : Nat) (l : List Ev) (e : Ev) (vb : Nat) (w : World) (h : w.ownsRow 0 31 7 (.slice A l.length cap) l.length (l.flatMap Ev.cells)) (hi : i ≤ l.length) (hv : Blk w vb #[.int .i64 e.at_, .int .i64 e.src, .int .i64 e.sent, .int .i64 e.no, .int .i64 e.dst, .int .i64 e.kind, .int .i64 e.data] 31) (hvA : ∀ ad, A = some ad → vb ≠ ad.block) (hn : l.length ≤ 1000000) :
    Calls Try.prog 72 #[.slice A l.length cap, .int .i64 i, .slice (some ⟨vb, 0, none⟩) 1 1] w (insPost A (insAt l i e) w) := by
  by_cases hin : i = l.length
  · subst hin
    have := insert_end A cap l e vb w h hv hn
    unfold insAt
    rw [List.take_length, List.drop_length]
    exact this
  · obtain ⟨g, cap', hv', _, hle, _, _, _, _⟩ := own_cells h (by omega)
    injection hv' with e1 e2 e3
    subst e1 e3
    by_cases hr : l.length + 1 ≤ cap
    · exact insert_room g cap i l e vb w h (by omega) hr hv (hvA _ rfl) hn
    · obtain rfl : cap = l.length := by omega
      exact insert_grow g l.length i l e vb w h rfl (by omega) hv hn

theorem frz_keep {w w' : World} {p : Addr} (h : w'.heap[p.block]? = w.heap[p.block]?) (hf : w.frozen? p = false) : w'.frozen? p = false := by
  unfold World.frozen? at *
  rw [h]
  exact hf
def putPost (q o : Nat) (A : Option Addr) (l : List Ev) (e : Ev) (w : World) (en : Ending) (w' : World) : Prop :=
  en = .returned (.tuple #[]) ∧ ∃ (w3 : World) (A' : Option Addr) (cap' i : Nat), w' = w3.setCell ⟨q, o, none⟩ (.slice A' (insAt l i e).length cap') ∧ w3.ownsRow 0 31 7 (.slice A' (insAt l i e).length cap') (insAt l i e).length ((insAt l i e).flatMap Ev.cells) ∧ At l e i ∧ Chg (fun k => ∃ ad, A = some ad ∧ k = ad.block) w w3 ∧ ∀ ad, A' = some ad → (∃ ad', A = some ad' ∧ ad.block = ad'.block) ∨ w.heap.size ≤ ad.block

set_option maxHeartbeats 8000000 in
set_option maxRecDepth 100000 in
theorem rowPut_any (q o : Nat) (A : Option Addr) (cap : Nat) (l : List Ev) (e : Ev) (w : World) (h : w.ownsRow 0 31 7 (.slice A l.length cap) l.length (l.flatMap Ev.cells)) (hc : w.cell? ⟨q, o, none⟩ = some (.slice A l.length cap)) (hf : w.frozen? ⟨q, o, none⟩ = false) (hqA : ∀ ad, A = some ad → ad.block ≠ q) (hS : SegE l) (hn : l.length ≤ 900000) :
    Calls Try.prog 60 #[.pointer (some ⟨q, o, none⟩), e.val] w (putPost q o A l e w) := by
  have hql : q < w.heap.size := World.block_lt_of_cell? w _ hc
  have HB0 := Lib.hid (Blk.new w #[.int .i64 e.at_, .int .i64 e.src, .int .i64 e.sent, .int .i64 e.no, .int .i64 e.dst, .int .i64 e.kind, .int .i64 e.data] 31)
  have hS0 : ∀ W, Chg Non (w.alloc (.cells #[.int .i64 e.at_, .int .i64 e.src, .int .i64 e.sent, .int .i64 e.no, .int .i64 e.dst, .int .i64 e.kind, .int .i64 e.data] 31)) W → (W.cell? ⟨q, o, none⟩ = some (.slice A l.length cap) ∧ W.cell? ⟨w.heap.size, 0, none⟩ = some (.int .i64 e.at_) ∧ W.cell? ⟨w.heap.size, 1, none⟩ = some (.int .i64 e.src) ∧ W.cell? ⟨w.heap.size, 2, none⟩ = some (.int .i64 e.sent) ∧ W.cell? ⟨w.heap.size, 3, none⟩ = some (.int .i64 e.no) ∧ W.cell? ⟨w.heap.size, 4, none⟩ = some (.int .i64 e.dst) ∧ W.cell? ⟨w.heap.size, 5, none⟩ = some (.int .i64 e.kind) ∧ W.cell? ⟨w.heap.size, 6, none⟩ = some (.int .i64 e.data)) := fun W hW => by
    obtain ⟨d0, d1, d2, d3, d4, d5, d6⟩ := (HB0.out.chg hW id).seven
    exact ⟨((((Chg.refl Non w).alloc _).trans hW (fun _ x => x.elim)).cell hc id), d0, d1, d2, d3, d4, d5, d6⟩
  have HS0 := Lib.hid hS0
  have H := Lib.hid h
  have HSG := Lib.hid hS
  have HQ := Lib.hid hqA
  have HF := Lib.hid hf
  clear h hS hqA hS0 hf
  have hF := fun (W : World) (hr : Chg Non w W) => binSrch_any A l.length cap l e W ((own_read_opt Ev.len (by decide) H.out).non hr) HSG.out (by omega)
  unfold Ev.val at hF
  have HFF := Lib.hid hF
  clear hF
  unfold Ev.val
  go_enter Try.func60, Try.ntmps60
  go_wp2_with fail
  go_region_held3 (fun w' => w'.cell? ⟨q, o, none⟩ = some (.slice A l.length cap) ∧ w'.cell? ⟨w.heap.size, 0, none⟩ = some (.int .i64 e.at_) ∧ w'.cell? ⟨w.heap.size, 1, none⟩ = some (.int .i64 e.src) ∧ w'.cell? ⟨w.heap.size, 2, none⟩ = some (.int .i64 e.sent) ∧ w'.cell? ⟨w.heap.size, 3, none⟩ = some (.int .i64 e.no) ∧ w'.cell? ⟨w.heap.size, 4, none⟩ = some (.int .i64 e.dst) ∧ w'.cell? ⟨w.heap.size, 5, none⟩ = some (.int .i64 e.kind) ∧ w'.cell? ⟨w.heap.size, 6, none⟩ = some (.int .i64 e.data)) (first | exact HS0.out _ (Chg.refl Non _) | exact HS0.out _ ((Chg.refl Non _).drew) | exact HS0.out _ hcx) (first | (go_at_call 70; refine (HFF.out _ (((Chg.refl Non w).alloc _).drew)).mono ?_; rintro en w2 ⟨i, rfl, hAt, hc2⟩; have hcx : Chg Non (w.alloc (.cells #[.int .i64 e.at_, .int .i64 e.src, .int .i64 e.sent, .int .i64 e.no, .int .i64 e.dst, .int .i64 e.kind, .int .i64 e.data] 31)) w2 := (Chg.refl Non _).drew.trans hc2 (fun _ x => x.elim)))
  all_goals
    have HX := Lib.hid hcx
    have HAT := Lib.hid hAt
    clear hcx hc2 hAt
    obtain ⟨x0, x1, x2, x3, x4, x5, x6, x7⟩ := HS0.out w2 HX.out
    have hval : ∀ W, Chg Non w2 W → W.cell? ⟨q, o, none⟩ = some (.slice A l.length cap) := fun W hW => (HS0.out W (HX.out.trans hW (fun _ x => x.elim))).1
    have y0 := hval (w2.alloc (.cells #[.int .i64 e.at_, .int .i64 e.src, .int .i64 e.sent, .int .i64 e.no, .int .i64 e.dst, .int .i64 e.kind, .int .i64 e.data] 31)) ((Chg.refl Non w2).alloc _)
    have hI := fun (W : World) (vb : Nat) (hW : Chg Non w W) (hb : Blk W vb #[.int .i64 e.at_, .int .i64 e.src, .int .i64 e.sent, .int .i64 e.no, .int .i64 e.dst, .int .i64 e.kind, .int .i64 e.data] 31) (hvb : w.heap.size ≤ vb) => insert_any A cap i l e vb W (own_chg_opt H.out hW (fun _ _ => id)) HAT.out.1 hb (fun ad e h => by have := own_lt H.out ad e; omega) (by omega)
    have hfar0 : ∀ w3, Chg (fun k => ∃ ad, A = some ad ∧ k = ad.block) (w2.alloc (.cells #[.int .i64 e.at_, .int .i64 e.src, .int .i64 e.sent, .int .i64 e.no, .int .i64 e.dst, .int .i64 e.kind, .int .i64 e.data] 31)).drew w3 → Blk w3 w.heap.size #[.int .i64 e.at_, .int .i64 e.src, .int .i64 e.sent, .int .i64 e.no, .int .i64 e.dst, .int .i64 e.kind, .int .i64 e.data] 31 := fun w3 hc3 => (((HB0.out.chg HX.out id).alloc _).drew).chg hc3 (fun ⟨ad, e, h⟩ => by have := own_lt H.out ad e; omega)
    have hfar := fun w3 hc3 => (hfar0 w3 hc3).seven
    have hfar2 := fun w3 hc3 (u : Value) => ((hfar0 w3 hc3).far (p := ⟨q, o, none⟩) (by show w.heap.size ≠ q; omega) u).seven
    have hq3 : ∀ w3, Chg (fun k => ∃ ad, A = some ad ∧ k = ad.block) (w2.alloc (.cells #[.int .i64 e.at_, .int .i64 e.src, .int .i64 e.sent, .int .i64 e.no, .int .i64 e.dst, .int .i64 e.kind, .int .i64 e.data] 31)).drew w3 → w3.cell? ⟨q, o, none⟩ = some (.slice A l.length cap) ∧ w3.frozen? ⟨q, o, none⟩ = false := fun w3 hc3 => by
      have hall : Chg (fun k => ∃ ad, A = some ad ∧ k = ad.block) w w3 := (((((Chg.refl Non w).alloc _).trans HX.out (fun _ x => x.elim)).alloc (.cells #[.int .i64 e.at_, .int .i64 e.src, .int .i64 e.sent, .int .i64 e.no, .int .i64 e.dst, .int .i64 e.kind, .int .i64 e.data] 31)).drew.mono (fun _ _ x => x.elim) : Chg (fun k => ∃ ad, A = some ad ∧ k = ad.block) w _).trans hc3 (fun i h => .inl h)
      have hnq : ¬ ∃ ad, A = some ad ∧ q = ad.block := fun ⟨ad, e, h⟩ => HQ.out ad e h.symm
      exact ⟨hall.cell hc hnq, frz_keep (hall.block q hql hnq) HF.out⟩
    have hz2 := HX.out.size
    simp at hz2
    have HI := Lib.hid hI
    have hcW : Chg Non w w2 := ((Chg.refl Non w).alloc _).trans HX.out (fun _ x => x.elim)
    clear hI hval
    go_wp2_with fail
    go_region_held3 (fun w' => w'.cell? ⟨w.heap.size, 0, none⟩ = some (.int .i64 e.at_) ∧ w'.cell? ⟨w.heap.size, 1, none⟩ = some (.int .i64 e.src) ∧ w'.cell? ⟨w.heap.size, 2, none⟩ = some (.int .i64 e.sent) ∧ w'.cell? ⟨w.heap.size, 3, none⟩ = some (.int .i64 e.no) ∧ w'.cell? ⟨w.heap.size, 4, none⟩ = some (.int .i64 e.dst) ∧ w'.cell? ⟨w.heap.size, 5, none⟩ = some (.int .i64 e.kind) ∧ w'.cell? ⟨w.heap.size, 6, none⟩ = some (.int .i64 e.data)) (first | exact (HS0.out _ HX.out).2 | exact (HS0.out _ (HX.out.drew)).2 | exact (HS0.out _ ((HX.out.alloc _).drew)).2 | exact (HS0.out _ (HX.out.alloc _)).2 | exact hc7 | exact hc8) (first | (go_at_call 72; refine (HI.out _ w2.heap.size ((hcW.alloc _).drew) (Blk.drew (Blk.new w2 #[.int .i64 e.at_, .int .i64 e.src, .int .i64 e.sent, .int .i64 e.no, .int .i64 e.dst, .int .i64 e.kind, .int .i64 e.data] 31)) (by omega)).mono ?_; rintro en w3 ⟨A', cap', rfl, ho3, hc3, hA3⟩; have hc7 := hfar w3 hc3; have hc8 := hfar2 w3 hc3 (.slice A' (insAt l i e).length cap'); obtain ⟨hz0, hz1⟩ := hq3 w3 hc3))
    all_goals
      refine bodyPost_end (by simp [results, Try.results60, go_sem]) rfl ⟨rfl, w3, A', cap', i, rfl, ho3, HAT.out, ?_, fun ad h => ?_⟩
      · exact (((hcW.alloc (.cells #[.int .i64 e.at_, .int .i64 e.src, .int .i64 e.sent, .int .i64 e.no, .int .i64 e.dst, .int .i64 e.kind, .int .i64 e.data] 31)).drew).mono (fun _ _ x => x.elim) : Chg (fun k => ∃ ad, A = some ad ∧ k = ad.block) w _).trans hc3 (fun i h => .inl h)
      · rcases hA3 ad h with h' | h'
        · exact .inl h'
        · exact .inr (Nat.le_trans ((hcW.alloc (.cells #[.int .i64 e.at_, .int .i64 e.src, .int .i64 e.sent, .int .i64 e.no, .int .i64 e.dst, .int .i64 e.kind, .int .i64 e.data] 31)).drew).size h')
end Go.Proofs.Ytmdpbbnieehmnaa
