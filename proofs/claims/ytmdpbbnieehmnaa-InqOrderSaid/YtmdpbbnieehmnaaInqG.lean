/- inq: take of an event out of a row. -/
import Derived.Test.YtmdpbbnieehmnaaInqF
namespace Go.Proofs.Ytmdpbbnieehmnaa
open Go.RowKit
set_option linter.unusedSimpArgs false
set_option linter.unusedVariables false

def takePost (q o : Nat) (A : Option Addr) (cap : Nat) (l : List Ev) (e : Ev) (w : World) (en : Ending) (w' : World) : Prop :=
  ∃ i, At l e i ∧ en = .returned (.bool (isAt l e i)) ∧ (isAt l e i = true → ∃ w3, w' = w3.setCell ⟨q, o, none⟩ (.slice A (l.length - 1) cap) ∧ w3.ownsRow 0 31 7 (.slice A (l.length - 1) cap) (l.length - 1) ((l.eraseIdx i).flatMap Ev.cells) ∧ Chg (fun k => ∃ ad, A = some ad ∧ k = ad.block) w w3) ∧ (isAt l e i = false → Chg Non w w')

set_option maxHeartbeats 8000000 in
set_option maxRecDepth 100000 in
theorem rowTake_any (q o : Nat) (A : Option Addr) (cap : Nat) (l : List Ev) (e : Ev) (w : World) (h : w.ownsRow 0 31 7 (.slice A l.length cap) l.length (l.flatMap Ev.cells)) (hc : w.cell? ⟨q, o, none⟩ = some (.slice A l.length cap)) (hf : w.frozen? ⟨q, o, none⟩ = false) (hqA : ∀ ad, A = some ad → ad.block ≠ q) (hS : SegE l) (hn : l.length ≤ 900000) :
    Calls Try.prog 59 #[.pointer (some ⟨q, o, none⟩), e.val] w (takePost q o A cap l e w) := by
  have hql : q < w.heap.size := World.block_lt_of_cell? w _ hc
  have HB0 := Lib.hid (Blk.new w #[.int .i64 e.at_, .int .i64 e.src, .int .i64 e.sent, .int .i64 e.no, .int .i64 e.dst, .int .i64 e.kind, .int .i64 e.data] 31)
  have hS0 : ∀ W, Chg Non (w.alloc (.cells #[.int .i64 e.at_, .int .i64 e.src, .int .i64 e.sent, .int .i64 e.no, .int .i64 e.dst, .int .i64 e.kind, .int .i64 e.data] 31)) W → (W.cell? ⟨q, o, none⟩ = some (.slice A l.length cap) ∧ W.cell? ⟨w.heap.size, 0, none⟩ = some (.int .i64 e.at_) ∧ W.cell? ⟨w.heap.size, 1, none⟩ = some (.int .i64 e.src) ∧ W.cell? ⟨w.heap.size, 2, none⟩ = some (.int .i64 e.sent) ∧ W.cell? ⟨w.heap.size, 3, none⟩ = some (.int .i64 e.no) ∧ W.cell? ⟨w.heap.size, 4, none⟩ = some (.int .i64 e.dst) ∧ W.cell? ⟨w.heap.size, 5, none⟩ = some (.int .i64 e.kind) ∧ W.cell? ⟨w.heap.size, 6, none⟩ = some (.int .i64 e.data)) := fun W hW => by
    obtain ⟨d0, d1, d2, d3, d4, d5, d6⟩ := (HB0.out.chg hW id).seven
    exact ⟨((((Chg.refl Non w).alloc _).trans hW (fun _ x => x.elim)).cell hc id), d0, d1, d2, d3, d4, d5, d6⟩
  have HS0 := Lib.hid hS0
  have H := Lib.hid h
  have HSG := Lib.hid hS
  have HQ := Lib.hid hqA
  have HF := Lib.hid hf
  clear h hS hqA hS0 hf
  have hF := fun (W : World) (hr : Chg Non w W) => binSrch_any A l.length cap l e W ((own_read_opt Ev.len (by decide) H.out).non hr) HSG.out (by omega)
  unfold Ev.val at hF
  have HFF := Lib.hid hF
  clear hF
  unfold Ev.val
  go_enter Try.func59, Try.ntmps59
  go_wp2_with fail
  go_region_held3 (fun w' => w'.cell? ⟨q, o, none⟩ = some (.slice A l.length cap) ∧ w'.cell? ⟨w.heap.size, 0, none⟩ = some (.int .i64 e.at_) ∧ w'.cell? ⟨w.heap.size, 1, none⟩ = some (.int .i64 e.src) ∧ w'.cell? ⟨w.heap.size, 2, none⟩ = some (.int .i64 e.sent) ∧ w'.cell? ⟨w.heap.size, 3, none⟩ = some (.int .i64 e.no) ∧ w'.cell? ⟨w.heap.size, 4, none⟩ = some (.int .i64 e.dst) ∧ w'.cell? ⟨w.heap.size, 5, none⟩ = some (.int .i64 e.kind) ∧ w'.cell? ⟨w.heap.size, 6, none⟩ = some (.int .i64 e.data)) (first | exact HS0.out _ (Chg.refl Non _) | exact HS0.out _ ((Chg.refl Non _).drew) | exact HS0.out _ hcx) (first | (go_at_call 70; refine (HFF.out _ (((Chg.refl Non w).alloc _).drew)).mono ?_; rintro en w2 ⟨i, rfl, hAt, hc2⟩; have hcx : Chg Non (w.alloc (.cells #[.int .i64 e.at_, .int .i64 e.src, .int .i64 e.sent, .int .i64 e.no, .int .i64 e.dst, .int .i64 e.kind, .int .i64 e.data] 31)) w2 := (Chg.refl Non _).drew.trans hc2 (fun _ x => x.elim)))
  all_goals
    have HX := Lib.hid hcx
    have HAT := Lib.hid hAt
    clear hcx hc2 hAt
    obtain ⟨x0, x1, x2, x3, x4, x5, x6, x7⟩ := HS0.out w2 HX.out
    have hcW : Chg Non w w2 := ((Chg.refl Non w).alloc _).trans HX.out (fun _ x => x.elim)
    have HCW := Lib.hid hcW
    clear hcW
    cases hb : isAt l e i
    · have HB := Lib.hid hb
      clear hb
      go_wp2
      go_ret
      exact ⟨i, HAT.out, by rw [HB.out]; rfl, fun h => by (rw [HB.out] at h; cases h), fun _ => HCW.out⟩
    · have hil : i < l.length := by
        unfold isAt at hb
        simp at hb
        exact hb.1
      have HB := Lib.hid hb
      clear hb
      have ho2 := own_chg_opt H.out HCW.out (fun _ _ => id)
      obtain ⟨g, cap', hv, _, _, _, _, _, _⟩ := own_cells ho2 (by omega)
      injection hv with e1 e2 e3
      subst e1 e3
      have hD := evDel_any w2 g l.length cap i _ ho2 (Ev.one _) hil
      rw [flat_erase] at hD
      have hq3 : ∀ w3, Chg (· = g) w2 w3 → w3.cell? ⟨q, o, none⟩ = some (.slice (some ⟨g, 0, none⟩) l.length cap) ∧ w3.frozen? ⟨q, o, none⟩ = false := fun w3 hc3 => by
        have hq2 := Nat.lt_of_lt_of_le hql HCW.out.size
        exact ⟨hc3.cell x0 (fun h => HQ.out _ rfl h.symm), frz_keep (hc3.block q hq2 (fun h => HQ.out _ rfl h.symm)) (frz_keep (HCW.out.block q hql id) HF.out)⟩
      have HD := Lib.hid hD
      have HQ3 := Lib.hid hq3
      clear hD hq3 ho2
      go_wp2_with fail
      refine HD.out.mono ?_
      rintro en w3 ⟨rfl, ho3, hc3⟩
      obtain ⟨z0, z1⟩ := HQ3.out w3 hc3
      have HO := Lib.hid (And.intro ho3 hc3)
      clear ho3 hc3
      go_wp2
      go_ret
      exact ⟨i, HAT.out, by rw [HB.out]; rfl, fun _ => ⟨w3, rfl, HO.out.1, ((HCW.out).mono (fun _ _ x => x.elim) : Chg (fun k => ∃ ad, some (⟨g, 0, none⟩ : Addr) = some ad ∧ k = ad.block) w w2).trans HO.out.2 (fun i h => .inl ⟨_, rfl, h⟩)⟩, fun h => by (rw [HB.out] at h; cases h)⟩
end Go.Proofs.Ytmdpbbnieehmnaa
