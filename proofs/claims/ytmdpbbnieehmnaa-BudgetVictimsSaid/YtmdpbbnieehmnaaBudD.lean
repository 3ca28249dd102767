/- budget: Fit, where there is room. -/
import Derived.Test.YtmdpbbnieehmnaaBudC
import Derived.StillTailTactics
import Derived.Deep.QuietTactic
import Derived.BigQuiet
namespace Go.Proofs.Ytmdpbbnieehmnaa
open Go.RowKit

def mxi (a b : Int) : Int := if a < b then b else a

set_option maxHeartbeats 1000000 in
set_option maxRecDepth 100000 in
theorem fit_ok (b : Nat) (room reserve v0 v1 v2 v3 v4 c0 c1 c2 c3 c4 more : Int) (vital : Bool) (w : World) (hB : Blk w b (budCells room reserve v0 v1 v2 v3 v4) 92) (hr1 : 0 ≤ room) (hr2 : room ≤ 4096) (hr3 : 0 ≤ reserve) (hr4 : reserve ≤ 4096)
    (h : isGood c0 c1 c2 c3 c4 more) (hm : fitNeed c0 c1 c2 c3 c4 more reserve vital ≤ room) :
    Calls Try.prog 24 #[.pointer (some ⟨b, 0, none⟩), countsV c0 c1 c2 c3 c4, .int .i64 more, .bool vital] w fun e w' => e = .returned (.int .i64 0) ∧ Blk w' b (budCells room reserve (mxi v0 c0) (mxi v1 c1) (mxi v2 c2) (mxi v3 c3) (mxi v4 c4)) 92 ∧ Chg (· = b) w w' := by
  have H := Lib.hid h.any
  have hbl := hB.lt
  have i0 : ∀ w, (Instr.index 39 (.agg #[.int .i64 c0, .int .i64 c1, .int .i64 c2, .int .i64 c3, .int .i64 c4]) (.int .i64 0)).run Try.prog w = .ok (.int .i64 c0) w := fun _ => by kernel_rfl
  have i1 : ∀ w, (Instr.index 39 (.agg #[.int .i64 c0, .int .i64 c1, .int .i64 c2, .int .i64 c3, .int .i64 c4]) (.int .i64 1)).run Try.prog w = .ok (.int .i64 c1) w := fun _ => by kernel_rfl
  have i2 : ∀ w, (Instr.index 39 (.agg #[.int .i64 c0, .int .i64 c1, .int .i64 c2, .int .i64 c3, .int .i64 c4]) (.int .i64 2)).run Try.prog w = .ok (.int .i64 c2) w := fun _ => by kernel_rfl
  have i3 : ∀ w, (Instr.index 39 (.agg #[.int .i64 c0, .int .i64 c1, .int .i64 c2, .int .i64 c3, .int .i64 c4]) (.int .i64 3)).run Try.prog w = .ok (.int .i64 c3) w := fun _ => by kernel_rfl
  have i4 : ∀ w, (Instr.index 39 (.agg #[.int .i64 c0, .int .i64 c1, .int .i64 c2, .int .i64 c3, .int .i64 c4]) (.int .i64 4)).run Try.prog w = .ok (.int .i64 c4) w := fun _ => by kernel_rfl
  cases vital with
  | true =>
    replace hm : c0 + c1 + c2 + c3 + c4 + more + 0 ≤ room := hm
    obtain ⟨a0, b0, a1, b1, a2, b2, a3, b3, a4, b4, a5, b5⟩ := h
    go_enter Try.func24, Try.ntmps24
    go_wp2_with (at_builtin; refine ap_grow rfl (.tmp 14) (.tmp 16) 95 rfl 3 (.int .i64 0) 1 8 Try.underlying95 (by kernel_rfl) rfl (by decide) (some ⟨w.heap.size, 0, none⟩) 5 5 [.int .i64 c0, .int .i64 c1, .int .i64 c2, .int .i64 c3, .int .i64 c4] rfl (fun h => by cases h) rfl (((Blk.new_at rfl).alloc _).reads _ rfl) ⟨w.heap.size + 1, 0, none⟩ 1 1 [.int .i64 more] rfl rfl ((Blk.new_at (by simp)).reads' _ rfl) (by simp [Value.oneCell']) (by omega) (by decide) (by decide) ?_; intro g cap w1 hc1 hc2 hown hchg)
    refine (containsfit_any [c0, c1, c2, c3, c4, more] 6 g cap w1 rfl (by omega) (own_ints (xs := [c0, c1, c2, c3, c4, more]) hown)).mono ?_
    rintro e w' ⟨rfl, rfl⟩
    rw [H.out]
    have hk := (((hB.alloc _).alloc _).chg hchg id)
    have hbx : Blk w1 w.heap.size #[.int .i64 c0, .int .i64 c1, .int .i64 c2, .int .i64 c3, .int .i64 c4] 39 := (((Blk.new_at rfl).alloc _).chg hchg id)
    have e0 := hbx.cell 0
    have e1 := hbx.cell 1
    have e2 := hbx.cell 2
    have e3 := hbx.cell 3
    have e4 := hbx.cell 4
    have k0 := hk.cell 0
    have k1 := hk.cell 1
    go_wp2_with fail
    refine (sum_any c0 c1 c2 c3 c4 _ (by omega) (by omega) (by omega) (by omega) (by omega) (by omega) (by omega) (by omega) (by omega) (by omega)).mono ?_
    rintro e w2 ⟨rfl, hb2⟩
    have hk2 := hk.below hb2
    have k0 := hk2.cell 0
    have k1 := hk2.cell 1
    clear e0 e1 e2 e3 e4
    have hx2 := hbx.below hb2
    have e0 := hx2.cell 0
    have e1 := hx2.cell 1
    have e2 := hx2.cell 2
    have e3 := hx2.cell 3
    have e4 := hx2.cell 4
    go_wp2
    go_loopw [38] (fun i wr => Chg (· = b) w wr ∧ ((i = .int .i64 0 ∧ Blk wr b (budCells room reserve v0 v1 v2 v3 v4) 92) ∨ (i = .int .i64 1 ∧ Blk wr b (budCells room reserve (mxi v0 c0) v1 v2 v3 v4) 92) ∨ (i = .int .i64 2 ∧ Blk wr b (budCells room reserve (mxi v0 c0) (mxi v1 c1) v2 v3 v4) 92) ∨ (i = .int .i64 3 ∧ Blk wr b (budCells room reserve (mxi v0 c0) (mxi v1 c1) (mxi v2 c2) v3 v4) 92) ∨ (i = .int .i64 4 ∧ Blk wr b (budCells room reserve (mxi v0 c0) (mxi v1 c1) (mxi v2 c2) (mxi v3 c3) v4) 92) ∨ (i = .int .i64 5 ∧ Blk wr b (budCells room reserve (mxi v0 c0) (mxi v1 c1) (mxi v2 c2) (mxi v3 c3) (mxi v4 c4)) 92))) (fun i _ => 5 - (intOf i).toNat)
    case atStart => exact ⟨(((((Chg.refl Non w).alloc _).alloc _ |>.trans hchg (fun _ x => x.elim)).then_below hb2).mono (fun _ _ x => x.elim)), .inl ⟨rfl, hk2⟩⟩
    case round =>
      clear hk hk2 k0 k1 hbx hx2 e0 e1 e2 e3 e4
      obtain ⟨hch, hrel⟩ := hrel
      rcases hrel with ⟨rfl, hk⟩ | ⟨rfl, hk⟩ | ⟨rfl, hk⟩ | ⟨rfl, hk⟩ | ⟨rfl, hk⟩ | ⟨rfl, hk⟩
      · have kc := hk.cell 2
        have kf := hk.frozen 2
        go_wp2
        go_still_tail 13, (by kernel_rfl)
        go_wp2
        exact ⟨⟨(hch.setCell (.inl rfl) _).drew, .inr (.inl ⟨rfl, hk.set 2 _⟩)⟩, by simp [intOf]⟩
      · have kc := hk.cell 3
        have kf := hk.frozen 3
        go_wp2
        go_still_tail 13, (by kernel_rfl)
        go_wp2
        exact ⟨⟨(hch.setCell (.inl rfl) _).drew, .inr (.inr (.inl ⟨rfl, hk.set 3 _⟩))⟩, by simp [intOf]⟩
      · have kc := hk.cell 4
        have kf := hk.frozen 4
        go_wp2
        go_still_tail 13, (by kernel_rfl)
        go_wp2
        exact ⟨⟨(hch.setCell (.inl rfl) _).drew, .inr (.inr (.inr (.inl ⟨rfl, hk.set 4 _⟩)))⟩, by simp [intOf]⟩
      · have kc := hk.cell 5
        have kf := hk.frozen 5
        go_wp2
        go_still_tail 13, (by kernel_rfl)
        go_wp2
        exact ⟨⟨(hch.setCell (.inl rfl) _).drew, .inr (.inr (.inr (.inr (.inl ⟨rfl, hk.set 5 _⟩))))⟩, by simp [intOf]⟩
      · have kc := hk.cell 6
        have kf := hk.frozen 6
        go_wp2
        go_still_tail 13, (by kernel_rfl)
        go_wp2
        exact ⟨⟨(hch.setCell (.inl rfl) _).drew, .inr (.inr (.inr (.inr (.inr (⟨rfl, hk.set 6 _⟩)))))⟩, by simp [intOf]⟩
      · go_wp2
        go_ret
        exact ⟨rfl, hk, hch⟩
  | false =>
    replace hm : c0 + c1 + c2 + c3 + c4 + more + reserve ≤ room := hm
    obtain ⟨a0, b0, a1, b1, a2, b2, a3, b3, a4, b4, a5, b5⟩ := h
    go_enter Try.func24, Try.ntmps24
    go_wp2_with (at_builtin; refine ap_grow rfl (.tmp 14) (.tmp 16) 95 rfl 3 (.int .i64 0) 1 8 Try.underlying95 (by kernel_rfl) rfl (by decide) (some ⟨w.heap.size, 0, none⟩) 5 5 [.int .i64 c0, .int .i64 c1, .int .i64 c2, .int .i64 c3, .int .i64 c4] rfl (fun h => by cases h) rfl (((Blk.new_at rfl).alloc _).reads _ rfl) ⟨w.heap.size + 1, 0, none⟩ 1 1 [.int .i64 more] rfl rfl ((Blk.new_at (by simp)).reads' _ rfl) (by simp [Value.oneCell']) (by omega) (by decide) (by decide) ?_; intro g cap w1 hc1 hc2 hown hchg)
    refine (containsfit_any [c0, c1, c2, c3, c4, more] 6 g cap w1 rfl (by omega) (own_ints (xs := [c0, c1, c2, c3, c4, more]) hown)).mono ?_
    rintro e w' ⟨rfl, rfl⟩
    rw [H.out]
    have hk := (((hB.alloc _).alloc _).chg hchg id)
    have hbx : Blk w1 w.heap.size #[.int .i64 c0, .int .i64 c1, .int .i64 c2, .int .i64 c3, .int .i64 c4] 39 := (((Blk.new_at rfl).alloc _).chg hchg id)
    have e0 := hbx.cell 0
    have e1 := hbx.cell 1
    have e2 := hbx.cell 2
    have e3 := hbx.cell 3
    have e4 := hbx.cell 4
    have k0 := hk.cell 0
    have k1 := hk.cell 1
    go_wp2_with fail
    refine (sum_any c0 c1 c2 c3 c4 _ (by omega) (by omega) (by omega) (by omega) (by omega) (by omega) (by omega) (by omega) (by omega) (by omega)).mono ?_
    rintro e w2 ⟨rfl, hb2⟩
    have hk2 := hk.below hb2
    have k0 := hk2.cell 0
    have k1 := hk2.cell 1
    clear e0 e1 e2 e3 e4
    have hx2 := hbx.below hb2
    have e0 := hx2.cell 0
    have e1 := hx2.cell 1
    have e2 := hx2.cell 2
    have e3 := hx2.cell 3
    have e4 := hx2.cell 4
    go_wp2
    go_loopw [38] (fun i wr => Chg (· = b) w wr ∧ ((i = .int .i64 0 ∧ Blk wr b (budCells room reserve v0 v1 v2 v3 v4) 92) ∨ (i = .int .i64 1 ∧ Blk wr b (budCells room reserve (mxi v0 c0) v1 v2 v3 v4) 92) ∨ (i = .int .i64 2 ∧ Blk wr b (budCells room reserve (mxi v0 c0) (mxi v1 c1) v2 v3 v4) 92) ∨ (i = .int .i64 3 ∧ Blk wr b (budCells room reserve (mxi v0 c0) (mxi v1 c1) (mxi v2 c2) v3 v4) 92) ∨ (i = .int .i64 4 ∧ Blk wr b (budCells room reserve (mxi v0 c0) (mxi v1 c1) (mxi v2 c2) (mxi v3 c3) v4) 92) ∨ (i = .int .i64 5 ∧ Blk wr b (budCells room reserve (mxi v0 c0) (mxi v1 c1) (mxi v2 c2) (mxi v3 c3) (mxi v4 c4)) 92))) (fun i _ => 5 - (intOf i).toNat)
    case atStart => exact ⟨(((((Chg.refl Non w).alloc _).alloc _ |>.trans hchg (fun _ x => x.elim)).then_below hb2).mono (fun _ _ x => x.elim)), .inl ⟨rfl, hk2⟩⟩
    case round =>
      clear hk hk2 k0 k1 hbx hx2 e0 e1 e2 e3 e4
      obtain ⟨hch, hrel⟩ := hrel
      rcases hrel with ⟨rfl, hk⟩ | ⟨rfl, hk⟩ | ⟨rfl, hk⟩ | ⟨rfl, hk⟩ | ⟨rfl, hk⟩ | ⟨rfl, hk⟩
      · have kc := hk.cell 2
        have kf := hk.frozen 2
        go_wp2
        go_still_tail 13, (by kernel_rfl)
        go_wp2
        exact ⟨⟨(hch.setCell (.inl rfl) _).drew, .inr (.inl ⟨rfl, hk.set 2 _⟩)⟩, by simp [intOf]⟩
      · have kc := hk.cell 3
        have kf := hk.frozen 3
        go_wp2
        go_still_tail 13, (by kernel_rfl)
        go_wp2
        exact ⟨⟨(hch.setCell (.inl rfl) _).drew, .inr (.inr (.inl ⟨rfl, hk.set 3 _⟩))⟩, by simp [intOf]⟩
      · have kc := hk.cell 4
        have kf := hk.frozen 4
        go_wp2
        go_still_tail 13, (by kernel_rfl)
        go_wp2
        exact ⟨⟨(hch.setCell (.inl rfl) _).drew, .inr (.inr (.inr (.inl ⟨rfl, hk.set 4 _⟩)))⟩, by simp [intOf]⟩
      · have kc := hk.cell 5
        have kf := hk.frozen 5
        go_wp2
        go_still_tail 13, (by kernel_rfl)
        go_wp2
        exact ⟨⟨(hch.setCell (.inl rfl) _).drew, .inr (.inr (.inr (.inr (.inl ⟨rfl, hk.set 5 _⟩))))⟩, by simp [intOf]⟩
      · have kc := hk.cell 6
        have kf := hk.frozen 6
        go_wp2
        go_still_tail 13, (by kernel_rfl)
        go_wp2
        exact ⟨⟨(hch.setCell (.inl rfl) _).drew, .inr (.inr (.inr (.inr (.inr (⟨rfl, hk.set 6 _⟩)))))⟩, by simp [intOf]⟩
      · go_wp2
        go_ret
        exact ⟨rfl, hk, hch⟩
end Go.Proofs.Ytmdpbbnieehmnaa
