/- events: Victim. -/
import Derived.Test.YtmdpbbnieehmnaaVicL
namespace Go.Proofs.Ytmdpbbnieehmnaa
open Go.RowKit
set_option linter.unusedSimpArgs false
set_option linter.unusedVariables false

set_option maxHeartbeats 4000000 in
set_option maxRecDepth 100000 in
theorem victim_any (f : Int) (A : Option Addr) (n c : Nat) (l : List Ev) (w : World) (h : SlRead Ev.cells 7 w A n c l) (hn : n ≤ 1000000) :
    Calls Try.prog 27 #[.int .i64 f, .slice A n c] w fun e w' => e = .returned (.tuple #[(refV f l).1.val, .bool (refV f l).2]) ∧ Chg Non w w' := by
  have hlen := h.len
  subst hlen
  have hca : Chg Non w ((w.alloc (.cells #[.int .i64 f] 3)).alloc (.cells #[.int .i64 0, .int .i64 0, .int .i64 0, .int .i64 0, .int .i64 0, .int .i64 0, .int .i64 0] 31)) := ((Chg.refl Non w).alloc _).alloc _
  have hq0 := (Blk.new w #[.int .i64 f] 3).alloc (.cells #[.int .i64 0, .int .i64 0, .int .i64 0, .int .i64 0, .int .i64 0, .int .i64 0, .int .i64 0] 31)
  have hr0 := Blk.new_at (w := w.alloc (.cells #[.int .i64 f] 3)) (cs := #[.int .i64 0, .int .i64 0, .int .i64 0, .int .i64 0, .int .i64 0, .int .i64 0, .int .i64 0]) (t := 31) (g := w.heap.size + 1) (by simp)
  have HL := Lib.hid h
  have HV := Lib.hid (refV_victim f l)
  clear h
  go_enter Try.func27, Try.ntmps27
  go_wp2_with fail
  refine (cloneEv_any l A l.length c _ (HL.out.non hca) hn).mono ?_
  rintro e w2 ⟨A2, cap2, rfl, ho, hc2, hA2⟩
  have hq2 := (hq0.chg hc2 id)
  have hr2 := (hr0.chg hc2 id)
  have HA := Lib.hid hA2
  have HO := Lib.hid ho
  clear hA2 ho
  have k2 : w2.cell? ⟨w.heap.size, 0, none⟩ = some (.int .i64 f) := hq2.cell 0
  go_wp2_with fail
  have hA3 := HA.out
  simp at hA3
  refine (delEv_any w.heap.size f w2 A2 cap2 l HO.out k2 (fun ad e => by have := hA3 ad e; omega) (by omega)).mono ?_
  rintro e w3 ⟨m, hm, rfl, hrd, hc3⟩
  have hr3 := hr2.chg hc3 (by rintro ⟨ad, e, e'⟩; have := hA3 ad e; omega)
  have hcT : Chg Non w w3 := (hca.trans hc2 (fun _ x => x.elim)).trans hc3 (fun i hi => .inr (by obtain ⟨ad, e, rfl⟩ := hi; have := hA3 ad e; omega))
  obtain ⟨r0, r1, r2, r3, r4, r5, r6⟩ := hr3.seven
  obtain ⟨z0, z1, z2, z3, z4, z5, z6⟩ := hr3.sevenf
  clear hA3
  have HR3 := Lib.hid hrd
  have HC3 := Lib.hid hcT
  have HB3 := Lib.hid hr3
  clear hc3 hca hc2 hq0 hr0 hq2 hr2 hcT hr3 hrd k2
  cases hF : l.filter (goodEv f) with
  | nil =>
    have hm0 : m = 0 := by rw [hm, hF]; rfl
    have hv' : refV f l = (Ev.zero, false) := by rw [HV.out]; unfold victim; rw [hF]; rfl
    have HW := Lib.hid hv'
    subst hm0
    clear hm hv' hF
    go_wp2
    refine bodyPost_ret (v := .tuple #[Ev.zero.val, .bool false]) (by simp [results, Try.results27, go_sem, Ev.zero, Ev.val, r0, r1, r2, r3, r4, r5, r6]) rfl ⟨by rw [HW.out], ?_⟩
    exact HC3.out.trans (Chg.set7 w3 (w.heap.size + 1) _ _ _ _ _ _ _) (fun i hi => .inr (by have hi' : i = w.heap.size + 1 := hi; omega))
  | cons m0 t =>
    have hm1 : m = t.length + 1 := by rw [hm, hF]; rfl
    have hv' : refV f l = (maxBy m0 t, true) := by rw [HV.out]; unfold victim; rw [hF]; rfl
    have HW := Lib.hid hv'
    have hnz : (m : Int) ≠ 0 := by omega
    have HF := Lib.hid hF
    have HM := Lib.hid hm1
    have hmn := HR3.out.len
    have hle : m ≤ 1000000 := by rw [hm]; exact Nat.le_trans (List.length_filter_le _ _) (by omega)
    clear hm hv' hm1 hF hmn
    go_wp2_with fail
    refine (maxEv_any A2 m cap2 _ m0 t HF.out w3 HR3.out hle).mono ?_
    rintro e w4 ⟨rfl, hc4⟩
    have hB4 := HB3.out.chg hc4 id
    obtain ⟨r0, r1, r2, r3, r4, r5, r6⟩ := hB4.seven
    obtain ⟨z0, z1, z2, z3, z4, z5, z6⟩ := hB4.sevenf
    generalize hx : maxBy m0 t = x
    have HX := Lib.hid hx
    clear hx
    unfold Ev.val
    go_wp2
    obtain ⟨y0, y1, y2, y3, y4, y5, y6⟩ := (hB4.set7 (.int .i64 x.at_) (.int .i64 x.src) (.int .i64 x.sent) (.int .i64 x.no) (.int .i64 x.dst) (.int .i64 x.kind) (.int .i64 x.data)).seven
    refine bodyPost_ret (v := .tuple #[x.val, .bool true]) (by simp [results, Try.results27, go_sem, Ev.val, y0, y1, y2, y3, y4, y5, y6]) rfl ⟨by rw [HW.out, HX.out], ?_⟩
    exact (HC3.out.trans hc4 (fun _ x => x.elim)).trans (Chg.set7 w4 (w.heap.size + 1) _ _ _ _ _ _ _) (fun i hi => .inr (by have hi' : i = w.heap.size + 1 := hi; omega))
end Go.Proofs.Ytmdpbbnieehmnaa
