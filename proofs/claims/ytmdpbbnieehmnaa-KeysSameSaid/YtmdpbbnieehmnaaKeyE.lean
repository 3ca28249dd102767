/- keys.Settle on messages of two IDs. -/
import Derived.Test.YtmdpbbnieehmnaaKeyD
namespace Go.Proofs.Ytmdpbbnieehmnaa
open Go.RowKit
set_option linter.unusedSimpArgs false
set_option linter.unusedVariables false

def AloneM (s : List Mg) : Prop := (∃ x, s = [x]) ∨ ∃ x y, s = [x, y] ∧ x.anti ≠ y.anti ∧ x.ev = y.ev
def left (wh : Mg → Bool) (l : List Mg) : List Mg := l.filter (fun m => (grp wh l (wh m)).length == 1)

set_option maxHeartbeats 8000000 in
set_option maxRecDepth 100000 in
theorem settle_any (A : Option Addr) (n c : Nat) (l : List Mg) (wh : Mg → Bool) (w : World) (h : SlRead Mg.cells 8 w A n c l) (hid : ∀ m ∈ l, m.ev.idv = idK (wh m)) (hn : n ≤ 1000) (hok : ∀ m ∈ l, AloneM (grp wh l (wh m))) :
    Calls Try.prog 43 #[.slice A n c] w fun e w' => ∃ A2 cap, e = .returned (.tuple #[.slice A2 (left wh l).length cap, .int .i64 0]) ∧ SlRead Mg.cells 8 w' A2 (left wh l).length cap (left wh l) ∧ Chg Non w w' := by
  have hlen := h.len
  subst hlen
  have HL := Lib.hid h
  have HD := Lib.hid hid
  have HOK := Lib.hid hok
  clear h hid hok
  have hmm := @run_makeMap Try.prog
  have hS0 : SetNow w (w.alloc (.map #[] 0)) w.heap.size 0 (fun _ => nilS) (fun _ => []) :=
    ⟨⟨.map [], World.ownsMap_made _ _ _ _, fun b => rfl⟩, fun b => World.ownsRow_nil _ _ _ _, fun k h => by (cases h), fun b k h => by (cases h), Nat.le_refl _, (Chg.refl Non w).alloc _⟩
  have HS0 := Lib.hid hS0
  clear hS0
  go_enter Try.func43, Try.ntmps43
  go_wp2_with fail
  go_loopw [14] (fun i wr => ∃ (k : Nat) (f : Bool → Value), k ≤ l.length ∧ i = .int .i64 k ∧ Hid (SetNow w wr w.heap.size k f (grp wh (l.take k)))) (fun i _ => l.length - (intOf i).toNat)
  case atStart => exact ⟨0, fun _ => nilS, by omega, rfl, HS0.out⟩
  case round =>
    obtain ⟨k, f, hk, rfl, hI⟩ := hrel
    by_cases hlt : k < l.length
    · have hs : l[k]? = some (l[k]'(by omega)) := List.getElem?_eq_getElem (by omega)
      generalize l[k]'(by omega) = m at hs
      obtain ⟨ad, rfl, d0, d1, d2, d3, d4, d5, d6, d7⟩ := mg_at (HL.out.non hI.out.2.2.2.2.2) hs
      have hts : l.take (k + 1) = l.take k ++ [m] := by rw [List.take_add_one, hs]; rfl
      have hgl := grp_len wh (l.take k) (wh m)
      rw [List.length_take] at hgl
      have hidm := HD.out m (List.mem_of_getElem? hs)
      have hKO := fun w => keyOf_any m.ev w
      rw [hidm] at hKO
      unfold Ev.val at hKO
      have HTS := Lib.hid hts
      clear hidm hs hts
      have hPn : SetNow w (wr.alloc (.cells #[.int .i64 m.ev.at_, .int .i64 m.ev.src, .int .i64 m.ev.sent, .int .i64 m.ev.no, .int .i64 m.ev.dst, .int .i64 m.ev.kind, .int .i64 m.ev.data, .bool m.anti] 63)) w.heap.size k f (grp wh (l.take k)) := hI.out.non ((Chg.refl Non wr).alloc _)
      have hP : SetNow w (wr.alloc (.cells #[.int .i64 m.ev.at_, .int .i64 m.ev.src, .int .i64 m.ev.sent, .int .i64 m.ev.no, .int .i64 m.ev.dst, .int .i64 m.ev.kind, .int .i64 m.ev.data, .bool m.anti] 63)).drew w.heap.size k f (grp wh (l.take k)) := hI.out.non (((Chg.refl Non wr).alloc _).drew)
      have hB0 : Blk (wr.alloc (.cells #[.int .i64 m.ev.at_, .int .i64 m.ev.src, .int .i64 m.ev.sent, .int .i64 m.ev.no, .int .i64 m.ev.dst, .int .i64 m.ev.kind, .int .i64 m.ev.data, .bool m.anti] 63)) wr.heap.size #[.int .i64 m.ev.at_, .int .i64 m.ev.src, .int .i64 m.ev.sent, .int .i64 m.ev.no, .int .i64 m.ev.dst, .int .i64 m.ev.kind, .int .i64 m.ev.data, .bool m.anti] 63 := Blk.new _ _ _
      have hB : Blk (wr.alloc (.cells #[.int .i64 m.ev.at_, .int .i64 m.ev.src, .int .i64 m.ev.sent, .int .i64 m.ev.no, .int .i64 m.ev.dst, .int .i64 m.ev.kind, .int .i64 m.ev.data, .bool m.anti] 63)).drew wr.heap.size #[.int .i64 m.ev.at_, .int .i64 m.ev.src, .int .i64 m.ev.sent, .int .i64 m.ev.no, .int .i64 m.ev.dst, .int .i64 m.ev.kind, .int .i64 m.ev.data, .bool m.anti] 63 := hB0.drew
      obtain ⟨i0, i1, i2, i3, i4, i5, i6, i7⟩ := hB0.eight
      have hM := hP.1
      have hqne : (f (wh m)).ownBlock = some wr.heap.size → False := fun e => by
        have := (hI.out.2.1 (wh m)).block_lt e
        omega
      have hqB : wr.heap.size ≠ w.heap.size := by
        obtain ⟨D, ⟨es, clock, hb, _⟩, _⟩ := hI.out.1
        have := (Array.getElem?_eq_some_iff.1 hb).1
        omega
      have hkm : k < maxLen := by unfold maxLen; omega
      have hlk := fun (W : World) (h : OnMap W w.heap.size k f) => h.look (wh m)
      have hMal := fun (W : World) (o : Obj) (h : OnMap W w.heap.size k f) => OnMap.chg h ((Chg.refl Non W).alloc o) id
      have hup := fun (W : World) (v : Value) (h : AppNow w W w.heap.size k f (grp wh (l.take k)) (wh m) v m) => (h.1.upd' hkm (wh m) v).1
      have hupB := fun (W : World) (v : Value) (h : AppNow w W w.heap.size k f (grp wh (l.take k)) (wh m) v m) (hb : Blk W wr.heap.size #[.int .i64 m.ev.at_, .int .i64 m.ev.src, .int .i64 m.ev.sent, .int .i64 m.ev.no, .int .i64 m.ev.dst, .int .i64 m.ev.kind, .int .i64 m.ev.data, .bool m.anti] 63) => hb.chg (Chg.of_grown (h.1.upd' hkm (wh m) v).2.2) (fun e => hqB (Option.some.inj e))
      have hupS := fun (W : World) (v : Value) (h : AppNow w W w.heap.size k f (grp wh (l.take k)) (wh m) v m) => h.upd (h.1.upd' hkm (wh m) v).2.1 (h.1.upd' hkm (wh m) v).2.2
      have HUPS := Lib.hid hupS
      have HGL := Lib.hid hgl
      clear hI hgl hupS
      go_wp2_with fail
      go_region_held3 (fun w' => w'.cell? ⟨wr.heap.size, 0, none⟩ = some (.int .i64 m.ev.at_) ∧ w'.cell? ⟨wr.heap.size, 1, none⟩ = some (.int .i64 m.ev.src) ∧ w'.cell? ⟨wr.heap.size, 2, none⟩ = some (.int .i64 m.ev.sent) ∧ w'.cell? ⟨wr.heap.size, 3, none⟩ = some (.int .i64 m.ev.no) ∧ w'.cell? ⟨wr.heap.size, 4, none⟩ = some (.int .i64 m.ev.dst) ∧ w'.cell? ⟨wr.heap.size, 5, none⟩ = some (.int .i64 m.ev.kind) ∧ w'.cell? ⟨wr.heap.size, 6, none⟩ = some (.int .i64 m.ev.data) ∧ w'.cell? ⟨wr.heap.size, 7, none⟩ = some (.bool m.anti)) (first | exact Blk.eight (by assumption) | exact Blk.eight (Blk.alloc (by assumption) _) | exact Blk.eight (Blk.drew (Blk.alloc (by assumption) _)) | exact Blk.eight (hupB _ _ (by assumption) (by assumption))) (first | (go_at_call 45; refine (hKO _).mono ?_; rintro e w2 ⟨rfl, hc2⟩; have hP2 : SetNow w w2 w.heap.size k f (grp wh (l.take k)) := (by first | exact SetNow.non (by assumption) hc2 | exact SetNow.non (SetNow.non (by assumption) (Chg.alloc (Chg.refl Non _) _)) hc2 | exact SetNow.non (SetNow.non (by assumption) (Chg.drew (Chg.alloc (Chg.refl Non _) _))) hc2); have hM2 := hP2.1; have hk2 := fun g' (cs : Array Value) t (h : Blk _ g' cs t) => Blk.chg h hc2 id; have hB2 : Blk w2 wr.heap.size #[.int .i64 m.ev.at_, .int .i64 m.ev.src, .int .i64 m.ev.sent, .int .i64 m.ev.no, .int .i64 m.ev.dst, .int .i64 m.ev.kind, .int .i64 m.ev.data, .bool m.anti] 63 := (by first | exact hk2 _ _ _ (by assumption) | exact hk2 _ _ _ (Blk.alloc (by assumption) _) | exact hk2 _ _ _ (Blk.drew (Blk.alloc (by assumption) _))); first | (have hbs2 := hk2 _ _ _ hbs2) | (have hbs2 := hk2 _ _ _ (Blk.drew (Blk.new_at (w := wr.alloc (.cells #[.int .i64 m.ev.at_, .int .i64 m.ev.src, .int .i64 m.ev.sent, .int .i64 m.ev.no, .int .i64 m.ev.dst, .int .i64 m.ev.kind, .int .i64 m.ev.data, .bool m.anti] 63)) (g := wr.heap.size + 1) (cs := #[.int .i64 m.ev.at_, .int .i64 m.ev.src, .int .i64 m.ev.sent, .int .i64 m.ev.no, .int .i64 m.ev.dst, .int .i64 m.ev.kind, .int .i64 m.ev.data, .bool m.anti]) (t := 63) (by simp)))) | (have hbs2 := hk2 _ _ _ (Blk.new _ #[.int .i64 m.ev.at_, .int .i64 m.ev.src, .int .i64 m.ev.sent, .int .i64 m.ev.no, .int .i64 m.ev.dst, .int .i64 m.ev.kind, .int .i64 m.ev.data, .bool m.anti] 63)) | skip) | (refine step_ap_own rfl (.tmp 26) (.tmp 28) 59 rfl 63 (.agg #[.int .i64 0, .int .i64 0, .int .i64 0, .int .i64 0, .int .i64 0, .int .i64 0, .int .i64 0, .bool false]) 8 64 Try.underlying59 (by kernel_rfl) rfl (by decide) (f (wh m)) (grp wh (l.take k) (wh m)).length ((grp wh (l.take k) (wh m)).flatMap Mg.cells) rfl ((by first | assumption | exact SetNow.non (by assumption) (Chg.alloc (Chg.refl Non _) _) : SetNow w _ w.heap.size k f (grp wh (l.take k))).2.1 (wh m)) _ 1 1 m.cells rfl rfl ((by first | exact Blk.new _ _ _ | exact hbs2 | assumption : Blk _ _ #[.int .i64 m.ev.at_, .int .i64 m.ev.src, .int .i64 m.ev.sent, .int .i64 m.ev.no, .int .i64 m.ev.dst, .int .i64 m.ev.kind, .int .i64 m.ev.data, .bool m.anti] 63).reads' m.cells rfl) (by simpa using Mg.one [m]) (by decide) (by have := HGL.out; unfold maxLen; omega) (by have := HGL.out; omega) ?_; intro g cap2 w3 hown3 hch3 hg3; have hQ3 := SetNow.app (by first | assumption | exact SetNow.non (by assumption) (Chg.alloc (Chg.refl Non _) _) : SetNow w _ w.heap.size k f (grp wh (l.take k))) (wh m) m hown3 hch3 hg3; have hB3 : Blk w3 wr.heap.size #[.int .i64 m.ev.at_, .int .i64 m.ev.src, .int .i64 m.ev.sent, .int .i64 m.ev.no, .int .i64 m.ev.dst, .int .i64 m.ev.kind, .int .i64 m.ev.data, .bool m.anti] 63 := Blk.chg (by first | assumption | exact Blk.alloc (by assumption) _) hch3 hqne))
      all_goals
        have hfin := HUPS.out _ _ hQ3
        have HFIN := Lib.hid hfin
        clear hfin
        go_wp2
        go_roundw
        case rel => exact ⟨k + 1, _, by omega, by go_num, by rw [HTS.out, grp_snoc]; exact HFIN.out⟩
        case measure => simp [intOf]; omega
    · obtain rfl : k = l.length := by omega
      have hI2 := hI.out
      rw [List.take_length] at hI2
      obtain ⟨w1, hw1⟩ : ∃ w1, w1 = wr := ⟨_, rfl⟩
      rw [← hw1] at hI2 ⊢
      have HI := Lib.hid hI2
      clear hI hI2 hw1
      go_wp2_with fail
      go_loopw [33, 7] (fun i s wr => ∃ (j : Nat) (A7 : Option Addr) (cap7 : Nat), j ≤ l.length ∧ i = .int .i64 j ∧ s = .slice A7 ((l.take j).filter (fun m => (grp wh l (wh m)).length == 1)).length cap7 ∧ Hid (Grow Mg.cells 8 63 w1 wr A7 cap7 ((l.take j).filter (fun m => (grp wh l (wh m)).length == 1)))) (fun i _ _ => l.length - (intOf i).toNat)
      case atStart => exact ⟨0, none, 0, by omega, rfl, by simp, Grow.nil _ _ _ _ _ (Chg.refl _ _)⟩
      case round =>
        obtain ⟨j, A7, cap7, hj, rfl, rfl, hG⟩ := hrel
        by_cases hlt2 : j < l.length
        · have hs : l[j]? = some (l[j]'(by omega)) := List.getElem?_eq_getElem (by omega)
          generalize l[j]'(by omega) = m at hs
          obtain ⟨ad, rfl, d0, d1, d2, d3, d4, d5, d6, d7⟩ := mg_at (HL.out.non (HI.out.2.2.2.2.2.trans hG.out.2.1 (fun _ x => x.elim))) hs
          have hts : l.take (j + 1) = l.take j ++ [m] := by rw [List.take_add_one, hs]; rfl
          have hmem := List.mem_of_getElem? hs
          have hidm := HD.out m hmem
          have hKO := fun w => keyOf_any m.ev w
          rw [hidm] at hKO
          unfold Ev.val at hKO
          have hal := HOK.out m hmem
          have hown := HI.out.2.1 (wh m)
          have HTS := Lib.hid hts
          have hB : Blk (wr.alloc (.cells #[.int .i64 m.ev.at_, .int .i64 m.ev.src, .int .i64 m.ev.sent, .int .i64 m.ev.no, .int .i64 m.ev.dst, .int .i64 m.ev.kind, .int .i64 m.ev.data, .bool m.anti] 63)) wr.heap.size #[.int .i64 m.ev.at_, .int .i64 m.ev.src, .int .i64 m.ev.sent, .int .i64 m.ev.no, .int .i64 m.ev.dst, .int .i64 m.ev.kind, .int .i64 m.ev.data, .bool m.anti] 63 := Blk.new _ _ _
          obtain ⟨i0, i1, i2, i3, i4, i5, i6, i7⟩ := hB.eight
          have hSA := HI.out.non (hG.out.2.1.trans ((Chg.refl Non wr).alloc (.cells #[.int .i64 m.ev.at_, .int .i64 m.ev.src, .int .i64 m.ev.sent, .int .i64 m.ev.no, .int .i64 m.ev.dst, .int .i64 m.ev.kind, .int .i64 m.ev.data, .bool m.anti] 63)) (fun _ x => x.elim))
          clear hidm hs hts hmem
          generalize hM : (l.take j).filter (fun m => (grp wh l (wh m)).length == 1) = M at *
          have HMM := Lib.hid hM
          have hMl : M.length ≤ 1000 := by
            have := List.length_filter_le (fun m => (grp wh l (wh m)).length == 1) (l.take j)
            rw [hM, List.length_take] at this
            omega
          clear hM
          go_wp2_with fail
          refine (hKO _).mono ?_
          rintro e w2 ⟨rfl, hc2⟩
          have hS2 := hSA.non hc2
          have hlk := hS2.1.look (wh m)
          have hO2 := hS2.2.1 (wh m)
          have hB2 := hB.chg hc2 id
          obtain ⟨i0, i1, i2, i3, i4, i5, i6, i7⟩ := hB2.eight
          have hG2 := (hG.out.non ((Chg.refl Non wr).alloc (.cells #[.int .i64 m.ev.at_, .int .i64 m.ev.src, .int .i64 m.ev.sent, .int .i64 m.ev.no, .int .i64 m.ev.dst, .int .i64 m.ev.kind, .int .i64 m.ev.data, .bool m.anti] 63))).non hc2
          have HG2 := Lib.hid hG2
          have HS2 := Lib.hid hS2
          have HO2 := Lib.hid hO2
          clear hG hG2 hS2 hSA hO2 hown hc2 hB
          rcases hal with ⟨x, hx⟩ | ⟨x, y, hx, hxy1, hxy2⟩
          · have hgl : (grp wh l (wh m)).length = 1 := by rw [hx]; rfl
            have hout : (l.take (j + 1)).filter (fun m => (grp wh l (wh m)).length == 1) = M ++ [m] := by
              rw [HTS.out, List.filter_append, HMM.out]
              simp [hgl]
            obtain ⟨g, cp, hv, _, _, _, _⟩ := own_cells HO2.out (by rw [hgl]; decide)
            rw [hgl] at hv
            rw [hv] at hlk
            have HOUT := Lib.hid hout
            clear hgl hout hv hx
            go_wp2_with fail
            go_quiet (fail)
            go_wp2_with (at_builtin; refine ap_push rfl (.tmp 65) (.tmp 67) 59 rfl 63 (.agg #[.int .i64 0, .int .i64 0, .int .i64 0, .int .i64 0, .int .i64 0, .int .i64 0, .int .i64 0, .bool false]) 8 64 Try.underlying59 (by kernel_rfl) rfl (by decide) HG2.out (by first | exact Chg.alloc (Chg.refl Non _) _ | exact Chg.alloc (Chg.drewN (Chg.refl Non _) _) _) m rfl _ (Blk.new _ _ _) rfl rfl (by simpa using Mg.one [m]) (by unfold maxLen; omega) (by omega) ?_; intro g2 cap2 w3 hG3)
            go_roundw -- A
            case rel => exact ⟨j + 1, some ⟨g2, 0, none⟩, cap2, by omega, by go_num, by rw [HOUT.out]; simp, by rw [HOUT.out]; exact hG3⟩
            case measure => simp [intOf]; omega
          · have hgl : (grp wh l (wh m)).length = 2 := by rw [hx]; rfl
            have hout : (l.take (j + 1)).filter (fun m => (grp wh l (wh m)).length == 1) = M := by
              rw [HTS.out, List.filter_append, HMM.out]
              simp [hgl]
            obtain ⟨g, cp, hv, _, _, _, _⟩ := own_cells HO2.out (by rw [hgl]; decide)
            have hrd : SlRead Mg.cells 8 w2 (some ⟨g, 0, none⟩) (grp wh l (wh m)).length cp (grp wh l (wh m)) := own_read Mg.len (by have := HO2.out; unfold OwnM at this; rwa [hv] at this) (by decide)
            rw [hx] at hrd
            obtain ⟨_, e1, x0, x1, x2, x3, x4, x5, x6, x7⟩ := mg_at hrd (k := 0) (p := x) rfl
            cases e1
            obtain ⟨_, e2, y0, y1, y2, y3, y4, y5, y6, y7⟩ := mg_at hrd (k := 1) (p := y) rfl
            cases e2
            rw [add_plain] at x0 x1 x2 x3 x4 x5 x6 x7 y0 y1 y2 y3 y4 y5 y6 y7
            simp at x0 x1 x2 x3 x4 x5 x6 x7 y0 y1 y2 y3 y4 y5 y6 y7
            rw [hgl] at hv
            rw [hv] at hlk
            have HOUT := Lib.hid hout
            have hMT := fun w => meets_any x y w hxy1 hxy2
            unfold Mg.val at hMT
            clear hgl hout hv hx hrd hxy1 hxy2
            go_wp2_with fail
            refine still_tail_d 14 (by kernel_rfl) (by kernel_rfl) ?_
            simp only [List.take_succ_cons, List.take_zero, List.drop_succ_cons, List.drop_zero]
            repeat still_step
            refine wpStill_nil ?_
            go_wp2_with fail
            refine (hMT _).mono ?_
            rintro e w3 ⟨rfl, hc3⟩
            have hG3 := HG2.out.non ((Chg.refl Non w2).drew.trans hc3 (fun _ x => x.elim))
            have HG3 := Lib.hid hG3
            clear hG3 hc3
            go_wp2_with fail
            go_roundw
            case rel => exact ⟨j + 1, A7, cap7, by omega, by go_num, by rw [HOUT.out], by rw [HOUT.out]; exact HG3.out⟩
            case measure => simp [intOf]; omega
        · obtain rfl : j = l.length := by omega
          have hG2 := hG.out
          rw [List.take_length] at hG2 ⊢
          have HG2 := Lib.hid hG2
          clear hG hG2
          go_wp2
          refine bodyPost_ret (v := .tuple #[.slice A7 (left wh l).length cap7, .int .i64 0]) (by simp [results, Try.results43, go_sem, left]) rfl ⟨A7, cap7, rfl, HG2.out.read Mg.len (by decide), HI.out.2.2.2.2.2.trans HG2.out.2.1 (fun _ x => x.elim)⟩
end Go.Proofs.Ytmdpbbnieehmnaa
