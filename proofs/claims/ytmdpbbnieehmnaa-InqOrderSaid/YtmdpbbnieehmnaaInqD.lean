/- slices.Insert at events: where the row is made anew. -/
import Derived.Test.YtmdpbbnieehmnaaInqC
namespace Go.Proofs.Ytmdpbbnieehmnaa
open Go.RowKit
set_option linter.unusedSimpArgs false
set_option linter.unusedVariables false

set_option maxHeartbeats 8000000 in
set_option maxRecDepth 100000 in
theorem insert_grow (g n i : Nat) (l : List Ev) (e : Ev) (vb : Nat) (w : World) (h : RowE w g n l) (hk : l.length = n) (hi : i < n) (hv : Blk w vb #[.int .i64 e.at_, .int .i64 e.src, .int .i64 e.sent, .int .i64 e.no, .int .i64 e.dst, .int .i64 e.kind, .int .i64 e.data] 31) (hn : n ≤ 1000000) :
    Calls Try.prog 72 #[.slice (some ⟨g, 0, none⟩) n n, .int .i64 i, .slice (some ⟨vb, 0, none⟩) 1 1] w (insPost (some ⟨g, 0, none⟩) (insAt l i e) w) := by
  obtain ⟨cur, hb, hcs, ht⟩ : ∃ cur : Array Value, Blk w g cur 31 ∧ cur.size = n * 7 ∧ cur.toList.take (l.length * 7) = l.flatMap Ev.cells := by
    obtain ⟨_, h2⟩ := h
    rcases h2 with ⟨hv, _⟩ | ⟨g', cap', cur, hv, _, hh, hle, hm, hs, ht⟩
    · cases hv
    · cases hv
      exact ⟨cur, hh, hs, ht⟩
  have hsz : (Try.prog.info? 31).map (·.size) = some 7 := by kernel_rfl
  have hinfo : (Try.prog.info? 31).map (fun i => (i.zero, i.size, i.bytes)) = some (some zEv, 7, 56) := by kernel_rfl
  obtain ⟨i0, hi0, hz0, hzs, hzb⟩ := info_parts hinfo
  have hcell : ∀ j v, (l.flatMap Ev.cells)[j]? = some v → w.cell? ⟨g, j, none⟩ = some v := fun j v hj => by
    rw [← ht, List.getElem?_take] at hj
    split at hj
    · rw [Array.getElem?_toList] at hj
      rw [hb.cell]; exact hj
    · cases hj
  have lt : ((l.take i).flatMap Ev.cells).length = i * 7 := by rw [flatMap_len Ev.len, List.length_take, hk, Nat.min_eq_left (by omega)]
  have ld : ((l.drop i).flatMap Ev.cells).length = (n - i) * 7 := by rw [flatMap_len Ev.len, List.length_drop, hk]
  have hold : (Builtin.firstCells i0.size i (.slice (some ⟨g, 0, none⟩) i n)).run Try.prog w.drew = .ok ((l.take i).flatMap Ev.cells).toArray w.drew := by
    rw [hzs]
    exact run_firstCells_some w.drew 7 i ⟨g, 0, none⟩ i n ((l.take i).flatMap Ev.cells) lt (fun j v hj => by
      rw [Addr.add_lit, Nat.zero_add]
      rw [← cells_take l i (by omega), List.getElem?_take] at hj
      split at hj
      · exact hcell j v hj
      · cases hj)
  obtain ⟨G, hG⟩ : ∃ G, G = grownCap w (n + 1) n 31 := ⟨_, rfl⟩
  have hGn : n + 1 ≤ G := by rw [hG]; exact grownCap_ge w _ _ _
  have hGm : G ≤ maxLen := by rw [hG]; exact grownCap_le_maxLen w (n + 1) n 31 (by unfold maxLen; omega)
  obtain ⟨c0, hc0⟩ : ∃ c0 : Array Value, c0 = ((l.take i).flatMap Ev.cells).toArray ++ Builtin.zeroCells zEv.cells (n + 1 - i) ++ Builtin.zeroCells zEv.cells (G - (n + 1)) := ⟨_, rfl⟩
  obtain ⟨W1, hW1⟩ : ∃ W1, W1 = w.drew.alloc (.cells c0 31) := ⟨_, rfl⟩
  have hq0 : (Builtin.append_ #[27, 3] 27 #[.slice (some ⟨g, 0, none⟩) i n, .int .i64 ((n : Int) + 1 - (i : Int))]).run Try.prog w = .ok (.slice (some ⟨w.heap.size, 0, none⟩) (n + 1) G) W1 := by
    have h := Lib.run_append_grow_zeros w 27 3 27 31 i0 zEv .i64 .i64 Try.underlying27 Try.underlying3 hi0 hz0 (some ⟨g, 0, none⟩) i n ((l.take i).flatMap Ev.cells) hold (n + 1 - i) (by omega) (by rw [hzs]; decide) (by omega) (by omega) (by rw [hzb]; omega) (by rw [hzb, show i + (n + 1 - i) = n + 1 by omega]; exact growslice_fits (by omega) (by omega))
    rw [show i + (n + 1 - i) = n + 1 by omega, ← hG, ← hc0, ← hW1] at h
    rw [show ((n : Int) + 1 - (i : Int)) = ((n + 1 - i : Nat) : Int) by omega]
    exact h
  have hz : ∀ k, (Builtin.zeroCells zEv.cells k).toList.length = k * 7 := zEv_len
  have hc0l : c0.toList.length = G * 7 := by
    rw [hc0, Array.toList_append, Array.toList_append, List.length_append, List.length_append, hz, hz, List.toList_toArray, lt]
    omega
  have hc0t : c0.toList.take (i * 7) = (l.take i).flatMap Ev.cells := by
    rw [hc0, Array.toList_append, Array.toList_append, List.toList_toArray, List.append_assoc, List.take_left' lt]
  obtain ⟨c1, hc1⟩ : ∃ c1, c1 = c0.toList.take (i * 7) ++ e.cells ++ c0.toList.drop (i * 7 + e.cells.length) := ⟨_, rfl⟩
  obtain ⟨c2, hc2⟩ : ∃ c2, c2 = c1.take ((i + 1) * 7) ++ (l.drop i).flatMap Ev.cells ++ c1.drop ((i + 1) * 7 + ((l.drop i).flatMap Ev.cells).length) := ⟨_, rfl⟩
  have hsh := ins_grow (R := l) (e := e) (n := n) (cap := G) hk (by omega) hGn hc0l hc0t c1 c2 hc1 hc2
  have hb1 : Blk W1 w.heap.size c0 31 := by rw [hW1]; exact Blk.new_at (w := w.drew) rfl
  have hch1 : Chg Non w W1 := by rw [hW1]; exact ((Chg.refl Non w).drew).alloc _
  have hv1 := hv.chg hch1 id
  have hglt := hb.lt
  obtain ⟨W2, hW2⟩ : ∃ W2, W2 = W1.setRow w.heap.size c1.toArray := ⟨_, rfl⟩
  have hq1 : (Builtin.copy_ #[27, 27] 3 #[.slice (some ⟨w.heap.size, i * 7, none⟩) (n + 1 - i) (G - i), .slice (some ⟨vb, 0, none⟩) 1 1]).run Try.prog W1 = .ok (goInt 1) W2 := by
    have hm : Nat.min 1 (n + 1 - i) = 1 := Nat.min_eq_left (by omega)
    have := run_copy_wide (P := Try.prog) W1 27 27 3 31 7 w.heap.size (i * 7) (n + 1 - i) (G - i) ⟨vb, 0, none⟩ 1 1 c0 31 e.cells Try.underlying27 hsz hb1 (by rw [hm, Ev.len]) (hv1.reads' e.cells rfl) (by rw [Ev.len]; rw [Array.length_toList] at hc0l; rw [hc0l]; omega) (by simpa using Ev.one [e])
    rw [hm] at this
    rw [hW2, hc1]
    exact this
  have hb2 : Blk W2 w.heap.size c1.toArray 31 := by rw [hW2]; exact setRow_heap _ _ _ _ _ _ hb1
  have hch2 : Chg Non w W2 := by
    have : Chg (· = w.heap.size) W1 W2 := by rw [hW2]; exact ⟨rfl, rfl, rfl, by show W1.heap.size ≤ (W1.setRow w.heap.size c1.toArray).heap.size; unfold World.setRow; rw [Array.size_modify]; exact Nat.le_refl _, fun k _ hk => setRow_other W1 _ k _ hk⟩
    exact hch1.trans this (fun i hi => .inr (by have hi' : i = w.heap.size := hi; omega))
  have hb0 : Blk W2 g cur 31 := hb.chg hch2 id
  obtain ⟨W3, hW3⟩ : ∃ W3, W3 = W2.drew.setRow w.heap.size c2.toArray := ⟨_, rfl⟩
  have hcp2 : ∀ ty, (Builtin.copy_ #[27, 27] ty #[.slice (some ⟨w.heap.size, (i + 1) * 7, none⟩) (n - i) (G - (i + 1)), .slice (some ⟨g, i * 7, none⟩) (n - i) (n - i)]).run Try.prog W2.drew = .ok (goInt ((n - i : Nat) : Int)) W3 := fun ty => by
    have hm : Nat.min (n - i) (n - i) = n - i := Nat.min_self _
    have := run_copy_wide (P := Try.prog) W2.drew 27 27 ty 31 7 w.heap.size ((i + 1) * 7) (n - i) (G - (i + 1)) ⟨g, i * 7, none⟩ (n - i) (n - i) c1.toArray 31 ((l.drop i).flatMap Ev.cells) Try.underlying27 hsz hb2 (by rw [hm, ld]) (fun j v hj => by
      rw [Addr.add_lit]
      rw [← cells_drop l i (by omega), List.getElem?_drop, ← ht, List.getElem?_take] at hj
      split at hj
      · rw [Array.getElem?_toList] at hj
        show W2.cell? _ = _
        rw [hb0.cell]; exact hj
      · cases hj) (by rw [ld]; have := hsh.1; simp; omega) (Ev.one _)
    rw [hm] at this
    rw [hW3, hc2]
    exact this
  have hb3 : Blk W3 w.heap.size c2.toArray 31 := by rw [hW3]; exact setRow_heap W2.drew _ c1.toArray _ _ _ hb2
  have hch3 : Chg Non w W3 := by
    have : Chg (· = w.heap.size) W2 W3 := by rw [hW3]; exact ⟨rfl, rfl, rfl, by show W2.heap.size ≤ (W2.drew.setRow w.heap.size c2.toArray).heap.size; unfold World.setRow; rw [Array.size_modify]; exact Nat.le_refl _, fun k _ hk => setRow_other W2.drew _ k _ hk⟩
    exact hch2.trans this (fun i hi => .inr (by have hi' : i = w.heap.size := hi; omega))
  have hG63 : G ≤ 9223372036854775807 := by unfold maxLen at hGm; omega
  have hne : ((i : Int) == (n : Int)) = false := by simp; omega
  have hin : (i : Int) ≤ (n : Int) := by omega
  have hni : ¬ n = i := by omega
  have hGi : ¬ G = i := by omega
  have hGi1 : ¬ G = i + 1 := by omega
  have hr : (n : Int) < (n : Int) + 1 := by omega
  have hwi : IntKind.i64.wrap ((i : Int) + 1) = (i : Int) + 1 := by rw [IntKind.wrap_i64]; omega
  have hw0 : (0 : Int) ≤ (i : Int) + 1 := by omega
  have hw1 : (i : Int) + 1 ≤ (n : Int) + 1 := by omega
  have hw2 : (i : Int) ≤ (n : Int) + 1 := by omega
  have hw3 : ((i : Int) + 1).toNat = i + 1 := by omega
  have HF := Lib.hid (And.intro hb3 (And.intro hch3 (And.intro hsh (And.intro hGn hGm))))
  have HK := Lib.hid hk
  have HI := Lib.hid hi
  clear h hk hv hb hcs ht hinfo hi0 hz0 hzs hzb hcell lt ld hold hG hGn hGm hc0 hW1 hz hc0l hc0t hc1 hc2 hsh hb1 hch1 hv1 hglt hW2 hb2 hch2 hb0 hW3 hb3 hch3 hsz
  go_enter Try.func72, Try.ntmps72
  go_wp2_with (at_builtin; refine Lib.wpList_append_run _ rfl _ _ _ _ rfl _ _ rfl rfl _ _ hq0 ?_)
  go_region_law (refine step_copy_at rfl (.tmp 50) (.tmp 53) 27 27 rfl (.slice (some ⟨w.heap.size, (i + 1) * 7, none⟩) (n - i) (G - (i + 1))) (.slice (some ⟨g, i * 7, none⟩) (n - i) (n - i)) (by simp [Act.eval, Act.put]) (by simp [Act.eval, Act.put]) (hcp2 _) ?_)
  all_goals
    clear hcp2 hq0 hq1
    go_wp2
    go_ret
    have hil : (insAt l i e).length = n + 1 := by rw [insAt_len (by rw [HK.out]; have := HI.out; omega), HK.out]
    refine ⟨some ⟨w.heap.size, 0, none⟩, G, by rw [hil]; rfl, ⟨by rw [flatMap_len Ev.len, hil], .inr ⟨w.heap.size, G, c2.toArray, by rw [hil], Nat.zero_le _, HF.out.1, by rw [hil]; exact HF.out.2.2.2.1, HF.out.2.2.2.2, by simpa using HF.out.2.2.1.2.1, by rw [hil]; simpa using HF.out.2.2.1.2.2⟩⟩, HF.out.2.1.mono (fun _ _ x => x.elim), fun ad e => by cases e; exact .inr (Nat.le_refl _)⟩
end Go.Proofs.Ytmdpbbnieehmnaa
