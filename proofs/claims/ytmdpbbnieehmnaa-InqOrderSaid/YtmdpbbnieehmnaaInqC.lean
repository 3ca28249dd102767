/- slices.Insert at events: the walks. -/
import Derived.Test.YtmdpbbnieehmnaaInqB
namespace Go.Proofs.Ytmdpbbnieehmnaa
open Go.RowKit
set_option linter.unusedSimpArgs false
set_option linter.unusedVariables false

def insPost (A : Option Addr) (l : List Ev) (w : World) (en : Ending) (w' : World) : Prop := ∃ A' cap', en = .returned (.slice A' l.length cap') ∧ w'.ownsRow 0 31 7 (.slice A' l.length cap') l.length (l.flatMap Ev.cells) ∧ Chg (fun k => ∃ ad, A = some ad ∧ k = ad.block) w w' ∧ ∀ ad, A' = some ad → (∃ ad', A = some ad' ∧ ad.block = ad'.block) ∨ w.heap.size ≤ ad.block

set_option maxHeartbeats 8000000 in
set_option maxRecDepth 100000 in
theorem insert_end (A : Option Addr) (cap : Nat) (l : List Ev) (e : Ev) (vb : Nat) (w : World) (h : w.ownsRow 0 31 7 (.slice A l.length cap) l.length (l.flatMap Ev.cells)) (hv : Blk w vb #[.int .i64 e.at_, .int .i64 e.src, .int .i64 e.sent, .int .i64 e.no, .int .i64 e.dst, .int .i64 e.kind, .int .i64 e.data] 31) (hn : l.length ≤ 1000000) :
    Calls Try.prog 72 #[.slice A l.length cap, .int .i64 l.length, .slice (some ⟨vb, 0, none⟩) 1 1] w (insPost A (l ++ [e]) w) := by
  have hcap : l.length ≤ cap ∧ (A = none → cap = 0) := by
    have h2 := h.2
    rcases h2 with ⟨hv, _⟩ | ⟨g', cap', cur, hv, _, hh, hle, hm, hs, ht⟩
    · injection hv with e1 e2 e3
      exact ⟨by omega, fun _ => e3⟩
    · injection hv with e1 e2 e3
      exact ⟨by omega, fun h0 => by rw [h0] at e1; cases e1⟩
  have H := Lib.hid h
  have HV := Lib.hid hv
  obtain ⟨hc1, hc2⟩ := hcap
  have hcI : (l.length : Int) ≤ (cap : Int) := by omega
  generalize hk : l.length = n at *
  have HK := Lib.hid hk
  clear h hv hk
  cases A with
  | none =>
    obtain rfl : cap = 0 := hc2 rfl
    obtain rfl : n = 0 := by omega
    clear hc2 hcI
    go_enter Try.func72, Try.ntmps72
    go_wp2_with (at_builtin; refine ap_own rfl (.tmp 23) (.tmp 24) 27 rfl 31 (.agg #[.int .i64 0, .int .i64 0, .int .i64 0, .int .i64 0, .int .i64 0, .int .i64 0, .int .i64 0]) 7 56 Try.underlying27 (by kernel_rfl) rfl (by decide) (.slice none 0 0) 0 (l.flatMap Ev.cells) rfl H.out ⟨vb, 0, none⟩ 1 1 e.cells rfl rfl (HV.out.reads' e.cells rfl) (by simpa using Ev.one [e]) (by decide) (by simp [maxLen]) (by simp) ?_; intro g2 cap2 w2 ho hch hg)
    go_ret
    refine ⟨_, cap2, by rw [List.length_append, HK.out]; rfl, by rw [List.length_append, HK.out]; simpa using ho, hch.mono (fun i _ hi => by obtain ⟨ad, e, _⟩ := ownBlk_some hi; cases e), fun ad e => ?_⟩
    cases e
    rcases hg with hg | hg
    · obtain ⟨ad, e, _⟩ := ownBlk_some hg; cases e
    · exact .inr hg
  | some ad =>
    by_cases hcn : cap = n
    · subst hcn
      go_enter Try.func72, Try.ntmps72
      go_wp2_with (at_builtin; refine ap_own rfl (.tmp 23) (.tmp 24) 27 rfl 31 (.agg #[.int .i64 0, .int .i64 0, .int .i64 0, .int .i64 0, .int .i64 0, .int .i64 0, .int .i64 0]) 7 56 Try.underlying27 (by kernel_rfl) rfl (by decide) (.slice (some ad) cap cap) cap (l.flatMap Ev.cells) rfl H.out ⟨vb, 0, none⟩ 1 1 e.cells rfl rfl (HV.out.reads' e.cells rfl) (by simpa using Ev.one [e]) (by decide) (by unfold maxLen; omega) (by omega) ?_; intro g2 cap2 w2 ho hch hg)
      go_ret
      refine ⟨_, cap2, by rw [List.length_append, HK.out]; rfl, by rw [List.length_append, HK.out]; simpa using ho, hch.mono (fun i _ hi => ownBlk_some hi), fun ad' e' => ?_⟩
      cases e'
      rcases hg with hg | hg
      · obtain ⟨ad2, e2, e3⟩ := ownBlk_some hg; exact .inl ⟨ad2, e2, e3⟩
      · exact .inr hg
    · go_enter Try.func72, Try.ntmps72
      go_wp2_with (at_builtin; refine ap_own rfl (.tmp 23) (.tmp 24) 27 rfl 31 (.agg #[.int .i64 0, .int .i64 0, .int .i64 0, .int .i64 0, .int .i64 0, .int .i64 0, .int .i64 0]) 7 56 Try.underlying27 (by kernel_rfl) rfl (by decide) (.slice (some ad) n cap) n (l.flatMap Ev.cells) rfl H.out ⟨vb, 0, none⟩ 1 1 e.cells rfl rfl (HV.out.reads' e.cells rfl) (by simpa using Ev.one [e]) (by decide) (by unfold maxLen; omega) (by omega) ?_; intro g2 cap2 w2 ho hch hg)
      go_ret
      refine ⟨_, cap2, by rw [List.length_append, HK.out]; rfl, by rw [List.length_append, HK.out]; simpa using ho, hch.mono (fun i _ hi => ownBlk_some hi), fun ad' e' => ?_⟩
      cases e'
      rcases hg with hg | hg
      · obtain ⟨ad2, e2, e3⟩ := ownBlk_some hg; exact .inl ⟨ad2, e2, e3⟩
      · exact .inr hg
set_option maxHeartbeats 8000000 in
set_option maxRecDepth 100000 in
theorem insert_room (g cap i : Nat) (l : List Ev) (e : Ev) (vb : Nat) (w : World) (h : RowE w g cap l) (hi : i < l.length) (hroom : l.length + 1 ≤ cap) (hv : Blk w vb #[.int .i64 e.at_, .int .i64 e.src, .int .i64 e.sent, .int .i64 e.no, .int .i64 e.dst, .int .i64 e.kind, .int .i64 e.data] 31) (hvg : vb ≠ g) (hn : l.length ≤ 1000000) :
    Calls Try.prog 72 #[.slice (some ⟨g, 0, none⟩) l.length cap, .int .i64 i, .slice (some ⟨vb, 0, none⟩) 1 1] w (insPost (some ⟨g, 0, none⟩) (insAt l i e) w) := by
  obtain ⟨cur, hb, hcm, hcs, ht⟩ : ∃ cur : Array Value, Blk w g cur 31 ∧ cap ≤ maxLen ∧ cur.size = cap * 7 ∧ cur.toList.take (l.length * 7) = l.flatMap Ev.cells := by
    obtain ⟨_, h2⟩ := h
    rcases h2 with ⟨hv, _⟩ | ⟨g', cap', cur, hv, _, hh, hle, hm, hs, ht⟩
    · cases hv
    · cases hv
      exact ⟨cur, hh, hm, hs, ht⟩
  have hcm' : cap ≤ 9223372036854775807 := by unfold maxLen at hcm; omega
  obtain ⟨n, hk⟩ : ∃ n, l.length = n := ⟨_, rfl⟩
  have hov : ∀ lb cb, (callFunc 78 #[.slice (some ⟨vb, 0, none⟩) 1 1, .slice (some ⟨g, (i + 1) * 7, none⟩) lb cb]).run Try.prog w = .ok (.value (.bool false)) w := fun lb cb => by
    rw [run_callFunc_extern Try.func78 (by kernel_rfl) (by kernel_rfl) (by kernel_rfl) (e := Extern.SlicesOverlaps.overlaps #[27, 27] #[4]) (by kernel_rfl),
      Lib.run_overlaps_apart w 27 4 31 Try.underlying27 7 (fun w => by kernel_rfl) ⟨vb, 0, none⟩ ⟨g, (i + 1) * 7, none⟩ 1 1 lb cb hvg 31 31 7 (cap * 7) (by unfold World.shape?; rw [show w.heap[vb]? = some (.cells #[.int .i64 e.at_, .int .i64 e.src, .int .i64 e.sent, .int .i64 e.no, .int .i64 e.dst, .int .i64 e.kind, .int .i64 e.data] 31 (0, 0)) from hv]; rfl) (by unfold World.shape?; rw [show w.heap[g]? = some (.cells cur 31 (0, 0)) from hb]; show some (_, cur.size) = _; rw [hcs]) (by omega) (hv.frozen 0) (hv.frozen 7)]
    rfl
  obtain ⟨c1, hc1⟩ : ∃ c1, c1 = cur.toList.take ((i + 1) * 7) ++ (l.drop i).flatMap Ev.cells ++ cur.toList.drop ((i + 1) * 7 + ((l.drop i).flatMap Ev.cells).length) := ⟨_, rfl⟩
  obtain ⟨c2, hc2⟩ : ∃ c2, c2 = c1.take (i * 7) ++ e.cells ++ c1.drop (i * 7 + e.cells.length) := ⟨_, rfl⟩
  have hsh := ins_shift (R := l) (e := e) (n := n) (cap := cap) hk (by omega) (by omega) (by simpa using hcs) (by rw [← hk]; exact ht) c1 c2 hc1 hc2
  have hsz : (Try.prog.info? 31).map (·.size) = some 7 := by kernel_rfl
  have ld : ((l.drop i).flatMap Ev.cells).length = (n - i) * 7 := by rw [flatMap_len Ev.len, List.length_drop, hk]
  have hsrc : ∀ j v, ((l.drop i).flatMap Ev.cells)[j]? = some v → w.cell? ⟨g, i * 7 + j, none⟩ = some v := fun j v hj => by
    rw [← cells_drop l i (by omega), List.getElem?_drop, ← ht, List.getElem?_take] at hj
    split at hj
    · rw [Array.getElem?_toList] at hj
      rw [hb.cell]; exact hj
    · cases hj
  obtain ⟨W1, hW1⟩ : ∃ W1, W1 = w.drew.setRow g c1.toArray := ⟨_, rfl⟩
  have hcp1 : ∀ ty dl dc sl sc, Nat.min sl dl = n - i → (Builtin.copy_ #[27, 27] ty #[.slice (some ⟨g, (i + 1) * 7, none⟩) dl dc, .slice (some ⟨g, i * 7, none⟩) sl sc]).run Try.prog w.drew = .ok (goInt (Nat.min sl dl)) W1 := fun ty dl dc sl sc hm => by
    rw [hW1, hc1]
    exact run_copy_wide w.drew 27 27 ty 31 7 g ((i + 1) * 7) dl dc ⟨g, i * 7, none⟩ sl sc cur 31 ((l.drop i).flatMap Ev.cells) Try.underlying27 hsz hb (by rw [ld, hm]) (fun j v hj => by rw [Addr.add_lit]; exact hsrc j v hj) (by rw [ld, hcs]; omega) (Ev.one _)
  have hb1 : Blk W1 g c1.toArray 31 := by rw [hW1]; exact setRow_heap _ g cur _ _ _ hb
  have hch1 : Chg (· = g) w W1 := by rw [hW1]; exact ⟨rfl, rfl, rfl, by show w.heap.size ≤ (w.drew.setRow g c1.toArray).heap.size; unfold World.setRow; rw [Array.size_modify]; exact Nat.le_refl _, fun k _ hk => setRow_other w.drew g k _ hk⟩
  have hv1 : Blk W1 vb #[.int .i64 e.at_, .int .i64 e.src, .int .i64 e.sent, .int .i64 e.no, .int .i64 e.dst, .int .i64 e.kind, .int .i64 e.data] 31 := hv.chg hch1 hvg
  have hcp2 : ∀ W, W.heap = W1.heap → ∀ ty dl dc sc, 1 ≤ dl → (Builtin.copy_ #[27, 27] ty #[.slice (some ⟨g, i * 7, none⟩) dl dc, .slice (some ⟨vb, 0, none⟩) 1 sc]).run Try.prog W = .ok (goInt 1) (W.setRow g c2.toArray) := fun W hW ty dl dc sc hd => by
    have hbW : Blk W g c1.toArray 31 := by unfold Blk; rw [hW]; exact hb1
    have hvW : Blk W vb #[.int .i64 e.at_, .int .i64 e.src, .int .i64 e.sent, .int .i64 e.no, .int .i64 e.dst, .int .i64 e.kind, .int .i64 e.data] 31 := by unfold Blk; rw [hW]; exact hv1
    have hm : Nat.min 1 dl = 1 := Nat.min_eq_left hd
    have := run_copy_wide (P := Try.prog) W 27 27 ty 31 7 g (i * 7) dl dc ⟨vb, 0, none⟩ 1 sc c1.toArray 31 e.cells Try.underlying27 hsz hbW (by rw [hm, Ev.len]) (hvW.reads' e.cells rfl) (by simp [hsh.1, Ev.len]; omega) (by simpa using Ev.one [e])
    rw [hm] at this
    rw [hc2]
    exact this
  have hin : (i : Int) ≤ (n : Int) := by omega
  have hne : ((i : Int) == (n : Int)) = false := by simp; omega
  have hrI : ¬ (cap : Int) < (n : Int) + 1 := by omega
  have hr2 : (n : Int) + 1 ≤ (cap : Int) := by omega
  have hi1 : ¬ cap = i := by omega
  have hi2 : ¬ cap = i + 1 := by omega
  have hi3 : (i : Int) ≤ (cap : Int) := by omega
  have hwi : IntKind.i64.wrap ((i : Int) + 1) = (i : Int) + 1 := by rw [IntKind.wrap_i64]; omega
  have hw0 : (0 : Int) ≤ (i : Int) + 1 := by omega
  have hw1 : (i : Int) + 1 ≤ (n : Int) + 1 := by omega
  have hw2 : (i : Int) ≤ (n : Int) + 1 := by omega
  have hw3 : ((i : Int) + 1).toNat = i + 1 := by omega
  have HSH := Lib.hid hsh
  have HK := Lib.hid hk
  have HB1 := Lib.hid hb1
  have HCH1 := Lib.hid hch1
  rw [hk]
  clear hsh hk hb1 hch1 hW1 hc1 hc2 ht hcs hb hsrc ld h hv hv1 hcm hsz
  go_enter Try.func72, Try.ntmps72
  go_wp2_with (simp only [hov])
  go_region_law (refine step_copy_at rfl (.tmp 73) (.tmp 76) 27 27 rfl (.slice (some ⟨g, (i + 1) * 7, none⟩) (n - i) (cap - (i + 1))) (.slice (some ⟨g, i * 7, none⟩) (n + 1 - i) (cap - i)) (by simp [Act.eval, Act.put]) (by simp [Act.eval, Act.put]) (hcp1 _ (n - i) (cap - (i + 1)) (n + 1 - i) (cap - i) (by simp only [Nat.min_def]; split <;> omega)) ?_)
  all_goals
    have hq := hcp2 W1 rfl 3 (n + 1 - i) (cap - i) 1 (by omega)
    clear hcp2 hcp1
    go_wp2
    go_ret
    have hil : (insAt l i e).length = n + 1 := by rw [insAt_len (by omega), HK.out]
    have hch : Chg (· = g) w (W1.setRow g c2.toArray) := HCH1.out.trans (⟨rfl, rfl, rfl, by show W1.heap.size ≤ (W1.setRow g c2.toArray).heap.size; unfold World.setRow; rw [Array.size_modify]; exact Nat.le_refl _, fun k _ hk => setRow_other W1 g k _ hk⟩ : Chg (· = g) W1 (W1.setRow g c2.toArray)) (fun i h => .inl h)
    refine ⟨some ⟨g, 0, none⟩, cap, by rw [hil]; rfl, ⟨by rw [flatMap_len Ev.len, hil], .inr ⟨g, cap, c2.toArray, by rw [hil], Nat.zero_le _, setRow_heap W1 g _ _ _ _ HB1.out, by omega, by unfold maxLen; omega, by simpa using HSH.out.2.1, by rw [hil]; simpa using HSH.out.2.2⟩⟩, hch.mono (fun i _ hi => ⟨_, rfl, hi⟩), fun ad e => .inl ⟨ad, e, rfl⟩⟩
end Go.Proofs.Ytmdpbbnieehmnaa
