/- saves, rows of things of kind I: Clone, below, New, Save, Last, Cut, Free, Len, Copy. -/
import Derived.Test.YtggbgfdgpkbmhaaBase
import Derived.Test.YtggbgfdgpkbmhaaProg
import Derived.WalkSpells
import Derived.Deep.QuietTactic
import Derived.BigQuiet
namespace Go.Proofs.Ytggbgfdgpkbmhaa
open Go.RowKit
set_option linter.unusedSimpArgs false
set_option linter.unusedVariables false

structure SvI where
  at_ : Int
  x : Int
def SvI.cells (s : SvI) : List Value := [.int .i64 s.at_, .int .i64 s.x]
theorem SvI.len (s : SvI) : s.cells.length = 2 := rfl
theorem SvI.one (l : List SvI) : ∀ u ∈ l.flatMap SvI.cells, u.oneCell' = true := by
  intro u hu
  obtain ⟨s, _, hs⟩ := List.mem_flatMap.1 hu
  simp [SvI.cells] at hs
  rcases hs with rfl | rfl <;> rfl

/-- A row that is owned by g (nil where it is empty) and reads as l. -/
def clonePostI (l : List SvI) (w : World) (e : Ending) (w' : World) : Prop := ∃ g cap, e = .returned (.slice (some ⟨g, 0, none⟩) l.length cap) ∧ w'.ownsRow 0 89 2 (.slice (some ⟨g, 0, none⟩) l.length cap) l.length (l.flatMap SvI.cells) ∧ Chg Non w w' ∧ w.heap.size ≤ g

set_option maxRecDepth 100000 in
theorem cloneI_any (l : List SvI) (A : Addr) (n c : Nat) (w : World) (hr : SlRead SvI.cells 2 w (some A) n c l) (hp : 0 < n) (hn : n ≤ 1000000) :
    Calls Try.prog 53 #[.slice (some A) n c] w (clonePostI l w) := by
  have hl := hr.len
  subst hl
  have Hf := Lib.hid (fun o => ((hr.flat SvI.len (by decide)) A rfl : ∀ j u, (l.flatMap SvI.cells)[j]? = some u → w.cell? (A.add j) = some u) o)
  have heq := fun w => Lib.run_eql_slice_nil (P := Try.prog) w 90 89 (some A) l.length c 0 0 Try.underlying90
  go_enter Try.func53, Try.ntmps53
  go_wp2_with (at_builtin; refine ap_own rfl (.tmp 5) (.tmp 6) 90 rfl 89 (.agg #[.int .i64 0, .int .i64 0]) 2 16 Try.underlying90 (by kernel_rfl) rfl (by decide) (.slice (some ⟨w.heap.size, 0, none⟩) 0 0) 0 [] rfl (World.ownsRow_made w #[] 0 (Nat.zero_le _) (by simp [maxLen]) rfl) A l.length c (l.flatMap SvI.cells) rfl (flatMap_len SvI.len l) (fun j u hu => cell_alloc (Hf.out j u hu) _) (SvI.one l) hp (by unfold maxLen; omega) (by omega) ?_; intro g cap w1 hown hch hg)
  go_ret
  rw [Nat.zero_add, List.nil_append] at hown
  refine ⟨g, cap, rfl, hown, ((Chg.refl Non w).alloc _).trans hch (fun i hi => .inr (by simp [Value.ownBlock] at hi; omega)), ?_⟩
  simp [Value.ownBlock] at hg
  omega

structure RowIAt (w : World) (b g cap : Nat) (l : List SvI) : Prop where
  blk : Blk w b #[.slice (some ⟨g, 0, none⟩) l.length cap] 94
  own : w.ownsRow 0 89 2 (.slice (some ⟨g, 0, none⟩) l.length cap) l.length (l.flatMap SvI.cells)
  ne : g ≠ b
  pos : 0 < l.length
theorem RowIAt.read {w : World} {b g cap : Nat} {l : List SvI} (h : RowIAt w b g cap l) : SlRead SvI.cells 2 w (some ⟨g, 0, none⟩) l.length cap l := own_read SvI.len h.own (by decide)
theorem RowIAt.keep {w w' : World} {b g cap : Nat} {l : List SvI} (h : RowIAt w b g cap l) (hb : w'.heap[b]? = w.heap[b]?) (hg : w'.heap[g]? = w.heap[g]?) : RowIAt w' b g cap l :=
  ⟨h.blk.keep hb, own_keep h.own (fun k hk => by simp [Value.ownBlock] at hk; subst hk; exact hg), h.ne, h.pos⟩
theorem RowIAt.ltb {w : World} {b g cap : Nat} {l : List SvI} (h : RowIAt w b g cap l) : b < w.heap.size := h.blk.lt
theorem RowIAt.ltg {w : World} {b g cap : Nat} {l : List SvI} (h : RowIAt w b g cap l) : g < w.heap.size := own_block_lt h.own
theorem RowIAt.chg {w w' : World} {b g cap : Nat} {l : List SvI} (h : RowIAt w b g cap l) {S : Nat → Prop} (hc : Chg S w w') (hb : ¬ S b) (hg : ¬ S g) : RowIAt w' b g cap l :=
  h.keep (hc.block b h.ltb hb) (hc.block g h.ltg hg)
theorem RowIAt.at_ {w : World} {b g cap : Nat} {l : List SvI} (h : RowIAt w b g cap l) {k : Nat} {s : SvI} (hs : l[k]? = some s) : w.cell? ⟨g, k * 2, none⟩ = some (.int .i64 s.at_) ∧ w.cell? ⟨g, k * 2 + 1, none⟩ = some (.int .i64 s.x) := by
  obtain ⟨ad, e, hc⟩ := h.read.cell k s hs
  cases e
  have h0 := hc 0 (.int .i64 s.at_) rfl
  have h1 := hc 1 (.int .i64 s.x) rfl
  rw [add_plain] at h0 h1
  exact ⟨h0, h1⟩

/-- How many at the head are earlier. -/
def belI (at_ : Int) (l : List SvI) : Nat := (l.takeWhile fun s => decide (s.at_ < at_)).length
theorem belI_le (at_ : Int) (l : List SvI) : belI at_ l ≤ l.length := by unfold belI; exact (List.takeWhile_prefix _).length_le
theorem belI_eq (at_ : Int) : ∀ (l : List SvI) (k : Nat), (∀ (j : Nat) s, j < k → l[j]? = some s → s.at_ < at_) → k ≤ l.length → (k = l.length ∨ ∃ s, l[k]? = some s ∧ ¬ s.at_ < at_) → belI at_ l = k := by
  intro l
  induction l with
  | nil => intro k _ hk _; simp at hk; subst hk; rfl
  | cons s l ih =>
    intro k h1 hk h2
    unfold belI at ih ⊢
    cases k with
    | zero =>
      rcases h2 with h2 | ⟨t, ht, hn⟩
      · simp at h2
      · simp at ht; subst ht
        simp [List.takeWhile_cons, hn]
    | succ k =>
      have h0 := h1 0 s (by omega) rfl
      simp only [List.takeWhile_cons, h0, decide_true, if_true, List.length_cons]
      rw [ih k (fun j t hj ht => h1 (j + 1) t (by omega) (by simpa using ht)) (by simpa using hk) (by simpa using h2)]

set_option maxRecDepth 100000 in
theorem belowI_any (at_ : Int) (w : World) (b g cap : Nat) (l : List SvI) (h : RowIAt w b g cap l) (hn : l.length ≤ 1000000) :
    Calls Try.prog 55 #[.pointer (some ⟨b, 0, none⟩), .int .i64 at_] w fun e w' => e = .returned (.int .i64 (belI at_ l)) ∧ w = w' := by
  have hb := h.blk.cell 0
  go_enter Try.func55, Try.ntmps55
  go_wp2
  go_loop [5] (fun i => ∃ k : Nat, k ≤ l.length ∧ i = .int .i64 k ∧ Hid (∀ (j : Nat) s, j < k → l[j]? = some s → s.at_ < at_)) (fun i => l.length - (intOf i).toNat)
  case atStart => exact ⟨0, by omega, rfl, fun j s hj => by omega⟩
  case round =>
    obtain ⟨k, hk, rfl, Hb⟩ := hrel
    by_cases hlt : k < l.length
    · have hs : l[k]? = some l[k] := List.getElem?_eq_getElem hlt
      generalize l[k] = s at hs
      obtain ⟨e0, e1⟩ := h.at_ hs
      have Hs := Lib.hid hs
      clear hs
      by_cases ht : s.at_ < at_
      · go_wp2
        go_round
        case rel => exact ⟨k + 1, by omega, by go_num, fun j t hj hjt => by
          by_cases hjk : j = k
          · subst hjk; rw [Hs.out] at hjt; cases hjt; exact ht
          · exact Hb.out j t (by omega) hjt⟩
        case measure => simp [intOf]; omega
      · go_wp2
        go_ret
        exact ⟨by rw [belI_eq at_ l k Hb.out hk (.inr ⟨s, Hs.out, by omega⟩)]; rfl, rfl⟩
    · obtain rfl : k = l.length := by omega
      go_wp2
      go_ret
      exact ⟨by rw [belI_eq at_ l l.length Hb.out hk (.inl rfl)]; rfl, rfl⟩

def newRowPostI (x : Int) (w : World) (e : Ending) (w' : World) : Prop := ∃ b g cap, e = .returned (.pointer (some ⟨b, 0, none⟩)) ∧ RowIAt w' b g cap [⟨-1, x⟩] ∧ Chg Non w w' ∧ w.heap.size ≤ b ∧ w.heap.size ≤ g
theorem savNewI_any (x : Int) (w : World) : Calls Try.prog 15 #[.int .i64 x] w (newRowPostI x w) := by
  go_enter Try.func15, Try.ntmps15
  go_wp2
  go_ret
  refine ⟨w.heap.size + 1, w.heap.size, 1, rfl, ⟨Blk.new_at (by simp), ?_, by omega, Nat.one_pos⟩, ((Chg.refl Non w).alloc _).alloc _, by omega, by omega⟩
  refine ⟨rfl, .inr ⟨w.heap.size, 1, #[.int .i64 (-1), .int .i64 x], rfl, Nat.zero_le _, ?_, by simp, by simp [maxLen], rfl, rfl⟩⟩
  exact (Blk.new_at rfl : Blk (w.alloc (.cells #[.int .i64 (-1), .int .i64 x] 89)) w.heap.size #[.int .i64 (-1), .int .i64 x] 89).alloc _

theorem savLenI_any (w : World) (b g cap : Nat) (l : List SvI) (h : RowIAt w b g cap l) (hn : l.length ≤ 1000000) :
    Calls Try.prog 24 #[.pointer (some ⟨b, 0, none⟩)] w fun e w' => e = .returned (.int .i64 l.length) ∧ w = w' := by
  have hb := h.blk.cell 0
  go_enter Try.func24, Try.ntmps24
  go_wp2
  go_ret
  exact ⟨rfl, rfl⟩

theorem savCopyI_any (w : World) (b g cap : Nat) (l : List SvI) (h : RowIAt w b g cap l) (hn : l.length ≤ 1000000) :
    Calls Try.prog 18 #[.pointer (some ⟨b, 0, none⟩)] w fun e w' => ∃ b' g' cap', e = .returned (.pointer (some ⟨b', 0, none⟩)) ∧ RowIAt w' b' g' cap' l ∧ Chg Non w w' ∧ w.heap.size ≤ b' ∧ w.heap.size ≤ g' := by
  have hb := h.blk.cell 0
  go_enter Try.func18, Try.ntmps18
  go_wp2_with fail
  refine (cloneI_any l _ _ _ w h.read h.pos hn).mono ?_
  rintro e w1 ⟨g', cap', rfl, hown, hch, hg⟩
  have hlt := own_block_lt hown
  go_wp2
  go_ret
  exact ⟨w1.heap.size, g', cap', rfl, ⟨Blk.new_at rfl, own_keep hown (fun k hk => by simp [Value.ownBlock] at hk; subst hk; exact Below.heap_alloc _ _ _ hlt), by omega, h.pos⟩, hch.alloc _, hch.size, hg⟩

/-- Where the last save ahead of a time is told. -/
def lastOfI (below : Int) (l : List SvI) : Option SvI := if belI below l = 0 then none else l[belI below l - 1]?

theorem savLastI_none (below : Int) (w : World) (b g cap : Nat) (l : List SvI) (h : RowIAt w b g cap l) (hn : l.length ≤ 1000000) (h0 : belI below l = 0) :
    Calls Try.prog 23 #[.pointer (some ⟨b, 0, none⟩), .int .i64 below] w fun e w' => e = .returned (.tuple #[.int .i64 0, .int .i64 0, .int .i64 14]) ∧ w = w' := by
  have hb := h.blk.cell 0
  go_enter Try.func23, Try.ntmps23
  go_wp2_with fail
  refine (belowI_any below w b g cap l h hn).mono ?_
  rintro e w1 ⟨rfl, rfl⟩
  rw [h0]
  go_wp2
  go_ret3
  exact ⟨rfl, rfl⟩

theorem savLastI_some (below : Int) (w : World) (b g cap : Nat) (l : List SvI) (h : RowIAt w b g cap l) (hn : l.length ≤ 1000000) (m : Nat) (s : SvI) (hm : belI below l = m + 1) (hs : l[m]? = some s) :
    Calls Try.prog 23 #[.pointer (some ⟨b, 0, none⟩), .int .i64 below] w fun e w' => e = .returned (.tuple #[.int .i64 s.at_, .int .i64 s.x, .int .i64 0]) ∧ Chg Non w w' := by
  have hb := h.blk.cell 0
  have hml := (List.getElem?_eq_some_iff.1 hs).1
  obtain ⟨e0, e1⟩ := h.at_ hs
  have hlt := h.ltg
  go_enter Try.func23, Try.ntmps23
  go_wp2_with fail
  refine (belowI_any below w b g cap l h hn).mono ?_
  rintro e w1 ⟨rfl, rfl⟩
  rw [hm]
  go_wp2
  go_quiet (fail)
  go_wp2
  go_ret3
  exact ⟨rfl, ((Chg.refl Non w).alloc _).drewN _⟩

theorem savSaveI_late (at_ : Int) (x : Int) (w : World) (b g cap m : Nat) (l : List SvI) (h : RowIAt w b g cap l) (hn : l.length ≤ 1000000) (hm : l.length = m + 1) (s : SvI) (hs : l[m]? = some s) (hl : at_ ≤ s.at_) :
    Calls Try.prog 25 #[.pointer (some ⟨b, 0, none⟩), .int .i64 at_, .int .i64 x] w fun e w' => e = .returned (.int .i64 18) ∧ Chg Non w w' := by
  have hb := h.blk.cell 0
  rw [hm] at hb hn
  obtain ⟨e0, e1⟩ := h.at_ hs
  have Hm := Lib.hid hm
  have Hs := Lib.hid hs
  clear hm hs
  have hd : decide (at_ ≤ s.at_) = true := decide_eq_true hl
  go_enter Try.func25, Try.ntmps25
  go_wp2
  go_quiet (fail)
  go_wp2
  go_ret
  exact ⟨rfl, (Chg.refl Non w).drewN _⟩

theorem savSaveI_far (at_ : Int) (x : Int) (w : World) (b g cap m : Nat) (l : List SvI) (h : RowIAt w b g cap l) (hn : l.length ≤ 1000000) (hm : l.length = m + 1) (s : SvI) (hs : l[m]? = some s) (hl : s.at_ < at_) (hf : 1073741824 < at_) :
    Calls Try.prog 25 #[.pointer (some ⟨b, 0, none⟩), .int .i64 at_, .int .i64 x] w fun e w' => e = .returned (.int .i64 18) ∧ Chg Non w w' := by
  have hb := h.blk.cell 0
  rw [hm] at hb hn
  obtain ⟨e0, e1⟩ := h.at_ hs
  have Hm := Lib.hid hm
  have Hs := Lib.hid hs
  clear hm hs
  have hd : decide (at_ ≤ s.at_) = false := decide_eq_false (by omega)
  have hd2 : decide (1073741824 < at_) = true := decide_eq_true hf
  go_enter Try.func25, Try.ntmps25
  go_wp2
  go_quiet (fail)
  go_wp2
  go_ret
  exact ⟨rfl, (Chg.refl Non w).drewN _⟩

/-- Behind a call that changed a row: the row is l', its list is where it was or new. -/
structure RowDoneI (w : World) (b g : Nat) (l' : List SvI) (w' : World) : Prop where
  row : ∃ g' cap', RowIAt w' b g' cap' l' ∧ (g' = g ∨ w.heap.size ≤ g')
  chg : Chg (fun k => k = b ∨ k = g) w w'

set_option maxHeartbeats 400000 in
theorem savSaveI_ok (at_ : Int) (x : Int) (w : World) (b g cap m : Nat) (l : List SvI) (h : RowIAt w b g cap l) (hn : l.length ≤ 1000000) (hm : l.length = m + 1) (s : SvI) (hs : l[m]? = some s) (hl : s.at_ < at_) (hf : at_ ≤ 1073741824) :
    Calls Try.prog 25 #[.pointer (some ⟨b, 0, none⟩), .int .i64 at_, .int .i64 x] w fun e w' => e = .returned (.int .i64 0) ∧ RowDoneI w b g (l ++ [⟨at_, x⟩]) w' := by
  have hb := h.blk.cell 0
  have ho := h.own
  have hne := h.ne
  rw [hm] at hb hn ho
  obtain ⟨e0, e1⟩ := h.at_ hs
  have Hm := Lib.hid hm
  have Hs := Lib.hid hs
  clear hm hs
  have hd : decide (at_ ≤ s.at_) = false := decide_eq_false (by omega)
  have hd2 : decide (1073741824 < at_) = false := decide_eq_false (by omega)
  go_enter Try.func25, Try.ntmps25
  go_wp2
  go_quiet (fail)
  have hbk := ((h.blk.drewN nq).alloc (.cells #[.int .i64 at_, .int .i64 x] 89))
  go_wp2_with (at_builtin; refine ap_own rfl (.tmp 37) (.tmp 41) 90 rfl 89 (.agg #[.int .i64 0, .int .i64 0]) 2 16 Try.underlying90 (by kernel_rfl) rfl (by decide) (.slice (some ⟨g, 0, none⟩) (m + 1) cap) (m + 1) (l.flatMap SvI.cells) rfl (own_alloc (own_drewN ho _) _) ⟨w.heap.size, 0, none⟩ 1 1 [.int .i64 at_, .int .i64 x] rfl rfl ((Blk.new_at (by simp)).reads' _ rfl) (by simp [Value.oneCell']) (by decide) (by unfold maxLen; omega) (by omega) ?_; intro g' cap' w1 hown hch hg; have hbk1 := hbk.chg hch (fun e => hne (by simpa [Value.ownBlock] using e)); have hc1 := hbk1.cell 0; have hf1 := hbk1.frozen 0)
  go_ret
  have hgb : g' ≠ b := by
    simp [Value.ownBlock] at hg
    rcases hg with hg | hg
    · omega
    · have := h.ltb; omega
  refine ⟨rfl, ⟨g', cap', ⟨?_, ?_, hgb, by simp⟩, ?_⟩, ?_⟩
  · rw [List.length_append, Hm.out]; exact hbk1.set 0 _
  · rw [List.length_append, Hm.out, List.flatMap_append]; exact own_far hown hgb _
  · simp [Value.ownBlock] at hg; omega
  · refine Chg.setCell ?_ (.inl (.inl rfl)) _
    refine (((Chg.refl _ w).drewN _).alloc _).trans hch (fun i hi => ?_)
    simp [Value.ownBlock] at hi; exact .inl (.inr hi.symm)

theorem savCutI_any (from_ : Int) (w : World) (b g cap : Nat) (l : List SvI) (h : RowIAt w b g cap l) (hn : l.length ≤ 1000000) :
    Calls Try.prog 26 #[.pointer (some ⟨b, 0, none⟩), .int .i64 from_] w fun e w' => e = .returned (.int .i64 (l.length - (max 1 (belI from_ l) : Nat))) ∧ RowDoneI w b g (l.take (max 1 (belI from_ l))) w' := by
  have hb := h.blk.cell 0
  have hp := h.pos
  have hcap := h.read.cap
  have hle := belI_le from_ l
  obtain ⟨n, hN⟩ : ∃ n, max 1 (belI from_ l) = n := ⟨_, rfl⟩
  have hn1 : 1 ≤ n := by omega
  have hn2 : n ≤ l.length := by omega
  rw [hN]
  have hmx : (if (1 : Int) < (belI from_ l : Int) then (belI from_ l : Int) else 1) = (n : Int) := by omega
  clear hN
  have HM := Lib.hid hmx
  clear hmx
  go_enter Try.func26, Try.ntmps26
  go_wp2_with fail
  refine (belowI_any from_ w b g cap l h hn).mono ?_
  rintro e w1 ⟨rfl, rfl⟩
  have hmx := HM.out
  go_wp2_with fail
  clear hmx
  refine (cloneI_any (l.take n) _ n cap w (h.read.take_ n hn2) (by omega) (by omega)).mono ?_
  rintro e w1 ⟨g', cap', rfl, hown, hch, hg⟩
  have hbk1 := h.blk.chg hch id
  have hc1 := hbk1.cell 0
  have hf1 := hbk1.frozen 0
  have hgb : g' ≠ b := by have := h.ltb; omega
  go_wp2
  go_ret
  refine ⟨rfl, ⟨g', cap', ⟨?_, ?_, hgb, by simp; omega⟩, .inr hg⟩, ?_⟩
  · rw [show (l.take n).length = n by simp; omega]; exact hbk1.set 0 _
  · rw [show (l.take n).length = n by simp; omega] at hown ⊢; exact own_far hown hgb _
  · exact (hch.mono (fun i _ x => x.elim)).setCell (.inl (.inl rfl)) _

theorem savFreeI_few (below : Int) (w : World) (b g cap : Nat) (l : List SvI) (h : RowIAt w b g cap l) (hn : l.length ≤ 1000000) (h0 : belI below l = 0 ∨ belI below l = 1) :
    Calls Try.prog 27 #[.pointer (some ⟨b, 0, none⟩), .int .i64 below] w fun e w' => e = .returned (.int .i64 0) ∧ RowDoneI w b g l w' := by
  have hb := h.blk.cell 0
  have hp := h.pos
  have hcap := h.read.cap
  have hgl : ¬ cap = 0 := by omega
  rcases h0 with h0 | h0
  all_goals
    go_enter Try.func27, Try.ntmps27
    go_wp2_with fail
    refine (belowI_any below w b g cap l h hn).mono ?_
    rintro e w1 ⟨rfl, rfl⟩
    rw [h0]
    go_wp2_with fail
    refine (cloneI_any l _ l.length cap w h.read (by omega) (by omega)).mono ?_
    rintro e w1 ⟨g', cap', rfl, hown, hch, hg⟩
    have hbk1 := h.blk.chg hch id
    have hc1 := hbk1.cell 0
    have hf1 := hbk1.frozen 0
    have hgb : g' ≠ b := by have := h.ltb; omega
    go_wp2
    go_ret
    refine ⟨rfl, ⟨g', cap', ⟨hbk1.set 0 _, own_far hown hgb _, hgb, hp⟩, .inr hg⟩, (hch.mono (fun i _ x => x.elim)).setCell (.inl (.inl rfl)) _⟩

theorem savFreeI_many (below : Int) (w : World) (b g cap m : Nat) (l : List SvI) (h : RowIAt w b g cap l) (hn : l.length ≤ 1000000) (h0 : belI below l = m + 2) :
    Calls Try.prog 27 #[.pointer (some ⟨b, 0, none⟩), .int .i64 below] w fun e w' => e = .returned (.int .i64 ((m + 1 : Nat) : Int)) ∧ RowDoneI w b g (l.drop (m + 1)) w' := by
  have hb := h.blk.cell 0
  have hp := h.pos
  have hcap := h.read.cap
  have hle := belI_le below l
  rw [h0] at hle
  have hrd := h.read.drop_ (m + 1) (by omega)
  rw [add_plain] at hrd
  have Hrd := Lib.hid hrd
  clear hrd
  go_enter Try.func27, Try.ntmps27
  go_wp2_with fail
  refine (belowI_any below w b g cap l h hn).mono ?_
  rintro e w1 ⟨rfl, rfl⟩
  rw [h0]
  have H0 := Lib.hid h0
  clear h0
  go_wp2_with fail
  refine (cloneI_any (l.drop (m + 1)) _ (l.length - (m + 1)) (cap - (m + 1)) w Hrd.out (by omega) (by omega)).mono ?_
  rintro e w1 ⟨g', cap', rfl, hown, hch, hg⟩
  have hbk1 := h.blk.chg hch id
  have hc1 := hbk1.cell 0
  have hf1 := hbk1.frozen 0
  have hgb : g' ≠ b := by have := h.ltb; omega
  go_wp2
  go_ret
  refine ⟨ret_int (by omega), ⟨g', cap', ⟨?_, ?_, hgb, by simp; omega⟩, .inr hg⟩, ?_⟩
  · rw [List.length_drop]; exact hbk1.set 0 _
  · rw [List.length_drop] at hown ⊢; exact own_far (p := ⟨b, 0, none⟩) hown hgb _
  · exact (hch.mono (fun i _ x => x.elim)).setCell (.inl (.inl rfl)) _

theorem savFreeI_any (below : Int) (w : World) (b g cap : Nat) (l : List SvI) (h : RowIAt w b g cap l) (hn : l.length ≤ 1000000) :
    Calls Try.prog 27 #[.pointer (some ⟨b, 0, none⟩), .int .i64 below] w fun e w' => e = .returned (.int .i64 ((belI below l - 1 : Nat) : Int)) ∧ RowDoneI w b g (l.drop (belI below l - 1)) w' := by
  by_cases h1 : belI below l = 0 ∨ belI below l = 1
  · rw [show belI below l - 1 = 0 by omega]
    exact savFreeI_few below w b g cap l h hn h1
  · obtain ⟨m, hm⟩ : ∃ m, belI below l = m + 2 := ⟨belI below l - 2, by omega⟩
    rw [show belI below l - 1 = m + 1 by omega]
    exact savFreeI_many below w b g cap m l h hn hm

end Go.Proofs.Ytggbgfdgpkbmhaa
