/- saves, rows of things of kind S: Clone, below, New, Save, Last, Cut, Free, Len, Copy. -/
import Derived.Test.YtggbgfdgpkbmhaaBase
import Derived.Test.YtggbgfdgpkbmhaaProg
import Derived.WalkSpells
import Derived.Deep.QuietTactic
import Derived.BigQuiet
namespace Go.Proofs.Ytggbgfdgpkbmhaa
open Go.RowKit
set_option linter.unusedSimpArgs false
set_option linter.unusedVariables false

structure SvS where
  at_ : Int
  x : ByteArray
def SvS.cells (s : SvS) : List Value := [.int .i64 s.at_, .string s.x]
theorem SvS.len (s : SvS) : s.cells.length = 2 := rfl
theorem SvS.one (l : List SvS) : ∀ u ∈ l.flatMap SvS.cells, u.oneCell' = true := by
  intro u hu
  obtain ⟨s, _, hs⟩ := List.mem_flatMap.1 hu
  simp [SvS.cells] at hs
  rcases hs with rfl | rfl <;> rfl

/-- A row that is owned by g (nil where it is empty) and reads as l. -/
def clonePostS (l : List SvS) (w : World) (e : Ending) (w' : World) : Prop := ∃ g cap, e = .returned (.slice (some ⟨g, 0, none⟩) l.length cap) ∧ w'.ownsRow 0 125 2 (.slice (some ⟨g, 0, none⟩) l.length cap) l.length (l.flatMap SvS.cells) ∧ Chg Non w w' ∧ w.heap.size ≤ g

set_option maxRecDepth 100000 in
theorem cloneS_any (l : List SvS) (A : Addr) (n c : Nat) (w : World) (hr : SlRead SvS.cells 2 w (some A) n c l) (hp : 0 < n) (hn : n ≤ 1000000) :
    Calls Try.prog 74 #[.slice (some A) n c] w (clonePostS l w) := by
  have hl := hr.len
  subst hl
  have Hf := Lib.hid (fun o => ((hr.flat SvS.len (by decide)) A rfl : ∀ j u, (l.flatMap SvS.cells)[j]? = some u → w.cell? (A.add j) = some u) o)
  have heq := fun w => Lib.run_eql_slice_nil (P := Try.prog) w 126 125 (some A) l.length c 0 0 Try.underlying126
  go_enter Try.func74, Try.ntmps74
  go_wp2_with (at_builtin; refine ap_own rfl (.tmp 5) (.tmp 6) 126 rfl 125 (.agg #[.int .i64 0, .string ByteArray.empty]) 2 24 Try.underlying126 (by kernel_rfl) rfl (by decide) (.slice (some ⟨w.heap.size, 0, none⟩) 0 0) 0 [] rfl (World.ownsRow_made w #[] 0 (Nat.zero_le _) (by simp [maxLen]) rfl) A l.length c (l.flatMap SvS.cells) rfl (flatMap_len SvS.len l) (fun j u hu => cell_alloc (Hf.out j u hu) _) (SvS.one l) hp (by unfold maxLen; omega) (by omega) ?_; intro g cap w1 hown hch hg)
  go_ret
  rw [Nat.zero_add, List.nil_append] at hown
  refine ⟨g, cap, rfl, hown, ((Chg.refl Non w).alloc _).trans hch (fun i hi => .inr (by simp [Value.ownBlock] at hi; omega)), ?_⟩
  simp [Value.ownBlock] at hg
  omega

structure RowSAt (w : World) (b g cap : Nat) (l : List SvS) : Prop where
  blk : Blk w b #[.slice (some ⟨g, 0, none⟩) l.length cap] 130
  own : w.ownsRow 0 125 2 (.slice (some ⟨g, 0, none⟩) l.length cap) l.length (l.flatMap SvS.cells)
  ne : g ≠ b
  pos : 0 < l.length
theorem RowSAt.read {w : World} {b g cap : Nat} {l : List SvS} (h : RowSAt w b g cap l) : SlRead SvS.cells 2 w (some ⟨g, 0, none⟩) l.length cap l := own_read SvS.len h.own (by decide)
theorem RowSAt.keep {w w' : World} {b g cap : Nat} {l : List SvS} (h : RowSAt w b g cap l) (hb : w'.heap[b]? = w.heap[b]?) (hg : w'.heap[g]? = w.heap[g]?) : RowSAt w' b g cap l :=
  ⟨h.blk.keep hb, own_keep h.own (fun k hk => by simp [Value.ownBlock] at hk; subst hk; exact hg), h.ne, h.pos⟩
theorem RowSAt.ltb {w : World} {b g cap : Nat} {l : List SvS} (h : RowSAt w b g cap l) : b < w.heap.size := h.blk.lt
theorem RowSAt.ltg {w : World} {b g cap : Nat} {l : List SvS} (h : RowSAt w b g cap l) : g < w.heap.size := own_block_lt h.own
theorem RowSAt.chg {w w' : World} {b g cap : Nat} {l : List SvS} (h : RowSAt w b g cap l) {S : Nat → Prop} (hc : Chg S w w') (hb : ¬ S b) (hg : ¬ S g) : RowSAt w' b g cap l :=
  h.keep (hc.block b h.ltb hb) (hc.block g h.ltg hg)
theorem RowSAt.at_ {w : World} {b g cap : Nat} {l : List SvS} (h : RowSAt w b g cap l) {k : Nat} {s : SvS} (hs : l[k]? = some s) : w.cell? ⟨g, k * 2, none⟩ = some (.int .i64 s.at_) ∧ w.cell? ⟨g, k * 2 + 1, none⟩ = some (.string s.x) := by
  obtain ⟨ad, e, hc⟩ := h.read.cell k s hs
  cases e
  have h0 := hc 0 (.int .i64 s.at_) rfl
  have h1 := hc 1 (.string s.x) rfl
  rw [add_plain] at h0 h1
  exact ⟨h0, h1⟩

/-- How many at the head are earlier. -/
def belS (at_ : Int) (l : List SvS) : Nat := (l.takeWhile fun s => decide (s.at_ < at_)).length
theorem belS_le (at_ : Int) (l : List SvS) : belS at_ l ≤ l.length := by unfold belS; exact (List.takeWhile_prefix _).length_le
theorem belS_eq (at_ : Int) : ∀ (l : List SvS) (k : Nat), (∀ (j : Nat) s, j < k → l[j]? = some s → s.at_ < at_) → k ≤ l.length → (k = l.length ∨ ∃ s, l[k]? = some s ∧ ¬ s.at_ < at_) → belS at_ l = k := by
  intro l
  induction l with
  | nil => intro k _ hk _; simp at hk; subst hk; rfl
  | cons s l ih =>
    intro k h1 hk h2
    unfold belS at ih ⊢
    cases k with
    | zero =>
      rcases h2 with h2 | ⟨t, ht, hn⟩
      · simp at h2
      · simp at ht; subst ht
        simp [List.takeWhile_cons, hn]
    | succ k =>
      have h0 := h1 0 s (by omega) rfl
      simp only [List.takeWhile_cons, h0, decide_true, if_true, List.length_cons]
      rw [ih k (fun j t hj ht => h1 (j + 1) t (by omega) (by simpa using ht)) (by simpa using hk) (by simpa using h2)]

set_option maxRecDepth 100000 in
theorem belowS_any (at_ : Int) (w : World) (b g cap : Nat) (l : List SvS) (h : RowSAt w b g cap l) (hn : l.length ≤ 1000000) :
    Calls Try.prog 75 #[.pointer (some ⟨b, 0, none⟩), .int .i64 at_] w fun e w' => e = .returned (.int .i64 (belS at_ l)) ∧ w = w' := by
  have hb := h.blk.cell 0
  go_enter Try.func75, Try.ntmps75
  go_wp2
  go_loop [5] (fun i => ∃ k : Nat, k ≤ l.length ∧ i = .int .i64 k ∧ Hid (∀ (j : Nat) s, j < k → l[j]? = some s → s.at_ < at_)) (fun i => l.length - (intOf i).toNat)
  case atStart => exact ⟨0, by omega, rfl, fun j s hj => by omega⟩
  case round =>
    obtain ⟨k, hk, rfl, Hb⟩ := hrel
    by_cases hlt : k < l.length
    · have hs : l[k]? = some l[k] := List.getElem?_eq_getElem hlt
      generalize l[k] = s at hs
      obtain ⟨e0, e1⟩ := h.at_ hs
      have Hs := Lib.hid hs
      clear hs
      by_cases ht : s.at_ < at_
      · go_wp2
        go_round
        case rel => exact ⟨k + 1, by omega, by go_num, fun j t hj hjt => by
          by_cases hjk : j = k
          · subst hjk; rw [Hs.out] at hjt; cases hjt; exact ht
          · exact Hb.out j t (by omega) hjt⟩
        case measure => simp [intOf]; omega
      · go_wp2
        go_ret
        exact ⟨by rw [belS_eq at_ l k Hb.out hk (.inr ⟨s, Hs.out, by omega⟩)]; rfl, rfl⟩
    · obtain rfl : k = l.length := by omega
      go_wp2
      go_ret
      exact ⟨by rw [belS_eq at_ l l.length Hb.out hk (.inl rfl)]; rfl, rfl⟩

def newRowPostS (x : ByteArray) (w : World) (e : Ending) (w' : World) : Prop := ∃ b g cap, e = .returned (.pointer (some ⟨b, 0, none⟩)) ∧ RowSAt w' b g cap [⟨-1, x⟩] ∧ Chg Non w w' ∧ w.heap.size ≤ b ∧ w.heap.size ≤ g
theorem savNewS_any (x : ByteArray) (w : World) : Calls Try.prog 43 #[.string x] w (newRowPostS x w) := by
  go_enter Try.func43, Try.ntmps43
  go_wp2
  go_ret
  refine ⟨w.heap.size + 1, w.heap.size, 1, rfl, ⟨Blk.new_at (by simp), ?_, by omega, Nat.one_pos⟩, ((Chg.refl Non w).alloc _).alloc _, by omega, by omega⟩
  refine ⟨rfl, .inr ⟨w.heap.size, 1, #[.int .i64 (-1), .string x], rfl, Nat.zero_le _, ?_, by simp, by simp [maxLen], rfl, rfl⟩⟩
  exact (Blk.new_at rfl : Blk (w.alloc (.cells #[.int .i64 (-1), .string x] 125)) w.heap.size #[.int .i64 (-1), .string x] 125).alloc _


theorem savCopyS_any (w : World) (b g cap : Nat) (l : List SvS) (h : RowSAt w b g cap l) (hn : l.length ≤ 1000000) :
    Calls Try.prog 45 #[.pointer (some ⟨b, 0, none⟩)] w fun e w' => ∃ b' g' cap', e = .returned (.pointer (some ⟨b', 0, none⟩)) ∧ RowSAt w' b' g' cap' l ∧ Chg Non w w' ∧ w.heap.size ≤ b' ∧ w.heap.size ≤ g' := by
  have hb := h.blk.cell 0
  go_enter Try.func45, Try.ntmps45
  go_wp2_with fail
  refine (cloneS_any l _ _ _ w h.read h.pos hn).mono ?_
  rintro e w1 ⟨g', cap', rfl, hown, hch, hg⟩
  have hlt := own_block_lt hown
  go_wp2
  go_ret
  exact ⟨w1.heap.size, g', cap', rfl, ⟨Blk.new_at rfl, own_keep hown (fun k hk => by simp [Value.ownBlock] at hk; subst hk; exact Below.heap_alloc _ _ _ hlt), by omega, h.pos⟩, hch.alloc _, hch.size, hg⟩

/-- Where the last save ahead of a time is told. -/
def lastOfS (below : Int) (l : List SvS) : Option SvS := if belS below l = 0 then none else l[belS below l - 1]?

theorem savLastS_none (below : Int) (w : World) (b g cap : Nat) (l : List SvS) (h : RowSAt w b g cap l) (hn : l.length ≤ 1000000) (h0 : belS below l = 0) :
    Calls Try.prog 46 #[.pointer (some ⟨b, 0, none⟩), .int .i64 below] w fun e w' => e = .returned (.tuple #[.int .i64 0, .string ByteArray.empty, .int .i64 14]) ∧ w = w' := by
  have hb := h.blk.cell 0
  go_enter Try.func46, Try.ntmps46
  go_wp2_with fail
  refine (belowS_any below w b g cap l h hn).mono ?_
  rintro e w1 ⟨rfl, rfl⟩
  rw [h0]
  go_wp2
  go_ret3
  exact ⟨rfl, rfl⟩

theorem savLastS_some (below : Int) (w : World) (b g cap : Nat) (l : List SvS) (h : RowSAt w b g cap l) (hn : l.length ≤ 1000000) (m : Nat) (s : SvS) (hm : belS below l = m + 1) (hs : l[m]? = some s) :
    Calls Try.prog 46 #[.pointer (some ⟨b, 0, none⟩), .int .i64 below] w fun e w' => e = .returned (.tuple #[.int .i64 s.at_, .string s.x, .int .i64 0]) ∧ Chg Non w w' := by
  have hb := h.blk.cell 0
  have hml := (List.getElem?_eq_some_iff.1 hs).1
  obtain ⟨e0, e1⟩ := h.at_ hs
  have hlt := h.ltg
  go_enter Try.func46, Try.ntmps46
  go_wp2_with fail
  refine (belowS_any below w b g cap l h hn).mono ?_
  rintro e w1 ⟨rfl, rfl⟩
  rw [hm]
  go_wp2
  go_quiet (fail)
  go_wp2
  go_ret3
  exact ⟨rfl, ((Chg.refl Non w).alloc _).drewN _⟩

theorem savSaveS_late (at_ : Int) (x : ByteArray) (w : World) (b g cap m : Nat) (l : List SvS) (h : RowSAt w b g cap l) (hn : l.length ≤ 1000000) (hm : l.length = m + 1) (s : SvS) (hs : l[m]? = some s) (hl : at_ ≤ s.at_) :
    Calls Try.prog 44 #[.pointer (some ⟨b, 0, none⟩), .int .i64 at_, .string x] w fun e w' => e = .returned (.int .i64 18) ∧ Chg Non w w' := by
  have hb := h.blk.cell 0
  rw [hm] at hb hn
  obtain ⟨e0, e1⟩ := h.at_ hs
  have Hm := Lib.hid hm
  have Hs := Lib.hid hs
  clear hm hs
  have hd : decide (at_ ≤ s.at_) = true := decide_eq_true hl
  go_enter Try.func44, Try.ntmps44
  go_wp2
  go_quiet (fail)
  go_wp2
  go_ret
  exact ⟨rfl, (Chg.refl Non w).drewN _⟩

theorem savSaveS_far (at_ : Int) (x : ByteArray) (w : World) (b g cap m : Nat) (l : List SvS) (h : RowSAt w b g cap l) (hn : l.length ≤ 1000000) (hm : l.length = m + 1) (s : SvS) (hs : l[m]? = some s) (hl : s.at_ < at_) (hf : 1073741824 < at_) :
    Calls Try.prog 44 #[.pointer (some ⟨b, 0, none⟩), .int .i64 at_, .string x] w fun e w' => e = .returned (.int .i64 18) ∧ Chg Non w w' := by
  have hb := h.blk.cell 0
  rw [hm] at hb hn
  obtain ⟨e0, e1⟩ := h.at_ hs
  have Hm := Lib.hid hm
  have Hs := Lib.hid hs
  clear hm hs
  have hd : decide (at_ ≤ s.at_) = false := decide_eq_false (by omega)
  have hd2 : decide (1073741824 < at_) = true := decide_eq_true hf
  go_enter Try.func44, Try.ntmps44
  go_wp2
  go_quiet (fail)
  go_wp2
  go_ret
  exact ⟨rfl, (Chg.refl Non w).drewN _⟩

/-- Behind a call that changed a row: the row is l', its list is where it was or new. -/
structure RowDoneS (w : World) (b g : Nat) (l' : List SvS) (w' : World) : Prop where
  row : ∃ g' cap', RowSAt w' b g' cap' l' ∧ (g' = g ∨ w.heap.size ≤ g')
  chg : Chg (fun k => k = b ∨ k = g) w w'

set_option maxHeartbeats 400000 in
theorem savSaveS_ok (at_ : Int) (x : ByteArray) (w : World) (b g cap m : Nat) (l : List SvS) (h : RowSAt w b g cap l) (hn : l.length ≤ 1000000) (hm : l.length = m + 1) (s : SvS) (hs : l[m]? = some s) (hl : s.at_ < at_) (hf : at_ ≤ 1073741824) :
    Calls Try.prog 44 #[.pointer (some ⟨b, 0, none⟩), .int .i64 at_, .string x] w fun e w' => e = .returned (.int .i64 0) ∧ RowDoneS w b g (l ++ [⟨at_, x⟩]) w' := by
  have hb := h.blk.cell 0
  have ho := h.own
  have hne := h.ne
  rw [hm] at hb hn ho
  obtain ⟨e0, e1⟩ := h.at_ hs
  have Hm := Lib.hid hm
  have Hs := Lib.hid hs
  clear hm hs
  have hd : decide (at_ ≤ s.at_) = false := decide_eq_false (by omega)
  have hd2 : decide (1073741824 < at_) = false := decide_eq_false (by omega)
  go_enter Try.func44, Try.ntmps44
  go_wp2
  go_quiet (fail)
  have hbk := ((h.blk.drewN nq).alloc (.cells #[.int .i64 at_, .string x] 125))
  go_wp2_with (at_builtin; refine ap_own rfl (.tmp 37) (.tmp 41) 126 rfl 125 (.agg #[.int .i64 0, .string ByteArray.empty]) 2 24 Try.underlying126 (by kernel_rfl) rfl (by decide) (.slice (some ⟨g, 0, none⟩) (m + 1) cap) (m + 1) (l.flatMap SvS.cells) rfl (own_alloc (own_drewN ho _) _) ⟨w.heap.size, 0, none⟩ 1 1 [.int .i64 at_, .string x] rfl rfl ((Blk.new_at (by simp)).reads' _ rfl) (by simp [Value.oneCell']) (by decide) (by unfold maxLen; omega) (by omega) ?_; intro g' cap' w1 hown hch hg; have hbk1 := hbk.chg hch (fun e => hne (by simpa [Value.ownBlock] using e)); have hc1 := hbk1.cell 0; have hf1 := hbk1.frozen 0)
  go_ret
  have hgb : g' ≠ b := by
    simp [Value.ownBlock] at hg
    rcases hg with hg | hg
    · omega
    · have := h.ltb; omega
  refine ⟨rfl, ⟨g', cap', ⟨?_, ?_, hgb, by simp⟩, ?_⟩, ?_⟩
  · rw [List.length_append, Hm.out]; exact hbk1.set 0 _
  · rw [List.length_append, Hm.out, List.flatMap_append]; exact own_far hown hgb _
  · simp [Value.ownBlock] at hg; omega
  · refine Chg.setCell ?_ (.inl (.inl rfl)) _
    refine (((Chg.refl _ w).drewN _).alloc _).trans hch (fun i hi => ?_)
    simp [Value.ownBlock] at hi; exact .inl (.inr hi.symm)

theorem savCutS_any (from_ : Int) (w : World) (b g cap : Nat) (l : List SvS) (h : RowSAt w b g cap l) (hn : l.length ≤ 1000000) :
    Calls Try.prog 48 #[.pointer (some ⟨b, 0, none⟩), .int .i64 from_] w fun e w' => e = .returned (.int .i64 (l.length - (max 1 (belS from_ l) : Nat))) ∧ RowDoneS w b g (l.take (max 1 (belS from_ l))) w' := by
  have hb := h.blk.cell 0
  have hp := h.pos
  have hcap := h.read.cap
  have hle := belS_le from_ l
  obtain ⟨n, hN⟩ : ∃ n, max 1 (belS from_ l) = n := ⟨_, rfl⟩
  have hn1 : 1 ≤ n := by omega
  have hn2 : n ≤ l.length := by omega
  rw [hN]
  have hmx : (if (1 : Int) < (belS from_ l : Int) then (belS from_ l : Int) else 1) = (n : Int) := by omega
  clear hN
  have HM := Lib.hid hmx
  clear hmx
  go_enter Try.func48, Try.ntmps48
  go_wp2_with fail
  refine (belowS_any from_ w b g cap l h hn).mono ?_
  rintro e w1 ⟨rfl, rfl⟩
  have hmx := HM.out
  go_wp2_with fail
  clear hmx
  refine (cloneS_any (l.take n) _ n cap w (h.read.take_ n hn2) (by omega) (by omega)).mono ?_
  rintro e w1 ⟨g', cap', rfl, hown, hch, hg⟩
  have hbk1 := h.blk.chg hch id
  have hc1 := hbk1.cell 0
  have hf1 := hbk1.frozen 0
  have hgb : g' ≠ b := by have := h.ltb; omega
  go_wp2
  go_ret
  refine ⟨rfl, ⟨g', cap', ⟨?_, ?_, hgb, by simp; omega⟩, .inr hg⟩, ?_⟩
  · rw [show (l.take n).length = n by simp; omega]; exact hbk1.set 0 _
  · rw [show (l.take n).length = n by simp; omega] at hown ⊢; exact own_far hown hgb _
  · exact (hch.mono (fun i _ x => x.elim)).setCell (.inl (.inl rfl)) _

theorem savFreeS_few (below : Int) (w : World) (b g cap : Nat) (l : List SvS) (h : RowSAt w b g cap l) (hn : l.length ≤ 1000000) (h0 : belS below l = 0 ∨ belS below l = 1) :
    Calls Try.prog 47 #[.pointer (some ⟨b, 0, none⟩), .int .i64 below] w fun e w' => e = .returned (.int .i64 0) ∧ RowDoneS w b g l w' := by
  have hb := h.blk.cell 0
  have hp := h.pos
  have hcap := h.read.cap
  have hgl : ¬ cap = 0 := by omega
  rcases h0 with h0 | h0
  all_goals
    go_enter Try.func47, Try.ntmps47
    go_wp2_with fail
    refine (belowS_any below w b g cap l h hn).mono ?_
    rintro e w1 ⟨rfl, rfl⟩
    rw [h0]
    go_wp2_with fail
    refine (cloneS_any l _ l.length cap w h.read (by omega) (by omega)).mono ?_
    rintro e w1 ⟨g', cap', rfl, hown, hch, hg⟩
    have hbk1 := h.blk.chg hch id
    have hc1 := hbk1.cell 0
    have hf1 := hbk1.frozen 0
    have hgb : g' ≠ b := by have := h.ltb; omega
    go_wp2
    go_ret
    refine ⟨rfl, ⟨g', cap', ⟨hbk1.set 0 _, own_far hown hgb _, hgb, hp⟩, .inr hg⟩, (hch.mono (fun i _ x => x.elim)).setCell (.inl (.inl rfl)) _⟩

theorem savFreeS_many (below : Int) (w : World) (b g cap m : Nat) (l : List SvS) (h : RowSAt w b g cap l) (hn : l.length ≤ 1000000) (h0 : belS below l = m + 2) :
    Calls Try.prog 47 #[.pointer (some ⟨b, 0, none⟩), .int .i64 below] w fun e w' => e = .returned (.int .i64 ((m + 1 : Nat) : Int)) ∧ RowDoneS w b g (l.drop (m + 1)) w' := by
  have hb := h.blk.cell 0
  have hp := h.pos
  have hcap := h.read.cap
  have hle := belS_le below l
  rw [h0] at hle
  have hrd := h.read.drop_ (m + 1) (by omega)
  rw [add_plain] at hrd
  have Hrd := Lib.hid hrd
  clear hrd
  go_enter Try.func47, Try.ntmps47
  go_wp2_with fail
  refine (belowS_any below w b g cap l h hn).mono ?_
  rintro e w1 ⟨rfl, rfl⟩
  rw [h0]
  have H0 := Lib.hid h0
  clear h0
  go_wp2_with fail
  refine (cloneS_any (l.drop (m + 1)) _ (l.length - (m + 1)) (cap - (m + 1)) w Hrd.out (by omega) (by omega)).mono ?_
  rintro e w1 ⟨g', cap', rfl, hown, hch, hg⟩
  have hbk1 := h.blk.chg hch id
  have hc1 := hbk1.cell 0
  have hf1 := hbk1.frozen 0
  have hgb : g' ≠ b := by have := h.ltb; omega
  go_wp2
  go_ret
  refine ⟨ret_int (by omega), ⟨g', cap', ⟨?_, ?_, hgb, by simp; omega⟩, .inr hg⟩, ?_⟩
  · rw [List.length_drop]; exact hbk1.set 0 _
  · rw [List.length_drop] at hown ⊢; exact own_far (p := ⟨b, 0, none⟩) hown hgb _
  · exact (hch.mono (fun i _ x => x.elim)).setCell (.inl (.inl rfl)) _

theorem savFreeS_any (below : Int) (w : World) (b g cap : Nat) (l : List SvS) (h : RowSAt w b g cap l) (hn : l.length ≤ 1000000) :
    Calls Try.prog 47 #[.pointer (some ⟨b, 0, none⟩), .int .i64 below] w fun e w' => e = .returned (.int .i64 ((belS below l - 1 : Nat) : Int)) ∧ RowDoneS w b g (l.drop (belS below l - 1)) w' := by
  by_cases h1 : belS below l = 0 ∨ belS below l = 1
  · rw [show belS below l - 1 = 0 by omega]
    exact savFreeS_few below w b g cap l h hn h1
  · obtain ⟨m, hm⟩ : ∃ m, belS below l = m + 2 := ⟨belS below l - 2, by omega⟩
    rw [show belS below l - 1 = m + 1 by omega]
    exact savFreeS_many below w b g cap m l h hn hm

end Go.Proofs.Ytggbgfdgpkbmhaa
