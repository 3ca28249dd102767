/- saves: the document's answer (boomerangref12), call by call. -/
import Derived.Test.YtggbgfdgpkbmhaaSavC
import Derived.Test.YtggbgfdgpkbmhaaBaseA
import Derived.StillTailTactics
import Derived.Deep.RegionWith
import Derived.Deep.DeepFit
import Derived.Deep.DeepMust
import Derived.Deep.RegionHeld3
namespace Go.Proofs.Ytggbgfdgpkbmhaa
open Go.RowKit
set_option linter.unusedSimpArgs false
set_option linter.unusedVariables false

structure RefAt (w : World) (p ga oa ca gx ox cx : Nat) (l : List SvI) : Prop where
  blk : Blk w p #[.slice (some ⟨ga, oa, none⟩) l.length ca, .slice (some ⟨gx, ox, none⟩) l.length cx] 96
  at_ : OwnA w 3 1 ga oa l.length ca ((l.map (·.at_)).flatMap ic)
  x : OwnA w 3 1 gx ox l.length cx ((l.map (·.x)).flatMap ic)
  na : ga ≠ p
  nx : gx ≠ p
  nn : ga ≠ gx
  pos : 0 < l.length
theorem RefAt.keep {w w' : World} {p ga oa ca gx ox cx : Nat} {l : List SvI} (h : RefAt w p ga oa ca gx ox cx l) (h1 : w'.heap[p]? = w.heap[p]?) (h2 : w'.heap[ga]? = w.heap[ga]?) (h3 : w'.heap[gx]? = w.heap[gx]?) : RefAt w' p ga oa ca gx ox cx l :=
  ⟨h.blk.keep h1, h.at_.keep h2, h.x.keep h3, h.na, h.nx, h.nn, h.pos⟩
theorem RefAt.chg {w w' : World} {p ga oa ca gx ox cx : Nat} {l : List SvI} (h : RefAt w p ga oa ca gx ox cx l) {S : Nat → Prop} (hc : Chg S w w') (h1 : ¬ S p) (h2 : ¬ S ga) (h3 : ¬ S gx) : RefAt w' p ga oa ca gx ox cx l :=
  h.keep (hc.block p h.blk.lt h1) (hc.block ga h.at_.lt h2) (hc.block gx h.x.lt h3)
theorem ic_at (l : List SvI) (f : SvI → Int) {k : Nat} {s : SvI} (hs : l[k]? = some s) : ((l.map f).flatMap ic)[k]? = some (.int .i64 (f s)) := by
  have := flatMap_get (f := ic) (k := 1) ic_len (l.map f) k (f s) 0 (.int .i64 (f s)) (by simp [hs]) rfl
  simpa using this
theorem RefAt.at1 {w : World} {p ga oa ca gx ox cx : Nat} {l : List SvI} (h : RefAt w p ga oa ca gx ox cx l) {k : Nat} {s : SvI} (hs : l[k]? = some s) : w.cell? ⟨ga, oa + k, none⟩ = some (.int .i64 s.at_) := h.at_.cell (ic_at l _ hs)
theorem RefAt.at2 {w : World} {p ga oa ca gx ox cx : Nat} {l : List SvI} (h : RefAt w p ga oa ca gx ox cx l) {k : Nat} {s : SvI} (hs : l[k]? = some s) : w.cell? ⟨gx, ox + k, none⟩ = some (.int .i64 s.x) := h.x.cell (ic_at l _ hs)

/-- The times rise. -/
def Rising (l : List SvI) : Prop := ∀ (i j : Nat) s t, i < j → l[i]? = some s → l[j]? = some t → s.at_ < t.at_
theorem bel_lt (at_ : Int) : ∀ (l : List SvI) (k : Nat) s, l[k]? = some s → k < belI at_ l → s.at_ < at_ := by
  intro l
  induction l with
  | nil => intro k s h; simp at h
  | cons y l ih =>
    intro k s h hk
    unfold belI at ih hk
    by_cases hy : y.at_ < at_
    · simp only [List.takeWhile_cons, hy, decide_true, if_true, List.length_cons] at hk
      cases k with
      | zero => simp at h; subst h; exact hy
      | succ k => exact ih k s (by simpa using h) (by omega)
    · simp [List.takeWhile_cons, hy] at hk
theorem bel_stop (at_ : Int) : ∀ (l : List SvI) s, l[belI at_ l]? = some s → ¬ s.at_ < at_ := by
  intro l
  induction l with
  | nil => intro s h; simp at h
  | cons y l ih =>
    intro s h
    unfold belI at ih h
    by_cases hy : y.at_ < at_
    · simp only [List.takeWhile_cons, hy, decide_true, if_true, List.length_cons, List.getElem?_cons_succ] at h
      exact ih s h
    · simp [List.takeWhile_cons, hy] at h
      subst h; exact hy
theorem bel_iff {l : List SvI} (hr : Rising l) (at_ : Int) {k : Nat} {s : SvI} (hs : l[k]? = some s) : s.at_ < at_ ↔ k < belI at_ l := by
  constructor
  · intro h
    apply Classical.byContradiction
    intro hk
    have hb : belI at_ l < l.length := by have := (List.getElem?_eq_some_iff.1 hs).1; omega
    have h1 := bel_stop at_ l l[belI at_ l] (List.getElem?_eq_getElem hb)
    by_cases e : belI at_ l = k
    · subst e
      rw [List.getElem?_eq_getElem hb] at hs
      cases hs
      exact h1 h
    · have := hr (belI at_ l) k _ s (by omega) (List.getElem?_eq_getElem hb) hs
      omega
  · exact bel_lt at_ l k s hs

theorem refNew_any (x : Int) (w : World) : Calls Try.prog 17 #[.int .i64 x] w fun e w' => ∃ p ga ca gx cx, e = .returned (.pointer (some ⟨p, 0, none⟩)) ∧ RefAt w' p ga 0 ca gx 0 cx [⟨-1, x⟩] ∧ Chg Non w w' ∧ w.heap.size ≤ p ∧ w.heap.size ≤ ga ∧ w.heap.size ≤ gx := by
  go_enter Try.func17, Try.ntmps17
  go_wp2
  go_ret
  refine ⟨w.heap.size + 2, w.heap.size, 1, w.heap.size + 1, 1, rfl, ⟨Blk.new_at (by simp), ⟨⟨#[.int .i64 (-1)], ?_, by simp, ?_⟩, rfl, by simp, by simp [maxLen]⟩, ⟨⟨#[.int .i64 x], ?_, by simp, ?_⟩, rfl, by simp, by simp [maxLen]⟩, by omega, by omega, by omega, Nat.one_pos⟩, (((Chg.refl Non w).alloc _).alloc _).alloc _, by omega, by omega, by omega⟩
  · exact ((Blk.new_at rfl).alloc _).alloc _
  · intro j u hu; simpa [ic] using hu
  · exact (Blk.new_at (by simp)).alloc _
  · intro j u hu; simpa [ic] using hu

set_option maxRecDepth 100000 in
theorem refLast_any (below : Int) (w : World) (p ga oa ca gx ox cx : Nat) (l : List SvI) (h : RefAt w p ga oa ca gx ox cx l) (hr : Rising l) (hn : l.length ≤ 1000000) :
    Calls Try.prog 52 #[.pointer (some ⟨p, 0, none⟩), .int .i64 below] w fun e w' => e = .returned (.int .i64 ((belI below l : Int) - 1)) ∧ w = w' := by
  have hb := h.blk.cell 0
  have hle := belI_le below l
  go_enter Try.func52, Try.ntmps52
  go_wp2
  go_loop [5, 6] (fun o i => ∃ k : Nat, k ≤ l.length ∧ i = .int .i64 k ∧ o = .int .i64 ((min k (belI below l) : Nat) - 1 : Int)) (fun _ i => l.length - (intOf i).toNat)
  case atStart => exact ⟨0, by omega, rfl, by simp⟩
  case round =>
    obtain ⟨k, hk, rfl, rfl⟩ := hrel
    by_cases hlt : k < l.length
    · have hs : l[k]? = some l[k] := List.getElem?_eq_getElem hlt
      generalize l[k] = s at hs
      have e0 := h.at1 hs
      have hi := bel_iff hr below hs
      by_cases ht : s.at_ < below
      · have hkb := hi.1 ht
        clear hi
        have Hs := Lib.hid hs
        clear hs
        go_wp2
        go_round
        case rel => exact ⟨k + 1, by omega, by go_num, by rw [Nat.min_eq_left (by omega)]; congr 1; omega⟩
        case measure => simp [intOf]; omega
      · have hkb : ¬ k < belI below l := fun x => ht (hi.2 x)
        clear hi
        have Hs := Lib.hid hs
        clear hs
        go_wp2
        go_round
        case rel => exact ⟨k + 1, by omega, by go_num, by congr 2; omega⟩
        case measure => simp [intOf]; omega
    · obtain rfl : k = l.length := by omega
      go_wp2
      go_ret
      exact ⟨ret_int (by omega), rfl⟩

set_option maxRecDepth 100000 in
theorem refSave_late (at_ x : Int) (w : World) (p ga oa ca gx ox cx : Nat) (l : List SvI) (h : RefAt w p ga oa ca gx ox cx l) (hr : Rising l) (hn : l.length ≤ 1000000) (hl : belI at_ l < l.length) :
    Calls Try.prog 49 #[.pointer (some ⟨p, 0, none⟩), .int .i64 at_, .int .i64 x] w fun e w' => e = .returned (.int .i64 18) ∧ w = w' := by
  have hb := h.blk.cell 0
  go_enter Try.func49, Try.ntmps49
  go_wp2
  go_loop [7] (fun i => ∃ k : Nat, k ≤ belI at_ l ∧ i = .int .i64 k) (fun i => l.length - (intOf i).toNat)
  case atStart => exact ⟨0, by omega, rfl⟩
  case round =>
    obtain ⟨k, hk, rfl⟩ := hrel
    have hs : l[k]? = some l[k] := List.getElem?_eq_getElem (by omega)
    generalize l[k] = s at hs
    have e0 := h.at1 hs
    have hi := bel_iff hr at_ hs
    by_cases ht : s.at_ < at_
    · have hkb := hi.1 ht
      clear hi hs
      go_wp2
      go_round
      case rel => exact ⟨k + 1, by omega, by go_num⟩
      case measure => simp [intOf]; omega
    · clear hi hs
      go_wp2
      go_ret
      exact ⟨rfl, rfl⟩

set_option maxRecDepth 100000 in
theorem refSave_far (at_ x : Int) (w : World) (p ga oa ca gx ox cx : Nat) (l : List SvI) (h : RefAt w p ga oa ca gx ox cx l) (hr : Rising l) (hn : l.length ≤ 1000000) (hl : belI at_ l = l.length) (hf : 1073741824 < at_) :
    Calls Try.prog 49 #[.pointer (some ⟨p, 0, none⟩), .int .i64 at_, .int .i64 x] w fun e w' => e = .returned (.int .i64 18) ∧ w = w' := by
  have hb := h.blk.cell 0
  have Hl := Lib.hid hl
  clear hl
  go_enter Try.func49, Try.ntmps49
  go_wp2
  go_loop [7] (fun i => ∃ k : Nat, k ≤ l.length ∧ i = .int .i64 k) (fun i => l.length - (intOf i).toNat)
  case atStart => exact ⟨0, by omega, rfl⟩
  case round =>
    obtain ⟨k, hk, rfl⟩ := hrel
    by_cases hlt : k < l.length
    · have hs : l[k]? = some l[k] := List.getElem?_eq_getElem (by omega)
      generalize l[k] = s at hs
      have e0 := h.at1 hs
      have ht : s.at_ < at_ := bel_lt at_ l k s hs (by rw [Hl.out]; exact hlt)
      clear hs
      go_wp2
      go_round
      case rel => exact ⟨k + 1, by omega, by go_num⟩
      case measure => simp [intOf]; omega
    · obtain rfl : k = l.length := by omega
      go_wp2
      go_ret
      exact ⟨rfl, rfl⟩

/-- Behind a call that changed the document's row. -/
structure RefDone (w : World) (p ga gx : Nat) (l' : List SvI) (w' : World) : Prop where
  row : ∃ ga' oa' ca' gx' ox' cx', RefAt w' p ga' oa' ca' gx' ox' cx' l' ∧ (ga' = ga ∨ w.heap.size ≤ ga') ∧ (gx' = gx ∨ w.heap.size ≤ gx')
  chg : Chg (fun k => k = p ∨ k = ga ∨ k = gx) w w'

set_option maxHeartbeats 1000000 in
set_option maxRecDepth 100000 in
theorem refSave_ok (at_ x : Int) (w : World) (p ga oa ca gx ox cx : Nat) (l : List SvI) (h : RefAt w p ga oa ca gx ox cx l) (hr : Rising l) (hn : l.length ≤ 1000000) (hl : belI at_ l = l.length) (hf : at_ ≤ 1073741824) :
    Calls Try.prog 49 #[.pointer (some ⟨p, 0, none⟩), .int .i64 at_, .int .i64 x] w fun e w' => e = .returned (.int .i64 0) ∧ RefDone w p ga gx (l ++ [⟨at_, x⟩]) w' := by
  have hb := h.blk.cell 0
  have hb1 := h.blk.cell 1
  have hf0 := h.blk.frozen 0
  have Hl := Lib.hid hl
  have hna := h.na
  have hnx := h.nx
  have hnn := h.nn
  clear hl
  go_enter Try.func49, Try.ntmps49
  go_wp2
  go_loop [7] (fun i => ∃ k : Nat, k ≤ l.length ∧ i = .int .i64 k) (fun i => l.length - (intOf i).toNat)
  case atStart => exact ⟨0, by omega, rfl⟩
  case round =>
    obtain ⟨k, hk, rfl⟩ := hrel
    by_cases hlt : k < l.length
    · have hs : l[k]? = some l[k] := List.getElem?_eq_getElem (by omega)
      generalize l[k] = s at hs
      have e0 := h.at1 hs
      have ht : s.at_ < at_ := bel_lt at_ l k s hs (by rw [Hl.out]; exact hlt)
      clear hs
      go_wp2
      go_round
      case rel => exact ⟨k + 1, by omega, by go_num⟩
      case measure => simp [intOf]; omega
    · obtain rfl : k = l.length := by omega
      have tok1 : True := trivial
      go_wp2_with (first | (at_builtin; have _t := tok1; refine ap_any rfl (.tmp 32) (.tmp 34) 33 rfl 3 (.int .i64 0) 1 8 Try.underlying33 (by kernel_rfl) rfl (by decide) ga oa l.length ca ((l.map (·.at_)).flatMap ic) rfl (h.at_.alloc _) ⟨w.heap.size, 0, none⟩ 1 1 [.int .i64 at_] rfl rfl ((Blk.new_at rfl).reads' _ rfl) (by simp [Value.oneCell']) (by decide) (by unfold maxLen; omega) (by omega) ?_; clear tok1; intro ga' oa' ca' w1 hown1 hch1 hg1; have hbk1 := (h.blk.alloc (.cells #[.int .i64 at_] 3)).chg hch1 (fun e => hna e.symm); have hx1 := (h.x.alloc (.cells #[.int .i64 at_] 3)).chg hch1 (fun e => hnn e.symm); have c0 := hbk1.cell 0; have c1 := hbk1.cell 1; have f0 := hbk1.frozen 0; have f1 := hbk1.frozen 1) | (at_builtin; refine ap_any rfl (.tmp 42) (.tmp 44) 33 rfl 3 (.int .i64 0) 1 8 Try.underlying33 (by kernel_rfl) rfl (by decide) gx ox l.length cx ((l.map (·.x)).flatMap ic) rfl ((hx1.far (p := ⟨p, 0, none⟩) hnx _).alloc _) ⟨w1.heap.size, 0, none⟩ 1 1 [.int .i64 x] rfl rfl ((Blk.new_at (by simp [World.setCell])).reads' _ rfl) (by simp [Value.oneCell']) (by decide) (by unfold maxLen; omega) (by omega) ?_; intro gx' ox' cx' w2 hown2 hch2 hg2; have hbk2 := ((hbk1.set 0 (.slice (some ⟨ga', oa', none⟩) (l.length + 1) ca')).alloc (.cells #[.int .i64 x] 3)).chg hch2 (fun e => hnx e.symm); have d0 := hbk2.cell 0; have d1 := hbk2.cell 1; have k1 := hbk2.frozen 1))
      go_ret
      have hp := h.blk.lt
      have hga := h.at_.lt
      have hgx := h.x.lt
      have hs1 := hch1.size
      have hs2 := hch2.size
      simp at hg1 hg2 hs1 hs2
      have g1 : ga' ≠ p := by omega
      have g2 : gx' ≠ p := by omega
      have g3 := hown1.lt
      have g4 : ga' ≠ gx := by omega
      refine ⟨rfl, ⟨ga', oa', ca', gx', ox', cx', ⟨?_, ?_, ?_, g1, g2, by omega, by simp⟩, by omega, by omega⟩, ?_⟩
      · rw [List.length_append]; exact hbk2.set 1 _
      · rw [List.length_append, List.map_append, List.flatMap_append]
        exact (((hown1.far (p := ⟨p, 0, none⟩) g1 _).alloc _).chg hch2 g4).far (p := ⟨p, 1, none⟩) g1 _
      · rw [List.length_append, List.map_append, List.flatMap_append]
        exact hown2.far (p := ⟨p, 1, none⟩) g2 _
      · refine Chg.setCell ?_ (.inl (.inl rfl)) _
        refine Chg.trans (S := fun k => k = p ∨ k = ga ∨ k = gx) (Chg.alloc (Chg.setCell (((Chg.refl _ w).alloc _).trans hch1 (fun i hi => .inl (.inr (.inl hi)))) (.inl (.inl rfl)) _) _) hch2 (fun i hi => .inl (.inr (.inr hi)))

theorem ic_map (xs : List Int) : xs.flatMap ic = xs.map (Value.int .i64) := by
  induction xs with
  | nil => rfl
  | cons x xs ih => rw [List.flatMap_cons, ih]; rfl
theorem ic_cut (l : List SvI) (f : SvI → Int) (a b : Nat) : ((((l.take b).drop a).map f).flatMap ic) = (((l.map f).flatMap ic).take (b * 1)).drop (a * 1) := by
  rw [ic_map, ic_map, Nat.mul_one, Nat.mul_one, List.map_drop, List.map_take, List.map_drop, List.map_take]

set_option maxHeartbeats 1000000 in
theorem refKeep_any (f t : Nat) (fi ti : Int) (hfi : fi = f) (hti : ti = t) (w : World) (p ga oa ca gx ox cx : Nat) (l : List SvI) (h : RefAt w p ga oa ca gx ox cx l) (hft : f < t) (ht : t ≤ l.length) (hn : l.length ≤ 1000000) :
    Calls Try.prog 76 #[.pointer (some ⟨p, 0, none⟩), .int .i64 fi, .int .i64 ti] w fun e w' => e = .returned (.int .i64 ((l.length : Int) - (t - f : Int))) ∧ RefAt w' p ga (oa + f * 1) (ca - f) gx (ox + f * 1) (cx - f) ((l.take t).drop f) ∧ Chg (· = p) w w' := by
  subst hfi hti
  have c0 := h.blk.cell 0
  have c1 := h.blk.cell 1
  have f0 := h.blk.frozen 0
  have f1 := h.blk.frozen 1
  have hca := h.at_.le
  have hcx := h.x.le
  have hne1 : ¬ ca = f := by omega
  have hne2 : ¬ cx = f := by omega
  go_enter Try.func76, Try.ntmps76
  go_wp2
  go_ret
  have hl : ((l.take t).drop f).length = t - f := by simp; omega
  refine ⟨ret_int (by omega), ⟨?_, ?_, ?_, h.na, h.nx, h.nn, by omega⟩, ((Chg.refl (· = p) w).setCell (.inl rfl) _).setCell (.inl rfl) _⟩
  · rw [hl, Nat.mul_one]
    exact (h.blk.set 0 _).set 1 _
  · rw [hl, ic_cut]
    exact (((h.at_.take_ t ht).drop_ f (by omega)).far (p := ⟨p, 0, none⟩) h.na _).far (p := ⟨p, 1, none⟩) h.na _
  · rw [hl, ic_cut]
    exact (((h.x.take_ t ht).drop_ f (by omega)).far (p := ⟨p, 0, none⟩) h.nx _).far (p := ⟨p, 1, none⟩) h.nx _

theorem refCut_any (from_ : Int) (w : World) (p ga oa ca gx ox cx : Nat) (l : List SvI) (h : RefAt w p ga oa ca gx ox cx l) (hr : Rising l) (hn : l.length ≤ 1000000) :
    Calls Try.prog 50 #[.pointer (some ⟨p, 0, none⟩), .int .i64 from_] w fun e w' => e = .returned (.int .i64 (l.length - (max 1 (belI from_ l) : Nat))) ∧ RefDone w p ga gx (l.take (max 1 (belI from_ l))) w' := by
  have hp := h.pos
  have hle := belI_le from_ l
  obtain ⟨n, hN⟩ : ∃ n, max 1 (belI from_ l) = n := ⟨_, rfl⟩
  have hn1 : 1 ≤ n := by omega
  have hn2 : n ≤ l.length := by omega
  rw [hN]
  have HN := Lib.hid hN
  clear hN
  by_cases hb1 : 1 < belI from_ l
  all_goals
    go_enter Try.func50, Try.ntmps50
    go_wp2_with fail
    refine (refLast_any from_ w p ga oa ca gx ox cx l h hr hn).mono ?_
    rintro e w1 ⟨rfl, rfl⟩
    go_wp2_with fail
    refine (refKeep_any 0 n 0 _ rfl (by have := HN.out; omega) w p ga oa ca gx ox cx l h (by omega) hn2 hn).mono ?_
    rintro e w2 ⟨rfl, h2, hch⟩
    go_wp2
    go_ret
    rw [List.drop_zero] at h2
    exact ⟨ret_int (by omega), ⟨_, _, _, _, _, _, h2, .inl rfl, .inl rfl⟩, hch.mono (fun i _ e => .inl e)⟩

set_option maxRecDepth 100000 in
set_option maxHeartbeats 1000000 in
theorem refFree_any (below : Int) (w : World) (p ga oa ca gx ox cx : Nat) (l : List SvI) (h : RefAt w p ga oa ca gx ox cx l) (hr : Rising l) (hn : l.length ≤ 1000000) :
    Calls Try.prog 51 #[.pointer (some ⟨p, 0, none⟩), .int .i64 below] w fun e w' => e = .returned (.int .i64 ((belI below l - 1 : Nat) : Int)) ∧ RefDone w p ga gx (l.drop (belI below l - 1)) w' := by
  have hp := h.pos
  have c0 := h.blk.cell 0
  have hle := belI_le below l
  obtain ⟨n, hN⟩ : ∃ n, belI below l - 1 = n := ⟨_, rfl⟩
  have hn2 : n < l.length := by omega
  rw [hN]
  have HN := Lib.hid hN
  clear hN
  have hd : RefAt w.drew p ga oa ca gx ox cx l := h.keep rfl rfl rfl
  have HL := Lib.hid (refLast_any below w.drew p ga oa ca gx ox cx l hd hr hn)
  by_cases hb1 : 1 < belI below l
  · have HK := Lib.hid (refKeep_any n l.length ((belI below l : Int) - 1) l.length (by have := HN.out; omega) rfl w.drew p ga oa ca gx ox cx l hd hn2 (Nat.le_refl _) hn)
    have HK2 := Lib.hid (refKeep_any n l.length (if 1 < (belI below l : Int) then (belI below l : Int) - 1 else 0) l.length (by have := HN.out; omega) rfl w.drew p ga oa ca gx ox cx l hd hn2 (Nat.le_refl _) hn)
    go_enter Try.func51, Try.ntmps51
    go_wp2_with fail
    go_region_with (first | (go_at_call 52; refine HL.out.mono ?_; rintro e w1 ⟨rfl, rfl⟩) | (go_at_call 76; ((with_reducible refine HK.out.mono ?_)); rintro e w2 ⟨rfl, h2, hch⟩) | (go_at_call 76; ((with_reducible refine HK2.out.mono ?_)); rintro e w2 ⟨rfl, h2, hch⟩))
    all_goals
      go_wp2
      go_ret
      have hr2 : (l.take l.length).drop n = l.drop n := by rw [List.take_length]
      rw [hr2] at h2
      exact ⟨ret_int (by omega), ⟨_, _, _, _, _, _, h2, .inl rfl, .inl rfl⟩, ((Chg.refl _ w).drew.trans hch (fun i e => .inl (.inl e)))⟩
  · have HK := Lib.hid (refKeep_any n l.length 0 l.length (by have := HN.out; omega) rfl w.drew p ga oa ca gx ox cx l hd hn2 (Nat.le_refl _) hn)
    have HK2 := Lib.hid (refKeep_any n l.length (if 1 < (belI below l : Int) then (belI below l : Int) - 1 else 0) l.length (by have := HN.out; omega) rfl w.drew p ga oa ca gx ox cx l hd hn2 (Nat.le_refl _) hn)
    go_enter Try.func51, Try.ntmps51
    go_wp2_with fail
    go_region_with (first | (go_at_call 52; refine HL.out.mono ?_; rintro e w1 ⟨rfl, rfl⟩) | (go_at_call 76; ((with_reducible refine HK.out.mono ?_)); rintro e w2 ⟨rfl, h2, hch⟩) | (go_at_call 76; ((with_reducible refine HK2.out.mono ?_)); rintro e w2 ⟨rfl, h2, hch⟩))
    all_goals
      go_wp2
      go_ret
      have hr2 : (l.take l.length).drop n = l.drop n := by rw [List.take_length]
      rw [hr2] at h2
      exact ⟨ret_int (by omega), ⟨_, _, _, _, _, _, h2, .inl rfl, .inl rfl⟩, ((Chg.refl _ w).drew.trans hch (fun i e => .inl (.inl e)))⟩

end Go.Proofs.Ytggbgfdgpkbmhaa
