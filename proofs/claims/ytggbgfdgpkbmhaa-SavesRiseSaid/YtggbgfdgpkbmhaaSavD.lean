/- saves: one call with both (does). -/
import Derived.Test.YtggbgfdgpkbmhaaSavR
import Derived.Deep.RegionHeld3
namespace Go.Proofs.Ytggbgfdgpkbmhaa
open Go.RowKit
set_option linter.unusedSimpArgs false
set_option linter.unusedVariables false

def saveB (at_ : Int) (l : List SvI) : Bool := decide (belI at_ l = l.length) && decide (at_ ≤ 1073741824)
def saveE (b : Bool) : Int := if b then 0 else 18
def saveL (at_ x : Int) (l : List SvI) : List SvI := if saveB at_ l then l ++ [⟨at_, x⟩] else l

theorem RowDoneI.of_chg {w w' : World} {b g cap : Nat} {l : List SvI} (h : RowIAt w b g cap l) (hc : Chg Non w w') : RowDoneI w b g l w' :=
  ⟨⟨g, cap, h.chg hc id id, .inl rfl⟩, hc.mono (fun _ _ x => x.elim)⟩
theorem RefDone.of_same {w : World} {p ga oa ca gx ox cx : Nat} {l : List SvI} (h : RefAt w p ga oa ca gx ox cx l) : RefDone w p ga gx l w :=
  ⟨⟨_, _, _, _, _, _, h, .inl rfl, .inl rfl⟩, Chg.refl _ _⟩

theorem last_bel {l : List SvI} (hr : Rising l) {m : Nat} (hm : l.length = m + 1) {s : SvI} (hs : l[m]? = some s) (at_ : Int) : s.at_ < at_ ↔ belI at_ l = l.length := by
  rw [bel_iff hr at_ hs]
  have := belI_le at_ l
  omega

theorem savSaveI_any (at_ x : Int) (w : World) (b g cap : Nat) (l : List SvI) (h : RowIAt w b g cap l) (hr : Rising l) (hn : l.length ≤ 1000000) :
    Calls Try.prog 25 #[.pointer (some ⟨b, 0, none⟩), .int .i64 at_, .int .i64 x] w fun e w' => e = .returned (.int .i64 (saveE (saveB at_ l))) ∧ RowDoneI w b g (saveL at_ x l) w' := by
  obtain ⟨m, hm⟩ : ∃ m, l.length = m + 1 := ⟨l.length - 1, by have := h.pos; omega⟩
  have hs : l[m]? = some l[m] := List.getElem?_eq_getElem (by omega)
  have hb := last_bel hr hm hs at_
  by_cases h1 : l[m].at_ < at_
  · by_cases h2 : at_ ≤ 1073741824
    · have e : saveB at_ l = true := by simp [saveB, hb.1 h1, h2]
      simp only [saveL, e, saveE, if_true]
      exact savSaveI_ok at_ x w b g cap m l h hn hm _ hs h1 h2
    · have e : saveB at_ l = false := by simp [saveB, h2]
      simp only [saveL, e, saveE, Bool.false_eq_true, if_false]
      exact (savSaveI_far at_ x w b g cap m l h hn hm _ hs h1 (by omega)).mono fun _ _ ⟨he, hc⟩ => ⟨he, RowDoneI.of_chg h hc⟩
  · have e : saveB at_ l = false := by
      have : ¬ belI at_ l = l.length := fun x => h1 (hb.2 x)
      simp [saveB, this]
    simp only [saveL, e, saveE, Bool.false_eq_true, if_false]
    exact (savSaveI_late at_ x w b g cap m l h hn hm _ hs (by omega)).mono fun _ _ ⟨he, hc⟩ => ⟨he, RowDoneI.of_chg h hc⟩

theorem refSave_any (at_ x : Int) (w : World) (p ga oa ca gx ox cx : Nat) (l : List SvI) (h : RefAt w p ga oa ca gx ox cx l) (hr : Rising l) (hn : l.length ≤ 1000000) :
    Calls Try.prog 49 #[.pointer (some ⟨p, 0, none⟩), .int .i64 at_, .int .i64 x] w fun e w' => e = .returned (.int .i64 (saveE (saveB at_ l))) ∧ RefDone w p ga gx (saveL at_ x l) w' := by
  have hle := belI_le at_ l
  by_cases h1 : belI at_ l = l.length
  · by_cases h2 : at_ ≤ 1073741824
    · have e : saveB at_ l = true := by simp [saveB, h1, h2]
      simp only [saveL, e, saveE, if_true]
      exact refSave_ok at_ x w p ga oa ca gx ox cx l h hr hn h1 h2
    · have e : saveB at_ l = false := by simp [saveB, h2]
      simp only [saveL, e, saveE, Bool.false_eq_true, if_false]
      exact (refSave_far at_ x w p ga oa ca gx ox cx l h hr hn h1 (by omega)).mono fun _ _ ⟨he, hc⟩ => ⟨he, hc ▸ RefDone.of_same h⟩
  · have e : saveB at_ l = false := by simp [saveB, h1]
    simp only [saveL, e, saveE, Bool.false_eq_true, if_false]
    exact (refSave_late at_ x w p ga oa ca gx ox cx l h hr hn (by omega)).mono fun _ _ ⟨he, hc⟩ => ⟨he, hc ▸ RefDone.of_same h⟩

/-- A row and the document's row, apart. -/
structure Both (w : World) (b g : Nat) (l : List SvI) (p ga gx : Nat) (l2 : List SvI) : Prop where
  row : ∃ cap, RowIAt w b g cap l
  ref : ∃ oa ca ox cx, RefAt w p ga oa ca gx ox cx l2
  bp : b ≠ p
  ba : b ≠ ga
  bx : b ≠ gx
  gp : g ≠ p
  gga : g ≠ ga
  ggx : g ≠ gx
/-- Behind does: whether they answered alike; both rows. -/
def DoesPost (w : World) (b g : Nat) (l : List SvI) (p ga gx : Nat) (l2 : List SvI) (l' l2' : List SvI) (e : Ending) (w' : World) : Prop :=
  ∃ bo g' ga' gx', e = .returned (.bool bo) ∧ (l = l2 → bo = true) ∧ Both w' b g' l' p ga' gx' l2' ∧ Chg (fun k => k = b ∨ k = g ∨ k = p ∨ k = ga ∨ k = gx) w w' ∧ (g' = g ∨ w.heap.size ≤ g') ∧ (ga' = ga ∨ w.heap.size ≤ ga') ∧ (gx' = gx ∨ w.heap.size ≤ gx')

/-- The row's call, then the document's: what both leave. -/
theorem both_done {w w1 w2 : World} {b g : Nat} {l l' : List SvI} {p ga gx : Nat} {l2 l2' : List SvI} (h : Both w b g l p ga gx l2) (h1 : RowDoneI w b g l' w1) (h2 : RefDone w1 p ga gx l2' w2) :
    ∃ g' ga' gx', Both w2 b g' l' p ga' gx' l2' ∧ Chg (fun k => k = b ∨ k = g ∨ k = p ∨ k = ga ∨ k = gx) w w2 ∧ (g' = g ∨ w.heap.size ≤ g') ∧ (ga' = ga ∨ w.heap.size ≤ ga') ∧ (gx' = gx ∨ w.heap.size ≤ gx') := by
  obtain ⟨g', cap', hr, hg⟩ := h1.row
  obtain ⟨ga', oa', ca', gx', ox', cx', hf, hga, hgx⟩ := h2.row
  obtain ⟨cap, hr0⟩ := h.row
  obtain ⟨oa, ca, ox, cx, hf0⟩ := h.ref
  have l1 := hr0.ltb
  have l2 := hr0.ltg
  have l3 := hf0.blk.lt
  have l4 := hf0.at_.lt
  have l5 := hf0.x.lt
  have l6 := hr.ltg
  have s1 := h1.chg.size
  have b1 := h.bp
  have b2 := h.ba
  have b3 := h.bx
  have b4 := h.gp
  have b5 := h.gga
  have b6 := h.ggx
  refine ⟨g', ga', gx', ⟨⟨cap', hr.chg h2.chg (by omega) (by omega)⟩, ⟨_, _, _, _, hf⟩, by omega, by omega, by omega, by omega, by omega, by omega⟩, ?_, hg, by omega, by omega⟩
  exact (h1.chg.mono (fun i _ e => by omega)).trans h2.chg (fun i hi => .inl (by omega))

theorem Both.keep {w w' : World} {b g : Nat} {l : List SvI} {p ga gx : Nat} {l2 : List SvI} (h : Both w b g l p ga gx l2) {S : Nat → Prop} (hc : Chg S w w') (h1 : ¬ S b) (h2 : ¬ S g) (h3 : ¬ S p) (h4 : ¬ S ga) (h5 : ¬ S gx) : Both w' b g l p ga gx l2 := by
  obtain ⟨cap, hr⟩ := h.row
  obtain ⟨oa, ca, ox, cx, hf⟩ := h.ref
  exact ⟨⟨cap, hr.chg hc h1 h2⟩, ⟨oa, ca, ox, cx, hf.chg hc h3 h4 h5⟩, h.bp, h.ba, h.bx, h.gp, h.gga, h.ggx⟩
theorem Both.lt {w : World} {b g : Nat} {l : List SvI} {p ga gx : Nat} {l2 : List SvI} (h : Both w b g l p ga gx l2) : b < w.heap.size ∧ g < w.heap.size ∧ p < w.heap.size ∧ ga < w.heap.size ∧ gx < w.heap.size := by
  obtain ⟨cap, hr⟩ := h.row
  obtain ⟨oa, ca, ox, cx, hf⟩ := h.ref
  exact ⟨hr.ltb, hr.ltg, hf.blk.lt, hf.at_.lt, hf.x.lt⟩

/-- From the world behind the box to the world ahead of it. -/
theorem does_close {w W w1 w2 : World} {b g : Nat} {l l' : List SvI} {p ga gx : Nat} {l2 l2' : List SvI} (h : Both w b g l p ga gx l2) (hW : Chg Non w W) (h1 : RowDoneI W b g l' w1) (h2 : RefDone w1 p ga gx l2' w2) {bo : Bool} (hbo : l = l2 → bo = true) :
    DoesPost w b g l p ga gx l2 l' l2' (.returned (.bool bo)) w2 := by
  obtain ⟨g', ga', gx', hb, hc, e1, e2, e3⟩ := both_done (h.keep hW id id id id id) h1 h2
  have := hW.size
  exact ⟨bo, g', ga', gx', rfl, hbo, hb, (hW.mono (fun _ _ x => x.elim)).trans hc (fun i hi => .inl hi), by omega, by omega, by omega⟩

abbrev opV (ask at_ x : Int) : Value := .agg #[.int .i64 ask, .int .i64 at_, .int .i64 x]

set_option maxHeartbeats 2000000 in
set_option maxRecDepth 100000 in
theorem does_save (at_ x : Int) (w : World) (b g : Nat) (l : List SvI) (p ga gx : Nat) (l2 : List SvI) (h : Both w b g l p ga gx l2) (hr : Rising l) (hr2 : Rising l2) (hn : l.length ≤ 1000000) (hn2 : l2.length ≤ 1000000) :
    Calls Try.prog 16 #[.pointer (some ⟨b, 0, none⟩), .pointer (some ⟨p, 0, none⟩), opV 0 at_ x] w (DoesPost w b g l p ga gx l2 (saveL at_ x l) (saveL at_ x l2)) := by
  have H := Lib.hid h
  have hlt := h.lt
  obtain ⟨cap, hrow⟩ := h.row
  obtain ⟨oa, ca, ox, cx, href⟩ := h.ref
  have hW : Chg Non w (w.alloc (.cells #[.int .i64 0, .int .i64 at_, .int .i64 x] 31)).drew := ((Chg.refl Non w).alloc _).drew
  have hrow1 := hrow.chg hW id id
  have href1 := href.chg hW id id id
  have hq : Blk (w.alloc (.cells #[.int .i64 0, .int .i64 at_, .int .i64 x] 31)) w.heap.size #[.int .i64 0, .int .i64 at_, .int .i64 x] 31 := Blk.new_at rfl
  go_enter Try.func16, Try.ntmps16
  go_wp2_with fail
  have k1 := hq.cell 1
  have k2 := hq.cell 2
  replace k1 : (w.alloc (.cells #[.int .i64 0, .int .i64 at_, .int .i64 x] 31)).cell? ⟨w.heap.size, 1, none⟩ = some (.int .i64 at_) := k1
  replace k2 : (w.alloc (.cells #[.int .i64 0, .int .i64 at_, .int .i64 x] 31)).cell? ⟨w.heap.size, 2, none⟩ = some (.int .i64 x) := k2
  go_region_held3 (fun w' => w'.cell? ⟨w.heap.size, 1, none⟩ = some (.int .i64 at_) ∧ w'.cell? ⟨w.heap.size, 2, none⟩ = some (.int .i64 x)) (first | exact ⟨j1, j2⟩ | exact ⟨i1, i2⟩ | exact ⟨k1, k2⟩)
    (first | (go_at_call 25; refine (savSaveI_any at_ x _ b g cap l hrow1 hr hn).mono ?_; rintro e w1 ⟨rfl, hd1⟩; have i1 := hd1.chg.cell (a := ⟨w.heap.size, 1, none⟩) k1 (by show ¬ (w.heap.size = b ∨ w.heap.size = g); omega); have i2 := hd1.chg.cell (a := ⟨w.heap.size, 2, none⟩) k2 (by show ¬ (w.heap.size = b ∨ w.heap.size = g); omega)) | (go_at_call 49; refine (refSave_any at_ x _ p ga oa ca gx ox cx l2 (href1.chg hd1.chg (by have := H.out.bp; have := H.out.gp; omega) (by have := H.out.ba; have := H.out.gga; omega) (by have := H.out.bx; have := H.out.ggx; omega)) hr2 hn2).mono ?_; rintro e w2 ⟨rfl, hd2⟩; have j1 := hd2.chg.cell (a := ⟨w.heap.size, 1, none⟩) i1 (by show ¬ (w.heap.size = p ∨ w.heap.size = ga ∨ w.heap.size = gx); omega); have j2 := hd2.chg.cell (a := ⟨w.heap.size, 2, none⟩) i2 (by show ¬ (w.heap.size = p ∨ w.heap.size = ga ∨ w.heap.size = gx); omega)))
  go_wp2
  go_ret
  exact does_close H.out hW hd1 hd2 (fun e => by subst e; simp)

set_option maxHeartbeats 2000000 in
set_option maxRecDepth 100000 in
theorem does_cut (at_ x : Int) (w : World) (b g : Nat) (l : List SvI) (p ga gx : Nat) (l2 : List SvI) (h : Both w b g l p ga gx l2) (hr : Rising l) (hr2 : Rising l2) (hn : l.length ≤ 1000000) (hn2 : l2.length ≤ 1000000) :
    Calls Try.prog 16 #[.pointer (some ⟨b, 0, none⟩), .pointer (some ⟨p, 0, none⟩), opV 1 at_ x] w (DoesPost w b g l p ga gx l2 (l.take (max 1 (belI at_ l))) (l2.take (max 1 (belI at_ l2)))) := by
  have H := Lib.hid h
  have hlt := h.lt
  obtain ⟨cap, hrow⟩ := h.row
  obtain ⟨oa, ca, ox, cx, href⟩ := h.ref
  have hW : Chg Non w (w.alloc (.cells #[.int .i64 1, .int .i64 at_, .int .i64 x] 31)).drew := ((Chg.refl Non w).alloc _).drew
  have hrow1 := hrow.chg hW id id
  have href1 := href.chg hW id id id
  have hq : Blk (w.alloc (.cells #[.int .i64 1, .int .i64 at_, .int .i64 x] 31)) w.heap.size #[.int .i64 1, .int .i64 at_, .int .i64 x] 31 := Blk.new_at rfl
  go_enter Try.func16, Try.ntmps16
  go_wp2_with fail
  have k1 := hq.cell 1
  have k2 := hq.cell 2
  replace k1 : (w.alloc (.cells #[.int .i64 1, .int .i64 at_, .int .i64 x] 31)).cell? ⟨w.heap.size, 1, none⟩ = some (.int .i64 at_) := k1
  replace k2 : (w.alloc (.cells #[.int .i64 1, .int .i64 at_, .int .i64 x] 31)).cell? ⟨w.heap.size, 2, none⟩ = some (.int .i64 x) := k2
  go_region_held3 (fun w' => w'.cell? ⟨w.heap.size, 1, none⟩ = some (.int .i64 at_) ∧ w'.cell? ⟨w.heap.size, 2, none⟩ = some (.int .i64 x)) (first | exact ⟨j1, j2⟩ | exact ⟨i1, i2⟩ | exact ⟨k1, k2⟩)
    (first | (go_at_call 26; refine (savCutI_any at_ _ b g cap l hrow1 hn).mono ?_; rintro e w1 ⟨rfl, hd1⟩; have i1 := hd1.chg.cell (a := ⟨w.heap.size, 1, none⟩) k1 (by show ¬ (w.heap.size = b ∨ w.heap.size = g); omega); have i2 := hd1.chg.cell (a := ⟨w.heap.size, 2, none⟩) k2 (by show ¬ (w.heap.size = b ∨ w.heap.size = g); omega)) | (go_at_call 50; refine (refCut_any at_ _ p ga oa ca gx ox cx l2 (href1.chg hd1.chg (by have := H.out.bp; have := H.out.gp; omega) (by have := H.out.ba; have := H.out.gga; omega) (by have := H.out.bx; have := H.out.ggx; omega)) hr2 hn2).mono ?_; rintro e w2 ⟨rfl, hd2⟩; have j1 := hd2.chg.cell (a := ⟨w.heap.size, 1, none⟩) i1 (by show ¬ (w.heap.size = p ∨ w.heap.size = ga ∨ w.heap.size = gx); omega); have j2 := hd2.chg.cell (a := ⟨w.heap.size, 2, none⟩) i2 (by show ¬ (w.heap.size = p ∨ w.heap.size = ga ∨ w.heap.size = gx); omega)))
  go_wp2
  go_ret
  exact does_close H.out hW hd1 hd2 (fun e => by subst e; simp)

set_option maxHeartbeats 2000000 in
set_option maxRecDepth 100000 in
theorem does_free (at_ x : Int) (w : World) (b g : Nat) (l : List SvI) (p ga gx : Nat) (l2 : List SvI) (h : Both w b g l p ga gx l2) (hr : Rising l) (hr2 : Rising l2) (hn : l.length ≤ 1000000) (hn2 : l2.length ≤ 1000000) :
    Calls Try.prog 16 #[.pointer (some ⟨b, 0, none⟩), .pointer (some ⟨p, 0, none⟩), opV 2 at_ x] w (DoesPost w b g l p ga gx l2 (l.drop (belI at_ l - 1)) (l2.drop (belI at_ l2 - 1))) := by
  have H := Lib.hid h
  have hlt := h.lt
  obtain ⟨cap, hrow⟩ := h.row
  obtain ⟨oa, ca, ox, cx, href⟩ := h.ref
  have hW : Chg Non w (w.alloc (.cells #[.int .i64 2, .int .i64 at_, .int .i64 x] 31)).drew := ((Chg.refl Non w).alloc _).drew
  have hrow1 := hrow.chg hW id id
  have href1 := href.chg hW id id id
  have hq : Blk (w.alloc (.cells #[.int .i64 2, .int .i64 at_, .int .i64 x] 31)) w.heap.size #[.int .i64 2, .int .i64 at_, .int .i64 x] 31 := Blk.new_at rfl
  go_enter Try.func16, Try.ntmps16
  go_wp2_with fail
  have k1 := hq.cell 1
  have k2 := hq.cell 2
  replace k1 : (w.alloc (.cells #[.int .i64 2, .int .i64 at_, .int .i64 x] 31)).cell? ⟨w.heap.size, 1, none⟩ = some (.int .i64 at_) := k1
  replace k2 : (w.alloc (.cells #[.int .i64 2, .int .i64 at_, .int .i64 x] 31)).cell? ⟨w.heap.size, 2, none⟩ = some (.int .i64 x) := k2
  go_region_held3 (fun w' => w'.cell? ⟨w.heap.size, 1, none⟩ = some (.int .i64 at_) ∧ w'.cell? ⟨w.heap.size, 2, none⟩ = some (.int .i64 x)) (first | exact ⟨j1, j2⟩ | exact ⟨i1, i2⟩ | exact ⟨k1, k2⟩)
    (first | (go_at_call 27; refine (savFreeI_any at_ _ b g cap l hrow1 hn).mono ?_; rintro e w1 ⟨rfl, hd1⟩; have i1 := hd1.chg.cell (a := ⟨w.heap.size, 1, none⟩) k1 (by show ¬ (w.heap.size = b ∨ w.heap.size = g); omega); have i2 := hd1.chg.cell (a := ⟨w.heap.size, 2, none⟩) k2 (by show ¬ (w.heap.size = b ∨ w.heap.size = g); omega)) | (go_at_call 51; refine (refFree_any at_ _ p ga oa ca gx ox cx l2 (href1.chg hd1.chg (by have := H.out.bp; have := H.out.gp; omega) (by have := H.out.ba; have := H.out.gga; omega) (by have := H.out.bx; have := H.out.ggx; omega)) hr2 hn2).mono ?_; rintro e w2 ⟨rfl, hd2⟩; have j1 := hd2.chg.cell (a := ⟨w.heap.size, 1, none⟩) i1 (by show ¬ (w.heap.size = p ∨ w.heap.size = ga ∨ w.heap.size = gx); omega); have j2 := hd2.chg.cell (a := ⟨w.heap.size, 2, none⟩) i2 (by show ¬ (w.heap.size = p ∨ w.heap.size = ga ∨ w.heap.size = gx); omega)))
  go_wp2
  go_ret
  exact does_close H.out hW hd1 hd2 (fun e => by subst e; simp)

set_option maxHeartbeats 4000000 in
set_option maxRecDepth 100000 in
theorem does_last (ask at_ x : Int) (w : World) (b g : Nat) (l : List SvI) (p ga gx : Nat) (l2 : List SvI) (h : Both w b g l p ga gx l2) (hr : Rising l) (hr2 : Rising l2) (hn : l.length ≤ 1000000) (hn2 : l2.length ≤ 1000000) (a0 : (ask == 0) = false) (a1 : (ask == 1) = false) (a2 : (ask == 2) = false) :
    Calls Try.prog 16 #[.pointer (some ⟨b, 0, none⟩), .pointer (some ⟨p, 0, none⟩), opV ask at_ x] w (DoesPost w b g l p ga gx l2 l l2) := by
  have H := Lib.hid h
  have hlt := h.lt
  obtain ⟨cap, hrow⟩ := h.row
  obtain ⟨oa, ca, ox, cx, href⟩ := h.ref
  have hW : Chg Non w (w.alloc (.cells #[.int .i64 ask, .int .i64 at_, .int .i64 x] 31)) := ((Chg.refl Non w).alloc _)
  have hrow1 := hrow.chg hW id id
  have href1 := href.chg hW id id id
  have hq : Blk (w.alloc (.cells #[.int .i64 ask, .int .i64 at_, .int .i64 x] 31)) w.heap.size #[.int .i64 ask, .int .i64 at_, .int .i64 x] 31 := Blk.new_at rfl
  have hle := belI_le at_ l
  have hle2 := belI_le at_ l2
  by_cases hz : belI at_ l = 0
  · go_enter Try.func16, Try.ntmps16
    go_wp2_with fail
    refine (savLastI_none at_ _ b g cap l hrow1 hn hz).mono ?_
    rintro e w1 ⟨rfl, rfl⟩
    go_wp2_with fail
    refine (refLast_any at_ _ p ga oa ca gx ox cx l2 href1 hr2 hn2).mono ?_
    rintro e w1 ⟨rfl, rfl⟩
    by_cases hz2 : belI at_ l2 = 0
    · rw [hz2]
      go_wp2
      go_ret
      exact does_close H.out hW (RowDoneI.of_chg hrow1 (Chg.refl _ _)) (RefDone.of_same href1) (fun _ => rfl)
    · obtain ⟨m, hm⟩ : ∃ m, belI at_ l2 = m + 1 := ⟨belI at_ l2 - 1, by omega⟩
      have Hne := Lib.hid (show l = l2 → False from fun e => by rw [e] at hz; omega)
      rw [hm]
      have hs : l2[m]? = some l2[m] := List.getElem?_eq_getElem (by omega)
      generalize l2[m] = s at hs
      have e0 := href1.at1 hs
      have e1 := href1.at2 hs
      have c0 := href1.blk.cell 0
      have c1 := href1.blk.cell 1
      have hml : m < l2.length := by omega
      clear hz2 hm hz
      by_cases q1 : 0 = s.at_
      · by_cases q2 : 0 = s.x
        · go_wp2
          go_ret
          exact does_close H.out hW (RowDoneI.of_chg hrow1 (Chg.refl _ _)) (RefDone.of_same href1) (fun e => (Hne.out e).elim)
        · go_wp2
          go_ret
          exact does_close H.out hW (RowDoneI.of_chg hrow1 (Chg.refl _ _)) (RefDone.of_same href1) (fun e => (Hne.out e).elim)
      · by_cases q2 : 0 = s.x
        · go_wp2
          go_ret
          exact does_close H.out hW (RowDoneI.of_chg hrow1 (Chg.refl _ _)) (RefDone.of_same href1) (fun e => (Hne.out e).elim)
        · go_wp2
          go_ret
          exact does_close H.out hW (RowDoneI.of_chg hrow1 (Chg.refl _ _)) (RefDone.of_same href1) (fun e => (Hne.out e).elim)
  · obtain ⟨m, hm⟩ : ∃ m, belI at_ l = m + 1 := ⟨belI at_ l - 1, by omega⟩
    have hs : l[m]? = some l[m] := List.getElem?_eq_getElem (by omega)
    generalize l[m] = s at hs
    have HS := Lib.hid hs
    have HM := Lib.hid hm
    clear hs hm
    go_enter Try.func16, Try.ntmps16
    go_wp2_with fail
    refine (savLastI_some at_ _ b g cap l hrow1 hn m s HM.out HS.out).mono ?_
    rintro e w1 ⟨rfl, hc1⟩
    have href2 := href1.chg hc1 id id id
    have q0 := hc1.cell (hq.cell 1 : _ = some (.int .i64 at_)) id
    go_wp2_with fail
    refine (refLast_any at_ _ p ga oa ca gx ox cx l2 href2 hr2 hn2).mono ?_
    rintro e w2 ⟨rfl, rfl⟩
    by_cases hz2 : belI at_ l2 = 0
    · have Hne := Lib.hid (show l = l2 → False from fun e => by rw [e] at hz; omega)
      rw [hz2]
      clear hz2
      by_cases q1 : s.at_ = 0
      · by_cases q2 : s.x = 0
        · go_wp2
          go_ret
          exact does_close H.out hW (RowDoneI.of_chg hrow1 hc1) (RefDone.of_same href2) (fun e => (Hne.out e).elim)
        · go_wp2
          go_ret
          exact does_close H.out hW (RowDoneI.of_chg hrow1 hc1) (RefDone.of_same href2) (fun e => (Hne.out e).elim)
      · by_cases q2 : s.x = 0
        · go_wp2
          go_ret
          exact does_close H.out hW (RowDoneI.of_chg hrow1 hc1) (RefDone.of_same href2) (fun e => (Hne.out e).elim)
        · go_wp2
          go_ret
          exact does_close H.out hW (RowDoneI.of_chg hrow1 hc1) (RefDone.of_same href2) (fun e => (Hne.out e).elim)
    · obtain ⟨m2, hm2⟩ : ∃ m, belI at_ l2 = m + 1 := ⟨belI at_ l2 - 1, by omega⟩
      rw [hm2]
      have ht : l2[m2]? = some l2[m2] := List.getElem?_eq_getElem (by omega)
      generalize l2[m2] = t at ht
      have e0 := href2.at1 ht
      have e1 := href2.at2 ht
      have c0 := href2.blk.cell 0
      have c1 := href2.blk.cell 1
      have hml : m2 < l2.length := by omega
      have Hst := Lib.hid (show l = l2 → s = t from fun e => by
        have h1 := HM.out; have h2 := HS.out
        rw [e, hm2] at h1; rw [e] at h2
        have h3 : m2 = m := by omega
        subst h3
        rw [ht] at h2; cases h2; rfl)
      clear ht hm2 hz2
      by_cases q1 : s.at_ = t.at_
      · by_cases q2 : s.x = t.x
        · go_wp2
          go_ret
          exact does_close H.out hW (RowDoneI.of_chg hrow1 hc1) (RefDone.of_same href2) (fun _ => rfl)
        · go_wp2
          go_ret
          exact does_close H.out hW (RowDoneI.of_chg hrow1 hc1) (RefDone.of_same href2) (fun e => absurd (Hst.out e) (fun e' => by subst e'; simp_all))
      · by_cases q2 : s.x = t.x
        · go_wp2
          go_ret
          exact does_close H.out hW (RowDoneI.of_chg hrow1 hc1) (RefDone.of_same href2) (fun e => absurd (Hst.out e) (fun e' => by subst e'; simp_all))
        · go_wp2
          go_ret
          exact does_close H.out hW (RowDoneI.of_chg hrow1 hc1) (RefDone.of_same href2) (fun e => absurd (Hst.out e) (fun e' => by subst e'; simp_all))

/-- What a call makes of a row. -/
def opI (ask at_ x : Int) (l : List SvI) : List SvI := if ask = 0 then saveL at_ x l else if ask = 1 then l.take (max 1 (belI at_ l)) else if ask = 2 then l.drop (belI at_ l - 1) else l

theorem does_any (ask at_ x : Int) (w : World) (b g : Nat) (l : List SvI) (p ga gx : Nat) (l2 : List SvI) (h : Both w b g l p ga gx l2) (hr : Rising l) (hr2 : Rising l2) (hn : l.length ≤ 1000000) (hn2 : l2.length ≤ 1000000) :
    Calls Try.prog 16 #[.pointer (some ⟨b, 0, none⟩), .pointer (some ⟨p, 0, none⟩), opV ask at_ x] w (DoesPost w b g l p ga gx l2 (opI ask at_ x l) (opI ask at_ x l2)) := by
  unfold opI
  by_cases h0 : ask = 0
  · subst h0; simp only [if_true]; exact does_save at_ x w b g l p ga gx l2 h hr hr2 hn hn2
  · by_cases h1 : ask = 1
    · subst h1; simp only [if_neg h0, if_true]; exact does_cut at_ x w b g l p ga gx l2 h hr hr2 hn hn2
    · by_cases h2 : ask = 2
      · subst h2; simp only [if_neg h0, if_neg h1, if_true]; exact does_free at_ x w b g l p ga gx l2 h hr hr2 hn hn2
      · simp only [if_neg h0, if_neg h1, if_neg h2]
        exact does_last ask at_ x w b g l p ga gx l2 h hr hr2 hn hn2 (beq_eq_false_iff_ne.2 h0) (beq_eq_false_iff_ne.2 h1) (beq_eq_false_iff_ne.2 h2)

/-! ### The plain law of the calls: the times go on rising, the row stays inhabited, and grows by one at most. -/
theorem rising_take {l : List SvI} (h : Rising l) (n : Nat) : Rising (l.take n) := fun i j s t hij hs ht => by
  rw [List.getElem?_take] at hs ht
  split at hs <;> split at ht <;> first | exact h i j s t hij hs ht | cases hs | cases ht
theorem rising_drop {l : List SvI} (h : Rising l) (n : Nat) : Rising (l.drop n) := fun i j s t hij hs ht => by
  rw [List.getElem?_drop] at hs ht
  exact h (n + i) (n + j) s t (by omega) hs ht
theorem rising_snoc {l : List SvI} (h : Rising l) (at_ x : Int) (hb : belI at_ l = l.length) : Rising (l ++ [⟨at_, x⟩]) := fun i j s t hij hs ht => by
  by_cases hj : j < l.length
  · rw [List.getElem?_append_left hj] at ht
    rw [List.getElem?_append_left (by omega)] at hs
    exact h i j s t hij hs ht
  · rw [List.getElem?_append_right (by omega)] at ht
    have hj' : j - l.length = 0 := by
      have := (List.getElem?_eq_some_iff.1 ht).1
      simp at this; omega
    rw [hj'] at ht
    simp at ht; subst ht
    rw [List.getElem?_append_left (by omega)] at hs
    exact bel_lt at_ l i s hs (by rw [hb]; omega)
theorem opI_rising {l : List SvI} (h : Rising l) (ask at_ x : Int) : Rising (opI ask at_ x l) := by
  unfold opI
  split
  · unfold saveL
    split
    · rename_i hs
      simp [saveB] at hs
      exact rising_snoc h at_ x hs.1
    · exact h
  · split
    · exact rising_take h _
    · split
      · exact rising_drop h _
      · exact h
theorem opI_len (l : List SvI) (ask at_ x : Int) : (opI ask at_ x l).length ≤ l.length + 1 := by
  unfold opI saveL
  repeat' split
  all_goals simp
  all_goals omega
theorem opI_pos {l : List SvI} (h : 0 < l.length) (ask at_ x : Int) : 0 < (opI ask at_ x l).length := by
  have := belI_le at_ l
  unfold opI saveL
  repeat' split
  all_goals simp
  all_goals omega

end Go.Proofs.Ytggbgfdgpkbmhaa
