/- saves: same, where a row is the document's answer; SavesPlays. -/
import Derived.Test.YtggbgfdgpkbmhaaSavN
import Derived.Test.YtggbgfdgpkbmhaaBaseQ
namespace Go.Proofs.Ytggbgfdgpkbmhaa
open Go.RowKit Go.Shelf
set_option linter.unusedSimpArgs false
set_option linter.unusedVariables false
attribute [local go_sem] Oper.semAt_some

theorem OwnA.readI {w : World} {ga oa n ca : Nat} {xs : List Int} (h : OwnA w 3 1 ga oa n ca (xs.flatMap ic)) : SlRead ic 1 w (some ⟨ga, oa, none⟩) n ca xs := OwnA.read ic_len (by decide) h

structure SameInv (w : World) (q3 : Nat) (l : List SvI) (B1 p : Nat) (pre : List SvI) (W : World) : Prop where
  pfx : pre <+: l
  b1 : Blk W w.heap.size #[.pointer (some ⟨p, 0, none⟩)] 28
  b2 : Blk W (w.heap.size + 1) #[.bool false] 4
  blk : Blk W q3 #[.int .i64 (pre.length : Int)] 3
  chg : Chg Non w W
  size : B1 ≤ W.heap.size
def SameStop (l : List SvI) (c : Code) (pre : List SvI) (W : World) : Prop := ¬ pre <+: l

set_option maxRecDepth 100000 in
set_option maxHeartbeats 2000000 in
theorem same_true (w : World) (b g cap : Nat) (l : List SvI) (hrow : RowIAt w b g cap l) (p ga oa ca gx ox cx : Nat) (href : RefAt w p ga oa ca gx ox cx l) (hn : l.length ≤ 1000000) :
    Calls Try.prog 22 #[.pointer (some ⟨b, 0, none⟩), .pointer (some ⟨p, 0, none⟩)] w fun e w' => e = .returned (.bool true) ∧ Chg Non w w' := by
  refine (callsIn_wide (n := 3)).1 ?_
  refine callsIn_of_wp_marks Try.func22 rfl trivial ?_ rfl
  simp only [Try.ntmps22, List.size_toArray, List.length_cons, List.length_nil, Nat.reduceAdd, Nat.reduceSub, Array.replicate_succ, Array.replicate_zero, List.push_toArray, List.append_toArray, List.nil_append, List.cons_append]
  refine wpIn_wide.2 ?_
  have hq1 : Blk ((w.alloc (.cells #[.pointer (some ⟨p, 0, none⟩)] 28)).alloc (.cells #[.bool false] 4)) w.heap.size #[.pointer (some ⟨p, 0, none⟩)] 28 := (Blk.new_at rfl).alloc _
  have hq2 : Blk ((w.alloc (.cells #[.pointer (some ⟨p, 0, none⟩)] 28)).alloc (.cells #[.bool false] 4)) (w.heap.size + 1) #[.bool false] 4 := Blk.new_at (by simp)
  have hch := ((Chg.refl Non w).alloc (.cells #[.pointer (some ⟨p, 0, none⟩)] 28)).alloc (.cells #[.bool false] 4)
  have hsz : ((w.alloc (.cells #[.pointer (some ⟨p, 0, none⟩)] 28)).alloc (.cells #[.bool false] 4)).heap.size = w.heap.size + 2 := by simp
  go_wp2_with fail
  generalize (w.alloc (.cells #[.pointer (some ⟨p, 0, none⟩)] 28)).alloc (.cells #[.bool false] 4) = w1 at hq1 hq2 hch hsz ⊢
  refine (savAllI_any _ b g cap l (hrow.chg hch id id) hn).mono ?_
  rintro e w2 ⟨bl, A, c, rfl, hI, hch2, hbl, hA⟩
  have hAl := hA
  have hfe := func_nonnil bl
  replace hq1 := hq1.chg hch2 id
  replace hq2 := hq2.chg hch2 id
  replace hch := hch.trans hch2 (fun _ x => x.elim)
  have hrow2 := hrow.chg hch id id
  have href2 := href.chg hch id id id
  have x0 := hq1.cell 0
  have x1 := href2.blk.cell 0
  go_wp2_with fail
  have hrow3 := hrow2.chg ((Chg.refl Non w2).drew) id id
  have href3 := href2.chg ((Chg.refl Non w2).drew) id id id
  have hcap := href.at_.le
  go_region_held3 (fun w' => w'.cell? ⟨w.heap.size, 0, none⟩ = some (.pointer (some ⟨p, 0, none⟩)) ∧ w'.cell? ⟨p, 0, none⟩ = some (.slice (some ⟨ga, oa, none⟩) l.length ca)) (first | exact ⟨j1, j2⟩ | exact ⟨i1, i2⟩ | exact ⟨x0, x1⟩) (first | (go_at_call 24; refine (savLenI_any _ b g cap l hrow3 hn).mono ?_; rintro e w3 ⟨rfl, rfl⟩) | (go_at_call 19; refine (savTimesI_any _ b g cap l hrow3 hn).mono ?_; rintro e w4 ⟨A4, c4, rfl, ht, hc4, _⟩; have i1 := hc4.cell (a := ⟨w.heap.size, 0, none⟩) x0 id; have i2 := hc4.cell (a := ⟨p, 0, none⟩) x1 id) | (go_at_call 20; refine (ints_any _ A4 l.length c4 _ ht (some ⟨ga, oa, none⟩) l.length ca _ (href3.chg hc4 id id id).at_.readI).mono ?_; rintro e w5 ⟨rfl, hc5⟩; rw [decide_eq_true rfl]; have j1 := hc5.cell (a := ⟨w.heap.size, 0, none⟩) i1 id; have j2 := hc5.cell (a := ⟨p, 0, none⟩) i2 id))
  have hcA : Chg Non w2 w5 := (((Chg.refl Non w2).drew).trans hc4 (fun _ x => x.elim)).trans hc5 (fun _ x => x.elim)
  replace hq1 := hq1.chg hcA id
  replace hq2 := hq2.chg hcA id
  replace hch := hch.trans hcA (fun _ x => x.elim)
  have s2 := hch2.size
  have hIb := hI.blk.lt
  have hIl := hI.lt
  replace hI := hI.below hcA.non_below
  have sA := hcA.size
  have s5 := hch.size
  clear j1 j2 i1 i2 x0 x1 hcA hc4 hc5 ht hrow3 href3 hrow2 href2
  have hq3 : Blk (w5.alloc (.cells #[.int .i64 0] 3)) w5.heap.size #[.int .i64 0] 3 := Blk.new_at rfl
  have hI1 := hI.below ((Below.refl _ _).alloc (Nat.le_refl _) (.cells #[.int .i64 0] 3))
  replace hq1 := hq1.alloc (.cells #[.int .i64 0] 3)
  replace hq2 := hq2.alloc (.cells #[.int .i64 0] 3)
  go_wp2_with fail
  refine (wpIn_wide (n := 3)).1 ?_
  refine wpIn_rangeFunc_ownG rfl (by decide) (gf := 54) (lb := #[.pointer (some ⟨bl, 0, none⟩)]) rfl trivial (enters_of Try.func54 (by kernel_rfl) rfl)
    (allI_stops Fence.wide 2 trivial rfl (by decide) bl A c l _ hI1 hn) (fun h k => h.trans k) ?hkb (Below.refl _ _) (fun _ => rfl)
    (SameInv w w5.heap.size l (w5.heap.size + 1) p) (SameStop l) ?hI (fun _ _ _ _ _ hs _ _ => hs)
    ⟨List.nil_prefix, hq1, hq2, hq3, hch.alloc _, by simp⟩
    ?act ?assign ?body ?done ?stop
  case hkb =>
    intro W lq o o' hl _ _ _
    simp at hl
    exact ⟨World.putObj_heap_other (by omega), fun ad e => World.putObj_heap_other (by have := hIl ad e; omega)⟩
  case hI =>
    rintro pre W W' row ⟨h1, k1, k2, h2, h3, h4⟩ hg hr
    exact ⟨h1, blk_abides hg (fun r e => (hr r e).2) k1, blk_abides hg (fun r e => (hr r e).2) k2, blk_abides hg (fun r e => (hr r e).2) h2, chg_abides hg (by simp; omega) hr h3, Nat.le_trans h4 hg.size⟩
  case assign =>
    intro l x W K hK
    gi_wp2
    exact hK
  case body =>
    rintro lp pre s W ⟨hpre, hb1, hb2, hbk, hcW, hsW⟩ hlen
    have href2 := href.chg hcW id id id
    obtain ⟨t, ht⟩ : ∃ t, l[pre.length]? = some t := ⟨_, List.getElem?_eq_getElem hlen⟩
    have e0 := href2.at1 ht
    have e1 := href2.at2 ht
    have c0 := href2.blk.cell 0
    have c1 := href2.blk.cell 1
    have k1 := hb1.cell 0
    have k3 := hbk.cell 0
    have f3 := hbk.frozen 0
    have k2 := hb2.cell 0
    have f2 := hb2.frozen 0
    have hxl := href2.x.le
    have HP := Lib.hid hpre
    have HT := Lib.hid ht
    clear hpre ht
    have hge : ¬ (l.length ≤ pre.length) := by omega
    by_cases q1 : s.at_ = t.at_
    · have m1 : (s.at_ != t.at_) = false := by simp [q1]
      by_cases q2 : s.x = t.x
      · have m2 : (s.x != t.x) = false := by simp [q2]
        gi_wp2
        refine quiet_round _ rfl (by kernel_rfl) (by kernel_rfl) (by kernel_rfl) ?_
        repeat (gi_big_quiet_step (fail))
        refine Go.wpQuietIn_nil ?_
        intro _ hw'
        obtain ⟨nq, hw''⟩ := hw'
        subst hw''
        gi_wp2
        have hcg : Chg (fun k => k = w5.heap.size) W ((W.drewN nq).setCell ⟨w5.heap.size, 0, none⟩ (.int .i64 ((pre.length : Int) + 1))) := (((Chg.refl (fun k => k = w5.heap.size) W).drewN nq)).setCell (.inl rfl) _
        have hW5 := hcW.size
        refine ⟨keeps_of_chg hcg (fun k hk => by subst hk; exact ⟨_, _, hbk⟩), ⟨hcg.block bl (by omega) (by omega), fun ad e => hcg.block _ (by have := hIl ad e; omega) (by have := hIl ad e; omega)⟩, ?_, ?_, ?_, ?_, ?_, ?_⟩
        · have hP := HP.out
          have hT := HT.out
          have : s = t := by cases s; cases t; simp at q1 q2; subst q1 q2; rfl
          subst this
          obtain ⟨z, hz⟩ := hP
          have hzz : z[0]? = some s := by
            rw [← hz, List.getElem?_append_right (Nat.le_refl _), Nat.sub_self] at hT; exact hT
          cases z with
          | nil => simp at hzz
          | cons y z => simp at hzz; subst hzz; exact ⟨z, by rw [← hz]; simp⟩
        · exact hb1.chg hcg (by omega)
        · exact hb2.chg hcg (by omega)
        · rw [List.length_append]; exact (hbk.drewN nq).set 0 _
        · exact hcW.trans hcg (fun i hi => .inr (by omega))
        · exact Nat.le_trans hsW hcg.size
      · have m2 : (s.x != t.x) = true := by simp [q2]
        gi_wp2
        refine quiet_round _ rfl (by kernel_rfl) (by kernel_rfl) (by kernel_rfl) ?_
        repeat (gi_big_quiet_step (fail))
        refine Go.wpQuietIn_nil ?_
        intro _ hw'
        obtain ⟨nq, hw''⟩ := hw'
        subst hw''
        gi_wp2
        have hcg : Chg (fun k => k = w.heap.size + 1) W ((W.drewN nq).setCell ⟨w.heap.size + 1, 0, none⟩ (.bool false)) := (((Chg.refl (fun k => k = w.heap.size + 1) W).drewN nq)).setCell (.inl rfl) _
        refine ⟨keeps_of_chg hcg (fun k hk => by subst hk; exact ⟨_, _, hb2⟩), fun hp => ?_⟩
        obtain ⟨z, hz⟩ := hp
        have hT := HT.out
        rw [← hz, List.append_assoc, List.getElem?_append_right (Nat.le_refl _), Nat.sub_self] at hT
        simp at hT
        subst hT
        simp at m1 m2
    · have m1 : (s.at_ != t.at_) = true := by simp [q1]
      gi_wp2
      refine quiet_round _ rfl (by kernel_rfl) (by kernel_rfl) (by kernel_rfl) ?_
      repeat (gi_big_quiet_step (fail))
      refine Go.wpQuietIn_nil ?_
      intro _ hw'
      obtain ⟨nq, hw''⟩ := hw'
      subst hw''
      gi_wp2
      have hcg : Chg (fun k => k = w.heap.size + 1) W ((W.drewN nq).setCell ⟨w.heap.size + 1, 0, none⟩ (.bool false)) := (((Chg.refl (fun k => k = w.heap.size + 1) W).drewN nq)).setCell (.inl rfl) _
      refine ⟨keeps_of_chg hcg (fun k hk => by subst hk; exact ⟨_, _, hb2⟩), fun hp => ?_⟩
      obtain ⟨z, hz⟩ := hp
      have hT := HT.out
      rw [← hz, List.append_assoc, List.getElem?_append_right (Nat.le_refl _), Nat.sub_self] at hT
      simp at hT
      subst hT
      simp at m1
  case done =>
    rintro D ys W hD rfl ⟨hpre, hb1, hb2, hbk, hcW, hsW⟩ hK
    have href2 := href.chg hcW id id id
    have c0 := href2.blk.cell 0
    have k1 := hb1.cell 0
    have k3 := hbk.cell 0
    have k2 := hb2.cell 0
    have f2 := hb2.frozen 0
    go_wp2
    go_still_tail 7, (by kernel_rfl)
    go_wp2
    have hD2 : D < W.heap.size := (Array.getElem?_eq_some_iff.1 hK).1
    have hK5 : ((W.setCell ⟨w.heap.size + 1, 0, none⟩ (.bool true)).drew).heap[D]? = some (.deferred (some [])) := by
      have := Below.heap_setCell W ⟨w.heap.size + 1, 0, none⟩ (.bool true) D (by simp at hD; show ¬ D = w.heap.size + 1; omega)
      exact this.trans hK
    refine ⟨by simp, .inl ⟨_, _, rfl, run_takeDeferred hK5, ?_⟩⟩
    have hbx : Blk ((W.setCell ⟨w.heap.size + 1, 0, none⟩ (.bool true)).drew.putObj D (.deferred none)) (w.heap.size + 1) #[.bool true] 4 :=
      Blk.keep (w := W.setCell ⟨w.heap.size + 1, 0, none⟩ (.bool true)) (hb2.set 0 (.bool true)) (World.putObj_heap_other (w := (W.setCell ⟨w.heap.size + 1, 0, none⟩ (.bool true)).drew) (by simp at hD; omega))
    have hcell := hbx.cell 0
    refine ⟨.bool true, by simp [results, Try.results22, go_sem, hcell], rfl, ?_⟩
    have hcg : Chg Non w (W.setCell ⟨w.heap.size + 1, 0, none⟩ (.bool true)).drew := (hcW.setCell (.inr (by simp)) _).drew
    exact chg_abides (grownBy_putObj' _ D _) (B := (w5.alloc (.cells #[.int .i64 0] 3)).heap.size) (by simp; omega) (fun r e => by cases e; exact ⟨hD, _, hK5, rfl⟩) hcg
  case stop =>
    rintro D c pre W _ hp h _
    exact absurd hp h
end Go.Proofs.Ytggbgfdgpkbmhaa
