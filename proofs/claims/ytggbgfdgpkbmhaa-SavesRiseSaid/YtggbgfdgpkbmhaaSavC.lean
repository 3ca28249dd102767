/- saves: Times. -/
import Derived.Test.YtggbgfdgpkbmhaaSavB
namespace Go.Proofs.Ytggbgfdgpkbmhaa
open Go.RowKit Go.Shelf
set_option linter.unusedSimpArgs false
set_option linter.unusedVariables false
attribute [local go_sem] Oper.semAt_some

def ic (x : Int) : List Value := [.int .i64 x]
theorem ic_len (x : Int) : (ic x).length = 1 := rfl

/-- A list of whole numbers in a row of its own; nil where it is empty, maybe. -/
structure IntsAt (w : World) (A : Option Addr) (c : Nat) (xs : List Int) : Prop where
  own : w.ownsRow 0 3 1 (.slice A xs.length c) xs.length (xs.flatMap ic)

def TimesInv (w : World) (B1 : Nat) (pre : List SvI) (W : World) : Prop :=
  (∃ A c, Blk W w.heap.size #[.slice A pre.length c] 33 ∧ W.ownsRow 0 3 1 (.slice A pre.length c) pre.length ((pre.map (·.at_)).flatMap ic) ∧ ∀ ad, A = some ad → B1 ≤ ad.block) ∧ Chg Non w W ∧ B1 ≤ W.heap.size

set_option maxRecDepth 100000 in
set_option maxHeartbeats 1000000 in
theorem savTimesI_it (w : World) (b : Value) (l : List SvI) (hn : l.length ≤ 1000000) (hall : ∀ w1, Chg Non w w1 → Calls Try.prog 21 #[b] w1 (allPostI 54 l w1)) :
    Calls Try.prog 19 #[b] w fun e w' => ∃ A c, e = .returned (.slice A l.length c) ∧ IntsAt w' A c (l.map (·.at_)) ∧ Chg Non w w' ∧ ∀ ad, A = some ad → w.heap.size ≤ ad.block := by
  have H := Lib.hid hall
  clear hall
  refine (callsIn_wide (n := 3)).1 ?_
  refine callsIn_of_wp_marks Try.func19 rfl trivial ?_ rfl
  simp only [Try.ntmps19, List.size_toArray, List.length_cons, List.length_nil, Nat.reduceAdd, Nat.reduceSub, Array.replicate_succ, Array.replicate_zero, List.push_toArray, List.append_toArray, List.nil_append, List.cons_append]
  refine wpIn_wide.2 ?_
  go_wp2_with fail
  refine (H.out _ ((Chg.refl _ _).alloc _)).mono ?_
  rintro e w1 ⟨bl, A, c, rfl, hI, hch, hbl, hA⟩
  have hbo := (Blk.new w #[.slice none 0 0] 33).chg hch id
  replace hch := ((Chg.refl Non w).alloc _).trans hch (fun _ x => x.elim)
  simp at hbl
  have hAl : ∀ ad, A = some ad → w.heap.size + 1 ≤ ad.block := fun ad e => by simpa using hA ad e
  have hbll := hI.blk.lt
  have hAlt := hI.lt
  go_wp2_with fail
  refine (wpIn_wide (n := 3)).1 ?_
  refine wpIn_rangeFunc_ownG rfl (by decide) (gf := 54) (lb := #[.pointer (some ⟨bl, 0, none⟩)]) rfl trivial (enters_of Try.func54 (by kernel_rfl) rfl)
    (allI_stops Fence.wide 2 trivial rfl (by decide) bl A c l w1 hI hn) (fun h k => h.trans k) ?hkb (Below.refl _ _) (fun _ => rfl)
    (TimesInv w w1.heap.size) (fun _ _ _ => False) ?hI (fun _ _ _ _ _ hs _ _ => hs)
    ⟨⟨none, 0, hbo, World.ownsRow_nil _ _ _ _, fun _ e => by cases e⟩, hch, Nat.le_refl _⟩
    (fun s => { tmps := #[b, undef, .slice none 0 0, .pointer (some ⟨w.heap.size, 0, none⟩), .int .i64 s.at_, b, .func (.func 54) #[] #[.pointer (some ⟨bl, 0, none⟩)], .int .i64 s.at_, .int .i64 s.x, undef, undef, undef, undef, undef], defers := [] }) ?assign ?body ?done ?stop
  case hkb =>
    intro W lq o o' hl _ _ _
    exact ⟨World.putObj_heap_other (by omega), fun ad e => World.putObj_heap_other (by have := hAlt ad e; omega)⟩
  case hI =>
    rintro pre W W' row ⟨⟨A', c', hbk, hown, hfr⟩, hchW, hlo⟩ hg hr
    exact ⟨⟨A', c', blk_abides hg (fun r e => (hr r e).2) hbk, own_abides hg (fun r e => (hr r e).2) hown, hfr⟩, chg_abides hg hch.size hr hchW, Nat.le_trans hlo hg.size⟩
  case assign =>
    intro l x W K hK
    gi_wp2
    exact hK
  case body =>
    rintro lp pre s W ⟨⟨A', c', hbk, hown, hfr⟩, hchW, hlo⟩ hlen
    have hc0 := hbk.cell 0
    have hblt := hbk.lt
    have hsz := hchW.size
    have hbk2 := hbk.alloc (.cells #[.int .i64 s.at_] 3)
    gi_wp2_with (gi_at_builtin; refine ap_ownIn rfl (.tmp 9) (.tmp 11) 33 rfl 3 (.int .i64 0) 1 8 Try.underlying33 (by kernel_rfl) rfl (by decide) (.slice A' pre.length c') pre.length ((pre.map (·.at_)).flatMap ic) rfl (own_keep hown (fun k hk => by rw [ownBlock_slice] at hk; cases A' with | none => cases hk | some ad => (cases hk; exact Below.heap_alloc _ _ _ (by obtain ⟨_, _, hh⟩ := own_blk hown (g := ad.block) (by rw [ownBlock_slice]; rfl); exact hh.lt)))) ⟨W.heap.size, 0, none⟩ 1 1 [.int .i64 s.at_] rfl rfl ((Blk.new_at rfl).reads' _ rfl) (by simp [Value.oneCell']) (by decide) (by unfold maxLen; omega) (by omega) ?_; intro g' cap' w2 hown2 hch2 hg2; have hbk3 := hbk2.chg hch2 (fun e => by rw [ownBlock_slice] at e; cases A' with | none => cases e | some ad => (have := hfr ad rfl; simp at e; omega)); have hc3 := hbk3.cell 0; have hf3 := hbk3.frozen 0)
    have hcg : Chg (fun k => k = w.heap.size ∨ (Value.slice A' pre.length c').ownBlock = some k) W (w2.setCell ⟨w.heap.size, 0, none⟩ (.slice (some ⟨g', 0, none⟩) (pre.length + 1) cap')) :=
      (((Chg.refl _ W).alloc _).trans hch2 (fun i hi => .inl (.inr hi))).setCell (.inl (.inl rfl)) _
    have hob : ∀ k, (Value.slice A' pre.length c').ownBlock = some k → w1.heap.size ≤ k := fun k e => by
      rw [ownBlock_slice] at e
      cases A' with
      | none => cases e
      | some ad => cases e; exact hfr ad rfl
    have hWs := hlo
    have hg3 : w1.heap.size ≤ g' := by
      rcases hg2 with e | e
      · exact hob _ e
      · simp at e; omega
    refine ⟨keeps_of_chg hcg (fun k hk => ?_), ⟨hcg.block bl (by omega) ?_, fun ad e => hcg.block _ (by have := hAlt ad e; omega) ?_⟩, ⟨some ⟨g', 0, none⟩, cap', ?_, ?_, fun ad e => by cases e; exact hg3⟩, ?_, ?_⟩
    · rcases hk with rfl | hk
      · exact ⟨_, _, hbk⟩
      · exact own_blk hown hk
    · rintro (e | e)
      · omega
      · have := hob _ e; omega
    · rintro (e' | e')
      · have := hAl ad e; omega
      · have := hob _ e'; have := hAlt ad e; omega
    · rw [List.length_append]; exact hbk3.set 0 _
    · rw [List.length_append, List.map_append, List.flatMap_append]; exact own_far hown2 (by show g' ≠ w.heap.size; omega) _
    · exact hchW.trans hcg (fun i hi => by rcases hi with e | e
                                           · exact .inr (by omega)
                                           · have := hob _ e; exact .inr (by omega))
    · exact Nat.le_trans hlo hcg.size
  case done =>
    rintro D ys W hD rfl ⟨⟨A', c', hbk, hown, hfr⟩, hchW, hlo⟩ hK
    have hc0 := hbk.cell 0
    go_wp2
    refine ⟨by simp, .inl ⟨_, _, rfl, run_takeDeferred hK, ?_⟩⟩
    refine ⟨_, results_tmp rfl _ _ _, A', c', rfl, ⟨?_⟩, ?_, ?_⟩
    · rw [List.length_map]
      exact own_abides (grownBy_putObj' W D _) (fun r e => by cases e; exact ⟨_, hK, rfl⟩) hown
    · exact chg_abides (grownBy_putObj' W D _) hch.size (fun r e => by cases e; exact ⟨hD, _, hK, rfl⟩) hchW
    · exact fun ad e => by have := hfr ad e; have := hch.size; omega
  case stop =>
    rintro D c pre W _ _ h _
    exact h.elim
end Go.Proofs.Ytggbgfdgpkbmhaa
