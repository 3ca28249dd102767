/- saves: a nil row; SavesNil. -/
import Derived.Test.YtggbgfdgpkbmhaaSavG
namespace Go.Proofs.Ytggbgfdgpkbmhaa
open Go.RowKit Go.Shelf
set_option linter.unusedSimpArgs false
set_option linter.unusedVariables false
attribute [local go_sem] Oper.semAt_some

theorem savLastI_nil (below : Int) (w : World) : Calls Try.prog 23 #[.pointer none, .int .i64 below] w fun e w' => e = .returned (.tuple #[.int .i64 0, .int .i64 0, .int .i64 2]) ∧ w = w' := by
  go_enter Try.func23, Try.ntmps23
  go_wp2
  go_ret3
  exact ⟨rfl, rfl⟩
theorem savSaveI_nil (at_ x : Int) (w : World) : Calls Try.prog 25 #[.pointer none, .int .i64 at_, .int .i64 x] w fun e w' => e = .returned (.int .i64 2) ∧ w = w' := by
  go_enter Try.func25, Try.ntmps25
  go_wp2
  go_ret
  exact ⟨rfl, rfl⟩
theorem savCutI_nil (x : Int) (w : World) : Calls Try.prog 26 #[.pointer none, .int .i64 x] w fun e w' => e = .returned (.int .i64 0) ∧ w = w' := by
  go_enter Try.func26, Try.ntmps26
  go_wp2
  go_ret
  exact ⟨rfl, rfl⟩
theorem savFreeI_nil (x : Int) (w : World) : Calls Try.prog 27 #[.pointer none, .int .i64 x] w fun e w' => e = .returned (.int .i64 0) ∧ w = w' := by
  go_enter Try.func27, Try.ntmps27
  go_wp2
  go_ret
  exact ⟨rfl, rfl⟩
theorem savLenI_nil (w : World) : Calls Try.prog 24 #[.pointer none] w fun e w' => e = .returned (.int .i64 0) ∧ w = w' := by
  go_enter Try.func24, Try.ntmps24
  go_wp2
  go_ret
  exact ⟨rfl, rfl⟩
theorem savCopyI_nil (w : World) : Calls Try.prog 18 #[.pointer none] w fun e w' => e = .returned (.pointer none) ∧ w = w' := by
  go_enter Try.func18, Try.ntmps18
  go_wp2
  go_ret
  exact ⟨rfl, rfl⟩

theorem func_nonnil (bl : Nat) (w : World) : (binOp .eql 37 (.func (.func 54) #[] #[.pointer (some ⟨bl, 0, none⟩)]) .nilFunc).run Try.prog w = .ok (.bool false) w := by
  kernel_rfl
def NilInv (w : World) (q1 q2 : Nat) (cs : Array Value) (ty : TypeId) (B1 : Nat) (pre : List SvI) (W : World) : Prop :=
  Blk W q1 cs ty ∧ Blk W q2 #[.int .i64 0] 3 ∧ Chg Non w W ∧ B1 ≤ W.heap.size

set_option maxRecDepth 100000 in
set_option maxHeartbeats 1000000 in
theorem savesNil_any (ask at_ x : Int) (w : World) :
    Calls Try.prog 7 #[.agg #[.int .i64 ask, .int .i64 at_, .int .i64 x]] w fun e w' => e = .returned (.bool true) ∧ Below w.heap.size w w' := by
  refine (callsIn_wide (n := 3)).1 ?_
  refine callsIn_of_wp_marks Try.func7 rfl trivial ?_ rfl
  simp only [Try.ntmps7, List.size_toArray, List.length_cons, List.length_nil, Nat.reduceAdd, Nat.reduceSub, Array.replicate_succ, Array.replicate_zero, List.push_toArray, List.append_toArray, List.nil_append, List.cons_append]
  refine wpIn_wide.2 ?_
  have hb : Blk (w.alloc (.cells #[.int .i64 ask, .int .i64 at_, .int .i64 x] 31)) w.heap.size #[.int .i64 ask, .int .i64 at_, .int .i64 x] 31 := Blk.new_at rfl
  have c1 := hb.cell 1
  have c2 := hb.cell 2
  go_wp2_with fail
  refine (savLastI_nil at_ _).mono ?_
  rintro e w1 ⟨rfl, rfl⟩
  go_wp2_with fail
  refine (savAllI_nil _).mono ?_
  rintro e w1 ⟨bl, A, c, rfl, hI, hch, hbl, hA⟩
  have hb1 := hb.chg hch id
  have hch1 := ((Chg.refl Non w).alloc _).trans hch (fun _ x => x.elim)
  have hq : Blk (w1.alloc (.cells #[.int .i64 0] 3)) w1.heap.size #[.int .i64 0] 3 := Blk.new_at rfl
  have hI1 := hI.below ((Below.refl _ _).alloc (Nat.le_refl _) (.cells #[.int .i64 0] 3))
  clear c1 c2 hb
  simp at hbl
  have hAl : ∀ ad, A = some ad → w.heap.size + 1 ≤ ad.block := fun ad e => by simpa using hA ad e
  have hbll := hI1.blk.lt
  have hAlt := hI1.lt
  have hfe := func_nonnil bl
  go_wp2_with fail
  refine (wpIn_wide (n := 3)).1 ?_
  refine wpIn_rangeFunc_ownG rfl (by decide) (gf := 54) (lb := #[.pointer (some ⟨bl, 0, none⟩)]) rfl trivial (enters_of Try.func54 (by kernel_rfl) rfl)
    (allI_stops Fence.wide 2 trivial rfl (by decide) bl A c [] _ hI1 (by simp)) (fun h k => h.trans k) ?hkb (Below.refl _ _) (fun _ => rfl)
    (NilInv w w.heap.size w1.heap.size #[.int .i64 ask, .int .i64 at_, .int .i64 x] 31 (w1.heap.size + 1)) (fun _ _ _ => False) ?hI (fun _ _ _ _ _ hs _ _ => hs)
    ⟨hb1.alloc _, hq, hch1.alloc _, by simp⟩
    ?act ?assign ?body ?done ?stop
  case hkb =>
    intro W lq o o' hl _ _ _
    exact ⟨World.putObj_heap_other (by omega), fun ad e => World.putObj_heap_other (by have := hAlt ad e; omega)⟩
  case hI =>
    rintro pre W W' row ⟨h1, h2, h3, h4⟩ hg hr
    exact ⟨blk_abides hg (fun r e => (hr r e).2) h1, blk_abides hg (fun r e => (hr r e).2) h2, chg_abides hg (Nat.le_trans hch1.size (by simp)) hr h3, Nat.le_trans h4 hg.size⟩
  case assign =>
    intro l x W K hK
    gi_wp2
    exact hK
  case body =>
    rintro lp pre s W _ hlen
    exact absurd hlen (by simp)
  case done =>
    rintro D ys W hD rfl ⟨h1, h2, h3, h4⟩ hK
    have c1 := h1.cell 1
    have c2 := h1.cell 2
    have c3 := h2.cell 0
    go_wp2_with fail
    refine (savSaveI_nil at_ x _).mono ?_
    rintro e w2 ⟨rfl, rfl⟩
    go_wp2_with fail
    refine (savCutI_nil at_ _).mono ?_
    rintro e w2 ⟨rfl, rfl⟩
    go_wp2_with fail
    refine (savFreeI_nil at_ _).mono ?_
    rintro e w2 ⟨rfl, rfl⟩
    go_wp2_with fail
    refine (savTimesI_it _ (.pointer none) [] (by simp) (fun w1 hc => savAllI_nil w1)).mono ?_
    rintro e w3 ⟨A3, c3, rfl, _, hc3, _⟩
    go_wp2_with fail
    refine (savLenI_nil _).mono ?_
    rintro e w2 ⟨rfl, rfl⟩
    go_wp2_with fail
    refine (savCopyI_nil _).mono ?_
    rintro e w2 ⟨rfl, rfl⟩
    go_wp2_with fail
    refine (awake12_any _).mono ?_
    rintro e w5 ⟨rfl, hb5⟩
    go_wp2
    have hD2 : D < W.heap.size := (Array.getElem?_eq_some_iff.1 hK).1
    have hK5 : w5.heap[D]? = some (.deferred (some [])) := by
      rw [hb5.block D (Nat.lt_of_lt_of_le hD2 hc3.size), hc3.block D hD2 id]; exact hK
    refine ⟨by simp, .inl ⟨_, _, rfl, run_takeDeferred hK5, ?_⟩⟩
    refine ⟨_, results_tmp rfl _ _ _, rfl, ?_⟩
    exact (chg_abides (grownBy_putObj' w5 D _) (hch1.alloc (.cells #[.int .i64 0] 3)).size (fun r e => by cases e; exact ⟨hD, _, hK5, rfl⟩) ((h3.trans hc3 (fun _ x => x.elim)).then_below hb5)).non_below
  case stop =>
    rintro D c pre W _ _ h _
    exact h.elim
end Go.Proofs.Ytggbgfdgpkbmhaa
