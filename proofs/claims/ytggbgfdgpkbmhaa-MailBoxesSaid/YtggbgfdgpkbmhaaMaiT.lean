/- mail: twice; Least of a net. -/
import Derived.Test.YtggbgfdgpkbmhaaMaiS
import Derived.Test.YtggbgfdgpkbmhaaMaiLA
import Derived.Test.YtggbgfdgpkbmhaaMaiLT
namespace Go.Proofs.Ytggbgfdgpkbmhaa
open Go.RowKit Go.Shelf
set_option linter.unusedSimpArgs false
set_option linter.unusedVariables false
attribute [local go_sem] Oper.semAt_some

def twiceR (x : Int) : Int := 9 - x.tmod 10
theorem twice14_any (x : Int) (w : World) : Calls Try.prog 40 #[.int .i64 x] w fun e w' => e = .returned (.int .i64 (twiceR x)) ∧ w' = w := by
  have h1 : x.tmod 10 < 10 := Int.tmod_lt_of_pos _ (by omega)
  have h2 : -10 < x.tmod 10 := by
    have := Int.tmod_lt_of_pos (-x) (b := 10) (by omega)
    rw [Int.neg_tmod] at this
    omega
  go_enter Try.func40, Try.ntmps40
  go_wp2
  go_ret
  exact ⟨rfl, rfl⟩
def leastR : List Pk → Int
  | [] => 0
  | p :: l => (p :: l).foldl (fun m q => min m (twiceR q.x)) (twiceR p.x)

set_option maxRecDepth 100000 in
theorem maiLeastI_zero (w : World) (b : Nat) (boxes next : Int) (A : Option Addr) (cap : Nat) (h : NetAt w b boxes next A cap []) :
    Calls Try.prog 39 #[.pointer (some ⟨b, 0, none⟩), .func (.func 40) #[] #[]] w fun e w' => e = .returned (.tuple #[.int .i64 0, .bool false]) ∧ Chg Non w w' := by
  have hfe := fnTwice
  have hbl := h.lt
  obtain ⟨⟨_, _, c2⟩, _⟩ := h.blk.three
  obtain ⟨⟨_, _, d2⟩, _⟩ := (h.non ((Chg.refl Non w).alloc (.cells #[.func (.func 40) #[] #[]] 48))).blk.three
  go_enter Try.func39, Try.ntmps39
  go_wp2
  go_ret2
  exact ⟨rfl, (Chg.refl Non w).alloc _⟩

theorem filtA (l : List Pk) : l.filter (givA 0) = l := List.filter_eq_self.2 (fun _ _ => rfl)
def LeastInv (w : World) (B1 : Nat) (m0 : Int) (pre : List Pk) (W : World) : Prop :=
  Blk W w.heap.size #[.func (.func 40) #[] #[]] 48 ∧ Blk W (w.heap.size + 1) #[.int .i64 (pre.foldl (fun m q => min m (twiceR q.x)) m0)] 3 ∧ Chg Non w W ∧ B1 ≤ W.heap.size

set_option maxHeartbeats 4000000 in
set_option maxRecDepth 100000 in
theorem maiLeastI_some (w : World) (b : Nat) (boxes next : Int) (A : Option Addr) (cap : Nat) (p : Pk) (t : List Pk) (l : List Pk) (hl : l = p :: t) (h : NetAt w b boxes next A cap l) (hn : l.length ≤ 1000000) :
    Calls Try.prog 39 #[.pointer (some ⟨b, 0, none⟩), .func (.func 40) #[] #[]] w fun e w' => e = .returned (.tuple #[.int .i64 (leastR l), .bool true]) ∧ Chg Non w w' := by
  have hfe := fnTwice
  have hbl := h.lt
  have hca : Chg Non w (w.alloc (.cells #[.func (.func 40) #[] #[]] 48)) := (Chg.refl Non w).alloc _
  have h1 := h.non hca
  have hf := Blk.new w #[.func (.func 40) #[] #[]] 48
  obtain ⟨⟨_, _, c2⟩, _⟩ := h.blk.three
  obtain ⟨⟨_, _, d2⟩, _⟩ := h1.blk.three
  have f0 := hf.one'
  obtain ⟨ad, rfl, _, _, _, x0⟩ := pk_at h1.read (k := 0) (p := p) (by rw [hl]; rfl)
  have hlp : 0 < l.length := by rw [hl]; simp
  rw [Nat.zero_mul, show ad.add 0 = ad by unfold Addr.add; simp] at x0
  have hne0 : ((l.length : Int) == 0) = false := by rw [beq_eq_false_iff_ne]; omega
  have H1 := Lib.hid h1
  have HL := Lib.hid hl
  clear h1 h hl
  refine (callsIn_wide (n := 3)).1 ?_
  refine callsIn_of_wp_marks Try.func39 rfl trivial ?_ rfl
  simp only [Try.ntmps39, List.size_toArray, List.length_cons, List.length_nil, Nat.reduceAdd, Nat.reduceSub, Array.replicate_succ, Array.replicate_zero, List.push_toArray, List.append_toArray, List.nil_append, List.cons_append]
  refine wpIn_wide.2 ?_
  go_wp2_with fail
  go_region_held3 (fun w' => w'.cell? ⟨w.heap.size, 0, none⟩ = some (.func (.func 40) #[] #[]) ∧ w'.cell? ⟨b, 2, none⟩ = some (.slice (some ad) l.length cap) ∧ w'.cell? ⟨ad.block, ad.off + 3, none⟩ = some (.int .i64 p.x)) (first | exact ⟨f0, d2, x0⟩ | exact ⟨cell_alloc f0 _, cell_alloc d2 _, cell_alloc x0 _⟩) (first | (go_at_call 40; refine (twice14_any p.x _).mono ?_; rintro e w2 ⟨rfl, rfl⟩))
  all_goals
    have hc1 : Chg Non w (((w.alloc (.cells #[.func (.func 40) #[] #[]] 48)).alloc (.cells #[.int .i64 (twiceR p.x)] 3)).drew) := (hca.alloc _).drew
    have hN1 := H1.out.non (w' := ((w.alloc (.cells #[.func (.func 40) #[] #[]] 48)).alloc (.cells #[.int .i64 (twiceR p.x)] 3)).drew) (((Chg.refl Non _).alloc _).drew)
    have hB0 : Blk (((w.alloc (.cells #[.func (.func 40) #[] #[]] 48)).alloc (.cells #[.int .i64 (twiceR p.x)] 3)).drew) w.heap.size #[.func (.func 40) #[] #[]] 48 := hf.alloc _
    have hB1 : Blk (((w.alloc (.cells #[.func (.func 40) #[] #[]] 48)).alloc (.cells #[.int .i64 (twiceR p.x)] 3)).drew) (w.heap.size + 1) #[.int .i64 (twiceR p.x)] 3 := Blk.new_at (w := w.alloc (.cells #[.func (.func 40) #[] #[]] 48)) (by simp)
    go_wp2_with fail
    refine (maiAllI_any _ b boxes next _ cap l hN1 hn).mono ?_
    rintro e w3 ⟨bl, q, r, A3, c3, rfl, hI, hc3, hge⟩
    have hz3 := hc3.size
    simp at hz3
    have hlt := hI.lt
    have hge' : ∀ k, sBlkA bl q r A3 k → w.heap.size + 2 ≤ k := fun k hk => by have := hge k hk; simpa using this
    have hB03 := hB0.chg hc3 id
    have hB13 := hB1.chg hc3 id
    have hc13 := hc1.trans hc3 (fun _ x => x.elim)
    go_wp2_with fail
    refine (wpIn_wide (n := 3)).1 ?_
    refine wpIn_rangeFunc_ownH rfl (by decide) (gf := 83) (lb := #[.pointer (some ⟨bl, 0, none⟩), .pointer (some ⟨q, 0, none⟩)]) rfl trivial (enters_of Try.func83 (by kernel_rfl) rfl)
      (someA_stops 2 (by decide) bl q r 0 A3 c3 l w3 hI hn) (fun h k => h.trans k) ?hkb (Below.refl _ _) (fun _ => rfl)
      (LeastInv w w3.heap.size (twiceR p.x)) (fun _ _ _ => False) ?hI (fun _ _ _ _ _ hs _ _ => hs)
      ⟨hB03, hB13, hc13, Nat.le_refl _⟩
      (fun s a' W => ∃ v, Blk W v #[.int .i64 s.no, .int .i64 s.src, .int .i64 s.dst, .int .i64 s.x] 67 ∧ w.heap.size + 2 ≤ v ∧ a' = { tmps := #[.pointer (some ⟨b, 0, none⟩), .func (.func 40) #[] #[], undef, .pointer (some ⟨w.heap.size, 0, none⟩), .int .i64 0, .bool false, .pointer (some ⟨w.heap.size + 1, 0, none⟩), .pointer (some ⟨v, 0, none⟩), .pointer (some ⟨b, 0, none⟩), .bool false, .bool false, .func (.func 40) #[] #[], .bool false, .bool false, .bool false, .pointer (some ⟨b, 0, none⟩), .pointer (some ⟨b, 0, none⟩), .pointer (some ⟨b, 2, none⟩), .slice (some ad) l.length cap, .int .i64 l.length, .bool false, .bool false, .func (.func 40) #[] #[], .pointer (some ⟨b, 0, none⟩), .pointer (some ⟨b, 0, none⟩), .pointer (some ⟨b, 2, none⟩), .slice (some ad) l.length cap, .pointer (some ad), .pointer (some ⟨ad.block, ad.off + 3, none⟩), .int .i64 p.x, .int .i64 (twiceR p.x), .pointer (some ⟨b, 0, none⟩), .func (.func 83) #[] #[.pointer (some ⟨bl, 0, none⟩), .pointer (some ⟨q, 0, none⟩)], .agg #[.int .i64 s.no, .int .i64 s.src, .int .i64 s.dst, .int .i64 s.x], undef, undef, undef, undef, undef, undef, undef], defers := [] }) ?hAx ?assign ?body ?done ?stop
    case hkb =>
      intro W lq o o' hl _ _ _ k hk
      exact World.putObj_heap_other (by have := hlt k hk; omega)
    case hI =>
      rintro pre W W' row ⟨h1, h2, hchW, hlo⟩ hg hr
      exact ⟨blk_abides hg (fun r e => (hr r e).2) h1, blk_abides hg (fun r e => (hr r e).2) h2, chg_abides hg (by omega) hr hchW, Nat.le_trans hlo hg.size⟩
    case hAx =>
      rintro s a' _ W W' row ⟨v, hb, hv, e⟩ hg hr
      exact ⟨v, blk_abides hg (fun r e => (hr r e).2) hb, hv, e⟩
    case assign =>
      rintro l2 pre s W K ⟨h1, h2, hchW, hlo⟩ hK
      have hn1 : Chg Non W (W.alloc (.cells #[.int .i64 s.no, .int .i64 s.src, .int .i64 s.dst, .int .i64 s.x] 67)) := (Chg.refl Non W).alloc _
      gi_wp2
      obtain ⟨v, hv⟩ : ∃ v, v = W.heap.size := ⟨_, rfl⟩
      rw [← hv]
      exact hK _ _ (keeps_of_chg hn1 (fun _ x => x.elim)) (fun k hk => hn1.block k (by have := hlt k hk; have h3 := hchW.size; omega) id) ⟨h1.alloc _, h2.alloc _, hchW.alloc _, Nat.le_trans hlo hn1.size⟩ ⟨v, Blk.new_at hv, by omega, rfl⟩
    case body =>
      rintro lp pre s a' W _ _ ⟨h1, h2, hchW, hlo⟩ ⟨v, hv, hvl, rfl⟩ hlen
      obtain ⟨⟨v0, v1, v2, v3⟩, _⟩ := hv.four
      have k1 := h1.one'
      have k2 := h2.one'
      have f2 := h2.frozen 0
      gi_wp2
      refine still_tail_round _ 6 (fun h => h.elim fun _ h => h.elim fun _ h => h) (by kernel_rfl) (by kernel_rfl) (by kernel_rfl) ?_
      simp only [List.take_succ_cons, List.take_zero, List.drop_succ_cons, List.drop_zero]
      still_step
      still_step
      still_step
      still_step
      still_call (twice14_any s.x _)
      still_step
      refine wpStill_nil ?_
      go_wp2
      gi_wp2
      all_goals
        refine ⟨keeps_of_chg (((Chg.refl (fun k => k = w.heap.size + 1) W).setCell (p := ⟨w.heap.size + 1, 0, none⟩) (.inl rfl) _).drew) (fun k hk => by subst hk; exact ⟨_, _, h2⟩), fun k hk => (((Chg.refl (fun k => k = w.heap.size + 1) W).setCell (p := ⟨w.heap.size + 1, 0, none⟩) (.inl rfl) _).drew).block k (by have := hlt k hk; omega) (by have := hge' k hk; omega), h1.chg (((Chg.refl (fun k => k = w.heap.size + 1) W).setCell (p := ⟨w.heap.size + 1, 0, none⟩) (.inl rfl) _).drew) (by omega), ?_, hchW.trans (((Chg.refl (fun k => k = w.heap.size + 1) W).setCell (p := ⟨w.heap.size + 1, 0, none⟩) (.inl rfl) _).drew) (fun i hi => .inr (by omega)), Nat.le_trans hlo (((Chg.refl (fun k => k = w.heap.size + 1) W).setCell (p := ⟨w.heap.size + 1, 0, none⟩) (.inl rfl) _).drew).size⟩
        rw [List.foldl_append, List.foldl_cons, List.foldl_nil]
        first
          | (rw [Int.min_eq_right (by omega)]; exact h2.set 0 _)
          | (rw [Int.min_eq_left (by omega)]; exact h2.set 0 _)
    case done =>
      rintro D ys W hD rfl ⟨h1, h2, hchW, hlo⟩ hK
      have k2 := h2.one'
      go_wp2
      refine ⟨by simp, .inl ⟨_, _, rfl, run_takeDeferred hK, ?_⟩⟩
      refine ⟨_, results_tmp2 rfl _ _ _, ?_, ?_⟩
      · rw [filtA, HL.out]; rfl
      · exact chg_abides (grownBy_putObj' W D _) (B := w.heap.size) (Nat.le_refl _) (fun r e => by cases e; exact ⟨by omega, _, hK, rfl⟩) hchW
    case stop =>
      rintro D c pre W _ _ h _
      exact h.elim
end Go.Proofs.Ytggbgfdgpkbmhaa
