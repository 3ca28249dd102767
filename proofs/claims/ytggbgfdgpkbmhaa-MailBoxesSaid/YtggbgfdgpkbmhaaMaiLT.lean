/- mail: are the packets (T) those of a list? -/
import Derived.Test.YtggbgfdgpkbmhaaMaiK
namespace Go.Proofs.Ytggbgfdgpkbmhaa
open Go.RowKit Go.Shelf
set_option linter.unusedSimpArgs false
set_option linter.unusedVariables false
attribute [local go_sem] Oper.semAt_some

def PksInvT (w : World) (A2 : Option Addr) (n2 c2 : Nat) (m : List Pk) (pre : List Pk) (W : World) : Prop :=
  pre <+: m ∧ Blk W w.heap.size #[.slice A2 n2 c2] 57 ∧ Blk W (w.heap.size + 1) #[.bool false] 4 ∧ Blk W (w.heap.size + 2) #[.int .i64 pre.length] 3 ∧ Chg Non w W ∧ w.heap.size + 3 ≤ W.heap.size

set_option maxRecDepth 100000 in
set_option maxHeartbeats 2000000 in
theorem packetsT_any (w : World) (bl q r : Nat) (to : Int) (A : Option Addr) (c : Nat) (l : List Pk) (hI : ItT w bl q r to A c l) (hn : l.length ≤ 1000000) (A2 : Option Addr) (n2 c2 : Nat) (m : List Pk) (hm : SlRead Pk.cells 4 w A2 n2 c2 m) (heq : l.filter (givT to) = m) :
    Calls Try.prog 41 #[.func (.func 83) #[] #[.pointer (some ⟨bl, 0, none⟩), .pointer (some ⟨q, 0, none⟩)], .slice A2 n2 c2] w fun e w' => e = .returned (.bool true) ∧ Chg Non w w' := by
  have hfe := fnIter bl q
  have hml := hm.len
  have hmn : m.length ≤ 1000000 := by rw [← heq]; exact Nat.le_trans (List.length_filter_le _ _) hn
  have HM := Lib.hid hm
  clear hm
  refine (callsIn_wide (n := 3)).1 ?_
  refine callsIn_of_wp_marks Try.func41 rfl trivial ?_ rfl
  simp only [Try.ntmps41, List.size_toArray, List.length_cons, List.length_nil, Nat.reduceAdd, Nat.reduceSub, Array.replicate_succ, Array.replicate_zero, List.push_toArray, List.append_toArray, List.nil_append, List.cons_append]
  refine wpIn_wide.2 ?_
  have hq1 := ((Blk.new w #[.slice A2 n2 c2] 57).alloc (.cells #[.bool false] 4)).alloc (.cells #[.int .i64 0] 3)
  have hq2 := (Blk.new_at (w := w.alloc (.cells #[.slice A2 n2 c2] 57)) (cs := #[.bool false]) (t := 4) (g := w.heap.size + 1) (by simp)).alloc (.cells #[.int .i64 0] 3)
  have hq3 := Blk.new_at (w := (w.alloc (.cells #[.slice A2 n2 c2] 57)).alloc (.cells #[.bool false] 4)) (cs := #[.int .i64 0]) (t := 3) (g := w.heap.size + 2) (by simp)
  have hc0 := (((Chg.refl Non w).alloc (.cells #[.slice A2 n2 c2] 57)).alloc (.cells #[.bool false] 4)).alloc (.cells #[.int .i64 0] 3)
  have hlt := hI.lt
  have hN : (l.filter (givT to)).length = n2 := by rw [heq]; exact hml
  go_wp2_with fail
  refine (wpIn_wide (n := 3)).1 ?_
  refine wpIn_rangeFunc_ownH rfl (by decide) (gf := 83) (lb := #[.pointer (some ⟨bl, 0, none⟩), .pointer (some ⟨q, 0, none⟩)]) rfl trivial (enters_of Try.func83 (by kernel_rfl) rfl)
    (someT_stops 2 (by decide) bl q r to A c l w hI hn) (fun h k => h.trans k) ?hkb hc0.non_below (fun _ => rfl)
    (PksInvT w A2 n2 c2 m) (PkStop m) ?hI (fun _ _ _ _ _ hs _ _ => hs)
    ⟨List.nil_prefix, hq1, hq2, hq3, hc0, by simp⟩
    (fun s a' W => ∃ v, Blk W v #[.int .i64 s.no, .int .i64 s.src, .int .i64 s.dst, .int .i64 s.x] 67 ∧ w.heap.size + 3 ≤ v ∧ a' = { tmps := #[.func (.func 83) #[] #[.pointer (some ⟨bl, 0, none⟩), .pointer (some ⟨q, 0, none⟩)], .slice A2 n2 c2, undef, .pointer (some ⟨w.heap.size, 0, none⟩), .pointer (some ⟨w.heap.size + 1, 0, none⟩), .pointer (some ⟨w.heap.size + 1 + 1, 0, none⟩), .pointer (some ⟨v, 0, none⟩), .func (.func 83) #[] #[.pointer (some ⟨bl, 0, none⟩), .pointer (some ⟨q, 0, none⟩)], .bool false, .func (.func 83) #[] #[.pointer (some ⟨bl, 0, none⟩), .pointer (some ⟨q, 0, none⟩)], .agg #[.int .i64 s.no, .int .i64 s.src, .int .i64 s.dst, .int .i64 s.x], undef, undef, undef, undef, undef, undef, undef, undef, undef, undef, undef, undef, undef, undef, undef, undef, undef, undef, undef], defers := [] }) ?hAx ?assign ?body ?done ?stop
  case hkb =>
    intro W lq o o' hl _ _ _ k hk
    exact World.putObj_heap_other (by have := hlt k hk; simp at hl; omega)
  case hI =>
    rintro pre W W' row ⟨h0, h1, h2, h3, hchW, hlo⟩ hg hr
    exact ⟨h0, blk_abides hg (fun r e => (hr r e).2) h1, blk_abides hg (fun r e => (hr r e).2) h2, blk_abides hg (fun r e => (hr r e).2) h3, chg_abides hg (by simp; omega) hr hchW, Nat.le_trans hlo hg.size⟩
  case hAx =>
    rintro s a' _ W W' row ⟨v, hb, hv, e⟩ hg hr
    exact ⟨v, blk_abides hg (fun r e => (hr r e).2) hb, hv, e⟩
  case assign =>
    rintro l2 pre s W K ⟨h0, h1, h2, h3, hchW, hlo⟩ hK
    have hn1 : Chg Non W (W.alloc (.cells #[.int .i64 s.no, .int .i64 s.src, .int .i64 s.dst, .int .i64 s.x] 67)) := (Chg.refl Non W).alloc _
    gi_wp2
    obtain ⟨v, hv⟩ : ∃ v, v = W.heap.size := ⟨_, rfl⟩
    rw [← hv]
    exact hK _ _ (keeps_of_chg hn1 (fun _ x => x.elim)) (fun k hk => hn1.block k (by have := hlt k hk; have := hchW.size; omega) id) ⟨h0, h1.alloc _, h2.alloc _, h3.alloc _, hchW.alloc _, Nat.le_trans hlo hn1.size⟩ ⟨v, Blk.new_at hv, by omega, rfl⟩
  case body =>
    rintro lp pre s a' W _ _ ⟨h0, h1, h2, h3, hchW, hlo⟩ ⟨v, hv, hvl, rfl⟩ hlen
    rw [hN] at hlen
    obtain ⟨t, ht⟩ : ∃ t, m[pre.length]? = some t := ⟨_, List.getElem?_eq_getElem (by omega)⟩
    obtain ⟨ad, hA2, t0, t1, t2, t3⟩ := pk_at (HM.out.non hchW) ht
    obtain ⟨⟨v0, v1, v2, v3⟩, _⟩ := hv.four
    have k1 := h1.one'
    have k3 := h3.one'
    have hge : ¬ ((n2 : Int) ≤ pre.length) := by omega
    have HP := Lib.hid h0
    have HT := Lib.hid ht
    have HH := Lib.hid heq
    have HN := Lib.hid hN
    clear h0 ht heq hN
    subst hA2
    gi_wp2
    refine still_tail_round _ 10 (fun h => h.elim fun _ h => h.elim fun _ h => h) (by kernel_rfl) (by kernel_rfl) (by kernel_rfl) ?_
    simp only [List.take_succ_cons, List.take_zero, List.drop_succ_cons, List.drop_zero]
    repeat still_step
    try refine wpStill_nil ?_
    by_cases hst : s = t
    · subst hst
      go_wp2_with fail
      refine (packet14_same s _).mono ?_
      rintro e w3 ⟨rfl, hc3⟩
      have h3w := h3.drew.chg hc3 id
      have k3' := h3w.one'
      have f3' := h3w.frozen 0
      have hs3 := hc3.size
      go_wp2
      gi_wp2
      have hcg : Chg (fun k => k = w.heap.size + 2) W (w3.setCell ⟨w.heap.size + 2, 0, none⟩ (.int .i64 ((pre.length : Int) + 1))) := ((Chg.refl (fun k => k = w.heap.size + 2) W).drew.trans hc3 (fun _ x => x.elim)).setCell (.inl rfl) _
      refine ⟨keeps_of_chg hcg (fun k hk => by subst hk; exact ⟨_, _, h3⟩), fun k hk => hcg.block k (by have := hlt k hk; omega) (by have := hlt k hk; omega), prefix_snoc HP.out HT.out, h1.chg hcg (by omega), h2.chg hcg (by omega), ?_, hchW.trans hcg (fun i hi => .inr (by omega)), Nat.le_trans hlo hcg.size⟩
      rw [List.length_append]
      exact h3w.set 0 _
    · go_wp2_with fail
      refine (packet14_not s t hst _).mono ?_
      rintro e w3 ⟨rfl, hc3⟩
      have h2w := h2.drew.chg hc3 id
      have k2' := h2w.one'
      have f2' := h2w.frozen 0
      have hs3 := hc3.size
      go_wp2
      gi_wp2
      have hcg : Chg (fun k => k = w.heap.size + 1) W (w3.setCell ⟨w.heap.size + 1, 0, none⟩ (.bool false)) := ((Chg.refl (fun k => k = w.heap.size + 1) W).drew.trans hc3 (fun _ x => x.elim)).setCell (.inl rfl) _
      refine ⟨keeps_of_chg hcg (fun k hk => by subst hk; exact ⟨_, _, h2⟩), fun hp => hst ?_⟩
      have := (snoc_prefix hp).symm.trans HT.out
      simpa using this
  case done =>
    rintro D ys W hD rfl ⟨h0, h1, h2, h3, hchW, hlo⟩ hK
    have k1 := h1.one'
    have k3 := h3.one'
    have k2 := h2.one'
    have f2 := h2.frozen 0
    go_wp2
    have hD2 : D < W.heap.size := (Array.getElem?_eq_some_iff.1 hK).1
    simp at hD
    have hK5 : (W.setCell ⟨w.heap.size + 1, 0, none⟩ (.bool true)).heap[D]? = some (.deferred (some [])) := by
      have := Below.heap_setCell W ⟨w.heap.size + 1, 0, none⟩ (.bool true) D (by show ¬ D = w.heap.size + 1; omega)
      exact this.trans hK
    refine ⟨by simp, .inl ⟨_, _, rfl, run_takeDeferred hK5, ?_⟩⟩
    have hbx : Blk ((W.setCell ⟨w.heap.size + 1, 0, none⟩ (.bool true)).putObj D (.deferred none)) (w.heap.size + 1) #[.bool true] 4 :=
      Blk.keep (w := W.setCell ⟨w.heap.size + 1, 0, none⟩ (.bool true)) (h2.set 0 (.bool true)) (World.putObj_heap_other (w := W.setCell ⟨w.heap.size + 1, 0, none⟩ (.bool true)) (by omega))
    have hcell := hbx.one'
    refine ⟨.bool true, by simp [results, Try.results41, go_sem, hcell], rfl, ?_⟩
    have hcg : Chg Non w (W.setCell ⟨w.heap.size + 1, 0, none⟩ (.bool true)) := hchW.setCell (.inr (by simp)) _
    exact chg_abides (grownBy_putObj' _ D _) (B := w.heap.size) (Nat.le_refl _) (fun r e => by cases e; exact ⟨by omega, _, hK5, rfl⟩) hcg
  case stop =>
    rintro D c pre W _ hp h _
    exact absurd (heq ▸ hp) h
end Go.Proofs.Ytggbgfdgpkbmhaa
