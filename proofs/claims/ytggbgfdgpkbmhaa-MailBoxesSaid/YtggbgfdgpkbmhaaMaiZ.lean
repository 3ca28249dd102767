/- mail: the packets to all boxes: the walk. -/
import Derived.Test.YtggbgfdgpkbmhaaMbiA
import Derived.Deep.RegionHeld3
namespace Go.Proofs.Ytggbgfdgpkbmhaa
open Go.RowKit Go.Shelf
set_option linter.unusedSimpArgs false
set_option linter.unusedVariables false
attribute [local go_sem] Oper.semAt_some

/-- The state of the two nets behind some calls, with the boxes' bounds. -/
def PairBox (w : World) (bn bo : Nat) (K k : Nat) (wr : World) : Prop := ∃ (next : Int) (m : List Pk), NetPair w.heap.size wr bn bo (K : Int) next m ∧ NumsOk next m ∧ 0 ≤ next ∧ next ≤ 20 * k ∧ m.length ≤ 20 * k ∧ Chg Non w wr ∧ boxOk K m
theorem does_box (w wr : World) (bn bo K k : Nat) (h : PairBox w bn bo K k wr) (hk : k ≤ 40) (o : OpA) (ho : o.wf w) (h20 : o.n ≤ 20) :
    Calls Try.prog 31 #[.pointer (some ⟨bn, 0, none⟩), .pointer (some ⟨bo, 0, none⟩), .agg #[.int .i64 o.ask, .int .i64 o.a, .int .i64 o.b, .slice o.A o.n o.c]] wr fun e w' => e = .returned (.bool true) ∧ PairBox w bn bo K (k + 1) w' := by
  obtain ⟨next, m, hP, hok, h0, h1, h2, hch, hbx⟩ := h
  obtain ⟨xs, hx⟩ := ho
  have hs := hch.size
  have hxl := hx.len
  refine (does14_any w.heap.size wr bn bo K next m hP hs (by omega) (by omega) hok o.ask o.a o.b o.A o.n o.c xs (hx.non hch) (fun hn => sl_lt hx hn) h20).mono ?_
  rintro e w' ⟨rfl, hP', hc⟩
  obtain ⟨s1, s2, s3, s4⟩ := step_ok K next m hok h0 o.ask o.a o.b xs (by omega)
  refine ⟨rfl, _, _, hP', s1, by omega, by omega, by omega, ?_, step_box K next m hbx _ _ _ _⟩
  exact (hch.mono (S1 := (w.heap.size ≤ ·)) (fun _ _ x => x.elim)).trans hc (fun i hi => .inl hi) |>.below_ge
theorem OpA.wf.non {w w' : World} {o : OpA} (h : o.wf w) (hc : Chg Non w w') : o.wf w' := by
  obtain ⟨xs, hx⟩ := h
  exact ⟨xs, hx.non hc⟩

set_option maxHeartbeats 8000000 in
set_option maxRecDepth 100000 in
theorem mailBoxes_any (boxes : Int) (A : Option Addr) (n c : Nat) (l : List OpA) (w : World) (h : SlRead OpA.cells 4 w A n c l) (hw : ∀ (i : Nat) o, l[i]? = some o → o.wf w) :
    Calls Try.prog 9 #[.int .i64 boxes, .slice A n c] w fun e w' => e = .returned (.bool true) ∧ Below w.heap.size w w' := by
  have hlen := h.len
  have hcW : Chg Non w ((w.alloc (.cells #[.int .i64 boxes] 3)).alloc (.cells #[.bool false] 4)) := ((Chg.refl Non w).alloc _).alloc _
  have hB0 := (Blk.new w #[.int .i64 boxes] 3).alloc (.cells #[.bool false] 4)
  have hB1 := Blk.new_at (w := w.alloc (.cells #[.int .i64 boxes] 3)) (cs := #[.bool false]) (t := 4) (g := w.heap.size + 1) (by simp)
  obtain ⟨w2, hw2⟩ : ∃ w2, w2 = (w.alloc (.cells #[.int .i64 boxes] 3)).alloc (.cells #[.bool false] 4) := ⟨_, rfl⟩
  have HL := Lib.hid h
  have HW := Lib.hid hw
  clear h hw
  refine (callsIn_wide (n := 3)).1 ?_
  refine callsIn_of_wp_marks Try.func9 rfl trivial ?_ rfl
  simp only [Try.ntmps9, List.size_toArray, List.length_cons, List.length_nil, Nat.reduceAdd, Nat.reduceSub, Array.replicate_succ, Array.replicate_zero, List.push_toArray, List.append_toArray, List.nil_append, List.cons_append]
  refine wpIn_wide.2 ?_
  have k0 := hB0.one'
  by_cases hbx : 1 ≤ boxes ∧ boxes ≤ 64
  · obtain ⟨hb1, hb2⟩ := hbx
    obtain ⟨K, rfl⟩ : ∃ K : Nat, boxes = K := ⟨boxes.toNat, by omega⟩
    cases hfew : fewB l
    · go_wp2_with fail
      refine (maiNewI_ok K hb1 hb2 _).mono ?_
      rintro e w3 ⟨rfl, hN, hc3⟩
      go_wp2_with fail
      refine (hfew ▸ few14_any A n c l _ ((HL.out.non hcW).non hc3)).mono ?_
      rintro e w4 ⟨rfl, rfl⟩
      go_wp2_with fail
      refine (S.awake14_any _).mono ?_
      rintro e w5 ⟨rfl, hb5⟩
      have hR5 := (hB1.chg hc3 id).below hb5
      have r0 := hR5.one'
      have r1 := hR5.frozen 0
      go_wp2
      have hcell := (hR5.set 0 (.bool true)).one'
      refine ⟨.bool true, by simp [results, Try.results9, go_sem, hcell], rfl, ?_⟩
      exact (((hcW.trans hc3 (fun _ x => x.elim)).then_below hb5).setCell (p := ⟨w.heap.size + 1, 0, none⟩) (.inr (Nat.le_succ _)) _).non_below
    · obtain ⟨hl40, hl20⟩ := few_true hfew
      have H20 := Lib.hid hl20
      clear hl20
      go_wp2_with fail
      refine (maiNewI_ok K hb1 hb2 _).mono ?_
      rintro e w3 ⟨rfl, hN, hc3⟩
      rw [← hw2] at hc3 hN hcW hB0 hB1
      have hs3 := hc3.size
      have hnl := hN.lt
      have z2 : w2.heap.size = w.heap.size + 1 + 1 := by rw [hw2]; simp
      rw [z2] at hN hnl
      go_wp2_with fail
      have HW2 := Lib.hid hw2
      clear hw2
      refine (hfew ▸ few14_any A n c l _ ((HL.out.non hcW).non hc3)).mono ?_
      rintro e w4 ⟨rfl, rfl⟩
      have k3 := (hB0.chg hc3 id).one'
      have hP0 : PairBox w2 (w.heap.size + 1 + 1) w3.heap.size K 0 (w3.alloc (.cells #[.int .i64 K, .int .i64 0, .slice none 0 0] 59)) :=
        ⟨0, [], ⟨none, 0, none, 0, hN.non ((Chg.refl Non w3).alloc _), ⟨Blk.new _ _ _, World.ownsRow_nil _ _ _ _, fun _ e => by cases e⟩, ⟨by omega, by omega, by omega, (fun _ e => by cases e), (fun _ e => by cases e), fun _ _ e => by cases e⟩⟩, nums_nil 0, by omega, by omega, by simp, hc3.alloc _, by intro p hp; cases hp⟩
      go_wp2_with fail
      go_loopw [8] (fun i wr => ∃ k : Nat, k ≤ n ∧ i = .int .i64 k ∧ PairBox w2 (w.heap.size + 1 + 1) w3.heap.size K k wr) (fun i _ => n - (intOf i).toNat)
      case atStart => exact ⟨0, by omega, rfl, hP0⟩
      case round =>
        obtain ⟨k, hk, rfl, hP⟩ := hrel
        by_cases hlt : k < n
        · have hs : l[k]? = some (l[k]'(by omega)) := List.getElem?_eq_getElem (by omega)
          generalize l[k]'(by omega) = o at hs
          have hch : Chg Non w2 wr := by obtain ⟨_, _, _, _, _, _, _, hch, _⟩ := hP; exact hch
          obtain ⟨ad, rfl, o0, o1, o2, o3⟩ := op_at ((HL.out.non hcW).non hch) hs
          have ho := (HW.out k o hs).non hcW
          have h20 := H20.out o (List.mem_of_getElem? hs)
          have HS := Lib.hid hs
          clear hs hch
          go_wp2_with fail
          refine (does_box w2 wr _ _ K k hP (by omega) o ho h20).mono ?_
          rintro e w5 ⟨rfl, hP5⟩
          go_wp2
          go_roundw
          case rel => exact ⟨k + 1, by omega, by go_num, hP5⟩
          case measure => simp [intOf]; omega
        · obtain rfl : k = n := by omega
          obtain ⟨next, m, ⟨NA, cap, RA, rcap, hN0, hR0, hA0⟩, hok, hn0, hn1, hm1, hch, hbx⟩ := hP
          have kB0 := hB0.chg hch id
          have kB1 := hB1.chg hch id
          have hzr := hch.size
          have hnl0 := hN0.lt
          have hAl0 := own_lt hN0.own
          have hA0a := fun ad e => (hA0.a ad e).1
          have hS0 : BoxSt w2 w.heap.size K wr.heap.size NA cap next 0 (wr.heap.size + 1) m [] ((wr.alloc (.cells #[.int .i64 0] 3)).alloc (.cells #[.int .i64 0] 3)) :=
            { net := hN0.non (((Chg.refl Non wr).alloc _).alloc _), ok := hok, box := hbx, len := by omega, le := by omega, p0 := (kB0.alloc _).alloc _, p1 := (kB1.alloc _).alloc _,
              sum := by rw [show below ((0 : Nat) : Int) m = [] from below_zero hbx]; exact (Blk.new _ _ _).alloc _,
              to := Blk.new_at (by simp),
              ord := fun i hi => by
                rcases hi with rfl | ⟨ad, e, rfl⟩
                · exact ⟨by omega, by omega⟩
                · exact ⟨by have := hA0a ad e; omega, hAl0 ad e⟩,
              sz := z2, lt := by omega, gt := by omega, ds := by simp, nd := by simp, dge := by simp, chg := (hch.alloc _).alloc _ }
          clear hn0 hn1 hm1 hA0 hR0 hN0 hok hbx kB0 kB1 k3
          go_wp2_with fail
          refine box_loop (w2 := w2) (b0 := w.heap.size) (K := K) (bs := wr.heap.size) (A := NA) (cap := cap) (next := next) (box_mk hS0) ?_
          · intro t bt m Ds W u hS
            have t0 := hS.to.one'
            have p0 := hS.p0.one'
            have hle := hS.le
            have hml := hS.len
            by_cases hlt : t < K
            · have hltI : (t : Int) < K := by omega
              have hin : inBox (K : Int) (t : Int) = true := by unfold inBox; simp; omega
              have hcl : Chg Non W (W.alloc (.cells #[.int .i64 (-1)] 3)) := (Chg.refl Non W).alloc _
              have t1 := (hS.to.alloc (.cells #[.int .i64 (-1)] 3)).one'
              have hBl := Blk.new W #[.int .i64 (-1)] 3
              have hN1 := hS.net.non hcl
              have hbsl := hS.sum.lt
              have hbtl := hS.to.lt
              have hord := hS.ord
              have hsz := hS.sz
              have hbb := hS.lt
              have hgt := hS.gt
              have hge2 := hS.chg.size
              have hfe := fnIter64
              have HS := Lib.hid hS
              clear hS
              go_wp2_with fail
              refine (maiToI_any (t : Int) _ _ K next NA cap m hN1 (by omega)).mono ?_
              rintro e W2 ⟨bl, q, r, A3, c3, rfl, hI, hc2, hge⟩
              have z2' := hc2.size
              simp at z2'
              have hlt3 := hI.lt
              have hge' : ∀ k, sBlkT bl q r A3 k → W.heap.size + 1 ≤ k := fun k hk => by have := hge k hk; simpa using this
              have hfl := fun w => hfe bl q w
              have hD2 : ∀ D ∈ Ds, W2.heap[D]? = some (.deferred (some [])) := fun D hD => by
                have h1 := HS.out.ds D hD
                exact ds_keep hc2 (fun _ x => x.elim) (ds_keep hcl (fun _ x => x.elim) h1)
              go_wp2_with fail
              refine (wpIn_wide (n := 3)).1 ?_
              refine wpIn_rangeFunc_ownH rfl (by decide) (gf := 83) (lb := #[.pointer (some ⟨bl, 0, none⟩), .pointer (some ⟨q, 0, none⟩)]) rfl trivial (enters_of Try.func83 (by kernel_rfl) rfl)
                (someT_stops 2 (by decide) bl q r (t : Int) A3 c3 m W2 hI (by omega)) (fun h k => h.trans k) ?hkb (Below.refl _ _) (fun _ => rfl)
                (BoxRI w2 w.heap.size K wr.heap.size NA cap next t bt W.heap.size m Ds W2.heap.size) (BoxStop K t) ?hI (fun _ _ _ _ _ hs _ _ => hs)
                ⟨chk_nil _ _, (HS.out.p0.alloc _).chg hc2 id, (HS.out.p1.alloc _).chg hc2 id, by simpa using (HS.out.sum.alloc _).chg hc2 id, (HS.out.to.alloc _).chg hc2 id, hBl.chg hc2 id, hN1.non hc2, (HS.out.chg.alloc _).trans hc2 (fun _ x => x.elim), hD2, Nat.le_refl _⟩
                (fun s a' W' => ∃ v, Blk W' v #[.int .i64 s.no, .int .i64 s.src, .int .i64 s.dst, .int .i64 s.x] 67 ∧ W.heap.size + 1 ≤ v ∧ a' = { tmps := #[u 0, u 1, .pointer (some ⟨w.heap.size, 0, none⟩), u 3, .pointer (some ⟨w.heap.size + 1, 0, none⟩), .pointer (some ⟨w.heap.size + 1 + 1, 0, none⟩), u 6, u 7, u 8, .pointer (some ⟨wr.heap.size, 0, none⟩), .pointer (some ⟨bt, 0, none⟩), .pointer (some ⟨W.heap.size, 0, none⟩), .func (.func 83) #[] #[.pointer (some ⟨bl, 0, none⟩), .pointer (some ⟨q, 0, none⟩)], .pointer (some ⟨v, 0, none⟩), u 14, u 15, u 16, u 17, u 18, u 19, u 20, u 21, u 22, u 23, u 24, u 25, u 26, u 27, u 28, u 29, u 30, u 31, u 32, u 33, u 34, u 35, u 36, u 37, u 38, u 39, u 40, u 41, u 42, u 43, u 44, u 45, u 46, u 47, u 48, u 49, u 50, u 51, u 52, u 53, u 54, u 55, u 56, u 57, .int .i64 t, .int .i64 K, .bool true, u 61, u 62, .pointer (some ⟨w.heap.size + 1 + 1, 0, none⟩), .int .i64 t, .func (.func 83) #[] #[.pointer (some ⟨bl, 0, none⟩), .pointer (some ⟨q, 0, none⟩)], .func (.func 83) #[] #[.pointer (some ⟨bl, 0, none⟩), .pointer (some ⟨q, 0, none⟩)], .bool false, .func (.func 83) #[] #[.pointer (some ⟨bl, 0, none⟩), .pointer (some ⟨q, 0, none⟩)], .agg #[.int .i64 s.no, .int .i64 s.src, .int .i64 s.dst, .int .i64 s.x], u 70, u 71, u 72, u 73, u 74, u 75, u 76, u 77, u 78, u 79, u 80, u 81, u 82, u 83, u 84, u 85, u 86, u 87, u 88, u 89, u 90, u 91, u 92, u 93, u 94, u 95, u 96, u 97, u 98, u 99, u 100, u 101, u 102, u 103, u 104, u 105, u 106, u 107, u 108, u 109, u 110, u 111, u 112, u 113, u 114, u 115, u 116, u 117, u 118, u 119, u 120, u 121, u 122, u 123, u 124, u 125, u 126, u 127, u 128, u 129, u 130, u 131, u 132, u 133, u 134, u 135, u 136, u 137, u 138, u 139, u 140], defers := [] }) ?hAx ?assign ?body ?done ?stop
              case hkb =>
                intro W' lq o o' hl _ _ _ k hk
                exact World.putObj_heap_other (by have := hlt3 k hk; omega)
              case hI =>
                rintro pre W' W'' row ⟨g0, g1, g2, g3, g4, g5, g6, g7, g8, g9⟩ hg hr
                refine ⟨g0, blk_abides hg (fun r e => (hr r e).2) g1, blk_abides hg (fun r e => (hr r e).2) g2, blk_abides hg (fun r e => (hr r e).2) g3, blk_abides hg (fun r e => (hr r e).2) g4, blk_abides hg (fun r e => (hr r e).2) g5, net_abides hg (fun r e => (hr r e).2) g6, chg_abides hg (by omega) hr g7, fun D hD => ?_, Nat.le_trans g9 hg.size⟩
                have h1 := g8 D hD
                have h2 := hD2 D hD
                have h3 : D < W2.heap.size := (Array.getElem?_eq_some_iff.1 h2).1
                rw [hg.block D (Array.getElem?_eq_some_iff.1 h1).1 (fun e => by have := (hr D e.symm).1; omega)]
                exact h1
              case hAx =>
                rintro s a' _ W' W'' row ⟨v, hb, hv, e⟩ hg hr
                exact ⟨v, blk_abides hg (fun r e => (hr r e).2) hb, hv, e⟩
              case assign =>
                rintro l2 pre s W' K' ⟨g0, g1, g2, g3, g4, g5, g6, g7, g8, g9⟩ hK
                have hn1 : Chg Non W' (W'.alloc (.cells #[.int .i64 s.no, .int .i64 s.src, .int .i64 s.dst, .int .i64 s.x] 67)) := (Chg.refl Non W').alloc _
                gi_wp2
                obtain ⟨v, hv⟩ : ∃ v, v = W'.heap.size := ⟨_, rfl⟩
                rw [← hv]
                exact hK _ _ (keeps_of_chg hn1 (fun _ x => x.elim)) (fun k hk => hn1.block k (by have := hlt3 k hk; omega) id) ⟨g0, g1.alloc _, g2.alloc _, g3.alloc _, g4.alloc _, g5.alloc _, g6.non hn1, g7.alloc _, fun D hD => ds_keep hn1 (fun _ x => x.elim) (g8 D hD), Nat.le_trans g9 hn1.size⟩ ⟨v, Blk.new_at hv, by omega, rfl⟩
              case body =>
                rintro lp pre s a' W' _ _ ⟨g0, g1, g2, g3, g4, g5, g6, g7, g8, g9⟩ ⟨v, hv, hvl, rfl⟩ hlen'
                obtain ⟨⟨v0, v1, v2, v3⟩, _⟩ := hv.four
                have q1 := g1.one'
                have q2 := g2.frozen 0
                have q2c := g2.one'
                have q3 := g3.one'
                have q3f := g3.frozen 0
                have q4 := g4.one'
                have q5 := g5.one'
                have q5f := g5.frozen 0
                have hbm : (below t m).length ≤ m.length := (List.filter_sublist).length_le
                have hfm : (m.filter (givT t)).length ≤ m.length := (List.filter_sublist).length_le
                have hprel : pre.length ≤ 1000 := by omega
                have hbml : (below t m).length ≤ 1000 := by omega
                have hfail : ∀ pp : Prop, ¬ chk K t (pre ++ [s]) → Chg (· = w.heap.size + 1) W' (W'.setCell ⟨w.heap.size + 1, 0, none⟩ (.bool false)) ∧ ∀ k, k = w.heap.size + 1 → ∃ cs t, Blk W' k cs t := fun _ _ => ⟨(Chg.refl (· = w.heap.size + 1) W').setCell (.inl rfl) _, fun k hk => by subst hk; exact ⟨_, _, g2⟩⟩
                by_cases c1 : s.dst = t
                · have d1 : (s.dst != (t : Int)) = false := by simp [c1]
                  by_cases c2 : s.no ≤ lastOf pre
                  · gi_wp2
                    exact ⟨keeps_of_chg (hfail True (chk_not (.inr (.inl c2)))).1 (hfail True (chk_not (.inr (.inl c2)))).2, chk_not (.inr (.inl c2))⟩
                  · by_cases c3 : s.src < 0
                    · gi_wp2
                      exact ⟨keeps_of_chg (hfail True (chk_not (.inr (.inr (.inl c3))))).1 (hfail True (chk_not (.inr (.inr (.inl c3))))).2, chk_not (.inr (.inr (.inl c3)))⟩
                    · by_cases c4 : (K : Int) ≤ s.src
                      · gi_wp2
                        exact ⟨keeps_of_chg (hfail True (chk_not (.inr (.inr (.inr c4))))).1 (hfail True (chk_not (.inr (.inr (.inr c4))))).2, chk_not (.inr (.inr (.inr c4)))⟩
                      · have q3' := (g3.far (p := ⟨W.heap.size, 0, none⟩) (show wr.heap.size ≠ W.heap.size by omega) (.int .i64 s.no)).one'
                        have q3f' := (g3.far (p := ⟨W.heap.size, 0, none⟩) (show wr.heap.size ≠ W.heap.size by omega) (.int .i64 s.no)).frozen 0
                        gi_wp2
                        have hcg : Chg (fun k => k = W.heap.size ∨ k = wr.heap.size) W' ((W'.setCell ⟨W.heap.size, 0, none⟩ (.int .i64 s.no)).setCell ⟨wr.heap.size, 0, none⟩ (.int .i64 ((below t m).length + pre.length + 1))) := ((Chg.refl (fun k => k = W.heap.size ∨ k = wr.heap.size) W').setCell (.inl (.inl rfl)) _).setCell (.inl (.inr rfl)) _
                        have hcb : ∀ k, (k = W.heap.size ∨ k = wr.heap.size) → ∃ cs t, Blk W' k cs t := fun k hk => by
                          rcases hk with rfl | rfl
                          · exact ⟨_, _, g5⟩
                          · exact ⟨_, _, g3⟩
                        refine ⟨keeps_of_chg hcg hcb, fun k hk => hcg.block k (by have := hlt3 k hk; omega) (by have := hge' k hk; omega), chk_snoc g0 c1 (by omega) (by omega) (by omega), g1.chg hcg (by omega), g2.chg hcg (by omega), ?_, g4.chg hcg (by omega), ?_, g6.chg hcg (by omega) (fun ad e => by have := hord _ (.inr ⟨ad, e, rfl⟩); omega), g7.trans hcg (fun i hi => .inr (by omega)), fun D hD => ds_keep hcg hcb (g8 D hD), Nat.le_trans g9 hcg.size⟩
                        · have e : (((below t m).length : Int) + ((pre ++ [s]).length : Nat)) = (below t m).length + pre.length + 1 := by rw [List.length_append]; simp; omega
                          rw [e]
                          exact (g3.far (p := ⟨W.heap.size, 0, none⟩) (show wr.heap.size ≠ W.heap.size by omega) _).set 0 _
                        · rw [last_snoc]
                          exact (g5.set 0 _).far (p := ⟨wr.heap.size, 0, none⟩) (show W.heap.size ≠ wr.heap.size by omega) _
                · have d1 : (s.dst != (t : Int)) = true := by simp [c1]
                  gi_wp2
                  exact ⟨keeps_of_chg (hfail True (chk_not (.inl c1))).1 (hfail True (chk_not (.inl c1))).2, chk_not (.inl c1)⟩
              case done =>
                rintro D ys W3 hD rfl ⟨g0, g1, g2, g3, g4, g5, g6, g7, g8, g9⟩ hK
                have q4 := g4.one'
                obtain ⟨o1, e1, m1, o2, e2, m2, hp1, hp2, hs1, hs2, hcase⟩ := pick_two hin HS.out.ok HS.out.box
                have hml1 := hs1.length_le
                have hT1 := maiPickI_any (t : Int) 0 W3 _ K next NA cap m g6 (by omega)
                rw [hp1] at hT1
                unfold Pk.val at hT1
                go_wp2_with fail
                refine hT1.mono ?_
                rintro e W4 ⟨rfl, hN4, hc4⟩
                have z4 := hc4.size
                have nn : ∀ i, netBlk (w.heap.size + 1 + 1) NA i → w.heap.size + 1 < i ∧ i < wr.heap.size := hord
                have j4 := (g4.chg hc4 (fun hi => by have := nn _ hi; omega)).alloc (.cells #[.int .i64 o1.no, .int .i64 o1.src, .int .i64 o1.dst, .int .i64 o1.x] 67)
                have j4' := j4.one'
                have hN4' := hN4.non ((Chg.refl Non W4).alloc (.cells #[.int .i64 o1.no, .int .i64 o1.src, .int .i64 o1.dst, .int .i64 o1.x] 67))
                have hT2 := maiPickI_any (t : Int) 0 _ _ K next NA cap m1 hN4' (by omega)
                rw [hp2] at hT2
                unfold Pk.val at hT2
                go_wp2_with fail
                refine hT2.mono ?_
                rintro e W5 ⟨rfl, hN5, hc5⟩
                have z5 := hc5.size
                simp at z5
                have i5 : ∀ {k : Nat} {v : Value} {ty : TypeId}, Blk W3 k #[v] ty → ¬ netBlk (w.heap.size + 1 + 1) NA k → Blk (W5.alloc (.cells #[.int .i64 o2.no, .int .i64 o2.src, .int .i64 o2.dst, .int .i64 o2.x] 67)) k #[v] ty := fun h hk => (((h.chg hc4 hk).alloc _).chg hc5 hk).alloc _
                have r0 := i5 g1 (fun hi => by have := nn _ hi; omega)
                have r1 := i5 g2 (fun hi => by have := nn _ hi; omega)
                have r3 := i5 g3 (fun hi => by have := nn _ hi; omega)
                have r4 := i5 g4 (fun hi => by have := nn _ hi; omega)
                have r5 := i5 g5 (fun hi => by have := nn _ hi; omega)
                have rp := ((Blk.new W4 #[.int .i64 o1.no, .int .i64 o1.src, .int .i64 o1.dst, .int .i64 o1.x] 67).chg hc5 (fun hi => by have := nn _ hi; omega)).alloc (.cells #[.int .i64 o2.no, .int .i64 o2.src, .int .i64 o2.dst, .int .i64 o2.x] 67)
                have rq := Blk.new W5 #[.int .i64 o2.no, .int .i64 o2.src, .int .i64 o2.dst, .int .i64 o2.x] 67
                obtain ⟨⟨rp0, _, _, _⟩, _⟩ := rp.four
                obtain ⟨⟨rq0, _, _, _⟩, _⟩ := rq.four
                have s3 := r3.one'
                have s3f := r3.frozen 0
                have s4 := r4.one'
                have s5 := r5.one'
                have hN5' := hN5.non ((Chg.refl Non W5).alloc (.cells #[.int .i64 o2.no, .int .i64 o2.src, .int .i64 o2.dst, .int .i64 o2.x] 67))
                have hbm : (below t m).length ≤ m.length := (List.filter_sublist).length_le
                have hfm : (m.filter (givT t)).length ≤ m.length := (List.filter_sublist).length_le
                have hml2 := hs2.length_le
                have hdsA : ∀ D' ∈ D :: Ds, (W5.alloc (.cells #[.int .i64 o2.no, .int .i64 o2.src, .int .i64 o2.dst, .int .i64 o2.x] 67)).heap[D']? = some (.deferred (some [])) := fun D' hD' => by
                  have h0 : W3.heap[D']? = some (.deferred (some [])) := by
                    rcases List.mem_cons.1 hD' with rfl | h
                    · exact hK
                    · exact g8 D' h
                  exact ds_keep ((Chg.refl Non W5).alloc _) (fun _ x => x.elim) (ds_keep hc5 (net_blks hN4') (ds_keep ((Chg.refl Non W4).alloc _) (fun _ x => x.elim) (ds_keep hc4 (net_blks g6) h0)))
                have hndA : (D :: Ds).Nodup := List.nodup_cons.2 ⟨fun hm => by have := (Array.getElem?_eq_some_iff.1 (hD2 D hm)).1; omega, HS.out.nd⟩
                have hdgA : ∀ D' ∈ D :: Ds, w.heap.size + 1 < D' := fun D' hD' => by
                  rcases List.mem_cons.1 hD' with rfl | h
                  · omega
                  · exact HS.out.dge D' h
                have hchA : Chg Non w2 (W5.alloc (.cells #[.int .i64 o2.no, .int .i64 o2.src, .int .i64 o2.dst, .int .i64 o2.x] 67)) := (((g7.trans hc4 (fun i hi => .inr (by have := nn i hi; omega))).alloc _).trans hc5 (fun i hi => .inr (by have := nn i hi; omega))).alloc _
                have hfin : ∀ (W6 : World) (x : Int), Chg (· = wr.heap.size) (W5.alloc (.cells #[.int .i64 o2.no, .int .i64 o2.src, .int .i64 o2.dst, .int .i64 o2.x] 67)) W6 → Blk W6 wr.heap.size #[.int .i64 x] 3 → x = (below ((t : Int) + 1) m2).length → W6.heap.size = W5.heap.size + 1 →
                    BoxSt w2 w.heap.size K wr.heap.size NA cap next (t + 1) (W5.heap.size + 1) m2 (D :: Ds) (W6.alloc (.cells #[.int .i64 ((t : Int) + 1)] 3)) ∧ (W6.alloc (.cells #[.int .i64 ((t : Int) + 1)] 3)).cell? ⟨W5.heap.size + 1, 0, none⟩ = some (.int .i64 ((t : Int) + 1)) := fun W6 x h1 h2 h3 h4 => by
                  have hto := Blk.new_at (w := W6) (cs := #[.int .i64 ((t : Int) + 1)]) (t := 3) (g := W5.heap.size + 1) (by omega)
                  refine ⟨{ net := (hN5'.chg h1 (by omega) (fun ad e => by have := hord _ (.inr ⟨ad, e, rfl⟩); omega)).non ((Chg.refl Non _).alloc _), ok := HS.out.ok.sub hs2, box := HS.out.box.sub hs2, len := by omega, le := hlt, p0 := (r0.chg h1 (by omega)).alloc _, p1 := (r1.chg h1 (by omega)).alloc _, sum := ?_, to := hto, ord := hord, sz := hsz, lt := by omega, gt := hgt, ds := fun D' hD' => ds_keep ((Chg.refl Non _).alloc _) (fun _ x => x.elim) (ds_keep h1 (fun k hk => by subst hk; exact ⟨_, _, r3⟩) (hdsA D' hD')), nd := hndA, dge := hdgA, chg := (hchA.trans h1 (fun i hi => .inr (by have hi' : i = wr.heap.size := hi; omega))).alloc _ }, hto.one'⟩
                  rw [h3] at h2
                  exact h2.alloc _
                have hslt : t < K := hlt
                rcases hcase with ⟨rfl, rfl, hL, hF, hC⟩ | ⟨rfl, rfl, hL, hF, hC⟩ | ⟨rfl, rfl, hL, hlt2, hF, hC⟩
                · rw [hL] at s5
                  have hsv : ((below t m).length + ((m.filter (givT t)).length : Nat) : Int) = (below t m).length := by omega
                  rw [hsv] at s3 r3
                  have HF := Lib.hid hfin
                  clear hfin
                  go_wp2
                  obtain ⟨f1, f2⟩ := HF.out _ _ (Chg.refl _ _) r3 (by rw [hC]) (by simp)
                  exact ⟨box_mk f1, box_mu_lt rfl f2 hslt⟩
                · have hsv : ((below t m).length + ((m.filter (givT t)).length : Nat) : Int) = (below t m).length + 1 := by omega
                  rw [hsv] at s3 r3
                  have HF := Lib.hid hfin
                  clear hfin
                  go_wp2
                  obtain ⟨f1, f2⟩ := HF.out _ _ ((Chg.refl (· = wr.heap.size) _).setCell (p := ⟨wr.heap.size, 0, none⟩) (.inl rfl) (.int .i64 (below t m).length)) (r3.set 0 _) (by rw [hC]) (by simp [World.setCell])
                  exact ⟨box_mk f1, box_mu_lt rfl f2 hslt⟩
                · obtain ⟨ex, hex⟩ : ∃ ex : Nat, (m.filter (givT t)).length = ex + 2 := ⟨(m.filter (givT t)).length - 2, by omega⟩
                  have hsv : ((below t m).length + ((m.filter (givT t)).length : Nat) : Int) = (below t m).length + ex + 2 := by omega
                  rw [hsv] at s3 r3
                  have hno : ¬ o2.no ≤ o1.no := by omega
                  have hcx : (((below t m).length : Int) + ex + 2 - 1 - 1) = (below ((t : Int) + 1) m2).length := by omega
                  have HF := Lib.hid hfin
                  have HX := Lib.hid hcx
                  clear hfin hcx
                  go_wp2
                  obtain ⟨f1, f2⟩ := HF.out _ _ (((Chg.refl (· = wr.heap.size) _).setCell (p := ⟨wr.heap.size, 0, none⟩) (.inl rfl) (.int .i64 (((below t m).length : Int) + ex + 2 - 1))).setCell (p := ⟨wr.heap.size, 0, none⟩) (.inl rfl) (.int .i64 (((below t m).length : Int) + ex + 2 - 1 - 1))) ((r3.set 0 _).set 0 _) HX.out (by simp [World.setCell])
                  exact ⟨box_mk f1, box_mu_lt rfl f2 hslt⟩
              case stop =>
                rintro D c' pre W' _ hp h _
                exact absurd ((chk_filter HS.out.ok HS.out.box).pre hp) h
            · obtain rfl : t = K := by omega
              have hbelow : below (t : Int) m = m := below_all hS.box
              have s3 := hS.sum.one'
              rw [hbelow] at s3
              have hN1 := hS.net.non ((Chg.refl Non W).drew)
              have hgt := hS.gt
              have HS := Lib.hid hS
              clear hS
              go_wp2_with fail
              go_region_held3 (fun w' => w'.cell? ⟨wr.heap.size, 0, none⟩ = some (.int .i64 m.length)) (first | exact j9 | exact i1 | exact s3) (first | (go_at_call 34; refine (maiLenI_any _ _ t next NA cap m hN1).mono ?_; rintro e w7 ⟨rfl, rfl⟩) | (go_at_call 30; refine (S.awake14_any _).mono ?_; rintro e w8 ⟨rfl, hb8⟩; have j1 := (HS.out.p1.drew.below hb8).one'; have f1 := (HS.out.p1.drew.below hb8).frozen 0; have i1 := cell_keep (w := W.drew) hb8 s3; have j9 := (show ((w8.setCell ⟨w.heap.size + 1, 0, none⟩ (.bool true)).cell? ⟨wr.heap.size, 0, none⟩ = some (.int .i64 m.length)) from by rw [World.cell?_setCell_other _ _ _ _ (by intro e; injection e; omega)]; exact i1)))
              all_goals
                go_wp2
                have hd8 : ∀ D ∈ Ds, (w8.setCell ⟨w.heap.size + 1, 0, none⟩ (.bool true)).heap[D]? = some (.deferred (some [])) := fun D hD => by
                  have h0 := HS.out.ds D hD
                  have h1 := HS.out.dge D hD
                  have h2 : D < W.heap.size := (Array.getElem?_eq_some_iff.1 h0).1
                  rw [Below.heap_setCell w8 _ _ D (by show ¬ D = w.heap.size + 1; omega), hb8.block D h2]
                  exact h0
                refine leaves_collected Ds _ HS.out.nd hd8 (fun W' h1 h2 h3 h4 h5 => ?_)
                have hnb : w.heap.size + 1 ∉ Ds := fun hm => by have := HS.out.dge _ hm; omega
                have hcell := (((HS.out.p1.drew.below hb8).set 0 (.bool true)).keep (h5 _ hnb)).one'
                refine ⟨.bool true, by simp [results, Try.results9, go_sem, hcell], rfl, ?_⟩
                have hT : Below w.heap.size w (w8.setCell ⟨w.heap.size + 1, 0, none⟩ (.bool true)) := ((((hcW.trans HS.out.chg (fun _ x => x.elim)).drew).then_below hb8).setCell (p := ⟨w.heap.size + 1, 0, none⟩) (.inr (Nat.le_succ _)) _).non_below
                exact ⟨h1.trans hT.os, h2.trans hT.tape, h3.trans hT.output, by rw [h4]; exact hT.size, fun k hk => (h5 k (fun hm => by have := HS.out.dge _ hm; omega)).trans (hT.block k hk)⟩
  · have hbx' : boxes < 1 ∨ (¬ boxes < 1 ∧ 64 < boxes) := by omega
    go_wp2_with fail
    refine (maiNewI_err boxes hbx _).mono ?_
    rintro e w3 ⟨rfl, rfl⟩
    go_wp2_with fail
    refine (S.awake14_any _).mono ?_
    rintro e w5 ⟨rfl, hb5⟩
    have hR5 := hB1.below hb5
    have r0 := hR5.one'
    have r1 := hR5.frozen 0
    go_wp2
    have hcell := (hR5.set 0 (.bool true)).one'
    refine ⟨.bool true, by simp [results, Try.results9, go_sem, hcell], rfl, ?_⟩
    exact ((hcW.then_below hb5).setCell (p := ⟨w.heap.size + 1, 0, none⟩) (.inr (Nat.le_succ _)) _).non_below
end Go.Proofs.Ytggbgfdgpkbmhaa
