/- saves: SavesRise, the walk. -/
import Derived.Test.YtggbgfdgpkbmhaaSavU
namespace Go.Proofs.Ytggbgfdgpkbmhaa
open Go.RowKit Go.Shelf
set_option linter.unusedSimpArgs false
set_option linter.unusedVariables false
attribute [local go_sem] Oper.semAt_some

/-- The boxes that the law's arguments and its result lie in. -/
structure Boxes (w : World) (q : Nat) (A : Option Addr) (n c : Nat) (B : Option Addr) (n2 c2 : Nat) : Prop where
  b0 : Blk w q #[.slice A n c] 24
  b1 : Blk w (q + 1) #[.slice B n2 c2] 24
  b2 : Blk w (q + 2) #[.bool false] 4
theorem Boxes.chg {w w' : World} {q : Nat} {A : Option Addr} {n c : Nat} {B : Option Addr} {n2 c2 : Nat} (h : Boxes w q A n c B n2 c2) {S : Nat → Prop} (hc : Chg S w w') (hs : ∀ i, S i → ¬ (i = q ∨ i = q + 1 ∨ i = q + 2)) : Boxes w' q A n c B n2 c2 :=
  ⟨h.b0.chg hc (fun e => hs _ e (by omega)), h.b1.chg hc (fun e => hs _ e (by omega)), h.b2.chg hc (fun e => hs _ e (by omega))⟩

structure RiseInv (w1 : World) (q q11 : Nat) (A : Option Addr) (n c : Nat) (B : Option Addr) (n2 c2 : Nat) (B1 : Nat) (pre : List SvI) (W : World) : Prop where
  bx : Boxes W q A n c B n2 c2
  blk : Blk W q11 #[.int .i64 (lastAt pre)] 3
  chg : Chg Non w1 W
  size : B1 ≤ W.heap.size

set_option maxHeartbeats 8000000 in
set_option maxRecDepth 100000 in
theorem savesRise_any (w : World) (A : Option Addr) (n c : Nat) (l : List Op3) (hl : SlRead Op3.cells 3 w A n c l) (B : Option Addr) (n2 c2 : Nat) (m : List Op3) (hm : SlRead Op3.cells 3 w B n2 c2 m) :
    Calls Try.prog 4 #[.slice A n c, .slice B n2 c2] w fun e w' => e = .returned (.bool true) ∧ Below w.heap.size w w' := by
  have hn := hl.len
  have hn2 := hm.len
  refine (callsIn_wide (n := 3)).1 ?_
  refine callsIn_of_wp_marks Try.func4 rfl trivial ?_ rfl
  simp only [Try.ntmps4, List.size_toArray, List.length_cons, List.length_nil, Nat.reduceAdd, Nat.reduceSub, Array.replicate_succ, Array.replicate_zero, List.push_toArray, List.append_toArray, List.nil_append, List.cons_append]
  refine wpIn_wide.2 ?_
  have hbx : Boxes (((w.alloc (.cells #[.slice A n c] 24)).alloc (.cells #[.slice B n2 c2] 24)).alloc (.cells #[.bool false] 4)) w.heap.size A n c B n2 c2 :=
    ⟨((Blk.new_at rfl).alloc _).alloc _, (Blk.new_at (by simp)).alloc _, Blk.new_at (by simp)⟩
  have hch : Chg Non w (((w.alloc (.cells #[.slice A n c] 24)).alloc (.cells #[.slice B n2 c2] 24)).alloc (.cells #[.bool false] 4)) := (((Chg.refl Non w).alloc _).alloc _).alloc _
  have hsz : (((w.alloc (.cells #[.slice A n c] 24)).alloc (.cells #[.slice B n2 c2] 24)).alloc (.cells #[.bool false] 4)).heap.size = w.heap.size + 3 := by simp
  replace hl := hl.non hch
  replace hm := hm.non hch
  have HL := Lib.hid hl
  have HM := Lib.hid hm
  clear hl hm
  go_wp2_with fail
  generalize ((w.alloc (.cells #[.slice A n c] 24)).alloc (.cells #[.slice B n2 c2] 24)).alloc (.cells #[.bool false] 4) = w1 at hbx hch hsz HL HM ⊢
  refine (newNow w1 w1 (Chg.refl _ _) 0).mono ?_
  rintro e w2 ⟨b, g, rfl, hN⟩
  have hbx2 := hbx.chg hN.chg (fun _ x => x.elim)
  have e0 := hbx2.b0.cell 0
  have e1 := hbx2.b1.cell 0
  have e2 := hbx2.b2.cell 0
  have f2 := hbx2.b2.frozen 0
  by_cases t1 : 60 < n
  · go_wp2_with fail
    refine (awake12_any _).mono ?_
    rintro e w3 ⟨rfl, hb⟩
    have e3 := (hbx2.b2.below hb).cell 0
    have f3 := (hbx2.b2.below hb).frozen 0
    go_wp2_with fail
    have hbe : Blk (w3.setCell ⟨w.heap.size + 2, 0, none⟩ (.bool true)) (w.heap.size + 2) #[.bool true] 4 := (hbx2.b2.below hb).set 0 _
    have hcell := hbe.cell 0
    refine ⟨.bool true, by simp [results, Try.results4, go_sem, hcell], rfl, ?_⟩
    exact (((hch.trans hN.chg (fun _ x => x.elim)).then_below hb).setCell (.inr (by show w.heap.size ≤ w.heap.size + 2; omega)) _).non_below
  by_cases t2 : 60 < n2
  · go_wp2_with fail
    refine (awake12_any _).mono ?_
    rintro e w3 ⟨rfl, hb⟩
    have e3 := (hbx2.b2.below hb).cell 0
    have f3 := (hbx2.b2.below hb).frozen 0
    go_wp2_with fail
    have hbe : Blk (w3.setCell ⟨w.heap.size + 2, 0, none⟩ (.bool true)) (w.heap.size + 2) #[.bool true] 4 := (hbx2.b2.below hb).set 0 _
    have hcell := hbe.cell 0
    refine ⟨.bool true, by simp [results, Try.results4, go_sem, hcell], rfl, ?_⟩
    exact (((hch.trans hN.chg (fun _ x => x.elim)).then_below hb).setCell (.inr (by show w.heap.size ≤ w.heap.size + 2; omega)) _).non_below
  go_wp2_with fail
  clear e0 e1 e2 f2 hbx2
  go_loopw [6] (fun i wr => ∃ (k g : Nat) (lst : List SvI), k ≤ n ∧ i = .int .i64 k ∧ RowNow w1 wr b g lst (k + 1) ∧ ∀ s ∈ lst, Good (l.take k) [] s) (fun i _ => n - (intOf i).toNat)
  case atStart => exact ⟨0, g, _, by omega, rfl, hN, by intro s hs; simp at hs; subst hs; exact ⟨by decide, .inl rfl⟩⟩
  case round =>
    clear hN
    obtain ⟨k, g, lst, hk, rfl, hN, hG⟩ := hrel
    have k0 := (hbx.chg hN.chg (fun _ x => x.elim)).b0.cell 0
    by_cases hlt : k < n
    · have hs : l[k]? = some (l[k]'(by omega)) := List.getElem?_eq_getElem (by omega)
      generalize l[k]'(by omega) = o at hs
      obtain ⟨ad, rfl, k1, k2, k3⟩ := op3_at HL.out hs
      have HG := Lib.hid (good_op hN.pos hG o (l' := l.take (k + 1)) (m' := []) (fun o ho => (List.take_subset_take_left l (Nat.le_succ k)) ho) (fun _ h => h) (.inl (List.mem_of_getElem? (i := k) (by rw [List.getElem?_take, if_pos (by omega)]; exact hs))))
      clear hs hG
      have K0 := Lib.hid (show w1.cell? ⟨w.heap.size, 0, none⟩ = some (.slice (some ad) n c) from hbx.b0.cell 0)
      have K1 := Lib.hid k1
      have K2 := Lib.hid k2
      have K3 := Lib.hid k3
      replace k1 := hN.chg.cell k1 id
      replace k2 := hN.chg.cell k2 id
      replace k3 := hN.chg.cell k3 id
      have HN := Lib.hid (hN.non ((Chg.refl _ _).drew))
      go_wp2_with fail
      go_region_held3 (fun w' => w'.cell? ⟨w.heap.size, 0, none⟩ = some (.slice (some ad) n c) ∧ w'.cell? (ad.add (k * 3)) = some (.int .i64 o.ask) ∧ w'.cell? ⟨(ad.add (k * 3)).block, (ad.add (k * 3)).off + 1, none⟩ = some (.int .i64 o.at_) ∧ w'.cell? ⟨(ad.add (k * 3)).block, (ad.add (k * 3)).off + 2, none⟩ = some (.int .i64 o.x)) (first | exact ⟨j0, j1, j2, j3⟩ | exact ⟨i0, i1, i2, i3⟩ | exact ⟨k0, k1, k2, k3⟩) (first | (go_at_call 17; refine (refNewNow 0 _).mono ?_; rintro e w4 ⟨p, ga, gx, rfl, hf⟩; have i0 := hf.chg.cell k0 id; have i1 := hf.chg.cell k1 id; have i2 := hf.chg.cell k2 id; have i3 := hf.chg.cell k3 id) | (go_at_call 16; refine (doesNow2 o.ask o.at_ o.x HN.out (by omega) hf).mono ?_; rintro e w5 ⟨bo, g', rfl, hN2, hcc, hgg⟩; have j0 := hN2.chg.cell K0.out id; have j1 := hN2.chg.cell K1.out id; have j2 := hN2.chg.cell K2.out id; have j3 := hN2.chg.cell K3.out id))
      all_goals
        go_wp2
        go_roundw
        case rel => exact ⟨k + 1, g', _, by omega, by go_num, hN2, HG.out⟩
        case measure => simp [intOf]; omega
    · obtain rfl : k = n := by omega
      rw [List.take_of_length_le (by omega)] at hG
      obtain ⟨cap, hrow⟩ := hN.row
      have hll := hN.len
      have hpos := hN.pos
      have hrise := hN.rise
      have hlb := hN.ltb
      have hlg := hN.ltg
      have hc1 := hN.chg
      have s1 := hc1.size
      clear hN
      go_wp2_with fail
      clear k0
      refine (savCopyI_any _ b g cap lst hrow (by omega)).mono ?_
      rintro e w2' ⟨b2, g2, cap2, rfl, hrow2, hc2, hb2, hg2⟩
      have s2 := hc2.size
      have hN2 : RowNow wr w2' b2 g2 lst (k + 1) := ⟨⟨cap2, hrow2⟩, hb2, hg2, hrise, hll, hc2⟩
      clear hrow2 hc2
      go_wp2_with fail
      refine (savTimesI_any _ b g cap lst (hrow.chg hN2.chg id id) (by omega)).mono ?_
      rintro e w3 ⟨A3, c3, rfl, hwas, hc3, hA3⟩
      have l2 := hN2.ltb
      have l3 := hN2.ltg
      have s3 := hc3.size
      replace hN2 := hN2.non hc3
      obtain ⟨ad3, rfl, q3⟩ := hwas.cell 0 _ (List.getElem?_eq_getElem (by rw [List.length_map]; exact hpos))
      replace hA3 := hA3 _ rfl
      have hlt3 : ad3.block < w3.heap.size := by
        have := World.block_lt_of_cell? w3 _ (q3 0 _ rfl)
        rwa [block_of_add] at this
      clear q3
      have hN3 := hN2
      go_wp2_with fail
      go_loopw [9] (fun i wq => ∃ (j g : Nat) (lst2 : List SvI), j ≤ n2 ∧ i = .int .i64 j ∧ RowNow wr wq b2 g lst2 (k + 1 + j) ∧ (∀ s ∈ lst2, Good l (m.take j) s) ∧ SlRead ic 1 wq (some ad3) lst.length c3 (lst.map (·.at_)) ∧ ad3.block < wq.heap.size ∧ ad3.block ≠ g ∧ b2 < wq.heap.size) (fun i _ => n2 - (intOf i).toNat)
      case atStart => exact ⟨0, g2, lst, by omega, rfl, hN2, fun s hs => (hG s hs).mono (fun _ h => h) (by simp), hwas, hlt3, by omega, by omega⟩
      case round =>
        clear hN2 hN3 hwas hlt3
        obtain ⟨j, g3, lst2, hj, rfl, hN, hG2, hwas, hlt3, hne3, hlb2⟩ := hrel
        have hcq := hc1.trans hN.chg (fun _ x => x.elim)
        have k0 := (hbx.chg hcq (fun _ x => x.elim)).b1.cell 0
        by_cases hlt : j < n2
        · have hs : m[j]? = some (m[j]'(by omega)) := List.getElem?_eq_getElem (by omega)
          generalize m[j]'(by omega) = o at hs
          obtain ⟨ad, rfl, k1, k2, k3⟩ := op3_at HM.out hs
          have HG := Lib.hid (good_op hN.pos hG2 o (l' := l) (m' := m.take (j + 1)) (fun _ h => h) (fun o ho => (List.take_subset_take_left m (Nat.le_succ j)) ho) (.inr (List.mem_of_getElem? (i := j) (by rw [List.getElem?_take, if_pos (by omega)]; exact hs))))
          clear hs hG2
          have K0 := Lib.hid (show _ = some (Value.slice (some ad) n2 c2) from (hbx.chg hc1 (fun _ x => x.elim)).b1.cell 0)
          have K1 := Lib.hid (hc1.cell k1 id)
          have K2 := Lib.hid (hc1.cell k2 id)
          have K3 := Lib.hid (hc1.cell k3 id)
          replace k1 := hcq.cell k1 id
          replace k2 := hcq.cell k2 id
          replace k3 := hcq.cell k3 id
          have HN := Lib.hid (hN.non ((Chg.refl _ _).drew))
          have HW := Lib.hid hwas
          have hll2 := hN.len
          clear hwas
          go_wp2_with fail
          go_region_held3 (fun w' => w'.cell? ⟨w.heap.size + 1, 0, none⟩ = some (.slice (some ad) n2 c2) ∧ w'.cell? (ad.add (j * 3)) = some (.int .i64 o.ask) ∧ w'.cell? ⟨(ad.add (j * 3)).block, (ad.add (j * 3)).off + 1, none⟩ = some (.int .i64 o.at_) ∧ w'.cell? ⟨(ad.add (j * 3)).block, (ad.add (j * 3)).off + 2, none⟩ = some (.int .i64 o.x)) (first | exact ⟨j0, j1, j2, j3⟩ | exact ⟨i0, i1, i2, i3⟩ | exact ⟨k0, k1, k2, k3⟩) (first | (go_at_call 17; refine (refNewNow 0 _).mono ?_; rintro e w4 ⟨p, ga, gx, rfl, hf⟩; have i0 := hf.chg.cell k0 id; have i1 := hf.chg.cell k1 id; have i2 := hf.chg.cell k2 id; have i3 := hf.chg.cell k3 id) | (go_at_call 16; refine (doesNow2 o.ask o.at_ o.x HN.out (by omega) hf).mono ?_; rintro e w5 ⟨bo, g', rfl, hN2, hcc, hgg⟩; have j0 := hN2.chg.cell K0.out id; have j1 := hN2.chg.cell K1.out id; have j2 := hN2.chg.cell K2.out id; have j3 := hN2.chg.cell K3.out id))
          all_goals
            go_wp2
            have hW5 := HW.out.chg (((Chg.refl (fun i => i = b2 ∨ i = g3) _).drew).trans hcc (fun i hi => .inl hi)) (fun ad e => by cases e; omega)
            have h5 := hcc.size
            simp at h5 hgg
            go_roundw
            case rel => exact ⟨j + 1, g', _, by omega, by go_num, hN2.le (by omega), HG.out, hW5, by omega, by omega, by omega⟩
            case measure => simp [intOf]; omega
        · obtain rfl : j = n2 := by omega
          rw [List.take_of_length_le (by omega)] at hG2
          go_wp2_with fail
          clear k0
          refine (savTimesI_any _ b g cap lst (hrow.chg hN.chg id id) (by omega)).mono ?_
          rintro e w6 ⟨A6, c6, rfl, ht6, hc6, _⟩
          go_wp2_with fail
          refine (ints_any _ (some ad3) lst.length c3 _ (hwas.non hc6) A6 lst.length c6 _ ht6).mono ?_
          rintro e w7 ⟨rfl, hc7⟩
          rw [decide_eq_true rfl]
          have hc67 := hc6.trans hc7 (fun _ x => x.elim)
          obtain ⟨cap3, hrow3⟩ := hN.row
          have hlen3 := hN.len
          have hrise3 := hN.rise
          go_wp2_with fail
          refine (savAllI_any _ b2 g3 cap3 lst2 (hrow3.chg hc67 id id) (by omega)).mono ?_
          rintro e w8 ⟨bl, A8, c8, rfl, hI, hc8, hbl, hA8⟩
          have hfe := func_nonnil bl
          have hcq8 : Chg Non w1 w8 := ((hc1.trans hN.chg (fun _ x => x.elim)).trans hc67 (fun _ x => x.elim)).trans hc8 (fun _ x => x.elim)
          have hbx8 := hbx.chg hcq8 (fun _ x => x.elim)
          have hIb := hI.blk.lt
          have hIl := hI.lt
          have s8 := hcq8.size
          clear ht6 hc6 hc7 hc67 hrow3 hwas hrow hN hc8 hcq
          have hq : Blk (w8.alloc (.cells #[.int .i64 (-2)] 3)) w8.heap.size #[.int .i64 (-2)] 3 := Blk.new_at rfl
          have hI1 := hI.below ((Below.refl _ _).alloc (Nat.le_refl _) (.cells #[.int .i64 (-2)] 3))
          go_wp2_with fail
          refine (wpIn_wide (n := 3)).1 ?_
          refine wpIn_rangeFunc_ownG rfl (by decide) (gf := 54) (lb := #[.pointer (some ⟨bl, 0, none⟩)]) rfl trivial (enters_of Try.func54 (by kernel_rfl) rfl)
            (allI_stops Fence.wide 2 trivial rfl (by decide) bl A8 c8 lst2 _ hI1 (by omega)) (fun h k => h.trans k) ?hkb (Below.refl _ _) (fun _ => rfl)
            (RiseInv w1 w.heap.size w8.heap.size A k c B j c2 (w8.heap.size + 1)) (SameStop lst2) ?hI (fun _ _ _ _ _ hs _ _ => hs)
            ⟨hbx8.chg ((Chg.refl Non _).alloc _) (fun _ x => x.elim), hq, hcq8.alloc _, by simp⟩
            ?act ?assign ?body ?done ?stop
          case hkb =>
            intro W lq o o' hl _ _ _
            simp at hl
            exact ⟨World.putObj_heap_other (by omega), fun ad e => World.putObj_heap_other (by have := hIl ad e; omega)⟩
          case hI =>
            rintro pre W W' row ⟨⟨h1, k1, k2⟩, h2, h3, h4⟩ hg hr
            exact ⟨⟨blk_abides hg (fun r e => (hr r e).2) h1, blk_abides hg (fun r e => (hr r e).2) k1, blk_abides hg (fun r e => (hr r e).2) k2⟩, blk_abides hg (fun r e => (hr r e).2) h2, chg_abides hg (by simp; omega) hr h3, Nat.le_trans h4 hg.size⟩
          case assign =>
            intro lq x W K hK
            gi_wp2
            exact hK
          case body =>
            rintro lp pre s W ⟨hbxW, hbk, hcW, hsW⟩ hlen
            have x0 := hbxW.b0.cell 0
            have x1 := hbxW.b1.cell 0
            have x2 := hbxW.b2.cell 0
            have y2 := hbxW.b2.frozen 0
            have x3 := hbk.cell 0
            have y3 := hbk.frozen 0
            have hl8 := HL.out.non hcW
            have hm8 := HM.out.non hcW
            have hHL := Lib.hid hl8
            have hHM := Lib.hid hm8
            clear hl8 hm8
            cases p1 : (s.at_ == -1)
            · gi_wp2
              gi_loop [14, 15] (fun is i => ∃ kk : Nat, kk ≤ k ∧ i = .int .i64 kk ∧ is = .bool (isBy s (l.take kk) (isFirst s))) (fun _ i => k - (intOf i).toNat)
              case atStart => exact ⟨0, by omega, rfl, by first | simp [isBy, isFirst, p1, p2] | simp [isBy, isFirst, p1]⟩
              case round =>
                obtain ⟨kk, hkk, rfl, rfl⟩ := hrel
                by_cases hlt : kk < k
                · have hs : l[kk]? = some (l[kk]'(by omega)) := List.getElem?_eq_getElem (by omega)
                  generalize l[kk]'(by omega) = o at hs
                  obtain ⟨ad, rfl, k1, k2, k3⟩ := op3_at hHL.out hs
                  have HSN := Lib.hid (isBy_snoc s l (isFirst s) hs)
                  clear hs
                  generalize isBy s (l.take kk) (isFirst s) = bb at HSN ⊢
                  cases bb
                  · cases a1 : (o.ask == 0)
                    · gi_wp2
                      go_round
                      case rel => exact ⟨kk + 1, by omega, by go_num, by rw [HSN.out]; simp [madeBy, a1]⟩
                      case measure => simp [intOf]; omega
                    · cases a2 : (o.at_ == s.at_)
                      · gi_wp2
                        go_round
                        case rel => exact ⟨kk + 1, by omega, by go_num, by rw [HSN.out]; simp [madeBy, a1, a2]⟩
                        case measure => simp [intOf]; omega
                      · cases a3 : (o.x == s.x)
                        all_goals
                          gi_wp2
                          go_round
                          case rel => exact ⟨kk + 1, by omega, by go_num, by rw [HSN.out]; simp [madeBy, a1, a2, a3]⟩
                          case measure => simp [intOf]; omega
                  · gi_wp2
                    go_round
                    case rel => exact ⟨kk + 1, by omega, by go_num, by rw [HSN.out]; simp⟩
                    case measure => simp [intOf]; omega
                · obtain rfl : kk = k := by omega
                  rw [List.take_of_length_le (by omega)]
                  gi_wp2
                  gi_loop [14, 16] (fun is i => ∃ kk : Nat, kk ≤ j ∧ i = .int .i64 kk ∧ is = .bool (isBy s (m.take kk) (isBy s l (isFirst s)))) (fun _ i => j - (intOf i).toNat)
                  case atStart => exact ⟨0, by omega, rfl, by simp [isBy]⟩
                  case round =>
                    obtain ⟨kk, hkk, rfl, rfl⟩ := hrel
                    by_cases hlt : kk < j
                    · have hs : m[kk]? = some (m[kk]'(by omega)) := List.getElem?_eq_getElem (by omega)
                      generalize m[kk]'(by omega) = o at hs
                      obtain ⟨ad, rfl, k1, k2, k3⟩ := op3_at hHM.out hs
                      have HSN := Lib.hid (isBy_snoc s m (isBy s l (isFirst s)) hs)
                      clear hs
                      generalize isBy s (m.take kk) (isBy s l (isFirst s)) = bb at HSN ⊢
                      cases bb
                      · cases a1 : (o.ask == 0)
                        · gi_wp2
                          go_round
                          case rel => exact ⟨kk + 1, by omega, by go_num, by rw [HSN.out]; simp [madeBy, a1]⟩
                          case measure => simp [intOf]; omega
                        · cases a2 : (o.at_ == s.at_)
                          · gi_wp2
                            go_round
                            case rel => exact ⟨kk + 1, by omega, by go_num, by rw [HSN.out]; simp [madeBy, a1, a2]⟩
                            case measure => simp [intOf]; omega
                          · cases a3 : (o.x == s.x)
                            all_goals
                              gi_wp2
                              go_round
                              case rel => exact ⟨kk + 1, by omega, by go_num, by rw [HSN.out]; simp [madeBy, a1, a2, a3]⟩
                              case measure => simp [intOf]; omega
                      · gi_wp2
                        go_round
                        case rel => exact ⟨kk + 1, by omega, by go_num, by rw [HSN.out]; simp⟩
                        case measure => simp [intOf]; omega
                    · obtain rfl : kk = j := by omega
                      rw [List.take_of_length_le (by omega)]
                      generalize hbb : isBy s m (isBy s l (isFirst s)) = bb
                      have HB := Lib.hid hbb
                      clear hbb
                      cases bb
                      · gi_wp2
                        have hcg : Chg (fun i => i = w.heap.size + 2) W (W.setCell ⟨w.heap.size + 2, 0, none⟩ (.bool false)) := (Chg.refl (fun i => i = w.heap.size + 2) W).setCell (.inl rfl) _
                        refine ⟨keeps_of_chg hcg (fun i hi => by subst hi; exact ⟨_, _, hbxW.b2⟩), fun hp => ?_⟩
                        have h1 := (hG2 s (hp.subset (by simp))).is
                        have h2 := lastAt_lt hrise3 (fun s hs => (hG2 s hs).1) hp
                        first | omega | (rw [HB.out] at h1; cases h1)
                      · by_cases hle : s.at_ ≤ lastAt pre
                        · gi_wp2
                          have hcg : Chg (fun i => i = w.heap.size + 2) W (W.setCell ⟨w.heap.size + 2, 0, none⟩ (.bool false)) := (Chg.refl (fun i => i = w.heap.size + 2) W).setCell (.inl rfl) _
                          refine ⟨keeps_of_chg hcg (fun i hi => by subst hi; exact ⟨_, _, hbxW.b2⟩), fun hp => ?_⟩
                          have h1 := (hG2 s (hp.subset (by simp))).is
                          have h2 := lastAt_lt hrise3 (fun s hs => (hG2 s hs).1) hp
                          first | omega | (rw [HB.out] at h1; cases h1)
                        · gi_wp2
                          have hcg : Chg (fun i => i = w8.heap.size) W (W.setCell ⟨w8.heap.size, 0, none⟩ (.int .i64 s.at_)) := (Chg.refl (fun i => i = w8.heap.size) W).setCell (.inl rfl) _
                          refine ⟨keeps_of_chg hcg (fun i hi => by subst hi; exact ⟨_, _, hbk⟩), ⟨hcg.block bl (by omega) (by omega), fun ad e => hcg.block _ (by have := hIl ad e; omega) (by have := hIl ad e; omega)⟩, hbxW.chg hcg (fun i hi => by omega), ?_, hcW.trans hcg (fun i hi => .inr (by omega)), Nat.le_trans hsW hcg.size⟩
                          rw [lastAt_snoc]; exact hbk.set 0 _
            · cases p2 : (s.x == 0)
              all_goals
                gi_wp2
                gi_loop [14, 15] (fun is i => ∃ kk : Nat, kk ≤ k ∧ i = .int .i64 kk ∧ is = .bool (isBy s (l.take kk) (isFirst s))) (fun _ i => k - (intOf i).toNat)
                case atStart => exact ⟨0, by omega, rfl, by first | simp [isBy, isFirst, p1, p2] | simp [isBy, isFirst, p1]⟩
                case round =>
                  obtain ⟨kk, hkk, rfl, rfl⟩ := hrel
                  by_cases hlt : kk < k
                  · have hs : l[kk]? = some (l[kk]'(by omega)) := List.getElem?_eq_getElem (by omega)
                    generalize l[kk]'(by omega) = o at hs
                    obtain ⟨ad, rfl, k1, k2, k3⟩ := op3_at hHL.out hs
                    have HSN := Lib.hid (isBy_snoc s l (isFirst s) hs)
                    clear hs
                    generalize isBy s (l.take kk) (isFirst s) = bb at HSN ⊢
                    cases bb
                    · cases a1 : (o.ask == 0)
                      · gi_wp2
                        go_round
                        case rel => exact ⟨kk + 1, by omega, by go_num, by rw [HSN.out]; simp [madeBy, a1]⟩
                        case measure => simp [intOf]; omega
                      · cases a2 : (o.at_ == s.at_)
                        · gi_wp2
                          go_round
                          case rel => exact ⟨kk + 1, by omega, by go_num, by rw [HSN.out]; simp [madeBy, a1, a2]⟩
                          case measure => simp [intOf]; omega
                        · cases a3 : (o.x == s.x)
                          all_goals
                            gi_wp2
                            go_round
                            case rel => exact ⟨kk + 1, by omega, by go_num, by rw [HSN.out]; simp [madeBy, a1, a2, a3]⟩
                            case measure => simp [intOf]; omega
                    · gi_wp2
                      go_round
                      case rel => exact ⟨kk + 1, by omega, by go_num, by rw [HSN.out]; simp⟩
                      case measure => simp [intOf]; omega
                  · obtain rfl : kk = k := by omega
                    rw [List.take_of_length_le (by omega)]
                    gi_wp2
                    gi_loop [14, 16] (fun is i => ∃ kk : Nat, kk ≤ j ∧ i = .int .i64 kk ∧ is = .bool (isBy s (m.take kk) (isBy s l (isFirst s)))) (fun _ i => j - (intOf i).toNat)
                    case atStart => exact ⟨0, by omega, rfl, by simp [isBy]⟩
                    case round =>
                      obtain ⟨kk, hkk, rfl, rfl⟩ := hrel
                      by_cases hlt : kk < j
                      · have hs : m[kk]? = some (m[kk]'(by omega)) := List.getElem?_eq_getElem (by omega)
                        generalize m[kk]'(by omega) = o at hs
                        obtain ⟨ad, rfl, k1, k2, k3⟩ := op3_at hHM.out hs
                        have HSN := Lib.hid (isBy_snoc s m (isBy s l (isFirst s)) hs)
                        clear hs
                        generalize isBy s (m.take kk) (isBy s l (isFirst s)) = bb at HSN ⊢
                        cases bb
                        · cases a1 : (o.ask == 0)
                          · gi_wp2
                            go_round
                            case rel => exact ⟨kk + 1, by omega, by go_num, by rw [HSN.out]; simp [madeBy, a1]⟩
                            case measure => simp [intOf]; omega
                          · cases a2 : (o.at_ == s.at_)
                            · gi_wp2
                              go_round
                              case rel => exact ⟨kk + 1, by omega, by go_num, by rw [HSN.out]; simp [madeBy, a1, a2]⟩
                              case measure => simp [intOf]; omega
                            · cases a3 : (o.x == s.x)
                              all_goals
                                gi_wp2
                                go_round
                                case rel => exact ⟨kk + 1, by omega, by go_num, by rw [HSN.out]; simp [madeBy, a1, a2, a3]⟩
                                case measure => simp [intOf]; omega
                        · gi_wp2
                          go_round
                          case rel => exact ⟨kk + 1, by omega, by go_num, by rw [HSN.out]; simp⟩
                          case measure => simp [intOf]; omega
                      · obtain rfl : kk = j := by omega
                        rw [List.take_of_length_le (by omega)]
                        generalize hbb : isBy s m (isBy s l (isFirst s)) = bb
                        have HB := Lib.hid hbb
                        clear hbb
                        cases bb
                        · gi_wp2
                          have hcg : Chg (fun i => i = w.heap.size + 2) W (W.setCell ⟨w.heap.size + 2, 0, none⟩ (.bool false)) := (Chg.refl (fun i => i = w.heap.size + 2) W).setCell (.inl rfl) _
                          refine ⟨keeps_of_chg hcg (fun i hi => by subst hi; exact ⟨_, _, hbxW.b2⟩), fun hp => ?_⟩
                          have h1 := (hG2 s (hp.subset (by simp))).is
                          have h2 := lastAt_lt hrise3 (fun s hs => (hG2 s hs).1) hp
                          first | omega | (rw [HB.out] at h1; cases h1)
                        · by_cases hle : s.at_ ≤ lastAt pre
                          · gi_wp2
                            have hcg : Chg (fun i => i = w.heap.size + 2) W (W.setCell ⟨w.heap.size + 2, 0, none⟩ (.bool false)) := (Chg.refl (fun i => i = w.heap.size + 2) W).setCell (.inl rfl) _
                            refine ⟨keeps_of_chg hcg (fun i hi => by subst hi; exact ⟨_, _, hbxW.b2⟩), fun hp => ?_⟩
                            have h1 := (hG2 s (hp.subset (by simp))).is
                            have h2 := lastAt_lt hrise3 (fun s hs => (hG2 s hs).1) hp
                            first | omega | (rw [HB.out] at h1; cases h1)
                          · gi_wp2
                            have hcg : Chg (fun i => i = w8.heap.size) W (W.setCell ⟨w8.heap.size, 0, none⟩ (.int .i64 s.at_)) := (Chg.refl (fun i => i = w8.heap.size) W).setCell (.inl rfl) _
                            refine ⟨keeps_of_chg hcg (fun i hi => by subst hi; exact ⟨_, _, hbk⟩), ⟨hcg.block bl (by omega) (by omega), fun ad e => hcg.block _ (by have := hIl ad e; omega) (by have := hIl ad e; omega)⟩, hbxW.chg hcg (fun i hi => by omega), ?_, hcW.trans hcg (fun i hi => .inr (by omega)), Nat.le_trans hsW hcg.size⟩
                            rw [lastAt_snoc]; exact hbk.set 0 _
          case done =>
            rintro D ys W hD rfl ⟨hbxW, hbk, hcW, hsW⟩ hK
            go_wp2_with fail
            refine (awake12_any _).mono ?_
            rintro e w9 ⟨rfl, hb⟩
            have hb9 := hbxW.b2.below hb
            have e3 := hb9.cell 0
            have f3 := hb9.frozen 0
            go_wp2
            have hD2 : D < W.heap.size := (Array.getElem?_eq_some_iff.1 hK).1
            simp at hD
            have hK5 : (w9.setCell ⟨w.heap.size + 2, 0, none⟩ (.bool true)).heap[D]? = some (.deferred (some [])) := by
              rw [Below.heap_setCell w9 ⟨w.heap.size + 2, 0, none⟩ (.bool true) D (by show ¬ D = w.heap.size + 2; omega), hb.block D hD2]; exact hK
            refine ⟨by simp, .inl ⟨_, _, rfl, run_takeDeferred hK5, ?_⟩⟩
            have hbz : Blk ((w9.setCell ⟨w.heap.size + 2, 0, none⟩ (.bool true)).putObj D (.deferred none)) (w.heap.size + 2) #[.bool true] 4 :=
              Blk.keep (w := w9.setCell ⟨w.heap.size + 2, 0, none⟩ (.bool true)) (hb9.set 0 (.bool true)) (World.putObj_heap_other (by omega))
            have hcell := hbz.cell 0
            refine ⟨.bool true, by simp [results, Try.results4, go_sem, hcell], rfl, ?_⟩
            have hcg : Chg Non w (w9.setCell ⟨w.heap.size + 2, 0, none⟩ (.bool true)) := ((hch.trans hcW (fun _ x => x.elim)).then_below hb).setCell (.inr (by show w.heap.size ≤ w.heap.size + 2; omega)) _
            exact (chg_abides (grownBy_putObj' _ D _) (B := w8.heap.size + 1) (by omega) (fun r e => by cases e; exact ⟨by omega, _, hK5, rfl⟩) hcg).non_below
          case stop =>
            rintro D c pre W _ hp h _
            exact absurd hp h
end Go.Proofs.Ytggbgfdgpkbmhaa
