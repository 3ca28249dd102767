/- mail: what each call answers, and which packets are on their way, call by call. -/
import Derived.Test.YtggbgfdgpkbmhaaMaiU
import Derived.Test.YtggbgfdgpkbmhaaMaiM
import Derived.Test.YtggbgfdgpkbmhaaOpenOp
namespace Go.Proofs.Ytggbgfdgpkbmhaa
open Go.RowKit
set_option linter.unusedSimpArgs false
set_option linter.unusedVariables false

theorem step_ok (boxes next : Int) (m : List Pk) (hok : NumsOk next m) (h0 : 0 ≤ next) (ask a b : Int) (xs : List Int) (hx : xs.length ≤ 20) :
    NumsOk (stepR boxes next m ask a b xs).1 (stepR boxes next m ask a b xs).2 ∧ next ≤ (stepR boxes next m ask a b xs).1 ∧ (stepR boxes next m ask a b xs).1 ≤ next + 20 ∧ (stepR boxes next m ask a b xs).2.length ≤ m.length + 20 := by
  unfold stepR
  split
  · split
    · exact ⟨hok.sent h0 _ _ _, by simp; omega, by simp; omega, by simp [sent_len]; omega⟩
    · exact ⟨hok, Int.le_refl _, by show next ≤ next + 20; omega, by show m.length ≤ m.length + 20; omega⟩
  · split
    · have := (take_sub a m).length_le
      exact ⟨hok.sub (take_sub _ _), Int.le_refl _, by show next ≤ next + 20; omega, by show (takeR a m).2.2.length ≤ m.length + 20; omega⟩
    · have := (pick_sub boxes a b m).length_le
      exact ⟨hok.sub (pick_sub _ _ _ _), Int.le_refl _, by show next ≤ next + 20; omega, by show (pickR boxes a b m).2.2.length ≤ m.length + 20; omega⟩
theorem few_true {l : List OpA} (h : fewB l = true) : l.length ≤ 40 ∧ ∀ o ∈ l, o.n ≤ 20 := by
  unfold fewB at h
  simp at h
  exact ⟨h.2, h.1⟩
theorem Chg.below_ge {w w' : World} (h : Chg (w.heap.size ≤ ·) w w') : Chg Non w w' := h.mono (fun i hi hs => by have hs' : w.heap.size ≤ i := hs; omega)

/-- The state of the two nets behind some calls. -/
def PairNow (w : World) (bn bo : Nat) (K k : Nat) (wr : World) : Prop := ∃ (next : Int) (m : List Pk), NetPair w.heap.size wr bn bo (K : Int) next m ∧ NumsOk next m ∧ 0 ≤ next ∧ next ≤ 20 * k ∧ m.length ≤ 20 * k ∧ Chg Non w wr

set_option maxHeartbeats 4000000 in
set_option maxRecDepth 100000 in
theorem does_now (w wr : World) (bn bo K k : Nat) (h : PairNow w bn bo K k wr) (hk : k ≤ 40) (o : OpA) (ho : o.wf w) (h20 : o.n ≤ 20) :
    Calls Try.prog 31 #[.pointer (some ⟨bn, 0, none⟩), .pointer (some ⟨bo, 0, none⟩), .agg #[.int .i64 o.ask, .int .i64 o.a, .int .i64 o.b, .slice o.A o.n o.c]] wr fun e w' => e = .returned (.bool true) ∧ PairNow w bn bo K (k + 1) w' := by
  obtain ⟨next, m, hP, hok, h0, h1, h2, hch⟩ := h
  obtain ⟨xs, hx⟩ := ho
  have hs := hch.size
  have hxl := hx.len
  refine (does14_any w.heap.size wr bn bo K next m hP hs (by omega) (by omega) hok o.ask o.a o.b o.A o.n o.c xs (hx.non hch) (fun hn => sl_lt hx hn) h20).mono ?_
  rintro e w' ⟨rfl, hP', hc⟩
  obtain ⟨s1, s2, s3, s4⟩ := step_ok K next m hok h0 o.ask o.a o.b xs (by omega)
  refine ⟨rfl, _, _, hP', s1, by omega, by omega, by omega, ?_⟩
  exact (hch.mono (S1 := (w.heap.size ≤ ·)) (fun _ _ x => x.elim)).trans hc (fun i hi => .inl hi) |>.below_ge

set_option maxHeartbeats 4000000 in
set_option maxRecDepth 100000 in
theorem mailPlays_any (boxes : Int) (A : Option Addr) (n c : Nat) (l : List OpA) (w : World) (h : SlRead OpA.cells 4 w A n c l) (hw : ∀ (i : Nat) o, l[i]? = some o → o.wf w) :
    Calls Try.prog 10 #[.int .i64 boxes, .slice A n c] w fun e w' => e = .returned (.bool true) ∧ Below w.heap.size w w' := by
  have hlen := h.len
  have HL := Lib.hid h
  have HW := Lib.hid hw
  clear h hw
  by_cases hbx : 1 ≤ boxes ∧ boxes ≤ 64
  · obtain ⟨hb1, hb2⟩ := hbx
    obtain ⟨K, rfl⟩ : ∃ K : Nat, boxes = K := ⟨boxes.toNat, by omega⟩
    have g1 : ¬ (K : Int) < 1 := by omega
    have g2 : ¬ (64 : Int) < K := by omega
    cases hfew : fewB l
    · go_enter Try.func10, Try.ntmps10
      go_wp2_with fail
      refine (maiNewI_ok K hb1 hb2 w).mono ?_
      rintro e w1 ⟨rfl, hN, hc1⟩
      go_wp2_with fail
      refine (hfew ▸ few14_any A n c l _ (HL.out.non hc1)).mono ?_
      rintro e w2 ⟨rfl, rfl⟩
      go_wp2_with fail
      refine (S.awake14_any _).mono ?_
      rintro e w5 ⟨rfl, hb5⟩
      go_wp2
      go_ret
      exact ⟨rfl, (hc1.then_below hb5).non_below⟩
    · obtain ⟨hl40, hl20⟩ := few_true hfew
      have H20 := Lib.hid hl20
      clear hl20
      go_enter Try.func10, Try.ntmps10
      go_wp2_with fail
      refine (maiNewI_ok K hb1 hb2 w).mono ?_
      rintro e w1 ⟨rfl, hN, hc1⟩
      have hs1 := hc1.size
      have hnl := hN.lt
      go_wp2_with fail
      refine (hfew ▸ few14_any A n c l _ (HL.out.non hc1)).mono ?_
      rintro e w2 ⟨rfl, rfl⟩
      have hP0 : PairNow w w.heap.size w1.heap.size K 0 (w1.alloc (.cells #[.int .i64 K, .int .i64 0, .slice none 0 0] 59)) :=
        ⟨0, [], ⟨none, 0, none, 0, hN.non ((Chg.refl Non w1).alloc _), ⟨Blk.new _ _ _, World.ownsRow_nil _ _ _ _, fun _ e => by cases e⟩, ⟨Nat.le_refl _, by omega, by omega, (fun _ e => by cases e), (fun _ e => by cases e), fun _ _ e => by cases e⟩⟩, nums_nil 0, by omega, by omega, by simp, hc1.alloc _⟩
      go_wp2_with fail
      go_loopw [8] (fun i wr => ∃ k : Nat, k ≤ n ∧ i = .int .i64 k ∧ PairNow w w.heap.size w1.heap.size K k wr) (fun i _ => n - (intOf i).toNat)
      case atStart => exact ⟨0, by omega, rfl, hP0⟩
      case round =>
        obtain ⟨k, hk, rfl, hP⟩ := hrel
        by_cases hlt : k < n
        · have hs : l[k]? = some (l[k]'(by omega)) := List.getElem?_eq_getElem (by omega)
          generalize l[k]'(by omega) = o at hs
          have hch : Chg Non w wr := by obtain ⟨_, _, _, _, _, _, _, hch⟩ := hP; exact hch
          obtain ⟨ad, rfl, o0, o1, o2, o3⟩ := op_at (HL.out.non hch) hs
          have ho := HW.out k o hs
          have h20 := H20.out o (List.mem_of_getElem? hs)
          have HS := Lib.hid hs
          clear hs hch
          go_wp2_with fail
          refine (does_now w wr _ _ K k hP (by omega) o ho h20).mono ?_
          rintro e w3 ⟨rfl, hP3⟩
          obtain ⟨next, m, ⟨NA, cap, RA, rcap, hN3, hR3, hA3⟩, hok, hn0, hn1, hm1, hch3⟩ := hP3
          go_wp2_with fail
          refine (same14_any w3 _ _ K next NA RA cap rcap m hN3 hR3 (by omega) (by omega)).mono ?_
          rintro e w4 ⟨rfl, hc4⟩
          go_wp2
          go_roundw
          case rel => exact ⟨k + 1, by omega, by go_num, next, m, ⟨NA, cap, RA, rcap, hN3.non hc4, hR3.non hc4, hA3⟩, hok, hn0, hn1, hm1, hch3.trans hc4 (fun _ x => x.elim)⟩
          case measure => simp [intOf]; omega
        · obtain rfl : k = n := by omega
          obtain ⟨_, _, _, _, _, _, _, hch⟩ := hP
          go_wp2_with fail
          refine (S.awake14_any _).mono ?_
          rintro e w5 ⟨rfl, hb5⟩
          go_wp2
          go_ret
          exact ⟨rfl, (hch.then_below hb5).non_below⟩
  · have hbx' : boxes < 1 ∨ (¬ boxes < 1 ∧ 64 < boxes) := by omega
    rcases hbx' with g1 | ⟨g1, g2⟩
    all_goals
      go_enter Try.func10, Try.ntmps10
      go_wp2_with fail
      refine (maiNewI_err boxes hbx w).mono ?_
      rintro e w1 ⟨rfl, rfl⟩
      go_wp2_with fail
      refine (S.awake14_any _).mono ?_
      rintro e w5 ⟨rfl, hb5⟩
      go_wp2
      go_ret
      exact ⟨rfl, hb5⟩
end Go.Proofs.Ytggbgfdgpkbmhaa
