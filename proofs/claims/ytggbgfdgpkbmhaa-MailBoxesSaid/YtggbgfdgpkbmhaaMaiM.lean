/- mail: a nil net has nothing. -/
import Derived.Test.YtggbgfdgpkbmhaaMaiLT
import Derived.Test.YtggbgfdgpkbmhaaMaiLA
import Derived.Test.YtggbgfdgpkbmhaaMasK
namespace Go.Proofs.Ytggbgfdgpkbmhaa
open Go.RowKit
set_option linter.unusedSimpArgs false
set_option linter.unusedVariables false

theorem sl_lt {w : World} {A : Option Addr} {n c : Nat} {xs : List Int} (h : SlRead (fun x => [Value.int .i64 x]) 1 w A n c xs) (hn : 0 < n) : ∀ ad, A = some ad → ad.block < w.heap.size := by
  intro ad e
  have hl := h.len
  obtain ⟨ad', e', hc⟩ := h.cell 0 _ (List.getElem?_eq_getElem (by omega))
  rw [e] at e'
  cases e'
  have := World.block_lt_of_cell? _ _ (hc 0 _ rfl)
  rwa [block_of_add] at this
theorem pk_none (w : World) : SlRead Pk.cells 4 w none 0 0 [] := ⟨rfl, Nat.le_refl _, by simp [maxLen], fun _ => rfl, by simp⟩

theorem few_one (w : World) (g : Nat) (hg : g = w.heap.size) (ask a b : Int) (A : Option Addr) (n c : Nat) (t : TypeId) : SlRead OpA.cells 4 (w.alloc (.cells #[.int .i64 ask, .int .i64 a, .int .i64 b, .slice A n c] t)) (some ⟨g, 0, none⟩) 1 1 [⟨ask, a, b, A, n, c⟩] := by
  have hb := Blk.new_at (cs := #[.int .i64 ask, .int .i64 a, .int .i64 b, .slice A n c]) (t := t) hg
  refine ⟨rfl, Nat.le_refl _, by simp [maxLen], fun e => (by cases e), fun i o hi => ?_⟩
  obtain ⟨rfl, rfl⟩ : i = 0 ∧ o = ⟨ask, a, b, A, n, c⟩ := by
    cases i with
    | zero => simp at hi; exact ⟨rfl, hi.symm⟩
    | succ i => simp at hi
  refine ⟨_, rfl, fun j u hu => ?_⟩
  rw [Addr.add_lit, hb.cell]
  simpa [OpA.cells] using hu

set_option maxHeartbeats 4000000 in
set_option maxRecDepth 100000 in
theorem mailNil_any (ask a b : Int) (A : Option Addr) (n c : Nat) (xs : List Int) (w : World) (h : SlRead (fun x => [Value.int .i64 x]) 1 w A n c xs) :
    Calls Try.prog 12 #[.agg #[.int .i64 ask, .int .i64 a, .int .i64 b, .slice A n c]] w fun e w' => e = .returned (.bool true) ∧ Below w.heap.size w w' := by
  have hb := (Blk.new w #[.int .i64 ask, .int .i64 a, .int .i64 b, .slice A n c] 62).alloc (.cells #[.int .i64 ask, .int .i64 a, .int .i64 b, .slice A n c] 62)
  have hf := few_one (w.alloc (.cells #[.int .i64 ask, .int .i64 a, .int .i64 b, .slice A n c] 62)) (w.heap.size + 1) (by simp) ask a b A n c 62
  have hch := ((Chg.refl Non w).alloc (.cells #[.int .i64 ask, .int .i64 a, .int .i64 b, .slice A n c] 62)).alloc (.cells #[.int .i64 ask, .int .i64 a, .int .i64 b, .slice A n c] 62)
  have hlt := fun hn => sl_lt h hn
  obtain ⟨⟨b0, b1, b2, b3⟩, _⟩ := hb.four
  have HX := Lib.hid h
  clear h
  by_cases h20 : n ≤ 20
  · have hfew : fewB [⟨ask, a, b, A, n, c⟩] = true := by simp [fewB, h20]
    go_enter Try.func12, Try.ntmps12
    go_wp2_with fail
    refine (few14_any _ _ _ _ _ hf).mono ?_
    rw [hfew]
    rintro e w2 ⟨rfl, rfl⟩
    go_wp2_with fail
    refine (maiSendI_nil a b A n c _).mono ?_
    rintro e w2 ⟨rfl, rfl⟩
    go_wp2_with fail
    refine (maiTakeI_nil a _).mono ?_
    rintro e w2 ⟨rfl, hc2⟩
    have hbA := (hb.chg hc2 id).alloc (.cells #[.int .i64 0, .int .i64 0, .int .i64 0, .int .i64 0] 67)
    have hpA := Blk.new w2 #[.int .i64 0, .int .i64 0, .int .i64 0, .int .i64 0] 67
    have hcA := (hch.trans hc2 (fun _ x => x.elim)).alloc (.cells #[.int .i64 0, .int .i64 0, .int .i64 0, .int .i64 0] 67)
    obtain ⟨⟨d0, d1, d2, d3⟩, _⟩ := hbA.four
    unfold Pk.val Pk.zero
    go_wp2_with fail
    refine (maiPickI_nil a b _).mono ?_
    rintro e w3 ⟨rfl, hc3⟩
    have hbB := (hbA.chg hc3 id).alloc (.cells #[.int .i64 0, .int .i64 0, .int .i64 0, .int .i64 0] 67)
    have hpB := (hpA.chg hc3 id).alloc (.cells #[.int .i64 0, .int .i64 0, .int .i64 0, .int .i64 0] 67)
    have hqB := Blk.new w3 #[.int .i64 0, .int .i64 0, .int .i64 0, .int .i64 0] 67
    have hcB := (hcA.trans hc3 (fun _ x => x.elim)).alloc (.cells #[.int .i64 0, .int .i64 0, .int .i64 0, .int .i64 0] 67)
    unfold Pk.val Pk.zero
    go_wp2_with fail
    refine (maiLeastI_nil _).mono ?_
    rintro e w4 ⟨rfl, hc4⟩
    go_wp2_with fail
    refine (maiNewI_ok 1 (by decide) (by decide) _).mono ?_
    rintro e w5 ⟨rfl, hN5, hc5⟩
    have hbC := (hbB.chg hc4 id).chg hc5 id
    have hpC := (hpB.chg hc4 id).chg hc5 id
    have hqC := (hqB.chg hc4 id).chg hc5 id
    have hcC := (hcB.trans hc4 (fun _ x => x.elim)).trans hc5 (fun _ x => x.elim)
    obtain ⟨⟨e0, e1, e2, e3⟩, _⟩ := hbC.four
    have z4 := (hcB.trans hc4 (fun _ x => x.elim)).size
    have z2 := hc2.size
    have z3 := hc3.size
    have zB := hc4.size
    simp at z2 z3 zB
    have zq : w3.heap.size < w4.heap.size := by omega
    go_wp2_with fail
    refine (maiSendI_ok 0 0 A n c xs _ _ 1 0 none 0 [] hN5 rfl rfl (HX.out.non hcC) (fun hn ad e => by have := hlt hn ad e; omega) (fun _ ad ad' _ e => by cases e) (by omega) (by simp) (by decide)).mono ?_
    rintro e w6 ⟨rfl, A6, c6, hN6, hc6, hf6⟩
    have nb : ∀ k, netBlk w4.heap.size none k → k = w4.heap.size := fun k hk => by
      rcases hk with rfl | ⟨_, e, _⟩
      · rfl
      · cases e
    go_wp2_with fail
    refine (maiLeastI_nof _ _).mono ?_
    rintro e w7 ⟨rfl, hc7⟩
    have hpD := (hpC.chg hc6 (fun hk => by have := nb _ hk; omega)).chg hc7 id
    have hqD := (hqC.chg hc6 (fun hk => by have := nb _ hk; omega)).chg hc7 id
    have hcD := (hcC.trans hc6 (fun i hk => .inr (by have := nb _ hk; omega))).trans hc7 (fun _ x => x.elim)
    obtain ⟨⟨p0, p1, p2, p3⟩, _⟩ := hpD.four
    obtain ⟨⟨q0, q1, q2, q3⟩, _⟩ := hqD.four
    have hpe : ∀ w, (binOp .eql 67 (.agg #[.int .i64 0, .int .i64 0, .int .i64 0, .int .i64 0]) (.agg #[.int .i64 0, .int .i64 0, .int .i64 0, .int .i64 0])).run Try.prog w = .ok (.bool true) w := fun w => by kernel_rfl
    go_wp2_with fail
    simp only [List.append_eq, List.cons_append, List.nil_append]
    go_wp2_with fail
    refine (maiAllI_nil _).mono ?_
    rintro e w8 ⟨bl, q, r, A8, c8, rfl, hI8, hc8, _⟩
    go_wp2_with fail
    refine (packetsA_any _ bl q r 0 A8 c8 [] hI8 (by simp) none 0 0 [] (pk_none _) rfl).mono ?_
    rintro e w9 ⟨rfl, hc9⟩
    have hbE := ((((hbC.chg hc6 (fun hk => by have := nb _ hk; omega)).chg hc7 id).chg hc8 id).chg hc9 id)
    obtain ⟨⟨g0, g1, g2, g3⟩, _⟩ := hbE.four
    go_wp2_with fail
    refine (maiToI_nil a _).mono ?_
    rintro e w10 ⟨bl2, q2, r2, A10, c10, rfl, hI10, hc10, _⟩
    go_wp2_with fail
    refine (packetsT_any _ bl2 q2 r2 a A10 c10 [] hI10 (by simp) none 0 0 [] (pk_none _) rfl).mono ?_
    rintro e w11 ⟨rfl, hc11⟩
    go_wp2_with fail
    refine (maiLenI_nil _).mono ?_
    rintro e w12 ⟨rfl, rfl⟩
    go_wp2_with fail
    refine (maiCopyI_nil _).mono ?_
    rintro e w12 ⟨rfl, rfl⟩
    go_wp2_with fail
    refine (S.awake14_any _).mono ?_
    rintro e w12 ⟨rfl, hb12⟩
    go_wp2
    go_ret
    exact ⟨rfl, (((((hcD.trans hc8 (fun _ x => x.elim)).trans hc9 (fun _ x => x.elim)).trans hc10 (fun _ x => x.elim)).trans hc11 (fun _ x => x.elim)).then_below hb12).non_below⟩
  · have hfew : fewB [⟨ask, a, b, A, n, c⟩] = false := by simp [fewB]; omega
    go_enter Try.func12, Try.ntmps12
    go_wp2_with fail
    refine (few14_any _ _ _ _ _ hf).mono ?_
    rw [hfew]
    rintro e w2 ⟨rfl, rfl⟩
    go_wp2_with fail
    refine (S.awake14_any _).mono ?_
    rintro e w5 ⟨rfl, hb5⟩
    go_wp2
    go_ret
    exact ⟨rfl, (hch.then_below hb5).non_below⟩
end Go.Proofs.Ytggbgfdgpkbmhaa
