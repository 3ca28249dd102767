/- mail: the chapter's example. -/
import Derived.Test.YtggbgfdgpkbmhaaMasJ
namespace Go.Proofs.Ytggbgfdgpkbmhaa.S
open Go.RowKit
set_option linter.unusedSimpArgs false
set_option linter.unusedVariables false

theorem blk_read {α : Type} {f : α → Value} {w : World} {g n : Nat} {cs : Array Value} {t : TypeId} (h : Blk w g cs t) (xs : List α) (hcs : cs.toList = xs.map f) (hn : xs.length = n) (hm : n ≤ maxLen) : SlRead (fun x => [f x]) 1 w (some ⟨g, 0, none⟩) n n xs :=
  ⟨hn, Nat.le_refl _, hm, (fun e => by cases e), fun i x hx => ⟨_, rfl, fun j u hu => by
    cases j with
    | zero =>
      simp at hu
      subst hu
      rw [Addr.add_lit, h.cell]
      have := congrArg (fun l => l[i]?) hcs
      simp [hx] at this
      simpa using this
    | succ j => simp at hu⟩⟩

def sA : ByteArray := ⟨#[97]⟩
def sB : ByteArray := ⟨#[98]⟩
def sC : ByteArray := ⟨#[99]⟩
def pA : Pk := ⟨0, 0, 1, sA⟩
def pB : Pk := ⟨1, 0, 1, sB⟩
def pC : Pk := ⟨2, 1, 0, sC⟩
theorem sent1 : ([] : List Pk) ++ sent 0 0 1 [sA, sB] = [pA, pB] := rfl
theorem sent2 : [pA, pB] ++ sent 2 1 0 [sC] = [pA, pB, pC] := rfl
theorem pick1 : pickR 2 1 (-1) [pA, pB, pC] = (pB, 0, [pA, pC]) := rfl
theorem take1 : takeR 1 [pA, pC] = (Pk.zero, 14, [pA, pC]) := rfl
theorem take0 : takeR 0 [pA, pC] = (pA, 0, [pC]) := rfl

set_option maxHeartbeats 2000000 in
set_option maxRecDepth 100000 in
theorem awake14_any (w : World) : Calls Try.prog 30 #[] w fun e w' => e = .returned (.bool true) ∧ Below w.heap.size w w' := by
  go_enter Try.func30, Try.ntmps30
  go_wp2_with fail
  refine (maiNewI_ok 2 (by decide) (by decide) w).mono ?_
  rintro e w1 ⟨rfl, hN, hc⟩
  have hl1 := hc.size
  have hb1 := hN.lt
  have hN' := hN.non ((Chg.refl Non w1).alloc (.cells #[.string sA, .string sB] 9))
  have hS := blk_read (f := Value.string) (Blk.new w1 #[.string sA, .string sB] 9) [sA, sB] rfl rfl (by decide)
  go_wp2_with fail
  refine (maiSendI_ok 0 1 _ 2 2 [sA, sB] _ _ 2 0 none 0 [] hN' rfl rfl hS (fun _ ad e => by cases e; show w1.heap.size ≠ w.heap.size; omega) (fun _ ad ad' _ e => by cases e) (by decide) (by decide) (by decide)).mono ?_
  rintro e w2 ⟨rfl, A2, c2, hN2, hc2, hf2⟩
  have hA2 : ∀ ad, A2 = some ad → w1.heap.size + 1 ≤ ad.block := fun ad e => by
    rcases hf2 ad e with ⟨_, e', _⟩ | h
    · cases e'
    · simpa using h
  rw [sent1] at hN2
  have hl2 := hc2.size
  simp at hl2
  have hAl2 := own_lt hN2.own
  have hN2' := hN2.non ((Chg.refl Non w2).alloc (.cells #[.string sC] 9))
  have hS2 := blk_read (f := Value.string) (Blk.new w2 #[.string sC] 9) [sC] rfl rfl (by decide)
  go_wp2_with fail
  refine (maiSendI_ok 1 0 _ 1 1 [sC] _ _ 2 _ A2 c2 _ hN2' rfl rfl hS2 (fun _ ad e => by cases e; show w2.heap.size ≠ w.heap.size; omega) (fun _ ad ad' e1 e => by cases e1; have := hAl2 ad' e; show w2.heap.size ≠ ad'.block; omega) (by decide) (by decide) (by decide)).mono ?_
  rintro e w3 ⟨rfl, A3, c3, hN3, hc3, hf3⟩
  have hA3 : ∀ ad, A3 = some ad → w.heap.size < ad.block := fun ad e => by
    rcases hf3 ad e with ⟨ad', e', h⟩ | h
    · have := hA2 ad' e'; omega
    · simp at h; omega
  replace hN3 : NetAt w3 w.heap.size 2 (0 + (2 : Nat) + (1 : Nat)) A3 c3 [pA, pB, pC] := hN3
  have hl3 := hc3.size
  simp at hl3
  go_wp2_with fail
  refine (pick1 ▸ maiPickI_any 1 (-1) w3 _ 2 _ A3 c3 _ hN3 (by decide)).mono ?_
  rintro e w4 ⟨rfl, hN4, hc4⟩
  have hl4 := hc4.size
  have hAl4 := own_lt hN4.own
  have hN4' := hN4.non ((Chg.refl Non w4).alloc (.cells #[.int .i64 1, .int .i64 0, .int .i64 1, .string sB] 106))
  unfold Pk.val pB
  go_wp2_with fail
  refine (take1 ▸ maiTakeI_any 1 _ _ 2 _ A3 c3 _ hN4' (by decide)).mono ?_
  rintro e w5 ⟨rfl, hN5, hc5⟩
  have hl5 := hc5.size
  simp at hl5
  have hB5 := (Blk.new w4 #[.int .i64 1, .int .i64 0, .int .i64 1, .string sB] 106).chg hc5 (by
    rintro (e | ⟨ad, e, e'⟩)
    · omega
    · have := hAl4 ad e; omega)
  have hN5' := hN5.non ((Chg.refl Non w5).alloc (.cells #[.int .i64 0, .int .i64 0, .int .i64 0, .string ⟨#[]⟩] 106))
  unfold Pk.val Pk.zero
  go_wp2_with fail
  refine (take0 ▸ maiTakeI_any 0 _ _ 2 _ A3 c3 _ hN5' (by decide)).mono ?_
  rintro e w6 ⟨rfl, hN6, hc6⟩
  have hl6 := hc6.size
  simp at hl6
  have hB6 := ((hB5.alloc (.cells #[.int .i64 0, .int .i64 0, .int .i64 0, .string ⟨#[]⟩] 106)).chg hc6 (by
    rintro (e | ⟨ad, e, e'⟩)
    · omega
    · have := hAl4 ad e; omega)).alloc (.cells #[.int .i64 0, .int .i64 0, .int .i64 1, .string sA] 106)
  obtain ⟨⟨_, _, _, b3⟩, _⟩ := hB6.four
  obtain ⟨⟨_, _, _, a3⟩, _⟩ := (Blk.new w6 #[.int .i64 0, .int .i64 0, .int .i64 1, .string sA] 106).four
  have eA : (sA.toList == [97]) = true := by kernel_rfl
  have eB : (sB.toList == [98]) = true := by kernel_rfl
  unfold Pk.val pA
  go_wp2
  go_ret
  refine ⟨rfl, ?_⟩
  have hs : ∀ (A : Option Addr), (∀ ad, A = some ad → w.heap.size < ad.block) → ∀ i, netBlk w.heap.size A i → Non i ∨ w.heap.size ≤ i := fun A hA i hi => by
    rcases hi with e | ⟨ad, e, e'⟩
    · exact .inr (by omega)
    · have := hA ad e; exact .inr (by omega)
  exact (((((((((hc.alloc _).trans hc2 (hs _ (fun _ e => by cases e))).alloc _).trans hc3 (hs _ (fun ad e => by have := hA2 ad e; omega))).trans hc4 (hs _ hA3)).alloc _).trans hc5 (hs _ hA3)).alloc _).trans hc6 (hs _ hA3)).alloc _ |>.non_below
end Go.Proofs.Ytggbgfdgpkbmhaa.S
