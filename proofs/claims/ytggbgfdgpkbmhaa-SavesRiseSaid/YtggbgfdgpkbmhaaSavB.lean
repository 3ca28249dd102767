/- saves: the iterator All (whole numbers), and Times. -/
import Derived.RangeFuncNested
import Derived.RangeFuncBound
import Derived.RangeFuncCalls
import Derived.RangeFuncLeaves
import Derived.RangeFuncBox
import Derived.Shelf.Abstract
import Derived.Shelf.RegionOpen
import Derived.OwnWalkIn
import Derived.TacticsInMore
import Derived.LoopNIn
import Derived.LoopIn
import Derived.Test.YtggbgfdgpkbmhaaSavI
import Derived.Test.YtggbgfdgpkbmhaaBaseIn
namespace Go.Proofs.Ytggbgfdgpkbmhaa
open Go.RowKit Go.Shelf
set_option linter.unusedSimpArgs false
set_option linter.unusedVariables false
attribute [local go_sem] Oper.semAt_some

/-- What an iterator over saves has captured: a variable that holds their list. -/
structure ItI (w : World) (bl : Nat) (A : Option Addr) (c : Nat) (l : List SvI) : Prop where
  blk : Blk w bl #[.slice A l.length c] 90
  read : SlRead SvI.cells 2 w A l.length c l
  ne : ∀ ad, A = some ad → ad.block ≠ bl
  lt : ∀ ad, A = some ad → ad.block < w.heap.size

/-- What a round keeps: the blocks that the iterator reads. -/
def KpI (bl : Nat) (A : Option Addr) (W W' : World) : Prop := W'.heap[bl]? = W.heap[bl]? ∧ ∀ ad, A = some ad → W'.heap[ad.block]? = W.heap[ad.block]?
theorem heap_lt {w w' : World} {k : Nat} (h : w'.heap[k]? = w.heap[k]?) (hl : k < w.heap.size) : k < w'.heap.size := by
  rw [Array.getElem?_eq_getElem hl] at h
  exact (Array.getElem?_eq_some_iff.1 h).1
theorem KpI.trans {bl : Nat} {A : Option Addr} {a b c : World} (h : KpI bl A a b) (k : KpI bl A b c) : KpI bl A a c := ⟨k.1.trans h.1, fun ad e => (k.2 ad e).trans (h.2 ad e)⟩
theorem ItI.keep {w w' : World} {bl : Nat} {A : Option Addr} {c : Nat} {l : List SvI} (h : ItI w bl A c l) (hk : KpI bl A w w') : ItI w' bl A c l :=
  ⟨h.blk.keep hk.1, h.read.keep (fun ad e p hp u hu => by rw [World.cell?_of_block (w := w) (by rw [hp]; exact hk.2 ad e)]; exact hu), h.ne, fun ad e => heap_lt (hk.2 ad e) (h.lt ad e)⟩
theorem ItI.below {w w' : World} {bl : Nat} {A : Option Addr} {c : Nat} {l : List SvI} (h : ItI w bl A c l) (hb : Below w.heap.size w w') : ItI w' bl A c l :=
  ⟨h.blk.below hb, h.read.below hb, h.ne, fun ad e => Nat.lt_of_lt_of_le (h.lt ad e) hb.size⟩
theorem ItI.at_ {w : World} {bl : Nat} {A : Option Addr} {c : Nat} {l : List SvI} (h : ItI w bl A c l) {k : Nat} {s : SvI} (hs : l[k]? = some s) : ∃ ad, A = some ad ∧ w.cell? (ad.add (k * 2)) = some (.int .i64 s.at_) ∧ w.cell? ⟨(ad.add (k * 2)).block, (ad.add (k * 2)).off + 1, none⟩ = some (.int .i64 s.x) := by
  obtain ⟨ad, e, hc⟩ := h.read.cell k s hs
  refine ⟨ad, e, by simpa using hc 0 (.int .i64 s.at_) rfl, ?_⟩
  rw [← add_field _ _ 1 (by omega)]
  exact hc 1 (.int .i64 s.x) rfl

theorem abides_alloc {β : Type} {B : Nat} {J : β → World → Prop} (h : AbidesFrom B J) {s : β} {W : World} (hs : J s W) (o : Obj) : J s (W.alloc o) := h s W _ none hs (World.grownBy_alloc W o none) (fun r e => by cases e)

set_option maxRecDepth 100000 in
set_option maxHeartbeats 1000000 in
theorem allI_stops (F : Fence) (n : Nat) (hF : F.fn 54) (hro : F.round = none) (hn : 1 ≤ n) (bl : Nat) (A : Option Addr) (c : Nat) (l : List SvI) (w0 : World) (h : ItI w0 bl A c l) (hlen : l.length ≤ 1000000) :
    SeqStopsK F n Try.prog 54 #[.pointer (some ⟨bl, 0, none⟩)] (fun s : SvI => #[.int .i64 s.at_, .int .i64 s.x]) (KpI bl A) (· = l) (· <+: l) l.length w0 := by
  intro lp J Jx W hW hJ hJx hY h0
  have hI := h.below hW
  have hsz := hI.blk.lt
  refine callsIn_of_wp Try.func54 rfl hF ?_ hro
  simp only [Try.ntmps54, List.size_toArray, List.length_cons, List.length_nil, Nat.reduceAdd, Nat.reduceSub, Array.replicate_succ, Array.replicate_zero, List.push_toArray, List.append_toArray, List.nil_append, List.cons_append]
  have hb0 := hI.blk.cell 0
  gi_wp2
  gi_loopw [7] (fun i wr => ∃ k : Nat, k ≤ l.length ∧ i = .int .i64 k ∧ J (l.take k) wr ∧ ItI wr bl A c l) (fun i _ => l.length - (intOf i).toNat)
  case atStart => exact ⟨0, by omega, rfl, by simpa using h0, hI⟩
  case round =>
    obtain ⟨k, hk, rfl, hJk, hIk⟩ := hrel
    by_cases hlt : k < l.length
    · have hs : l[k]? = some l[k] := List.getElem?_eq_getElem hlt
      have hts : l.take (k + 1) = l.take k ++ [l[k]] := by rw [List.take_add_one, hs]; rfl
      generalize l[k] = s at hs hts
      obtain ⟨ad, e, a0, a1⟩ := hIk.at_ hs
      have HT := Lib.hid hts
      have HS := Lib.hid hs
      have HJ := Lib.hid (abides_alloc hJ hJk (.cells #[.int .i64 s.at_, .int .i64 s.x] 89))
      obtain ⟨fn, tmps, assign, body, hy, hR⟩ := hY (l.take k) s (wr.alloc (.cells #[.int .i64 s.at_, .int .i64 s.x] 89)) HJ.out (by simp; omega)
      try dsimp only at hy
      clear hts hs hJk
      subst e
      have hI2 : ItI (wr.alloc (.cells #[.int .i64 s.at_, .int .i64 s.x] 89)) bl (some ad) c l := hIk.below ((Below.refl _ _).alloc (Nat.le_refl _) _)
      gi_wp2
      refine hR.mono ?_
      rintro e W3 (⟨rfl, hJ3, hk3⟩ | ⟨rfl, hJx3⟩)
      · have hI3 := hI2.keep hk3
        clear hI2
        gi_wp2
        go_roundw
        case rel => exact ⟨k + 1, by omega, by go_num, by rw [HT.out]; exact hJ3, hI3⟩
        case measure => simp [intOf]; omega
      · gi_wp2
        refine bodyPost_ret (results_none rfl _ _ _) rfl ?_
        exact ⟨⟨_, rfl⟩, .inr ⟨_, ⟨l.drop (k + 1), by rw [← HT.out, List.take_append_drop]⟩, hJx3⟩⟩
    · obtain rfl : k = l.length := by omega
      gi_wp2
      go_end0
      exact ⟨⟨_, rfl⟩, .inl ⟨l, rfl, by rw [List.take_length] at hJk; exact hJk⟩⟩

def allPostI (A0 : Nat) (l : List SvI) (w : World) (e : Ending) (w' : World) : Prop := ∃ bl A c, e = .returned (.func (.func A0) #[] #[.pointer (some ⟨bl, 0, none⟩)]) ∧ ItI w' bl A c l ∧ Chg Non w w' ∧ w.heap.size ≤ bl ∧ ∀ ad, A = some ad → w.heap.size ≤ ad.block
theorem savAllI_any (w : World) (b g cap : Nat) (l : List SvI) (h : RowIAt w b g cap l) (hn : l.length ≤ 1000000) :
    Calls Try.prog 21 #[.pointer (some ⟨b, 0, none⟩)] w (allPostI 54 l w) := by
  have hb := h.blk.cell 0
  have hbl := h.ltb
  have h' : RowIAt (w.alloc (.cells #[.slice none 0 0] 90)) b g cap l := h.keep (Below.heap_alloc _ _ _ h.ltb) (Below.heap_alloc _ _ _ h.ltg)
  have hv := (Blk.new w #[.slice none 0 0] 90)
  go_enter Try.func21, Try.ntmps21
  go_wp2_with fail
  refine (cloneI_any l _ _ _ _ h'.read h.pos hn).mono ?_
  rintro e w1 ⟨g', cap', rfl, hown, hch, hg⟩
  have hv1 := hv.chg hch id
  have hc1 := hv1.cell 0
  have hf1 := hv1.frozen 0
  simp at hg
  go_wp2
  go_ret
  refine ⟨w.heap.size, some ⟨g', 0, none⟩, cap', rfl, ⟨hv1.set 0 _, ?_, fun ad e => by cases e; show g' ≠ w.heap.size; omega, fun ad e => by cases e; simpa [World.setCell] using own_block_lt hown⟩, ?_, Nat.le_refl _, fun ad e => by cases e; show w.heap.size ≤ g'; omega⟩
  · have hr := own_read (f := SvI.cells) SvI.len hown (by decide)
    exact hr.keep (fun ad e p hp u hu => by cases e; rw [World.cell?_setCell_other _ _ _ _ (by intro e; rw [← e] at hp; simp at hp; omega)]; exact hu)
  · exact (((Chg.refl Non w).alloc _).trans hch (fun _ x => x.elim)).setCell (.inr (Nat.le_refl _)) _

theorem savAllI_nil (w : World) : Calls Try.prog 21 #[.pointer none] w (allPostI 54 [] w) := by
  go_enter Try.func21, Try.ntmps21
  go_wp2
  go_ret
  exact ⟨w.heap.size, none, 0, rfl, ⟨Blk.new_at rfl, ⟨rfl, Nat.le_refl _, by simp [maxLen], fun _ => rfl, by simp⟩, (fun ad e => by cases e), (fun ad e => by cases e)⟩, (Chg.refl Non w).alloc _, Nat.le_refl _, fun ad e => by cases e⟩

end Go.Proofs.Ytggbgfdgpkbmhaa
