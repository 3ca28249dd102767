/- mail: the iterator of packets (T). -/
import Derived.RangeFuncNested
import Derived.RangeFuncBound
import Derived.RangeFuncCalls
import Derived.RangeFuncLeaves
import Derived.RangeFuncBox
import Derived.Shelf.Abstract
import Derived.Shelf.RegionOpen
import Derived.OwnWalkIn
import Derived.TacticsInMore
import Derived.LoopNIn
import Derived.LoopIn
import Derived.Test.YtggbgfdgpkbmhaaMaiG
import Derived.Test.YtggbgfdgpkbmhaaBaseIn
namespace Go.Proofs.Ytggbgfdgpkbmhaa
open Go.RowKit Go.Shelf
set_option linter.unusedSimpArgs false
set_option linter.unusedVariables false
attribute [local go_sem] Oper.semAt_some

/-- The packets that are given. -/
def givT (to : Int) (p : Pk) : Bool := p.dst == to
/-- The blocks that the iterator reads. -/
def sBlkT (bl q r : Nat) (A : Option Addr) : Nat → Prop := fun k => k = bl ∨ k = q ∨ k = r ∨ ∃ ad, A = some ad ∧ k = ad.block
/-- The predicate, as a value. -/
def pvT (r : Nat) : Value := .func (.func 65) #[] #[.pointer (some ⟨r, 0, none⟩)]
/-- What the iterator has captured: a variable that holds the list, and one that holds the predicate. -/
structure ItT (w : World) (bl q r : Nat) (to : Int) (A : Option Addr) (c : Nat) (l : List Pk) : Prop where
  blk : Blk w bl #[.slice A l.length c] 98
  pb : Blk w q #[pvT r] 117
  pr : Blk w r #[.int .i64 to] 3
  read : SlRead Pk.cells 4 w A l.length c l
  lt : ∀ k, sBlkT bl q r A k → k < w.heap.size
def KpT (bl q r : Nat) (A : Option Addr) (W W' : World) : Prop := ∀ k, sBlkT bl q r A k → W'.heap[k]? = W.heap[k]?
theorem KpT.trans {bl q r : Nat} {A : Option Addr} {a b c : World} (h : KpT bl q r A a b) (k : KpT bl q r A b c) : KpT bl q r A a c := fun i hi => (k i hi).trans (h i hi)
theorem ItT.keep {w w' : World} {bl q r : Nat} {to : Int} {A : Option Addr} {c : Nat} {l : List Pk} (h : ItT w bl q r to A c l) (hk : KpT bl q r A w w') : ItT w' bl q r to A c l :=
  ⟨h.blk.keep (hk bl (by simp [sBlkT])), h.pb.keep (hk q (by simp [sBlkT])), h.pr.keep (hk r (by simp [sBlkT])), h.read.keep (fun ad e p hp u hu => by rw [World.cell?_of_block (w := w) (by rw [hp]; exact hk ad.block (by simp [sBlkT, e]))]; exact hu), fun k hk' => heap_lt2 (hk k hk') (h.lt k hk')⟩
theorem ItT.below {w w' : World} {bl q r : Nat} {to : Int} {A : Option Addr} {c : Nat} {l : List Pk} (h : ItT w bl q r to A c l) (hb : Below w.heap.size w w') : ItT w' bl q r to A c l := h.keep fun k hk => hb.block k (h.lt k hk)
theorem ItT.non {w w' : World} {bl q r : Nat} {to : Int} {A : Option Addr} {c : Nat} {l : List Pk} (h : ItT w bl q r to A c l) (hb : Chg Non w w') : ItT w' bl q r to A c l := h.below hb.non_below

/-- The predicate. -/
theorem predT_any (r : Nat) (to : Int) (p : Pk) (w : World) (h : Blk w r #[.int .i64 to] 3) :
    Calls Try.prog 65 (#[.agg #[.int .i64 p.no, .int .i64 p.src, .int .i64 p.dst, .int .i64 p.x]] ++ #[.pointer (some ⟨r, 0, none⟩)]) w fun e w' => e = .returned (.bool (givT to p)) ∧ Chg Non w w' := by
  have hb : Blk (w.alloc (.cells #[.int .i64 p.no, .int .i64 p.src, .int .i64 p.dst, .int .i64 p.x] 67)) w.heap.size #[.int .i64 p.no, .int .i64 p.src, .int .i64 p.dst, .int .i64 p.x] 67 := Blk.new_at rfl
  obtain ⟨⟨c0, c1, c2, c3⟩, _⟩ := hb.four
  have d0 := (h.alloc (.cells #[.int .i64 p.no, .int .i64 p.src, .int .i64 p.dst, .int .i64 p.x] 67)).one'
  go_enter Try.func65, Try.ntmps65
  go_wp2
  go_ret
  exact ⟨rfl, (Chg.refl Non w).alloc _⟩

set_option maxRecDepth 100000 in
set_option maxHeartbeats 1000000 in
theorem someT_stops (n : Nat) (hn : 1 ≤ n) (bl q r : Nat) (to : Int) (A : Option Addr) (c : Nat) (l : List Pk) (w0 : World) (h : ItT w0 bl q r to A c l) (hlen : l.length ≤ 1000000) :
    SeqStopsK Fence.wide n Try.prog 83 #[.pointer (some ⟨bl, 0, none⟩), .pointer (some ⟨q, 0, none⟩)] (fun p : Pk => #[.agg #[.int .i64 p.no, .int .i64 p.src, .int .i64 p.dst, .int .i64 p.x]]) (KpT bl q r A) (· = l.filter (givT to)) (· <+: l.filter (givT to)) (l.filter (givT to)).length w0 := by
  intro lp J Jx W hW hJ hJx hY h0
  have hI := h.below hW
  have hsz := hI.blk.lt
  refine callsIn_of_wp Try.func83 rfl trivial ?_ rfl
  simp only [Try.ntmps83, List.size_toArray, List.length_cons, List.length_nil, Nat.reduceAdd, Nat.reduceSub, Array.replicate_succ, Array.replicate_zero, List.push_toArray, List.append_toArray, List.nil_append, List.cons_append]
  have hb0 := hI.blk.one'
  gi_wp2
  gi_loopw [8] (fun i wr => ∃ k : Nat, k ≤ l.length ∧ i = .int .i64 k ∧ J ((l.take k).filter (givT to)) wr ∧ ItT wr bl q r to A c l) (fun i _ => l.length - (intOf i).toNat)
  case atStart => exact ⟨0, by omega, rfl, by simpa using h0, hI⟩
  case round =>
    obtain ⟨k, hk, rfl, hJk, hIk⟩ := hrel
    by_cases hlt : k < l.length
    · have hs : l[k]? = some l[k] := List.getElem?_eq_getElem hlt
      have hts : l.take (k + 1) = l.take k ++ [l[k]] := by rw [List.take_add_one, hs]; rfl
      generalize l[k] = s at hs hts
      have hIk2 := hIk.below ((Below.refl _ _).alloc (Nat.le_refl _) (.cells #[.int .i64 s.no, .int .i64 s.src, .int .i64 s.dst, .int .i64 s.x] 67))
      have hJk2 := abides_alloc2 hJ hJk (.cells #[.int .i64 s.no, .int .i64 s.src, .int .i64 s.dst, .int .i64 s.x] 67)
      obtain ⟨ad, e, a0, a1, a2, a3⟩ := pk_at hIk.read hs
      have q0 := hIk2.pb.one'
      unfold pvT at q0
      have HT := Lib.hid hts
      have HI := Lib.hid hIk2
      have HJ := Lib.hid hJk2
      have HA := Lib.hid hIk.lt
      clear hts hs hJk hJk2 hIk hIk2
      subst e
      cases hg : givT to s
      · gi_wp2
        refine ⟨trivial, ((callsIn_wide (n := n - 1)).2 (predT_any r to s _ HI.out.pr)).mono ?_⟩
        rintro e w2 ⟨rfl, hc2⟩
        rw [hg]
        gi_wp2
        refine ⟨fun f h => (by cases h), ?_⟩
        go_at_K
        gi_wp2
        go_roundw
        case rel => exact ⟨k + 1, by omega, by go_num, by rw [HT.out, List.filter_append, List.filter_cons_of_neg (by simp [hg]), List.filter_nil, List.append_nil]; exact abides_non hJ HJ.out hc2, HI.out.non hc2⟩
        case measure => simp [intOf]; omega
      · gi_wp2
        refine ⟨trivial, ((callsIn_wide (n := n - 1)).2 (predT_any r to s _ HI.out.pr)).mono ?_⟩
        rintro e w2 ⟨rfl, hc2⟩
        rw [hg]
        have hv2 := (Blk.new_at (w := wr) (cs := #[.int .i64 s.no, .int .i64 s.src, .int .i64 s.dst, .int .i64 s.x]) (t := 67) rfl).chg hc2 id
        obtain ⟨⟨e0, e1, e2, e3⟩, _⟩ := hv2.four
        have hI2 := HI.out.non hc2
        have hpre : ((l.take k).filter (givT to)).length < (l.filter (givT to)).length := by
          have h1 := congrArg (List.filter (givT to)) (List.take_append_drop (k + 1) l)
          rw [HT.out, List.filter_append, List.filter_append, List.filter_cons_of_pos hg] at h1
          rw [← h1]
          simp
        obtain ⟨fn, tmps, assign, body, hy, hR⟩ := hY _ s w2 (abides_non hJ HJ.out hc2) hpre
        try dsimp only at hy
        clear hpre
        gi_wp2
        refine hR.mono ?_
        rintro e W3 (⟨rfl, hJ3, hk3⟩ | ⟨rfl, hJx3⟩)
        · have hI3 := hI2.keep hk3
          clear hI2
          gi_wp2
          go_roundw
          case rel => exact ⟨k + 1, by omega, by go_num, by rw [HT.out, List.filter_append, List.filter_cons_of_pos hg]; exact hJ3, hI3⟩
          case measure => simp [intOf]; omega
        · gi_wp2
          refine bodyPost_ret (results_none rfl _ _ _) rfl ?_
          refine ⟨⟨_, rfl⟩, .inr ⟨_, ⟨(l.drop (k + 1)).filter (givT to), ?_⟩, hJx3⟩⟩
          have h1 := congrArg (List.filter (givT to)) (List.take_append_drop (k + 1) l)
          rw [HT.out, List.filter_append, List.filter_append, List.filter_cons_of_pos hg] at h1
          exact h1
    · obtain rfl : k = l.length := by omega
      gi_wp2
      go_end0
      exact ⟨⟨_, rfl⟩, .inl ⟨_, rfl, by rw [List.take_length] at hJk; exact hJk⟩⟩

def itPostT (to : Int) (l : List Pk) (w : World) (e : Ending) (w' : World) : Prop := ∃ bl q r A c, e = .returned (.func (.func 83) #[] #[.pointer (some ⟨bl, 0, none⟩), .pointer (some ⟨q, 0, none⟩)]) ∧ ItT w' bl q r to A c l ∧ Chg Non w w' ∧ ∀ k, sBlkT bl q r A k → w.heap.size ≤ k
def somePostT (r : Nat) (to : Int) (l : List Pk) (w : World) (e : Ending) (w' : World) : Prop := ∃ bl q A c, e = .returned (.func (.func 83) #[] #[.pointer (some ⟨bl, 0, none⟩), .pointer (some ⟨q, 0, none⟩)]) ∧ ItT w' bl q r to A c l ∧ Chg Non w w' ∧ w.heap.size ≤ bl ∧ w.heap.size ≤ q ∧ ∀ ad, A = some ad → w.heap.size ≤ ad.block

theorem someT_nil (r : Nat) (to : Int) (w : World) (hr : Blk w r #[.int .i64 to] 3) (hrl : r < w.heap.size) : Calls Try.prog 64 #[.pointer none, pvT r] w (somePostT r to [] w) := by
  have hq := (Blk.new w #[pvT r] 117).alloc (.cells #[.slice none 0 0] 98)
  have hbl := Blk.new_at (w := w.alloc (.cells #[pvT r] 117)) (cs := #[.slice none 0 0]) (t := 98) (g := w.heap.size + 1) (by simp)
  have HR := Lib.hid hr
  go_enter Try.func64, Try.ntmps64
  go_wp2
  go_ret
  refine ⟨w.heap.size + 1, w.heap.size, none, 0, rfl, ⟨hbl, hq, HR.out.alloc _ |>.alloc _, ⟨rfl, Nat.le_refl _, by simp [maxLen], fun _ => rfl, by simp⟩, fun k hk => ?_⟩, ((Chg.refl Non w).alloc _).alloc _, by omega, by omega, fun ad e => by cases e⟩
  simp [sBlkT] at hk
  simp
  omega

set_option maxHeartbeats 1000000 in
set_option maxRecDepth 100000 in
theorem someT_any (r : Nat) (to : Int) (w : World) (b : Nat) (boxes next : Int) (A : Option Addr) (cap : Nat) (l : List Pk) (h : NetAt w b boxes next A cap l) (hn : l.length ≤ 1000000) (hr : Blk w r #[.int .i64 to] 3) (hrl : r < w.heap.size) : Calls Try.prog 64 #[.pointer (some ⟨b, 0, none⟩), pvT r] w (somePostT r to l w) := by
  have hq := (Blk.new w #[pvT r] 117).alloc (.cells #[.slice none 0 0] 98)
  have hbl := Blk.new_at (w := w.alloc (.cells #[pvT r] 117)) (cs := #[.slice none 0 0]) (t := 98) (g := w.heap.size + 1) (by simp)
  have h1 := h.non (((Chg.refl Non w).alloc (.cells #[pvT r] 117)).alloc (.cells #[.slice none 0 0] 98))
  have HR := Lib.hid hr
  obtain ⟨⟨_, _, c2⟩, _⟩ := h1.blk.three
  have hlt := h.lt
  obtain ⟨⟨_, _, c20⟩, _⟩ := h.blk.three
  have H1 := Lib.hid h1
  clear h1
  go_enter Try.func64, Try.ntmps64
  go_wp2_with fail
  refine (cloneNet H1.out hn).mono ?_
  rintro e w2 ⟨A2, cap2, rfl, ho2, hc2, hA2⟩
  have hb2 := hbl.chg hc2 id
  have b0 := hb2.one'
  have f0 := hb2.frozen 0
  go_wp2
  go_ret
  have hs2 := hc2.size
  simp at hs2 hA2
  have ho3 := own_far_opt ho2 (p := ⟨w.heap.size + 1, 0, none⟩) (fun ad e => by have := hA2 ad e; show ad.block ≠ w.heap.size + 1; omega) (.slice A2 l.length cap2)
  refine ⟨w.heap.size + 1, w.heap.size, A2, cap2, rfl, ⟨by simpa using hb2.set 0 (.slice A2 l.length cap2), (hq.chg hc2 id).far (by show w.heap.size ≠ w.heap.size + 1; omega) _, ((HR.out.alloc _).alloc _ |>.chg hc2 id).far (by show r ≠ w.heap.size + 1; omega) _, own_read_opt ho3, fun k hk => ?_⟩, ((((Chg.refl Non w).alloc _).alloc _).trans hc2 (fun _ x => x.elim)).setCell (.inr (by simp)) _, by omega, by omega, fun ad e => by have := hA2 ad e; omega⟩
  have e : (w2.setCell ⟨w.heap.size + 1, 0, none⟩ (.slice A2 l.length cap2)).heap.size = w2.heap.size := by simp [World.setCell]
  rw [e]
  rcases hk with rfl | rfl | hk
  · omega
  · omega
  rcases hk with rfl | ⟨ad, e, rfl⟩
  · omega
  · exact own_lt ho2 ad e
theorem maiToI_nil (to : Int) (w : World) : Calls Try.prog 32 #[.pointer none, .int .i64 to] w (itPostT to [] w) := by
  have hr := Blk.new w #[.int .i64 to] 3
  go_enter Try.func32, Try.ntmps32
  go_wp2_with fail
  refine (someT_nil w.heap.size to _ hr (by simp)).mono ?_
  rintro e w2 ⟨bl, q, A, c, rfl, hI, hc, h1, h2, h3⟩
  simp at h1 h2 h3
  go_wp2
  go_ret
  refine ⟨bl, q, w.heap.size, A, c, rfl, hI, ((Chg.refl Non w).alloc _).trans hc (fun _ x => x.elim), fun k hk => ?_⟩
  rcases hk with rfl | rfl | rfl | ⟨ad, e, rfl⟩
  · omega
  · omega
  · exact Nat.le_refl _
  · have := h3 ad e; omega
theorem maiToI_any (to : Int) (w : World) (b : Nat) (boxes next : Int) (A : Option Addr) (cap : Nat) (l : List Pk) (h : NetAt w b boxes next A cap l) (hn : l.length ≤ 1000000) : Calls Try.prog 32 #[.pointer (some ⟨b, 0, none⟩), .int .i64 to] w (itPostT to l w) := by
  have hr := Blk.new w #[.int .i64 to] 3
  have h' := h.non ((Chg.refl Non w).alloc (.cells #[.int .i64 to] 3))
  go_enter Try.func32, Try.ntmps32
  go_wp2_with fail
  refine (someT_any w.heap.size to _ b boxes next A cap l h' hn hr (by simp)).mono ?_
  rintro e w2 ⟨bl, q, A, c, rfl, hI, hc, h1, h2, h3⟩
  simp at h1 h2 h3
  go_wp2
  go_ret
  refine ⟨bl, q, w.heap.size, A, c, rfl, hI, ((Chg.refl Non w).alloc _).trans hc (fun _ x => x.elim), fun k hk => ?_⟩
  rcases hk with rfl | rfl | rfl | ⟨ad, e, rfl⟩
  · omega
  · omega
  · exact Nat.le_refl _
  · have := h3 ad e; omega

end Go.Proofs.Ytggbgfdgpkbmhaa
