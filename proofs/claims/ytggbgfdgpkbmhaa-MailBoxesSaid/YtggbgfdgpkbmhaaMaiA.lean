/- mail: a net in memory; New, Len, box, what a nil net answers. -/
import Derived.Test.YtggbgfdgpkbmhaaBase
import Derived.Test.YtggbgfdgpkbmhaaProg
import Derived.WalkSpells
import Derived.Deep.QuietTactic
import Derived.BigQuiet
import Derived.Test.YtggbgfdgpkbmhaaBaseIn
import Derived.Test.YtggbgfdgpkbmhaaBaseA
import Derived.Test.YtggbgfdgpkbmhaaBaseQ
namespace Go.Proofs.Ytggbgfdgpkbmhaa
open Go.RowKit
set_option linter.unusedSimpArgs false
set_option linter.unusedVariables false

/-- A packet. -/
structure Pk where
  no : Int
  src : Int
  dst : Int
  x : Int
deriving Inhabited, DecidableEq
def Pk.cells (p : Pk) : List Value := [.int .i64 p.no, .int .i64 p.src, .int .i64 p.dst, .int .i64 p.x]
theorem Pk.len (p : Pk) : p.cells.length = 4 := rfl
theorem Pk.one (l : List Pk) : ∀ u ∈ l.flatMap Pk.cells, u.oneCell' = true := by
  intro u hu
  obtain ⟨p, _, hp⟩ := List.mem_flatMap.1 hu
  simp [Pk.cells] at hp
  rcases hp with rfl | rfl | rfl | rfl <;> simp [Value.oneCell']

/-- A net: boxes, the next number, the packets in a row of its own (nil where none was ever sent). -/
structure NetAt (w : World) (b : Nat) (boxes next : Int) (A : Option Addr) (cap : Nat) (l : List Pk) : Prop where
  blk : Blk w b #[.int .i64 boxes, .int .i64 next, .slice A l.length cap] 100
  own : w.ownsRow 0 67 4 (.slice A l.length cap) l.length (l.flatMap Pk.cells)
  ne : ∀ ad, A = some ad → ad.block ≠ b
theorem NetAt.lt {w : World} {b : Nat} {boxes next : Int} {A : Option Addr} {cap : Nat} {l : List Pk} (h : NetAt w b boxes next A cap l) : b < w.heap.size := h.blk.lt
theorem NetAt.keep {w w' : World} {b : Nat} {boxes next : Int} {A : Option Addr} {cap : Nat} {l : List Pk} (h : NetAt w b boxes next A cap l) (hb : w'.heap[b]? = w.heap[b]?) (hA : ∀ ad, A = some ad → w'.heap[ad.block]? = w.heap[ad.block]?) : NetAt w' b boxes next A cap l :=
  ⟨h.blk.keep hb, own_keep h.own (fun k hk => by
    rw [ownBlock_slice] at hk
    cases A with
    | none => cases hk
    | some ad => cases hk; exact hA ad rfl), h.ne⟩
theorem own_lt {w : World} {base : Nat} {e : TypeId} {k n cap : Nat} {A : Option Addr} {cs : List Value} (h : w.ownsRow base e k (.slice A n cap) n cs) : ∀ ad, A = some ad → ad.block < w.heap.size := by
  intro ad e
  subst e
  obtain ⟨_, h2⟩ := h
  rcases h2 with ⟨hv, _⟩ | ⟨g', cap', cur, hv, _, hh, _⟩
  · cases hv
  · cases hv
    exact (Array.getElem?_eq_some_iff.1 hh).1
theorem NetAt.chg {w w' : World} {b : Nat} {boxes next : Int} {A : Option Addr} {cap : Nat} {l : List Pk} (h : NetAt w b boxes next A cap l) {S : Nat → Prop} (hc : Chg S w w') (hb : ¬ S b) (hA : ∀ ad, A = some ad → ¬ S ad.block) : NetAt w' b boxes next A cap l :=
  h.keep (hc.block b h.lt hb) (fun ad e => hc.block _ (own_lt h.own ad e) (hA ad e))
theorem NetAt.non {w w' : World} {b : Nat} {boxes next : Int} {A : Option Addr} {cap : Nat} {l : List Pk} (h : NetAt w b boxes next A cap l) (hc : Chg Non w w') : NetAt w' b boxes next A cap l := h.chg hc id (fun _ _ => id)

theorem maiNewI_ok (boxes : Int) (h1 : 1 ≤ boxes) (h2 : boxes ≤ 64) (w : World) :
    Calls Try.prog 28 #[.int .i64 boxes] w fun e w' => e = .returned (.tuple #[.pointer (some ⟨w.heap.size, 0, none⟩), .int .i64 0]) ∧ NetAt w' w.heap.size boxes 0 none 0 [] ∧ Chg Non w w' := by
  go_enter Try.func28, Try.ntmps28
  go_wp2
  go_ret2
  exact ⟨rfl, ⟨Blk.new_at rfl, World.ownsRow_nil _ _ _ _, fun _ e => by cases e⟩, (Chg.refl Non w).alloc _⟩
theorem maiNewI_err (boxes : Int) (h : ¬ (1 ≤ boxes ∧ boxes ≤ 64)) (w : World) :
    Calls Try.prog 28 #[.int .i64 boxes] w fun e w' => e = .returned (.tuple #[.pointer none, .int .i64 1]) ∧ w = w' := by
  by_cases h1 : boxes < 1
  · go_enter Try.func28, Try.ntmps28
    go_wp2
    go_ret2
    exact ⟨rfl, rfl⟩
  · have h2 : 64 < boxes := by omega
    clear h
    go_enter Try.func28, Try.ntmps28
    go_wp2
    go_ret2
    exact ⟨rfl, rfl⟩
theorem maiLenI_any (w : World) (b : Nat) (boxes next : Int) (A : Option Addr) (cap : Nat) (l : List Pk) (h : NetAt w b boxes next A cap l) :
    Calls Try.prog 34 #[.pointer (some ⟨b, 0, none⟩)] w fun e w' => e = .returned (.int .i64 l.length) ∧ w = w' := by
  have hb := h.blk.cell 2
  go_enter Try.func34, Try.ntmps34
  go_wp2
  go_ret
  exact ⟨rfl, rfl⟩
theorem maiLenI_nil (w : World) : Calls Try.prog 34 #[.pointer none] w fun e w' => e = .returned (.int .i64 0) ∧ w = w' := by
  go_enter Try.func34, Try.ntmps34
  go_wp2
  go_ret
  exact ⟨rfl, rfl⟩
theorem maiCopyI_nil (w : World) : Calls Try.prog 36 #[.pointer none] w fun e w' => e = .returned (.pointer none) ∧ w = w' := by
  go_enter Try.func36, Try.ntmps36
  go_wp2
  go_ret
  exact ⟨rfl, rfl⟩
theorem maiSendI_nil (a b : Int) (A : Option Addr) (n c : Nat) (w : World) : Calls Try.prog 38 #[.pointer none, .int .i64 a, .int .i64 b, .slice A n c] w fun e w' => e = .returned (.tuple #[.int .i64 0, .int .i64 2]) ∧ w = w' := by
  go_enter Try.func38, Try.ntmps38
  go_wp2
  go_ret2
  exact ⟨rfl, rfl⟩
def inBox (boxes i : Int) : Bool := decide (0 ≤ i) && decide (i < boxes)
theorem maiBoxI_any (i : Int) (w : World) (b : Nat) (boxes next : Int) (A : Option Addr) (cap : Nat) (l : List Pk) (h : NetAt w b boxes next A cap l) :
    Calls Try.prog 66 #[.pointer (some ⟨b, 0, none⟩), .int .i64 i] w fun e w' => e = .returned (.bool (inBox boxes i)) ∧ w = w' := by
  have hb := h.blk.cell 0
  unfold inBox
  by_cases h1 : 0 ≤ i
  · by_cases h2 : i < boxes
    · go_enter Try.func66, Try.ntmps66
      go_wp2
      go_ret
      exact ⟨by simp [h1, h2], rfl⟩
    · go_enter Try.func66, Try.ntmps66
      go_wp2
      go_ret
      exact ⟨by simp [h1, h2], rfl⟩
  · go_enter Try.func66, Try.ntmps66
    go_wp2
    go_ret
    exact ⟨by rw [decide_eq_false (by omega : ¬ 0 ≤ i)]; rfl, rfl⟩
end Go.Proofs.Ytggbgfdgpkbmhaa
