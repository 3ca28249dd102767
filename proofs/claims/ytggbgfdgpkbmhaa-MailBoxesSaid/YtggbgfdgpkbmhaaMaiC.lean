/- mail: Clone of packets; Copy. -/
import Derived.Test.YtggbgfdgpkbmhaaMaiB
import Derived.Deep.RegionHeld3
import Derived.Deep.RegionWith
import Derived.Deep.DeepFit
import Derived.Deep.DeepMust
import Derived.StillTailTactics
namespace Go.Proofs.Ytggbgfdgpkbmhaa
open Go.RowKit
set_option linter.unusedSimpArgs false
set_option linter.unusedVariables false

def clonePk (l : List Pk) (w : World) (e : Ending) (w' : World) : Prop := ∃ A cap, e = .returned (.slice A l.length cap) ∧ w'.ownsRow 0 67 4 (.slice A l.length cap) l.length (l.flatMap Pk.cells) ∧ Chg Non w w' ∧ ∀ ad, A = some ad → w.heap.size ≤ ad.block

theorem clonePk_none (w : World) : Calls Try.prog 69 #[.slice none 0 0] w (clonePk [] w) := by
  have heq := fun w => Lib.run_eql_slice_nil (P := Try.prog) w 98 67 none 0 0 0 0 Try.underlying98
  go_enter Try.func69, Try.ntmps69
  go_wp2
  go_ret
  exact ⟨none, 0, rfl, World.ownsRow_nil _ _ _ _, Chg.refl _ _, fun _ e => by cases e⟩

set_option maxRecDepth 100000 in
theorem clonePk_some (l : List Pk) (A : Addr) (n c : Nat) (w : World) (hr : SlRead Pk.cells 4 w (some A) n c l) (hp : 0 < n) (hn : n ≤ 1000000) :
    Calls Try.prog 69 #[.slice (some A) n c] w (clonePk l w) := by
  have hl := hr.len
  subst hl
  have Hf := Lib.hid (fun o => ((hr.flat Pk.len (by decide)) A rfl : ∀ j u, (l.flatMap Pk.cells)[j]? = some u → w.cell? (A.add j) = some u) o)
  have heq := fun w => Lib.run_eql_slice_nil (P := Try.prog) w 98 67 (some A) l.length c 0 0 Try.underlying98
  go_enter Try.func69, Try.ntmps69
  go_wp2_with (at_builtin; refine ap_own rfl (.tmp 5) (.tmp 6) 98 rfl 67 (.agg #[.int .i64 0, .int .i64 0, .int .i64 0, .int .i64 0]) 4 32 Try.underlying98 (by kernel_rfl) rfl (by decide) (.slice (some ⟨w.heap.size, 0, none⟩) 0 0) 0 [] rfl (World.ownsRow_made w #[] 0 (Nat.zero_le _) (by simp [maxLen]) rfl) A l.length c (l.flatMap Pk.cells) rfl (flatMap_len Pk.len l) (fun j u hu => cell_alloc (Hf.out j u hu) _) (Pk.one l) hp (by unfold maxLen; omega) (by omega) ?_; intro g cap w1 hown hch hg)
  go_ret
  rw [Nat.zero_add, List.nil_append] at hown
  refine ⟨_, cap, rfl, hown, ((Chg.refl Non w).alloc _).trans hch (fun i hi => .inr (by simp [Value.ownBlock] at hi; omega)), fun ad e => ?_⟩
  cases e
  simp [Value.ownBlock] at hg
  show w.heap.size ≤ g
  omega

theorem clonePk_zero (A : Addr) (c : Nat) (w : World) : Calls Try.prog 69 #[.slice (some A) 0 c] w (clonePk [] w) := by
  have heq := fun w => Lib.run_eql_slice_nil (P := Try.prog) w 98 67 (some A) 0 c 0 0 Try.underlying98
  go_enter Try.func69, Try.ntmps69
  go_wp2
  go_ret
  exact ⟨some ⟨w.heap.size, 0, none⟩, 0, rfl, World.ownsRow_made w #[] 0 (Nat.zero_le _) (by simp [maxLen]) rfl, (Chg.refl Non w).alloc _, fun ad e => by cases e; exact Nat.le_refl _⟩

theorem cloneNet {w : World} {b : Nat} {boxes next : Int} {A : Option Addr} {cap : Nat} {l : List Pk} (h : NetAt w b boxes next A cap l) (hn : l.length ≤ 1000000) : Calls Try.prog 69 #[.slice A l.length cap] w (clonePk l w) := by
  have hr := h.read
  cases A with
  | none =>
    obtain rfl := hr.nil rfl
    have hl : l.length = 0 := by have := hr.cap; omega
    have : l = [] := List.eq_nil_of_length_eq_zero hl
    subst this
    exact clonePk_none w
  | some ad =>
    by_cases hp : 0 < l.length
    · exact clonePk_some l ad _ cap w hr hp hn
    · have : l = [] := List.eq_nil_of_length_eq_zero (by omega)
      subst this
      exact clonePk_zero ad cap w

theorem maiCopyI_any (w : World) (b : Nat) (boxes next : Int) (A : Option Addr) (cap : Nat) (l : List Pk) (h : NetAt w b boxes next A cap l) (hn : l.length ≤ 1000000) :
    Calls Try.prog 36 #[.pointer (some ⟨b, 0, none⟩)] w fun e w' => ∃ b' A' cap', e = .returned (.pointer (some ⟨b', 0, none⟩)) ∧ NetAt w' b' boxes next A' cap' l ∧ Chg Non w w' ∧ w.heap.size ≤ b' ∧ ∀ ad, A' = some ad → w.heap.size ≤ ad.block := by
  have c0 := h.blk.cell 0
  have c1 := h.blk.cell 1
  have c2 := h.blk.cell 2
  replace c0 : w.cell? ⟨b, 0, none⟩ = some (.int .i64 boxes) := c0
  replace c1 : w.cell? ⟨b, 1, none⟩ = some (.int .i64 next) := c1
  replace c2 : w.cell? ⟨b, 2, none⟩ = some (.slice A l.length cap) := c2
  have hd := h.non ((Chg.refl Non w).drew)
  have HD := Lib.hid hd
  clear hd
  go_enter Try.func36, Try.ntmps36
  go_wp2_with fail
  go_region_held3 (fun w' => w'.cell? ⟨b, 0, none⟩ = some (.int .i64 boxes) ∧ w'.cell? ⟨b, 1, none⟩ = some (.int .i64 next) ∧ w'.cell? ⟨b, 2, none⟩ = some (.slice A l.length cap)) (first | exact ⟨cell_alloc i0 _, cell_alloc i1 _, cell_alloc i2 _⟩ | exact ⟨i0, i1, i2⟩ | exact ⟨c0, c1, c2⟩) (first | (go_at_call 69; refine (cloneNet HD.out hn).mono ?_; rintro e w1 ⟨A', cap', rfl, hown, hch, hA⟩; have i0 := hch.cell (a := ⟨b, 0, none⟩) c0 id; have i1 := hch.cell (a := ⟨b, 1, none⟩) c1 id; have i2 := hch.cell (a := ⟨b, 2, none⟩) c2 id))
  all_goals
    go_wp2
    go_ret
    have hs := hch.size
    have hlt := own_lt hown
    refine ⟨w1.heap.size, A', cap', rfl, ⟨Blk.new_at rfl, own_keep hown (fun k hk => ?_), fun ad e => by have := hlt ad e; omega⟩, (((Chg.refl Non w).drew).trans hch (fun _ x => x.elim)).alloc _, hs, hA⟩
    rw [ownBlock_slice] at hk
    cases A' with
    | none => cases hk
    | some ad => cases hk; exact Below.heap_alloc _ _ _ (hlt ad rfl)
end Go.Proofs.Ytggbgfdgpkbmhaa
