/- mail: Clone of packets; Copy. -/
import Derived.Test.YtggbgfdgpkbmhaaMasB
import Derived.Deep.RegionHeld3
import Derived.Deep.RegionWith
import Derived.Deep.DeepFit
import Derived.Deep.DeepMust
import Derived.StillTailTactics
namespace Go.Proofs.Ytggbgfdgpkbmhaa.S
open Go.RowKit
set_option linter.unusedSimpArgs false
set_option linter.unusedVariables false

def clonePk (l : List Pk) (w : World) (e : Ending) (w' : World) : Prop := ∃ A cap, e = .returned (.slice A l.length cap) ∧ w'.ownsRow 0 106 4 (.slice A l.length cap) l.length (l.flatMap Pk.cells) ∧ Chg Non w w' ∧ ∀ ad, A = some ad → w.heap.size ≤ ad.block

theorem clonePk_none (w : World) : Calls Try.prog 88 #[.slice none 0 0] w (clonePk [] w) := by
  have heq := fun w => Lib.run_eql_slice_nil (P := Try.prog) w 134 106 none 0 0 0 0 Try.underlying134
  go_enter Try.func88, Try.ntmps88
  go_wp2
  go_ret
  exact ⟨none, 0, rfl, World.ownsRow_nil _ _ _ _, Chg.refl _ _, fun _ e => by cases e⟩

set_option maxRecDepth 100000 in
theorem clonePk_some (l : List Pk) (A : Addr) (n c : Nat) (w : World) (hr : SlRead Pk.cells 4 w (some A) n c l) (hp : 0 < n) (hn : n ≤ 1000000) :
    Calls Try.prog 88 #[.slice (some A) n c] w (clonePk l w) := by
  have hl := hr.len
  subst hl
  have Hf := Lib.hid (fun o => ((hr.flat Pk.len (by decide)) A rfl : ∀ j u, (l.flatMap Pk.cells)[j]? = some u → w.cell? (A.add j) = some u) o)
  have heq := fun w => Lib.run_eql_slice_nil (P := Try.prog) w 134 106 (some A) l.length c 0 0 Try.underlying134
  go_enter Try.func88, Try.ntmps88
  go_wp2_with (at_builtin; refine ap_own rfl (.tmp 5) (.tmp 6) 134 rfl 106 (.agg #[.int .i64 0, .int .i64 0, .int .i64 0, .string ByteArray.empty]) 4 40 Try.underlying134 (by kernel_rfl) rfl (by decide) (.slice (some ⟨w.heap.size, 0, none⟩) 0 0) 0 [] rfl (World.ownsRow_made w #[] 0 (Nat.zero_le _) (by simp [maxLen]) rfl) A l.length c (l.flatMap Pk.cells) rfl (flatMap_len Pk.len l) (fun j u hu => cell_alloc (Hf.out j u hu) _) (Pk.one l) hp (by unfold maxLen; omega) (by omega) ?_; intro g cap w1 hown hch hg)
  go_ret
  rw [Nat.zero_add, List.nil_append] at hown
  refine ⟨_, cap, rfl, hown, ((Chg.refl Non w).alloc _).trans hch (fun i hi => .inr (by simp [Value.ownBlock] at hi; omega)), fun ad e => ?_⟩
  cases e
  simp [Value.ownBlock] at hg
  show w.heap.size ≤ g
  omega

theorem clonePk_zero (A : Addr) (c : Nat) (w : World) : Calls Try.prog 88 #[.slice (some A) 0 c] w (clonePk [] w) := by
  have heq := fun w => Lib.run_eql_slice_nil (P := Try.prog) w 134 106 (some A) 0 c 0 0 Try.underlying134
  go_enter Try.func88, Try.ntmps88
  go_wp2
  go_ret
  exact ⟨some ⟨w.heap.size, 0, none⟩, 0, rfl, World.ownsRow_made w #[] 0 (Nat.zero_le _) (by simp [maxLen]) rfl, (Chg.refl Non w).alloc _, fun ad e => by cases e; exact Nat.le_refl _⟩

theorem cloneNet {w : World} {b : Nat} {boxes next : Int} {A : Option Addr} {cap : Nat} {l : List Pk} (h : NetAt w b boxes next A cap l) (hn : l.length ≤ 1000000) : Calls Try.prog 88 #[.slice A l.length cap] w (clonePk l w) := by
  have hr := h.read
  cases A with
  | none =>
    obtain rfl := hr.nil rfl
    have hl : l.length = 0 := by have := hr.cap; omega
    have : l = [] := List.eq_nil_of_length_eq_zero hl
    subst this
    exact clonePk_none w
  | some ad =>
    by_cases hp : 0 < l.length
    · exact clonePk_some l ad _ cap w hr hp hn
    · have : l = [] := List.eq_nil_of_length_eq_zero (by omega)
      subst this
      exact clonePk_zero ad cap w

end Go.Proofs.Ytggbgfdgpkbmhaa.S
