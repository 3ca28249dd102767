/- events: Clone; cmp.Compare, cmp.Or, Before, inq.Compare. -/
import Derived.Test.YtmdpbbnieehmnaaVicA
import Derived.Test.YtmdpbbnieehmnaaProg
import Derived.WalkSpells
import Derived.Deep.QuietTactic
import Derived.BigQuiet
import Derived.Deep.RegionHeld3
namespace Go.Proofs.Ytmdpbbnieehmnaa
open Go.RowKit
set_option linter.unusedSimpArgs false
set_option linter.unusedVariables false

def cloneEv (l : List Ev) (w : World) (e : Ending) (w' : World) : Prop := ∃ A cap, e = .returned (.slice A l.length cap) ∧ w'.ownsRow 0 31 7 (.slice A l.length cap) l.length (l.flatMap Ev.cells) ∧ Chg Non w w' ∧ ∀ ad, A = some ad → w.heap.size ≤ ad.block

theorem cloneEv_none (w : World) : Calls Try.prog 46 #[.slice none 0 0] w (cloneEv [] w) := by
  have heq := fun w => Lib.run_eql_slice_nil (P := Try.prog) w 27 31 none 0 0 0 0 Try.underlying27
  go_enter Try.func46, Try.ntmps46
  go_wp2
  go_ret
  exact ⟨none, 0, rfl, World.ownsRow_nil _ _ _ _, Chg.refl _ _, fun _ e => by cases e⟩

set_option maxRecDepth 100000 in
theorem cloneEv_some (l : List Ev) (A : Addr) (n c : Nat) (w : World) (hr : SlRead Ev.cells 7 w (some A) n c l) (hp : 0 < n) (hn : n ≤ 1000000) :
    Calls Try.prog 46 #[.slice (some A) n c] w (cloneEv l w) := by
  have hl := hr.len
  subst hl
  have Hf := Lib.hid (fun o => ((hr.flat Ev.len (by decide)) A rfl : ∀ j u, (l.flatMap Ev.cells)[j]? = some u → w.cell? (A.add j) = some u) o)
  have heq := fun w => Lib.run_eql_slice_nil (P := Try.prog) w 27 31 (some A) l.length c 0 0 Try.underlying27
  go_enter Try.func46, Try.ntmps46
  go_wp2_with (at_builtin; refine ap_own rfl (.tmp 5) (.tmp 6) 27 rfl 31 (.agg #[.int .i64 0, .int .i64 0, .int .i64 0, .int .i64 0, .int .i64 0, .int .i64 0, .int .i64 0]) 7 56 Try.underlying27 (by kernel_rfl) rfl (by decide) (.slice (some ⟨w.heap.size, 0, none⟩) 0 0) 0 [] rfl (World.ownsRow_made w #[] 0 (Nat.zero_le _) (by simp [maxLen]) rfl) A l.length c (l.flatMap Ev.cells) rfl (flatMap_len Ev.len l) (fun j u hu => cell_alloc (Hf.out j u hu) _) (Ev.one l) hp (by unfold maxLen; omega) (by omega) ?_; intro g cap w1 hown hch hg)
  go_ret
  rw [Nat.zero_add, List.nil_append] at hown
  refine ⟨_, cap, rfl, hown, ((Chg.refl Non w).alloc _).trans hch (fun i hi => .inr (by simp [Value.ownBlock] at hi; omega)), fun ad e => ?_⟩
  cases e
  simp [Value.ownBlock] at hg
  show w.heap.size ≤ g
  omega

theorem cloneEv_zero (A : Addr) (c : Nat) (w : World) : Calls Try.prog 46 #[.slice (some A) 0 c] w (cloneEv [] w) := by
  have heq := fun w => Lib.run_eql_slice_nil (P := Try.prog) w 27 31 (some A) 0 c 0 0 Try.underlying27
  go_enter Try.func46, Try.ntmps46
  go_wp2
  go_ret
  exact ⟨some ⟨w.heap.size, 0, none⟩, 0, rfl, World.ownsRow_made w #[] 0 (Nat.zero_le _) (by simp [maxLen]) rfl, (Chg.refl Non w).alloc _, fun ad e => by cases e; exact Nat.le_refl _⟩

end Go.Proofs.Ytmdpbbnieehmnaa
