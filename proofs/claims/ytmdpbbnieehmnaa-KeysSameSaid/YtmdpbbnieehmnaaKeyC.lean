/- keys.Settle: the first loop. -/
import Derived.Test.YtmdpbbnieehmnaaKeyB
import Derived.Deep.RegionHeld3
namespace Go.Proofs.Ytmdpbbnieehmnaa
open Go.RowKit
set_option linter.unusedSimpArgs false
set_option linter.unusedVariables false

noncomputable def updW (W : World) (B : Nat) (b : Bool) (v : Value) : World := match (Instr.mapUpdate 113 (.map (some B)) (idK b) v).run Try.prog W with | .ok _ W' => W' | _ => W
theorem OnMap.upd' {W : World} {B n : Nat} {f : Bool → Value} (h : OnMap W B n f) (hn : n < maxLen) (b : Bool) (x : Value) : (Instr.mapUpdate 113 (.map (some B)) (idK b) x).run Try.prog W = .ok () (updW W B b x) ∧ OnMap (updW W B b x) B (n + 1) (fun c => if c = b then x else f c) ∧ W.grownBy (updW W B b x) (some B) := by
  obtain ⟨W', hr, h1, h2⟩ := h.upd hn b x
  have : updW W B b x = W' := by unfold updW; rw [hr]
  rw [this]
  exact ⟨hr, h1, h2⟩
theorem mg_at {w : World} {A : Option Addr} {n c : Nat} {xs : List Mg} (h : SlRead Mg.cells 8 w A n c xs) {k : Nat} {p : Mg} (hp : xs[k]? = some p) : ∃ ad, A = some ad ∧ w.cell? (ad.add (k * 8)) = some (.int .i64 p.ev.at_) ∧ w.cell? ⟨(ad.add (k * 8)).block, (ad.add (k * 8)).off + 1, none⟩ = some (.int .i64 p.ev.src) ∧ w.cell? ⟨(ad.add (k * 8)).block, (ad.add (k * 8)).off + 2, none⟩ = some (.int .i64 p.ev.sent) ∧ w.cell? ⟨(ad.add (k * 8)).block, (ad.add (k * 8)).off + 3, none⟩ = some (.int .i64 p.ev.no) ∧ w.cell? ⟨(ad.add (k * 8)).block, (ad.add (k * 8)).off + 4, none⟩ = some (.int .i64 p.ev.dst) ∧ w.cell? ⟨(ad.add (k * 8)).block, (ad.add (k * 8)).off + 5, none⟩ = some (.int .i64 p.ev.kind) ∧ w.cell? ⟨(ad.add (k * 8)).block, (ad.add (k * 8)).off + 6, none⟩ = some (.int .i64 p.ev.data) ∧ w.cell? ⟨(ad.add (k * 8)).block, (ad.add (k * 8)).off + 7, none⟩ = some (.bool p.anti) := by
  obtain ⟨ad, e, hc⟩ := h.cell k p hp
  refine ⟨ad, e, by simpa using hc 0 (.int .i64 p.ev.at_) rfl, ?_, ?_, ?_, ?_, ?_, ?_, ?_⟩
  · rw [← add_field _ _ 1 (by omega)]; exact hc 1 _ rfl
  · rw [← add_field _ _ 2 (by omega)]; exact hc 2 _ rfl
  · rw [← add_field _ _ 3 (by omega)]; exact hc 3 _ rfl
  · rw [← add_field _ _ 4 (by omega)]; exact hc 4 _ rfl
  · rw [← add_field _ _ 5 (by omega)]; exact hc 5 _ rfl
  · rw [← add_field _ _ 6 (by omega)]; exact hc 6 _ rfl
  · rw [← add_field _ _ 7 (by omega)]; exact hc 7 _ rfl
def grp (wh : Mg → Bool) (l : List Mg) (b : Bool) : List Mg := l.filter (fun m => wh m == b)
theorem grp_snoc (wh : Mg → Bool) (l : List Mg) (m : Mg) : grp wh (l ++ [m]) = fun c => if c = wh m then grp wh l (wh m) ++ [m] else grp wh l c := by
  funext c
  unfold grp
  rw [List.filter_append]
  by_cases h : c = wh m
  · rw [if_pos h, h]; simp
  · rw [if_neg h]
    have : (wh m == c) = false := by simp; exact fun e => h e.symm
    simp [this]
theorem grp_len (wh : Mg → Bool) (l : List Mg) (b : Bool) : (grp wh l b).length ≤ l.length := List.length_filter_le _ _

end Go.Proofs.Ytmdpbbnieehmnaa
