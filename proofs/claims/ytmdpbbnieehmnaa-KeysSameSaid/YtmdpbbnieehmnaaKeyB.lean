/- keys.Settle on three messages: the map, its two keys. -/
import Derived.Test.YtmdpbbnieehmnaaKeyA
namespace Go.Proofs.Ytmdpbbnieehmnaa
open Go.RowKit
open Go.Maps (Keyed)
set_option linter.unusedSimpArgs false
set_option linter.unusedVariables false
set_option maxRecDepth 100000

theorem laidOutP : laidOutB Try.prog = true := by kernel_rfl
theorem idLaw : Keyed Try.prog 86 := Keyed.of_law (deep_law_laid laidOutP (m := 3) (by decide) (of_decide_eq_true (by kernel_rfl)) (by kernel_rfl) (by kernel_rfl))
def idA : Value := .agg #[.int .i64 0, .int .i64 1, .int .i64 0]
def idB : Value := .agg #[.int .i64 0, .int .i64 1, .int .i64 1]
def klA : Lit := .string [0, 0, 0, 0, 0, 0, 0, 0, 0, 0, 0, 0, 0, 0, 0, 1, 0, 0, 0, 0, 0, 0, 0, 0]
def klB : Lit := .string [0, 0, 0, 0, 0, 0, 0, 0, 0, 0, 0, 0, 0, 0, 0, 1, 0, 0, 0, 0, 0, 0, 0, 1]
theorem keyA : keyOf Try.prog 86 idA = some klA := by kernel_rfl
theorem keyB : keyOf Try.prog 86 idB = some klB := by kernel_rfl
theorem klAB : klA ≠ klB := by
  intro h
  injection h with h
  exact absurd h (by decide)
/-- An element of the map reads as itself. -/
def RH : Value → Option (DataW Value × List MemPlace) := fun v => some (.held v, [])
theorem zeroMs (w : World) : (zeroValue 59).run Try.prog w = .ok (.slice none 0 0) w := by kernel_rfl
def idK (b : Bool) : Value := if b then idA else idB
def klK (b : Bool) : Lit := if b then klA else klB
theorem keyK (b : Bool) : keyOf Try.prog 86 (idK b) = some (klK b) := by
  cases b
  · exact keyB
  · exact keyA
theorem klNe {a b : Bool} (h : a ≠ b) : klK a ≠ klK b := by
  cases a <;> cases b <;> first | exact absurd rfl h | exact klAB | exact Ne.symm klAB
def nilS : Value := .slice none 0 0
def OnMap (W : World) (B n : Nat) (f : Bool → Value) : Prop := ∃ D : DataW Value, W.ownsMap Try.prog 86 RH B n D ∧ ∀ b, D.atKey (klK b) (.held nilS) = .held (f b)
theorem OnMap.look {W : World} {B n : Nat} {f : Bool → Value} (h : OnMap W B n f) (b : Bool) : (Instr.lookup 113 (.map (some B)) (idK b) false).run Try.prog W = .ok (f b) W := by
  obtain ⟨D, hD, hf⟩ := h
  obtain ⟨v, ps, hr, hv⟩ := hD.lookup idLaw Try.underlying113 (zeroMs W) (zd := .held nilS) (zp := []) rfl (keyK b)
  rw [hf b] at hv
  have : v = f b := by
    unfold RH at hv
    injection hv with hv
    injection hv with hv
    injection hv
  rw [hr, this]
theorem OnMap.upd {W : World} {B n : Nat} {f : Bool → Value} (h : OnMap W B n f) (hn : n < maxLen) (b : Bool) (x : Value) : ∃ W', (Instr.mapUpdate 113 (.map (some B)) (idK b) x).run Try.prog W = .ok () W' ∧ OnMap W' B (n + 1) (fun c => if c = b then x else f c) ∧ W.grownBy W' (some B) := by
  obtain ⟨D, hD, hf⟩ := h
  obtain ⟨W', hr, hD', hg⟩ := hD.update idLaw Try.underlying113 hn (keyK b) (val := x) (d := .held x) (ps := []) rfl
  refine ⟨W', hr, ⟨_, hD', fun c => ?_⟩, hg⟩
  by_cases hc : c = b
  · subst hc
    show (D.put (klK c) (.held x)).atKey (klK c) (.held nilS) = .held (if c = c then x else f c)
    rw [if_pos rfl, Maps.atKey_put_same (by obtain ⟨es, _, _, _, _, e⟩ := hD; exact ⟨_, e⟩) (by cases c <;> trivial)]
  · show (D.put (klK b) (.held x)).atKey (klK c) (.held nilS) = .held (if c = b then x else f c)
    rw [if_neg hc, Maps.atKey_put_other (klNe hc), hf c]
theorem OnMap.mono {W : World} {B n m : Nat} {f : Bool → Value} (h : OnMap W B n f) (hm : n ≤ m) : OnMap W B m f := by
  obtain ⟨D, hD, hf⟩ := h
  exact ⟨D, hD.mono hm, hf⟩
theorem OnMap.chg {W W' : World} {B n : Nat} {f : Bool → Value} (h : OnMap W B n f) {S : Nat → Prop} (hc : Chg S W W') (hB : ¬ S B) : OnMap W' B n f := by
  obtain ⟨D, ⟨es, clock, hb, F, hs, hD⟩, hf⟩ := h
  exact ⟨D, ⟨es, clock, (hc.block B (Array.getElem?_eq_some_iff.1 hb).1 hB).trans hb, F, hs, hD⟩, hf⟩
/-- What the map's element at a key owns. -/
def OwnM (W : World) (v : Value) (l : List Mg) : Prop := W.ownsRow 0 63 8 v l.length (l.flatMap Mg.cells)
theorem OwnM.chg {W W' : World} {v : Value} {l : List Mg} (h : OwnM W v l) {S : Nat → Prop} (hc : Chg S W W') (hv : ∀ k, v.ownBlock = some k → ¬ S k) : OwnM W' v l :=
  own_keep h (fun i hi => hc.block i (by
    have h0 := h
    obtain ⟨h1, h2⟩ := h0
    rcases h2 with ⟨e, _⟩ | ⟨g', cap', cur, e, _, hh, _⟩
    · rw [e] at hi; cases hi
    · rw [e] at hi; cases hi
      exact (Array.getElem?_eq_some_iff.1 hh).1) (hv i hi))
def SetNow (w W : World) (B n : Nat) (f : Bool → Value) (L : Bool → List Mg) : Prop :=
  OnMap W B n f ∧ (∀ b, OwnM W (f b) (L b)) ∧ (∀ k, (f true).ownBlock = some k → (f false).ownBlock = some k → False) ∧ (∀ b k, (f b).ownBlock = some k → k ≠ B ∧ w.heap.size ≤ k) ∧ w.heap.size ≤ B ∧ Chg Non w W
theorem SetNow.non {w W W' : World} {B n : Nat} {f : Bool → Value} {L : Bool → List Mg} (h : SetNow w W B n f L) (hc : Chg Non W W') : SetNow w W' B n f L :=
  ⟨h.1.chg hc id, fun b => (h.2.1 b).chg hc (fun _ _ => id), h.2.2.1, h.2.2.2.1, h.2.2.2.2.1, h.2.2.2.2.2.trans hc (fun _ x => x.elim)⟩
/-- Behind the append at key b, ahead of the map's store. -/
def AppNow (w W : World) (B n : Nat) (f : Bool → Value) (L : Bool → List Mg) (b : Bool) (v : Value) (m : Mg) : Prop :=
  OnMap W B n f ∧ OwnM W v (L b ++ [m]) ∧ OwnM W (f (!b)) (L (!b)) ∧ (∀ k, v.ownBlock = some k → (f (!b)).ownBlock = some k → False) ∧ (∀ k, v.ownBlock = some k → k ≠ B ∧ w.heap.size ≤ k) ∧ (∀ k, (f (!b)).ownBlock = some k → k ≠ B ∧ w.heap.size ≤ k) ∧ w.heap.size ≤ B ∧ Chg Non w W
theorem AppNow.non {w W W' : World} {B n : Nat} {f : Bool → Value} {L : Bool → List Mg} {b : Bool} {v : Value} {m : Mg} (h : AppNow w W B n f L b v m) (hc : Chg Non W W') : AppNow w W' B n f L b v m :=
  ⟨h.1.chg hc id, h.2.1.chg hc (fun _ _ => id), h.2.2.1.chg hc (fun _ _ => id), h.2.2.2.1, h.2.2.2.2.1, h.2.2.2.2.2.1, h.2.2.2.2.2.2.1, h.2.2.2.2.2.2.2.trans hc (fun _ x => x.elim)⟩
theorem OwnM.block_lt {W : World} {v : Value} {l : List Mg} (h : OwnM W v l) {k : Nat} (hk : v.ownBlock = some k) : k < W.heap.size := by
  obtain ⟨h1, h2⟩ := h
  rcases h2 with ⟨e, _⟩ | ⟨g', cap', cur, e, _, hh, _⟩
  · rw [e] at hk; cases hk
  · rw [e] at hk; cases hk
    exact (Array.getElem?_eq_some_iff.1 hh).1
theorem SetNow.app {w W W2 : World} {B n : Nat} {f : Bool → Value} {L : Bool → List Mg} (h : SetNow w W B n f L) (b : Bool) (m : Mg) {g cap2 : Nat}
    (hown : W2.ownsRow 0 63 8 (.slice (some ⟨g, 0, none⟩) ((L b).length + 1) cap2) ((L b).length + 1) ((L b).flatMap Mg.cells ++ m.cells)) (hch : Chg (fun k => (f b).ownBlock = some k) W W2) (hg : (f b).ownBlock = some g ∨ W.heap.size ≤ g) :
    AppNow w W2 B n f L b (.slice (some ⟨g, 0, none⟩) ((L b).length + 1) cap2) m := by
  have hap : ∀ k, (f b).ownBlock = some k → (f (!b)).ownBlock = some k → False := fun k h1 h2 => by
    cases b
    · exact h.2.2.1 k h2 h1
    · exact h.2.2.1 k h1 h2
  have hBW : B < W.heap.size := by obtain ⟨D, ⟨es, clock, hb, _⟩, _⟩ := h.1; exact (Array.getElem?_eq_some_iff.1 hb).1
  refine ⟨h.1.chg hch (fun e => (h.2.2.2.1 b B e).1 rfl), ?_, (h.2.1 (!b)).chg hch (fun k h1 h2 => hap k h2 h1), fun k h1 h2 => ?_, fun k h1 => ?_, h.2.2.2.1 (!b), h.2.2.2.2.1, h.2.2.2.2.2.trans hch (fun i hi => .inr (h.2.2.2.1 b i hi).2)⟩
  · unfold OwnM
    simpa using hown
  · cases h1
    rcases hg with hg | hg
    · exact hap _ hg h2
    · have h3 : g < W.heap.size := (h.2.1 (!b)).block_lt h2
      omega
  · cases h1
    rcases hg with hg | hg
    · exact h.2.2.2.1 b _ hg
    · have := h.2.2.2.2.2.size
      exact ⟨by show g ≠ B; omega, by show w.heap.size ≤ g; omega⟩
theorem AppNow.upd {w W W3 : World} {B n : Nat} {f : Bool → Value} {L : Bool → List Mg} {b : Bool} {v : Value} {m : Mg} (h : AppNow w W B n f L b v m) (hm : OnMap W3 B (n + 1) (fun c => if c = b then v else f c)) (hg : W.grownBy W3 (some B)) :
    SetNow w W3 B (n + 1) (fun c => if c = b then v else f c) (fun c => if c = b then L b ++ [m] else L c) := by
  have hc : Chg (fun k => some k = some B) W W3 := Chg.of_grown hg
  refine ⟨hm, fun c => ?_, fun k h1 h2 => ?_, fun c k hk => ?_, h.2.2.2.2.2.2.1, h.2.2.2.2.2.2.2.trans hc (fun i hi => .inr (by cases hi; exact h.2.2.2.2.2.2.1))⟩
  · by_cases e : c = b
    · simp only [if_pos e]
      exact h.2.1.chg hc (fun k hk hi => by cases hi; exact (h.2.2.2.2.1 _ hk).1 rfl)
    · simp only [if_neg e]
      have : c = !b := by cases c <;> cases b <;> simp_all
      subst this
      exact h.2.2.1.chg hc (fun k hk hi => by cases hi; exact (h.2.2.2.2.2.1 _ hk).1 rfl)
  · cases b
    · simp at h1 h2
      exact h.2.2.2.1 k h2 h1
    · simp at h1 h2
      exact h.2.2.2.1 k h1 h2
  · by_cases e : c = b
    · simp only [if_pos e] at hk
      exact h.2.2.2.2.1 k hk
    · simp only [if_neg e] at hk
      have : c = !b := by cases c <;> cases b <;> simp_all
      subst this
      exact h.2.2.2.2.2.1 k hk
end Go.Proofs.Ytmdpbbnieehmnaa
