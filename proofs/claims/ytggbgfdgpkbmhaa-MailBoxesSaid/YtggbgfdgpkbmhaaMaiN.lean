/- mail: the document's answer's net in memory. -/
import Derived.Test.YtggbgfdgpkbmhaaMaiK
namespace Go.Proofs.Ytggbgfdgpkbmhaa
open Go.RowKit
set_option linter.unusedSimpArgs false
set_option linter.unusedVariables false

/-- A net: boxes, the next number, the packets in a row of its own (nil where none was ever sent). -/
structure RNetAt (w : World) (b : Nat) (boxes next : Int) (A : Option Addr) (cap : Nat) (l : List Pk) : Prop where
  blk : Blk w b #[.int .i64 boxes, .int .i64 next, .slice A l.length cap] 59
  own : w.ownsRow 0 111 4 (.slice A l.length cap) l.length (l.flatMap Pk.cells)
  ne : ∀ ad, A = some ad → ad.block ≠ b
theorem RNetAt.lt {w : World} {b : Nat} {boxes next : Int} {A : Option Addr} {cap : Nat} {l : List Pk} (h : RNetAt w b boxes next A cap l) : b < w.heap.size := h.blk.lt
theorem RNetAt.keep {w w' : World} {b : Nat} {boxes next : Int} {A : Option Addr} {cap : Nat} {l : List Pk} (h : RNetAt w b boxes next A cap l) (hb : w'.heap[b]? = w.heap[b]?) (hA : ∀ ad, A = some ad → w'.heap[ad.block]? = w.heap[ad.block]?) : RNetAt w' b boxes next A cap l :=
  ⟨h.blk.keep hb, own_keep h.own (fun k hk => by
    rw [ownBlock_slice] at hk
    cases A with
    | none => cases hk
    | some ad => cases hk; exact hA ad rfl), h.ne⟩
theorem RNetAt.chg {w w' : World} {b : Nat} {boxes next : Int} {A : Option Addr} {cap : Nat} {l : List Pk} (h : RNetAt w b boxes next A cap l) {S : Nat → Prop} (hc : Chg S w w') (hb : ¬ S b) (hA : ∀ ad, A = some ad → ¬ S ad.block) : RNetAt w' b boxes next A cap l :=
  h.keep (hc.block b h.lt hb) (fun ad e => hc.block _ (own_lt h.own ad e) (hA ad e))
theorem RNetAt.non {w w' : World} {b : Nat} {boxes next : Int} {A : Option Addr} {cap : Nat} {l : List Pk} (h : RNetAt w b boxes next A cap l) (hc : Chg Non w w') : RNetAt w' b boxes next A cap l := h.chg hc id (fun _ _ => id)

theorem RNetAt.read {w : World} {b : Nat} {boxes next : Int} {A : Option Addr} {cap : Nat} {l : List Pk} (h : RNetAt w b boxes next A cap l) : SlRead Pk.cells 4 w A l.length cap l := by
  have h0 := h.own
  obtain ⟨h1, h2⟩ := h0
  rcases h2 with ⟨hv, _⟩ | ⟨g', cap', cur, hv, _, hh, hle, hm, hs, ht⟩
  · injection hv with e1 hl e3
    subst e1 e3
    have : l = [] := List.eq_nil_of_length_eq_zero hl
    subst this
    exact ⟨rfl, Nat.le_refl _, by simp [maxLen], fun _ => rfl, by simp⟩
  · cases hv
    exact own_read Pk.len h.own (by decide)
theorem RNetAt.behind {w w2 : World} {b cap : Nat} {boxes next : Int} {A : Option Addr} {l : List Pk} {o : Obj} (hN : RNetAt w b boxes next A cap l) (hch : Chg (fun k => (Value.slice A l.length cap).ownBlock = some k) (w.drew.alloc o) w2) : Blk w2 b #[.int .i64 boxes, .int .i64 next, .slice A l.length cap] 59 :=
  (hN.blk.drew.alloc o).chg hch (by
    rw [ownBlock_slice]
    intro e
    cases A with
    | none => cases e
    | some ad => cases e; exact hN.ne ad rfl rfl)
/-- One packet more: the row is appended to, and the net's own cells are laid anew. -/
theorem RNetAt.push {w w2 : World} {b g cap cap2 : Nat} {boxes next next2 : Int} {A : Option Addr} {l : List Pk} {p : Pk} {o : Obj} (hN : RNetAt w b boxes next A cap l)
    (hown : w2.ownsRow 0 111 4 (.slice (some ⟨g, 0, none⟩) (l.length + 1) cap2) (l.length + 1) (l.flatMap Pk.cells ++ p.cells)) (hch : Chg (fun k => (Value.slice A l.length cap).ownBlock = some k) (w.drew.alloc o) w2) (hg : (Value.slice A l.length cap).ownBlock = some g ∨ (w.drew.alloc o).heap.size ≤ g) :
    RNetAt ((w2.setCell ⟨b, 2, none⟩ (.slice (some ⟨g, 0, none⟩) (l.length + 1) cap2)).setCell ⟨b, 1, none⟩ (.int .i64 next2)) b boxes next2 (some ⟨g, 0, none⟩) cap2 (l ++ [p]) ∧ Chg (netBlk b A) w ((w2.setCell ⟨b, 2, none⟩ (.slice (some ⟨g, 0, none⟩) (l.length + 1) cap2)).setCell ⟨b, 1, none⟩ (.int .i64 next2)) ∧ ((∃ ad', A = some ad' ∧ g = ad'.block) ∨ w.heap.size ≤ g) := by
  have hs : (w.drew.alloc o).heap.size = w.heap.size + 1 := by show (w.heap.push o).size = _; simp
  have hlt := hN.lt
  have hg' : (∃ ad', A = some ad' ∧ g = ad'.block) ∨ w.heap.size ≤ g := by
    rcases hg with hg | hg
    · rw [ownBlock_slice] at hg
      cases A with
      | none => cases hg
      | some ad => cases hg; exact .inl ⟨ad, rfl, rfl⟩
    · exact .inr (by omega)
  have hgb : g ≠ b := by
    rcases hg' with ⟨ad, e, rfl⟩ | hg
    · exact hN.ne ad e
    · omega
  have hb := hN.behind hch
  refine ⟨⟨?_, ?_, fun ad e => by cases e; exact hgb⟩, ?_, hg'⟩
  · have := (hb.set 2 (.slice (some ⟨g, 0, none⟩) (l.length + 1) cap2)).set 1 (.int .i64 next2)
    simpa using this
  · have := own_far (own_far hown (p := ⟨b, 2, none⟩) hgb (.slice (some ⟨g, 0, none⟩) (l.length + 1) cap2)) (p := ⟨b, 1, none⟩) hgb (.int .i64 next2)
    simpa using this
  · refine ((((Chg.refl (netBlk b A) w).drew.alloc o).trans hch (fun i hi => ?_)).setCell (.inl (.inl rfl)) _).setCell (.inl (.inl rfl)) _
    rw [ownBlock_slice] at hi
    cases A with
    | none => cases hi
    | some ad => cases hi; exact .inl (.inr ⟨ad, rfl, rfl⟩)

end Go.Proofs.Ytggbgfdgpkbmhaa
