/- Rows that grow: append in a region that draws. -/
import Derived.Test.YtmdpbbnieehmnaaBaseIn
import Derived.Deep.RegionLaw
namespace Go.Proofs.Ytmdpbbnieehmnaa
open Go.RowKit
set_option linter.unusedSimpArgs false
set_option linter.unusedVariables false

/-- append to an owned row, as one step of a region that draws. -/
theorem step_ap_own {P : Program} {ops : Array Oper} {o : Oper} {a : Act} {w : World} {K : Act → World → Prop} {Q : Exit → Act → World → Prop} {E : Prop}
    (hg : o.guard = none) (s x : Operand) (t : TypeId) (hop : o.op = Op.call { callee := Callee.builtin Builtin.append, args := #[s, x], argTypes := #[t, t] })
    (e : TypeId) (z : Value) (size bytes : Nat) (h1 : P.underlying t = some (.slice e)) (hinfo : (P.info? e).map (fun i => (i.zero, i.size, i.bytes)) = some (some z, size, bytes)) (h6 : z.cells.size = size) (h7 : 0 < size)
    (v : Value) (n : Nat) (olds : List Value) (hs : a.eval s = v) (hown : w.ownsRow 0 e size v n olds)
    (ad : Addr) (m c : Nat) (news : List Value) (hx : a.eval x = .slice (some ad) m c) (hn : news.length = m * size) (hc : ∀ j u, news[j]? = some u → w.cell? (ad.add j) = some u) (h1c : ∀ u ∈ news, u.oneCell' = true)
    (hm : 0 < m) (b1 : n + m ≤ maxLen) (b2 : (n + m) * bytes ≤ 140737488355328)
    (hK : ∀ g cap' w', w'.ownsRow 0 e size (.slice (some ⟨g, 0, none⟩) (n + m) cap') (n + m) (olds ++ news) → Chg (fun k => v.ownBlock = some k) w w' → (v.ownBlock = some g ∨ w.heap.size ≤ g) → K (a.put o.dst (.slice (some ⟨g, 0, none⟩) (n + m) cap')) w') :
    if Region.wanted o (yielded ops a.tmps) = true then Oper.wp P o a w K Q else E := by
  have hw : Region.wanted o (yielded ops a.tmps) = true := by simp [Region.wanted, hg]
  rw [if_pos hw]
  obtain ⟨g, cap', w', hrun, r1, r2, r3⟩ := run_ap_own (P := P) t o.type e z size bytes h1 hinfo h6 h7 v n olds hown ad m c news hn hc h1c hm b1 b2
  unfold Oper.wp
  simp [execOp, hop, resolve, invoke, builtin, hs, hx, hrun, Result.andThen]
  exact hK _ _ _ r1 r2 r3

theorem own_lt {w : World} {base : Nat} {e : TypeId} {k n cap : Nat} {A : Option Addr} {cs : List Value} (h : w.ownsRow base e k (.slice A n cap) n cs) : ∀ ad, A = some ad → ad.block < w.heap.size := by
  intro ad e
  subst e
  obtain ⟨_, h2⟩ := h
  rcases h2 with ⟨hv, _⟩ | ⟨g', cap', cur, hv, _, hh, _⟩
  · cases hv
  · cases hv
    exact (Array.getElem?_eq_some_iff.1 hh).1
theorem own_far_opt {w : World} {base : Nat} {e : TypeId} {k n cap : Nat} {A : Option Addr} {cs : List Value} (h : w.ownsRow base e k (.slice A n cap) n cs) {p : Addr} (hp : ∀ ad, A = some ad → ad.block ≠ p.block) (u : Value) : (w.setCell p u).ownsRow base e k (.slice A n cap) n cs :=
  own_keep h (fun i hi => by
    rw [ownBlock_slice] at hi
    cases A with
    | none => cases hi
    | some ad => cases hi; exact Below.heap_setCell w p u _ (hp ad rfl))
theorem own_alloc_opt {w : World} {base : Nat} {e : TypeId} {k n cap : Nat} {A : Option Addr} {cs : List Value} (h : w.ownsRow base e k (.slice A n cap) n cs) (o : Obj) : (w.alloc o).ownsRow base e k (.slice A n cap) n cs :=
  own_keep h (fun i hi => by
    rw [ownBlock_slice] at hi
    cases A with
    | none => cases hi
    | some ad => cases hi; exact Below.heap_alloc _ _ _ (own_lt h ad rfl))
theorem own_chg_opt {w w' : World} {base : Nat} {e : TypeId} {k n cap : Nat} {A : Option Addr} {cs : List Value} (h : w.ownsRow base e k (.slice A n cap) n cs) {S : Nat → Prop} (hc : Chg S w w') (hA : ∀ ad, A = some ad → ¬ S ad.block) : w'.ownsRow base e k (.slice A n cap) n cs :=
  own_keep h (fun i hi => by
    rw [ownBlock_slice] at hi
    cases A with
    | none => cases hi
    | some ad => cases hi; exact hc.block _ (own_lt h ad rfl) (hA ad rfl))

theorem ownBlk_some {A : Option Addr} {n c k : Nat} (h : (Value.slice A n c).ownBlock = some k) : ∃ ad, A = some ad ∧ k = ad.block := by
  rw [ownBlock_slice] at h
  cases A with
  | none => cases h
  | some ad => cases h; exact ⟨ad, rfl, rfl⟩
theorem own_read_opt {α : Type} {f : α → List Value} {k : Nat} (hf : ∀ x, (f x).length = k) (hk : 0 < k) {e : TypeId} {w : World} {A : Option Addr} {cap : Nat} {l : List α} (h : w.ownsRow 0 e k (.slice A l.length cap) l.length (l.flatMap f)) : SlRead f k w A l.length cap l := by
  have h0 := h
  obtain ⟨h1, h2⟩ := h0
  rcases h2 with ⟨hv, _⟩ | ⟨g', cap', cur, hv, _, hh, hle, hm, hs, ht⟩
  · injection hv with e1 hl e3
    subst e1 e3
    have : l = [] := List.eq_nil_of_length_eq_zero hl
    subst this
    exact ⟨rfl, Nat.le_refl _, by simp [maxLen], fun _ => rfl, by simp⟩
  · cases hv
    exact own_read hf h hk
/-- A row of l that began behind w. -/
def Grow {α : Type} (f : α → List Value) (k : Nat) (e : TypeId) (w W : World) (A : Option Addr) (cap : Nat) (l : List α) : Prop :=
  W.ownsRow 0 e k (.slice A l.length cap) l.length (l.flatMap f) ∧ Chg Non w W ∧ ∀ ad, A = some ad → w.heap.size ≤ ad.block
theorem Grow.nil {α : Type} (f : α → List Value) (k : Nat) (e : TypeId) (w W : World) (h : Chg Non w W) : Grow f k e w W none 0 ([] : List α) := ⟨World.ownsRow_nil _ _ _ _, h, fun _ e => by cases e⟩
theorem Grow.non {α : Type} {f : α → List Value} {k : Nat} {e : TypeId} {w W W' : World} {A : Option Addr} {cap : Nat} {l : List α} (h : Grow f k e w W A cap l) (hc : Chg Non W W') : Grow f k e w W' A cap l :=
  ⟨own_chg_opt h.1 hc (fun _ _ => id), h.2.1.trans hc (fun _ x => x.elim), h.2.2⟩
theorem Grow.push {α : Type} {f : α → List Value} {k : Nat} {e : TypeId} {w W W1 W2 : World} {A : Option Addr} {cap cap2 g : Nat} {l : List α} {x : α} (h : Grow f k e w W A cap l) (h1 : Chg Non W W1)
    (hown : W2.ownsRow 0 e k (.slice (some ⟨g, 0, none⟩) (l.length + 1) cap2) (l.length + 1) (l.flatMap f ++ f x)) (hch : Chg (fun i => (Value.slice A l.length cap).ownBlock = some i) W1 W2) (hg : (Value.slice A l.length cap).ownBlock = some g ∨ W1.heap.size ≤ g) :
    Grow f k e w W2 (some ⟨g, 0, none⟩) cap2 (l ++ [x]) := by
  have hwW : w.heap.size ≤ W1.heap.size := (h.2.1.trans h1 (fun _ x => x.elim)).size
  refine ⟨by simpa using hown, (h.2.1.trans h1 (fun _ x => x.elim)).trans hch (fun i hi => ?_), fun ad e => ?_⟩
  · obtain ⟨ad, e, rfl⟩ := ownBlk_some hi
    exact .inr (h.2.2 ad e)
  · cases e
    rcases hg with hg | hg
    · obtain ⟨ad, e, rfl⟩ := ownBlk_some hg
      exact h.2.2 ad e
    · exact Nat.le_trans hwW hg
theorem Grow.read {α : Type} {f : α → List Value} {k : Nat} (hf : ∀ x, (f x).length = k) (hk : 0 < k) {e : TypeId} {w W : World} {A : Option Addr} {cap : Nat} {l : List α} (h : Grow f k e w W A cap l) : SlRead f k W A l.length cap l := own_read_opt hf hk h.1
/-- append of one thing to a row that grows, in a region that draws no memory beside it. -/
theorem ap_push {P : Program} {w : World} {ops : Array Oper} {rest : List Oper} {o : Oper} {a : Act} {Q : Exit → Act → World → Prop}
    (hg : o.guard = none) (s x : Operand) (t : TypeId) (hop : o.op = Op.call { callee := Callee.builtin Builtin.append, args := #[s, x], argTypes := #[t, t] })
    (e : TypeId) (z : Value) (size bytes : Nat) (h1 : P.underlying t = some (.slice e)) (hinfo : (P.info? e).map (fun i => (i.zero, i.size, i.bytes)) = some (some z, size, bytes)) (h6 : z.cells.size = size) (h7 : 0 < size)
    {α : Type} {f : α → List Value} {w0 W : World} {A : Option Addr} {cap : Nat} {l : List α} (hG : Grow f size e w0 W A cap l) (hc1 : Chg Non W w)
    (y : α) (hs : a.eval s = .slice A l.length cap) (g0 : Nat) {t0 : TypeId} (hb : Blk w g0 (f y).toArray t0) (hx : a.eval x = .slice (some ⟨g0, 0, none⟩) 1 1) (hlen : (f y).length = size) (h1c : ∀ u ∈ f y, u.oneCell' = true)
    (b1 : l.length + 1 ≤ maxLen) (b2 : (l.length + 1) * bytes ≤ 140737488355328)
    (hK : ∀ g cap' w', Grow f size e w0 w' (some ⟨g, 0, none⟩) cap' (l ++ [y]) → wpList P ops Q rest (a.put o.dst (.slice (some ⟨g, 0, none⟩) (l.length + 1) cap')) w') :
    wpList P ops Q (o :: rest) a w := by
  refine ap_own hg s x t hop e z size bytes h1 hinfo h6 h7 (.slice A l.length cap) l.length (l.flatMap f) hs (hG.non hc1).1 ⟨g0, 0, none⟩ 1 1 (f y) hx (by rw [hlen]; omega) (hb.reads' (f y) rfl) h1c (by decide) b1 b2 ?_
  intro g cap' w' h1' h2' h3'
  exact hK g cap' w' (hG.push hc1 h1' h2' h3')
end Go.Proofs.Ytmdpbbnieehmnaa
