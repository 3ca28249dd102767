/- Words on memory: a slice of a row that the call owns, cut somewhere: reads, and an append to it. -/
import Derived.Laws.IdiomCopy
import Derived.Test.YtggbgfdgpkbmhaaBase
namespace Go.Proofs.Ytggbgfdgpkbmhaa
open Go.RowKit

/-- The slice value '.slice (some ⟨g, off, none⟩) n cap' lies in block g, which is known whole; it holds the cells cs. -/
structure OwnA (w : World) (e : TypeId) (k g off n cap : Nat) (cs : List Value) : Prop where
  row : ∃ cur : Array Value, Blk w g cur e ∧ off + cap * k ≤ cur.size ∧ ∀ j u, cs[j]? = some u → cur[off + j]? = some u
  len : cs.length = n * k
  le : n ≤ cap
  max : cap ≤ maxLen

theorem OwnA.of_own {w : World} {base : Nat} {e : TypeId} {k g n cap : Nat} {cs : List Value} (h : w.ownsRow base e k (.slice (some ⟨g, 0, none⟩) n cap) n cs) : OwnA w e k g 0 n cap cs := by
  have h1 := h.1
  obtain ⟨_, h2⟩ := h
  rcases h2 with ⟨hv, _⟩ | ⟨g', cap', cur, hv, _, hh, hle, hm, hs, ht⟩
  · cases hv
  · cases hv
    refine ⟨⟨cur, hh, by omega, fun j u hu => ?_⟩, h1, hle, hm⟩
    rw [← ht, List.getElem?_take] at hu
    split at hu
    · simpa using hu
    · cases hu
theorem OwnA.lt {w : World} {e : TypeId} {k g off n cap : Nat} {cs : List Value} (h : OwnA w e k g off n cap cs) : g < w.heap.size := by
  obtain ⟨cur, hb, _⟩ := h.row
  exact hb.lt
theorem OwnA.keep {w w' : World} {e : TypeId} {k g off n cap : Nat} {cs : List Value} (h : OwnA w e k g off n cap cs) (hk : w'.heap[g]? = w.heap[g]?) : OwnA w' e k g off n cap cs := by
  obtain ⟨cur, hb, r⟩ := h.row
  exact ⟨⟨cur, hb.keep hk, r⟩, h.len, h.le, h.max⟩
theorem OwnA.chg {w w' : World} {e : TypeId} {k g off n cap : Nat} {cs : List Value} (h : OwnA w e k g off n cap cs) {S : Nat → Prop} (hc : Chg S w w') (hg : ¬ S g) : OwnA w' e k g off n cap cs := h.keep (hc.block g h.lt hg)
theorem OwnA.alloc {w : World} {e : TypeId} {k g off n cap : Nat} {cs : List Value} (h : OwnA w e k g off n cap cs) (o : Obj) : OwnA (w.alloc o) e k g off n cap cs := h.keep (Below.heap_alloc _ _ _ h.lt)
theorem OwnA.far {w : World} {e : TypeId} {k g off n cap : Nat} {cs : List Value} (h : OwnA w e k g off n cap cs) {p : Addr} (hp : g ≠ p.block) (u : Value) : OwnA (w.setCell p u) e k g off n cap cs := h.keep (Below.heap_setCell w p u g hp)
theorem OwnA.cell {w : World} {e : TypeId} {k g off n cap : Nat} {cs : List Value} (h : OwnA w e k g off n cap cs) {j : Nat} {u : Value} (hu : cs[j]? = some u) : w.cell? ⟨g, off + j, none⟩ = some u := by
  obtain ⟨cur, hb, _, hc⟩ := h.row
  rw [hb.cell]
  exact hc j u hu
theorem OwnA.read {α : Type} {f : α → List Value} {k : Nat} (hf : ∀ x, (f x).length = k) (hk : 0 < k) {w : World} {e : TypeId} {g off n cap : Nat} {l : List α} (h : OwnA w e k g off n cap (l.flatMap f)) : SlRead f k w (some ⟨g, off, none⟩) n cap l :=
  ⟨Nat.eq_of_mul_eq_mul_right hk (by rw [← flatMap_len hf]; exact h.len), h.le, h.max, (fun e => by cases e), fun i x hx => ⟨_, rfl, fun j u hu => by
    rw [Addr.add_lit]
    exact h.cell (flatMap_get hf l i x j u hx hu)⟩⟩
theorem OwnA.take_ {w : World} {e : TypeId} {k g off n cap : Nat} {cs : List Value} (h : OwnA w e k g off n cap cs) (m : Nat) (hm : m ≤ n) : OwnA w e k g off m cap (cs.take (m * k)) := by
  obtain ⟨cur, hb, hs, hc⟩ := h.row
  refine ⟨⟨cur, hb, hs, fun j u hu => hc j u ?_⟩, ?_, Nat.le_trans hm h.le, h.max⟩
  · rw [List.getElem?_take] at hu
    split at hu
    · exact hu
    · cases hu
  · rw [List.length_take, h.len]
    exact Nat.min_eq_left (Nat.mul_le_mul_right _ hm)
theorem OwnA.drop_ {w : World} {e : TypeId} {k g off n cap : Nat} {cs : List Value} (h : OwnA w e k g off n cap cs) (m : Nat) (hm : m ≤ n) : OwnA w e k g (off + m * k) (n - m) (cap - m) (cs.drop (m * k)) := by
  obtain ⟨cur, hb, hs, hc⟩ := h.row
  have hle := h.le
  refine ⟨⟨cur, hb, ?_, fun j u hu => ?_⟩, ?_, by omega, by have := h.max; omega⟩
  · have : m * k + (cap - m) * k = cap * k := by rw [← Nat.add_mul]; congr 1; omega
    omega
  · rw [List.getElem?_drop] at hu
    rw [Nat.add_assoc]
    exact hc _ u hu
  · rw [List.length_drop, h.len, Nat.sub_mul]

theorem setCells_blk (g : Nat) (e : TypeId) : ∀ (vs : List Value) (o : Nat) (w : World) (cur : Array Value), Blk w g cur e → o + vs.length ≤ cur.size →
    Chg (· = g) w (w.setCells g o vs) ∧ ∃ cur' : Array Value, Blk (w.setCells g o vs) g cur' e ∧ cur'.size = cur.size ∧ (∀ j u, vs[j]? = some u → cur'[o + j]? = some u) ∧ ∀ i, i < o → cur'[i]? = cur[i]? := by
  intro vs
  induction vs with
  | nil => intro o w cur hb _; exact ⟨Chg.refl _ _, cur, hb, rfl, by simp, fun _ _ => rfl⟩
  | cons v vs ih =>
    intro o w cur hb hl
    simp only [List.length_cons] at hl
    obtain ⟨hc, cur', hb', hs, h1, h2⟩ := ih (o + 1) (w.setCell ⟨g, o, none⟩ v) (cur.setIfInBounds o v) (hb.set o v) (by simp; omega)
    refine ⟨((Chg.refl (· = g) w).setCell (.inl rfl) v).trans hc (fun i hi => .inl hi), cur', hb', by simpa using hs, fun j u hu => ?_, fun i hi => ?_⟩
    · cases j with
      | zero =>
        simp at hu; subst hu
        rw [Nat.add_zero, h2 o (by omega)]
        simp [Array.getElem?_setIfInBounds]
        omega
      | succ j =>
        have := h1 j u (by simpa using hu)
        rw [show o + (j + 1) = o + 1 + j by omega]
        exact this
    · rw [h2 i (by omega)]
      simp [Array.getElem?_setIfInBounds]
      omega

/-- An append of at least one element to such a slice. -/
theorem ap_any {P : Program} {w : World} {ops : Array Oper} {rest : List Oper} {o : Oper} {a : Act} {Q : Exit → Act → World → Prop}
    (hg : o.guard = none) (s x : Operand) (t : TypeId) (hop : o.op = Op.call { callee := Callee.builtin Builtin.append, args := #[s, x], argTypes := #[t, t] })
    (e : TypeId) (z : Value) (size bytes : Nat) (h1 : P.underlying t = some (.slice e)) (hinfo : (P.info? e).map (fun i => (i.zero, i.size, i.bytes)) = some (some z, size, bytes)) (h6 : z.cells.size = size) (h7 : 0 < size)
    (g off n cap : Nat) (olds : List Value) (hs : a.eval s = .slice (some ⟨g, off, none⟩) n cap) (hown : OwnA w e size g off n cap olds)
    (ad : Addr) (m c : Nat) (news : List Value) (hx : a.eval x = .slice (some ad) m c) (hn : news.length = m * size) (hc : ∀ j u, news[j]? = some u → w.cell? (ad.add j) = some u) (h1c : ∀ u ∈ news, u.oneCell' = true)
    (hm : 0 < m) (b1 : n + m ≤ maxLen) (b2 : (n + m) * bytes ≤ 140737488355328)
    (hK : ∀ g' off' cap' w', OwnA w' e size g' off' (n + m) cap' (olds ++ news) → Chg (· = g) w w' → (g' = g ∨ w.heap.size ≤ g') → wpList P ops Q rest (a.put o.dst (.slice (some ⟨g', off', none⟩) (n + m) cap')) w') :
    wpList P ops Q (o :: rest) a w := by
  obtain ⟨i, hi, hz0, hz1, hz2⟩ := info_parts hinfo
  obtain ⟨cur, hb, hsz, hcs⟩ := hown.row
  refine wpList_append_arg w hg s x t hop e i z size bytes h1 hi hz0 hz1 hz2 h6 h7 g off n cap olds hs hown.len (fun j u hu => hown.cell hu) ad m c news hx hn hc h1c ?_ b1 b2 ?_ ?_
  · intro hr j hj
    refine ⟨?_, hb.frozen _⟩
    rw [hb.cell]
    have h2 : (n + m) * size ≤ cap * size := Nat.mul_le_mul_right _ hr
    rw [Nat.add_mul] at h2
    rw [Array.getElem?_eq_getElem (by omega)]
    rfl
  · intro hr
    have h2 : (n + m) * size ≤ cap * size := Nat.mul_le_mul_right _ hr
    rw [Nat.add_mul] at h2
    obtain ⟨hch, cur', hb', hs', k1, k2⟩ := setCells_blk g e news (off + n * size) w cur hb (by omega)
    refine hK g off cap _ ⟨⟨cur', hb', by omega, fun j u hu => ?_⟩, by rw [List.length_append, hown.len, hn, Nat.add_mul], hr, hown.max⟩ hch (.inl rfl)
    by_cases hj : j < olds.length
    · rw [List.getElem?_append_left hj] at hu
      rw [k2 _ (by have := hown.len; omega)]
      exact hcs j u hu
    · rw [List.getElem?_append_right (by omega)] at hu
      have := k1 _ u hu
      rw [show off + j = off + n * size + (j - olds.length) by have := hown.len; omega]
      exact this
  · intro hr v' w' ho hgr
    obtain ⟨g', cap', rfl, hb1, _, _, _, _, _⟩ := own_cells ho (by omega)
    exact hK g' 0 cap' w' (OwnA.of_own ho) ((Chg.of_grown hgr).mono (fun _ _ h => by simp at h)) (.inr hb1)

end Go.Proofs.Ytggbgfdgpkbmhaa
