/-
  Words on memory that all texts of this seat use: what a call may have changed, a block known whole, a slice that reads as a list, a row that is owned.
-/
import Derived.WalkKit
import Derived.OwnWalk
import Derived.Below
import Derived.Laws.OwnMore
import Derived.Laws.MakeOwn
import Derived.ArgAppend
import Derived.Deep.Draws
import Derived.Deep.AppendLies
import Derived.Outline
import Derived.Lib.Hide
import Derived.KernelRfl
namespace Go.Proofs.Ytmdpbbnieehmnaa
open Go.RowKit

/-- w' is w, but for blocks of S and new ones. -/
structure Chg (S : Nat → Prop) (w w' : World) : Prop where
  os : w'.os = w.os
  tape : w'.tape = w.tape
  output : w'.output = w.output
  size : w.heap.size ≤ w'.heap.size
  block : ∀ k, k < w.heap.size → ¬ S k → w'.heap[k]? = w.heap[k]?

def Non : Nat → Prop := fun _ => False

theorem Chg.refl (S : Nat → Prop) (w : World) : Chg S w w := ⟨rfl, rfl, rfl, Nat.le_refl _, fun _ _ _ => rfl⟩
theorem Chg.trans {S S1 : Nat → Prop} {w w1 w2 : World} (h : Chg S w w1) (k : Chg S1 w1 w2) (hs : ∀ i, S1 i → S i ∨ w.heap.size ≤ i) : Chg S w w2 :=
  ⟨k.os.trans h.os, k.tape.trans h.tape, k.output.trans h.output, Nat.le_trans h.size k.size, fun i hi hn =>
    (k.block i (Nat.lt_of_lt_of_le hi h.size) (fun hs1 => (hs i hs1).elim hn (fun hl => by omega))).trans (h.block i hi hn)⟩
theorem Chg.mono {S S1 : Nat → Prop} {w w1 : World} (h : Chg S w w1) (hs : ∀ i, i < w.heap.size → S i → S1 i) : Chg S1 w w1 :=
  ⟨h.os, h.tape, h.output, h.size, fun i hi hn => h.block i hi (fun x => hn (hs i hi x))⟩
theorem Chg.of_below {w w1 : World} (h : Below w.heap.size w w1) (S : Nat → Prop) : Chg S w w1 := ⟨h.os, h.tape, h.output, h.size, fun i hi _ => h.block i hi⟩
theorem Chg.below {S : Nat → Prop} {w w1 : World} (h : Chg S w w1) {B : Nat} (hB : B ≤ w.heap.size) (hs : ∀ i, S i → B ≤ i) : Below B w w1 :=
  ⟨h.os, h.tape, h.output, h.size, fun i hi => h.block i (by omega) (fun x => by have := hs i x; omega)⟩
theorem Chg.non_below {w w1 : World} (h : Chg Non w w1) : Below w.heap.size w w1 := h.below (Nat.le_refl _) (fun _ x => x.elim)
theorem Chg.of_grown {w w1 : World} {row : Option Nat} (h : w.grownBy w1 row) : Chg (fun k => some k = row) w w1 := ⟨h.os, h.tape, h.output, h.size, fun i hi hn => h.block i hi hn⟩
theorem Chg.alloc {S : Nat → Prop} {w w1 : World} (h : Chg S w w1) (o : Obj) : Chg S w (w1.alloc o) :=
  h.trans (S1 := Non) ⟨rfl, rfl, rfl, by simp, fun k hk _ => Below.heap_alloc _ _ _ hk⟩ (fun _ x => x.elim)
theorem Chg.drew {S : Nat → Prop} {w w1 : World} (h : Chg S w w1) : Chg S w w1.drew := ⟨h.os, h.tape, h.output, h.size, h.block⟩
theorem Chg.drewN {S : Nat → Prop} {w w1 : World} (h : Chg S w w1) (n : Nat) : Chg S w (w1.drewN n) := ⟨h.os, h.tape, h.output, h.size, h.block⟩
theorem Chg.setCell {S : Nat → Prop} {w w1 : World} (h : Chg S w w1) {p : Addr} (hp : S p.block ∨ w.heap.size ≤ p.block) (u : Value) : Chg S w (w1.setCell p u) :=
  h.trans (S1 := fun k => k = p.block) ⟨rfl, rfl, rfl, by simp [World.setCell], fun k _ hn => Below.heap_setCell _ _ _ _ hn⟩ (fun i hi => by subst hi; exact hp)
theorem Chg.then_below {S : Nat → Prop} {w w1 w2 : World} (h : Chg S w w1) (k : Below w1.heap.size w1 w2) : Chg S w w2 := h.trans (Chg.of_below k Non) (fun _ x => x.elim)
theorem Chg.grown {S : Nat → Prop} {w w1 w2 : World} {row : Option Nat} (h : Chg S w w1) (k : w1.grownBy w2 row) (hr : ∀ i, row = some i → S i ∨ w.heap.size ≤ i) : Chg S w w2 :=
  h.trans (Chg.of_grown k) (fun i hi => hr i hi.symm)

theorem Chg.cell {S : Nat → Prop} {w w1 : World} (h : Chg S w w1) {a : Addr} {v : Value} (hc : w.cell? a = some v) (hn : ¬ S a.block) : w1.cell? a = some v :=
  (World.cell?_of_block (h.block a.block (World.block_lt_of_cell? w a hc) hn)).trans hc
theorem add_field (ad : Addr) (m j : Nat) (hj : 0 < j) : ad.add (m + j) = ⟨(ad.add m).block, (ad.add m).off + j, none⟩ := by
  unfold Addr.add
  by_cases hm : m = 0
  · subst hm; simp [show j ≠ 0 by omega]
  · simp [hm]; omega

/-- A block that is known whole. -/
def Blk (w : World) (g : Nat) (cs : Array Value) (t : TypeId) : Prop := w.heap[g]? = some (.cells cs t (0, 0))
theorem Blk.lt {w : World} {g : Nat} {cs : Array Value} {t : TypeId} (h : Blk w g cs t) : g < w.heap.size := (Array.getElem?_eq_some_iff.1 h).1
theorem Blk.cell {w : World} {g : Nat} {cs : Array Value} {t : TypeId} (h : Blk w g cs t) (i : Nat) : w.cell? ⟨g, i, none⟩ = cs[i]? := cell_of_row w g i cs t (0, 0) h
theorem Blk.frozen {w : World} {g : Nat} {cs : Array Value} {t : TypeId} (h : Blk w g cs t) (i : Nat) : w.frozen? ⟨g, i, none⟩ = false := by
  have h' : w.heap[g]? = some (.cells cs t (0, 0)) := h
  simp [World.frozen?, h']
theorem Blk.new (w : World) (cs : Array Value) (t : TypeId) : Blk (w.alloc (.cells cs t)) w.heap.size cs t := heap_alloc_new w _
theorem Blk.new_at {w : World} {cs : Array Value} {t : TypeId} {g : Nat} (h : g = w.heap.size) : Blk (w.alloc (.cells cs t)) g cs t := h ▸ Blk.new w cs t
theorem Blk.keep {w w' : World} {g : Nat} {cs : Array Value} {t : TypeId} (h : Blk w g cs t) (hk : w'.heap[g]? = w.heap[g]?) : Blk w' g cs t := hk.trans h
theorem Blk.alloc {w : World} {g : Nat} {cs : Array Value} {t : TypeId} (h : Blk w g cs t) (o : Obj) : Blk (w.alloc o) g cs t := h.keep (Below.heap_alloc _ _ _ h.lt)
theorem Blk.drew {w : World} {g : Nat} {cs : Array Value} {t : TypeId} (h : Blk w g cs t) : Blk w.drew g cs t := h
theorem Blk.drewN {w : World} {g : Nat} {cs : Array Value} {t : TypeId} (h : Blk w g cs t) (n : Nat) : Blk (w.drewN n) g cs t := h
theorem Blk.chg {w w' : World} {g : Nat} {cs : Array Value} {t : TypeId} (h : Blk w g cs t) {S : Nat → Prop} (hc : Chg S w w') (hn : ¬ S g) : Blk w' g cs t := h.keep (hc.block g h.lt hn)
theorem Blk.below {w w' : World} {g : Nat} {cs : Array Value} {t : TypeId} (h : Blk w g cs t) (hb : Below w.heap.size w w') : Blk w' g cs t := h.keep (hb.block g h.lt)
theorem Blk.set {w : World} {g : Nat} {cs : Array Value} {t : TypeId} (h : Blk w g cs t) (i : Nat) (u : Value) : Blk (w.setCell ⟨g, i, none⟩ u) g (cs.setIfInBounds i u) t := by
  have h' : w.heap[g]? = some (.cells cs t (0, 0)) := h
  simp [Blk, World.setCell, Array.getElem?_modify, h']
theorem Blk.far {w : World} {g : Nat} {cs : Array Value} {t : TypeId} (h : Blk w g cs t) {p : Addr} (hp : g ≠ p.block) (u : Value) : Blk (w.setCell p u) g cs t := h.keep (Below.heap_setCell w p u g hp)

theorem cell_keep {w w' : World} {a : Addr} {v : Value} (hb : Below w.heap.size w w') (hc : w.cell? a = some v) : w'.cell? a = some v := (hb.cell (World.block_lt_of_cell? w a hc)).trans hc
theorem bel_then {a w w' : World} (h : Below a.heap.size a w) (hb : Below w.heap.size w w') : Below a.heap.size a w' := h.trans (hb.mono h.size)
theorem cell_alloc {w : World} {a : Addr} {v : Value} (hc : w.cell? a = some v) (o : Obj) : (w.alloc o).cell? a = some v := (World.cell?_of_block (Below.heap_alloc _ _ _ (World.block_lt_of_cell? w a hc))).trans hc
theorem ret_int {k : IntKind} {a b : Int} (h : a = b) : Ending.returned (.int k a) = .returned (.int k b) := by rw [h]
theorem add_plain (g j : Nat) : (⟨g, 0, none⟩ : Addr).add j = ⟨g, j, none⟩ := by unfold Addr.add; split <;> simp_all
theorem Blk.reads {w : World} {g : Nat} {cs : Array Value} {t : TypeId} (h : Blk w g cs t) (l : List Value) (hl : cs.toList = l) : ∀ b, some (⟨g, 0, none⟩ : Addr) = some b → ∀ j u, l[j]? = some u → w.cell? (b.add j) = some u := by
  intro b hb j u hu
  cases hb
  subst hl
  rw [add_plain, h.cell]
  simpa using hu
theorem Blk.reads' {w : World} {g : Nat} {cs : Array Value} {t : TypeId} (h : Blk w g cs t) (l : List Value) (hl : cs.toList = l) : ∀ j u, l[j]? = some u → w.cell? ((⟨g, 0, none⟩ : Addr).add j) = some u := h.reads l hl _ rfl
/-- What an owned row holds, cell by cell. -/
theorem own_cells {w : World} {base : Nat} {e : TypeId} {k n : Nat} {v : Value} {cs : List Value} (h : w.ownsRow base e k v n cs) (hn : 0 < n) : ∃ g cap, v = .slice (some ⟨g, 0, none⟩) n cap ∧ base ≤ g ∧ n ≤ cap ∧ cap ≤ maxLen ∧ g < w.heap.size ∧ (∀ j u, cs[j]? = some u → w.cell? ⟨g, j, none⟩ = some u) ∧ ∀ j, w.frozen? ⟨g, j, none⟩ = false := by
  have hc := h
  obtain ⟨h1, h2⟩ := h
  rcases h2 with ⟨_, h0⟩ | ⟨g, cap, cur, rfl, hb, hh, hle, hm, hs, ht⟩
  · omega
  · refine ⟨g, cap, rfl, hb, hle, hm, (Array.getElem?_eq_some_iff.1 hh).1, fun j u hu => ?_, fun j => by simp [World.frozen?, hh]⟩
    rw [← add_plain]
    exact hc.cells rfl j u hu

theorem add_of_add (a : Addr) (i j : Nat) : (a.add i).add j = a.add (i + j) := by
  unfold Addr.add
  by_cases hi : i = 0 <;> by_cases hj : j = 0 <;> simp [hi, hj, Nat.add_assoc]
theorem block_of_add (a : Addr) (n : Nat) : (a.add n).block = a.block := by unfold Addr.add; split <;> rfl

/-- The slice value '.slice A n c' reads as the list xs; z cells an element. -/
structure SlRead {α : Type} (cells : α → List Value) (z : Nat) (w : World) (A : Option Addr) (n c : Nat) (xs : List α) : Prop where
  len : xs.length = n
  cap : n ≤ c
  max : c ≤ maxLen
  nil : A = none → c = 0
  cell : ∀ (i : Nat) x, xs[i]? = some x → ∃ ad, A = some ad ∧ ∀ j u, (cells x)[j]? = some u → w.cell? (ad.add (i * z + j)) = some u

theorem SlRead.keep {α : Type} {cells : α → List Value} {z : Nat} {w w' : World} {A : Option Addr} {n c : Nat} {xs : List α} (h : SlRead cells z w A n c xs) (hk : ∀ ad, A = some ad → ∀ p : Addr, p.block = ad.block → ∀ u, w.cell? p = some u → w'.cell? p = some u) : SlRead cells z w' A n c xs :=
  ⟨h.len, h.cap, h.max, h.nil, fun i x hx => by
    obtain ⟨ad, e, hc⟩ := h.cell i x hx
    exact ⟨ad, e, fun j u hu => hk ad e _ (block_of_add _ _) u (hc j u hu)⟩⟩
theorem SlRead.chg {α : Type} {cells : α → List Value} {z : Nat} {w w' : World} {A : Option Addr} {n c : Nat} {xs : List α} (h : SlRead cells z w A n c xs) {S : Nat → Prop} (hc : Chg S w w') (hs : ∀ ad, A = some ad → ¬ S ad.block) : SlRead cells z w' A n c xs :=
  h.keep fun ad e _ hp _ hu => hc.cell hu (by rw [hp]; exact hs ad e)
theorem SlRead.below {α : Type} {cells : α → List Value} {z : Nat} {w w' : World} {A : Option Addr} {n c : Nat} {xs : List α} (h : SlRead cells z w A n c xs) (hb : Below w.heap.size w w') : SlRead cells z w' A n c xs := h.chg (Chg.of_below hb Non) (fun _ _ x => x)
theorem SlRead.non {α : Type} {cells : α → List Value} {z : Nat} {w w' : World} {A : Option Addr} {n c : Nat} {xs : List α} (h : SlRead cells z w A n c xs) (hb : Chg Non w w') : SlRead cells z w' A n c xs := h.chg hb (fun _ _ x => x)

/-- An append that must make a new row. -/
theorem ap_grow {P : Program} {w : World} {ops : Array Oper} {rest : List Oper} {o : Oper} {a : Act} {Q : Exit → Act → World → Prop}
    (hg : o.guard = none) (s x : Operand) (t : TypeId) (hop : o.op = Op.call { callee := Callee.builtin Builtin.append, args := #[s, x], argTypes := #[t, t] })
    (e : TypeId) (z : Value) (size bytes : Nat) (h1 : P.underlying t = some (.slice e)) (hinfo : (P.info? e).map (fun i => (i.zero, i.size, i.bytes)) = some (some z, size, bytes)) (h6 : z.cells.size = size) (h7 : 0 < size)
    (ao : Option Addr) (n cap : Nat) (olds : List Value) (hs : a.eval s = .slice ao n cap) (hnone : ao = none → n = 0 ∧ cap = 0) (hlo : olds.length = n * size) (holds : ∀ b, ao = some b → ∀ j u, olds[j]? = some u → w.cell? (b.add j) = some u)
    (ad : Addr) (m c : Nat) (news : List Value) (hx : a.eval x = .slice (some ad) m c) (hn : news.length = m * size) (hc : ∀ j u, news[j]? = some u → w.cell? (ad.add j) = some u) (h1c : ∀ u ∈ news, u.oneCell' = true)
    (hfull : cap < n + m) (b1 : n + m ≤ maxLen) (b2 : (n + m) * bytes ≤ 140737488355328)
    (hK : ∀ g cap' w', n + m ≤ cap' → cap' ≤ maxLen → w'.ownsRow w.heap.size e size (.slice (some ⟨g, 0, none⟩) (n + m) cap') (n + m) (olds ++ news) → Chg Non w w' → wpList P ops Q rest (a.put o.dst (.slice (some ⟨g, 0, none⟩) (n + m) cap')) w') :
    wpList P ops Q (o :: rest) a w := by
  obtain ⟨i, hi, hz0, hz1, hz2⟩ := info_parts hinfo
  refine wpList_append_grows w hg s x t hop e i z size bytes h1 hi hz0 hz1 hz2 h6 h7 ao n cap olds hs hnone hlo holds ad m c news hx hn hc h1c hfull b1 b2 ?_
  intro v' w' hown hgr
  obtain ⟨g, cap', rfl, hb1, hb2, hb3, hb4, _, _⟩ := own_cells hown (by omega)
  exact hK g cap' w' hb2 hb3 hown ⟨hgr.os, hgr.tape, hgr.output, hgr.size, fun i hi _ => hgr.block i hi (by simp)⟩

/-- An owned row of whole numbers, cell by cell. -/
theorem own_ints {w : World} {base : Nat} {e : TypeId} {n g cap : Nat} {k : IntKind} {xs : List Int} (h : w.ownsRow base e 1 (.slice (some ⟨g, 0, none⟩) n cap) n (xs.map (Value.int k))) : ∀ i, i < xs.length → w.cell? ⟨g, i, none⟩ = some (.int k (xs[i]?.getD 0)) := by
  intro i hi
  rw [← add_plain]
  exact h.cells rfl i _ (by simp [List.getElem?_eq_getElem hi])

theorem own_keep {w w' : World} {base : Nat} {e : TypeId} {k n : Nat} {v : Value} {cs : List Value} (h : w.ownsRow base e k v n cs) (hk : ∀ b, v.ownBlock = some b → w'.heap[b]? = w.heap[b]?) : w'.ownsRow base e k v n cs := by
  obtain ⟨h1, h2⟩ := h
  refine ⟨h1, ?_⟩
  rcases h2 with h2 | ⟨g, cap, cur, hv, hb, hh, r⟩
  · exact .inl h2
  · exact .inr ⟨g, cap, cur, hv, hb, (hk g (by rw [hv]; rfl)).trans hh, r⟩
theorem own_block_lt {w : World} {base : Nat} {e : TypeId} {k n g cap : Nat} {cs : List Value} (h : w.ownsRow base e k (.slice (some ⟨g, 0, none⟩) n cap) n cs) : g < w.heap.size := by
  obtain ⟨_, h2⟩ := h
  rcases h2 with ⟨hv, _⟩ | ⟨g', cap', cur, hv, _, hh, _⟩
  · cases hv
  · cases hv; exact (Array.getElem?_eq_some_iff.1 hh).1
theorem own_alloc {w : World} {base : Nat} {e : TypeId} {k n g cap : Nat} {cs : List Value} (h : w.ownsRow base e k (.slice (some ⟨g, 0, none⟩) n cap) n cs) (o : Obj) : (w.alloc o).ownsRow base e k (.slice (some ⟨g, 0, none⟩) n cap) n cs := own_keep h (fun b hb => by simp [Value.ownBlock] at hb; subst hb; exact Below.heap_alloc _ _ _ (own_block_lt h))
theorem own_drewN {w : World} {base : Nat} {e : TypeId} {k n : Nat} {v : Value} {cs : List Value} (h : w.ownsRow base e k v n cs) (q : Nat) : (w.drewN q).ownsRow base e k v n cs := h
theorem own_chg {w w' : World} {base : Nat} {e : TypeId} {k n g cap : Nat} {cs : List Value} (h : w.ownsRow base e k (.slice (some ⟨g, 0, none⟩) n cap) n cs) {S : Nat → Prop} (hc : Chg S w w') (hg : ¬ S g) : w'.ownsRow base e k (.slice (some ⟨g, 0, none⟩) n cap) n cs := own_keep h (fun b hb => by simp [Value.ownBlock] at hb; subst hb; exact hc.block g (own_block_lt h) hg)
theorem own_far {w : World} {base : Nat} {e : TypeId} {k n g cap : Nat} {cs : List Value} (h : w.ownsRow base e k (.slice (some ⟨g, 0, none⟩) n cap) n cs) {p : Addr} (hp : g ≠ p.block) (u : Value) : (w.setCell p u).ownsRow base e k (.slice (some ⟨g, 0, none⟩) n cap) n cs := own_keep h (fun b hb => by simp [Value.ownBlock] at hb; subst hb; exact Below.heap_setCell w p u g hp)
theorem ownsRow_base {w : World} {base : Nat} {e : TypeId} {k n : Nat} {v : Value} {cs : List Value} (h : w.ownsRow base e k v n cs) : w.ownsRow 0 e k v n cs := by
  obtain ⟨h1, h2⟩ := h
  refine ⟨h1, ?_⟩
  rcases h2 with h2 | ⟨g, cap, cur, hv, hb, r⟩
  · exact .inl h2
  · exact .inr ⟨g, cap, cur, hv, Nat.zero_le _, r⟩
theorem flatMap_len {α : Type} {f : α → List Value} {k : Nat} (hf : ∀ x, (f x).length = k) (l : List α) : (l.flatMap f).length = l.length * k := by
  induction l with
  | nil => simp
  | cons x l ih => simp [hf, ih, Nat.add_mul, Nat.add_comm]
theorem flatMap_get {α : Type} {f : α → List Value} {k : Nat} (hf : ∀ x, (f x).length = k) : ∀ (l : List α) (i : Nat) (x : α) (j : Nat) (u : Value), l[i]? = some x → (f x)[j]? = some u → (l.flatMap f)[i * k + j]? = some u := by
  intro l
  induction l with
  | nil => intro i x j u h; simp at h
  | cons y l ih =>
    intro i x j u h hu
    rw [List.flatMap_cons]
    cases i with
    | zero =>
      simp at h; subst h
      rw [Nat.zero_mul, Nat.zero_add, List.getElem?_append_left (by have := (List.getElem?_eq_some_iff.1 hu).1; omega)]
      exact hu
    | succ i =>
      have h' : l[i]? = some x := by simpa using h
      rw [List.getElem?_append_right (by rw [hf, Nat.succ_mul]; omega), hf, show (i + 1) * k + j - k = i * k + j by rw [Nat.succ_mul]; omega]
      exact ih i x j u h' hu
theorem flatMap_back {α : Type} {f : α → List Value} {k : Nat} (hf : ∀ x, (f x).length = k) (hk : 0 < k) : ∀ (l : List α) (q : Nat) (u : Value), (l.flatMap f)[q]? = some u → ∃ x, l[q / k]? = some x ∧ (f x)[q % k]? = some u := by
  intro l q u h
  have hq : q < l.length * k := by have := (List.getElem?_eq_some_iff.1 h).1; rwa [flatMap_len hf] at this
  have hi : q / k < l.length := Nat.div_lt_of_lt_mul (by rw [Nat.mul_comm]; exact hq)
  refine ⟨l[q / k], List.getElem?_eq_getElem hi, ?_⟩
  have hr : q % k < (f l[q / k]).length := by rw [hf]; exact Nat.mod_lt _ hk
  have := flatMap_get hf l (q / k) _ (q % k) _ (List.getElem?_eq_getElem hi) (List.getElem?_eq_getElem hr)
  rw [Nat.div_add_mod' q k, h] at this
  rw [List.getElem?_eq_getElem hr]
  exact this.symm
/-- An owned row reads as its list. -/
theorem own_read {α : Type} {f : α → List Value} {k : Nat} (hf : ∀ x, (f x).length = k) {w : World} {base g n cap : Nat} {e : TypeId} {l : List α} (h : w.ownsRow base e k (.slice (some ⟨g, 0, none⟩) n cap) n (l.flatMap f)) (hk : 0 < k) : SlRead f k w (some ⟨g, 0, none⟩) n cap l := by
  have h0 := h
  have h1 := h.1
  rw [flatMap_len hf] at h1
  have hl : l.length = n := Nat.eq_of_mul_eq_mul_right hk h1
  obtain ⟨_, h2⟩ := h
  rcases h2 with ⟨hv, _⟩ | ⟨g', cap', cur, hv, _, _, hle, hm, _, _⟩
  · cases hv
  · cases hv
    exact ⟨hl, hle, hm, (fun x => by cases x), fun i x hx => ⟨_, rfl, fun j u hu => h0.cells rfl _ _ (flatMap_get hf l i x j u hx hu)⟩⟩
theorem SlRead.flat {α : Type} {f : α → List Value} {k : Nat} (hf : ∀ x, (f x).length = k) (hk : 0 < k) {w : World} {A : Option Addr} {n c : Nat} {l : List α} (h : SlRead f k w A n c l) : ∀ b, A = some b → ∀ j u, (l.flatMap f)[j]? = some u → w.cell? (b.add j) = some u := by
  intro b hb j u hu
  obtain ⟨x, hx, hu'⟩ := flatMap_back hf hk l j u hu
  obtain ⟨ad, e, hc⟩ := h.cell _ x hx
  rw [hb] at e; cases e
  have := hc _ _ hu'
  rwa [Nat.div_add_mod' j k] at this

theorem own_room {w : World} {e size n m cap g : Nat} {cur : Array Value} {xs news : List Value} (hg : w.heap[g]? = some (.cells cur e (0, 0))) (hm : cap ≤ maxLen) (hcs : cur.size = cap * size) (htake : cur.toList.take (n * size) = xs) (hx : xs.length = n * size) (hl : news.length = m * size) (hroom : n + m ≤ cap) :
    (w.setRow g (cur.toList.take (n * size) ++ (news ++ cur.toList.drop (n * size + news.length))).toArray).ownsRow 0 e size (.slice (some ⟨g, 0, none⟩) (n + m) cap) (n + m) (xs ++ news) := by
  have hlen : (xs ++ news).length = (n + m) * size := by rw [List.length_append, hx, hl, Nat.add_mul]
  have hfit : n * size + news.length ≤ cur.size := by rw [hl, hcs, ← Nat.add_mul]; exact Nat.mul_le_mul_right _ hroom
  refine ⟨hlen, .inr ⟨g, cap, _, rfl, Nat.zero_le _, setRow_heap w g cur _ e _ hg, hroom, hm, ?_, ?_⟩⟩
  · simp only [List.size_toArray, List.length_append, List.length_take, List.length_drop, Array.length_toList]
    omega
  · rw [htake, ← List.append_assoc, ← hlen]
    exact List.take_left

/-- An append to an owned row, of at least one element: the row stays where it is, or is made anew. -/
theorem ap_own {P : Program} {w : World} {ops : Array Oper} {rest : List Oper} {o : Oper} {a : Act} {Q : Exit → Act → World → Prop}
    (hg : o.guard = none) (s x : Operand) (t : TypeId) (hop : o.op = Op.call { callee := Callee.builtin Builtin.append, args := #[s, x], argTypes := #[t, t] })
    (e : TypeId) (z : Value) (size bytes : Nat) (h1 : P.underlying t = some (.slice e)) (hinfo : (P.info? e).map (fun i => (i.zero, i.size, i.bytes)) = some (some z, size, bytes)) (h6 : z.cells.size = size) (h7 : 0 < size)
    (v : Value) (n : Nat) (olds : List Value) (hs : a.eval s = v) (hown : w.ownsRow 0 e size v n olds)
    (ad : Addr) (m c : Nat) (news : List Value) (hx : a.eval x = .slice (some ad) m c) (hn : news.length = m * size) (hc : ∀ j u, news[j]? = some u → w.cell? (ad.add j) = some u) (h1c : ∀ u ∈ news, u.oneCell' = true)
    (hm : 0 < m) (b1 : n + m ≤ maxLen) (b2 : (n + m) * bytes ≤ 140737488355328)
    (hK : ∀ g cap' w', w'.ownsRow 0 e size (.slice (some ⟨g, 0, none⟩) (n + m) cap') (n + m) (olds ++ news) → Chg (fun k => v.ownBlock = some k) w w' → (v.ownBlock = some g ∨ w.heap.size ≤ g) → wpList P ops Q rest (a.put o.dst (.slice (some ⟨g, 0, none⟩) (n + m) cap')) w') :
    wpList P ops Q (o :: rest) a w := by
  obtain ⟨i, hi, hz0, hz1, hz2⟩ := info_parts hinfo
  rcases hown.2 with ⟨rfl, rfl⟩ | ⟨g, cap, cur, rfl, _, hgg, hnc, hcm, hcs, htake⟩
  · refine wpList_append_own w hg s x t hop w.heap.size e i z size bytes h1 hi hz0 hz1 hz2 h6 h7 _ 0 olds hs ⟨hown.1, .inl ⟨rfl, rfl⟩⟩ ad m c news hx hn hc h1c b1 b2 (Nat.le_refl _) ?_
    intro v' w' ho hgr _
    obtain ⟨g, cap, rfl, hb, _, _, _, _, _⟩ := own_cells ho (by omega)
    exact hK g cap w' (ownsRow_base ho) ((Chg.of_grown hgr).mono (fun i _ h => by simp [Value.ownBlock] at h)) (.inr hb)
  · by_cases hroom : n + m ≤ cap
    · refine wpList_plain hg fun K hK' => ?_
      have hr := run_append_room (P := P) w t o.type e i h1 hi g n cap cur hgg ad m c news (by rw [hn, hz1]) hc h1c hroom (by rw [hz1, hn, hcs, ← Nat.add_mul]; exact Nat.mul_le_mul_right _ hroom)
      rw [hz1] at hr
      unfold Oper.wp
      simp [execOp, hop, resolve, invoke, builtin, hs, hx, hr, Result.andThen]
      refine hK' _ _ (hK g cap _ (own_room hgg hcm hcs htake hown.1 hn hroom) ?_ (.inl rfl))
      exact ⟨rfl, rfl, rfl, by simp, fun k _ hk => setRow_other w g k _ (fun e => hk (by simp [Value.ownBlock, e]))⟩
    · refine ap_grow hg s x t hop e z size bytes h1 hinfo h6 h7 (some ⟨g, 0, none⟩) n cap olds hs (fun h => by cases h) hown.1 (fun b hb => by cases hb; exact hown.cells rfl) ad m c news hx hn hc h1c (by omega) b1 b2 ?_
      intro g' cap' w' _ _ ho hch
      have hge := (own_cells ho (by omega))
      obtain ⟨g2, cap2, e2, hb2, _⟩ := hge
      cases e2
      exact hK g' cap' w' (ownsRow_base ho) (hch.mono (fun i _ h => h.elim)) (.inr hb2)

theorem SlRead.take_ {α : Type} {f : α → List Value} {k : Nat} {w : World} {A : Option Addr} {n c : Nat} {l : List α} (h : SlRead f k w A n c l) (m : Nat) (hm : m ≤ n) : SlRead f k w A m c (l.take m) :=
  ⟨by rw [List.length_take, h.len]; omega, Nat.le_trans hm h.cap, h.max, h.nil, fun i x hx => h.cell i x (by
    rw [List.getElem?_take] at hx
    split at hx
    · exact hx
    · cases hx)⟩
theorem SlRead.drop_ {α : Type} {f : α → List Value} {k : Nat} {w : World} {A : Addr} {n c : Nat} {l : List α} (h : SlRead f k w (some A) n c l) (m : Nat) (hm : m ≤ n) : SlRead f k w (some (A.add (m * k))) (n - m) (c - m) (l.drop m) :=
  ⟨by rw [List.length_drop, h.len], by have := h.cap; omega, by have := h.max; omega, (fun e => by cases e), fun i x hx => by
    rw [List.getElem?_drop] at hx
    obtain ⟨ad, e, hc⟩ := h.cell (m + i) x hx
    cases e
    refine ⟨_, rfl, fun j u hu => ?_⟩
    rw [add_of_add, show m * k + (i * k + j) = (m + i) * k + j by rw [Nat.add_mul]; omega]
    exact hc j u hu⟩

end Go.Proofs.Ytmdpbbnieehmnaa
