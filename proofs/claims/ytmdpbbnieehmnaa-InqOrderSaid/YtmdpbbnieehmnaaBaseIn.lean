/- Words on memory for walks inside a round of a range over a function: an append to an owned row, what a round's invariant abides. -/
import Derived.RangeFuncNested
import Derived.RangeFuncBound
import Derived.RangeFuncCalls
import Derived.RangeFuncLeaves
import Derived.RangeFuncBox
import Derived.Shelf.Abstract
import Derived.Shelf.RegionOpen
import Derived.OwnWalkIn
import Derived.TacticsInMore
import Derived.LoopNIn
import Derived.LoopIn
import Derived.Test.YtmdpbbnieehmnaaBase
namespace Go.Proofs.Ytmdpbbnieehmnaa
open Go.RowKit Go.Shelf

theorem run_ap_own {P : Program} {w : World} (t ty : TypeId)
    (e : TypeId) (z : Value) (size bytes : Nat) (h1 : P.underlying t = some (.slice e)) (hinfo : (P.info? e).map (fun i => (i.zero, i.size, i.bytes)) = some (some z, size, bytes)) (h6 : z.cells.size = size) (h7 : 0 < size)
    (v : Value) (n : Nat) (olds : List Value) (hown : w.ownsRow 0 e size v n olds)
    (ad : Addr) (m c : Nat) (news : List Value) (hn : news.length = m * size) (hc : ∀ j u, news[j]? = some u → w.cell? (ad.add j) = some u) (h1c : ∀ u ∈ news, u.oneCell' = true)
    (hm : 0 < m) (b1 : n + m ≤ maxLen) (b2 : (n + m) * bytes ≤ 140737488355328) :
    ∃ g cap' w', (Builtin.append_ #[t, t] ty #[v, .slice (some ad) m c]).run P w = .ok (.slice (some ⟨g, 0, none⟩) (n + m) cap') w' ∧ w'.ownsRow 0 e size (.slice (some ⟨g, 0, none⟩) (n + m) cap') (n + m) (olds ++ news) ∧ Chg (fun k => v.ownBlock = some k) w w' ∧ (v.ownBlock = some g ∨ w.heap.size ≤ g) := by
  obtain ⟨i, hi, hz0, hz1, hz2⟩ := info_parts hinfo
  rcases hown.2 with ⟨rfl, rfl⟩ | ⟨g, cap, cur, rfl, _, hgg, hnc, hcm, hcs, htake⟩
  · obtain ⟨v', w', hrun, ho, hgr, _⟩ := run_append_own (P := P) w w.heap.size t ty e i z size bytes h1 hi hz0 hz1 hz2 h6 h7 _ 0 olds ⟨hown.1, .inl ⟨rfl, rfl⟩⟩ ad m c news hn hc h1c b1 b2 (Nat.le_refl _)
    obtain ⟨g, cap, rfl, hb, _, _, _, _, _⟩ := own_cells ho (by omega)
    exact ⟨g, cap, w', hrun, ownsRow_base ho, (Chg.of_grown hgr).mono (fun i _ h => by simp [Value.ownBlock] at h), .inr hb⟩
  · by_cases hroom : n + m ≤ cap
    · have hr := run_append_room (P := P) w t ty e i h1 hi g n cap cur hgg ad m c news (by rw [hn, hz1]) hc h1c hroom (by rw [hz1, hn, hcs, ← Nat.add_mul]; exact Nat.mul_le_mul_right _ hroom)
      rw [hz1, List.append_assoc] at hr
      exact ⟨g, cap, _, hr, own_room hgg hcm hcs htake hown.1 hn hroom, ⟨rfl, rfl, rfl, by simp, fun k _ hk => setRow_other w g k _ (fun e => hk (by simp [Value.ownBlock, e]))⟩, .inl rfl⟩
    · obtain ⟨v', w', hrun, r1, r2⟩ := run_append_arg_grows (P := P) w t ty e i z size bytes h1 hi hz0 hz1 hz2 h6 h7 ⟨g, 0, none⟩ n cap olds hown.1 (hown.cells rfl) ad m c news hn hc (by omega) b1 b2
      obtain ⟨g2, cap2, rfl, hb, _, _, _, _, _⟩ := own_cells r1 (by omega)
      exact ⟨g2, cap2, w', hrun, ownsRow_base r1, (Chg.of_grown r2).mono (fun i _ h => by simp at h), .inr hb⟩

/-- An append to an owned row, inside a round. -/
theorem ap_ownIn {F : Fence} {nn : Nat} {P : Program} {w : World} {ops : Array Oper} {rest : List Oper} {o : Oper} {a : Act} {Q : Exit → Act → World → Prop}
    (hg : o.guard = none) (s x : Operand) (t : TypeId) (hop : o.op = Op.call { callee := Callee.builtin Builtin.append, args := #[s, x], argTypes := #[t, t] })
    (e : TypeId) (z : Value) (size bytes : Nat) (h1 : P.underlying t = some (.slice e)) (hinfo : (P.info? e).map (fun i => (i.zero, i.size, i.bytes)) = some (some z, size, bytes)) (h6 : z.cells.size = size) (h7 : 0 < size)
    (v : Value) (n : Nat) (olds : List Value) (hs : a.eval s = v) (hown : w.ownsRow 0 e size v n olds)
    (ad : Addr) (m c : Nat) (news : List Value) (hx : a.eval x = .slice (some ad) m c) (hn : news.length = m * size) (hc : ∀ j u, news[j]? = some u → w.cell? (ad.add j) = some u) (h1c : ∀ u ∈ news, u.oneCell' = true)
    (hm : 0 < m) (b1 : n + m ≤ maxLen) (b2 : (n + m) * bytes ≤ 140737488355328)
    (hK : ∀ g cap' w', w'.ownsRow 0 e size (.slice (some ⟨g, 0, none⟩) (n + m) cap') (n + m) (olds ++ news) → Chg (fun k => v.ownBlock = some k) w w' → (v.ownBlock = some g ∨ w.heap.size ≤ g) → wpListIn F nn P ops Q rest (a.put o.dst (.slice (some ⟨g, 0, none⟩) (n + m) cap')) w') :
    wpListIn F nn P ops Q (o :: rest) a w := by
  refine wpListIn_plain hg fun K hK' => ?_
  obtain ⟨g, cap', w', hrun, r1, r2, r3⟩ := run_ap_own (P := P) t o.type e z size bytes h1 hinfo h6 h7 v n olds hown ad m c news hn hc h1c hm b1 b2
  unfold Oper.wpIn
  refine ⟨?_, ?_⟩
  · simp [Oper.about, hop, resolve, Target.leads, Sem.run_pure]
  · rw [Oper.semAt_plain F _ _ (by rw [hop]; intro c hc'; cases hc')]
    simp [execOp, hop, resolve, invoke, builtin, hs, hx, hrun, Result.andThen]
    exact hK' _ _ (hK g cap' w' r1 r2 r3)

theorem ownBlock_slice (A : Option Addr) (n c : Nat) : (Value.slice A n c).ownBlock = A.map (·.block) := by cases A <;> rfl

/-- What a round's invariant says of memory abides the loop's own book-keeping: new blocks, and blocks from B on that are no cells. -/
theorem blk_abides {W W' : World} {row : Option Nat} (hg : W.grownBy W' row) (hr : ∀ r, row = some r → ∃ o : Obj, W.heap[r]? = some o ∧ o.isCells = false) {g : Nat} {cs : Array Value} {t : TypeId} (h : Blk W g cs t) : Blk W' g cs t :=
  h.keep (hg.block g h.lt (fun e => by
    obtain ⟨o, ho, hc⟩ := hr g e.symm
    have h' : W.heap[g]? = some (.cells cs t (0, 0)) := h
    rw [h'] at ho; cases ho; simp [Obj.isCells] at hc))
theorem own_abides {W W' : World} {row : Option Nat} (hg : W.grownBy W' row) (hr : ∀ r, row = some r → ∃ o : Obj, W.heap[r]? = some o ∧ o.isCells = false) {base : Nat} {e : TypeId} {k n : Nat} {v : Value} {cs : List Value} (h : W.ownsRow base e k v n cs) : W'.ownsRow base e k v n cs := by
  obtain ⟨h1, h2⟩ := h
  refine ⟨h1, ?_⟩
  rcases h2 with h2 | ⟨g, cap, cur, hv, hb, hh, r⟩
  · exact .inl h2
  · exact .inr ⟨g, cap, cur, hv, hb, (blk_abides hg hr (show Blk W g cur e from hh)), r⟩
theorem chg_abides {w W W' : World} {S : Nat → Prop} {row : Option Nat} (hg : W.grownBy W' row) {B : Nat} (hB : w.heap.size ≤ B) (hr : ∀ r, row = some r → B ≤ r ∧ ∃ o : Obj, W.heap[r]? = some o ∧ o.isCells = false) (h : Chg S w W) : Chg S w W' :=
  h.grown hg (fun i e => .inr (by have := (hr i e).1; omega))

/-- What changes cells alone keeps whatever is no cells. -/
theorem keeps_of_chg {B : Nat} {W W' : World} {S : Nat → Prop} (h : Chg S W W') (hs : ∀ k, S k → ∃ cs t, Blk W k cs t) : KeepsFrom B W W' :=
  ⟨h.size, fun k o _ hk ho => by
    rw [h.block k (Array.getElem?_eq_some_iff.1 hk).1 (fun hS => by
      obtain ⟨cs, t, hb⟩ := hs k hS
      have hb' : W.heap[k]? = some (.cells cs t (0, 0)) := hb
      rw [hb'] at hk; cases hk; simp [Obj.isCells] at ho)]
    exact hk⟩
theorem own_blk {w : World} {base : Nat} {e : TypeId} {k n : Nat} {v : Value} {cs : List Value} (h : w.ownsRow base e k v n cs) {g : Nat} (hg : v.ownBlock = some g) : ∃ c t, Blk w g c t := by
  obtain ⟨h1, h2⟩ := h
  rcases h2 with ⟨hv, _⟩ | ⟨g', cap, cur, hv, hb, hh, r⟩
  · subst hv; simp [Value.ownBlock] at hg
  · subst hv; simp [Value.ownBlock] at hg; subst hg; exact ⟨_, _, hh⟩

end Go.Proofs.Ytmdpbbnieehmnaa
