/- mail: Send into boxes. -/
import Derived.Test.YtggbgfdgpkbmhaaMaiD
import Derived.Deep.RegionLaw
namespace Go.Proofs.Ytggbgfdgpkbmhaa
open Go.RowKit
set_option linter.unusedSimpArgs false
set_option linter.unusedVariables false

/-- append to an owned row, as one step of a region that draws. -/
theorem step_ap_own {P : Program} {ops : Array Oper} {o : Oper} {a : Act} {w : World} {K : Act → World → Prop} {Q : Exit → Act → World → Prop} {E : Prop}
    (hg : o.guard = none) (s x : Operand) (t : TypeId) (hop : o.op = Op.call { callee := Callee.builtin Builtin.append, args := #[s, x], argTypes := #[t, t] })
    (e : TypeId) (z : Value) (size bytes : Nat) (h1 : P.underlying t = some (.slice e)) (hinfo : (P.info? e).map (fun i => (i.zero, i.size, i.bytes)) = some (some z, size, bytes)) (h6 : z.cells.size = size) (h7 : 0 < size)
    (v : Value) (n : Nat) (olds : List Value) (hs : a.eval s = v) (hown : w.ownsRow 0 e size v n olds)
    (ad : Addr) (m c : Nat) (news : List Value) (hx : a.eval x = .slice (some ad) m c) (hn : news.length = m * size) (hc : ∀ j u, news[j]? = some u → w.cell? (ad.add j) = some u) (h1c : ∀ u ∈ news, u.oneCell' = true)
    (hm : 0 < m) (b1 : n + m ≤ maxLen) (b2 : (n + m) * bytes ≤ 140737488355328)
    (hK : ∀ g cap' w', w'.ownsRow 0 e size (.slice (some ⟨g, 0, none⟩) (n + m) cap') (n + m) (olds ++ news) → Chg (fun k => v.ownBlock = some k) w w' → (v.ownBlock = some g ∨ w.heap.size ≤ g) → K (a.put o.dst (.slice (some ⟨g, 0, none⟩) (n + m) cap')) w') :
    if Region.wanted o (yielded ops a.tmps) = true then Oper.wp P o a w K Q else E := by
  have hw : Region.wanted o (yielded ops a.tmps) = true := by simp [Region.wanted, hg]
  rw [if_pos hw]
  obtain ⟨g, cap', w', hrun, r1, r2, r3⟩ := run_ap_own (P := P) t o.type e z size bytes h1 hinfo h6 h7 v n olds hown ad m c news hn hc h1c hm b1 b2
  unfold Oper.wp
  simp [execOp, hop, resolve, invoke, builtin, hs, hx, hrun, Result.andThen]
  exact hK _ _ _ r1 r2 r3

theorem NetAt.behind {w w2 : World} {b cap : Nat} {boxes next : Int} {A : Option Addr} {l : List Pk} {o : Obj} (hN : NetAt w b boxes next A cap l) (hch : Chg (fun k => (Value.slice A l.length cap).ownBlock = some k) (w.drew.alloc o) w2) : Blk w2 b #[.int .i64 boxes, .int .i64 next, .slice A l.length cap] 100 :=
  (hN.blk.drew.alloc o).chg hch (by
    rw [ownBlock_slice]
    intro e
    cases A with
    | none => cases e
    | some ad => cases e; exact hN.ne ad rfl rfl)
/-- The blocks of a net: its own and its row's. -/
def netBlk (b : Nat) (A : Option Addr) : Nat → Prop := fun i => i = b ∨ ∃ ad, A = some ad ∧ i = ad.block
def rowFrom (w : World) (A A' : Option Addr) : Prop := ∀ ad, A' = some ad → (∃ ad', A = some ad' ∧ ad.block = ad'.block) ∨ w.heap.size ≤ ad.block
/-- One packet more: the row is appended to, and the net's own cells are laid anew. -/
theorem NetAt.push {w w2 : World} {b g cap cap2 : Nat} {boxes next next2 : Int} {A : Option Addr} {l : List Pk} {p : Pk} {o : Obj} (hN : NetAt w b boxes next A cap l)
    (hown : w2.ownsRow 0 67 4 (.slice (some ⟨g, 0, none⟩) (l.length + 1) cap2) (l.length + 1) (l.flatMap Pk.cells ++ p.cells)) (hch : Chg (fun k => (Value.slice A l.length cap).ownBlock = some k) (w.drew.alloc o) w2) (hg : (Value.slice A l.length cap).ownBlock = some g ∨ (w.drew.alloc o).heap.size ≤ g) :
    NetAt ((w2.setCell ⟨b, 2, none⟩ (.slice (some ⟨g, 0, none⟩) (l.length + 1) cap2)).setCell ⟨b, 1, none⟩ (.int .i64 next2)) b boxes next2 (some ⟨g, 0, none⟩) cap2 (l ++ [p]) ∧ Chg (netBlk b A) w ((w2.setCell ⟨b, 2, none⟩ (.slice (some ⟨g, 0, none⟩) (l.length + 1) cap2)).setCell ⟨b, 1, none⟩ (.int .i64 next2)) ∧ ((∃ ad', A = some ad' ∧ g = ad'.block) ∨ w.heap.size ≤ g) := by
  have hs : (w.drew.alloc o).heap.size = w.heap.size + 1 := by show (w.heap.push o).size = _; simp
  have hlt := hN.lt
  have hg' : (∃ ad', A = some ad' ∧ g = ad'.block) ∨ w.heap.size ≤ g := by
    rcases hg with hg | hg
    · rw [ownBlock_slice] at hg
      cases A with
      | none => cases hg
      | some ad => cases hg; exact .inl ⟨ad, rfl, rfl⟩
    · exact .inr (by omega)
  have hgb : g ≠ b := by
    rcases hg' with ⟨ad, e, rfl⟩ | hg
    · exact hN.ne ad e
    · omega
  have hb := hN.behind hch
  refine ⟨⟨?_, ?_, fun ad e => by cases e; exact hgb⟩, ?_, hg'⟩
  · have := (hb.set 2 (.slice (some ⟨g, 0, none⟩) (l.length + 1) cap2)).set 1 (.int .i64 next2)
    simpa using this
  · have := own_far (own_far hown (p := ⟨b, 2, none⟩) hgb (.slice (some ⟨g, 0, none⟩) (l.length + 1) cap2)) (p := ⟨b, 1, none⟩) hgb (.int .i64 next2)
    simpa using this
  · refine ((((Chg.refl (netBlk b A) w).drew.alloc o).trans hch (fun i hi => ?_)).setCell (.inl (.inl rfl)) _).setCell (.inl (.inl rfl)) _
    rw [ownBlock_slice] at hi
    cases A with
    | none => cases hi
    | some ad => cases hi; exact .inl (.inr ⟨ad, rfl, rfl⟩)

set_option maxHeartbeats 2000000 in
set_option maxRecDepth 100000 in
theorem maiSendI_ok (a c : Int) (B : Option Addr) (n d : Nat) (xs : List Int) (w : World) (b : Nat) (boxes next : Int) (A : Option Addr) (cap : Nat) (l : List Pk) (h : NetAt w b boxes next A cap l) (ha : inBox boxes a = true) (hc : inBox boxes c = true)
    (hxs : SlRead (fun x => [Value.int .i64 x]) 1 w B n d xs) (hBb : 0 < n → ∀ ad, B = some ad → ad.block ≠ b) (hBA : 0 < n → ∀ ad ad', B = some ad → A = some ad' → ad.block ≠ ad'.block) (hn : n ≤ 1000) (hl : l.length ≤ 100000) (hnx : 0 ≤ next ∧ next ≤ 100000) :
    Calls Try.prog 38 #[.pointer (some ⟨b, 0, none⟩), .int .i64 a, .int .i64 c, .slice B n d] w fun e w' => e = .returned (.tuple #[.int .i64 next, .int .i64 0]) ∧ ∃ A' cap', NetAt w' b boxes (next + n) A' cap' (l ++ sent next a c xs) ∧ Chg (netBlk b A) w w' ∧ rowFrom w A A' := by
  have c1 := h.blk.cell 1
  have hlen := hxs.len
  have HX := Lib.hid hxs
  clear hxs
  go_enter Try.func38, Try.ntmps38
  go_wp2_with fail
  refine (ha ▸ maiBoxI_any a w b boxes next A cap l h).mono ?_
  rintro e w1 ⟨rfl, rfl⟩
  go_wp2_with fail
  refine (hc ▸ maiBoxI_any c w b boxes next A cap l h).mono ?_
  rintro e w1 ⟨rfl, rfl⟩
  go_wp2_with fail
  go_loopw [33] (fun i wr => ∃ (k : Nat) (A' : Option Addr) (cap' : Nat), k ≤ n ∧ i = .int .i64 k ∧ NetAt wr b boxes (next + k) A' cap' (l ++ sent next a c (xs.take k)) ∧ Chg (netBlk b A) w wr ∧ rowFrom w A A') (fun i _ => n - (intOf i).toNat)
  case atStart => exact ⟨0, A, cap, by omega, rfl, by simpa [sent] using h, Chg.refl _ _, fun ad e => .inl ⟨ad, e, rfl⟩⟩
  case round =>
    obtain ⟨k, A', cap', hk, rfl, hN, hch, hA'⟩ := hrel
    by_cases hlt : k < n
    · have hs : xs[k]? = some (xs[k]'(by omega)) := List.getElem?_eq_getElem (by omega)
      generalize xs[k]'(by omega) = x at hs
      obtain ⟨ad, e, hcell⟩ := (HX.out.chg hch (fun ad e => by rintro (e' | ⟨ad', e1, e2⟩); exact hBb (by omega) ad e e'; exact hBA (by omega) ad ad' e e1 e2)).cell k x hs
      subst e
      have x0 := hcell 0 (.int .i64 x) rfl
      simp at x0
      have hLen : (l ++ sent next a c (xs.take k)).length = l.length + k := by rw [List.length_append, sent_len, List.length_take]; omega
      obtain ⟨M, hM⟩ : ∃ M, M = l ++ sent next a c (xs.take k) := ⟨_, rfl⟩
      rw [← hM] at hLen hN
      have HM := Lib.hid hM
      have HLen := Lib.hid hLen
      clear hM hLen
      have c0 := hN.blk.cell 0
      have c1 := hN.blk.cell 1
      have c2 := hN.blk.cell 2
      have hcA := hN.non ((Chg.refl Non wr).drew.alloc (.cells #[.int .i64 (next + k), .int .i64 a, .int .i64 c, .int .i64 x] 67))
      have q2 : (wr.alloc (.cells #[.int .i64 (next + k), .int .i64 a, .int .i64 c, .int .i64 x] 67)).cell? ⟨b, 2, none⟩ = some (.slice A' M.length cap') := hcA.blk.cell 2
      have hnews := (Blk.new wr.drew #[.int .i64 (next + k), .int .i64 a, .int .i64 c, .int .i64 x] 67).reads' (Pk.cells ⟨next + k, a, c, x⟩) rfl
      go_wp2_with fail
      go_region_law (refine step_ap_own rfl (.tmp 41) (.tmp 50) 98 rfl 67 (.agg #[.int .i64 0, .int .i64 0, .int .i64 0, .int .i64 0]) 4 32 Try.underlying98 (by kernel_rfl) rfl (by decide) (.slice A' M.length cap') M.length (M.flatMap Pk.cells) (by simp [Act.eval, Act.put]) hcA.own ⟨wr.heap.size, 0, none⟩ 1 1 (Pk.cells ⟨next + k, a, c, x⟩) (by simp [Act.eval, Act.put]) rfl hnews (by simpa using Pk.one [⟨next + k, a, c, x⟩]) (by decide) (by rw [HLen.out]; unfold maxLen; omega) (by rw [HLen.out]; omega) ?_; intro g cap2 w2 hown2 hch2 hg2; have hb2 := hN.behind hch2; have j1 := hb2.cell 1; have j2 := hb2.cell 2; have f1 := hb2.frozen 1; have f2 := hb2.frozen 2)
      all_goals
        go_wp2
        go_roundw
        case rel =>
          obtain ⟨r1, r2, r3⟩ := hN.push (next2 := next + k + 1) hown2 hch2 hg2
          refine ⟨k + 1, some ⟨g, 0, none⟩, cap2, by omega, by go_num, ?_, hch.trans r2 (fun i hi => ?_), fun ad' e => ?_⟩
          · rw [List.take_add_one, hs, show some x = some x from rfl, Option.toList_some, sent_snoc, ← List.append_assoc, ← HM.out, List.length_take, hlen, Nat.min_eq_left (by omega)]
            simpa [Int.add_assoc] using r1
          · rcases hi with rfl | ⟨ad', e, rfl⟩
            · exact .inl (.inl rfl)
            · rcases hA' ad' e with ⟨a2, e2, h2⟩ | h2
              · exact .inl (.inr ⟨a2, e2, h2⟩)
              · exact .inr h2
          · cases e
            rcases r3 with ⟨a2, e2, h2⟩ | h2
            · rcases hA' a2 e2 with ⟨a3, e3, h3⟩ | h3
              · exact .inl ⟨a3, e3, h2.trans h3⟩
              · exact .inr (by show w.heap.size ≤ g; rw [h2]; exact h3)
            · exact .inr (by have := hch.size; show w.heap.size ≤ g; omega)
        case measure => simp [intOf]; omega
    · obtain rfl : k = n := by omega
      rw [List.take_of_length_le (by omega)] at hN
      go_wp2
      go_ret2
      exact ⟨rfl, A', cap', hN, hch, hA'⟩
end Go.Proofs.Ytggbgfdgpkbmhaa
