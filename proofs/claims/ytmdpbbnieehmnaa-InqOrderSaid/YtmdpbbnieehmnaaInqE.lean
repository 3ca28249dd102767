/- slices.Delete of one event. -/
import Derived.Test.YtmdpbbnieehmnaaInqD
import Derived.Lib.SliceRun
namespace Go.Proofs.Ytmdpbbnieehmnaa
open Go.RowKit
set_option linter.unusedSimpArgs false
set_option linter.unusedVariables false

/-- clear of one element of several cells. -/
theorem run_clear_one {P : Program} (w : World) (t e ty : TypeId) (z : Value) (zs : List Value) (ht : P.underlying t = some (.slice e)) (hv : ∀ w, (zeroValue e).run P w = .ok z w) (hz : (Builtin.zeroCells z.cells 1).toList = zs) (h1 : ∀ u ∈ zs, u.oneCell' = true) (b o c : Nat)
    (hc : ∀ j, j < zs.length → (w.cell? ⟨b, o + j, none⟩).isSome = true) (hf : ∀ j, j < zs.length → w.frozen? ⟨b, o + j, none⟩ = false) :
    (Builtin.clear_ #[t] ty #[.slice (some ⟨b, o, none⟩) 1 c]).run P w = .ok (.tuple #[]) (w.setCells b o zs) := by
  have hst := run_storeCells_cells (P := P) b o zs 0 w (by simpa using hc) (by simpa using hf) h1
  simp only [Nat.add_zero] at hst
  simp [Builtin.clear_, run_underlying ht, hv, hz, hst]

/-- What Delete of one element leaves of an owned row. -/
theorem del_own {w : World} {e : TypeId} {g cap n k m : Nat} {cs : List Value} (h : w.ownsRow 0 e m (.slice (some ⟨g, 0, none⟩) n cap) n cs) (hk : k < n) (zs : List Value) (hz : zs.length = m) :
    ((w.setCells g (0 + k * m) (cs.drop ((k + 1) * m))).setCells g (0 + (n - 1) * m) zs).ownsRow 0 e m (.slice (some ⟨g, 0, none⟩) (n - 1) cap) (n - 1) (cs.take (k * m) ++ cs.drop ((k + 1) * m)) ∧ Chg (· = g) w ((w.setCells g (0 + k * m) (cs.drop ((k + 1) * m))).setCells g (0 + (n - 1) * m) zs) ∧
    ∀ j, j < m → ((w.setCells g (0 + k * m) (cs.drop ((k + 1) * m))).cell? ⟨g, 0 + (n - 1) * m + j, none⟩).isSome = true ∧ (w.setCells g (0 + k * m) (cs.drop ((k + 1) * m))).frozen? ⟨g, 0 + (n - 1) * m + j, none⟩ = false := by
  have h1 := h.1
  obtain ⟨_, h2⟩ := h
  rcases h2 with ⟨hv, _⟩ | ⟨g', cap', cur, hv, hb, hh, hle, hm, hs, ht⟩
  · cases hv
  · cases hv
    obtain ⟨d, rfl⟩ : ∃ d, n = k + 1 + d := ⟨n - (k + 1), by omega⟩
    have e1 : (k + 1 + d) * m = k * m + m + d * m := by rw [Nat.add_mul, Nat.add_mul, Nat.one_mul]
    have e2 : (k + 1) * m = k * m + m := by rw [Nat.add_mul, Nat.one_mul]
    have e3 : (k + 1 + d - 1) * m = k * m + d * m := by rw [show k + 1 + d - 1 = k + d by omega, Nat.add_mul]
    have e4 : (k + 1 + d) * m ≤ cap * m := Nat.mul_le_mul_right _ hle
    have hdl : (cs.drop ((k + 1) * m)).length = d * m := by rw [List.length_drop, h1]; omega
    have hcs : ∀ (j : Nat) (u : Value), cs[j]? = some u → cur[j]? = some u := by
      intro j u hu
      rw [← ht, List.getElem?_take] at hu
      split at hu
      · simpa using hu
      · cases hu
    obtain ⟨c1, cur1, b1, s1, p1, q1⟩ := setCells_blk g e (cs.drop ((k + 1) * m)) (0 + k * m) w cur hh (by rw [hdl, hs]; omega)
    obtain ⟨c2, cur2, b2, s2, p2, q2⟩ := setCells_blk g e zs (0 + (k + 1 + d - 1) * m) _ cur1 b1 (by rw [s1, hs, hz]; omega)
    refine ⟨⟨by rw [List.length_append, List.length_take, h1, hdl]; omega, .inr ⟨g, cap, cur2, rfl, Nat.zero_le _, b2, by omega, hm, by rw [s2, s1, hs], ?_⟩⟩, c1.trans c2 (fun i hi => .inl hi), fun j hj => ⟨by rw [b1.cell, Array.getElem?_eq_getElem (by omega)]; rfl, b1.frozen _⟩⟩
    apply List.ext_getElem?
    intro j
    rw [List.getElem?_take]
    split
    · rename_i hj
      rw [Array.getElem?_toList, q2 j (by omega)]
      by_cases hjk : j < k * m
      · rw [q1 j (by omega), List.getElem?_append_left (by rw [List.length_take, h1]; omega), List.getElem?_take, if_pos hjk]
        have hjl : j < cs.length := by omega
        rw [List.getElem?_eq_getElem hjl]
        exact hcs j _ (List.getElem?_eq_getElem hjl)
      · have hl : (cs.take (k * m)).length = k * m := by rw [List.length_take, h1]; omega
        rw [List.getElem?_append_right (by omega), hl]
        have hjl : j - k * m < (cs.drop ((k + 1) * m)).length := by rw [hdl]; omega
        rw [List.getElem?_eq_getElem hjl]
        have := p1 _ _ (List.getElem?_eq_getElem hjl)
        rw [show 0 + k * m + (j - k * m) = j by omega] at this
        exact this
    · rename_i hj
      rw [List.getElem?_eq_none]
      rw [List.length_append, List.length_take, h1, hdl]
      omega
theorem flat_drop (l : List Ev) (k : Nat) : (l.flatMap Ev.cells).drop (k * 7) = (l.drop k).flatMap Ev.cells := by
  induction l generalizing k with
  | nil => simp
  | cons p l ih =>
    cases k with
    | zero => simp
    | succ k =>
      rw [List.flatMap_cons, List.drop_succ_cons, ← ih k, show (k + 1) * 7 = 7 + k * 7 by omega, ← List.drop_drop]
      rfl
theorem flat_take (l : List Ev) (k : Nat) : (l.flatMap Ev.cells).take (k * 7) = (l.take k).flatMap Ev.cells := by
  induction l generalizing k with
  | nil => simp
  | cons p l ih =>
    cases k with
    | zero => simp
    | succ k =>
      rw [List.flatMap_cons, List.take_succ_cons, List.flatMap_cons, ← ih k, show (k + 1) * 7 = 7 + k * 7 by omega]
      rw [List.take_append, Ev.len, List.take_of_length_le (by rw [Ev.len]; omega)]
      congr 2
      omega
theorem flat_erase (l : List Ev) (k : Nat) : (l.flatMap Ev.cells).take (k * 7) ++ (l.flatMap Ev.cells).drop ((k + 1) * 7) = (l.eraseIdx k).flatMap Ev.cells := by
  rw [flat_take, flat_drop, List.eraseIdx_eq_take_drop_succ, List.flatMap_append]

set_option maxHeartbeats 2000000 in
set_option maxRecDepth 100000 in
theorem evDel_any (w : World) (g n cap k : Nat) (cs : List Value) (h : w.ownsRow 0 31 7 (.slice (some ⟨g, 0, none⟩) n cap) n cs) (h1c : ∀ u ∈ cs, u.oneCell' = true) (hk : k < n) :
    Calls Try.prog 71 #[.slice (some ⟨g, 0, none⟩) n cap, .int .i64 k, .int .i64 (k + 1)] w fun e w' => e = .returned (.slice (some ⟨g, 0, none⟩) (n - 1) cap) ∧
      w'.ownsRow 0 31 7 (.slice (some ⟨g, 0, none⟩) (n - 1) cap) (n - 1) (cs.take (k * 7) ++ cs.drop ((k + 1) * 7)) ∧ Chg (· = g) w w' := by
  obtain ⟨g', cap', hv, _, hle, hm, hlt, hc, hf⟩ := own_cells h (by omega)
  cases hv
  have hlen := h.1
  obtain ⟨d, rfl⟩ : ∃ d, n = k + 1 + d := ⟨n - (k + 1), by omega⟩
  obtain ⟨hd1, hd2, hd3⟩ := del_own (w := w.drew) h hk [.int .i64 0, .int .i64 0, .int .i64 0, .int .i64 0, .int .i64 0, .int .i64 0, .int .i64 0] rfl
  obtain ⟨W2, hW2⟩ : ∃ W2, W2 = (w.drew.setCells g (0 + k * 7) (cs.drop ((k + 1) * 7))).setCells g (0 + (k + 1 + d - 1) * 7) [.int .i64 0, .int .i64 0, .int .i64 0, .int .i64 0, .int .i64 0, .int .i64 0, .int .i64 0] := ⟨_, rfl⟩
  rw [← hW2] at hd1 hd2
  have hcl : ∀ ty c, (Builtin.clear_ #[27] ty #[.slice (some ⟨g, (k + d) * 7, none⟩) (k + 1 + d - (k + d)) c]).run Try.prog (w.drew.setCells g (k * 7) (cs.drop ((k + 1) * 7))) = .ok (.tuple #[]) W2 := by
    intro ty c
    have h0 := run_clear_one (P := Try.prog) (w.drew.setCells g (0 + k * 7) (cs.drop ((k + 1) * 7))) 27 31 ty (.agg #[.int .i64 0, .int .i64 0, .int .i64 0, .int .i64 0, .int .i64 0, .int .i64 0, .int .i64 0]) [.int .i64 0, .int .i64 0, .int .i64 0, .int .i64 0, .int .i64 0, .int .i64 0, .int .i64 0] Try.underlying27 (fun w => by kernel_rfl) (by kernel_rfl) (by simp [Value.oneCell']) g (0 + (k + 1 + d - 1) * 7) c (fun j hj => (hd3 j hj).1) (fun j hj => (hd3 j hj).2)
    rw [← hW2, Nat.zero_add, Nat.zero_add, show k + 1 + d - 1 = k + d by omega] at h0
    rw [show k + 1 + d - (k + d) = 1 by omega]
    exact h0
  have HD := Lib.hid (And.intro hd1 hd2)
  have s3 := Lib.hid (show ∀ j, j < (cs.drop ((k + 1) * 7)).length → (w.drew.cell? ⟨g, 0 + k * 7 + j, none⟩).isSome = true ∧ w.drew.frozen? ⟨g, 0 + k * 7 + j, none⟩ = false from fun j hj => ⟨by
    rw [List.length_drop] at hj
    have hj' : 0 + k * 7 + j < cs.length := by omega
    show (w.cell? _).isSome = true
    rw [hc _ _ (List.getElem?_eq_getElem hj')]
    rfl, hf _⟩)
  have s1 := Lib.hid (show (cs.drop ((k + 1) * 7)).length = d * 7 by rw [List.length_drop]; omega)
  have s2 := Lib.hid (show ∀ u ∈ cs.drop ((k + 1) * 7), u.oneCell' = true from fun u hu => h1c u (List.mem_of_mem_drop hu))
  obtain ⟨Ax, hAx, hsrc0⟩ : ∃ Ax : Addr, (if cap = k + 1 then (some ⟨g, 0, none⟩ : Option Addr) else some ⟨g, (k + 1) * 7, none⟩) = some Ax ∧ ∀ j u, (cs.drop ((k + 1) * 7))[j]? = some u → w.drew.cell? (Ax.add j) = some u := by
    by_cases hcap : cap = k + 1
    · refine ⟨⟨g, 0, none⟩, by simp [hcap], fun t u hu => ?_⟩
      have h0 : (cs.drop ((k + 1) * 7)).length = 0 := by rw [List.length_drop]; omega
      rw [List.length_eq_zero_iff.1 h0] at hu
      simp at hu
    · refine ⟨⟨g, (k + 1) * 7, none⟩, by simp [hcap], fun t u hu => ?_⟩
      rw [List.getElem?_drop] at hu
      rw [Addr.add_lit]
      exact hc _ _ hu
  have hsrc := Lib.hid hsrc0
  have hkc : k ≤ cap := by omega
  have hkc1 : k + 1 ≤ cap := by omega
  have hb1 : (0 : Int) ≤ ↑k + 1 := by omega
  have hb2 : (k : Int) + 1 ≤ ↑k + 1 + ↑d := by omega
  clear hW2 hd1 hd2 hd3 hf hc h h1c hlen hsrc0
  go_enter Try.func71, Try.ntmps71
  go_wp2_with fail
  go_region_law (refine step_append_room rfl (.tmp 22) (.tmp 25) 27 rfl 31 _ 7 Try.underlying27 rfl rfl g 0 k cap (by simp [Act.eval, Act.put]) Ax d (cap - (k + 1)) (cs.drop ((k + 1) * 7)) (by simp [Act.eval, Act.put]) s1.out hsrc.out s2.out (by omega) s3.out ?_)
  go_wp2
  go_ret
  obtain ⟨hd1, hd2⟩ := HD.out
  rw [show k + 1 + d - 1 = k + d by omega] at hd1 ⊢
  exact ⟨rfl, hd1, ⟨hd2.os, hd2.tape, hd2.output, hd2.size, hd2.block⟩⟩
end Go.Proofs.Ytmdpbbnieehmnaa
