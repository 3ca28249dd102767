/- events: DeleteFunc. -/
import Derived.Test.YtmdpbbnieehmnaaVicJ
import Derived.Laws.IdiomCopy
namespace Go.Proofs.Ytmdpbbnieehmnaa
open Go.RowKit
set_option linter.unusedSimpArgs false
set_option linter.unusedVariables false

theorem delEv_none (q : Nat) (f : Int) (w : World) (A : Option Addr) (n c : Nat) (l : List Ev) (hl : SlRead Ev.cells 7 w A n c l) (hq : w.cell? ⟨q, 0, none⟩ = some (.int .i64 f)) (hn : n ≤ 1000000) (hi : ¬ idxE f l < n) :
    Calls Try.prog 53 #[.slice A n c, .func (.func 54) #[] #[.pointer (some ⟨q, 0, none⟩)]] w fun e w' => e = .returned (.slice A n c) ∧ Chg Non w w' := by
  have hI := idxEv_any q f w A n c l hl hq hn
  have e : idxER f l n = -1 := if_neg hi
  rw [e] at hI
  go_enter Try.func53, Try.ntmps53
  go_wp2_with fail
  refine hI.mono ?_
  rintro e w2 ⟨rfl, hc2⟩
  go_wp2
  go_ret
  exact ⟨rfl, hc2⟩

theorem Chg.set7' (w : World) (g o : Nat) (a' b' c' d' e' f' h' : Value) : Chg (· = g) w (((((((w.setCell ⟨g, o, none⟩ a').setCell ⟨g, o + 1, none⟩ b').setCell ⟨g, o + 2, none⟩ c').setCell ⟨g, o + 3, none⟩ d').setCell ⟨g, o + 4, none⟩ e').setCell ⟨g, o + 5, none⟩ f').setCell ⟨g, o + 6, none⟩ h') :=
  (((((((Chg.refl (· = g) w).setCell (p := ⟨g, o, none⟩) (.inl rfl) _).setCell (p := ⟨g, o + 1, none⟩) (.inl rfl) _).setCell (p := ⟨g, o + 2, none⟩) (.inl rfl) _).setCell (p := ⟨g, o + 3, none⟩) (.inl rfl) _).setCell (p := ⟨g, o + 4, none⟩) (.inl rfl) _).setCell (p := ⟨g, o + 5, none⟩) (.inl rfl) _).setCell (p := ⟨g, o + 6, none⟩) (.inl rfl) _
theorem setCells_blk (g : Nat) (e : TypeId) : ∀ (vs : List Value) (o : Nat) (w : World) (cur : Array Value), Blk w g cur e → o + vs.length ≤ cur.size →
    Chg (· = g) w (w.setCells g o vs) ∧ ∃ cur' : Array Value, Blk (w.setCells g o vs) g cur' e ∧ cur'.size = cur.size ∧ (∀ j u, vs[j]? = some u → cur'[o + j]? = some u) ∧ ∀ i, i < o → cur'[i]? = cur[i]? := by
  intro vs
  induction vs with
  | nil => intro o w cur hb _; exact ⟨Chg.refl _ _, cur, hb, rfl, by simp, fun _ _ => rfl⟩
  | cons v vs ih =>
    intro o w cur hb hl
    simp only [List.length_cons] at hl
    obtain ⟨hc, cur', hb', hs, h1, h2⟩ := ih (o + 1) (w.setCell ⟨g, o, none⟩ v) (cur.setIfInBounds o v) (hb.set o v) (by simp; omega)
    refine ⟨((Chg.refl (· = g) w).setCell (.inl rfl) v).trans hc (fun i hi => .inl hi), cur', hb', by simpa using hs, fun j u hu => ?_, fun i hi => ?_⟩
    · cases j with
      | zero =>
        simp at hu; subst hu
        rw [Nat.add_zero, h2 o (by omega)]
        simp [Array.getElem?_setIfInBounds]
        omega
      | succ j =>
        have := h1 j u (by simpa using hu)
        rw [show o + (j + 1) = o + 1 + j by omega]
        exact this
    · rw [h2 i (by omega)]
      simp [Array.getElem?_setIfInBounds]
      omega

/-- clear of several elements. -/
theorem run_clear_many {P : Program} (w : World) (t e ty : TypeId) (z : Value) (ht : P.underlying t = some (.slice e)) (hv : ∀ w, (zeroValue e).run P w = .ok z w) (n : Nat) (hn : 0 < n) (h1 : ∀ u ∈ (Builtin.zeroCells z.cells n).toList, u.oneCell' = true) (b o c : Nat)
    (hc : ∀ j, j < (Builtin.zeroCells z.cells n).toList.length → (w.cell? ⟨b, o + j, none⟩).isSome = true) (hf : ∀ j, j < (Builtin.zeroCells z.cells n).toList.length → w.frozen? ⟨b, o + j, none⟩ = false) :
    (Builtin.clear_ #[t] ty #[.slice (some ⟨b, o, none⟩) n c]).run P w = .ok (.tuple #[]) (w.setCells b o (Builtin.zeroCells z.cells n).toList) := by
  have hst := run_storeCells_cells (P := P) b o (Builtin.zeroCells z.cells n).toList 0 w (by simpa using hc) (by simpa using hf) h1
  simp only [Nat.add_zero] at hst
  obtain ⟨m, rfl⟩ : ∃ m, n = m + 1 := ⟨n - 1, by omega⟩
  simp [Builtin.clear_, run_underlying ht, hv, hst]
def zEv : Value := .agg #[.int .i64 0, .int .i64 0, .int .i64 0, .int .i64 0, .int .i64 0, .int .i64 0, .int .i64 0]
theorem zEv_len (n : Nat) : (Builtin.zeroCells zEv.cells n).toList.length = n * 7 := by
  simp [Builtin.zeroCells, zEv, Value.cells]
theorem zEv_one (n : Nat) : ∀ u ∈ (Builtin.zeroCells zEv.cells n).toList, u.oneCell' = true := by
  intro u hu
  simp only [Builtin.zeroCells, Array.toList_map, List.mem_map] at hu
  obtain ⟨i, _, rfl⟩ := hu
  have h : ∀ r : Nat, r < 7 → (zEv.cells[r]!).oneCell' = true := by
    intro r hr
    have : r = 0 ∨ r = 1 ∨ r = 2 ∨ r = 3 ∨ r = 4 ∨ r = 5 ∨ r = 6 := by omega
    rcases this with rfl | rfl | rfl | rfl | rfl | rfl | rfl <;> rfl
  exact h _ (Nat.mod_lt _ (by decide))

/-- The row in the loop: what stands ahead of i is what is kept of the first k; from k on it is as it was. -/
structure DelNow (w : World) (g cap n : Nat) (f : Int) (l : List Ev) (i k : Nat) (R : List Ev) (W : World) : Prop where
  own : W.ownsRow 0 31 7 (.slice (some ⟨g, 0, none⟩) n cap) n (R.flatMap Ev.cells)
  len : R.length = n
  lt : i < k
  head : R.take i = (l.take k).filter (goodEv f)
  tail : R.drop k = l.drop k
  chg : Chg (· = g) w W

set_option maxHeartbeats 4000000 in
set_option maxRecDepth 100000 in
theorem delEv_some (q : Nat) (f : Int) (w : World) (g n cap : Nat) (l : List Ev) (h : w.ownsRow 0 31 7 (.slice (some ⟨g, 0, none⟩) n cap) n (l.flatMap Ev.cells)) (hl : l.length = n) (hq : w.cell? ⟨q, 0, none⟩ = some (.int .i64 f)) (hqg : q ≠ g) (hn : n ≤ 1000000) (i0 : Nat) (hi0 : idxE f l = i0) (hi : i0 < n) :
    Calls Try.prog 53 #[.slice (some ⟨g, 0, none⟩) n cap, .func (.func 54) #[] #[.pointer (some ⟨q, 0, none⟩)]] w fun e w' => ∃ m, m = (l.filter (goodEv f)).length ∧ e = .returned (.slice (some ⟨g, 0, none⟩) m cap) ∧ SlRead Ev.cells 7 w' (some ⟨g, 0, none⟩) m cap (l.filter (goodEv f)) ∧ Chg (· = g) w w' := by
  subst hl
  have hrd := own_read Ev.len h (by decide)
  have hI := idxEv_any q f w (some ⟨g, 0, none⟩) l.length cap l hrd hq hn
  have e : idxER f l l.length = i0 := by unfold idxER; rw [hi0, if_pos hi]
  rw [e] at hI
  have hstop : ∀ p, l[i0]? = some p → goodEv f p = false := by rw [← hi0]; exact fun p => idxE_stop f l p
  have htk : (l.take i0).filter (goodEv f) = l.take i0 := by rw [← hi0]; exact idxE_take f l
  have hD0 : ∀ W, Chg Non w W → DelNow w g cap l.length f l i0 (i0 + 1) l W := fun W hc => by
    refine ⟨own_chg h hc id, rfl, by omega, ?_, rfl, hc.mono (fun _ _ x => x.elim)⟩
    have hs : l[i0]? = some l[i0] := List.getElem?_eq_getElem hi
    rw [List.take_add_one, hs, List.filter_append, htk]
    have := hstop _ hs
    simp [this]
  have HD := Lib.hid hD0
  clear hD0 hstop htk hi0 e hrd h
  go_enter Try.func53, Try.ntmps53
  go_wp2_with fail
  refine hI.mono ?_
  rintro e w2 ⟨rfl, hc2⟩
  go_wp2_with fail
  go_loopw [5, 6] (fun a b wr => ∃ (i k : Nat) (R : List Ev), a = .int .i64 i ∧ b = .int .i64 k ∧ k ≤ l.length ∧ DelNow w g cap l.length f l i k R wr) (fun a b _ => l.length - (intOf b).toNat)
  case atStart => exact ⟨i0, i0 + 1, l, rfl, by go_num, by omega, HD.out _ hc2⟩
  case round =>
    obtain ⟨i, k, R, rfl, rfl, hk, hN⟩ := hrel
    by_cases hlt : k < l.length
    · have hs : l[k]? = some l[k] := List.getElem?_eq_getElem hlt
      have hts : l.take (k + 1) = l.take k ++ [l[k]] := by rw [List.take_add_one, hs]; rfl
      generalize l[k] = p at hs hts
      have hsR : R[k]? = some p := by
        have h0 := congrArg (fun x => x[0]?) hN.tail
        simp only [List.getElem?_drop, Nat.add_zero] at h0
        rw [h0]; exact hs
      have hRl := hN.len
      have hik := hN.lt
      have hrd : SlRead Ev.cells 7 wr (some ⟨g, 0, none⟩) l.length cap R := by
        have := hN.own
        rw [← hRl] at this ⊢
        exact own_read Ev.len this (by decide)
      obtain ⟨_, e', d0, d1, d2, d3, d4, d5, d6⟩ := ev_at hrd hsR
      cases e'
      rw [add_plain] at d0 d1 d2 d3 d4 d5 d6
      have hEa := Blk.new wr #[.int .i64 p.at_, .int .i64 p.src, .int .i64 p.sent, .int .i64 p.no, .int .i64 p.dst, .int .i64 p.kind, .int .i64 p.data] 31
      have hca : Chg Non wr (wr.alloc (.cells #[.int .i64 p.at_, .int .i64 p.src, .int .i64 p.sent, .int .i64 p.no, .int .i64 p.dst, .int .i64 p.kind, .int .i64 p.data] 31)) := (Chg.refl Non wr).alloc _
      have hq2 := hN.chg.cell hq (by show ¬ q = g; exact hqg)
      have hF0 := vicF1_any q f p _ (hca.cell hq2 id)
      unfold Ev.val at hF0
      have htl : R.drop (k + 1) = l.drop (k + 1) := by
        have h0 := congrArg (List.drop 1) hN.tail
        simpa [List.drop_drop, Nat.add_comm] using h0
      have HTS := Lib.hid hts
      have HTL := Lib.hid htl
      have HN := Lib.hid hN
      have HRL := Lib.hid hRl
      have HSR := Lib.hid hsR
      have HRD := Lib.hid hrd
      clear hs hts htl hN hRl hsR hrd
      cases hg : goodEv f p
      · rw [hg] at hF0
        go_wp2_with fail
        refine hF0.mono ?_
        rintro e w3 ⟨rfl, hc3⟩
        go_wp2
        go_roundw
        case rel =>
          refine ⟨_, _, _, _, _, _, _, _, _, _, _, _, _, _, _, _, _, _, _, _, _, _, _, ⟨i, k + 1, R, rfl, ?_, by omega, ⟨own_chg (own_chg HN.out.own hca id) hc3 id, HRL.out, by omega, ?_, HTL.out, (HN.out.chg.trans hca (fun _ x => x.elim)).trans hc3 (fun _ x => x.elim)⟩⟩, rfl⟩
          · go_num
          rw [HTS.out, List.filter_append, List.filter_cons_of_neg (by simp [hg]), List.filter_nil, List.append_nil]
          exact HN.out.head
        case measure => simp [intOf]; omega
      · rw [hg] at hF0
        have hown3 : ∀ w3, Chg Non (wr.alloc (.cells #[.int .i64 p.at_, .int .i64 p.src, .int .i64 p.sent, .int .i64 p.no, .int .i64 p.dst, .int .i64 p.kind, .int .i64 p.data] 31)) w3 → w3.ownsRow 0 31 7 (.slice (some ⟨g, 0, none⟩) l.length cap) l.length (R.flatMap Ev.cells) := fun w3 hc3 => own_chg (own_chg HN.out.own hca id) hc3 id
        have HO := Lib.hid hown3
        clear hown3
        go_wp2_with fail
        refine hF0.mono ?_
        rintro e w3 ⟨rfl, hc3⟩
        obtain ⟨u0, u1, u2, u3, u4, u5, u6⟩ := (hEa.chg hc3 id).seven
        have hy : R[i]? = some (R[i]'(by have := HRL.out; omega)) := List.getElem?_eq_getElem _
        generalize R[i]'(by have := HRL.out; omega) = y at hy
        obtain ⟨_, e', y0, y1, y2, y3, y4, y5, y6⟩ := ev_at ((HRD.out.non hca).non hc3) hy
        cases e'
        rw [add_plain] at y0 y1 y2 y3 y4 y5 y6
        obtain ⟨_, _, hvb, _, _, _, _, _, hfz⟩ := own_cells (HO.out w3 hc3) (by omega)
        cases hvb
        have z0 := hfz (i * 7)
        have z1 := hfz (i * 7 + 1)
        have z2 := hfz (i * 7 + 2)
        have z3 := hfz (i * 7 + 3)
        have z4 := hfz (i * 7 + 4)
        have z5 := hfz (i * 7 + 5)
        have z6 := hfz (i * 7 + 6)
        have HY := Lib.hid hy
        have hin : i < l.length := by omega
        clear hy hfz
        go_wp2
        go_roundw
        case rel =>
          refine ⟨_, _, _, _, _, _, _, _, _, _, _, _, _, _, _, _, _, _, _, _, _, _, _, ⟨i + 1, k + 1, R.set i p, ?_, ?_, by omega, ⟨own_set7 (HO.out w3 hc3) hin p, by rw [List.length_set]; exact HRL.out, by omega, ?_, ?_, ((HN.out.chg.trans hca (fun _ x => x.elim)).trans hc3 (fun _ x => x.elim)).trans (Chg.set7' w3 g (i * 7) _ _ _ _ _ _ _) (fun i hi => .inl hi)⟩⟩, rfl⟩
          · go_num
          · go_num
          · rw [HTS.out, List.filter_append, List.filter_cons_of_pos hg, List.filter_nil, ← HN.out.head, List.take_add_one, List.getElem?_set_self (by have := HRL.out; omega)]
            rw [List.take_set_of_le (Nat.le_refl i)]
            rfl
          · rw [List.drop_set_of_lt (by omega)]
            exact HTL.out
        case measure => simp [intOf]; omega
    · obtain rfl : k = l.length := by omega
      have hRl := hN.len
      have hik := hN.lt
      have hhead := hN.head
      rw [List.take_length] at hhead
      have hown := hN.own
      obtain ⟨h1, h2⟩ := hN.own
      rcases h2 with ⟨hv, _⟩ | ⟨g', cap', cur, hv, hb, hh, hle, hm, hsz, ht⟩
      · cases hv
      · cases hv
        have hblk : Blk wr g cur 31 := hh
        have hcap7 : l.length * 7 ≤ cap * 7 := Nat.mul_le_mul_right _ hle
        have hzl := zEv_len (l.length - i)
        obtain ⟨c1, cur1, b1, s1, p1, q1⟩ := setCells_blk g 31 (Builtin.zeroCells zEv.cells (l.length - i)).toList (i * 7) wr cur hblk (by rw [hzl, hsz]; omega)
        have hcl0 := fun ty c => run_clear_many (P := Try.prog) wr 27 31 ty zEv Try.underlying27 (fun w => by kernel_rfl) (l.length - i) (by omega) (zEv_one _) g (i * 7) c (fun j hj => by rw [hzl] at hj; rw [hblk.cell, Array.getElem?_eq_getElem (by omega)]; rfl) (fun j hj => hblk.frozen _)
        obtain ⟨W2, hW2⟩ : ∃ W2, W2 = wr.setCells g (i * 7) (Builtin.zeroCells zEv.cells (l.length - i)).toList := ⟨_, rfl⟩
        rw [← hW2] at hcl0 c1 b1
        have hfl : (l.filter (goodEv f)).length = i := by rw [← hhead, List.length_take]; omega
        have hrd2 : SlRead Ev.cells 7 W2 (some ⟨g, 0, none⟩) i cap (l.filter (goodEv f)) := by
          refine ⟨hfl, by omega, hm, (fun e => by cases e), fun j x hx => ⟨_, rfl, fun r u hu => ?_⟩⟩
          have hr : r < 7 := (List.getElem?_eq_some_iff.1 hu).1
          have hj : j < i := by rw [← hfl]; exact (List.getElem?_eq_some_iff.1 hx).1
          have hxR : R[j]? = some x := by rw [← hhead, List.getElem?_take, if_pos hj] at hx; exact hx
          have h3 := flatMap_get Ev.len R j x r u hxR hu
          rw [add_plain, b1.cell, q1 _ (by omega)]
          rw [← ht, List.getElem?_take, if_pos (by omega), Array.getElem?_toList] at h3
          exact h3
        have HRD := Lib.hid hrd2
        have HFL := Lib.hid hfl
        have hcC := hN.chg.trans c1 (fun i hi => .inl hi)
        have hic : i ≤ cap := by omega
        have hlc : l.length ≤ cap := hle
        have hne : ¬ cap = i := by omega
        clear hW2 hrd2 hfl hhead hown h1 hN c1 b1 s1 p1 q1 ht hsz hzl hblk hh
        go_wp2
        go_ret
        exact ⟨i, HFL.out.symm, rfl, HRD.out, hcC⟩
end Go.Proofs.Ytmdpbbnieehmnaa
