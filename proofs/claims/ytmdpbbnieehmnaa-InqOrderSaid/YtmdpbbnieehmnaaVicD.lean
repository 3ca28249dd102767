/- events: inq.Compare. -/
import Derived.Test.YtmdpbbnieehmnaaVicC
namespace Go.Proofs.Ytmdpbbnieehmnaa
open Go.RowKit
set_option linter.unusedSimpArgs false
set_option linter.unusedVariables false

theorem Blk.seven {w : World} {g : Nat} {a b c d e f h : Value} {t : TypeId} (k : Blk w g #[a, b, c, d, e, f, h] t) : w.cell? ⟨g, 0, none⟩ = some a ∧ w.cell? ⟨g, 1, none⟩ = some b ∧ w.cell? ⟨g, 2, none⟩ = some c ∧ w.cell? ⟨g, 3, none⟩ = some d ∧ w.cell? ⟨g, 4, none⟩ = some e ∧ w.cell? ⟨g, 5, none⟩ = some f ∧ w.cell? ⟨g, 6, none⟩ = some h :=
  ⟨k.cell 0, k.cell 1, k.cell 2, k.cell 3, k.cell 4, k.cell 5, k.cell 6⟩
theorem lexC_append : ∀ a b c d : List Int, a.length = b.length → lexC (a ++ c) (b ++ d) = if lexC a b = 0 then lexC c d else lexC a b
  | [], [], c, d, _ => by simp [lexC]
  | x :: xs, y :: ys, c, d, h => by
    rw [List.cons_append, List.cons_append]
    by_cases e : x = y
    · subst e
      rw [lexC_eq, lexC_eq, lexC_append xs ys c d (by simpa using h)]
    · rw [lexC_ne e, lexC_ne e]
      split <;> simp
theorem key_split (a b : Ev) : lexC a.key b.key = if lexC a.k4 b.k4 = 0 then lexC a.k3 b.k3 else lexC a.k4 b.k4 := lexC_append a.k4 b.k4 a.k3 b.k3 rfl
theorem or_cmp (xs ys : List Int) (h : xs.length = ys.length) : orR (List.zipWith cmpI xs ys) = lexC xs ys := by
  induction xs generalizing ys with
  | nil => cases ys <;> simp [orR, lexC]
  | cons x xs ih =>
    cases ys with
    | nil => simp at h
    | cons y ys =>
      rw [List.zipWith_cons_cons, orR]
      by_cases e : x = y
      · subst e
        have : cmpI x x = 0 := lexC_self [x]
        rw [this, if_pos rfl, lexC_eq, ih ys (by simpa using h)]
      · have hc : cmpI x y = if x < y then -1 else 1 := lexC_ne e
        rw [lexC_ne e, hc]
        split <;> simp
theorem ints_read {w : World} {g n : Nat} {cs : Array Value} {t : TypeId} (h : Blk w g cs t) (xs : List Int) (hcs : cs.toList = xs.map (Value.int .i64)) (hn : xs.length = n) (hm : n ≤ maxLen) : SlRead (fun x => [Value.int .i64 x]) 1 w (some ⟨g, 0, none⟩) n n xs :=
  ⟨hn, Nat.le_refl _, hm, (fun e => by cases e), fun i x hx => ⟨_, rfl, fun j u hu => by
    cases j with
    | zero =>
      simp at hu
      subst hu
      rw [Addr.add_lit, h.cell]
      have := congrArg (fun l => l[i]?) hcs
      simp [hx] at this
      simpa using this
    | succ j => simp at hu⟩⟩

set_option maxHeartbeats 2000000 in
set_option maxRecDepth 100000 in
theorem inqCmp_any (a b : Ev) (w : World) : Calls Try.prog 29 #[a.val, b.val] w fun e w' => e = .returned (.int .i64 (lexC a.key b.key)) ∧ Chg Non w w' := by
  have hc0 := ((Chg.refl Non w).alloc (.cells #[.int .i64 a.at_, .int .i64 a.src, .int .i64 a.sent, .int .i64 a.no, .int .i64 a.dst, .int .i64 a.kind, .int .i64 a.data] 31)).alloc (.cells #[.int .i64 b.at_, .int .i64 b.src, .int .i64 b.sent, .int .i64 b.no, .int .i64 b.dst, .int .i64 b.kind, .int .i64 b.data] 31)
  have h1 := (Blk.new w #[.int .i64 a.at_, .int .i64 a.src, .int .i64 a.sent, .int .i64 a.no, .int .i64 a.dst, .int .i64 a.kind, .int .i64 a.data] 31).alloc (.cells #[.int .i64 b.at_, .int .i64 b.src, .int .i64 b.sent, .int .i64 b.no, .int .i64 b.dst, .int .i64 b.kind, .int .i64 b.data] 31)
  have h2 := Blk.new_at (w := w.alloc (.cells #[.int .i64 a.at_, .int .i64 a.src, .int .i64 a.sent, .int .i64 a.no, .int .i64 a.dst, .int .i64 a.kind, .int .i64 a.data] 31)) (cs := #[.int .i64 b.at_, .int .i64 b.src, .int .i64 b.sent, .int .i64 b.no, .int .i64 b.dst, .int .i64 b.kind, .int .i64 b.data]) (t := 31) (g := w.heap.size + 1) (by simp)
  obtain ⟨a0, a1, a2, a3, a4, a5, a6⟩ := h1.seven
  obtain ⟨b0, b1, b2, b3, b4, b5, b6⟩ := h2.seven
  have hsw := lexC_swap a.k4 b.k4
  have hrg := lexC_range a.k4 b.k4
  have B1 := fun w => before_any a b w
  have B2 := fun w => before_any b a w
  unfold Ev.kval at B1 B2
  unfold Ev.val
  cases c1 : beforeB a b
  · cases c2 : beforeB b a
    · have hz : lexC a.k4 b.k4 = 0 := by
        simp [beforeB] at c1 c2
        omega
      have hk : lexC a.key b.key = orR [cmpI a.dst b.dst, cmpI a.kind b.kind, cmpI a.data b.data] := by
        rw [key_split, if_pos hz]
        exact (or_cmp a.k3 b.k3 rfl).symm
      rw [hk]
      rw [c1] at B1
      rw [c2] at B2
      clear hsw hrg hk hz c1 c2
      go_enter Try.func29, Try.ntmps29
      go_wp2_with fail
      refine (B1 _).mono ?_
      rintro e w2 ⟨rfl, hc2⟩
      have h12 := h1.chg hc2 id
      have h22 := h2.chg hc2 id
      obtain ⟨p0, p1, p2, p3, p4, p5, p6⟩ := h12.seven
      obtain ⟨q0, q1, q2, q3, q4, q5, q6⟩ := h22.seven
      go_wp2_with fail
      refine (B2 _).mono ?_
      rintro e w3 ⟨rfl, hc3⟩
      obtain ⟨r0, r1, r2, r3, r4, r5, r6⟩ := (h12.chg hc3 id).seven
      obtain ⟨s0, s1, s2, s3, s4, s5, s6⟩ := (h22.chg hc3 id).seven
      go_wp2_with fail
      refine wp_region_still_tail 15 (by kernel_rfl) (by kernel_rfl) ?_
      simp only [List.take_succ_cons, List.take_zero, List.drop_succ_cons, List.drop_zero]
      repeat (first | still_step | still_call (cmpInt_any _ _ _))
      refine wpStill_nil ?_
      have hi := ints_read (Blk.new_at (w := w3.drew) (cs := #[.int .i64 (cmpI a.dst b.dst), .int .i64 (cmpI a.kind b.kind), .int .i64 (cmpI a.data b.data)]) (t := 3) (g := w3.heap.size) rfl) [cmpI a.dst b.dst, cmpI a.kind b.kind, cmpI a.data b.data] (n := 3) rfl rfl (by decide)
      go_wp2_with fail
      refine (cmpOr_any _ 3 3 _ _ hi (by decide)).mono ?_
      rintro e w4 ⟨rfl, rfl⟩
      go_wp2
      go_ret
      exact ⟨rfl, (((hc0.trans hc2 (fun _ x => x.elim)).trans hc3 (fun _ x => x.elim)).drew).alloc _⟩
    · have hz : 0 < lexC a.k4 b.k4 := by
        simp [beforeB] at c1 c2
        omega
      have hk : lexC a.key b.key = 1 := by
        rw [key_split, if_neg (by omega)]
        omega
      rw [hk]
      rw [c1] at B1
      rw [c2] at B2
      clear hsw hrg hk hz c1 c2
      go_enter Try.func29, Try.ntmps29
      go_wp2_with fail
      refine (B1 _).mono ?_
      rintro e w2 ⟨rfl, hc2⟩
      have h12 := h1.chg hc2 id
      have h22 := h2.chg hc2 id
      obtain ⟨p0, p1, p2, p3, p4, p5, p6⟩ := h12.seven
      obtain ⟨q0, q1, q2, q3, q4, q5, q6⟩ := h22.seven
      go_wp2_with fail
      refine (B2 _).mono ?_
      rintro e w3 ⟨rfl, hc3⟩
      go_wp2
      go_ret
      exact ⟨rfl, (hc0.trans hc2 (fun _ x => x.elim)).trans hc3 (fun _ x => x.elim)⟩
  · have hz : lexC a.k4 b.k4 < 0 := by simpa [beforeB] using c1
    have hk : lexC a.key b.key = -1 := by
      rw [key_split, if_neg (by omega)]
      omega
    rw [hk]
    rw [c1] at B1
    clear hsw hrg hk hz c1
    go_enter Try.func29, Try.ntmps29
    go_wp2_with fail
    refine (B1 _).mono ?_
    rintro e w2 ⟨rfl, hc2⟩
    go_wp2
    go_ret
    exact ⟨rfl, hc0.trans hc2 (fun _ x => x.elim)⟩
end Go.Proofs.Ytmdpbbnieehmnaa
