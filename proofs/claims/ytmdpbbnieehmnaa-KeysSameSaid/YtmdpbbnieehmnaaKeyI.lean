/- KeysSame: plain part, and the walk. -/
import Derived.Test.YtmdpbbnieehmnaaKeyG
namespace Go.Proofs.Ytmdpbbnieehmnaa
open Go.RowKit
set_option linter.unusedSimpArgs false
set_option linter.unusedVariables false

def Ev.wf (e : Ev) : Prop := (Lit.int .i64 e.at_).wf = true ∧ (Lit.int .i64 e.src).wf = true ∧ (Lit.int .i64 e.sent).wf = true ∧ (Lit.int .i64 e.no).wf = true ∧ (Lit.int .i64 e.dst).wf = true ∧ (Lit.int .i64 e.kind).wf = true ∧ (Lit.int .i64 e.data).wf = true
theorem seg_pairwise : ∀ {R : List Ev}, Seg R 0 R.length → R.Pairwise (fun x y => cmpK x y ≤ 0)
  | [], _ => .nil
  | x :: R, h => by
    refine .cons (fun y hy => ?_) (seg_pairwise (R := R) (fun s t h1 h2 h3 => h (s + 1) (t + 1) (by omega) (by omega) (by simpa using h3)))
    obtain ⟨i, hi, rfl⟩ := List.mem_iff_getElem.1 hy
    have h1 := h 0 (i + 1) (Nat.le_refl _) (by omega) (by simpa using hi)
    have h2 := gE_some (R := x :: R) (i := i + 1) (by simpa using hi)
    rw [List.getElem?_cons_succ, List.getElem?_eq_getElem hi] at h2
    rw [← Option.some.inj h2] at h1
    exact h1
theorem sort_unique : ∀ {A B : List Ev}, (∀ k, A.filter (fun e => e.k4 == k) = B.filter (fun e => e.k4 == k)) → A.Pairwise (fun x y => cmpK x y ≤ 0) → B.Pairwise (fun x y => cmpK x y ≤ 0) → A = B
  | [], [], _, _, _ => rfl
  | [], y :: B, h, _, _ => by
    have := h y.k4
    simp at this
  | x :: A, [], h, _, _ => by
    have := h x.k4
    simp at this
  | x :: A, y :: B, h, hA, hB => by
    have hx : x ∈ y :: B := by
      have : x ∈ (y :: B).filter (fun e => e.k4 == x.k4) := by rw [← h]; simp
      exact (List.mem_filter.1 this).1
    have hy : y ∈ x :: A := by
      have : y ∈ (x :: A).filter (fun e => e.k4 == y.k4) := by rw [h]; simp
      exact (List.mem_filter.1 this).1
    have c1 : cmpK y x ≤ 0 := by
      rcases List.mem_cons.1 hx with e | hm
      · rw [e, cmpK_self]; omega
      · exact (List.pairwise_cons.1 hB).1 x hm
    have c2 : cmpK x y ≤ 0 := by
      rcases List.mem_cons.1 hy with e | hm
      · rw [e, cmpK_self]; omega
      · exact (List.pairwise_cons.1 hA).1 y hm
    have hk : x.k4 = y.k4 := lexC_zero x.k4 y.k4 rfl (by have := cmpK_swap x y; unfold cmpK at *; omega)
    have e1 := h x.k4
    rw [List.filter_cons_of_pos (by simp), List.filter_cons_of_pos (by simp [hk])] at e1
    obtain ⟨e2, e3⟩ := List.cons.inj e1
    subst e2
    congr 1
    refine sort_unique (fun k => ?_) (List.pairwise_cons.1 hA).2 (List.pairwise_cons.1 hB).2
    have e4 := h k
    by_cases hkx : x.k4 = k
    · rw [List.filter_cons_of_pos (by simp [hkx]), List.filter_cons_of_pos (by simp [hkx])] at e4
      exact (List.cons.inj e4).2
    · rwa [List.filter_cons_of_neg (by simp [hkx]), List.filter_cons_of_neg (by simp [hkx])] at e4
theorem IsSort.pair {l R : List Ev} (h : IsSort l R) : R.Pairwise (fun x y => cmpK x y ≤ 0) := seg_pairwise (by rw [h.len]; exact h.2)
theorem IsSort.unique {l R R' : List Ev} (h : IsSort l R) (h' : IsSort l R') : R = R' := sort_unique (fun k => (h.1.same k).trans (h'.1.same k).symm) h.pair h'.pair
theorem IsSort.again {l R R' : List Ev} (h : IsSort l R) (h' : IsSort R R') : R' = R := sort_unique (fun k => h'.1.same k) h'.pair h.pair
def cnt (e : Ev) (l : List Ev) : Nat := (l.filter (fun x => decide (x = e))).length
theorem cnt_snoc (e : Ev) (l : List Ev) (x : Ev) : cnt e (l ++ [x]) = cnt e l + if x = e then 1 else 0 := by
  unfold cnt
  rw [List.filter_append, List.length_append]
  by_cases h : x = e <;> simp [h]
theorem cnt_le (e : Ev) (l : List Ev) : cnt e l ≤ l.length := List.length_filter_le _ _
theorem cnt_key (e : Ev) (l : List Ev) : cnt e l = cnt e (l.filter (fun x => x.k4 == e.k4)) := by
  unfold cnt
  rw [List.filter_filter]
  congr 1
  apply List.filter_congr
  intro x _
  by_cases h : x = e <;> simp [h]
theorem IsSort.cnt {l R : List Ev} (h : IsSort l R) (e : Ev) : cnt e R = cnt e l := by rw [cnt_key, h.1.same, ← cnt_key]
theorem sort_read {A : Option Addr} {cap : Nat} {l R : List Ev} {w : World} (h : w.ownsRow 0 31 7 (.slice A l.length cap) l.length (R.flatMap Ev.cells)) (hS : IsSort l R) : SlRead Ev.cells 7 w A l.length cap R := by
  rw [← hS.len] at h ⊢
  exact own_read_opt Ev.len (by decide) h

set_option maxHeartbeats 16000000 in
set_option maxRecDepth 100000 in
theorem keysSame_any (A : Option Addr) (n c : Nat) (l : List Ev) (w : World) (h : SlRead Ev.cells 7 w A n c l) :
    Calls Try.prog 4 #[.slice A n c] w fun e w' => e = .returned (.bool true) ∧ Below w.heap.size w w' := by
  have hlen := h.len
  subst hlen
  have HL := Lib.hid h
  clear h
  by_cases hbig : (60 : Int) < l.length
  · go_enter Try.func4, Try.ntmps4
    go_wp2_with fail
    refine (awake02_any _).mono ?_
    rintro e w5 ⟨rfl, hb5⟩
    go_wp2
    go_ret
    exact ⟨rfl, hb5.non_below⟩
  have hsm : l.length ≤ 60 := by omega
  go_enter Try.func4, Try.ntmps4
  go_wp2_with fail
  refine (keysSort_any A l.length c l _ HL.out (by omega)).mono ?_
  rintro e w2 ⟨A2, cap2, R, rfl, ho2, hS2, hc2, hA2⟩
  have hR2 := sort_read ho2 hS2
  have HR2 := Lib.hid hR2
  have HS2 := Lib.hid hS2
  have HC2 := Lib.hid hc2
  clear ho2 hS2 hc2 hA2 hR2
  go_wp2_with fail
  refine (keysSort_any A2 l.length cap2 R _ HR2.out (by omega)).mono ?_
  rintro e w3 ⟨A3, cap3, R3, rfl, ho3, hS3, hc3, hA3⟩
  have e3 := HS2.out.again hS3
  subst e3
  have hR3 := sort_read ho3 hS3
  rw [HS2.out.len] at hR3 ⊢
  have hl3 := HS2.out.len
  have HR3 := Lib.hid hR3
  have HC3 := Lib.hid hc3
  have HL3 := Lib.hid hl3
  clear ho3 hS3 hc3 hA3 hR3 hl3
  go_wp2_with fail
  refine (events02_eq A3 A2 l.length cap3 cap2 R3 _ HR3.out (HR2.out.non HC3.out) (by omega)).mono ?_
  rintro e w4 ⟨rfl, hc4⟩
  have HC4 := Lib.hid ((HC2.out.trans HC3.out (fun _ x => x.elim)).trans hc4 (fun _ x => x.elim))
  have HR4 := Lib.hid ((HR2.out.non HC3.out).non hc4)
  clear hc4
  go_wp2_with fail
  go_loopw [4] (fun i wr => ∃ k : Nat, k ≤ l.length ∧ i = .int .i64 k ∧ Hid (Chg Non w4 wr)) (fun i _ => l.length - (intOf i).toNat)
  case atStart => exact ⟨0, by omega, rfl, Chg.refl _ _⟩
  case round =>
    obtain ⟨k, hk, rfl, hI⟩ := hrel
    by_cases hlt : k < l.length
    · have hs : l[k]? = some (l[k]'(by omega)) := List.getElem?_eq_getElem (by omega)
      generalize l[k]'(by omega) = m at hs
      have HSS := Lib.hid hs
      clear hs
      go_wp2_with fail
      go_loopw [5, 6, 7] (fun a b i wr => ∃ j : Nat, j ≤ l.length ∧ a = .int .i64 (cnt m (l.take j) : Nat) ∧ b = .int .i64 (cnt m (R3.take j) : Nat) ∧ i = .int .i64 j ∧ Hid (Chg Non w4 wr)) (fun _ _ i _ => l.length - (intOf i).toNat)
      case atStart => exact ⟨0, by omega, rfl, rfl, rfl, hI.out⟩
      case round =>
        clear hI
        obtain ⟨j, hj, rfl, rfl, rfl, hI⟩ := hrel
        have hcl : cnt m (l.take j) ≤ 60 := by have := cnt_le m (l.take j); rw [List.length_take] at this; omega
        have hcr : cnt m (R3.take j) ≤ 60 := by have := cnt_le m (R3.take j); rw [List.length_take] at this; omega
        by_cases hlt2 : j < l.length
        · have hx : l[j]? = some (l[j]'(by omega)) := List.getElem?_eq_getElem (by omega)
          generalize l[j]'(by omega) = x at hx
          have hy : R3[j]? = some (R3[j]'(by rw [HL3.out]; exact hlt2)) := List.getElem?_eq_getElem _
          generalize R3[j]'(by rw [HL3.out]; exact hlt2) = y at hy
          obtain ⟨ad, rfl, a0, a1, a2, a3, a4, a5, a6⟩ := ev_at ((HL.out.non HC4.out).non hI.out) HSS.out
          obtain ⟨ad1, e1, b0, b1, b2, b3, b4, b5, b6⟩ := ev_at ((HL.out.non HC4.out).non hI.out) hx
          cases e1
          obtain ⟨ad2, rfl, d0, d1, d2, d3, d4, d5, d6⟩ := ev_at (HR4.out.non hI.out) hy
          have tx : cnt m (l.take (j + 1)) = cnt m (l.take j) + if x = m then 1 else 0 := by rw [List.take_add_one, hx]; exact cnt_snoc _ _ _
          have ty : cnt m (R3.take (j + 1)) = cnt m (R3.take j) + if y = m then 1 else 0 := by rw [List.take_add_one, hy]; exact cnt_snoc _ _ _
          have q1 := ev_eq x m
          have q2 := ev_eq y m
          clear hx hy
          generalize cnt m (l.take j) = u at *
          generalize cnt m (R3.take j) = v at *
          have TX := Lib.hid tx
          have TY := Lib.hid ty
          clear tx ty
          by_cases h1 : x = m <;> by_cases h2 : y = m
          all_goals
            have TX' := TX.out
            have TY' := TY.out
            first | rw [if_pos h1] at TX' | rw [if_neg h1] at TX'
            first | rw [if_pos h2] at TY' | rw [if_neg h2] at TY'
            first | rw [decide_eq_true h1] at q1 | rw [decide_eq_false h1] at q1
            first | rw [decide_eq_true h2] at q2 | rw [decide_eq_false h2] at q2
            replace TX' := Lib.hid TX'
            replace TY' := Lib.hid TY'
            clear h1 h2
            go_wp2_with fail
            go_quiet (fail)
            go_wp2_with fail
            go_quiet (fail)
            go_wp2_with fail
            go_roundw
            case rel => exact ⟨j + 1, by omega, by rw [TX'.out]; rfl, by rw [TY'.out]; rfl, by go_num, hI.out.drewN _⟩
            case measure => simp [intOf]; omega
        · obtain rfl : j = l.length := by omega
          have hce : cnt m (R3.take l.length) = cnt m (l.take l.length) := by
            rw [List.take_of_length_le (by rw [HL3.out]; exact Nat.le_refl _), List.take_length]
            exact HS2.out.cnt m
          rw [hce]
          generalize cnt m (l.take l.length) = u at *
          clear hce hcr
          have hII := hI.out
          have HI := Lib.hid hII
          clear hI hII
          cases k with
          | zero =>
            go_wp2_with fail
            go_quiet (fail)
            go_wp2_with fail
            go_roundw
            case rel => exact ⟨1, by omega, by go_num, HI.out.drewN _⟩
            case measure => simp [intOf]; omega
          | succ k =>
            have hk3 : k + 1 < R3.length := by rw [HL3.out]; exact hlt
            have hx := gE_some (R := R3) (i := k) (by omega)
            have hy := gE_some (R := R3) (i := k + 1) hk3
            have hcmp := HS2.out.2 k (k + 1) (Nat.zero_le _) (by omega) hlt
            generalize gE R3 k = x at *
            generalize gE R3 (k + 1) = y at *
            obtain ⟨ad, rfl, a0, a1, a2, a3, a4, a5, a6⟩ := ev_at (HR4.out.non HI.out) hx
            obtain ⟨ad', e1, b0, b1, b2, b3, b4, b5, b6⟩ := ev_at (HR4.out.non HI.out) hy
            cases e1
            have hKC := fun w => keyCmp_any x y w
            unfold Ev.kval at hKC
            have hk1 : (0 : Int) < (k : Int) + 1 := by omega
            have hk2 : (0 : Int) ≤ (k : Int) + 1 := by omega
            have hk4 : (k : Int) + 1 < (l.length : Int) := by omega
            have hk5 : k < l.length := by omega
            have hwr : IntKind.i64.wrap (k : Int) = (k : Int) := by rw [IntKind.wrap_i64]; omega
            clear hx hy
            go_wp2_with fail
            refine still_tail_d 18 (by kernel_rfl) (by kernel_rfl) ?_
            simp only [List.take_succ_cons, List.take_zero, List.drop_succ_cons, List.drop_zero]
            repeat still_step
            refine wpStill_nil ?_
            go_wp2_with fail
            refine (hKC _).mono ?_
            rintro e w6 ⟨rfl, hc6⟩
            generalize cmpK x y = cc at *
            have hcc : ¬ 0 < cc := by omega
            have hdec : decide (0 < cc) = false := decide_eq_false hcc
            have HI6 := Lib.hid (HI.out.drew.trans hc6 (fun _ x => x.elim))
            clear hc6
            go_wp2_with fail
            go_roundw
            case rel => exact ⟨k + 1 + 1, by omega, by go_num, HI6.out⟩
            case measure => simp [intOf]; omega
    · obtain rfl : k = l.length := by omega
      go_wp2_with fail
      refine (awake02_any _).mono ?_
      rintro e w5 ⟨rfl, hb5⟩
      have HF := Lib.hid ((HC4.out.trans hI.out (fun _ x => x.elim)).trans hb5 (fun _ x => x.elim))
      go_wp2
      go_ret
      exact ⟨rfl, HF.out.non_below⟩
end Go.Proofs.Ytmdpbbnieehmnaa
