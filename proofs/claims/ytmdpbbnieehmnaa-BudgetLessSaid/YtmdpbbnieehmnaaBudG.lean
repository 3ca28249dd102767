/- budget: BudgetLess, the walk. -/
import Derived.Test.YtmdpbbnieehmnaaBudF
import Derived.StillTailTactics
import Derived.Deep.RegionHeld3
namespace Go.Proofs.Ytmdpbbnieehmnaa
open Go.RowKit
set_option linter.unusedSimpArgs false

theorem two_cells {w : World} {g : Nat} {x y : C5} (h : ∀ j u, (x.cells.toList ++ y.cells.toList)[j]? = some u → w.cell? ((⟨g, 0, none⟩ : Addr).add j) = some u) :
    ∀ (i : Nat) a, [x, y][i]? = some a → ∃ ad, some (⟨g, 0, none⟩ : Addr) = some ad ∧ ∀ j u, a.cells[j]? = some u → w.cell? (ad.add (i * 5 + j)) = some u := by
  intro i a ha
  refine ⟨_, rfl, fun j u hu => h _ u ?_⟩
  match i, ha with
  | 0, ha =>
    simp at ha; subst ha
    rw [List.getElem?_append_left (by simp [C5.cells]; have := (Array.getElem?_eq_some_iff.1 hu).1; simp [C5.cells] at this; omega)]
    simpa using hu
  | 1, ha =>
    simp at ha; subst ha
    rw [List.getElem?_append_right (by simp [C5.cells])]
    simpa [C5.cells] using hu
  | k + 2, ha => simp at ha
theorem two_in {x y : C5} {B : Int} (h : x.in B) (k : y.in B) : ∀ (i : Nat) a, [x, y][i]? = some a → a.in B := by
  intro i a ha
  match i, ha with
  | 0, ha => simp at ha; subst ha; exact h
  | 1, ha => simp at ha; subst ha; exact k
  | k + 2, ha => simp at ha

def mni (a b : Int) : Int := if b < a then b else a

set_option maxHeartbeats 1000000 in
set_option maxRecDepth 100000 in
theorem less_bad (t0 t1 c0 c1 c2 c3 c4 more l0 l1 l2 l3 l4 : Int) (vital : Bool) (w : World) (h : t0 < 1 ∨ 4096 < t0 ∨ t1 < 0 ∨ t0 < t1) :
    Calls Try.prog 7 #[.agg #[.int .i64 t0, .int .i64 t1], .agg #[.int .i64 c0, .int .i64 c1, .int .i64 c2, .int .i64 c3, .int .i64 c4, .int .i64 more, .bool vital], countsV l0 l1 l2 l3 l4] w fun e w' => e = .returned (.bool true) ∧ Below w.heap.size w w' := by
  have hn := fun w => new_bad t0 t1 w h
  have Hn := Lib.hid hn
  clear hn h
  go_enter Try.func7, Try.ntmps7
  go_wp2_with fail
  refine (Hn.out _).mono ?_
  rintro e w1 ⟨rfl, rfl⟩
  go_wp2_with fail
  refine (awake17_any _).mono ?_
  rintro e w1 ⟨rfl, hb⟩
  go_wp2_with fail
  go_ret
  exact ⟨rfl, ((((Chg.refl Non w).alloc _).alloc _).alloc _ |>.then_below hb).non_below⟩

theorem keepS {w w3 w1 w2 : World} {c0 c1 c2 c3 c4 l0 l1 l2 l3 l4 m0 m1 m2 m3 m4 : Int} {z y : Nat} (hb : Below w1.heap.size w1 w2) (h : w1.cell? ⟨w.heap.size + 1, 0, none⟩ = some (.int .i64 c0) ∧ w1.cell? ⟨w.heap.size + 1, 1, none⟩ = some (.int .i64 c1) ∧ w1.cell? ⟨w.heap.size + 1, 2, none⟩ = some (.int .i64 c2) ∧ w1.cell? ⟨w.heap.size + 1, 3, none⟩ = some (.int .i64 c3) ∧ w1.cell? ⟨w.heap.size + 1, 4, none⟩ = some (.int .i64 c4) ∧ w1.cell? ⟨w.heap.size + 1 + 1, 0, none⟩ = some (.int .i64 l0) ∧ w1.cell? ⟨w.heap.size + 1 + 1, 1, none⟩ = some (.int .i64 l1) ∧ w1.cell? ⟨w.heap.size + 1 + 1, 2, none⟩ = some (.int .i64 l2) ∧ w1.cell? ⟨w.heap.size + 1 + 1, 3, none⟩ = some (.int .i64 l3) ∧ w1.cell? ⟨w.heap.size + 1 + 1, 4, none⟩ = some (.int .i64 l4) ∧ w1.cell? ⟨z, 0, none⟩ = some (.int .i64 (c0 - m0)) ∧ w1.cell? ⟨z, 1, none⟩ = some (.int .i64 (c1 - m1)) ∧ w1.cell? ⟨z, 2, none⟩ = some (.int .i64 (c2 - m2)) ∧ w1.cell? ⟨z, 3, none⟩ = some (.int .i64 (c3 - m3)) ∧ w1.cell? ⟨z, 4, none⟩ = some (.int .i64 (c4 - m4)) ∧ w1.cell? ⟨y, 0, none⟩ = some (.int .i64 (c0 - m0 + l0 + c0)) ∧ w1.cell? ⟨y, 1, none⟩ = some (.int .i64 (c1 - m1 + l1 + c1)) ∧ w1.cell? ⟨y, 2, none⟩ = some (.int .i64 (c2 - m2 + l2 + c2)) ∧ w1.cell? ⟨y, 3, none⟩ = some (.int .i64 (c3 - m3 + l3 + c3)) ∧ w1.cell? ⟨y, 4, none⟩ = some (.int .i64 (c4 - m4 + l4 + c4)) ∧ Below w3.heap.size w3 w1) : w2.cell? ⟨w.heap.size + 1, 0, none⟩ = some (.int .i64 c0) ∧ w2.cell? ⟨w.heap.size + 1, 1, none⟩ = some (.int .i64 c1) ∧ w2.cell? ⟨w.heap.size + 1, 2, none⟩ = some (.int .i64 c2) ∧ w2.cell? ⟨w.heap.size + 1, 3, none⟩ = some (.int .i64 c3) ∧ w2.cell? ⟨w.heap.size + 1, 4, none⟩ = some (.int .i64 c4) ∧ w2.cell? ⟨w.heap.size + 1 + 1, 0, none⟩ = some (.int .i64 l0) ∧ w2.cell? ⟨w.heap.size + 1 + 1, 1, none⟩ = some (.int .i64 l1) ∧ w2.cell? ⟨w.heap.size + 1 + 1, 2, none⟩ = some (.int .i64 l2) ∧ w2.cell? ⟨w.heap.size + 1 + 1, 3, none⟩ = some (.int .i64 l3) ∧ w2.cell? ⟨w.heap.size + 1 + 1, 4, none⟩ = some (.int .i64 l4) ∧ w2.cell? ⟨z, 0, none⟩ = some (.int .i64 (c0 - m0)) ∧ w2.cell? ⟨z, 1, none⟩ = some (.int .i64 (c1 - m1)) ∧ w2.cell? ⟨z, 2, none⟩ = some (.int .i64 (c2 - m2)) ∧ w2.cell? ⟨z, 3, none⟩ = some (.int .i64 (c3 - m3)) ∧ w2.cell? ⟨z, 4, none⟩ = some (.int .i64 (c4 - m4)) ∧ w2.cell? ⟨y, 0, none⟩ = some (.int .i64 (c0 - m0 + l0 + c0)) ∧ w2.cell? ⟨y, 1, none⟩ = some (.int .i64 (c1 - m1 + l1 + c1)) ∧ w2.cell? ⟨y, 2, none⟩ = some (.int .i64 (c2 - m2 + l2 + c2)) ∧ w2.cell? ⟨y, 3, none⟩ = some (.int .i64 (c3 - m3 + l3 + c3)) ∧ w2.cell? ⟨y, 4, none⟩ = some (.int .i64 (c4 - m4 + l4 + c4)) ∧ Below w3.heap.size w3 w2 := by
  obtain ⟨k0, k1, k2, k3, k4, k5, k6, k7, k8, k9, k10, k11, k12, k13, k14, k15, k16, k17, k18, k19, hz⟩ := h
  exact ⟨cell_keep hb k0, cell_keep hb k1, cell_keep hb k2, cell_keep hb k3, cell_keep hb k4, cell_keep hb k5, cell_keep hb k6, cell_keep hb k7, cell_keep hb k8, cell_keep hb k9, cell_keep hb k10, cell_keep hb k11, cell_keep hb k12, cell_keep hb k13, cell_keep hb k14, cell_keep hb k15, cell_keep hb k16, cell_keep hb k17, cell_keep hb k18, cell_keep hb k19, bel_then hz hb⟩

set_option maxRecDepth 100000 in
theorem equalIn_int {P : Program} {t : TypeId} {k : IntKind} (h : P.underlying t = some (.int k)) (d : Nat) (a b : Int) (w : World) : (Op.equalIn (d + 1) t (.int k a) (.int k b)).run P w = .ok (a == b) w := by
  simp [Op.equalIn, run_underlying h]
/-- Two arrays of five whole numbers. -/
theorem cnt_eqIn (x0 x1 x2 x3 x4 y0 y1 y2 y3 y4 : Int) (w : World) : (Op.equalIn 10000 39 (countsV x0 x1 x2 x3 x4) (countsV y0 y1 y2 y3 y4)).run Try.prog w = .ok (x0 == y0 && (x1 == y1 && (x2 == y2 && (x3 == y3 && x4 == y4)))) w := by
  have p0 : ∀ x0 x1 x2 x3 x4, (part 3 #[.int .i64 x0, .int .i64 x1, .int .i64 x2, .int .i64 x3, .int .i64 x4] 0).run Try.prog w = .ok (.int .i64 x0) w := fun _ _ _ _ _ => by kernel_rfl
  have p1 : ∀ x0 x1 x2 x3 x4, (part 3 #[.int .i64 x0, .int .i64 x1, .int .i64 x2, .int .i64 x3, .int .i64 x4] 1).run Try.prog w = .ok (.int .i64 x1) w := fun _ _ _ _ _ => by kernel_rfl
  have p2 : ∀ x0 x1 x2 x3 x4, (part 3 #[.int .i64 x0, .int .i64 x1, .int .i64 x2, .int .i64 x3, .int .i64 x4] 2).run Try.prog w = .ok (.int .i64 x2) w := fun _ _ _ _ _ => by kernel_rfl
  have p3 : ∀ x0 x1 x2 x3 x4, (part 3 #[.int .i64 x0, .int .i64 x1, .int .i64 x2, .int .i64 x3, .int .i64 x4] 3).run Try.prog w = .ok (.int .i64 x3) w := fun _ _ _ _ _ => by kernel_rfl
  have p4 : ∀ x0 x1 x2 x3 x4, (part 3 #[.int .i64 x0, .int .i64 x1, .int .i64 x2, .int .i64 x3, .int .i64 x4] 4).run Try.prog w = .ok (.int .i64 x4) w := fun _ _ _ _ _ => by kernel_rfl
  have hs : (sizeOf 3).run Try.prog w = .ok 1 w := by kernel_rfl
  have he : ∀ a b, (Op.equalIn 9999 3 (.int .i64 a) (.int .i64 b)).run Try.prog w = .ok (a == b) w := fun a b => equalIn_int Try.underlying3 9998 a b w
  unfold Op.equalIn
  simp [run_underlying Try.underlying39, hs, List.range'_succ, p0, p1, p2, p3, p4, he]
  by_cases h0 : x0 = y0 <;> simp [h0, p0, p1, p2, p3, p4, he]
  by_cases h1 : x1 = y1 <;> simp [h1, p0, p1, p2, p3, p4, he]
  by_cases h2 : x2 = y2 <;> simp [h2, p0, p1, p2, p3, p4, he]
  by_cases h3 : x3 = y3 <;> simp [h3, p0, p1, p2, p3, p4, he]
  by_cases h4 : x4 = y4 <;> simp [h4]
theorem cnt_neq (x0 x1 x2 x3 x4 : Int) (w : World) : (binOp .neq 39 (countsV x0 x1 x2 x3 x4) (countsV x0 x1 x2 x3 x4)).run Try.prog w = .ok (.bool false) w := by
  simp only [binOp]
  simp [Op.equal, Op.maxDepth, cnt_eqIn]

theorem new_made (room reserve : Int) (w : World) (h1 : 1 ≤ room) (h2 : room ≤ 4096) (h3 : 0 ≤ reserve) (h4 : reserve ≤ room) :
    Calls Try.prog 20 #[.int .i64 room, .int .i64 reserve] w fun e w' => ∃ g, e = .returned (.tuple #[.pointer (some ⟨g, 0, none⟩), .int .i64 0]) ∧ w.heap.size ≤ g ∧ Blk w' g (budCells room reserve 0 0 0 0 0) 92 ∧ Chg Non w w' :=
  (new_ok room reserve w h1 h2 h3 h4).mono fun _ _ ⟨he, hw⟩ => ⟨_, he, Nat.le_refl _, hw ▸ Blk.new_at rfl, hw ▸ (Chg.refl Non w).alloc _⟩

set_option maxHeartbeats 4000000 in
set_option maxRecDepth 100000 in
theorem less_ok (t0 t1 c0 c1 c2 c3 c4 more l0 l1 l2 l3 l4 : Int) (vital : Bool) (w : World) (ht1 : 1 ≤ t0) (ht2 : t0 ≤ 4096) (ht3 : 0 ≤ t1) (ht4 : t1 ≤ t0) :
    Calls Try.prog 7 #[.agg #[.int .i64 t0, .int .i64 t1], .agg #[.int .i64 c0, .int .i64 c1, .int .i64 c2, .int .i64 c3, .int .i64 c4, .int .i64 more, .bool vital], countsV l0 l1 l2 l3 l4] w fun e w' => e = .returned (.bool true) ∧ Below w.heap.size w w' := by
  go_enter Try.func7, Try.ntmps7
  go_wp2_with fail
  refine (new_made t0 t1 _ ht1 ht2 ht3 ht4).mono ?_
  rintro e w1 ⟨g, rfl, hg, hB, hch⟩
  have hA := (((Blk.new_at (g := w.heap.size + 1) (by simp)).alloc _)).chg hch id
  have hL := (Blk.new_at (g := w.heap.size + 2) (by simp)).chg hch id
  replace hch := (((Chg.refl Non w).alloc _).alloc _).alloc _ |>.trans hch (fun _ x => x.elim)
  simp at hg
  have hgl := hB.lt
  go_wp2_with fail
  obtain ⟨z, hz⟩ : ∃ z, z = w1.heap.size := ⟨_, rfl⟩
  have hzz : w.heap.size + 3 ≤ z := by omega
  have hzg : z ≠ g := by omega
  rw [← hz]
  go_loopw [10] (fun i wr => Chg Non w wr ∧ Blk wr (w.heap.size + 1) #[.int .i64 c0, .int .i64 c1, .int .i64 c2, .int .i64 c3, .int .i64 c4, .int .i64 more, .bool vital] 41 ∧ Blk wr (w.heap.size + 2) #[.int .i64 l0, .int .i64 l1, .int .i64 l2, .int .i64 l3, .int .i64 l4] 39 ∧ Blk wr g (budCells t0 t1 0 0 0 0 0) 92 ∧ ((i = .int .i64 0 ∧ Blk wr z #[.int .i64 0, .int .i64 0, .int .i64 0, .int .i64 0, .int .i64 0] 39) ∨ (i = .int .i64 1 ∧ 0 ≤ c0 ∧ c0 ≤ 1000 ∧ 0 ≤ l0 ∧ l0 ≤ 1000 ∧ Blk wr z #[.int .i64 (c0 - mni c0 l0), .int .i64 0, .int .i64 0, .int .i64 0, .int .i64 0] 39) ∨ (i = .int .i64 2 ∧ 0 ≤ c0 ∧ c0 ≤ 1000 ∧ 0 ≤ l0 ∧ l0 ≤ 1000 ∧ 0 ≤ c1 ∧ c1 ≤ 1000 ∧ 0 ≤ l1 ∧ l1 ≤ 1000 ∧ Blk wr z #[.int .i64 (c0 - mni c0 l0), .int .i64 (c1 - mni c1 l1), .int .i64 0, .int .i64 0, .int .i64 0] 39) ∨ (i = .int .i64 3 ∧ 0 ≤ c0 ∧ c0 ≤ 1000 ∧ 0 ≤ l0 ∧ l0 ≤ 1000 ∧ 0 ≤ c1 ∧ c1 ≤ 1000 ∧ 0 ≤ l1 ∧ l1 ≤ 1000 ∧ 0 ≤ c2 ∧ c2 ≤ 1000 ∧ 0 ≤ l2 ∧ l2 ≤ 1000 ∧ Blk wr z #[.int .i64 (c0 - mni c0 l0), .int .i64 (c1 - mni c1 l1), .int .i64 (c2 - mni c2 l2), .int .i64 0, .int .i64 0] 39) ∨ (i = .int .i64 4 ∧ 0 ≤ c0 ∧ c0 ≤ 1000 ∧ 0 ≤ l0 ∧ l0 ≤ 1000 ∧ 0 ≤ c1 ∧ c1 ≤ 1000 ∧ 0 ≤ l1 ∧ l1 ≤ 1000 ∧ 0 ≤ c2 ∧ c2 ≤ 1000 ∧ 0 ≤ l2 ∧ l2 ≤ 1000 ∧ 0 ≤ c3 ∧ c3 ≤ 1000 ∧ 0 ≤ l3 ∧ l3 ≤ 1000 ∧ Blk wr z #[.int .i64 (c0 - mni c0 l0), .int .i64 (c1 - mni c1 l1), .int .i64 (c2 - mni c2 l2), .int .i64 (c3 - mni c3 l3), .int .i64 0] 39) ∨ (i = .int .i64 5 ∧ 0 ≤ c0 ∧ c0 ≤ 1000 ∧ 0 ≤ l0 ∧ l0 ≤ 1000 ∧ 0 ≤ c1 ∧ c1 ≤ 1000 ∧ 0 ≤ l1 ∧ l1 ≤ 1000 ∧ 0 ≤ c2 ∧ c2 ≤ 1000 ∧ 0 ≤ l2 ∧ l2 ≤ 1000 ∧ 0 ≤ c3 ∧ c3 ≤ 1000 ∧ 0 ≤ l3 ∧ l3 ≤ 1000 ∧ 0 ≤ c4 ∧ c4 ≤ 1000 ∧ 0 ≤ l4 ∧ l4 ≤ 1000 ∧ Blk wr z #[.int .i64 (c0 - mni c0 l0), .int .i64 (c1 - mni c1 l1), .int .i64 (c2 - mni c2 l2), .int .i64 (c3 - mni c3 l3), .int .i64 (c4 - mni c4 l4)] 39))) (fun i _ => 5 - (intOf i).toNat)
  case atStart => exact ⟨hch.alloc _, hA.alloc _, hL.alloc _, hB.alloc _, .inl ⟨rfl, Blk.new_at hz⟩⟩
  case round =>
    clear hch hA hL hB hgl hz
    obtain ⟨hch, hA, hL, hB, hrel⟩ := hrel
    rcases hrel with ⟨rfl, hR⟩ | ⟨rfl, p0, q0, r0, s0, hR⟩ | ⟨rfl, p0, q0, r0, s0, p1, q1, r1, s1, hR⟩ | ⟨rfl, p0, q0, r0, s0, p1, q1, r1, s1, p2, q2, r2, s2, hR⟩ | ⟨rfl, p0, q0, r0, s0, p1, q1, r1, s1, p2, q2, r2, s2, p3, q3, r3, s3, hR⟩ | ⟨rfl, p0, q0, r0, s0, p1, q1, r1, s1, p2, q2, r2, s2, p3, q3, r3, s3, p4, q4, r4, s4, hR⟩
    · have ea := hA.cell 0
      have el := hL.cell 0
      by_cases h1 : c0 < 0
      · go_wp2_with (go_at_call 21; refine (awake17_any _).mono ?_; rintro e w' ⟨rfl, hb⟩)
        go_ret
        exact ⟨rfl, (hch.then_below hb).non_below⟩
      · by_cases h2 : 1000 < c0
        · go_wp2_with (go_at_call 21; refine (awake17_any _).mono ?_; rintro e w' ⟨rfl, hb⟩)
          go_ret
          exact ⟨rfl, (hch.then_below hb).non_below⟩
        · by_cases h3 : l0 < 0
          · go_wp2_with (go_at_call 21; refine (awake17_any _).mono ?_; rintro e w' ⟨rfl, hb⟩)
            go_ret
            exact ⟨rfl, (hch.then_below hb).non_below⟩
          · by_cases h4 : 1000 < l0
            · go_wp2_with (go_at_call 21; refine (awake17_any _).mono ?_; rintro e w' ⟨rfl, hb⟩)
              go_ret
              exact ⟨rfl, (hch.then_below hb).non_below⟩
            · have hf := hR.frozen 0
              have er := hR.cell 0
              go_wp2_with fail
              go_still_tail 15, (by kernel_rfl)
              go_wp2_with fail
              exact ⟨⟨(hch.setCell (.inr (by show w.heap.size ≤ z; omega)) _).drew, (hA.far (by show w.heap.size + 1 ≠ z; omega) _).drew, (hL.far (by show w.heap.size + 2 ≠ z; omega) _).drew, (hB.far (by show g ≠ z; omega) _).drew, .inr (.inl ⟨rfl, by omega, by omega, by omega, by omega, (hR.set 0 _).drew⟩)⟩, by simp [intOf]⟩
    · have ea := hA.cell 1
      have el := hL.cell 1
      by_cases h1 : c1 < 0
      · go_wp2_with (go_at_call 21; refine (awake17_any _).mono ?_; rintro e w' ⟨rfl, hb⟩)
        go_ret
        exact ⟨rfl, (hch.then_below hb).non_below⟩
      · by_cases h2 : 1000 < c1
        · go_wp2_with (go_at_call 21; refine (awake17_any _).mono ?_; rintro e w' ⟨rfl, hb⟩)
          go_ret
          exact ⟨rfl, (hch.then_below hb).non_below⟩
        · by_cases h3 : l1 < 0
          · go_wp2_with (go_at_call 21; refine (awake17_any _).mono ?_; rintro e w' ⟨rfl, hb⟩)
            go_ret
            exact ⟨rfl, (hch.then_below hb).non_below⟩
          · by_cases h4 : 1000 < l1
            · go_wp2_with (go_at_call 21; refine (awake17_any _).mono ?_; rintro e w' ⟨rfl, hb⟩)
              go_ret
              exact ⟨rfl, (hch.then_below hb).non_below⟩
            · have hf := hR.frozen 1
              have er := hR.cell 1
              go_wp2_with fail
              go_still_tail 15, (by kernel_rfl)
              go_wp2_with fail
              exact ⟨⟨(hch.setCell (.inr (by show w.heap.size ≤ z; omega)) _).drew, (hA.far (by show w.heap.size + 1 ≠ z; omega) _).drew, (hL.far (by show w.heap.size + 2 ≠ z; omega) _).drew, (hB.far (by show g ≠ z; omega) _).drew, .inr (.inr (.inl ⟨rfl, p0, q0, r0, s0, by omega, by omega, by omega, by omega, (hR.set 1 _).drew⟩))⟩, by simp [intOf]⟩
    · have ea := hA.cell 2
      have el := hL.cell 2
      by_cases h1 : c2 < 0
      · go_wp2_with (go_at_call 21; refine (awake17_any _).mono ?_; rintro e w' ⟨rfl, hb⟩)
        go_ret
        exact ⟨rfl, (hch.then_below hb).non_below⟩
      · by_cases h2 : 1000 < c2
        · go_wp2_with (go_at_call 21; refine (awake17_any _).mono ?_; rintro e w' ⟨rfl, hb⟩)
          go_ret
          exact ⟨rfl, (hch.then_below hb).non_below⟩
        · by_cases h3 : l2 < 0
          · go_wp2_with (go_at_call 21; refine (awake17_any _).mono ?_; rintro e w' ⟨rfl, hb⟩)
            go_ret
            exact ⟨rfl, (hch.then_below hb).non_below⟩
          · by_cases h4 : 1000 < l2
            · go_wp2_with (go_at_call 21; refine (awake17_any _).mono ?_; rintro e w' ⟨rfl, hb⟩)
              go_ret
              exact ⟨rfl, (hch.then_below hb).non_below⟩
            · have hf := hR.frozen 2
              have er := hR.cell 2
              go_wp2_with fail
              go_still_tail 15, (by kernel_rfl)
              go_wp2_with fail
              exact ⟨⟨(hch.setCell (.inr (by show w.heap.size ≤ z; omega)) _).drew, (hA.far (by show w.heap.size + 1 ≠ z; omega) _).drew, (hL.far (by show w.heap.size + 2 ≠ z; omega) _).drew, (hB.far (by show g ≠ z; omega) _).drew, .inr (.inr (.inr (.inl ⟨rfl, p0, q0, r0, s0, p1, q1, r1, s1, by omega, by omega, by omega, by omega, (hR.set 2 _).drew⟩)))⟩, by simp [intOf]⟩
    · have ea := hA.cell 3
      have el := hL.cell 3
      by_cases h1 : c3 < 0
      · go_wp2_with (go_at_call 21; refine (awake17_any _).mono ?_; rintro e w' ⟨rfl, hb⟩)
        go_ret
        exact ⟨rfl, (hch.then_below hb).non_below⟩
      · by_cases h2 : 1000 < c3
        · go_wp2_with (go_at_call 21; refine (awake17_any _).mono ?_; rintro e w' ⟨rfl, hb⟩)
          go_ret
          exact ⟨rfl, (hch.then_below hb).non_below⟩
        · by_cases h3 : l3 < 0
          · go_wp2_with (go_at_call 21; refine (awake17_any _).mono ?_; rintro e w' ⟨rfl, hb⟩)
            go_ret
            exact ⟨rfl, (hch.then_below hb).non_below⟩
          · by_cases h4 : 1000 < l3
            · go_wp2_with (go_at_call 21; refine (awake17_any _).mono ?_; rintro e w' ⟨rfl, hb⟩)
              go_ret
              exact ⟨rfl, (hch.then_below hb).non_below⟩
            · have hf := hR.frozen 3
              have er := hR.cell 3
              go_wp2_with fail
              go_still_tail 15, (by kernel_rfl)
              go_wp2_with fail
              exact ⟨⟨(hch.setCell (.inr (by show w.heap.size ≤ z; omega)) _).drew, (hA.far (by show w.heap.size + 1 ≠ z; omega) _).drew, (hL.far (by show w.heap.size + 2 ≠ z; omega) _).drew, (hB.far (by show g ≠ z; omega) _).drew, .inr (.inr (.inr (.inr (.inl ⟨rfl, p0, q0, r0, s0, p1, q1, r1, s1, p2, q2, r2, s2, by omega, by omega, by omega, by omega, (hR.set 3 _).drew⟩))))⟩, by simp [intOf]⟩
    · have ea := hA.cell 4
      have el := hL.cell 4
      by_cases h1 : c4 < 0
      · go_wp2_with (go_at_call 21; refine (awake17_any _).mono ?_; rintro e w' ⟨rfl, hb⟩)
        go_ret
        exact ⟨rfl, (hch.then_below hb).non_below⟩
      · by_cases h2 : 1000 < c4
        · go_wp2_with (go_at_call 21; refine (awake17_any _).mono ?_; rintro e w' ⟨rfl, hb⟩)
          go_ret
          exact ⟨rfl, (hch.then_below hb).non_below⟩
        · by_cases h3 : l4 < 0
          · go_wp2_with (go_at_call 21; refine (awake17_any _).mono ?_; rintro e w' ⟨rfl, hb⟩)
            go_ret
            exact ⟨rfl, (hch.then_below hb).non_below⟩
          · by_cases h4 : 1000 < l4
            · go_wp2_with (go_at_call 21; refine (awake17_any _).mono ?_; rintro e w' ⟨rfl, hb⟩)
              go_ret
              exact ⟨rfl, (hch.then_below hb).non_below⟩
            · have hf := hR.frozen 4
              have er := hR.cell 4
              go_wp2_with fail
              go_still_tail 15, (by kernel_rfl)
              go_wp2_with fail
              exact ⟨⟨(hch.setCell (.inr (by show w.heap.size ≤ z; omega)) _).drew, (hA.far (by show w.heap.size + 1 ≠ z; omega) _).drew, (hL.far (by show w.heap.size + 2 ≠ z; omega) _).drew, (hB.far (by show g ≠ z; omega) _).drew, .inr (.inr (.inr (.inr (.inr (⟨rfl, p0, q0, r0, s0, p1, q1, r1, s1, p2, q2, r2, s2, p3, q3, r3, s3, by omega, by omega, by omega, by omega, (hR.set 4 _).drew⟩)))))⟩, by simp [intOf]⟩
    · have ea0 := hA.cell 0
      have ea1 := hA.cell 1
      have ea2 := hA.cell 2
      have ea3 := hA.cell 3
      have ea4 := hA.cell 4
      have ea5 := hA.cell 5
      have el0 := hL.cell 0
      have el1 := hL.cell 1
      have el2 := hL.cell 2
      have el3 := hL.cell 3
      have el4 := hL.cell 4
      have er0 := hR.cell 0
      have er1 := hR.cell 1
      have er2 := hR.cell 2
      have er3 := hR.cell 3
      have er4 := hR.cell 4
      by_cases h1 : more < 0
      · go_wp2_with (go_at_call 21; refine (awake17_any _).mono ?_; rintro e w' ⟨rfl, hb⟩)
        go_ret
        exact ⟨rfl, (hch.then_below hb).non_below⟩
      · by_cases h2 : 1000 < more
        · go_wp2_with (go_at_call 21; refine (awake17_any _).mono ?_; rintro e w' ⟨rfl, hb⟩)
          go_ret
          exact ⟨rfl, (hch.then_below hb).non_below⟩
        · have b0 : 0 ≤ mni c0 l0 ∧ mni c0 l0 ≤ c0 := by unfold mni; omega
          have b1 : 0 ≤ mni c1 l1 ∧ mni c1 l1 ≤ c1 := by unfold mni; omega
          have b2 : 0 ≤ mni c2 l2 ∧ mni c2 l2 ≤ c2 := by unfold mni; omega
          have b3 : 0 ≤ mni c3 l3 ∧ mni c3 l3 ≤ c3 := by unfold mni; omega
          have b4 : 0 ≤ mni c4 l4 ∧ mni c4 l4 ≤ c4 := by unfold mni; omega
          generalize mni c0 l0 = m0 at b0 er0 hR
          generalize mni c1 l1 = m1 at b1 er1 hR
          generalize mni c2 l2 = m2 at b2 er2 hR
          generalize mni c3 l3 = m3 at b3 er3 hR
          generalize mni c4 l4 = m4 at b4 er4 hR
          obtain ⟨b0, d0⟩ := b0
          obtain ⟨b1, d1⟩ := b1
          obtain ⟨b2, d2⟩ := b2
          obtain ⟨b3, d3⟩ := b3
          obtain ⟨b4, d4⟩ := b4
          go_wp2_with fail
          refine (plus_any ⟨c0 - m0, c1 - m1, c2 - m2, c3 - m3, c4 - m4⟩ [⟨l0, l1, l2, l3, l4⟩, ⟨c0, c1, c2, c3, c4⟩] (some ⟨wr.heap.size, 0, none⟩) 2 2 _ rfl (by omega) (two_cells ((Blk.new_at rfl).reads' _ rfl)) (by constructor <;> dsimp only <;> omega) (two_in (by constructor <;> dsimp only <;> omega) (by constructor <;> dsimp only <;> omega))).mono ?_
          rintro e w2 ⟨rfl, hb2⟩
          simp only [List.foldl_cons, List.foldl_nil, C5.add, C5.v]
          have hA2 := (hA.alloc _).below hb2
          have hL2 := (hL.alloc _).below hb2
          have hB2 := (hB.alloc _).below hb2
          have hR2 := (hR.alloc _).below hb2
          have hch2 := (hch.alloc _).then_below hb2
          clear hA hL hB hR hch hb2 ea0 ea1 ea2 ea3 ea4 ea5 el0 el1 el2 el3 el4 er0 er1 er2 er3 er4
          obtain ⟨y, hy⟩ : ∃ y, y = w2.heap.size := ⟨_, rfl⟩
          have hyz : w.heap.size ≤ y := by have := hch2.size; omega
          go_wp2_with fail
          rw [← hy]
          have hA3 := hA2.alloc (.cells #[.int .i64 (c0 - m0 + l0 + c0), .int .i64 (c1 - m1 + l1 + c1), .int .i64 (c2 - m2 + l2 + c2), .int .i64 (c3 - m3 + l3 + c3), .int .i64 (c4 - m4 + l4 + c4)] 39)
          have hL3 := hL2.alloc (.cells #[.int .i64 (c0 - m0 + l0 + c0), .int .i64 (c1 - m1 + l1 + c1), .int .i64 (c2 - m2 + l2 + c2), .int .i64 (c3 - m3 + l3 + c3), .int .i64 (c4 - m4 + l4 + c4)] 39)
          have hB3 := hB2.alloc (.cells #[.int .i64 (c0 - m0 + l0 + c0), .int .i64 (c1 - m1 + l1 + c1), .int .i64 (c2 - m2 + l2 + c2), .int .i64 (c3 - m3 + l3 + c3), .int .i64 (c4 - m4 + l4 + c4)] 39)
          have hR3 := hR2.alloc (.cells #[.int .i64 (c0 - m0 + l0 + c0), .int .i64 (c1 - m1 + l1 + c1), .int .i64 (c2 - m2 + l2 + c2), .int .i64 (c3 - m3 + l3 + c3), .int .i64 (c4 - m4 + l4 + c4)] 39)
          have hY3 : Blk (w2.alloc (.cells #[.int .i64 (c0 - m0 + l0 + c0), .int .i64 (c1 - m1 + l1 + c1), .int .i64 (c2 - m2 + l2 + c2), .int .i64 (c3 - m3 + l3 + c3), .int .i64 (c4 - m4 + l4 + c4)] 39)) y #[.int .i64 (c0 - m0 + l0 + c0), .int .i64 (c1 - m1 + l1 + c1), .int .i64 (c2 - m2 + l2 + c2), .int .i64 (c3 - m3 + l3 + c3), .int .i64 (c4 - m4 + l4 + c4)] 39 := Blk.new_at hy
          have hch3 := hch2.alloc (.cells #[.int .i64 (c0 - m0 + l0 + c0), .int .i64 (c1 - m1 + l1 + c1), .int .i64 (c2 - m2 + l2 + c2), .int .i64 (c3 - m3 + l3 + c3), .int .i64 (c4 - m4 + l4 + c4)] 39)
          generalize w2.alloc (.cells #[.int .i64 (c0 - m0 + l0 + c0), .int .i64 (c1 - m1 + l1 + c1), .int .i64 (c2 - m2 + l2 + c2), .int .i64 (c3 - m3 + l3 + c3), .int .i64 (c4 - m4 + l4 + c4)] 39) = w3 at hA3 hL3 hB3 hR3 hY3 hch3 ⊢
          clear hA2 hL2 hB2 hR2 hch2 hy
          have hs3 := Below.refl w3.heap.size w3
          have k0 : w3.cell? ⟨w.heap.size + 1, 0, none⟩ = some (.int .i64 c0) := by first | exact hA3.cell _ | exact hL3.cell _ | exact hR3.cell _ | exact hY3.cell _
          have k1 : w3.cell? ⟨w.heap.size + 1, 1, none⟩ = some (.int .i64 c1) := by first | exact hA3.cell _ | exact hL3.cell _ | exact hR3.cell _ | exact hY3.cell _
          have k2 : w3.cell? ⟨w.heap.size + 1, 2, none⟩ = some (.int .i64 c2) := by first | exact hA3.cell _ | exact hL3.cell _ | exact hR3.cell _ | exact hY3.cell _
          have k3 : w3.cell? ⟨w.heap.size + 1, 3, none⟩ = some (.int .i64 c3) := by first | exact hA3.cell _ | exact hL3.cell _ | exact hR3.cell _ | exact hY3.cell _
          have k4 : w3.cell? ⟨w.heap.size + 1, 4, none⟩ = some (.int .i64 c4) := by first | exact hA3.cell _ | exact hL3.cell _ | exact hR3.cell _ | exact hY3.cell _
          have k5 : w3.cell? ⟨w.heap.size + 1 + 1, 0, none⟩ = some (.int .i64 l0) := by first | exact hA3.cell _ | exact hL3.cell _ | exact hR3.cell _ | exact hY3.cell _
          have k6 : w3.cell? ⟨w.heap.size + 1 + 1, 1, none⟩ = some (.int .i64 l1) := by first | exact hA3.cell _ | exact hL3.cell _ | exact hR3.cell _ | exact hY3.cell _
          have k7 : w3.cell? ⟨w.heap.size + 1 + 1, 2, none⟩ = some (.int .i64 l2) := by first | exact hA3.cell _ | exact hL3.cell _ | exact hR3.cell _ | exact hY3.cell _
          have k8 : w3.cell? ⟨w.heap.size + 1 + 1, 3, none⟩ = some (.int .i64 l3) := by first | exact hA3.cell _ | exact hL3.cell _ | exact hR3.cell _ | exact hY3.cell _
          have k9 : w3.cell? ⟨w.heap.size + 1 + 1, 4, none⟩ = some (.int .i64 l4) := by first | exact hA3.cell _ | exact hL3.cell _ | exact hR3.cell _ | exact hY3.cell _
          have k10 : w3.cell? ⟨z, 0, none⟩ = some (.int .i64 (c0 - m0)) := by first | exact hA3.cell _ | exact hL3.cell _ | exact hR3.cell _ | exact hY3.cell _
          have k11 : w3.cell? ⟨z, 1, none⟩ = some (.int .i64 (c1 - m1)) := by first | exact hA3.cell _ | exact hL3.cell _ | exact hR3.cell _ | exact hY3.cell _
          have k12 : w3.cell? ⟨z, 2, none⟩ = some (.int .i64 (c2 - m2)) := by first | exact hA3.cell _ | exact hL3.cell _ | exact hR3.cell _ | exact hY3.cell _
          have k13 : w3.cell? ⟨z, 3, none⟩ = some (.int .i64 (c3 - m3)) := by first | exact hA3.cell _ | exact hL3.cell _ | exact hR3.cell _ | exact hY3.cell _
          have k14 : w3.cell? ⟨z, 4, none⟩ = some (.int .i64 (c4 - m4)) := by first | exact hA3.cell _ | exact hL3.cell _ | exact hR3.cell _ | exact hY3.cell _
          have k15 : w3.cell? ⟨y, 0, none⟩ = some (.int .i64 (c0 - m0 + l0 + c0)) := by first | exact hA3.cell _ | exact hL3.cell _ | exact hR3.cell _ | exact hY3.cell _
          have k16 : w3.cell? ⟨y, 1, none⟩ = some (.int .i64 (c1 - m1 + l1 + c1)) := by first | exact hA3.cell _ | exact hL3.cell _ | exact hR3.cell _ | exact hY3.cell _
          have k17 : w3.cell? ⟨y, 2, none⟩ = some (.int .i64 (c2 - m2 + l2 + c2)) := by first | exact hA3.cell _ | exact hL3.cell _ | exact hR3.cell _ | exact hY3.cell _
          have k18 : w3.cell? ⟨y, 3, none⟩ = some (.int .i64 (c3 - m3 + l3 + c3)) := by first | exact hA3.cell _ | exact hL3.cell _ | exact hR3.cell _ | exact hY3.cell _
          have k19 : w3.cell? ⟨y, 4, none⟩ = some (.int .i64 (c4 - m4 + l4 + c4)) := by first | exact hA3.cell _ | exact hL3.cell _ | exact hR3.cell _ | exact hY3.cell _
          have x4 := fun w => cnt_neq (c0 - m0) (c1 - m1) (c2 - m2) (c3 - m3) (c4 - m4) w
          have x1 : IntKind.i64.wrap (c0 - m0 + (c1 - m1) + (c2 - m2) + (c3 - m3) + (c4 - m4) + (l0 + l1 + l2 + l3 + l4)) = c0 - m0 + (c1 - m1) + (c2 - m2) + (c3 - m3) + (c4 - m4) + (l0 + l1 + l2 + l3 + l4) := IntWalk.i64_in _ (by omega)
          have x2 : IntKind.i64.wrap (c0 - m0 + (c1 - m1) + (c2 - m2) + (c3 - m3) + (c4 - m4) + (l0 + l1 + l2 + l3 + l4) + (c0 + c1 + c2 + c3 + c4)) = c0 - m0 + (c1 - m1) + (c2 - m2) + (c3 - m3) + (c4 - m4) + (l0 + l1 + l2 + l3 + l4) + (c0 + c1 + c2 + c3 + c4) := IntWalk.i64_in _ (by omega)
          have x3 : (c0 - m0 + l0 + c0 + (c1 - m1 + l1 + c1) + (c2 - m2 + l2 + c2) + (c3 - m3 + l3 + c3) + (c4 - m4 + l4 + c4) != c0 - m0 + (c1 - m1) + (c2 - m2) + (c3 - m3) + (c4 - m4) + (l0 + l1 + l2 + l3 + l4) + (c0 + c1 + c2 + c3 + c4)) = false := by rw [bne_eq_false_iff_eq]; omega
          go_region_held3 (fun w' => w'.cell? ⟨w.heap.size + 1, 0, none⟩ = some (.int .i64 c0) ∧ w'.cell? ⟨w.heap.size + 1, 1, none⟩ = some (.int .i64 c1) ∧ w'.cell? ⟨w.heap.size + 1, 2, none⟩ = some (.int .i64 c2) ∧ w'.cell? ⟨w.heap.size + 1, 3, none⟩ = some (.int .i64 c3) ∧ w'.cell? ⟨w.heap.size + 1, 4, none⟩ = some (.int .i64 c4) ∧ w'.cell? ⟨w.heap.size + 1 + 1, 0, none⟩ = some (.int .i64 l0) ∧ w'.cell? ⟨w.heap.size + 1 + 1, 1, none⟩ = some (.int .i64 l1) ∧ w'.cell? ⟨w.heap.size + 1 + 1, 2, none⟩ = some (.int .i64 l2) ∧ w'.cell? ⟨w.heap.size + 1 + 1, 3, none⟩ = some (.int .i64 l3) ∧ w'.cell? ⟨w.heap.size + 1 + 1, 4, none⟩ = some (.int .i64 l4) ∧ w'.cell? ⟨z, 0, none⟩ = some (.int .i64 (c0 - m0)) ∧ w'.cell? ⟨z, 1, none⟩ = some (.int .i64 (c1 - m1)) ∧ w'.cell? ⟨z, 2, none⟩ = some (.int .i64 (c2 - m2)) ∧ w'.cell? ⟨z, 3, none⟩ = some (.int .i64 (c3 - m3)) ∧ w'.cell? ⟨z, 4, none⟩ = some (.int .i64 (c4 - m4)) ∧ w'.cell? ⟨y, 0, none⟩ = some (.int .i64 (c0 - m0 + l0 + c0)) ∧ w'.cell? ⟨y, 1, none⟩ = some (.int .i64 (c1 - m1 + l1 + c1)) ∧ w'.cell? ⟨y, 2, none⟩ = some (.int .i64 (c2 - m2 + l2 + c2)) ∧ w'.cell? ⟨y, 3, none⟩ = some (.int .i64 (c3 - m3 + l3 + c3)) ∧ w'.cell? ⟨y, 4, none⟩ = some (.int .i64 (c4 - m4 + l4 + c4)) ∧ Below w3.heap.size w3 w') (first | exact ⟨k0, k1, k2, k3, k4, k5, k6, k7, k8, k9, k10, k11, k12, k13, k14, k15, k16, k17, k18, k19, Below.drew hs3⟩ | exact keepS hbe (by assumption) | exact keepS hbe ⟨k0, k1, k2, k3, k4, k5, k6, k7, k8, k9, k10, k11, k12, k13, k14, k15, k16, k17, k18, k19, Below.drew hs3⟩) (first | (go_at_call 23; refine (sum_any _ _ _ _ _ _ (by omega) (by omega) (by omega) (by omega) (by omega) (by omega) (by omega) (by omega) (by omega) (by omega)).mono ?_; rintro e w' ⟨rfl, hbe⟩) | (go_at_call 22; refine (plus_any ⟨c0 - m0, c1 - m1, c2 - m2, c3 - m3, c4 - m4⟩ [] none 0 0 _ rfl (by omega) (by simp) (by constructor <;> dsimp only <;> omega) (by simp)).mono ?_; rintro e w' ⟨rfl, hbe⟩; simp only [List.foldl_nil, C5.v]))
          rename_i hH
          have hbz : Below w3.heap.size w3 w' := hH.2.2.2.2.2.2.2.2.2.2.2.2.2.2.2.2.2.2.2.2
          have hA4 := hA3.below hbz
          have hB4 := hB3.below hbz
          have hR4 := hR3.below hbz
          have hch4 := hch3.then_below hbz
          clear hH hbz hbe hs3 x1 x2 x3 x4 hA3 hL3 hB3 hR3 hY3 hch3 k0 k1 k2 k3 k4 k5 k6 k7 k8 k9 k10 k11 k12 k13 k14 k15 k16 k17 k18 k19
          have ea0 := hA4.cell 0
          have ea1 := hA4.cell 1
          have ea2 := hA4.cell 2
          have ea3 := hA4.cell 3
          have ea4 := hA4.cell 4
          have ea5 := hA4.cell 5
          have ea6 := hA4.cell 6
          by_cases hroom : t0 < fitNeed c0 c1 c2 c3 c4 more t1 vital
          · go_wp2_with fail
            refine (fit_mem g t0 t1 0 0 0 0 0 c0 c1 c2 c3 c4 more vital _ hB4 (by omega) (by omega) (by omega) (by omega) (by unfold isGood; omega) hroom).mono ?_
            rintro e w5 ⟨rfl, hb5⟩
            have hch5 := hch4.then_below hb5
            clear hA4 hB4 hR4 hch4 ea0 ea1 ea2 ea3 ea4 ea5 ea6
            go_wp2_with (go_at_call 21; refine (awake17_any _).mono ?_; rintro e w' ⟨rfl, hb⟩)
            go_ret
            exact ⟨rfl, (hch5.then_below hb).non_below⟩
          · have hroom : fitNeed c0 c1 c2 c3 c4 more t1 vital ≤ t0 := by omega
            have HN := Lib.hid hroom
            clear hroom
            go_wp2_with fail
            refine (fit_ok g t0 t1 0 0 0 0 0 c0 c1 c2 c3 c4 more vital _ hB4 (by omega) (by omega) (by omega) (by omega) (by unfold isGood; omega) HN.out).mono ?_
            rintro e w5 ⟨rfl, hB5, hc5⟩
            have hA5 := hA4.chg hc5 (by omega)
            have hR5 := hR4.chg hc5 hzg
            have hch5 := hch4.trans hc5 (fun i hi => .inr (by omega))
            clear hA4 hB4 hR4 hch4 hc5 ea0 ea1 ea2 ea3 ea4 ea5 ea6
            have ea5 := hA5.cell 5
            have ea6 := hA5.cell 6
            have er0 := hR5.cell 0
            have er1 := hR5.cell 1
            have er2 := hR5.cell 2
            have er3 := hR5.cell 3
            have er4 := hR5.cell 4
            go_wp2_with fail
            refine (fit_ok g t0 t1 _ _ _ _ _ (c0 - m0) (c1 - m1) (c2 - m2) (c3 - m3) (c4 - m4) more vital _ hB5 (by omega) (by omega) (by omega) (by omega) (by unfold isGood; omega) (by have := HN.out; unfold fitNeed at this ⊢; cases vital <;> simp at this ⊢ <;> omega)).mono ?_
            rintro e w6 ⟨rfl, hB6, hc6⟩
            have hA6 := hA5.chg hc6 (by omega)
            have hch6 := hch5.trans hc6 (fun i hi => .inr (by omega))
            clear hA5 hB5 hR5 hch5 hc6 ea5 ea6 er0 er1 er2 er3 er4
            have ea0 := hA6.cell 0
            have ea1 := hA6.cell 1
            have ea2 := hA6.cell 2
            have ea3 := hA6.cell 3
            have ea4 := hA6.cell 4
            have ea5 := hA6.cell 5
            have ea6 := hA6.cell 6
            go_wp2_with fail
            refine (fit_ok g t0 t1 _ _ _ _ _ c0 c1 c2 c3 c4 more true _ hB6 (by omega) (by omega) (by omega) (by omega) (by unfold isGood; omega) (by have := HN.out; unfold fitNeed at this ⊢; cases vital <;> simp at this ⊢ <;> omega)).mono ?_
            rintro e w7 ⟨rfl, hB7, hc7⟩
            have hA7 := hA6.chg hc7 (by omega)
            have hch7 := hch6.trans hc7 (fun i hi => .inr (by omega))
            clear hA6 hB6 hch6 hc7 ea0 ea1 ea2 ea3 ea4 ea5 ea6
            have ea0 := hA7.cell 0
            have ea1 := hA7.cell 1
            have ea2 := hA7.cell 2
            have ea3 := hA7.cell 3
            have ea4 := hA7.cell 4
            have ea5 := hA7.cell 5
            have ea6 := hA7.cell 6
            go_wp2_with fail
            refine (fit_ok g t0 t1 _ _ _ _ _ c0 c1 c2 c3 c4 (more / 2) vital _ hB7 (by omega) (by omega) (by omega) (by omega) (by unfold isGood; omega) (by have := HN.out; unfold fitNeed at this ⊢; cases vital <;> simp at this ⊢ <;> omega)).mono ?_
            rintro e w8 ⟨rfl, _, hc8⟩
            have hch8 := hch7.trans hc8 (fun i hi => .inr (by omega))
            clear hA7 hB7 hch7 hc8 ea0 ea1 ea2 ea3 ea4 ea5 ea6
            go_wp2_with (go_at_call 21; refine (awake17_any _).mono ?_; rintro e w' ⟨rfl, hb⟩)
            go_ret
            exact ⟨rfl, (hch8.then_below hb).non_below⟩
theorem budgetLess_any (t0 t1 c0 c1 c2 c3 c4 more : Int) (vital : Bool) (l0 l1 l2 l3 l4 : Int) (w : World) :
    Calls Try.prog 7 #[.agg #[.int .i64 t0, .int .i64 t1], .agg #[.int .i64 c0, .int .i64 c1, .int .i64 c2, .int .i64 c3, .int .i64 c4, .int .i64 more, .bool vital], countsV l0 l1 l2 l3 l4] w fun e w' => e = .returned (.bool true) ∧ Below w.heap.size w w' := by
  by_cases h : t0 < 1 ∨ 4096 < t0 ∨ t1 < 0 ∨ t0 < t1
  · exact less_bad t0 t1 c0 c1 c2 c3 c4 more l0 l1 l2 l3 l4 vital w h
  · exact less_ok t0 t1 c0 c1 c2 c3 c4 more l0 l1 l2 l3 l4 vital w (by omega) (by omega) (by omega) (by omega)

end Go.Proofs.Ytmdpbbnieehmnaa
