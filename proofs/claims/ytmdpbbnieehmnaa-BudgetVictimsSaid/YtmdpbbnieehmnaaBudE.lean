/- budget: Plus. -/
import Derived.Test.YtmdpbbnieehmnaaBudD
namespace Go.Proofs.Ytmdpbbnieehmnaa
open Go.RowKit

structure C5 where
  c0 : Int
  c1 : Int
  c2 : Int
  c3 : Int
  c4 : Int
def C5.add (a b : C5) : C5 := ⟨a.c0 + b.c0, a.c1 + b.c1, a.c2 + b.c2, a.c3 + b.c3, a.c4 + b.c4⟩
abbrev C5.v (a : C5) : Value := countsV a.c0 a.c1 a.c2 a.c3 a.c4
def C5.cells (a : C5) : Array Value := #[.int .i64 a.c0, .int .i64 a.c1, .int .i64 a.c2, .int .i64 a.c3, .int .i64 a.c4]
structure C5.in (B : Int) (a : C5) : Prop where
  l0 : -B ≤ a.c0
  l1 : -B ≤ a.c1
  l2 : -B ≤ a.c2
  l3 : -B ≤ a.c3
  l4 : -B ≤ a.c4
  h0 : a.c0 ≤ B
  h1 : a.c1 ≤ B
  h2 : a.c2 ≤ B
  h3 : a.c3 ≤ B
  h4 : a.c4 ≤ B
def C5.to (c : C5) (l : List C5) (k : Nat) : C5 := (l.take k).foldl C5.add c
theorem C5.to_zero (c : C5) (l : List C5) : C5.to c l 0 = c := by simp [C5.to]
theorem C5.to_all (c : C5) (l : List C5) : C5.to c l l.length = l.foldl C5.add c := by simp [C5.to]
theorem C5.to_succ (c : C5) (l : List C5) (k : Nat) (x : C5) (h : l[k]? = some x) : C5.to c l (k + 1) = (C5.to c l k).add x := by
  simp [C5.to, List.take_add_one, h]
theorem C5.to_in (c : C5) (l : List C5) (B : Int) (hc : c.in B) (hl : ∀ (i : Nat) x, l[i]? = some x → x.in B) : ∀ k : Nat, k ≤ l.length → (C5.to c l k).in (B * (k + 1)) := by
  intro k
  induction k with
  | zero => intro _; rw [C5.to_zero]; simpa using hc
  | succ k ih =>
    intro hk
    have hx : l[k]? = some l[k] := List.getElem?_eq_getElem (by omega)
    rw [C5.to_succ c l k _ hx]
    have h1 := ih (by omega)
    have h2 := hl k _ hx
    have e : B * ((k + 1 : Nat) + 1 : Int) = B * (k + 1) + B := by rw [Int.natCast_succ, Int.mul_add, Int.mul_one]
    have e' : -(B * ((k + 1 : Nat) + 1 : Int)) = -(B * (k + 1)) + -B := by rw [e]; omega
    obtain ⟨a0, a1, a2, a3, a4, b0, b1, b2, b3, b4⟩ := h1
    obtain ⟨x0, x1, x2, x3, x4, y0, y1, y2, y3, y4⟩ := h2
    constructor <;> (first | rw [e'] | rw [e]) <;> simp only [C5.add] <;> omega

set_option maxHeartbeats 1000000 in
set_option maxRecDepth 100000 in
theorem plus_any (c : C5) (l : List C5) (A : Option Addr) (n cap : Nat) (w : World) (hn : l.length = n) (hn2 : n ≤ 1000)
    (hl : ∀ i x, l[i]? = some x → ∃ ad, A = some ad ∧ ∀ j u, x.cells[j]? = some u → w.cell? (ad.add (i * 5 + j)) = some u)
    (hc : c.in 2000000000) (hx : ∀ (i : Nat) x, l[i]? = some x → x.in 2000000000) :
    Calls Try.prog 22 #[c.v, .slice A n cap] w fun e w' => e = .returned (l.foldl C5.add c).v ∧ Below w.heap.size w w' := by
  have HL := Lib.hid hl
  have HI := Lib.hid (C5.to_in c l 2000000000 hc hx)
  have HX := Lib.hid hx
  clear hl hx hc
  subst hn
  go_enter Try.func22, Try.ntmps22
  go_wp2
  go_loopw [10] (fun i wr => ∃ k : Nat, k ≤ l.length ∧ i = .int .i64 k ∧ Blk wr w.heap.size (C5.to c l k).cells 39 ∧ Blk wr (w.heap.size + 1) #[.int .i64 0, .int .i64 0, .int .i64 0, .int .i64 0, .int .i64 0] 39 ∧ Chg Non w wr) (fun i _ => l.length - (intOf i).toNat)
  case atStart => exact ⟨0, by omega, rfl, by rw [C5.to_zero]; exact (Blk.new_at rfl).alloc _, Blk.new_at (by simp), ((Chg.refl Non w).alloc _).alloc _⟩
  case round =>
    obtain ⟨k, hk, rfl, hb, hres, hch⟩ := hrel
    by_cases hlt : k < l.length
    · have hx : l[k]? = some l[k] := List.getElem?_eq_getElem hlt
      have hs := C5.to_succ c l k _ hx
      have hI := HI.out k hk
      have hX := HX.out k _ hx
      obtain ⟨ad, rfl, hcell⟩ := HL.out k _ hx
      generalize l[k] = x at hx hs hX hcell
      generalize C5.to c l k = y at hb hs hI
      obtain ⟨y0, y1, y2, y3, y4⟩ := y
      obtain ⟨x0, x1, x2, x3, x4⟩ := x
      have a0 := hch.cell (hcell 0 (.int .i64 x0) rfl) id
      have a1 := hch.cell (hcell 1 (.int .i64 x1) rfl) id
      have a2 := hch.cell (hcell 2 (.int .i64 x2) rfl) id
      have a3 := hch.cell (hcell 3 (.int .i64 x3) rfl) id
      have a4 := hch.cell (hcell 4 (.int .i64 x4) rfl) id
      rw [add_field _ _ _ (by omega)] at a1 a2 a3 a4
      rw [Nat.add_zero] at a0
      try dsimp only at a0 a1 a2 a3 a4
      have Hs := Lib.hid hs
      have Hx := Lib.hid hx
      clear hs hx hcell
      obtain ⟨p0, p1, p2, p3, p4, q0, q1, q2, q3, q4⟩ := hI
      obtain ⟨r0, r1, r2, r3, r4, s0, s1, s2, s3, s4⟩ := hX
      try dsimp only at p0 p1 p2 p3 p4 q0 q1 q2 q3 q4 r0 r1 r2 r3 r4 s0 s1 s2 s3 s4
      simp only [C5.cells] at hb
      obtain ⟨wo, rfl⟩ : ∃ wo : World, wo = wr := ⟨_, rfl⟩
      have hbl := hb.lt
      have hrl := hres.lt
      go_wp2
      go_loopw [14] (fun i wi => Chg Non w wi ∧ Blk wi (w.heap.size + 1) #[.int .i64 0, .int .i64 0, .int .i64 0, .int .i64 0, .int .i64 0] 39 ∧ Blk wi wo.heap.size #[.int .i64 x0, .int .i64 x1, .int .i64 x2, .int .i64 x3, .int .i64 x4] 39 ∧ ((i = .int .i64 0 ∧ Blk wi w.heap.size #[.int .i64 y0, .int .i64 y1, .int .i64 y2, .int .i64 y3, .int .i64 y4] 39) ∨ (i = .int .i64 1 ∧ Blk wi w.heap.size #[.int .i64 (y0 + x0), .int .i64 y1, .int .i64 y2, .int .i64 y3, .int .i64 y4] 39) ∨ (i = .int .i64 2 ∧ Blk wi w.heap.size #[.int .i64 (y0 + x0), .int .i64 (y1 + x1), .int .i64 y2, .int .i64 y3, .int .i64 y4] 39) ∨ (i = .int .i64 3 ∧ Blk wi w.heap.size #[.int .i64 (y0 + x0), .int .i64 (y1 + x1), .int .i64 (y2 + x2), .int .i64 y3, .int .i64 y4] 39) ∨ (i = .int .i64 4 ∧ Blk wi w.heap.size #[.int .i64 (y0 + x0), .int .i64 (y1 + x1), .int .i64 (y2 + x2), .int .i64 (y3 + x3), .int .i64 y4] 39) ∨ (i = .int .i64 5 ∧ Blk wi w.heap.size #[.int .i64 (y0 + x0), .int .i64 (y1 + x1), .int .i64 (y2 + x2), .int .i64 (y3 + x3), .int .i64 (y4 + x4)] 39))) (fun i _ => 5 - (intOf i).toNat)
      case atStart => exact ⟨hch.alloc _, hres.alloc _, Blk.new_at rfl, .inl ⟨rfl, hb.alloc _⟩⟩
      case round =>
        clear hch hres hb a0 a1 a2 a3 a4
        obtain ⟨hch, hres, hxx, hrel⟩ := hrel
        rcases hrel with ⟨rfl, hb⟩ | ⟨rfl, hb⟩ | ⟨rfl, hb⟩ | ⟨rfl, hb⟩ | ⟨rfl, hb⟩ | ⟨rfl, hb⟩
        · have e1 := hb.cell 0
          have e2 := hb.frozen 0
          have e3 := hxx.cell 0
          go_wp2
          go_still_tail 8, (by kernel_rfl)
          go_wp2
          exact ⟨⟨(hch.setCell (.inr (Nat.le_refl _)) _).drew, hres.far (by simp) _, hxx.far (by simp; omega) _, .inr (.inl ⟨rfl, hb.set 0 _⟩)⟩, by simp [intOf]⟩
        · have e1 := hb.cell 1
          have e2 := hb.frozen 1
          have e3 := hxx.cell 1
          go_wp2
          go_still_tail 8, (by kernel_rfl)
          go_wp2
          exact ⟨⟨(hch.setCell (.inr (Nat.le_refl _)) _).drew, hres.far (by simp) _, hxx.far (by simp; omega) _, .inr (.inr (.inl ⟨rfl, hb.set 1 _⟩))⟩, by simp [intOf]⟩
        · have e1 := hb.cell 2
          have e2 := hb.frozen 2
          have e3 := hxx.cell 2
          go_wp2
          go_still_tail 8, (by kernel_rfl)
          go_wp2
          exact ⟨⟨(hch.setCell (.inr (Nat.le_refl _)) _).drew, hres.far (by simp) _, hxx.far (by simp; omega) _, .inr (.inr (.inr (.inl ⟨rfl, hb.set 2 _⟩)))⟩, by simp [intOf]⟩
        · have e1 := hb.cell 3
          have e2 := hb.frozen 3
          have e3 := hxx.cell 3
          go_wp2
          go_still_tail 8, (by kernel_rfl)
          go_wp2
          exact ⟨⟨(hch.setCell (.inr (Nat.le_refl _)) _).drew, hres.far (by simp) _, hxx.far (by simp; omega) _, .inr (.inr (.inr (.inr (.inl ⟨rfl, hb.set 3 _⟩))))⟩, by simp [intOf]⟩
        · have e1 := hb.cell 4
          have e2 := hb.frozen 4
          have e3 := hxx.cell 4
          go_wp2
          go_still_tail 8, (by kernel_rfl)
          go_wp2
          exact ⟨⟨(hch.setCell (.inr (Nat.le_refl _)) _).drew, hres.far (by simp) _, hxx.far (by simp; omega) _, .inr (.inr (.inr (.inr (.inr (⟨rfl, hb.set 4 _⟩)))))⟩, by simp [intOf]⟩
        · go_wp2
          go_roundw
          case rel => exact ⟨k + 1, by omega, by go_num, by rw [Hs.out]; exact hb, hres, hch⟩
          case measure => simp [intOf]; omega
    · obtain rfl : k = l.length := by omega
      rw [C5.to_all] at hb
      obtain ⟨r, hr⟩ : ∃ r, l.foldl C5.add c = r := ⟨_, rfl⟩
      rw [hr] at hb
      have Hr := Lib.hid hr
      clear hr
      simp only [C5.cells] at hb
      have e0 := hb.cell 0
      have r0 := hres.frozen 0
      have f0 := hres.cell 0
      have e1 := hb.cell 1
      have r1 := hres.frozen 1
      have f1 := hres.cell 1
      have e2 := hb.cell 2
      have r2 := hres.frozen 2
      have f2 := hres.cell 2
      have e3 := hb.cell 3
      have r3 := hres.frozen 3
      have f3 := hres.cell 3
      have e4 := hb.cell 4
      have r4 := hres.frozen 4
      have f4 := hres.cell 4
      have hfin := ((((hres.set 0 (.int .i64 r.c0)).set 1 (.int .i64 r.c1)).set 2 (.int .i64 r.c2)).set 3 (.int .i64 r.c3)).set 4 (.int .i64 r.c4)
      have q0 := hfin.cell 0
      have q1 := hfin.cell 1
      have q2 := hfin.cell 2
      have q3 := hfin.cell 3
      have q4 := hfin.cell 4
      clear hfin
      go_wp2
      refine bodyPost_ret (v := r.v) (by simp [results, Try.results22, go_sem, q0, q1, q2, q3, q4]) rfl ⟨by rw [Hr.out], ?_⟩
      exact (((((hch.setCell (.inr (by simp)) _).setCell (.inr (by simp)) _).setCell (.inr (by simp)) _).setCell (.inr (by simp)) _).setCell (.inr (by simp)) _).non_below
end Go.Proofs.Ytmdpbbnieehmnaa
