/- mail: the packets to all boxes: words for the loop over the boxes. -/
import Derived.Test.YtggbgfdgpkbmhaaMaiY
namespace Go.Proofs.Ytggbgfdgpkbmhaa
open Go.RowKit Go.Shelf
set_option linter.unusedSimpArgs false
set_option linter.unusedVariables false

def mkD (D : Nat) : Deferred := { target := .collected D, args := #[] }
theorem leaves_collected {F : Fence} {n : Nat} {P : Program} {fn : Func} {tmps : Array Value} {R : Ending → World → Prop} : ∀ (Ds : List Nat) (W : World), Ds.Nodup → (∀ D ∈ Ds, W.heap[D]? = some (.deferred (some []))) →
    (∀ W' : World, W'.os = W.os → W'.tape = W.tape → W'.output = W.output → W'.heap.size = W.heap.size → (∀ k, k ∉ Ds → W'.heap[k]? = W.heap[k]?) → LeavesInM F n P fn tmps R [] .returning W') → LeavesInM F n P fn tmps R (Ds.map mkD) .returning W := by
  intro Ds
  induction Ds with
  | nil => intro W _ _ h; exact h W rfl rfl rfl rfl (fun _ _ => rfl)
  | cons D Ds ih =>
    intro W hnd hds h
    rw [List.nodup_cons] at hnd
    have hD := hds D (by simp)
    refine ⟨by simp, .inl ⟨D, _, rfl, run_takeDeferred hD, ih _ hnd.2 (fun E hE => ?_) (fun W' h1 h2 h3 h4 h5 => h W' ?_ ?_ ?_ ?_ (fun k hk => ?_))⟩⟩
    · rw [World.putObj_heap_other (by intro e; subst e; exact hnd.1 hE)]
      exact hds E (by simp [hE])
    · exact h1
    · exact h2
    · exact h3
    · rw [h4]; simp [World.putObj]
    · simp at hk
      rw [h5 k hk.2, World.putObj_heap_other hk.1]
theorem ds_keep {W W' : World} {S : Nat → Prop} (h : Chg S W W') (hs : ∀ k, S k → ∃ cs t, Blk W k cs t) {D : Nat} (hD : W.heap[D]? = some (.deferred (some []))) : W'.heap[D]? = some (.deferred (some [])) :=
  (keeps_of_chg (B := 0) h hs).same D _ (Nat.zero_le _) hD rfl
theorem net_blks {w : World} {b : Nat} {boxes next : Int} {A : Option Addr} {cap : Nat} {l : List Pk} (h : NetAt w b boxes next A cap l) : ∀ k, netBlk b A k → ∃ cs t, Blk w k cs t := by
  rintro k (rfl | ⟨ad, e, rfl⟩)
  · exact ⟨_, _, h.blk⟩
  · exact own_blk h.own (by rw [ownBlock_slice, e]; rfl)
theorem net_abides {W W' : World} {row : Option Nat} (hg : W.grownBy W' row) (hr : ∀ r, row = some r → ∃ o : Obj, W.heap[r]? = some o ∧ o.isCells = false) {b : Nat} {boxes next : Int} {A : Option Addr} {cap : Nat} {l : List Pk} (h : NetAt W b boxes next A cap l) : NetAt W' b boxes next A cap l :=
  ⟨blk_abides hg hr h.blk, own_abides hg hr h.own, h.ne⟩

/-- What holds where the loop over the boxes begins a round. -/
structure BoxSt (w2 : World) (b0 K bs : Nat) (A : Option Addr) (cap : Nat) (next : Int) (t bt : Nat) (m : List Pk) (Ds : List Nat) (W : World) : Prop where
  net : NetAt W (b0 + 1 + 1) (K : Int) next A cap m
  ok : NumsOk next m
  box : boxOk K m
  len : m.length ≤ 1000
  le : t ≤ K
  p0 : Blk W b0 #[.int .i64 K] 3
  p1 : Blk W (b0 + 1) #[.bool false] 4
  sum : Blk W bs #[.int .i64 (below t m).length] 3
  to : Blk W bt #[.int .i64 t] 3
  ord : ∀ i, netBlk (b0 + 1 + 1) A i → b0 + 1 < i ∧ i < bs
  sz : w2.heap.size = b0 + 1 + 1
  lt : bs < bt
  gt : b0 + 1 < bs
  ds : ∀ D ∈ Ds, W.heap[D]? = some (.deferred (some []))
  nd : Ds.Nodup
  dge : ∀ D ∈ Ds, b0 + 1 < D
  chg : Chg Non w2 W
def BoxI (w2 : World) (b0 K bs : Nat) (A : Option Addr) (cap : Nat) (next : Int) (a : Act) (W : World) : Prop :=
  ∃ (t bt : Nat) (m : List Pk) (Ds : List Nat), BoxSt w2 b0 K bs A cap next t bt m Ds W ∧ ∃ u : Nat → Value,
    a = { tmps := #[u 0, u 1, .pointer (some ⟨b0, 0, none⟩), u 3, .pointer (some ⟨b0 + 1, 0, none⟩), .pointer (some ⟨b0 + 1 + 1, 0, none⟩), u 6, u 7, u 8, .pointer (some ⟨bs, 0, none⟩), .pointer (some ⟨bt, 0, none⟩), u 11, u 12, u 13, u 14, u 15, u 16, u 17, u 18, u 19, u 20, u 21, u 22, u 23, u 24, u 25, u 26, u 27, u 28, u 29, u 30, u 31, u 32, u 33, u 34, u 35, u 36, u 37, u 38, u 39, u 40, u 41, u 42, u 43, u 44, u 45, u 46, u 47, u 48, u 49, u 50, u 51, u 52, u 53, u 54, u 55, u 56, u 57, u 58, u 59, u 60, u 61, u 62, u 63, u 64, u 65, u 66, u 67, u 68, u 69, u 70, u 71, u 72, u 73, u 74, u 75, u 76, u 77, u 78, u 79, u 80, u 81, u 82, u 83, u 84, u 85, u 86, u 87, u 88, u 89, u 90, u 91, u 92, u 93, u 94, u 95, u 96, u 97, u 98, u 99, u 100, u 101, u 102, u 103, u 104, u 105, u 106, u 107, u 108, u 109, u 110, u 111, u 112, u 113, u 114, u 115, u 116, u 117, u 118, u 119, u 120, u 121, u 122, u 123, u 124, u 125, u 126, u 127, u 128, u 129, u 130, u 131, u 132, u 133, u 134, u 135, u 136, u 137, u 138, u 139, u 140], defers := Ds.map mkD }
set_option maxRecDepth 100000 in
theorem box_mk {w2 : World} {b0 K bs : Nat} {A : Option Addr} {cap : Nat} {next : Int} {t bt : Nat} {m : List Pk} {Ds : List Nat} {W : World} {x0 x1 x3 x6 x7 x8 x11 x12 x13 x14 x15 x16 x17 x18 x19 x20 x21 x22 x23 x24 x25 x26 x27 x28 x29 x30 x31 x32 x33 x34 x35 x36 x37 x38 x39 x40 x41 x42 x43 x44 x45 x46 x47 x48 x49 x50 x51 x52 x53 x54 x55 x56 x57 x58 x59 x60 x61 x62 x63 x64 x65 x66 x67 x68 x69 x70 x71 x72 x73 x74 x75 x76 x77 x78 x79 x80 x81 x82 x83 x84 x85 x86 x87 x88 x89 x90 x91 x92 x93 x94 x95 x96 x97 x98 x99 x100 x101 x102 x103 x104 x105 x106 x107 x108 x109 x110 x111 x112 x113 x114 x115 x116 x117 x118 x119 x120 x121 x122 x123 x124 x125 x126 x127 x128 x129 x130 x131 x132 x133 x134 x135 x136 x137 x138 x139 x140 : Value} (hS : BoxSt w2 b0 K bs A cap next t bt m Ds W) :
    BoxI w2 b0 K bs A cap next { tmps := #[x0, x1, .pointer (some ⟨b0, 0, none⟩), x3, .pointer (some ⟨b0 + 1, 0, none⟩), .pointer (some ⟨b0 + 1 + 1, 0, none⟩), x6, x7, x8, .pointer (some ⟨bs, 0, none⟩), .pointer (some ⟨bt, 0, none⟩), x11, x12, x13, x14, x15, x16, x17, x18, x19, x20, x21, x22, x23, x24, x25, x26, x27, x28, x29, x30, x31, x32, x33, x34, x35, x36, x37, x38, x39, x40, x41, x42, x43, x44, x45, x46, x47, x48, x49, x50, x51, x52, x53, x54, x55, x56, x57, x58, x59, x60, x61, x62, x63, x64, x65, x66, x67, x68, x69, x70, x71, x72, x73, x74, x75, x76, x77, x78, x79, x80, x81, x82, x83, x84, x85, x86, x87, x88, x89, x90, x91, x92, x93, x94, x95, x96, x97, x98, x99, x100, x101, x102, x103, x104, x105, x106, x107, x108, x109, x110, x111, x112, x113, x114, x115, x116, x117, x118, x119, x120, x121, x122, x123, x124, x125, x126, x127, x128, x129, x130, x131, x132, x133, x134, x135, x136, x137, x138, x139, x140], defers := Ds.map mkD } W :=
  ⟨t, bt, m, Ds, hS, fun i => ([x0, x1, undef, x3, undef, undef, x6, x7, x8, undef, undef, x11, x12, x13, x14, x15, x16, x17, x18, x19, x20, x21, x22, x23, x24, x25, x26, x27, x28, x29, x30, x31, x32, x33, x34, x35, x36, x37, x38, x39, x40, x41, x42, x43, x44, x45, x46, x47, x48, x49, x50, x51, x52, x53, x54, x55, x56, x57, x58, x59, x60, x61, x62, x63, x64, x65, x66, x67, x68, x69, x70, x71, x72, x73, x74, x75, x76, x77, x78, x79, x80, x81, x82, x83, x84, x85, x86, x87, x88, x89, x90, x91, x92, x93, x94, x95, x96, x97, x98, x99, x100, x101, x102, x103, x104, x105, x106, x107, x108, x109, x110, x111, x112, x113, x114, x115, x116, x117, x118, x119, x120, x121, x122, x123, x124, x125, x126, x127, x128, x129, x130, x131, x132, x133, x134, x135, x136, x137, x138, x139, x140] : List Value).getD i undef, rfl⟩
def boxMu (K : Nat) (a : Act) (W : World) : Nat := match a.tmps[10]? with
  | some (Value.pointer (some p)) => (match W.cell? p with
    | some (Value.int _ v) => K - v.toNat
    | _ => 0)
  | _ => 0
/-- What holds in the loop over a box's packets. -/
def BoxRI (w2 : World) (b0 K bs : Nat) (A : Option Addr) (cap : Nat) (next : Int) (t bt bla : Nat) (m : List Pk) (Ds : List Nat) (B1 : Nat) (pre : List Pk) (W : World) : Prop :=
  chk K t pre ∧ Blk W b0 #[.int .i64 K] 3 ∧ Blk W (b0 + 1) #[.bool false] 4 ∧ Blk W bs #[.int .i64 ((below t m).length + (pre.length : Nat) : Int)] 3 ∧ Blk W bt #[.int .i64 t] 3 ∧ Blk W bla #[.int .i64 (lastOf pre)] 3 ∧
  NetAt W (b0 + 1 + 1) (K : Int) next A cap m ∧ Chg Non w2 W ∧ (∀ D ∈ Ds, W.heap[D]? = some (.deferred (some []))) ∧ B1 ≤ W.heap.size
def BoxStop (K t : Int) (_ : Code) (pre : List Pk) (_ : World) : Prop := ¬ chk K t pre
theorem fnIter64 (bl q : Nat) (w : World) : (binOp .eql 64 (.func (.func 83) #[] #[.pointer (some ⟨bl, 0, none⟩), .pointer (some ⟨q, 0, none⟩)]) .nilFunc).run Try.prog w = .ok (.bool false) w := by kernel_rfl
set_option maxRecDepth 100000 in
theorem box_loop {P : Program} {code : Code} {Q : Exit → Act → World → Prop} {a0 : Act} {w0 w2 : World} {b0 K bs : Nat} {A : Option Addr} {cap : Nat} {next : Int} (h0 : BoxI w2 b0 K bs A cap next a0 w0)
    (round : ∀ (t bt : Nat) (m : List Pk) (Ds : List Nat) (W : World) (u : Nat → Value), BoxSt w2 b0 K bs A cap next t bt m Ds W →
      code.wp P (Exit.then (fun a' w' => BoxI w2 b0 K bs A cap next a' w' ∧ boxMu K a' w' < K - t) Q) { tmps := #[u 0, u 1, .pointer (some ⟨b0, 0, none⟩), u 3, .pointer (some ⟨b0 + 1, 0, none⟩), .pointer (some ⟨b0 + 1 + 1, 0, none⟩), u 6, u 7, u 8, .pointer (some ⟨bs, 0, none⟩), .pointer (some ⟨bt, 0, none⟩), u 11, u 12, u 13, u 14, u 15, u 16, u 17, u 18, u 19, u 20, u 21, u 22, u 23, u 24, u 25, u 26, u 27, u 28, u 29, u 30, u 31, u 32, u 33, u 34, u 35, u 36, u 37, u 38, u 39, u 40, u 41, u 42, u 43, u 44, u 45, u 46, u 47, u 48, u 49, u 50, u 51, u 52, u 53, u 54, u 55, u 56, u 57, u 58, u 59, u 60, u 61, u 62, u 63, u 64, u 65, u 66, u 67, u 68, u 69, u 70, u 71, u 72, u 73, u 74, u 75, u 76, u 77, u 78, u 79, u 80, u 81, u 82, u 83, u 84, u 85, u 86, u 87, u 88, u 89, u 90, u 91, u 92, u 93, u 94, u 95, u 96, u 97, u 98, u 99, u 100, u 101, u 102, u 103, u 104, u 105, u 106, u 107, u 108, u 109, u 110, u 111, u 112, u 113, u 114, u 115, u 116, u 117, u 118, u 119, u 120, u 121, u 122, u 123, u 124, u 125, u 126, u 127, u 128, u 129, u 130, u 131, u 132, u 133, u 134, u 135, u 136, u 137, u 138, u 139, u 140], defers := Ds.map mkD } W) : (Code.loop code).wp P Q a0 w0 := by
  refine wp_loop (BoxI w2 b0 K bs A cap next) (boxMu K) h0 ?_
  rintro a W ⟨t, bt, m, Ds, hS, u, rfl⟩
  have e : boxMu K { tmps := #[u 0, u 1, .pointer (some ⟨b0, 0, none⟩), u 3, .pointer (some ⟨b0 + 1, 0, none⟩), .pointer (some ⟨b0 + 1 + 1, 0, none⟩), u 6, u 7, u 8, .pointer (some ⟨bs, 0, none⟩), .pointer (some ⟨bt, 0, none⟩), u 11, u 12, u 13, u 14, u 15, u 16, u 17, u 18, u 19, u 20, u 21, u 22, u 23, u 24, u 25, u 26, u 27, u 28, u 29, u 30, u 31, u 32, u 33, u 34, u 35, u 36, u 37, u 38, u 39, u 40, u 41, u 42, u 43, u 44, u 45, u 46, u 47, u 48, u 49, u 50, u 51, u 52, u 53, u 54, u 55, u 56, u 57, u 58, u 59, u 60, u 61, u 62, u 63, u 64, u 65, u 66, u 67, u 68, u 69, u 70, u 71, u 72, u 73, u 74, u 75, u 76, u 77, u 78, u 79, u 80, u 81, u 82, u 83, u 84, u 85, u 86, u 87, u 88, u 89, u 90, u 91, u 92, u 93, u 94, u 95, u 96, u 97, u 98, u 99, u 100, u 101, u 102, u 103, u 104, u 105, u 106, u 107, u 108, u 109, u 110, u 111, u 112, u 113, u 114, u 115, u 116, u 117, u 118, u 119, u 120, u 121, u 122, u 123, u 124, u 125, u 126, u 127, u 128, u 129, u 130, u 131, u 132, u 133, u 134, u 135, u 136, u 137, u 138, u 139, u 140], defers := Ds.map mkD } W = K - t := by
    unfold boxMu
    show (match W.cell? ⟨bt, 0, none⟩ with
      | some (Value.int _ v) => K - v.toNat
      | _ => 0) = K - t
    rw [hS.to.one']
    simp
  rw [e]
  exact round t bt m Ds W u hS
theorem box_mu_lt {a : Act} {W : World} {bt' t K : Nat} (ha : a.tmps[10]? = some (.pointer (some ⟨bt', 0, none⟩))) (hc : W.cell? ⟨bt', 0, none⟩ = some (.int .i64 ((t : Int) + 1))) (h : t < K) : boxMu K a W < K - t := by
  unfold boxMu
  rw [ha]
  simp only [hc]
  omega
end Go.Proofs.Ytggbgfdgpkbmhaa
