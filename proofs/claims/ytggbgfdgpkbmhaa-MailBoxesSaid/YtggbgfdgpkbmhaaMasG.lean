/- mail: Take. -/
import Derived.Test.YtggbgfdgpkbmhaaMasF
namespace Go.Proofs.Ytggbgfdgpkbmhaa.S
open Go.RowKit
set_option linter.unusedSimpArgs false
set_option linter.unusedVariables false

theorem Blk.four {w : World} {g : Nat} {a b c d : Value} {t : TypeId} (h : Blk w g #[a, b, c, d] t) : (w.cell? ⟨g, 0, none⟩ = some a ∧ w.cell? ⟨g, 1, none⟩ = some b ∧ w.cell? ⟨g, 2, none⟩ = some c ∧ w.cell? ⟨g, 3, none⟩ = some d) ∧ w.frozen? ⟨g, 0, none⟩ = false ∧ w.frozen? ⟨g, 1, none⟩ = false ∧ w.frozen? ⟨g, 2, none⟩ = false ∧ w.frozen? ⟨g, 3, none⟩ = false :=
  ⟨⟨h.cell 0, h.cell 1, h.cell 2, h.cell 3⟩, h.frozen 0, h.frozen 1, h.frozen 2, h.frozen 3⟩
theorem Blk.three {w : World} {g : Nat} {a b c : Value} {t : TypeId} (h : Blk w g #[a, b, c] t) : (w.cell? ⟨g, 0, none⟩ = some a ∧ w.cell? ⟨g, 1, none⟩ = some b ∧ w.cell? ⟨g, 2, none⟩ = some c) ∧ w.frozen? ⟨g, 0, none⟩ = false ∧ w.frozen? ⟨g, 1, none⟩ = false ∧ w.frozen? ⟨g, 2, none⟩ = false :=
  ⟨⟨h.cell 0, h.cell 1, h.cell 2⟩, h.frozen 0, h.frozen 1, h.frozen 2⟩
theorem Blk.one' {w : World} {g : Nat} {a : Value} {t : TypeId} (h : Blk w g #[a] t) : w.cell? ⟨g, 0, none⟩ = some a := h.cell 0
def Pk.val (p : Pk) : Value := .agg #[.int .i64 p.no, .int .i64 p.src, .int .i64 p.dst, .string p.x]
def Pk.zero : Pk := ⟨0, 0, 0, ⟨#[]⟩⟩
/-- What Take answers, and what is left. -/
def takeR (no : Int) (l : List Pk) : Pk × Int × List Pk := match l[idxOf no l]? with
  | some p => (p, 0, l.eraseIdx (idxOf no l))
  | none => (.zero, 14, l)

theorem maiTakeI_nil (no : Int) (w : World) : Calls Try.prog 59 #[.pointer none, .int .i64 no] w fun e w' => e = .returned (.tuple #[Pk.zero.val, .int .i64 2]) ∧ Chg Non w w' := by
  go_enter Try.func59, Try.ntmps59
  go_wp2
  exact bodyPost_ret (v := .tuple #[Pk.zero.val, .int .i64 2]) (by simp [results, Try.results59, go_sem, Pk.zero, Pk.val]) rfl ⟨rfl, ((Chg.refl Non w).alloc _).alloc _⟩

set_option maxHeartbeats 2000000 in
set_option maxRecDepth 100000 in
theorem maiTakeI_out (no : Int) (w : World) (b : Nat) (boxes next : Int) (A : Option Addr) (cap : Nat) (l : List Pk) (h : NetAt w b boxes next A cap l) (hn : l.length ≤ 1000000) (hi : ¬ idxOf no l < l.length) :
    Calls Try.prog 59 #[.pointer (some ⟨b, 0, none⟩), .int .i64 no] w fun e w' => e = .returned (.tuple #[Pk.zero.val, .int .i64 14]) ∧ Chg Non w w' := by
  have h1 := h.non (((Chg.refl Non w).alloc (.cells #[.int .i64 no] 3)).alloc (.cells #[.int .i64 0, .int .i64 0, .int .i64 0, .string ⟨#[]⟩] 106))
  have hq := ((Blk.new w #[.int .i64 no] 3).alloc (.cells #[.int .i64 0, .int .i64 0, .int .i64 0, .string ⟨#[]⟩] 106)).one'
  obtain ⟨⟨_, _, hb2⟩, _⟩ := h1.blk.three
  have H1 := Lib.hid h1
  clear h1
  go_enter Try.func59, Try.ntmps59
  go_wp2_with (go_at_call 80; refine (idxI_any w.heap.size no _ A l.length cap l H1.out.read hq hn).mono ?_; rintro e w2 ⟨rfl, hc2⟩; rw [idxR, if_neg hi]; have hr := (Blk.new_at (w := w.alloc (.cells #[.int .i64 no] 3)) (cs := #[.int .i64 0, .int .i64 0, .int .i64 0, .string ⟨#[]⟩]) (t := 106) (g := w.heap.size + 1) (by simp)).chg hc2 id; obtain ⟨⟨r0, r1, r2, r3⟩, r4, r5, r6, r7⟩ := hr.four)
  refine bodyPost_ret (v := .tuple #[Pk.zero.val, .int .i64 14]) (by simp [results, Try.results59, go_sem, Pk.zero, Pk.val, r0, r1, r2, r3]) rfl ⟨rfl, ?_⟩
  have hs := hc2.size
  simp at hs
  refine ((((((((Chg.refl Non w).alloc _).alloc _).trans hc2 (fun _ x => x.elim)).setCell (.inr ?_) _).setCell (.inr ?_) _).setCell (.inr ?_) _).setCell (.inr ?_) _) <;> simp

theorem NetAt.pull {w4 : World} {b g cap k : Nat} {boxes next : Int} {l : List Pk} (hb : Blk w4 b #[.int .i64 boxes, .int .i64 next, .slice (some ⟨g, 0, none⟩) l.length cap] 136) (ho : w4.ownsRow 0 106 4 (.slice (some ⟨g, 0, none⟩) (l.length - 1) cap) (l.length - 1) ((l.flatMap Pk.cells).take (k * 4) ++ (l.flatMap Pk.cells).drop ((k + 1) * 4))) (hne : g ≠ b) (hk : k < l.length) :
    NetAt (w4.setCell ⟨b, 2, none⟩ (.slice (some ⟨g, 0, none⟩) (l.length - 1) cap)) b boxes next (some ⟨g, 0, none⟩) cap (l.eraseIdx k) := by
  have e : (l.eraseIdx k).length = l.length - 1 := by rw [List.length_eraseIdx, if_pos hk]
  refine ⟨?_, ?_, fun ad h => by cases h; exact hne⟩
  · have := hb.set 2 (.slice (some ⟨g, 0, none⟩) (l.length - 1) cap)
    rw [e]
    simpa using this
  · rw [e, ← flat_erase]
    exact own_far ho (p := ⟨b, 2, none⟩) hne _

set_option maxHeartbeats 2000000 in
set_option maxRecDepth 100000 in
theorem maiTakeI_in (no : Int) (w : World) (b : Nat) (boxes next : Int) (A : Option Addr) (cap : Nat) (l : List Pk) (h : NetAt w b boxes next A cap l) (hn : l.length ≤ 1000000) (k : Nat) (hk : idxOf no l = k) (p : Pk) (hp : l[k]? = some p) :
    Calls Try.prog 59 #[.pointer (some ⟨b, 0, none⟩), .int .i64 no] w fun e w' => e = .returned (.tuple #[p.val, .int .i64 0]) ∧ NetAt w' b boxes next A cap (l.eraseIdx k) ∧ Chg (netBlk b A) w w' := by
  have hkl : k < l.length := (List.getElem?_eq_some_iff.1 hp).1
  obtain ⟨g, cap', hA, _, hle, hm, hglt, _, _⟩ := own_cells h.own (by omega)
  cases hA
  have hne : g ≠ b := h.ne _ rfl
  have h1 := h.non (((Chg.refl Non w).alloc (.cells #[.int .i64 no] 3)).alloc (.cells #[.int .i64 0, .int .i64 0, .int .i64 0, .string ⟨#[]⟩] 106))
  have hq := ((Blk.new w #[.int .i64 no] 3).alloc (.cells #[.int .i64 0, .int .i64 0, .int .i64 0, .string ⟨#[]⟩] 106)).one'
  obtain ⟨⟨_, _, hb2⟩, _⟩ := h1.blk.three
  have hi : idxR no l l.length = k := by rw [idxR, hk, if_pos hkl]
  have hbl := h.lt
  have H1 := Lib.hid h1
  have H := Lib.hid h
  clear h1 h
  go_enter Try.func59, Try.ntmps59
  go_wp2_with (go_at_call 80; refine (idxI_any w.heap.size no _ (some ⟨g, 0, none⟩) l.length cap l H1.out.read hq hn).mono ?_; rintro e w2 ⟨rfl, hc2⟩; rw [hi]; have h2 := H1.out.non hc2; have hr := (Blk.new_at (w := w.alloc (.cells #[.int .i64 no] 3)) (cs := #[.int .i64 0, .int .i64 0, .int .i64 0, .string ⟨#[]⟩]) (t := 106) (g := w.heap.size + 1) (by simp)).chg hc2 id; obtain ⟨⟨_, _, b2⟩, _⟩ := h2.blk.three; obtain ⟨ad, e, c0, c1, c2, c3⟩ := pk_at h2.read hp; cases e; rw [add_plain] at c0 c1 c2 c3; have H2 := Lib.hid h2; clear h2; have b3 := cell_alloc b2 (.cells #[.int .i64 p.no, .int .i64 p.src, .int .i64 p.dst, .string p.x] 106))
  refine (maiDelI_any _ g l.length cap k _ (own_alloc H2.out.own _) (Pk.one l) hkl).mono ?_
  rintro e w4 ⟨rfl, ho4, hc4⟩
  have hs2 := hc2.size
  simp at hs2
  have hb4 := (H2.out.blk.alloc (.cells #[.int .i64 p.no, .int .i64 p.src, .int .i64 p.dst, .string p.x] 106)).chg hc4 (fun e => hne e.symm)
  obtain ⟨⟨_, _, d2⟩, _, _, f2⟩ := hb4.three
  have hgl := own_block_lt H2.out.own
  have hn2 : w2.heap.size ≠ b := by omega
  have hp5 := ((Blk.new w2 #[.int .i64 p.no, .int .i64 p.src, .int .i64 p.dst, .string p.x] 106).chg hc4 (by omega)).far (p := ⟨b, 2, none⟩) hn2 (.slice (some ⟨g, 0, none⟩) (l.length - 1) cap)
  have hr5 := ((hr.alloc (.cells #[.int .i64 p.no, .int .i64 p.src, .int .i64 p.dst, .string p.x] 106)).chg hc4 (by omega)).far (p := ⟨b, 2, none⟩) (show w.heap.size + 1 ≠ b by omega) (.slice (some ⟨g, 0, none⟩) (l.length - 1) cap)
  obtain ⟨⟨p0, p1, p2, p3⟩, _⟩ := hp5.four
  obtain ⟨⟨r0, r1, r2, r3⟩, r4, r5, r6, r7⟩ := hr5.four
  go_wp2
  refine bodyPost_ret (v := .tuple #[p.val, .int .i64 0]) (by simp [results, Try.results59, go_sem, Pk.val, r0, r1, r2, r3]) rfl ⟨rfl, ?_⟩
  have hN := NetAt.pull hb4 ho4 hne hkl
  have hS := ((((Chg.refl (· = w.heap.size + 1) (w4.setCell ⟨b, 2, none⟩ (.slice (some ⟨g, 0, none⟩) (l.length - 1) cap))).setCell (p := ⟨w.heap.size + 1, 0, none⟩) (.inl rfl) (.int .i64 p.no)).setCell (p := ⟨w.heap.size + 1, 1, none⟩) (.inl rfl) (.int .i64 p.src)).setCell (p := ⟨w.heap.size + 1, 2, none⟩) (.inl rfl) (.int .i64 p.dst)).setCell (p := ⟨w.heap.size + 1, 3, none⟩) (.inl rfl) (.string p.x)
  refine ⟨hN.chg hS (by omega) (fun ad e => by cases e; show ¬ g = _; omega), ?_⟩
  refine (Chg.setCell ?_ (.inl (.inl rfl)) _).trans hS (fun i hi => .inr (by show w.heap.size ≤ i; omega))
  refine (((((Chg.refl (netBlk b (some ⟨g, 0, none⟩)) w).alloc _).alloc _).trans hc2 (fun _ x => x.elim)).alloc _).trans hc4 (fun i hi => .inl (.inr ⟨_, rfl, hi⟩))

/-- Take out of a net. -/
theorem maiTakeI_any (no : Int) (w : World) (b : Nat) (boxes next : Int) (A : Option Addr) (cap : Nat) (l : List Pk) (h : NetAt w b boxes next A cap l) (hn : l.length ≤ 1000000) :
    Calls Try.prog 59 #[.pointer (some ⟨b, 0, none⟩), .int .i64 no] w fun e w' => e = .returned (.tuple #[(takeR no l).1.val, .int .i64 (takeR no l).2.1]) ∧ NetAt w' b boxes next A cap (takeR no l).2.2 ∧ Chg (netBlk b A) w w' := by
  cases hp : l[idxOf no l]? with
  | none =>
    have hi : ¬ idxOf no l < l.length := fun hlt => by rw [List.getElem?_eq_getElem hlt] at hp; cases hp
    refine (maiTakeI_out no w b boxes next A cap l h hn hi).mono ?_
    rintro e w' ⟨rfl, hc⟩
    have e1 : takeR no l = (.zero, 14, l) := by unfold takeR; rw [hp]
    rw [e1]
    exact ⟨rfl, h.non hc, hc.mono (fun _ _ x => x.elim)⟩
  | some p =>
    refine (maiTakeI_in no w b boxes next A cap l h hn _ rfl p hp).mono ?_
    rintro e w' ⟨rfl, hN, hc⟩
    have e1 : takeR no l = (p, 0, l.eraseIdx (idxOf no l)) := by unfold takeR; rw [hp]
    rw [e1]
    exact ⟨rfl, hN, hc⟩
theorem heap_lt2 {w w' : World} {k : Nat} (h : w'.heap[k]? = w.heap[k]?) (hl : k < w.heap.size) : k < w'.heap.size := by
  rw [Array.getElem?_eq_getElem hl] at h
  exact (Array.getElem?_eq_some_iff.1 h).1
theorem abides_alloc2 {β : Type} {B : Nat} {J : β → World → Prop} (h : AbidesFrom B J) {s : β} {W : World} (hs : J s W) (o : Obj) : J s (W.alloc o) := h s W _ none hs (World.grownBy_alloc W o none) (fun r e => by cases e)
theorem Chg.grownN {w w' : World} (h : Chg Non w w') : w.grownBy w' none := ⟨h.os, h.tape, h.output, h.size, fun i hi _ => h.block i hi id⟩
theorem abides_non {β : Type} {B : Nat} {J : β → World → Prop} (h : AbidesFrom B J) {s : β} {W W' : World} (hs : J s W) (hc : Chg Non W W') : J s W' := h s W W' none hs hc.grownN (fun r e => by cases e)
theorem own_far_opt {w : World} {base : Nat} {e : TypeId} {k n cap : Nat} {A : Option Addr} {cs : List Value} (h : w.ownsRow base e k (.slice A n cap) n cs) {p : Addr} (hp : ∀ ad, A = some ad → ad.block ≠ p.block) (u : Value) : (w.setCell p u).ownsRow base e k (.slice A n cap) n cs :=
  own_keep h (fun i hi => by
    rw [ownBlock_slice] at hi
    cases A with
    | none => cases hi
    | some ad => cases hi; exact Below.heap_setCell w p u _ (hp ad rfl))
theorem own_read_opt {w : World} {A : Option Addr} {cap : Nat} {l : List Pk} (h : w.ownsRow 0 106 4 (.slice A l.length cap) l.length (l.flatMap Pk.cells)) : SlRead Pk.cells 4 w A l.length cap l := by
  have h0 := h
  obtain ⟨h1, h2⟩ := h0
  rcases h2 with ⟨hv, _⟩ | ⟨g', cap', cur, hv, _, hh, hle, hm, hs, ht⟩
  · injection hv with e1 hl e3
    subst e1 e3
    have : l = [] := List.eq_nil_of_length_eq_zero hl
    subst this
    exact ⟨rfl, Nat.le_refl _, by simp [maxLen], fun _ => rfl, by simp⟩
  · cases hv
    exact own_read Pk.len h (by decide)
end Go.Proofs.Ytggbgfdgpkbmhaa.S
