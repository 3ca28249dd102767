/- mail: a net and the document's answer side by side; does. -/
import Derived.Test.YtggbgfdgpkbmhaaMaiR
namespace Go.Proofs.Ytggbgfdgpkbmhaa
open Go.RowKit
set_option linter.unusedSimpArgs false
set_option linter.unusedVariables false

/-- Two nets lie apart, at or above B. -/
structure Apart (B bn : Nat) (A : Option Addr) (bo : Nat) (R : Option Addr) : Prop where
  n : B ≤ bn
  o : B ≤ bo
  ne : bn ≠ bo
  a : ∀ ad, A = some ad → B ≤ ad.block ∧ ad.block ≠ bo
  r : ∀ ad, R = some ad → B ≤ ad.block ∧ ad.block ≠ bn
  ar : ∀ ad ad', A = some ad → R = some ad' → ad.block ≠ ad'.block
theorem Apart.swap {B bn bo : Nat} {A R : Option Addr} (h : Apart B bn A bo R) : Apart B bo R bn A := ⟨h.o, h.n, h.ne.symm, h.r, h.a, fun ad ad' e e' x => h.ar ad' ad e' e x.symm⟩
theorem Apart.left {B bn bo : Nat} {A R A2 : Option Addr} (h : Apart B bn A bo R) {w : World} (hB : B ≤ w.heap.size) (hf : rowFrom w A A2) (hbo : bo < w.heap.size) (hR : ∀ ad, R = some ad → ad.block < w.heap.size) : Apart B bn A2 bo R := by
  refine ⟨h.n, h.o, h.ne, fun ad e => ?_, h.r, fun ad ad' e e' => ?_⟩
  · rcases hf ad e with ⟨a2, e2, e3⟩ | h2
    · rw [e3]; exact h.a a2 e2
    · exact ⟨by omega, by omega⟩
  · rcases hf ad e with ⟨a2, e2, e3⟩ | h2
    · rw [e3]; exact h.ar a2 ad' e2 e'
    · have := hR ad' e'; omega
theorem Apart.not_n {B bn bo : Nat} {A R : Option Addr} (h : Apart B bn A bo R) : ¬ netBlk bn A bo := by
  rintro (e | ⟨ad, e, e'⟩)
  · exact h.ne e.symm
  · exact (h.a ad e).2 e'.symm
theorem Apart.not_r {B bn bo : Nat} {A R : Option Addr} (h : Apart B bn A bo R) : ∀ ad, R = some ad → ¬ netBlk bn A ad.block := by
  rintro ad e (e1 | ⟨ad', e1, e2⟩)
  · exact (h.r ad e).2 e1
  · exact h.ar ad' ad e1 e e2.symm
theorem Apart.ge {B bn bo : Nat} {A R : Option Addr} (h : Apart B bn A bo R) {i : Nat} (hi : netBlk bn A i) : B ≤ i := by
  rcases hi with rfl | ⟨ad, e, rfl⟩
  · exact h.n
  · exact (h.a ad e).1
theorem sl_chg0 {α : Type} {cells : α → List Value} {z : Nat} {w w' : World} {A : Option Addr} {n c : Nat} {xs : List α} (h : SlRead cells z w A n c xs) {S : Nat → Prop} (hc : Chg S w w') (hs : 0 < n → ∀ ad, A = some ad → ¬ S ad.block) : SlRead cells z w' A n c xs := by
  by_cases h0 : 0 < n
  · exact h.chg hc (hs h0)
  · have hx : xs = [] := List.eq_nil_of_length_eq_zero (by have := h.len; omega)
    subst hx
    exact ⟨h.len, h.cap, h.max, h.nil, by simp⟩
/-- A net and the document's answer hold the same. -/
def NetPair (B : Nat) (w : World) (bn bo : Nat) (boxes next : Int) (l : List Pk) : Prop := ∃ A cap R rcap, NetAt w bn boxes next A cap l ∧ RNetAt w bo boxes next R rcap l ∧ Apart B bn A bo R
theorem NetPair.non {B : Nat} {w w' : World} {bn bo : Nat} {boxes next : Int} {l : List Pk} (h : NetPair B w bn bo boxes next l) (hc : Chg Non w w') : NetPair B w' bn bo boxes next l := by
  obtain ⟨A, cap, R, rcap, h1, h2, h3⟩ := h
  exact ⟨A, cap, R, rcap, h1.non hc, h2.non hc, h3⟩

/-- What a call leaves. -/
def stepR (boxes next : Int) (l : List Pk) (ask a b : Int) (xs : List Int) : Int × List Pk :=
  if ask = 0 then (if (inBox boxes a && inBox boxes b) = true then (next + xs.length, l ++ sent next a b xs) else (next, l))
  else if ask = 1 then (next, (takeR a l).2.2) else (next, (pickR boxes a b l).2.2)

set_option maxHeartbeats 4000000 in
set_option maxRecDepth 100000 in
theorem does14_send (B : Nat) (w : World) (bn bo : Nat) (boxes next : Int) (l : List Pk) (hP : NetPair B w bn bo boxes next l) (hB : B ≤ w.heap.size) (hl : l.length ≤ 100000) (hnx : 0 ≤ next ∧ next ≤ 100000)
    (a b : Int) (A : Option Addr) (n c : Nat) (xs : List Int) (hx : SlRead (fun x => [Value.int .i64 x]) 1 w A n c xs) (hlt : 0 < n → ∀ ad, A = some ad → ad.block < B) (h20 : n ≤ 20) :
    Calls Try.prog 31 #[.pointer (some ⟨bn, 0, none⟩), .pointer (some ⟨bo, 0, none⟩), .agg #[.int .i64 0, .int .i64 a, .int .i64 b, .slice A n c]] w fun e w' => e = .returned (.bool true) ∧ NetPair B w' bn bo boxes (stepR boxes next l 0 a b xs).1 (stepR boxes next l 0 a b xs).2 ∧ Chg (B ≤ ·) w w' := by
  obtain ⟨NA, cap, RA, rcap, hN, hR, hA⟩ := hP
  have hq := Blk.new w #[.int .i64 0, .int .i64 a, .int .i64 b, .slice A n c] 62
  have hca : Chg Non w (w.alloc (.cells #[.int .i64 0, .int .i64 a, .int .i64 b, .slice A n c] 62)) := (Chg.refl Non w).alloc _
  have hN1 := hN.non hca
  have hR1 := hR.non hca
  have hx1 := hx.non hca
  have hnl := hN.lt
  have hol := hR.lt
  have hAl := own_lt hN.own
  have hRl := own_lt hR.own
  have hlen := hx.len
  obtain ⟨⟨q0, q1, q2, q3⟩, _⟩ := hq.four
  have HX := Lib.hid hx1
  clear hx1 hx
  have hnq : ¬ netBlk bn NA w.heap.size := by
    rintro (e | ⟨ad, e, e'⟩)
    · omega
    · have := hAl ad e; omega
  cases hbx : inBox boxes a && inBox boxes b
  · have hst : stepR boxes next l 0 a b xs = (next, l) := by simp [stepR, hbx]
    rw [hst]
    go_enter Try.func31, Try.ntmps31
    go_wp2_with fail
    refine (maiSendI_no a b A n c _ bn boxes next NA cap l hN1 hbx).mono ?_
    rintro e w2 ⟨rfl, rfl⟩
    go_wp2_with fail
    refine (refSend_no a b A n c _ bo boxes next RA rcap l hR1 hbx).mono ?_
    rintro e w2 ⟨rfl, rfl⟩
    go_wp2
    go_ret
    exact ⟨rfl, ⟨NA, cap, RA, rcap, hN1, hR1, hA⟩, hca.mono (fun _ _ x => x.elim)⟩
  · have hst : stepR boxes next l 0 a b xs = (next + n, l ++ sent next a b xs) := by simp [stepR, hbx, hlen]
    rw [hst]
    obtain ⟨ha, hb⟩ := Bool.and_eq_true_iff.1 hbx
    go_enter Try.func31, Try.ntmps31
    go_wp2_with fail
    refine (maiSendI_ok a b A n c xs _ bn boxes next NA cap l hN1 ha hb HX.out (fun h0 ad e => by have := hlt h0 ad e; have := hA.n; omega) (fun h0 ad ad' e e' => by have := hlt h0 ad e; have := (hA.a ad' e').1; omega) (by omega) hl hnx).mono ?_
    rintro e w2 ⟨rfl, A2, cap2, hN2, hc2, hf2⟩
    have hs2 := hc2.size
    simp at hs2
    have hq2 := hq.chg hc2 hnq
    obtain ⟨⟨p0, p1, p2, p3⟩, _⟩ := hq2.four
    have hR2 := hR1.chg hc2 hA.not_n hA.not_r
    have hA2 := hA.left (by simp; omega) hf2 (by simp; omega) (fun ad e => by have := hRl ad e; simp; omega)
    have hx2 := sl_chg0 HX.out hc2 (fun h0 ad e hh => by have := hlt h0 ad e; have := hA.ge hh; omega)
    go_wp2_with fail
    refine (refSend_ok a b A n c xs _ bo boxes next RA rcap l hR2 ha hb hx2 (fun h0 ad e => by have := hlt h0 ad e; have := hA.o; omega) (fun h0 ad ad' e e' => by have := hlt h0 ad e; have := (hA.r ad' e').1; omega) (by omega) hl hnx).mono ?_
    rintro e w3 ⟨rfl, R3, rcap3, hR3, hc3, hf3⟩
    have hA3 := hA2.swap.left (w := w2) (by omega) hf3 (by omega) (own_lt hN2.own)
    have hN3 := hN2.chg hc3 hA2.swap.not_n hA2.swap.not_r
    go_wp2
    go_ret
    refine ⟨rfl, ⟨A2, cap2, R3, rcap3, hN3, hR3, hA3.swap⟩, ?_⟩
    exact ((hca.mono (S1 := (B ≤ ·)) (fun _ _ x => x.elim)).trans hc2 (fun i hi => .inl (hA.ge hi))).trans hc3 (fun i hi => .inl (hA2.swap.ge hi))

set_option maxHeartbeats 4000000 in
set_option maxRecDepth 100000 in
theorem does14_take (B : Nat) (w : World) (bn bo : Nat) (boxes next : Int) (l : List Pk) (hP : NetPair B w bn bo boxes next l) (hB : B ≤ w.heap.size) (hl : l.length ≤ 100000) (hok : NumsOk next l)
    (a b : Int) (A : Option Addr) (n c : Nat) :
    Calls Try.prog 31 #[.pointer (some ⟨bn, 0, none⟩), .pointer (some ⟨bo, 0, none⟩), .agg #[.int .i64 1, .int .i64 a, .int .i64 b, .slice A n c]] w fun e w' => e = .returned (.bool true) ∧ NetPair B w' bn bo boxes next (takeR a l).2.2 ∧ Chg (B ≤ ·) w w' := by
  obtain ⟨NA, cap, RA, rcap, hN, hR, hA⟩ := hP
  have hq := Blk.new w #[.int .i64 1, .int .i64 a, .int .i64 b, .slice A n c] 62
  have hca : Chg Non w (w.alloc (.cells #[.int .i64 1, .int .i64 a, .int .i64 b, .slice A n c] 62)) := (Chg.refl Non w).alloc _
  have hN1 := hN.non hca
  have hR1 := hR.non hca
  have hnl := hN.lt
  have hol := hR.lt
  have hAl := own_lt hN.own
  have hRl := own_lt hR.own
  obtain ⟨⟨q0, q1, q2, q3⟩, _⟩ := hq.four
  have hnq : ¬ netBlk bn NA w.heap.size := by
    rintro (e | ⟨ad, e, e'⟩)
    · omega
    · have := hAl ad e; omega
  obtain ⟨⟨o1, o2, o3⟩, hO⟩ : ∃ o, takeR a l = o := ⟨_, rfl⟩
  have hT := maiTakeI_any a _ bn boxes next NA cap l hN1 (by omega)
  rw [hO] at hT ⊢
  go_enter Try.func31, Try.ntmps31
  go_wp2_with fail
  refine hT.mono ?_
  rintro e w2 ⟨rfl, hN2, hc2⟩
  have hs2 := hc2.size
  simp at hs2
  have hca2 : Chg Non w2 (w2.alloc (.cells #[.int .i64 o1.no, .int .i64 o1.src, .int .i64 o1.dst, .int .i64 o1.x] 67)) := (Chg.refl Non w2).alloc _
  have hq2 := (hq.chg hc2 hnq).alloc (.cells #[.int .i64 o1.no, .int .i64 o1.src, .int .i64 o1.dst, .int .i64 o1.x] 67)
  have hp2 := Blk.new w2 #[.int .i64 o1.no, .int .i64 o1.src, .int .i64 o1.dst, .int .i64 o1.x] 67
  obtain ⟨⟨p0, p1, p2, p3⟩, _⟩ := hq2.four
  have hR2 := (hR1.chg hc2 hA.not_n hA.not_r).non hca2
  have hN2' := hN2.non hca2
  have hT2 := refTake_ok a _ bo boxes next RA rcap l hR2 (by omega) hok
  rw [hO] at hT2
  unfold Pk.val at hT2 ⊢
  go_wp2_with fail
  refine hT2.mono ?_
  rintro e w3 ⟨rfl, R3, rcap3, hR3, hc3, hf3⟩
  have hs3 := hc3.size
  simp at hs3
  have hA3 := hA.swap.left (w := w2.alloc (.cells #[.int .i64 o1.no, .int .i64 o1.src, .int .i64 o1.dst, .int .i64 o1.x] 67)) (by simp; omega) hf3 (by simp; omega) (fun ad e => by have := hAl ad e; simp; omega)
  have hN3 := hN2'.chg hc3 (fun e => hA.ne e) (fun ad e e' => (hA.a ad e).2 e')
  have hca3 : Chg Non w3 (w3.alloc (.cells #[.int .i64 o1.no, .int .i64 o1.src, .int .i64 o1.dst, .int .i64 o1.x] 111)) := (Chg.refl Non w3).alloc _
  have hp3 := (hp2.chg hc3 (fun e => by omega)).alloc (.cells #[.int .i64 o1.no, .int .i64 o1.src, .int .i64 o1.dst, .int .i64 o1.x] 111)
  have hr3 := Blk.new w3 #[.int .i64 o1.no, .int .i64 o1.src, .int .i64 o1.dst, .int .i64 o1.x] 111
  obtain ⟨⟨s0, s1, s2, s3⟩, _⟩ := hp3.four
  obtain ⟨⟨t0, t1, t2, t3⟩, _⟩ := hr3.four
  go_wp2_with fail
  refine (packet14_same o1 _).mono ?_
  rintro e w4 ⟨rfl, hc4⟩
  go_wp2
  go_ret
  refine ⟨rfl, ⟨NA, cap, R3, rcap3, (hN3.non hca3).non hc4, (hR3.non hca3).non hc4, hA3.swap⟩, ?_⟩
  exact (((((hca.mono (S1 := (B ≤ ·)) (fun _ _ x => x.elim)).trans hc2 (fun i hi => .inl (hA.ge hi))).trans hca2 (fun _ x => x.elim)).trans hc3 (fun i hi => .inl (by have hi' : i = bo := hi; have := hA.o; show B ≤ i; omega))).trans hca3 (fun _ x => x.elim)).trans hc4 (fun _ x => x.elim)

set_option maxHeartbeats 4000000 in
set_option maxRecDepth 100000 in
theorem does14_pick (B : Nat) (w : World) (bn bo : Nat) (boxes next : Int) (l : List Pk) (hP : NetPair B w bn bo boxes next l) (hB : B ≤ w.heap.size) (hl : l.length ≤ 100000) (hok : NumsOk next l)
    (ask a b : Int) (h0 : ask ≠ 0) (h1 : ask ≠ 1) (A : Option Addr) (n c : Nat) :
    Calls Try.prog 31 #[.pointer (some ⟨bn, 0, none⟩), .pointer (some ⟨bo, 0, none⟩), .agg #[.int .i64 ask, .int .i64 a, .int .i64 b, .slice A n c]] w fun e w' => e = .returned (.bool true) ∧ NetPair B w' bn bo boxes next (pickR boxes a b l).2.2 ∧ Chg (B ≤ ·) w w' := by
  obtain ⟨NA, cap, RA, rcap, hN, hR, hA⟩ := hP
  have k0 : (ask == 0) = false := by simpa using h0
  have k1 : (ask == 1) = false := by simpa using h1
  have hq := Blk.new w #[.int .i64 ask, .int .i64 a, .int .i64 b, .slice A n c] 62
  have hca : Chg Non w (w.alloc (.cells #[.int .i64 ask, .int .i64 a, .int .i64 b, .slice A n c] 62)) := (Chg.refl Non w).alloc _
  have hN1 := hN.non hca
  have hR1 := hR.non hca
  have hnl := hN.lt
  have hol := hR.lt
  have hAl := own_lt hN.own
  have hRl := own_lt hR.own
  obtain ⟨⟨q0, q1, q2, q3⟩, _⟩ := hq.four
  have hnq : ¬ netBlk bn NA w.heap.size := by
    rintro (e | ⟨ad, e, e'⟩)
    · omega
    · have := hAl ad e; omega
  obtain ⟨⟨o1, o2, o3⟩, hO⟩ : ∃ o, pickR boxes a b l = o := ⟨_, rfl⟩
  have hT := maiPickI_any a b _ bn boxes next NA cap l hN1 (by omega)
  rw [hO] at hT ⊢
  go_enter Try.func31, Try.ntmps31
  go_wp2_with fail
  refine hT.mono ?_
  rintro e w2 ⟨rfl, hN2, hc2⟩
  have hs2 := hc2.size
  simp at hs2
  have hca2 : Chg Non w2 (w2.alloc (.cells #[.int .i64 o1.no, .int .i64 o1.src, .int .i64 o1.dst, .int .i64 o1.x] 67)) := (Chg.refl Non w2).alloc _
  have hq2 := (hq.chg hc2 hnq).alloc (.cells #[.int .i64 o1.no, .int .i64 o1.src, .int .i64 o1.dst, .int .i64 o1.x] 67)
  have hp2 := Blk.new w2 #[.int .i64 o1.no, .int .i64 o1.src, .int .i64 o1.dst, .int .i64 o1.x] 67
  obtain ⟨⟨p0, p1, p2, p3⟩, _⟩ := hq2.four
  have hR2 := (hR1.chg hc2 hA.not_n hA.not_r).non hca2
  have hN2' := hN2.non hca2
  have hT2 := refPick_ok a b _ bo boxes next RA rcap l hR2 (by omega) hok
  rw [hO] at hT2
  unfold Pk.val at hT2 ⊢
  go_wp2_with fail
  refine hT2.mono ?_
  rintro e w3 ⟨rfl, R3, rcap3, hR3, hc3, hf3⟩
  have hs3 := hc3.size
  simp at hs3
  have hA3 := hA.swap.left (w := w2.alloc (.cells #[.int .i64 o1.no, .int .i64 o1.src, .int .i64 o1.dst, .int .i64 o1.x] 67)) (by simp; omega) hf3 (by simp; omega) (fun ad e => by have := hAl ad e; simp; omega)
  have hN3 := hN2'.chg hc3 (fun e => hA.ne e) (fun ad e e' => (hA.a ad e).2 e')
  have hca3 : Chg Non w3 (w3.alloc (.cells #[.int .i64 o1.no, .int .i64 o1.src, .int .i64 o1.dst, .int .i64 o1.x] 111)) := (Chg.refl Non w3).alloc _
  have hp3 := (hp2.chg hc3 (fun e => by omega)).alloc (.cells #[.int .i64 o1.no, .int .i64 o1.src, .int .i64 o1.dst, .int .i64 o1.x] 111)
  have hr3 := Blk.new w3 #[.int .i64 o1.no, .int .i64 o1.src, .int .i64 o1.dst, .int .i64 o1.x] 111
  obtain ⟨⟨s0, s1, s2, s3⟩, _⟩ := hp3.four
  obtain ⟨⟨t0, t1, t2, t3⟩, _⟩ := hr3.four
  go_wp2_with fail
  refine (packet14_same o1 _).mono ?_
  rintro e w4 ⟨rfl, hc4⟩
  go_wp2
  go_ret
  refine ⟨rfl, ⟨NA, cap, R3, rcap3, (hN3.non hca3).non hc4, (hR3.non hca3).non hc4, hA3.swap⟩, ?_⟩
  exact (((((hca.mono (S1 := (B ≤ ·)) (fun _ _ x => x.elim)).trans hc2 (fun i hi => .inl (hA.ge hi))).trans hca2 (fun _ x => x.elim)).trans hc3 (fun i hi => .inl (by have hi' : i = bo := hi; have := hA.o; show B ≤ i; omega))).trans hca3 (fun _ x => x.elim)).trans hc4 (fun _ x => x.elim)

theorem does14_any (B : Nat) (w : World) (bn bo : Nat) (boxes next : Int) (l : List Pk) (hP : NetPair B w bn bo boxes next l) (hB : B ≤ w.heap.size) (hl : l.length ≤ 100000) (hnx : 0 ≤ next ∧ next ≤ 100000) (hok : NumsOk next l)
    (ask a b : Int) (A : Option Addr) (n c : Nat) (xs : List Int) (hx : SlRead (fun x => [Value.int .i64 x]) 1 w A n c xs) (hlt : 0 < n → ∀ ad, A = some ad → ad.block < B) (h20 : n ≤ 20) :
    Calls Try.prog 31 #[.pointer (some ⟨bn, 0, none⟩), .pointer (some ⟨bo, 0, none⟩), .agg #[.int .i64 ask, .int .i64 a, .int .i64 b, .slice A n c]] w fun e w' => e = .returned (.bool true) ∧ NetPair B w' bn bo boxes (stepR boxes next l ask a b xs).1 (stepR boxes next l ask a b xs).2 ∧ Chg (B ≤ ·) w w' := by
  by_cases h0 : ask = 0
  · subst h0
    exact does14_send B w bn bo boxes next l hP hB hl hnx a b A n c xs hx hlt h20
  · by_cases h1 : ask = 1
    · subst h1
      exact does14_take B w bn bo boxes next l hP hB hl hok a b A n c
    · have e : stepR boxes next l ask a b xs = (next, (pickR boxes a b l).2.2) := by simp [stepR, h0, h1]
      rw [e]
      exact does14_pick B w bn bo boxes next l hP hB hl hok ask a b h0 h1 A n c
end Go.Proofs.Ytggbgfdgpkbmhaa
