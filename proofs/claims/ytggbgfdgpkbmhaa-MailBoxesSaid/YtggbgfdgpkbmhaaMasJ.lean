/- mail: Collect; Pick. -/
import Derived.Test.YtggbgfdgpkbmhaaMasI
namespace Go.Proofs.Ytggbgfdgpkbmhaa.S
open Go.RowKit
set_option linter.unusedSimpArgs false
set_option linter.unusedVariables false

theorem maiCollI_any (w : World) (bl q r : Nat) (to : Int) (A : Option Addr) (c : Nat) (l : List Pk) (hI : ItT w bl q r to A c l) (hn : l.length ≤ 1000000) :
    Calls Try.prog 78 #[.func (.func 89) #[] #[.pointer (some ⟨bl, 0, none⟩), .pointer (some ⟨q, 0, none⟩)]] w (collPost (l.filter (givT to)) w) := by
  go_enter Try.func78, Try.ntmps78
  go_wp2_with fail
  refine (maiAppI_any w bl q r to A c l hI hn).mono ?_
  rintro e w2 ⟨A2, c2, rfl, h1, h2, h3⟩
  go_wp2
  go_ret
  exact ⟨A2, c2, rfl, h1, h2, h3⟩

/-- Which one of k is picked. -/
def pickI (which : Int) (k : Nat) : Nat := ((which.tmod k + k).tmod k).toNat
theorem pick_lt (which : Int) (k : Nat) (hk : 0 < k) : pickI which k < k ∧ (which.tmod k + k).tmod k = (pickI which k : Int) ∧ -(k : Int) < which.tmod k ∧ which.tmod k < k := by
  have h1 : which.tmod k < k := Int.tmod_lt_of_pos _ (by omega)
  have h2 : -(k : Int) < which.tmod k := by
    have := Int.tmod_lt_of_pos (-which) (b := k) (by omega)
    rw [Int.neg_tmod] at this
    omega
  have h3 : (which.tmod k + k).tmod k < k := Int.tmod_lt_of_pos _ (by omega)
  have h4 : 0 ≤ (which.tmod k + k).tmod k := Int.tmod_nonneg _ (by omega)
  unfold pickI
  exact ⟨by omega, by omega, h2, h1⟩
/-- What Pick answers, and what is left. -/
def pickR (boxes to which : Int) (l : List Pk) : Pk × Int × List Pk :=
  if inBox boxes to = false then (.zero, 1, l) else
  match (l.filter (givT to))[pickI which (l.filter (givT to)).length]? with
  | none => (.zero, 14, l)
  | some p => takeR p.no l

theorem maiPickI_nil (to which : Int) (w : World) : Calls Try.prog 58 #[.pointer none, .int .i64 to, .int .i64 which] w fun e w' => e = .returned (.tuple #[Pk.zero.val, .int .i64 2]) ∧ Chg Non w w' := by
  go_enter Try.func58, Try.ntmps58
  go_wp2
  exact bodyPost_ret (v := .tuple #[Pk.zero.val, .int .i64 2]) (by simp [results, Try.results58, go_sem, Pk.zero, Pk.val]) rfl ⟨rfl, (Chg.refl Non w).alloc _⟩

set_option maxRecDepth 100000 in
theorem maiPickI_out (to which : Int) (w : World) (b : Nat) (boxes next : Int) (A : Option Addr) (cap : Nat) (l : List Pk) (h : NetAt w b boxes next A cap l) (hi : inBox boxes to = false) :
    Calls Try.prog 58 #[.pointer (some ⟨b, 0, none⟩), .int .i64 to, .int .i64 which] w fun e w' => e = .returned (.tuple #[Pk.zero.val, .int .i64 1]) ∧ Chg Non w w' := by
  have h1 := h.non ((Chg.refl Non w).alloc (.cells #[.int .i64 0, .int .i64 0, .int .i64 0, .string ⟨#[]⟩] 106))
  go_enter Try.func58, Try.ntmps58
  go_wp2_with fail
  refine (hi ▸ maiBoxI_any to _ b boxes next A cap l h1).mono ?_
  rintro e w2 ⟨rfl, rfl⟩
  go_wp2
  exact bodyPost_ret (v := .tuple #[Pk.zero.val, .int .i64 1]) (by simp [results, Try.results58, go_sem, Pk.zero, Pk.val]) rfl ⟨rfl, (Chg.refl Non w).alloc _⟩

set_option maxHeartbeats 1000000 in
set_option maxRecDepth 100000 in
theorem maiPickI_none (to which : Int) (w : World) (b : Nat) (boxes next : Int) (A : Option Addr) (cap : Nat) (l : List Pk) (h : NetAt w b boxes next A cap l) (hn : l.length ≤ 1000000) (hi : inBox boxes to = true) (hm : l.filter (givT to) = []) :
    Calls Try.prog 58 #[.pointer (some ⟨b, 0, none⟩), .int .i64 to, .int .i64 which] w fun e w' => e = .returned (.tuple #[Pk.zero.val, .int .i64 14]) ∧ Chg Non w w' := by
  have h1 := h.non ((Chg.refl Non w).alloc (.cells #[.int .i64 0, .int .i64 0, .int .i64 0, .string ⟨#[]⟩] 106))
  go_enter Try.func58, Try.ntmps58
  go_wp2_with fail
  refine (hi ▸ maiBoxI_any to _ b boxes next A cap l h1).mono ?_
  rintro e w2 ⟨rfl, rfl⟩
  go_wp2_with fail
  refine (maiToI_any to _ b boxes next A cap l h1 hn).mono ?_
  rintro e w2 ⟨bl, q, r, A2, c2, rfl, hI, hc2, _⟩
  go_wp2_with fail
  refine (maiCollI_any w2 bl q r to A2 c2 l hI hn).mono ?_
  rintro e w3 ⟨A3, c3, rfl, ho, hc3, _⟩
  rw [hm]
  have hr := ((Blk.new_at (w := w) (cs := #[.int .i64 0, .int .i64 0, .int .i64 0, .string ⟨#[]⟩]) (t := 106) rfl).chg hc2 id).chg hc3 id
  obtain ⟨⟨r0, r1, r2, r3⟩, r4, r5, r6, r7⟩ := hr.four
  go_wp2
  refine bodyPost_ret (v := .tuple #[Pk.zero.val, .int .i64 14]) (by simp [results, Try.results58, go_sem, Pk.zero, Pk.val, r0, r1, r2, r3]) rfl ⟨rfl, ?_⟩
  refine ((((((((Chg.refl Non w).alloc _).trans hc2 (fun _ x => x.elim)).trans hc3 (fun _ x => x.elim)).setCell (.inr ?_) _).setCell (.inr ?_) _).setCell (.inr ?_) _).setCell (.inr ?_) _) <;> simp

set_option maxHeartbeats 2000000 in
set_option maxRecDepth 100000 in
theorem maiPickI_in (to which : Int) (w : World) (b : Nat) (boxes next : Int) (A : Option Addr) (cap : Nat) (l : List Pk) (h : NetAt w b boxes next A cap l) (hn : l.length ≤ 1000000) (hi : inBox boxes to = true) (m : List Pk) (hm : l.filter (givT to) = m) (p : Pk) (hp : m[pickI which m.length]? = some p) :
    Calls Try.prog 58 #[.pointer (some ⟨b, 0, none⟩), .int .i64 to, .int .i64 which] w fun e w' => e = .returned (.tuple #[(takeR p.no l).1.val, .int .i64 (takeR p.no l).2.1]) ∧ NetAt w' b boxes next A cap (takeR p.no l).2.2 ∧ Chg (netBlk b A) w w' := by
  have h1 := h.non ((Chg.refl Non w).alloc (.cells #[.int .i64 0, .int .i64 0, .int .i64 0, .string ⟨#[]⟩] 106))
  have hml : m.length ≤ 1000000 := by rw [← hm]; exact Nat.le_trans (List.length_filter_le _ _) hn
  have hpl : pickI which m.length < m.length := (List.getElem?_eq_some_iff.1 hp).1
  obtain ⟨_, e1, e2, e3⟩ := pick_lt which m.length (by omega)
  have hbl := h.lt
  have hAl := own_lt h.own
  go_enter Try.func58, Try.ntmps58
  go_wp2_with fail
  refine (hi ▸ maiBoxI_any to _ b boxes next A cap l h1).mono ?_
  rintro e w2 ⟨rfl, rfl⟩
  go_wp2_with fail
  refine (maiToI_any to _ b boxes next A cap l h1 hn).mono ?_
  rintro e w2 ⟨bl, q, r, A2, c2, rfl, hI, hc2, _⟩
  go_wp2_with fail
  refine (maiCollI_any w2 bl q r to A2 c2 l hI hn).mono ?_
  rintro e w3 ⟨A3, c3, rfl, ho, hc3, _⟩
  rw [hm] at ho ⊢
  have hr := ((Blk.new_at (w := w) (cs := #[.int .i64 0, .int .i64 0, .int .i64 0, .string ⟨#[]⟩]) (t := 106) rfl).chg hc2 id).chg hc3 id
  have hN := (h1.non hc2).non hc3
  obtain ⟨ad, rfl, a0, _⟩ := pk_at (own_read_opt ho) hp
  have HN := Lib.hid hN
  clear hN h1 h
  go_wp2_with fail
  refine (maiTakeI_any p.no w3 b boxes next A cap l HN.out hn).mono ?_
  obtain ⟨⟨o1, o2, o3⟩, hO⟩ : ∃ o, takeR p.no l = o := ⟨_, rfl⟩
  rw [hO]
  rintro e w4 ⟨rfl, hN4, hc4⟩
  have hr4 := hr.chg hc4 (by
    rintro (e | ⟨ad', e, e'⟩)
    · omega
    · have := hAl ad' e; omega)
  obtain ⟨⟨r0, r1, r2, r3⟩, r4, r5, r6, r7⟩ := hr4.four
  unfold Pk.val
  go_wp2
  refine bodyPost_ret (v := .tuple #[o1.val, .int .i64 o2]) (by simp [results, Try.results58, go_sem, Pk.val, r0, r1, r2, r3]) rfl ⟨by rw [hO], ?_⟩
  rw [hO]
  have hS := ((((Chg.refl (· = w.heap.size) w4).setCell (p := ⟨w.heap.size, 0, none⟩) (.inl rfl) (.int .i64 o1.no)).setCell (p := ⟨w.heap.size, 1, none⟩) (.inl rfl) (.int .i64 o1.src)).setCell (p := ⟨w.heap.size, 2, none⟩) (.inl rfl) (.int .i64 o1.dst)).setCell (p := ⟨w.heap.size, 3, none⟩) (.inl rfl) (.string o1.x)
  refine ⟨hN4.chg hS (by omega) (fun ad' e => by have := hAl ad' e; omega), ?_⟩
  exact (((((Chg.refl (netBlk b A) w).alloc _).trans hc2 (fun _ x => x.elim)).trans hc3 (fun _ x => x.elim)).trans hc4 (fun i hi => .inl hi)).trans hS (fun i hi => .inr (by have hi' : i = w.heap.size := hi; omega))

/-- Pick out of a net. -/
theorem maiPickI_any (to which : Int) (w : World) (b : Nat) (boxes next : Int) (A : Option Addr) (cap : Nat) (l : List Pk) (h : NetAt w b boxes next A cap l) (hn : l.length ≤ 1000000) :
    Calls Try.prog 58 #[.pointer (some ⟨b, 0, none⟩), .int .i64 to, .int .i64 which] w fun e w' => e = .returned (.tuple #[(pickR boxes to which l).1.val, .int .i64 (pickR boxes to which l).2.1]) ∧ NetAt w' b boxes next A cap (pickR boxes to which l).2.2 ∧ Chg (netBlk b A) w w' := by
  unfold pickR
  cases hi : inBox boxes to
  · refine (maiPickI_out to which w b boxes next A cap l h hi).mono ?_
    rintro e w' ⟨rfl, hc⟩
    exact ⟨rfl, h.non hc, hc.mono (fun _ _ x => x.elim)⟩
  · simp only [Bool.true_eq_false, if_false]
    cases hp : (l.filter (givT to))[pickI which (l.filter (givT to)).length]? with
    | none =>
      have hm : l.filter (givT to) = [] := by
        by_cases h0 : 0 < (l.filter (givT to)).length
        · have := (pick_lt which _ h0).1
          rw [List.getElem?_eq_getElem this] at hp
          cases hp
        · exact List.eq_nil_of_length_eq_zero (by omega)
      refine (maiPickI_none to which w b boxes next A cap l h hn hi hm).mono ?_
      rintro e w' ⟨rfl, hc⟩
      exact ⟨rfl, h.non hc, hc.mono (fun _ _ x => x.elim)⟩
    | some p => exact maiPickI_in to which w b boxes next A cap l h hn hi _ rfl p hp
end Go.Proofs.Ytggbgfdgpkbmhaa.S
