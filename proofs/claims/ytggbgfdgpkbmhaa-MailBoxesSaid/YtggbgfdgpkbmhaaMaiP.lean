/- mail: the document's answer: To, Take. -/
import Derived.Test.YtggbgfdgpkbmhaaMaiO
import Derived.Test.YtggbgfdgpkbmhaaMaiI
namespace Go.Proofs.Ytggbgfdgpkbmhaa
open Go.RowKit
set_option linter.unusedSimpArgs false
set_option linter.unusedVariables false

theorem Blk.set4 {w : World} {g : Nat} {a b c d : Value} {t : TypeId} (h : Blk w g #[a, b, c, d] t) (a' b' c' d' : Value) : Blk ((((w.setCell ⟨g, 0, none⟩ a').setCell ⟨g, 1, none⟩ b').setCell ⟨g, 2, none⟩ c').setCell ⟨g, 3, none⟩ d') g #[a', b', c', d'] t := by
  simpa using (((h.set 0 a').set 1 b').set 2 c').set 3 d'
theorem Chg.set4 (w : World) (g : Nat) (a' b' c' d' : Value) : Chg (· = g) w ((((w.setCell ⟨g, 0, none⟩ a').setCell ⟨g, 1, none⟩ b').setCell ⟨g, 2, none⟩ c').setCell ⟨g, 3, none⟩ d') :=
  ((((Chg.refl (· = g) w).setCell (p := ⟨g, 0, none⟩) (.inl rfl) _).setCell (p := ⟨g, 1, none⟩) (.inl rfl) _).setCell (p := ⟨g, 2, none⟩) (.inl rfl) _).setCell (p := ⟨g, 3, none⟩) (.inl rfl) _
theorem own_chg_opt {w w' : World} {base : Nat} {e : TypeId} {k n cap : Nat} {A : Option Addr} {cs : List Value} (h : w.ownsRow base e k (.slice A n cap) n cs) {S : Nat → Prop} (hc : Chg S w w') (hA : ∀ ad, A = some ad → ¬ S ad.block) : w'.ownsRow base e k (.slice A n cap) n cs :=
  own_keep h (fun i hi => by
    rw [ownBlock_slice] at hi
    cases A with
    | none => cases hi
    | some ad => cases hi; exact hc.block _ (own_lt h ad rfl) (hA ad rfl))

def refPost (xs : List Pk) (w : World) (e : Ending) (w' : World) : Prop := ∃ A c, e = .returned (.slice A xs.length c) ∧ w'.ownsRow 0 111 4 (.slice A xs.length c) xs.length (xs.flatMap Pk.cells) ∧ Chg Non w w' ∧ ∀ ad, A = some ad → w.heap.size ≤ ad.block

set_option maxHeartbeats 2000000 in
set_option maxRecDepth 100000 in
theorem refTo_any (to : Int) (w : World) (b : Nat) (boxes next : Int) (A : Option Addr) (cap : Nat) (l : List Pk) (h : RNetAt w b boxes next A cap l) (hl : l.length ≤ 1000000) :
    Calls Try.prog 68 #[.pointer (some ⟨b, 0, none⟩), .int .i64 to] w (refPost (l.filter (givT to)) w) := by
  have H := Lib.hid h
  clear h
  go_enter Try.func68, Try.ntmps68
  go_wp2
  go_loopw [5, 6] (fun s i wr => ∃ (k : Nat) (A3 : Option Addr) (c3 : Nat) (m : List Pk), k ≤ l.length ∧ i = .int .i64 k ∧ m = (l.take k).filter (givT to) ∧ s = .slice A3 m.length c3 ∧ wr.ownsRow 0 111 4 (.slice A3 m.length c3) m.length (m.flatMap Pk.cells) ∧ Chg Non w wr ∧ ∀ ad, A3 = some ad → w.heap.size ≤ ad.block) (fun s i _ => l.length - (intOf i).toNat)
  case atStart => exact ⟨0, none, 0, [], by omega, rfl, by simp, rfl, World.ownsRow_nil _ _ _ _, Chg.refl _ _, fun _ e => by cases e⟩
  case round =>
    obtain ⟨k, A3, c3, m, hk, rfl, hm, rfl, hown, hch, hA3⟩ := hrel
    have hml : m.length ≤ k := by rw [hm]; exact Nat.le_trans (List.length_filter_le _ _) (by simp; omega)
    have hN := H.out.non hch
    obtain ⟨⟨_, _, d2⟩, _⟩ := hN.blk.three
    by_cases hlt : k < l.length
    · have hs : l[k]? = some l[k] := List.getElem?_eq_getElem hlt
      have hts : l.take (k + 1) = l.take k ++ [l[k]] := by rw [List.take_add_one, hs]; rfl
      generalize l[k] = s at hs hts
      obtain ⟨ad, rfl, a0, a1, a2, a3⟩ := pk_at hN.read hs
      have HT := Lib.hid hts
      have HM := Lib.hid hm
      have hsz := hch.size
      clear hts hs hm hN
      cases hg : (s.dst == to)
      · go_wp2
        go_roundw
        case rel => exact ⟨k + 1, A3, c3, m, by omega, by go_num, by rw [HT.out, List.filter_append, List.filter_cons_of_neg (by simp [givT, hg]), List.filter_nil, List.append_nil]; exact HM.out, rfl, hown, hch, hA3⟩
        case measure => simp [intOf]; omega
      · go_wp2_with (at_builtin; refine ap_own rfl (.tmp 26) (.tmp 34) 57 rfl 111 (.agg #[.int .i64 0, .int .i64 0, .int .i64 0, .int .i64 0]) 4 32 Try.underlying57 (by kernel_rfl) rfl (by decide) (.slice A3 m.length c3) m.length (m.flatMap Pk.cells) rfl (own_alloc_opt hown _) ⟨wr.heap.size, 0, none⟩ 1 1 (Pk.cells s) rfl rfl ((Blk.new_at rfl).reads' _ rfl) (by simpa using Pk.one [s]) (by decide) (by unfold maxLen; omega) (by omega) ?_; intro g cap1 w1 hown1 hch1 hg1)
        go_roundw
        case rel =>
          refine ⟨k + 1, some ⟨g, 0, none⟩, cap1, m ++ [s], by omega, by go_num, ?_, by rw [List.length_append]; rfl, ?_, (hch.alloc _).trans hch1 (fun i hi => .inr ?_), fun ad' e => ?_⟩
          · rw [HT.out, List.filter_append, List.filter_cons_of_pos (by simp [givT, hg]), HM.out]; rfl
          · rw [List.length_append, List.flatMap_append]; simpa using hown1
          · rw [ownBlock_slice] at hi
            cases A3 with
            | none => cases hi
            | some a3 => cases hi; exact hA3 a3 rfl
          · cases e
            show w.heap.size ≤ g
            rcases hg1 with e | e
            · rw [ownBlock_slice] at e
              cases A3 with
              | none => cases e
              | some a3 => cases e; exact hA3 a3 rfl
            · simp at e; omega
        case measure => simp [intOf]; omega
    · obtain rfl : k = l.length := by omega
      rw [List.take_length] at hm
      subst hm
      go_wp2
      go_ret
      exact ⟨A3, c3, rfl, hown, hch, hA3⟩

/-- What the document's Take answers: the last one of a number. -/
def hitR (no : Int) (l : List Pk) : Pk × Int := l.foldl (fun o p => if (p.no == no) = true then (p, 0) else o) (Pk.zero, 14)
theorem hit_snoc (no : Int) (l : List Pk) (p : Pk) : hitR no (l ++ [p]) = if (p.no == no) = true then (p, 0) else hitR no l := by simp [hitR]
def leftR (no : Int) (l : List Pk) : List Pk := l.filter (fun p => !(p.no == no))

set_option maxHeartbeats 4000000 in
set_option maxRecDepth 100000 in
theorem refTake_any (no : Int) (w : World) (b : Nat) (boxes next : Int) (A : Option Addr) (cap : Nat) (l : List Pk) (h : RNetAt w b boxes next A cap l) (hl : l.length ≤ 1000000) :
    Calls Try.prog 61 #[.pointer (some ⟨b, 0, none⟩), .int .i64 no] w fun e w' => e = .returned (.tuple #[(hitR no l).1.val, .int .i64 (hitR no l).2]) ∧ ∃ A' cap', RNetAt w' b boxes next A' cap' (leftR no l) ∧ Chg (· = b) w w' ∧ ∀ ad, A' = some ad → w.heap.size ≤ ad.block := by
  have H := Lib.hid h
  have hbl := h.lt
  have ht4 := (Blk.new w #[.int .i64 0, .int .i64 0, .int .i64 0, .int .i64 0] 111).alloc (.cells #[.int .i64 0, .int .i64 0, .int .i64 0, .int .i64 0] 111)
  have ht7 := Blk.new_at (w := w.alloc (.cells #[.int .i64 0, .int .i64 0, .int .i64 0, .int .i64 0] 111)) (cs := #[.int .i64 0, .int .i64 0, .int .i64 0, .int .i64 0]) (t := 111) (g := w.heap.size + 1) (by simp)
  have hc0 := ((Chg.refl Non w).alloc (.cells #[.int .i64 0, .int .i64 0, .int .i64 0, .int .i64 0] 111)).alloc (.cells #[.int .i64 0, .int .i64 0, .int .i64 0, .int .i64 0] 111)
  clear h
  go_enter Try.func61, Try.ntmps61
  go_wp2
  go_loopw [6, 8, 9] (fun s f i wr => ∃ (k : Nat) (A3 : Option Addr) (c3 : Nat) (m : List Pk) (o : Pk) (z : Int), k ≤ l.length ∧ i = .int .i64 k ∧ m = leftR no (l.take k) ∧ (o, z) = hitR no (l.take k) ∧ f = .int .i64 z ∧ s = .slice A3 m.length c3 ∧ wr.ownsRow 0 111 4 (.slice A3 m.length c3) m.length (m.flatMap Pk.cells) ∧ Chg Non w wr ∧ (∀ ad, A3 = some ad → w.heap.size + 2 ≤ ad.block) ∧ Blk wr w.heap.size #[.int .i64 0, .int .i64 0, .int .i64 0, .int .i64 0] 111 ∧ Blk wr (w.heap.size + 1) #[.int .i64 o.no, .int .i64 o.src, .int .i64 o.dst, .int .i64 o.x] 111 ∧ w.heap.size + 2 ≤ wr.heap.size) (fun s f i _ => l.length - (intOf i).toNat)
  case atStart => exact ⟨0, none, 0, [], Pk.zero, 14, by omega, rfl, by simp [leftR], rfl, rfl, rfl, World.ownsRow_nil _ _ _ _, hc0, (fun _ e => by cases e), ht4, ht7, by simp⟩
  case round =>
    obtain ⟨k, A3, c3, m, o, z, hk, rfl, hm, ho, rfl, rfl, hown, hch, hA3, hB4, hB7, hsz⟩ := hrel
    have hml : m.length ≤ k := by rw [hm]; exact Nat.le_trans (List.length_filter_le _ _) (by simp; omega)
    have hN := H.out.non hch
    obtain ⟨⟨_, _, d2⟩, _, _, f2⟩ := hN.blk.three
    obtain ⟨⟨t0, t1, t2, t3⟩, u0, u1, u2, u3⟩ := hB7.four
    by_cases hlt : k < l.length
    · have hs : l[k]? = some l[k] := List.getElem?_eq_getElem hlt
      have hts : l.take (k + 1) = l.take k ++ [l[k]] := by rw [List.take_add_one, hs]; rfl
      generalize l[k] = s at hs hts
      obtain ⟨ad, rfl, a0, a1, a2, a3⟩ := pk_at hN.read hs
      have HT := Lib.hid hts
      have HM := Lib.hid hm
      have HO := Lib.hid ho
      clear hts hs hm hN ho
      cases hg : (s.no == no)
      · go_wp2_with (at_builtin; refine ap_own rfl (.tmp 37) (.tmp 45) 57 rfl 111 (.agg #[.int .i64 0, .int .i64 0, .int .i64 0, .int .i64 0]) 4 32 Try.underlying57 (by kernel_rfl) rfl (by decide) (.slice A3 m.length c3) m.length (m.flatMap Pk.cells) rfl (own_alloc_opt hown _) ⟨wr.heap.size, 0, none⟩ 1 1 (Pk.cells s) rfl rfl ((Blk.new_at rfl).reads' _ rfl) (by simpa using Pk.one [s]) (by decide) (by unfold maxLen; omega) (by omega) ?_; intro g cap1 w1 hown1 hch1 hg1)
        go_roundw
        case rel =>
          have hnA : ∀ i, (Value.slice A3 m.length c3).ownBlock = some i → w.heap.size + 2 ≤ i := fun i hi => by
            rw [ownBlock_slice] at hi
            cases A3 with
            | none => cases hi
            | some a3 => cases hi; exact hA3 a3 rfl
          refine ⟨k + 1, some ⟨g, 0, none⟩, cap1, m ++ [s], o, z, by omega, by go_num, ?_, ?_, rfl, by rw [List.length_append]; rfl, ?_, (hch.alloc _).trans hch1 (fun i hi => .inr (by have := hnA i hi; omega)), fun ad' e => ?_, (hB4.alloc _).chg hch1 (fun e => by have := hnA _ e; omega), (hB7.alloc _).chg hch1 (fun e => by have := hnA _ e; omega), by have := hch1.size; simp at this; omega⟩
          · rw [HT.out, leftR, List.filter_append, List.filter_cons_of_pos (by simp [hg]), HM.out]; rfl
          · rw [HT.out, hit_snoc, hg, HO.out]; rfl
          · rw [List.length_append, List.flatMap_append]; simpa using hown1
          · cases e
            show w.heap.size + 2 ≤ g
            rcases hg1 with e | e
            · exact hnA _ e
            · simp at e; omega
        case measure => simp [intOf]; omega
      · go_wp2
        go_roundw
        case rel =>
          have hS := Chg.set4 wr (w.heap.size + 1) (.int .i64 s.no) (.int .i64 s.src) (.int .i64 s.dst) (.int .i64 s.x)
          refine ⟨k + 1, A3, c3, m, s, 0, by omega, by go_num, ?_, ?_, rfl, rfl, own_chg_opt hown hS (fun a3 e => by have := hA3 a3 e; omega), hch.trans hS (fun i hi => .inr (by have hi' : i = w.heap.size + 1 := hi; omega)), hA3, hB4.chg hS (by omega), hB7.set4 _ _ _ _, by have := hS.size; omega⟩
          · rw [HT.out, leftR, List.filter_append, List.filter_cons_of_neg (by simp [hg]), List.filter_nil, List.append_nil]; exact HM.out
          · rw [HT.out, hit_snoc, hg]; rfl
        case measure => simp [intOf]; omega
    · obtain rfl : k = l.length := by omega
      rw [List.take_length] at hm ho
      have hnb : w.heap.size + 1 ≠ b := by omega
      have hnb' : w.heap.size ≠ b := by omega
      have hB7' := hB7.far (p := ⟨b, 2, none⟩) hnb (.slice A3 m.length c3)
      have hB4' := hB4.far (p := ⟨b, 2, none⟩) hnb' (.slice A3 m.length c3)
      obtain ⟨⟨x0, x1, x2, x3⟩, _⟩ := hB7'.four
      obtain ⟨⟨y0, y1, y2, y3⟩, y4, y5, y6, y7⟩ := hB4'.four
      have HO := Lib.hid ho
      have HM := Lib.hid hm
      have hR : RNetAt (wr.setCell ⟨b, 2, none⟩ (.slice A3 m.length c3)) b boxes next A3 c3 m := ⟨by simpa using hN.blk.set 2 (.slice A3 m.length c3), own_far_opt hown (fun ad e => by have := hA3 ad e; show ad.block ≠ b; omega) _, fun ad e => by have := hA3 ad e; omega⟩
      have HR := Lib.hid hR
      clear ho hm hR hN
      go_wp2
      refine bodyPost_ret (v := .tuple #[o.val, .int .i64 z]) (by simp [results, Try.results61, go_sem, Pk.val, y0, y1, y2, y3]) rfl ⟨by rw [← HO.out], A3, c3, ?_, ?_, fun ad e => by have := hA3 ad e; omega⟩
      · rw [← HM.out]
        exact HR.out.chg (Chg.set4 _ w.heap.size _ _ _ _) (by omega) (fun ad e => by have := hA3 ad e; omega)
      · exact (((hch.mono (S1 := (· = b)) (fun _ _ x => x.elim)).setCell (.inl rfl) _).trans (Chg.set4 _ w.heap.size _ _ _ _) (fun i hi => .inr (by have hi' : i = w.heap.size := hi; omega)))
end Go.Proofs.Ytggbgfdgpkbmhaa
