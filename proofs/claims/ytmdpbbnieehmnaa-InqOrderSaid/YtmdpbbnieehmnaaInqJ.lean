/- inq: New, Has, Len. -/
import Derived.Test.YtmdpbbnieehmnaaInqI
namespace Go.Proofs.Ytmdpbbnieehmnaa
open Go.RowKit
set_option linter.unusedSimpArgs false
set_option linter.unusedVariables false

def many (e : Ev) (l : List Ev) : Nat := (l.filter (fun x => decide (x = e))).length
theorem many_snoc (e : Ev) (l : List Ev) (x : Ev) : many e (l ++ [x]) = many e l + if x = e then 1 else 0 := by
  unfold many
  rw [List.filter_append, List.length_append]
  by_cases h : x = e <;> simp [h]
theorem many_le (e : Ev) (l : List Ev) : many e l ≤ l.length := List.length_filter_le _ _

set_option maxHeartbeats 4000000 in
set_option maxRecDepth 100000 in
theorem inqNew_any (w : World) : Calls Try.prog 32 #[] w fun en w' => en = .returned (.pointer (some ⟨w.heap.size, 0, none⟩)) ∧ QAt w' w.heap.size (fun _ => []) (fun _ => none) (fun _ => 0) ∧ Chg Non w w' := by
  go_enter Try.func32, Try.ntmps32
  go_wp2
  go_ret
  exact ⟨rfl, ⟨Blk.new w _ _, (fun b => World.ownsRow_nil _ _ _ _), (fun b ad e => by cases e), (fun b ad ad' e => by cases e), (fun b s t h1 h2 => absurd h2 (Nat.not_lt_zero _))⟩, (Chg.refl Non w).alloc _⟩

set_option maxHeartbeats 8000000 in
set_option maxRecDepth 100000 in
theorem rowOften_any (q o : Nat) (A : Option Addr) (cap : Nat) (l : List Ev) (e : Ev) (w : World) (h : SlRead Ev.cells 7 w A l.length cap l) (hc : w.cell? ⟨q, o, none⟩ = some (.slice A l.length cap)) (hn : l.length ≤ 900000) :
    Calls Try.prog 61 #[.pointer (some ⟨q, o, none⟩), e.val] w fun en w' => en = .returned (.int .i64 (many e l : Nat)) ∧ Chg Non w w' := by
  have H := Lib.hid h
  have HB0 := Lib.hid (Blk.new w #[.int .i64 e.at_, .int .i64 e.src, .int .i64 e.sent, .int .i64 e.no, .int .i64 e.dst, .int .i64 e.kind, .int .i64 e.data] 31)
  have hcw := ((Chg.refl Non w).alloc (.cells #[.int .i64 e.at_, .int .i64 e.src, .int .i64 e.sent, .int .i64 e.no, .int .i64 e.dst, .int .i64 e.kind, .int .i64 e.data] 31)).cell hc id
  have HC0 := Lib.hid ((Chg.refl Non w).alloc (.cells #[.int .i64 e.at_, .int .i64 e.src, .int .i64 e.sent, .int .i64 e.no, .int .i64 e.dst, .int .i64 e.kind, .int .i64 e.data] 31))
  clear h
  unfold Ev.val
  go_enter Try.func61, Try.ntmps61
  go_wp2_with fail
  go_loopw [5, 13] (fun a i wr => ∃ k : Nat, k ≤ l.length ∧ a = .int .i64 (many e (l.take k) : Nat) ∧ i = .int .i64 k ∧ Hid (Blk wr w.heap.size #[.int .i64 e.at_, .int .i64 e.src, .int .i64 e.sent, .int .i64 e.no, .int .i64 e.dst, .int .i64 e.kind, .int .i64 e.data] 31 ∧ Chg Non w wr)) (fun _ i _ => l.length - (intOf i).toNat)
  case atStart => exact ⟨0, by omega, rfl, rfl, HB0.out, HC0.out⟩
  case round =>
    obtain ⟨k, hk, rfl, rfl, hI⟩ := hrel
    by_cases hlt : k < l.length
    · have hs : l[k]? = some (l[k]'(by omega)) := List.getElem?_eq_getElem (by omega)
      generalize l[k]'(by omega) = x at hs
      obtain ⟨ad, rfl, a0, a1, a2, a3, a4, a5, a6⟩ := ev_at (H.out.non hI.out.2) hs
      have tx : many e (l.take (k + 1)) = many e (l.take k) + if x = e then 1 else 0 := by rw [List.take_add_one, hs]; exact many_snoc _ _ _
      have hul : many e (l.take k) ≤ 900000 := by have := many_le e (l.take k); rw [List.length_take] at this; omega
      have hbx := hI.out.1.alloc (.cells #[.int .i64 x.at_, .int .i64 x.src, .int .i64 x.sent, .int .i64 x.no, .int .i64 x.dst, .int .i64 x.kind, .int .i64 x.data] 31)
      obtain ⟨b0, b1, b2, b3, b4, b5, b6⟩ := hbx.seven
      have q1 := ev_eq x e
      have HCN := Lib.hid (And.intro hbx (hI.out.2.alloc (.cells #[.int .i64 x.at_, .int .i64 x.src, .int .i64 x.sent, .int .i64 x.no, .int .i64 x.dst, .int .i64 x.kind, .int .i64 x.data] 31)))
      generalize many e (l.take k) = u at *
      clear hs hI hbx
      by_cases h1 : x = e
      · rw [if_pos h1] at tx
        rw [decide_eq_true h1] at q1
        have TX := Lib.hid tx
        clear tx h1
        go_wp2
        go_roundw
        case rel => exact ⟨k + 1, by omega, by rw [TX.out]; rfl, by go_num, HCN.out⟩
        case measure => simp [intOf]; omega
      · rw [if_neg h1] at tx
        rw [decide_eq_false h1] at q1
        have TX := Lib.hid tx
        clear tx h1
        go_wp2
        go_roundw
        case rel => exact ⟨k + 1, by omega, by rw [TX.out]; rfl, by go_num, HCN.out⟩
        case measure => simp [intOf]; omega
    · obtain rfl : k = l.length := by omega
      rw [List.take_length]
      go_wp2
      go_ret
      exact ⟨rfl, hI.out.2⟩
theorem qOften_any (b : Bool) (q : Nat) (S : Bool → List Ev) (A : Bool → Option Addr) (c : Bool → Nat) (e : Ev) (w : World) (h : QAt w q S A c) (hn : (S b).length ≤ 900000) :
    Calls Try.prog 61 #[.pointer (some ⟨q, off b, none⟩), e.val] w fun en w' => en = .returned (.int .i64 (many e (S b) : Nat)) ∧ Chg Non w w' :=
  rowOften_any q (off b) (A b) (c b) (S b) e w (own_read_opt Ev.len (by decide) (h.own b)) (h.cell b) hn

set_option maxHeartbeats 8000000 in
set_option maxRecDepth 100000 in
theorem inqHas_any (q : Nat) (S : Bool → List Ev) (A : Bool → Option Addr) (c : Bool → Nat) (e : Ev) (w : World) (h : QAt w q S A c) (hn : ∀ b, (S b).length ≤ 900000) :
    Calls Try.prog 34 #[.pointer (some ⟨q, 0, none⟩), e.val] w fun en w' => en = .returned (.int .i64 ((many e (S false) : Int) - (many e (S true) : Int))) ∧ Chg Non w w' := by
  have H := Lib.hid h
  have hB0 := Blk.new w #[.int .i64 e.at_, .int .i64 e.src, .int .i64 e.sent, .int .i64 e.no, .int .i64 e.dst, .int .i64 e.kind, .int .i64 e.data] 31
  obtain ⟨b0, b1, b2, b3, b4, b5, b6⟩ := hB0.seven
  have hkeep : ∀ W, Chg Non (w.alloc (.cells #[.int .i64 e.at_, .int .i64 e.src, .int .i64 e.sent, .int .i64 e.no, .int .i64 e.dst, .int .i64 e.kind, .int .i64 e.data] 31)) W → (W.cell? ⟨w.heap.size, 0, none⟩ = some (.int .i64 e.at_) ∧ W.cell? ⟨w.heap.size, 1, none⟩ = some (.int .i64 e.src) ∧ W.cell? ⟨w.heap.size, 2, none⟩ = some (.int .i64 e.sent) ∧ W.cell? ⟨w.heap.size, 3, none⟩ = some (.int .i64 e.no) ∧ W.cell? ⟨w.heap.size, 4, none⟩ = some (.int .i64 e.dst) ∧ W.cell? ⟨w.heap.size, 5, none⟩ = some (.int .i64 e.kind) ∧ W.cell? ⟨w.heap.size, 6, none⟩ = some (.int .i64 e.data)) := fun W hW => (hB0.chg hW id).seven
  have HK := Lib.hid hkeep
  have h1 := fun (W : World) (hW : Chg Non (w.alloc (.cells #[.int .i64 e.at_, .int .i64 e.src, .int .i64 e.sent, .int .i64 e.no, .int .i64 e.dst, .int .i64 e.kind, .int .i64 e.data] 31)) W) => qOften_any false q S A c e W (H.out.non (((Chg.refl Non w).alloc _).trans hW (fun _ x => x.elim))) (hn false)
  have h2 := fun (W : World) (hW : Chg Non (w.alloc (.cells #[.int .i64 e.at_, .int .i64 e.src, .int .i64 e.sent, .int .i64 e.no, .int .i64 e.dst, .int .i64 e.kind, .int .i64 e.data] 31)) W) => qOften_any true q S A c e W (H.out.non (((Chg.refl Non w).alloc _).trans hW (fun _ x => x.elim))) (hn true)
  unfold Ev.val at h1 h2
  simp only [off, Bool.false_eq_true, if_false, if_true] at h1 h2
  have hu : many e (S false) ≤ 900000 := Nat.le_trans (many_le _ _) (hn false)
  have hv : many e (S true) ≤ 900000 := Nat.le_trans (many_le _ _) (hn true)
  generalize many e (S false) = u at *
  generalize many e (S true) = v at *
  have hG : ∀ (o : Nat) (W : World), (o = 0 ∨ o = 1) → Chg Non (w.alloc (.cells #[.int .i64 e.at_, .int .i64 e.src, .int .i64 e.sent, .int .i64 e.no, .int .i64 e.dst, .int .i64 e.kind, .int .i64 e.data] 31)) W → Calls Try.prog 61 #[.pointer (some ⟨q, o, none⟩), .agg #[.int .i64 e.at_, .int .i64 e.src, .int .i64 e.sent, .int .i64 e.no, .int .i64 e.dst, .int .i64 e.kind, .int .i64 e.data]] W fun en w' => en = .returned (.int .i64 ((if o = 0 then u else v : Nat) : Int)) ∧ Chg Non W w' := fun o W ho hW => by
    rcases ho with rfl | rfl
    · exact h1 W hW
    · exact h2 W hW
  have HG := Lib.hid hG
  have hwr : IntKind.i64.wrap ((u : Int) - (v : Int)) = (u : Int) - (v : Int) := by rw [IntKind.wrap_i64]; omega
  clear h hB0 hkeep h1 h2 hn hG
  unfold Ev.val
  go_enter Try.func34, Try.ntmps34
  go_wp2_with fail
  go_region_held3 (fun w' => w'.cell? ⟨w.heap.size, 0, none⟩ = some (.int .i64 e.at_) ∧ w'.cell? ⟨w.heap.size, 1, none⟩ = some (.int .i64 e.src) ∧ w'.cell? ⟨w.heap.size, 2, none⟩ = some (.int .i64 e.sent) ∧ w'.cell? ⟨w.heap.size, 3, none⟩ = some (.int .i64 e.no) ∧ w'.cell? ⟨w.heap.size, 4, none⟩ = some (.int .i64 e.dst) ∧ w'.cell? ⟨w.heap.size, 5, none⟩ = some (.int .i64 e.kind) ∧ w'.cell? ⟨w.heap.size, 6, none⟩ = some (.int .i64 e.data)) (first | exact HK.out _ (Chg.refl Non _) | exact HK.out _ ((Chg.refl Non _).drew) | exact HK.out _ hcx) (first | (go_at_call 61; refine (HG.out _ _ (by decide) (by first | exact hcx | exact (Chg.refl Non _).drew)).mono ?_; rintro en w2 ⟨rfl, hc2⟩; have hcx : Chg Non (w.alloc (.cells #[.int .i64 e.at_, .int .i64 e.src, .int .i64 e.sent, .int .i64 e.no, .int .i64 e.dst, .int .i64 e.kind, .int .i64 e.data] 31)) w2 := (by first | exact hcx.trans hc2 (fun _ x => x.elim) | exact (Chg.refl Non _).drew.trans hc2 (fun _ x => x.elim))))
  all_goals
    have HF := Lib.hid hcx
    clear hcx hc2
    go_wp2
    go_ret
    exact ⟨rfl, ((Chg.refl Non w).alloc _).trans HF.out (fun _ x => x.elim)⟩
set_option maxHeartbeats 8000000 in
set_option maxRecDepth 100000 in
theorem inqLen_any (q : Nat) (S : Bool → List Ev) (A : Bool → Option Addr) (c : Bool → Nat) (w : World) (h : QAt w q S A c) (hn : ∀ b, (S b).length ≤ 900000) :
    Calls Try.prog 35 #[.pointer (some ⟨q, 0, none⟩)] w fun en w' => en = .returned (.tuple #[.int .i64 (S false).length, .int .i64 (S true).length]) ∧ Chg Non w w' := by
  have x0 : w.cell? ⟨q, 0, none⟩ = some (.slice (A false) (S false).length (c false)) := h.cell false
  have x1 : w.cell? ⟨q, 1, none⟩ = some (.slice (A true) (S true).length (c true)) := h.cell true
  clear h
  go_enter Try.func35, Try.ntmps35
  go_wp2_with fail
  go_quiet (fail)
  go_wp2
  exact bodyPost_ret (v := .tuple #[.int .i64 (S false).length, .int .i64 (S true).length]) (by simp [results, Try.results35, go_sem]) rfl ⟨rfl, (Chg.refl Non w).drewN _⟩
end Go.Proofs.Ytmdpbbnieehmnaa
