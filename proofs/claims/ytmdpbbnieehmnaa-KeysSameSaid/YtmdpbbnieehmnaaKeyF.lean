/- lists of messages, and of events, that are the same. -/
import Derived.Test.YtmdpbbnieehmnaaKeyD
namespace Go.Proofs.Ytmdpbbnieehmnaa
open Go.RowKit
set_option linter.unusedSimpArgs false
set_option linter.unusedVariables false
set_option maxRecDepth 100000

theorem mg_ne (a : Mg) (w : World) : (binOp .neq 63 (.agg #[.int .i64 a.ev.at_, .int .i64 a.ev.src, .int .i64 a.ev.sent, .int .i64 a.ev.no, .int .i64 a.ev.dst, .int .i64 a.ev.kind, .int .i64 a.ev.data, .bool a.anti]) (.agg #[.int .i64 a.ev.at_, .int .i64 a.ev.src, .int .i64 a.ev.sent, .int .i64 a.ev.no, .int .i64 a.ev.dst, .int .i64 a.ev.kind, .int .i64 a.ev.data, .bool a.anti])).run Try.prog w = .ok (.bool false) w := by
  have ht : Try.prog.underlying 63 = some (.struct (Try.prog.fieldsOf 63)) := by kernel_rfl
  have hp : Try.prog.stoodInHeld 63 = false := by kernel_rfl
  have hk : Try.prog.plainKey (4 : Nat) = true := by kernel_rfl
  have q0 : ∀ w, (part (31 : Nat) #[.int .i64 a.ev.at_, .int .i64 a.ev.src, .int .i64 a.ev.sent, .int .i64 a.ev.no, .int .i64 a.ev.dst, .int .i64 a.ev.kind, .int .i64 a.ev.data, .bool a.anti] 0).run Try.prog w = .ok a.ev.val w := fun w => by kernel_rfl
  have q7 := fun (w : World) => run_part_plain (P := Try.prog) w hk (xs := #[.int .i64 a.ev.at_, .int .i64 a.ev.src, .int .i64 a.ev.sent, .int .i64 a.ev.no, .int .i64 a.ev.dst, .int .i64 a.ev.kind, .int .i64 a.ev.data, .bool a.anti]) (off := 7) rfl
  have he := fun (w : World) => ev_eqB 9996 a.ev a.ev w
  rw [decide_eq_true rfl] at he
  have hb := fun (b : Bool) (w : World) => run_equalIn_bool' (P := Try.prog) w 9998 (4 : Nat) b b Try.underlying4
  rw [run_neq_struct]
  have e1 : (Op.equalIn (9999 + 1) 63 (.agg #[.int .i64 a.ev.at_, .int .i64 a.ev.src, .int .i64 a.ev.sent, .int .i64 a.ev.no, .int .i64 a.ev.dst, .int .i64 a.ev.kind, .int .i64 a.ev.data, .bool a.anti]) (.agg #[.int .i64 a.ev.at_, .int .i64 a.ev.src, .int .i64 a.ev.sent, .int .i64 a.ev.no, .int .i64 a.ev.dst, .int .i64 a.ev.kind, .int .i64 a.ev.data, .bool a.anti])).run Try.prog w = .ok true w := by
    rw [run_equalIn_agg w 9999 63 _ _ ht hp]
    simp only [Program.fieldsOf, Try.underlying63]
    simp [Op.eqFields, q0, q7, he, hb]
  have e2 : (Op.equalIn 10000 63 (.agg #[.int .i64 a.ev.at_, .int .i64 a.ev.src, .int .i64 a.ev.sent, .int .i64 a.ev.no, .int .i64 a.ev.dst, .int .i64 a.ev.kind, .int .i64 a.ev.data, .bool a.anti]) (.agg #[.int .i64 a.ev.at_, .int .i64 a.ev.src, .int .i64 a.ev.sent, .int .i64 a.ev.no, .int .i64 a.ev.dst, .int .i64 a.ev.kind, .int .i64 a.ev.data, .bool a.anti])).run Try.prog w = .ok true w := e1
  rw [e2]
  rfl

set_option maxHeartbeats 4000000 in
theorem messages02_eq (A B : Option Addr) (n c c' : Nat) (l : List Mg) (w : World) (h : SlRead Mg.cells 8 w A n c l) (h' : SlRead Mg.cells 8 w B n c' l) (hn : n ≤ 1000000) :
    Calls Try.prog 44 #[.slice A n c, .slice B n c'] w fun e w' => e = .returned (.bool true) ∧ Chg Non w w' := by
  have hlen := h.len
  subst hlen
  have HL := Lib.hid h
  have HL' := Lib.hid h'
  clear h h'
  go_enter Try.func44, Try.ntmps44
  go_wp2_with fail
  go_loopw [5] (fun i wr => ∃ k : Nat, k ≤ l.length ∧ i = .int .i64 k ∧ Hid (Chg Non w wr)) (fun i _ => l.length - (intOf i).toNat)
  case atStart => exact ⟨0, by omega, rfl, Chg.refl _ _⟩
  case round =>
    obtain ⟨k, hk, rfl, hI⟩ := hrel
    by_cases hlt : k < l.length
    · have hs : l[k]? = some (l[k]'(by omega)) := List.getElem?_eq_getElem (by omega)
      generalize l[k]'(by omega) = m at hs
      obtain ⟨ad, rfl, d0, d1, d2, d3, d4, d5, d6, d7⟩ := mg_at (HL.out.non hI.out) hs
      obtain ⟨ad', rfl, e0, e1, e2, e3, e4, e5, e6, e7⟩ := mg_at (HL'.out.non hI.out) hs
      have hne := mg_ne m
      clear hs
      go_wp2_with fail
      go_quiet (fail)
      go_wp2
      go_roundw
      case rel => exact ⟨k + 1, by omega, by go_num, hI.out.drewN _⟩
      case measure => simp [intOf]; omega
    · obtain rfl : k = l.length := by omega
      go_wp2
      go_ret
      exact ⟨rfl, hI.out⟩
set_option maxHeartbeats 4000000 in
theorem events02_eq (A B : Option Addr) (n c c' : Nat) (l : List Ev) (w : World) (h : SlRead Ev.cells 7 w A n c l) (h' : SlRead Ev.cells 7 w B n c' l) (hn : n ≤ 1000000) :
    Calls Try.prog 17 #[.slice A n c, .slice B n c'] w fun e w' => e = .returned (.bool true) ∧ Chg Non w w' := by
  have hlen := h.len
  subst hlen
  have HL := Lib.hid h
  have HL' := Lib.hid h'
  clear h h'
  go_enter Try.func17, Try.ntmps17
  go_wp2_with fail
  go_loopw [5] (fun i wr => ∃ k : Nat, k ≤ l.length ∧ i = .int .i64 k ∧ Hid (Chg Non w wr)) (fun i _ => l.length - (intOf i).toNat)
  case atStart => exact ⟨0, by omega, rfl, Chg.refl _ _⟩
  case round =>
    obtain ⟨k, hk, rfl, hI⟩ := hrel
    by_cases hlt : k < l.length
    · have hs : l[k]? = some (l[k]'(by omega)) := List.getElem?_eq_getElem (by omega)
      generalize l[k]'(by omega) = m at hs
      obtain ⟨ad, rfl, d0, d1, d2, d3, d4, d5, d6⟩ := ev_at (HL.out.non hI.out) hs
      obtain ⟨ad', rfl, e0, e1, e2, e3, e4, e5, e6⟩ := ev_at (HL'.out.non hI.out) hs
      have hne := ev_ne m m
      rw [decide_eq_true rfl, Bool.not_true] at hne
      clear hs
      go_wp2_with fail
      go_quiet (fail)
      go_wp2
      go_roundw
      case rel => exact ⟨k + 1, by omega, by go_num, hI.out.drewN _⟩
      case measure => simp [intOf]; omega
    · obtain rfl : k = l.length := by omega
      go_wp2
      go_ret
      exact ⟨rfl, hI.out⟩
end Go.Proofs.Ytmdpbbnieehmnaa
