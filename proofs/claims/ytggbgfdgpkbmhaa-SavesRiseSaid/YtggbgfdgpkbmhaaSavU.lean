/- saves: SavesRise. -/
import Derived.Test.YtggbgfdgpkbmhaaSavT
import Derived.Test.YtggbgfdgpkbmhaaSavH
namespace Go.Proofs.Ytggbgfdgpkbmhaa
open Go.RowKit Go.Shelf
set_option linter.unusedSimpArgs false
set_option linter.unusedVariables false
attribute [local go_sem] Oper.semAt_some

/-- A call that saves just this. -/
def madeBy (s : SvI) (o : Op3) : Bool := (o.ask == 0) && ((o.at_ == s.at_) && (o.x == s.x))
def isFirst (s : SvI) : Bool := (s.at_ == -1) && (s.x == 0)
def isBy (s : SvI) (l : List Op3) (b : Bool) : Bool := b || l.any (madeBy s)
theorem isBy_snoc (s : SvI) (l : List Op3) (b : Bool) {k : Nat} {o : Op3} (ho : l[k]? = some o) : isBy s (l.take (k + 1)) b = (isBy s (l.take k) b || madeBy s o) := by
  unfold isBy
  rw [List.take_add_one, ho]
  simp [List.any_append, Bool.or_assoc]
def Good (l m : List Op3) (s : SvI) : Prop := -1 ≤ s.at_ ∧ (isFirst s = true ∨ (∃ o ∈ l, madeBy s o = true) ∨ ∃ o ∈ m, madeBy s o = true)
theorem Good.is {l m : List Op3} {s : SvI} (h : Good l m s) : isBy s m (isBy s l (isFirst s)) = true := by
  obtain ⟨_, h⟩ := h
  unfold isBy
  rcases h with h | ⟨o, ho, h⟩ | ⟨o, ho, h⟩
  · simp [h]
  · simp only [Bool.or_eq_true, List.any_eq_true]; exact .inl (.inr ⟨o, ho, h⟩)
  · simp only [Bool.or_eq_true, List.any_eq_true]; exact .inr ⟨o, ho, h⟩
theorem Good.mono {l m l' m' : List Op3} {s : SvI} (h : Good l m s) (h1 : ∀ o ∈ l, o ∈ l') (h2 : ∀ o ∈ m, o ∈ m') : Good l' m' s := by
  obtain ⟨h0, h⟩ := h
  refine ⟨h0, ?_⟩
  rcases h with h | ⟨o, ho, h⟩ | ⟨o, ho, h⟩
  · exact .inl h
  · exact .inr (.inl ⟨o, h1 o ho, h⟩)
  · exact .inr (.inr ⟨o, h2 o ho, h⟩)
theorem opI_mem {l : List SvI} (hp : 0 < l.length) (h0 : ∀ s ∈ l, -1 ≤ s.at_) (ask at_ x : Int) {s : SvI} (hs : s ∈ opI ask at_ x l) : s ∈ l ∨ (ask = 0 ∧ s.at_ = at_ ∧ s.x = x ∧ -1 ≤ s.at_) := by
  unfold opI at hs
  split at hs
  · rename_i ha
    unfold saveL at hs
    split at hs
    · rename_i hb
      rw [List.mem_append] at hs
      rcases hs with hs | hs
      · exact .inl hs
      · simp at hs; subst hs
        refine .inr ⟨ha, rfl, rfl, ?_⟩
        simp [saveB] at hb
        have h1 := bel_lt at_ l 0 l[0] (List.getElem?_eq_getElem hp) (by omega)
        have h2 := h0 l[0] (List.getElem_mem hp)
        show -1 ≤ at_
        omega
    · exact .inl hs
  · split at hs
    · exact .inl (List.mem_of_mem_take hs)
    · split at hs
      · exact .inl (List.mem_of_mem_drop hs)
      · exact .inl hs
theorem good_op {l m : List Op3} {lst : List SvI} (hp : 0 < lst.length) (h : ∀ s ∈ lst, Good l m s) (o : Op3) {l' m' : List Op3} (h1 : ∀ o ∈ l, o ∈ l') (h2 : ∀ o ∈ m, o ∈ m') (ho : o ∈ l' ∨ o ∈ m') : ∀ s ∈ opI o.ask o.at_ o.x lst, Good l' m' s := by
  intro s hs
  rcases opI_mem hp (fun s hs => (h s hs).1) _ _ _ hs with hs | ⟨e1, e2, e3, e4⟩
  · exact (h s hs).mono h1 h2
  · have hm : madeBy s o = true := by simp [madeBy, e1, e2, e3]
    refine ⟨e4, .inr ?_⟩
    rcases ho with ho | ho
    · exact .inl ⟨o, ho, hm⟩
    · exact .inr ⟨o, ho, hm⟩
def lastAt (pre : List SvI) : Int := (pre.getLast?.map (·.at_)).getD (-2)
theorem lastAt_snoc (pre : List SvI) (s : SvI) : lastAt (pre ++ [s]) = s.at_ := by simp [lastAt]
theorem lastAt_lt {lst pre : List SvI} {s : SvI} (hr : Rising lst) (h0 : ∀ s ∈ lst, -1 ≤ s.at_) (hp : pre ++ [s] <+: lst) : lastAt pre < s.at_ := by
  obtain ⟨z, hz⟩ := hp
  have hs : lst[pre.length]? = some s := by rw [← hz]; simp
  unfold lastAt
  rcases List.eq_nil_or_concat pre with rfl | ⟨q, y, rfl⟩
  · have := h0 s (List.mem_of_getElem? hs)
    simp; omega
  · have hy : lst[q.length]? = some y := by rw [← hz]; simp
    have := hr q.length (q.concat y).length y s (by simp) hy hs
    simpa using this

theorem doesNow2 (ask at_ x : Int) {w0 w w1 : World} {b g : Nat} {l : List SvI} {k p ga gx : Nat} {l2 : List SvI} (h : RowNow w0 w b g l k) (hk : k ≤ 1000) (hr : RefNow w w1 p ga gx l2) :
    Calls Try.prog 16 #[.pointer (some ⟨b, 0, none⟩), .pointer (some ⟨p, 0, none⟩), opV ask at_ x] w1 fun e w' => ∃ bo g', e = .returned (.bool bo) ∧ RowNow w0 w' b g' (opI ask at_ x l) (k + 1) ∧ Chg (fun i => i = b ∨ i = g) w w' ∧ (g' = g ∨ w.heap.size ≤ g') := by
  have hlb := h.ltb
  have hlg := h.ltg
  have hp := hr.lp
  have ha := hr.la
  have hx := hr.lx
  have h1 := h.non hr.chg
  have hll := h.len
  have hl2 := hr.len
  refine (does_any ask at_ x w1 b g l p ga gx l2 ⟨h1.row, hr.ref, by omega, by omega, by omega, by omega, by omega, by omega⟩ h.rise hr.rise (by omega) (by omega)).mono ?_
  rintro e w2 ⟨bo, g', ga', gx', rfl, _, hb, hch, hg, _, _⟩
  have s1 := hr.chg.size
  have s0 := h.chg.size
  have q1 := h.lb
  have q2 := h.lg
  have hol := opI_len l ask at_ x
  refine ⟨bo, g', rfl, ⟨hb.row, q1, by omega, opI_rising h.rise ask at_ x, by omega, h1.chg.trans hch (fun i hi => .inr (by omega))⟩, ?_, by omega⟩
  exact (hr.chg.mono (fun _ _ x => x.elim)).trans hch (fun i hi => by omega)
end Go.Proofs.Ytggbgfdgpkbmhaa
