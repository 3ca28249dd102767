/- mail: AppendSeq, Collect; Pick. -/
import Derived.Test.YtggbgfdgpkbmhaaMaiHT
namespace Go.Proofs.Ytggbgfdgpkbmhaa
open Go.RowKit Go.Shelf
set_option linter.unusedSimpArgs false
set_option linter.unusedVariables false
attribute [local go_sem] Oper.semAt_some

theorem own_alloc_opt {w : World} {base : Nat} {e : TypeId} {k n cap : Nat} {A : Option Addr} {cs : List Value} (h : w.ownsRow base e k (.slice A n cap) n cs) (o : Obj) : (w.alloc o).ownsRow base e k (.slice A n cap) n cs :=
  own_keep h (fun i hi => by
    rw [ownBlock_slice] at hi
    cases A with
    | none => cases hi
    | some ad => cases hi; exact Below.heap_alloc _ _ _ (own_lt h ad rfl))
def AppInv (w : World) (pre : List Pk) (W : World) : Prop :=
  (∃ A c, Blk W w.heap.size #[.slice A pre.length c] 98 ∧ W.ownsRow 0 67 4 (.slice A pre.length c) pre.length (pre.flatMap Pk.cells) ∧ ∀ ad, A = some ad → w.heap.size + 1 ≤ ad.block) ∧ Chg Non w W ∧ w.heap.size + 1 ≤ W.heap.size

def collPost (xs : List Pk) (w : World) (e : Ending) (w' : World) : Prop := ∃ A c, e = .returned (.slice A xs.length c) ∧ w'.ownsRow 0 67 4 (.slice A xs.length c) xs.length (xs.flatMap Pk.cells) ∧ Chg Non w w' ∧ ∀ ad, A = some ad → w.heap.size ≤ ad.block

/-- A round's variable, in a box of its own. -/
def AppAx (w : World) (bl q : Nat) (s : Pk) (a' : Act) (W : World) : Prop := ∃ v, Blk W v #[.int .i64 s.no, .int .i64 s.src, .int .i64 s.dst, .int .i64 s.x] 67 ∧ w.heap.size + 1 ≤ v ∧
  a' = { tmps := #[.slice none 0 0, .func (.func 83) #[] #[.pointer (some ⟨bl, 0, none⟩), .pointer (some ⟨q, 0, none⟩)], .pointer (some ⟨w.heap.size, 0, none⟩), undef, .slice none 0 0, .pointer (some ⟨v, 0, none⟩), .func (.func 83) #[] #[.pointer (some ⟨bl, 0, none⟩), .pointer (some ⟨q, 0, none⟩)], .agg #[.int .i64 s.no, .int .i64 s.src, .int .i64 s.dst, .int .i64 s.x], undef, undef, undef, undef, undef], defers := [] }

set_option maxRecDepth 100000 in
set_option maxHeartbeats 1000000 in
theorem maiAppI_any (w : World) (bl q r : Nat) (to : Int) (A : Option Addr) (c : Nat) (l : List Pk) (hI : ItT w bl q r to A c l) (hn : l.length ≤ 1000000) :
    Calls Try.prog 84 #[.slice none 0 0, .func (.func 83) #[] #[.pointer (some ⟨bl, 0, none⟩), .pointer (some ⟨q, 0, none⟩)]] w (collPost (l.filter (givT to)) w) := by
  refine (callsIn_wide (n := 3)).1 ?_
  refine callsIn_of_wp_marks Try.func84 rfl trivial ?_ rfl
  simp only [Try.ntmps84, List.size_toArray, List.length_cons, List.length_nil, Nat.reduceAdd, Nat.reduceSub, Array.replicate_succ, Array.replicate_zero, List.push_toArray, List.append_toArray, List.nil_append, List.cons_append]
  refine wpIn_wide.2 ?_
  go_wp2_with fail
  have hlt := hI.lt
  have hbo : Blk (w.alloc (.cells #[.slice none 0 0] 98)) w.heap.size #[.slice none 0 0] 98 := Blk.new_at rfl
  have hfl : (l.filter (givT to)).length ≤ 1000000 := Nat.le_trans (List.length_filter_le _ _) hn
  refine (wpIn_wide (n := 3)).1 ?_
  refine wpIn_rangeFunc_ownH rfl (by decide) (gf := 83) (lb := #[.pointer (some ⟨bl, 0, none⟩), .pointer (some ⟨q, 0, none⟩)]) rfl trivial (enters_of Try.func83 (by kernel_rfl) rfl)
    (someT_stops 2 (by decide) bl q r to A c l w hI hn) (fun h k => h.trans k) ?hkb ((Below.refl _ _).alloc (Nat.le_refl _) _) (fun _ => rfl)
    (AppInv w) (fun _ _ _ => False) ?hI (fun _ _ _ _ _ hs _ _ => hs)
    ⟨⟨none, 0, hbo, World.ownsRow_nil _ _ _ _, fun _ e => by cases e⟩, (Chg.refl Non w).alloc _, by simp⟩
    (AppAx w bl q) ?hAx ?assign ?body ?done ?stop
  case hkb =>
    intro W lq o o' hl _ _ _ k hk
    exact World.putObj_heap_other (by have := hlt k hk; simp at hl; omega)
  case hI =>
    rintro pre W W' row ⟨⟨A', c', hbk, hown, hfr⟩, hchW, hlo⟩ hg hr
    exact ⟨⟨A', c', blk_abides hg (fun r e => (hr r e).2) hbk, own_abides hg (fun r e => (hr r e).2) hown, hfr⟩, chg_abides hg (by simp) hr hchW, Nat.le_trans hlo hg.size⟩
  case hAx =>
    rintro s a' _ W W' row ⟨v, hb, hv, e⟩ hg hr
    exact ⟨v, blk_abides hg (fun r e => (hr r e).2) hb, hv, e⟩
  case assign =>
    rintro l pre s W K ⟨⟨A', c', hbk, hown, hfr⟩, hchW, hlo⟩ hK
    have hn1 : Chg Non W (W.alloc (.cells #[.int .i64 s.no, .int .i64 s.src, .int .i64 s.dst, .int .i64 s.x] 67)) := (Chg.refl Non W).alloc _
    gi_wp2
    refine hK _ _ (keeps_of_chg hn1 (fun _ x => x.elim)) (fun k hk => hn1.block k (by have := hlt k hk; omega) id) ⟨⟨A', c', hbk.alloc _, own_alloc_opt hown _, hfr⟩, hchW.alloc _, Nat.le_trans hlo hn1.size⟩ ⟨W.heap.size, Blk.new_at rfl, hlo, rfl⟩
  case body =>
    rintro lp pre s a' W _ _ ⟨⟨A', c', hbk, hown, hfr⟩, hchW, hlo⟩ ⟨v, hv, hvl, rfl⟩ hlen
    have hc0 := hbk.one'
    have hblt := hbk.lt
    have hsz := hchW.size
    obtain ⟨⟨v0, v1, v2, v3⟩, _⟩ := hv.four
    have hbk2 := hbk.alloc (.cells #[.int .i64 s.no, .int .i64 s.src, .int .i64 s.dst, .int .i64 s.x] 67)
    gi_wp2_with (gi_at_builtin; refine ap_ownIn rfl (.tmp 8) (.tmp 10) 98 rfl 67 (.agg #[.int .i64 0, .int .i64 0, .int .i64 0, .int .i64 0]) 4 32 Try.underlying98 (by kernel_rfl) rfl (by decide) (.slice A' pre.length c') pre.length (pre.flatMap Pk.cells) rfl (own_alloc_opt hown _) ⟨W.heap.size, 0, none⟩ 1 1 (Pk.cells s) rfl rfl ((Blk.new_at rfl).reads' _ rfl) (by simpa using Pk.one [s]) (by decide) (by unfold maxLen; omega) (by omega) ?_; intro g' cap' w2 hown2 hch2 hg2; have hbk3 := hbk2.chg hch2 (fun e => by rw [ownBlock_slice] at e; cases A' with | none => cases e | some ad => (have := hfr ad rfl; simp at e; omega)); have hc3 := hbk3.one'; have hf3 := hbk3.frozen 0)
    have hcg : Chg (fun k => k = w.heap.size ∨ (Value.slice A' pre.length c').ownBlock = some k) W (w2.setCell ⟨w.heap.size, 0, none⟩ (.slice (some ⟨g', 0, none⟩) (pre.length + 1) cap')) :=
      (((Chg.refl _ W).alloc _).trans hch2 (fun i hi => .inl (.inr hi))).setCell (.inl (.inl rfl)) _
    have hob : ∀ k, (Value.slice A' pre.length c').ownBlock = some k → w.heap.size + 1 ≤ k := fun k e => by
      rw [ownBlock_slice] at e
      cases A' with
      | none => cases e
      | some ad => cases e; exact hfr ad rfl
    have hg3 : w.heap.size + 1 ≤ g' := by
      rcases hg2 with e | e
      · exact hob _ e
      · simp at e; omega
    refine ⟨keeps_of_chg hcg (fun k hk => ?_), fun k hk => hcg.block k (by have := hlt k hk; omega) ?_, ⟨some ⟨g', 0, none⟩, cap', ?_, ?_, fun ad e => by cases e; exact hg3⟩, ?_, ?_⟩
    · rcases hk with rfl | hk
      · exact ⟨_, _, hbk⟩
      · exact own_blk hown hk
    · have := hlt k hk
      rintro (e | e)
      · omega
      · have := hob _ e; omega
    · rw [List.length_append]; exact hbk3.set 0 _
    · rw [List.length_append, List.flatMap_append]; simpa using own_far hown2 (by show g' ≠ w.heap.size; omega) _
    · exact hchW.trans hcg (fun i hi => by rcases hi with e | e
                                           · exact .inr (by omega)
                                           · have := hob _ e; exact .inr (by omega))
    · exact Nat.le_trans hlo hcg.size
  case done =>
    rintro D ys W hD rfl ⟨⟨A', c', hbk, hown, hfr⟩, hchW, hlo⟩ hK
    have hc0 := hbk.one'
    go_wp2
    refine ⟨by simp, .inl ⟨_, _, rfl, run_takeDeferred hK, ?_⟩⟩
    refine ⟨_, results_tmp rfl _ _ _, A', c', rfl, ?_, ?_, ?_⟩
    · exact own_abides (grownBy_putObj' W D _) (fun r e => by cases e; exact ⟨_, hK, rfl⟩) hown
    · exact chg_abides (grownBy_putObj' W D _) (B := w.heap.size + 1) (by simp) (fun r e => by cases e; exact ⟨by simpa using hD, _, hK, rfl⟩) hchW
    · exact fun ad e => by have := hfr ad e; omega
  case stop =>
    rintro D c pre W _ _ h _
    exact h.elim
end Go.Proofs.Ytggbgfdgpkbmhaa
