/-
  No cell of these rows narrows 'for every input' (looked for: loops, veiled, ifaces, maps, wideKeys, modest, calm, conditions, laid).
  DERIVED. THE GIVEN ROWS OF THIS SEAT. 11 by the template 'for every input the law returns true; each argument reads behind the call as it read before'; 0 by the template 'total and deterministic' (their statements: YtmdpbbnieehmnaaTotals.lean).
  GIVEN WITH THE SEED: the statements are not yours to turn. If you find one false, say at which input.
  Laid BY PROGRAM, IN A SANDBOX (cutbox-rows.mjs): the forced cells as the released guide's own fill.sh prints them over the translation 41692fc543d01540… (all of the seat's roots in one cut). By AI agents, Wed Nov 11 2026. No macro, syntax, notation, axiom, sorry.
-/
import Derived.Test.YtmdpbbnieehmnaaChecked
import GoSem.Claim
import GoSem.ClaimJoined
import GoSem.ClaimMapViews
import Derived.JoinedTies
import Derived.KernelRfl
namespace Go.Proofs.Ytmdpbbnieehmnaa
/- THE CELL 'sum', in the pinned program and in every row, IS THE sha256 OF THE DUMP (.gsa) THAT YtmdpbbnieehmnaaProg.lean LOADS. Nothing in Lean hashes anything: it is a label: what it is worth is what the hold of that sum in a sandbox is worth. -/
noncomputable def Try.pinned : Pinned := { name := "ytmdpbbnieehmnaa", sum := "41692fc543d01540011bb79638a8c3df22cead52ef8f97cfaab5a81132d1c0aa", checked := Try.checked }
namespace Rows
def none {H : Type} : Left H := { results := [], args := [] }

/-- 'boomeranglaw02.KeysOrder': WHATEVER THE INPUT: true; the input reads as it did. -/
def keysOrderSpec : ChangeSpec := { name := "keysOrder", fn := fun _ => fun
  | [d1, d2, d3] => { results := [.lit (.bool true)], args := [d1, d2, d3] }
  | _ => none }
def keysOrderRow : OpenClaim := { program := "ytmdpbbnieehmnaa", sum := "41692fc543d01540011bb79638a8c3df22cead52ef8f97cfaab5a81132d1c0aa", func := "boomerang/boomeranglaw02.KeysOrder", spec := "keysOrder", plainKeys := false, apart := false }
def KeysOrderSaid : Prop := keysOrderRow.holds Try.pinned (OpenSpec.ofChange keysOrderSpec)

/-- ITS FALSE NEIGHBOUR: 'it returns false'. Refute it at one input. -/
def keysOrderWrong : ChangeSpec := { name := "keysOrder", fn := fun _ => fun
  | [d1, d2, d3] => { results := [.lit (.bool false)], args := [d1, d2, d3] }
  | _ => none }
def KeysOrderWrongFalsely : Prop := keysOrderRow.holds Try.pinned (OpenSpec.ofChange keysOrderWrong)

/-- 'boomeranglaw02.KeysSame': WHATEVER THE INPUT: true; the input reads as it did. -/
def keysSameSpec : ChangeSpec := { name := "keysSame", fn := fun _ => fun
  | [d] => { results := [.lit (.bool true)], args := [d] }
  | _ => none }
def keysSameRow : OpenClaim := { program := "ytmdpbbnieehmnaa", sum := "41692fc543d01540011bb79638a8c3df22cead52ef8f97cfaab5a81132d1c0aa", func := "boomerang/boomeranglaw02.KeysSame", spec := "keysSame", unfollowed := true, recurses := true, plainKeys := false, apart := false }
def KeysSameSaid : Prop := keysSameRow.holds Try.pinned (OpenSpec.ofChange keysSameSpec)

/-- ITS FALSE NEIGHBOUR: 'it returns false'. Refute it at one input. -/
def keysSameWrong : ChangeSpec := { name := "keysSame", fn := fun _ => fun
  | [d] => { results := [.lit (.bool false)], args := [d] }
  | _ => none }
def KeysSameWrongFalsely : Prop := keysSameRow.holds Try.pinned (OpenSpec.ofChange keysSameWrong)

/-- 'boomeranglaw02.KeysSort': WHATEVER THE INPUT: true; the input reads as it did. -/
def keysSortSpec : ChangeSpec := { name := "keysSort", fn := fun _ => fun
  | [d] => { results := [.lit (.bool true)], args := [d] }
  | _ => none }
def keysSortRow : OpenClaim := { program := "ytmdpbbnieehmnaa", sum := "41692fc543d01540011bb79638a8c3df22cead52ef8f97cfaab5a81132d1c0aa", func := "boomerang/boomeranglaw02.KeysSort", spec := "keysSort", unfollowed := true, recurses := true, plainKeys := false, apart := false }
def KeysSortSaid : Prop := keysSortRow.holds Try.pinned (OpenSpec.ofChange keysSortSpec)

/-- ITS FALSE NEIGHBOUR: 'it returns false'. Refute it at one input. -/
def keysSortWrong : ChangeSpec := { name := "keysSort", fn := fun _ => fun
  | [d] => { results := [.lit (.bool false)], args := [d] }
  | _ => none }
def KeysSortWrongFalsely : Prop := keysSortRow.holds Try.pinned (OpenSpec.ofChange keysSortWrong)

/-- 'boomeranglaw02.KeysBatches': WHATEVER THE INPUT: true; the input reads as it did. -/
def keysBatchesSpec : ChangeSpec := { name := "keysBatches", fn := fun _ => fun
  | [d1, d2] => { results := [.lit (.bool true)], args := [d1, d2] }
  | _ => none }
def keysBatchesRow : OpenClaim := { program := "ytmdpbbnieehmnaa", sum := "41692fc543d01540011bb79638a8c3df22cead52ef8f97cfaab5a81132d1c0aa", func := "boomerang/boomeranglaw02.KeysBatches", spec := "keysBatches", unfollowed := true, recurses := true, plainKeys := false, apart := false }
def KeysBatchesSaid : Prop := keysBatchesRow.holds Try.pinned (OpenSpec.ofChange keysBatchesSpec)

/-- ITS FALSE NEIGHBOUR: 'it returns false'. Refute it at one input. -/
def keysBatchesWrong : ChangeSpec := { name := "keysBatches", fn := fun _ => fun
  | [d1, d2] => { results := [.lit (.bool false)], args := [d1, d2] }
  | _ => none }
def KeysBatchesWrongFalsely : Prop := keysBatchesRow.holds Try.pinned (OpenSpec.ofChange keysBatchesWrong)

/-- 'boomeranglaw17.BudgetLess': WHATEVER THE INPUT: true; the input reads as it did. -/
def budgetLessSpec : ChangeSpec := { name := "budgetLess", fn := fun _ => fun
  | [d1, d2, d3] => { results := [.lit (.bool true)], args := [d1, d2, d3] }
  | _ => none }
def budgetLessRow : OpenClaim := { program := "ytmdpbbnieehmnaa", sum := "41692fc543d01540011bb79638a8c3df22cead52ef8f97cfaab5a81132d1c0aa", func := "boomerang/boomeranglaw17.BudgetLess", spec := "budgetLess", unfollowed := true, recurses := true, plainKeys := false, apart := false }
def BudgetLessSaid : Prop := budgetLessRow.holds Try.pinned (OpenSpec.ofChange budgetLessSpec)

/-- ITS FALSE NEIGHBOUR: 'it returns false'. Refute it at one input. -/
def budgetLessWrong : ChangeSpec := { name := "budgetLess", fn := fun _ => fun
  | [d1, d2, d3] => { results := [.lit (.bool false)], args := [d1, d2, d3] }
  | _ => none }
def BudgetLessWrongFalsely : Prop := budgetLessRow.holds Try.pinned (OpenSpec.ofChange budgetLessWrong)

/-- 'boomeranglaw17.BudgetNil': WHATEVER THE INPUT: true; the input reads as it did. -/
def budgetNilSpec : ChangeSpec := { name := "budgetNil", fn := fun _ => fun
  | [d] => { results := [.lit (.bool true)], args := [d] }
  | _ => none }
def budgetNilRow : OpenClaim := { program := "ytmdpbbnieehmnaa", sum := "41692fc543d01540011bb79638a8c3df22cead52ef8f97cfaab5a81132d1c0aa", func := "boomerang/boomeranglaw17.BudgetNil", spec := "budgetNil", unfollowed := true, recurses := true, plainKeys := false, apart := false }
def BudgetNilSaid : Prop := budgetNilRow.holds Try.pinned (OpenSpec.ofChange budgetNilSpec)

/-- ITS FALSE NEIGHBOUR: 'it returns false'. Refute it at one input. -/
def budgetNilWrong : ChangeSpec := { name := "budgetNil", fn := fun _ => fun
  | [d] => { results := [.lit (.bool false)], args := [d] }
  | _ => none }
def BudgetNilWrongFalsely : Prop := budgetNilRow.holds Try.pinned (OpenSpec.ofChange budgetNilWrong)

/-- 'boomeranglaw17.BudgetVictims': WHATEVER THE INPUT: true; the input reads as it did. -/
def budgetVictimsSpec : ChangeSpec := { name := "budgetVictims", fn := fun _ => fun
  | [d1, d2] => { results := [.lit (.bool true)], args := [d1, d2] }
  | _ => none }
def budgetVictimsRow : OpenClaim := { program := "ytmdpbbnieehmnaa", sum := "41692fc543d01540011bb79638a8c3df22cead52ef8f97cfaab5a81132d1c0aa", func := "boomerang/boomeranglaw17.BudgetVictims", spec := "budgetVictims", unfollowed := true, recurses := true, plainKeys := false, apart := false }
def BudgetVictimsSaid : Prop := budgetVictimsRow.holds Try.pinned (OpenSpec.ofChange budgetVictimsSpec)

/-- ITS FALSE NEIGHBOUR: 'it returns false'. Refute it at one input. -/
def budgetVictimsWrong : ChangeSpec := { name := "budgetVictims", fn := fun _ => fun
  | [d1, d2] => { results := [.lit (.bool false)], args := [d1, d2] }
  | _ => none }
def BudgetVictimsWrongFalsely : Prop := budgetVictimsRow.holds Try.pinned (OpenSpec.ofChange budgetVictimsWrong)

/-- 'boomeranglaw10.InqOrder': WHATEVER THE INPUT: true; the input reads as it did. -/
def inqOrderSpec : ChangeSpec := { name := "inqOrder", fn := fun _ => fun
  | [d1, d2, d3] => { results := [.lit (.bool true)], args := [d1, d2, d3] }
  | _ => none }
def inqOrderRow : OpenClaim := { program := "ytmdpbbnieehmnaa", sum := "41692fc543d01540011bb79638a8c3df22cead52ef8f97cfaab5a81132d1c0aa", func := "boomerang/boomeranglaw10.InqOrder", spec := "inqOrder", inPlace := ["slices.overlaps[boomerang/api.Event]"], unfollowed := true, recurses := true, plainKeys := false, apart := false }
def InqOrderSaid : Prop := inqOrderRow.holds Try.pinned (OpenSpec.ofChange inqOrderSpec)

/-- ITS FALSE NEIGHBOUR: 'it returns false'. Refute it at one input. -/
def inqOrderWrong : ChangeSpec := { name := "inqOrder", fn := fun _ => fun
  | [d1, d2, d3] => { results := [.lit (.bool false)], args := [d1, d2, d3] }
  | _ => none }
def InqOrderWrongFalsely : Prop := inqOrderRow.holds Try.pinned (OpenSpec.ofChange inqOrderWrong)

/-- 'boomeranglaw10.InqTurns': WHATEVER THE INPUT: true; the input reads as it did. -/
def inqTurnsSpec : ChangeSpec := { name := "inqTurns", fn := fun _ => fun
  | [d1, d2] => { results := [.lit (.bool true)], args := [d1, d2] }
  | _ => none }
def inqTurnsRow : OpenClaim := { program := "ytmdpbbnieehmnaa", sum := "41692fc543d01540011bb79638a8c3df22cead52ef8f97cfaab5a81132d1c0aa", func := "boomerang/boomeranglaw10.InqTurns", spec := "inqTurns", inPlace := ["slices.overlaps[boomerang/api.Event]"], unfollowed := true, recurses := true, plainKeys := false, apart := false }
def InqTurnsSaid : Prop := inqTurnsRow.holds Try.pinned (OpenSpec.ofChange inqTurnsSpec)

/-- ITS FALSE NEIGHBOUR: 'it returns false'. Refute it at one input. -/
def inqTurnsWrong : ChangeSpec := { name := "inqTurns", fn := fun _ => fun
  | [d1, d2] => { results := [.lit (.bool false)], args := [d1, d2] }
  | _ => none }
def InqTurnsWrongFalsely : Prop := inqTurnsRow.holds Try.pinned (OpenSpec.ofChange inqTurnsWrong)

/-- 'boomeranglaw10.InqCounts': WHATEVER THE INPUT: true; the input reads as it did. -/
def inqCountsSpec : ChangeSpec := { name := "inqCounts", fn := fun _ => fun
  | [d] => { results := [.lit (.bool true)], args := [d] }
  | _ => none }
def inqCountsRow : OpenClaim := { program := "ytmdpbbnieehmnaa", sum := "41692fc543d01540011bb79638a8c3df22cead52ef8f97cfaab5a81132d1c0aa", func := "boomerang/boomeranglaw10.InqCounts", spec := "inqCounts", inPlace := ["slices.overlaps[boomerang/api.Event]"], unfollowed := true, recurses := true, plainKeys := false, apart := false }
def InqCountsSaid : Prop := inqCountsRow.holds Try.pinned (OpenSpec.ofChange inqCountsSpec)

/-- ITS FALSE NEIGHBOUR: 'it returns false'. Refute it at one input. -/
def inqCountsWrong : ChangeSpec := { name := "inqCounts", fn := fun _ => fun
  | [d] => { results := [.lit (.bool false)], args := [d] }
  | _ => none }
def InqCountsWrongFalsely : Prop := inqCountsRow.holds Try.pinned (OpenSpec.ofChange inqCountsWrong)

/-- 'boomeranglaw10.InqBack': WHATEVER THE INPUT: true; the input reads as it did. -/
def inqBackSpec : ChangeSpec := { name := "inqBack", fn := fun _ => fun
  | [d1, d2] => { results := [.lit (.bool true)], args := [d1, d2] }
  | _ => none }
def inqBackRow : OpenClaim := { program := "ytmdpbbnieehmnaa", sum := "41692fc543d01540011bb79638a8c3df22cead52ef8f97cfaab5a81132d1c0aa", func := "boomerang/boomeranglaw10.InqBack", spec := "inqBack", inPlace := ["slices.overlaps[boomerang/api.Event]"], unfollowed := true, recurses := true, plainKeys := false, apart := false }
def InqBackSaid : Prop := inqBackRow.holds Try.pinned (OpenSpec.ofChange inqBackSpec)

/-- ITS FALSE NEIGHBOUR: 'it returns false'. Refute it at one input. -/
def inqBackWrong : ChangeSpec := { name := "inqBack", fn := fun _ => fun
  | [d1, d2] => { results := [.lit (.bool false)], args := [d1, d2] }
  | _ => none }
def InqBackWrongFalsely : Prop := inqBackRow.holds Try.pinned (OpenSpec.ofChange inqBackWrong)

/- THE SECOND FORM. 'bulk': how many values and letters a reading holds, each counted each time it is reached (what is shared counts as often as it is met; a slice's spare places count too). A statement '..UptoSaid' is the law's where the arguments, and the package variables that the reading takes, are together of bulk at most 1048576: NARROWER than '..Said'. Prove '..Said' where nothing that the law and all that it calls make is longer than what came in: it says more and counts as full. Else prove '..UptoSaid'. A law counts once. -/
mutual
def uptoBulk {H : Type} : DataW H → Nat
  | .lit (.string bytes) => bytes.length + 1
  | .lit _ => 1
  | .nil => 1
  | .ptr d => uptoBulk d + 1
  | .slice elems spare => uptoBulkAll elems + uptoBulkAll spare + 1
  | .agg parts => uptoBulkAll parts + 1
  | .iface _ d => uptoBulk d + 1
  | .map entries => uptoBulkEntries entries + 1
  | .held _ => 1
def uptoBulkAll {H : Type} : List (DataW H) → Nat
  | [] => 0
  | d :: r => uptoBulk d + uptoBulkAll r
def uptoBulkEntries {H : Type} : List (Lit × DataW H) → Nat
  | [] => 0
  | x :: r => uptoBulkEntry x + uptoBulkEntries r
def uptoBulkEntry {H : Type} : Lit × DataW H → Nat
  | (.string bytes, d) => bytes.length + uptoBulk d + 1
  | (_, d) => uptoBulk d + 1
 end
def uptoSmall : (H : Type) → List (DataW H) → Bool := fun _ ds => decide (uptoBulkAll ds ≤ 1048576)
def OpenSpec.upto (s : _root_.Go.ChangeSpec) : _root_.Go.OpenSpec := { _root_.Go.OpenSpec.ofChange s with cond := some uptoSmall }

/-- 'boomeranglaw02.KeysOrder', WHERE WHAT IT READS IS OF BULK AT MOST 1048576: true; the input reads as it did. -/
def keysOrderUptoRow : OpenClaim := { program := "ytmdpbbnieehmnaa", sum := "41692fc543d01540011bb79638a8c3df22cead52ef8f97cfaab5a81132d1c0aa", func := "boomerang/boomeranglaw02.KeysOrder", spec := "keysOrder", plainKeys := false, apart := false, narrowed := true }
def KeysOrderUptoSaid : Prop := keysOrderUptoRow.holds Try.pinned (OpenSpec.upto keysOrderSpec)

/-- 'boomeranglaw02.KeysSame', WHERE WHAT IT READS IS OF BULK AT MOST 1048576: true; the input reads as it did. -/
def keysSameUptoRow : OpenClaim := { program := "ytmdpbbnieehmnaa", sum := "41692fc543d01540011bb79638a8c3df22cead52ef8f97cfaab5a81132d1c0aa", func := "boomerang/boomeranglaw02.KeysSame", spec := "keysSame", unfollowed := true, recurses := true, plainKeys := false, apart := false, narrowed := true }
def KeysSameUptoSaid : Prop := keysSameUptoRow.holds Try.pinned (OpenSpec.upto keysSameSpec)

/-- 'boomeranglaw02.KeysSort', WHERE WHAT IT READS IS OF BULK AT MOST 1048576: true; the input reads as it did. -/
def keysSortUptoRow : OpenClaim := { program := "ytmdpbbnieehmnaa", sum := "41692fc543d01540011bb79638a8c3df22cead52ef8f97cfaab5a81132d1c0aa", func := "boomerang/boomeranglaw02.KeysSort", spec := "keysSort", unfollowed := true, recurses := true, plainKeys := false, apart := false, narrowed := true }
def KeysSortUptoSaid : Prop := keysSortUptoRow.holds Try.pinned (OpenSpec.upto keysSortSpec)

/-- 'boomeranglaw02.KeysBatches', WHERE WHAT IT READS IS OF BULK AT MOST 1048576: true; the input reads as it did. -/
def keysBatchesUptoRow : OpenClaim := { program := "ytmdpbbnieehmnaa", sum := "41692fc543d01540011bb79638a8c3df22cead52ef8f97cfaab5a81132d1c0aa", func := "boomerang/boomeranglaw02.KeysBatches", spec := "keysBatches", unfollowed := true, recurses := true, plainKeys := false, apart := false, narrowed := true }
def KeysBatchesUptoSaid : Prop := keysBatchesUptoRow.holds Try.pinned (OpenSpec.upto keysBatchesSpec)

/-- 'boomeranglaw17.BudgetLess', WHERE WHAT IT READS IS OF BULK AT MOST 1048576: true; the input reads as it did. -/
def budgetLessUptoRow : OpenClaim := { program := "ytmdpbbnieehmnaa", sum := "41692fc543d01540011bb79638a8c3df22cead52ef8f97cfaab5a81132d1c0aa", func := "boomerang/boomeranglaw17.BudgetLess", spec := "budgetLess", unfollowed := true, recurses := true, plainKeys := false, apart := false, narrowed := true }
def BudgetLessUptoSaid : Prop := budgetLessUptoRow.holds Try.pinned (OpenSpec.upto budgetLessSpec)

/-- 'boomeranglaw17.BudgetNil', WHERE WHAT IT READS IS OF BULK AT MOST 1048576: true; the input reads as it did. -/
def budgetNilUptoRow : OpenClaim := { program := "ytmdpbbnieehmnaa", sum := "41692fc543d01540011bb79638a8c3df22cead52ef8f97cfaab5a81132d1c0aa", func := "boomerang/boomeranglaw17.BudgetNil", spec := "budgetNil", unfollowed := true, recurses := true, plainKeys := false, apart := false, narrowed := true }
def BudgetNilUptoSaid : Prop := budgetNilUptoRow.holds Try.pinned (OpenSpec.upto budgetNilSpec)

/-- 'boomeranglaw17.BudgetVictims', WHERE WHAT IT READS IS OF BULK AT MOST 1048576: true; the input reads as it did. -/
def budgetVictimsUptoRow : OpenClaim := { program := "ytmdpbbnieehmnaa", sum := "41692fc543d01540011bb79638a8c3df22cead52ef8f97cfaab5a81132d1c0aa", func := "boomerang/boomeranglaw17.BudgetVictims", spec := "budgetVictims", unfollowed := true, recurses := true, plainKeys := false, apart := false, narrowed := true }
def BudgetVictimsUptoSaid : Prop := budgetVictimsUptoRow.holds Try.pinned (OpenSpec.upto budgetVictimsSpec)

/-- 'boomeranglaw10.InqOrder', WHERE WHAT IT READS IS OF BULK AT MOST 1048576: true; the input reads as it did. -/
def inqOrderUptoRow : OpenClaim := { program := "ytmdpbbnieehmnaa", sum := "41692fc543d01540011bb79638a8c3df22cead52ef8f97cfaab5a81132d1c0aa", func := "boomerang/boomeranglaw10.InqOrder", spec := "inqOrder", inPlace := ["slices.overlaps[boomerang/api.Event]"], unfollowed := true, recurses := true, plainKeys := false, apart := false, narrowed := true }
def InqOrderUptoSaid : Prop := inqOrderUptoRow.holds Try.pinned (OpenSpec.upto inqOrderSpec)

/-- 'boomeranglaw10.InqTurns', WHERE WHAT IT READS IS OF BULK AT MOST 1048576: true; the input reads as it did. -/
def inqTurnsUptoRow : OpenClaim := { program := "ytmdpbbnieehmnaa", sum := "41692fc543d01540011bb79638a8c3df22cead52ef8f97cfaab5a81132d1c0aa", func := "boomerang/boomeranglaw10.InqTurns", spec := "inqTurns", inPlace := ["slices.overlaps[boomerang/api.Event]"], unfollowed := true, recurses := true, plainKeys := false, apart := false, narrowed := true }
def InqTurnsUptoSaid : Prop := inqTurnsUptoRow.holds Try.pinned (OpenSpec.upto inqTurnsSpec)

/-- 'boomeranglaw10.InqCounts', WHERE WHAT IT READS IS OF BULK AT MOST 1048576: true; the input reads as it did. -/
def inqCountsUptoRow : OpenClaim := { program := "ytmdpbbnieehmnaa", sum := "41692fc543d01540011bb79638a8c3df22cead52ef8f97cfaab5a81132d1c0aa", func := "boomerang/boomeranglaw10.InqCounts", spec := "inqCounts", inPlace := ["slices.overlaps[boomerang/api.Event]"], unfollowed := true, recurses := true, plainKeys := false, apart := false, narrowed := true }
def InqCountsUptoSaid : Prop := inqCountsUptoRow.holds Try.pinned (OpenSpec.upto inqCountsSpec)

/-- 'boomeranglaw10.InqBack', WHERE WHAT IT READS IS OF BULK AT MOST 1048576: true; the input reads as it did. -/
def inqBackUptoRow : OpenClaim := { program := "ytmdpbbnieehmnaa", sum := "41692fc543d01540011bb79638a8c3df22cead52ef8f97cfaab5a81132d1c0aa", func := "boomerang/boomeranglaw10.InqBack", spec := "inqBack", inPlace := ["slices.overlaps[boomerang/api.Event]"], unfollowed := true, recurses := true, plainKeys := false, apart := false, narrowed := true }
def InqBackUptoSaid : Prop := inqBackUptoRow.holds Try.pinned (OpenSpec.upto inqBackSpec)

end Rows
end Go.Proofs.Ytmdpbbnieehmnaa
