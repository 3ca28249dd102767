/-
  No cell of these rows narrows 'for every input' (looked for: loops, veiled, ifaces, maps, wideKeys, modest, calm, conditions, laid).
  DERIVED. THE GIVEN ROWS OF THIS SEAT. 10 by the template 'for every input the law returns true; each argument reads behind the call as it read before'; 0 by the template 'total and deterministic' (their statements: YtggbgfdgpkbmhaaTotals.lean).
  GIVEN WITH THE SEED: the statements are not yours to turn. If you find one false, say at which input.
  Laid BY PROGRAM, IN A SANDBOX (cutbox-rows.mjs): the forced cells as the released guide's own fill.sh prints them over the translation ed3b54e10d0f810d… (all of the seat's roots in one cut). By AI agents, Wed Nov 11 2026. No macro, syntax, notation, axiom, sorry.
-/
import Derived.Test.YtggbgfdgpkbmhaaChecked
import GoSem.Claim
import GoSem.ClaimJoined
import GoSem.ClaimMapViews
import Derived.JoinedTies
import Derived.KernelRfl
namespace Go.Proofs.Ytggbgfdgpkbmhaa
/- THE CELL 'sum', in the pinned program and in every row, IS THE sha256 OF THE DUMP (.gsa) THAT YtggbgfdgpkbmhaaProg.lean LOADS. Nothing in Lean hashes anything: it is a label: what it is worth is what the hold of that sum in a sandbox is worth. -/
noncomputable def Try.pinned : Pinned := { name := "ytggbgfdgpkbmhaa", sum := "ed3b54e10d0f810d25be8d48c09095de4b16015c2ff041ab5cc30a68e36e2acb", checked := Try.checked }
namespace Rows
def none {H : Type} : Left H := { results := [], args := [] }

/-- 'boomeranglaw12.SavesDue': WHATEVER THE INPUT: true; the input reads as it did. -/
def savesDueSpec : ChangeSpec := { name := "savesDue", fn := fun _ => fun
  | [d1, d2] => { results := [.lit (.bool true)], args := [d1, d2] }
  | _ => none }
def savesDueRow : OpenClaim := { program := "ytggbgfdgpkbmhaa", sum := "ed3b54e10d0f810d25be8d48c09095de4b16015c2ff041ab5cc30a68e36e2acb", func := "boomerang/boomeranglaw12.SavesDue", spec := "savesDue", apart := false }
def SavesDueSaid : Prop := savesDueRow.holds Try.pinned (OpenSpec.ofChange savesDueSpec)

/-- ITS FALSE NEIGHBOUR: 'it returns false'. Refute it at one input. -/
def savesDueWrong : ChangeSpec := { name := "savesDue", fn := fun _ => fun
  | [d1, d2] => { results := [.lit (.bool false)], args := [d1, d2] }
  | _ => none }
def SavesDueWrongFalsely : Prop := savesDueRow.holds Try.pinned (OpenSpec.ofChange savesDueWrong)

/-- 'boomeranglaw12.SavesRise': WHATEVER THE INPUT: true; the input reads as it did. -/
def savesRiseSpec : ChangeSpec := { name := "savesRise", fn := fun _ => fun
  | [d1, d2] => { results := [.lit (.bool true)], args := [d1, d2] }
  | _ => none }
def savesRiseRow : OpenClaim := { program := "ytggbgfdgpkbmhaa", sum := "ed3b54e10d0f810d25be8d48c09095de4b16015c2ff041ab5cc30a68e36e2acb", func := "boomerang/boomeranglaw12.SavesRise", spec := "savesRise", unfollowed := true, recurses := true, apart := false }
def SavesRiseSaid : Prop := savesRiseRow.holds Try.pinned (OpenSpec.ofChange savesRiseSpec)

/-- ITS FALSE NEIGHBOUR: 'it returns false'. Refute it at one input. -/
def savesRiseWrong : ChangeSpec := { name := "savesRise", fn := fun _ => fun
  | [d1, d2] => { results := [.lit (.bool false)], args := [d1, d2] }
  | _ => none }
def SavesRiseWrongFalsely : Prop := savesRiseRow.holds Try.pinned (OpenSpec.ofChange savesRiseWrong)

/-- 'boomeranglaw12.SavesPlays': WHATEVER THE INPUT: true; the input reads as it did. -/
def savesPlaysSpec : ChangeSpec := { name := "savesPlays", fn := fun _ => fun
  | [d1, d2] => { results := [.lit (.bool true)], args := [d1, d2] }
  | _ => none }
def savesPlaysRow : OpenClaim := { program := "ytggbgfdgpkbmhaa", sum := "ed3b54e10d0f810d25be8d48c09095de4b16015c2ff041ab5cc30a68e36e2acb", func := "boomerang/boomeranglaw12.SavesPlays", spec := "savesPlays", unfollowed := true, recurses := true, apart := false }
def SavesPlaysSaid : Prop := savesPlaysRow.holds Try.pinned (OpenSpec.ofChange savesPlaysSpec)

/-- ITS FALSE NEIGHBOUR: 'it returns false'. Refute it at one input. -/
def savesPlaysWrong : ChangeSpec := { name := "savesPlays", fn := fun _ => fun
  | [d1, d2] => { results := [.lit (.bool false)], args := [d1, d2] }
  | _ => none }
def SavesPlaysWrongFalsely : Prop := savesPlaysRow.holds Try.pinned (OpenSpec.ofChange savesPlaysWrong)

/-- 'boomeranglaw12.SavesLast': WHATEVER THE INPUT: true; the input reads as it did. -/
def savesLastSpec : ChangeSpec := { name := "savesLast", fn := fun _ => fun
  | [d1, d2, d3] => { results := [.lit (.bool true)], args := [d1, d2, d3] }
  | _ => none }
def savesLastRow : OpenClaim := { program := "ytggbgfdgpkbmhaa", sum := "ed3b54e10d0f810d25be8d48c09095de4b16015c2ff041ab5cc30a68e36e2acb", func := "boomerang/boomeranglaw12.SavesLast", spec := "savesLast", unfollowed := true, recurses := true, apart := false }
def SavesLastSaid : Prop := savesLastRow.holds Try.pinned (OpenSpec.ofChange savesLastSpec)

/-- ITS FALSE NEIGHBOUR: 'it returns false'. Refute it at one input. -/
def savesLastWrong : ChangeSpec := { name := "savesLast", fn := fun _ => fun
  | [d1, d2, d3] => { results := [.lit (.bool false)], args := [d1, d2, d3] }
  | _ => none }
def SavesLastWrongFalsely : Prop := savesLastRow.holds Try.pinned (OpenSpec.ofChange savesLastWrong)

/-- 'boomeranglaw12.SavesNil': WHATEVER THE INPUT: true; the input reads as it did. -/
def savesNilSpec : ChangeSpec := { name := "savesNil", fn := fun _ => fun
  | [d] => { results := [.lit (.bool true)], args := [d] }
  | _ => none }
def savesNilRow : OpenClaim := { program := "ytggbgfdgpkbmhaa", sum := "ed3b54e10d0f810d25be8d48c09095de4b16015c2ff041ab5cc30a68e36e2acb", func := "boomerang/boomeranglaw12.SavesNil", spec := "savesNil", unfollowed := true, recurses := true, apart := false }
def SavesNilSaid : Prop := savesNilRow.holds Try.pinned (OpenSpec.ofChange savesNilSpec)

/-- ITS FALSE NEIGHBOUR: 'it returns false'. Refute it at one input. -/
def savesNilWrong : ChangeSpec := { name := "savesNil", fn := fun _ => fun
  | [d] => { results := [.lit (.bool false)], args := [d] }
  | _ => none }
def SavesNilWrongFalsely : Prop := savesNilRow.holds Try.pinned (OpenSpec.ofChange savesNilWrong)

/-- 'boomeranglaw12.SavesCuts': WHATEVER THE INPUT: true; the input reads as it did. -/
def savesCutsSpec : ChangeSpec := { name := "savesCuts", fn := fun _ => fun
  | [d1, d2] => { results := [.lit (.bool true)], args := [d1, d2] }
  | _ => none }
def savesCutsRow : OpenClaim := { program := "ytggbgfdgpkbmhaa", sum := "ed3b54e10d0f810d25be8d48c09095de4b16015c2ff041ab5cc30a68e36e2acb", func := "boomerang/boomeranglaw12.SavesCuts", spec := "savesCuts", unfollowed := true, recurses := true, apart := false }
def SavesCutsSaid : Prop := savesCutsRow.holds Try.pinned (OpenSpec.ofChange savesCutsSpec)

/-- ITS FALSE NEIGHBOUR: 'it returns false'. Refute it at one input. -/
def savesCutsWrong : ChangeSpec := { name := "savesCuts", fn := fun _ => fun
  | [d1, d2] => { results := [.lit (.bool false)], args := [d1, d2] }
  | _ => none }
def SavesCutsWrongFalsely : Prop := savesCutsRow.holds Try.pinned (OpenSpec.ofChange savesCutsWrong)

/-- 'boomeranglaw14.MailBoxes': WHATEVER THE INPUT: true; the input reads as it did. -/
def mailBoxesSpec : ChangeSpec := { name := "mailBoxes", fn := fun _ => fun
  | [d1, d2] => { results := [.lit (.bool true)], args := [d1, d2] }
  | _ => none }
def mailBoxesRow : OpenClaim := { program := "ytggbgfdgpkbmhaa", sum := "ed3b54e10d0f810d25be8d48c09095de4b16015c2ff041ab5cc30a68e36e2acb", func := "boomerang/boomeranglaw14.MailBoxes", spec := "mailBoxes", unfollowed := true, recurses := true, apart := false }
def MailBoxesSaid : Prop := mailBoxesRow.holds Try.pinned (OpenSpec.ofChange mailBoxesSpec)

/-- ITS FALSE NEIGHBOUR: 'it returns false'. Refute it at one input. -/
def mailBoxesWrong : ChangeSpec := { name := "mailBoxes", fn := fun _ => fun
  | [d1, d2] => { results := [.lit (.bool false)], args := [d1, d2] }
  | _ => none }
def MailBoxesWrongFalsely : Prop := mailBoxesRow.holds Try.pinned (OpenSpec.ofChange mailBoxesWrong)

/-- 'boomeranglaw14.MailPlays': WHATEVER THE INPUT: true; the input reads as it did. -/
def mailPlaysSpec : ChangeSpec := { name := "mailPlays", fn := fun _ => fun
  | [d1, d2] => { results := [.lit (.bool true)], args := [d1, d2] }
  | _ => none }
def mailPlaysRow : OpenClaim := { program := "ytggbgfdgpkbmhaa", sum := "ed3b54e10d0f810d25be8d48c09095de4b16015c2ff041ab5cc30a68e36e2acb", func := "boomerang/boomeranglaw14.MailPlays", spec := "mailPlays", unfollowed := true, recurses := true, apart := false }
def MailPlaysSaid : Prop := mailPlaysRow.holds Try.pinned (OpenSpec.ofChange mailPlaysSpec)

/-- ITS FALSE NEIGHBOUR: 'it returns false'. Refute it at one input. -/
def mailPlaysWrong : ChangeSpec := { name := "mailPlays", fn := fun _ => fun
  | [d1, d2] => { results := [.lit (.bool false)], args := [d1, d2] }
  | _ => none }
def MailPlaysWrongFalsely : Prop := mailPlaysRow.holds Try.pinned (OpenSpec.ofChange mailPlaysWrong)

/-- 'boomeranglaw14.MailTurns': WHATEVER THE INPUT: true; the input reads as it did. -/
def mailTurnsSpec : ChangeSpec := { name := "mailTurns", fn := fun _ => fun
  | [d1, d2, d3] => { results := [.lit (.bool true)], args := [d1, d2, d3] }
  | _ => none }
def mailTurnsRow : OpenClaim := { program := "ytggbgfdgpkbmhaa", sum := "ed3b54e10d0f810d25be8d48c09095de4b16015c2ff041ab5cc30a68e36e2acb", func := "boomerang/boomeranglaw14.MailTurns", spec := "mailTurns", unfollowed := true, recurses := true, apart := false }
def MailTurnsSaid : Prop := mailTurnsRow.holds Try.pinned (OpenSpec.ofChange mailTurnsSpec)

/-- ITS FALSE NEIGHBOUR: 'it returns false'. Refute it at one input. -/
def mailTurnsWrong : ChangeSpec := { name := "mailTurns", fn := fun _ => fun
  | [d1, d2, d3] => { results := [.lit (.bool false)], args := [d1, d2, d3] }
  | _ => none }
def MailTurnsWrongFalsely : Prop := mailTurnsRow.holds Try.pinned (OpenSpec.ofChange mailTurnsWrong)

/-- 'boomeranglaw14.MailNil': WHATEVER THE INPUT: true; the input reads as it did. -/
def mailNilSpec : ChangeSpec := { name := "mailNil", fn := fun _ => fun
  | [d] => { results := [.lit (.bool true)], args := [d] }
  | _ => none }
def mailNilRow : OpenClaim := { program := "ytggbgfdgpkbmhaa", sum := "ed3b54e10d0f810d25be8d48c09095de4b16015c2ff041ab5cc30a68e36e2acb", func := "boomerang/boomeranglaw14.MailNil", spec := "mailNil", unfollowed := true, recurses := true, apart := false }
def MailNilSaid : Prop := mailNilRow.holds Try.pinned (OpenSpec.ofChange mailNilSpec)

/-- ITS FALSE NEIGHBOUR: 'it returns false'. Refute it at one input. -/
def mailNilWrong : ChangeSpec := { name := "mailNil", fn := fun _ => fun
  | [d] => { results := [.lit (.bool false)], args := [d] }
  | _ => none }
def MailNilWrongFalsely : Prop := mailNilRow.holds Try.pinned (OpenSpec.ofChange mailNilWrong)

/- THE SECOND FORM. 'bulk': how many values and letters a reading holds, each counted each time it is reached (what is shared counts as often as it is met; a slice's spare places count too). A statement '..UptoSaid' is the law's where the arguments, and the package variables that the reading takes, are together of bulk at most 1048576: NARROWER than '..Said'. Prove '..Said' where nothing that the law and all that it calls make is longer than what came in: it says more and counts as full. Else prove '..UptoSaid'. A law counts once. -/
mutual
def uptoBulk {H : Type} : DataW H → Nat
  | .lit (.string bytes) => bytes.length + 1
  | .lit _ => 1
  | .nil => 1
  | .ptr d => uptoBulk d + 1
  | .slice elems spare => uptoBulkAll elems + uptoBulkAll spare + 1
  | .agg parts => uptoBulkAll parts + 1
  | .iface _ d => uptoBulk d + 1
  | .map entries => uptoBulkEntries entries + 1
  | .held _ => 1
def uptoBulkAll {H : Type} : List (DataW H) → Nat
  | [] => 0
  | d :: r => uptoBulk d + uptoBulkAll r
def uptoBulkEntries {H : Type} : List (Lit × DataW H) → Nat
  | [] => 0
  | x :: r => uptoBulkEntry x + uptoBulkEntries r
def uptoBulkEntry {H : Type} : Lit × DataW H → Nat
  | (.string bytes, d) => bytes.length + uptoBulk d + 1
  | (_, d) => uptoBulk d + 1
 end
def uptoSmall : (H : Type) → List (DataW H) → Bool := fun _ ds => decide (uptoBulkAll ds ≤ 1048576)
def OpenSpec.upto (s : _root_.Go.ChangeSpec) : _root_.Go.OpenSpec := { _root_.Go.OpenSpec.ofChange s with cond := some uptoSmall }

/-- 'boomeranglaw12.SavesDue', WHERE WHAT IT READS IS OF BULK AT MOST 1048576: true; the input reads as it did. -/
def savesDueUptoRow : OpenClaim := { program := "ytggbgfdgpkbmhaa", sum := "ed3b54e10d0f810d25be8d48c09095de4b16015c2ff041ab5cc30a68e36e2acb", func := "boomerang/boomeranglaw12.SavesDue", spec := "savesDue", apart := false, narrowed := true }
def SavesDueUptoSaid : Prop := savesDueUptoRow.holds Try.pinned (OpenSpec.upto savesDueSpec)

/-- 'boomeranglaw12.SavesRise', WHERE WHAT IT READS IS OF BULK AT MOST 1048576: true; the input reads as it did. -/
def savesRiseUptoRow : OpenClaim := { program := "ytggbgfdgpkbmhaa", sum := "ed3b54e10d0f810d25be8d48c09095de4b16015c2ff041ab5cc30a68e36e2acb", func := "boomerang/boomeranglaw12.SavesRise", spec := "savesRise", unfollowed := true, recurses := true, apart := false, narrowed := true }
def SavesRiseUptoSaid : Prop := savesRiseUptoRow.holds Try.pinned (OpenSpec.upto savesRiseSpec)

/-- 'boomeranglaw12.SavesPlays', WHERE WHAT IT READS IS OF BULK AT MOST 1048576: true; the input reads as it did. -/
def savesPlaysUptoRow : OpenClaim := { program := "ytggbgfdgpkbmhaa", sum := "ed3b54e10d0f810d25be8d48c09095de4b16015c2ff041ab5cc30a68e36e2acb", func := "boomerang/boomeranglaw12.SavesPlays", spec := "savesPlays", unfollowed := true, recurses := true, apart := false, narrowed := true }
def SavesPlaysUptoSaid : Prop := savesPlaysUptoRow.holds Try.pinned (OpenSpec.upto savesPlaysSpec)

/-- 'boomeranglaw12.SavesLast', WHERE WHAT IT READS IS OF BULK AT MOST 1048576: true; the input reads as it did. -/
def savesLastUptoRow : OpenClaim := { program := "ytggbgfdgpkbmhaa", sum := "ed3b54e10d0f810d25be8d48c09095de4b16015c2ff041ab5cc30a68e36e2acb", func := "boomerang/boomeranglaw12.SavesLast", spec := "savesLast", unfollowed := true, recurses := true, apart := false, narrowed := true }
def SavesLastUptoSaid : Prop := savesLastUptoRow.holds Try.pinned (OpenSpec.upto savesLastSpec)

/-- 'boomeranglaw12.SavesNil', WHERE WHAT IT READS IS OF BULK AT MOST 1048576: true; the input reads as it did. -/
def savesNilUptoRow : OpenClaim := { program := "ytggbgfdgpkbmhaa", sum := "ed3b54e10d0f810d25be8d48c09095de4b16015c2ff041ab5cc30a68e36e2acb", func := "boomerang/boomeranglaw12.SavesNil", spec := "savesNil", unfollowed := true, recurses := true, apart := false, narrowed := true }
def SavesNilUptoSaid : Prop := savesNilUptoRow.holds Try.pinned (OpenSpec.upto savesNilSpec)

/-- 'boomeranglaw12.SavesCuts', WHERE WHAT IT READS IS OF BULK AT MOST 1048576: true; the input reads as it did. -/
def savesCutsUptoRow : OpenClaim := { program := "ytggbgfdgpkbmhaa", sum := "ed3b54e10d0f810d25be8d48c09095de4b16015c2ff041ab5cc30a68e36e2acb", func := "boomerang/boomeranglaw12.SavesCuts", spec := "savesCuts", unfollowed := true, recurses := true, apart := false, narrowed := true }
def SavesCutsUptoSaid : Prop := savesCutsUptoRow.holds Try.pinned (OpenSpec.upto savesCutsSpec)

/-- 'boomeranglaw14.MailBoxes', WHERE WHAT IT READS IS OF BULK AT MOST 1048576: true; the input reads as it did. -/
def mailBoxesUptoRow : OpenClaim := { program := "ytggbgfdgpkbmhaa", sum := "ed3b54e10d0f810d25be8d48c09095de4b16015c2ff041ab5cc30a68e36e2acb", func := "boomerang/boomeranglaw14.MailBoxes", spec := "mailBoxes", unfollowed := true, recurses := true, apart := false, narrowed := true }
def MailBoxesUptoSaid : Prop := mailBoxesUptoRow.holds Try.pinned (OpenSpec.upto mailBoxesSpec)

/-- 'boomeranglaw14.MailPlays', WHERE WHAT IT READS IS OF BULK AT MOST 1048576: true; the input reads as it did. -/
def mailPlaysUptoRow : OpenClaim := { program := "ytggbgfdgpkbmhaa", sum := "ed3b54e10d0f810d25be8d48c09095de4b16015c2ff041ab5cc30a68e36e2acb", func := "boomerang/boomeranglaw14.MailPlays", spec := "mailPlays", unfollowed := true, recurses := true, apart := false, narrowed := true }
def MailPlaysUptoSaid : Prop := mailPlaysUptoRow.holds Try.pinned (OpenSpec.upto mailPlaysSpec)

/-- 'boomeranglaw14.MailTurns', WHERE WHAT IT READS IS OF BULK AT MOST 1048576: true; the input reads as it did. -/
def mailTurnsUptoRow : OpenClaim := { program := "ytggbgfdgpkbmhaa", sum := "ed3b54e10d0f810d25be8d48c09095de4b16015c2ff041ab5cc30a68e36e2acb", func := "boomerang/boomeranglaw14.MailTurns", spec := "mailTurns", unfollowed := true, recurses := true, apart := false, narrowed := true }
def MailTurnsUptoSaid : Prop := mailTurnsUptoRow.holds Try.pinned (OpenSpec.upto mailTurnsSpec)

/-- 'boomeranglaw14.MailNil', WHERE WHAT IT READS IS OF BULK AT MOST 1048576: true; the input reads as it did. -/
def mailNilUptoRow : OpenClaim := { program := "ytggbgfdgpkbmhaa", sum := "ed3b54e10d0f810d25be8d48c09095de4b16015c2ff041ab5cc30a68e36e2acb", func := "boomerang/boomeranglaw14.MailNil", spec := "mailNil", unfollowed := true, recurses := true, apart := false, narrowed := true }
def MailNilUptoSaid : Prop := mailNilUptoRow.holds Try.pinned (OpenSpec.upto mailNilSpec)

end Rows
end Go.Proofs.Ytggbgfdgpkbmhaa
