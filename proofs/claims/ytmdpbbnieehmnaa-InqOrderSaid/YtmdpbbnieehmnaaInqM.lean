/- InqOrder: the walk, by its numbers. -/
import Derived.Test.YtmdpbbnieehmnaaInqL
namespace Go.Proofs.Ytmdpbbnieehmnaa
open Go.RowKit

theorem inqOrder_any (a0 a1 a2 a3 a4 a5 a6 a7 a8 a9 a10 a11 a12 a13 a14 a15 a16 a17 a18 a19 a20 : Int) (w : World) :
    Calls Try.prog 10 #[.agg #[.int .i64 a0, .int .i64 a1, .int .i64 a2, .int .i64 a3, .int .i64 a4, .int .i64 a5, .int .i64 a6], .agg #[.int .i64 a7, .int .i64 a8, .int .i64 a9, .int .i64 a10, .int .i64 a11, .int .i64 a12, .int .i64 a13], .agg #[.int .i64 a14, .int .i64 a15, .int .i64 a16, .int .i64 a17, .int .i64 a18, .int .i64 a19, .int .i64 a20]] w fun e w' => e = .returned (.bool true) ∧ Below w.heap.size w w' := inqOrder_ev ⟨a0, a1, a2, a3, a4, a5, a6⟩ ⟨a7, a8, a9, a10, a11, a12, a13⟩ ⟨a14, a15, a16, a17, a18, a19, a20⟩ w
end Go.Proofs.Ytmdpbbnieehmnaa
