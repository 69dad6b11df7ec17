/- What is to be shown of governorlaw07_WireWrong in plain Lean. -/
import Derived.Test.YtpbkibafhabahaaPrint1
import Derived.Test.YtpbkibafhabahaaOp
namespace Go.Proofs.Ytpbkibafhabahaa.Print
open Go.RowKit Go.Proofs.YtpbkibafhabahaaW.PrintWords
def governorlaw07_WireWrong.Pure : Prop := ∀ (a0 : Int) (a1 : Int) (a2 : Int) (l3 : List Int), (Lit.int .i64 a0).wf = true → (Lit.int .i64 a1).wf = true → (Lit.int .i64 a2).wf = true → (l3.length ≤ 9223372036854775807 ∧ ∀ a ∈ l3, (Lit.int .u8 a).wf = true) → governorlaw07_WireWrong.f a0 a1 a2 l3 = some true
end Go.Proofs.Ytpbkibafhabahaa.Print
