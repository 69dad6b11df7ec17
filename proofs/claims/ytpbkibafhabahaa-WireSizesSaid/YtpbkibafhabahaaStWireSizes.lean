/- What is to be shown of governorlaw07_WireSizes in plain Lean. -/
import Derived.Test.YtpbkibafhabahaaPrint1
import Derived.Test.YtpbkibafhabahaaOp
namespace Go.Proofs.Ytpbkibafhabahaa.Print
open Go.RowKit Go.Proofs.YtpbkibafhabahaaW.PrintWords
def governorlaw07_WireSizes.Pure : Prop := ∀ (a0 : Int) (l1 : List Int), (Lit.int .i64 a0).wf = true → (l1.length ≤ 9223372036854775807 ∧ ∀ a ∈ l1, (Lit.int .u8 a).wf = true) → governorlaw07_WireSizes.f a0 l1 = some true
end Go.Proofs.Ytpbkibafhabahaa.Print
