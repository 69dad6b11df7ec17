/- What is to be shown of governorlaw07_WireBack in plain Lean. -/
import Derived.Test.YtpbkibafhabahaaPrint1
import Derived.Test.YtpbkibafhabahaaOp
namespace Go.Proofs.Ytpbkibafhabahaa.Print
open Go.RowKit Go.Proofs.YtpbkibafhabahaaW.PrintWords
def governorlaw07_WireBack.Pure : Prop := ∀ (l0 : List Int) (l1 : List Int) (a2 : Int), (l0.length ≤ 9223372036854775807 ∧ ∀ a ∈ l0, (Lit.int .i64 a).wf = true) → (l1.length ≤ 9223372036854775807 ∧ ∀ a ∈ l1, (Lit.int .u8 a).wf = true) → (Lit.int .u16 a2).wf = true → governorlaw07_WireBack.f l0 l1 a2 = some true
end Go.Proofs.Ytpbkibafhabahaa.Print
