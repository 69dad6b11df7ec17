/- What is to be shown of governorlaw07_WireReads in plain Lean. -/
import Derived.Test.YtpbkibafhabahaaPrint1
import Derived.Test.YtpbkibafhabahaaOp
namespace Go.Proofs.Ytpbkibafhabahaa.Print
open Go.RowKit Go.Proofs.YtpbkibafhabahaaW.PrintWords
def governorlaw07_WireReads.Pure : Prop := ∀ (l0 : List Int) (l1 : List (S30)), (l0.length ≤ 9223372036854775807 ∧ ∀ a ∈ l0, (Lit.int .u8 a).wf = true) → (l1.length ≤ 9223372036854775807 ∧ ∀ a ∈ l1, wf30 a) → governorlaw07_WireReads.f l0 l1 = some true
end Go.Proofs.Ytpbkibafhabahaa.Print
