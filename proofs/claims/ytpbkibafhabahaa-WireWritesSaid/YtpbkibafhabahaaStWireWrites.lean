/- What is to be shown of governorlaw07_WireWrites in plain Lean. -/
import Derived.Test.YtpbkibafhabahaaPrint1
import Derived.Test.YtpbkibafhabahaaOp
namespace Go.Proofs.Ytpbkibafhabahaa.Print
open Go.RowKit Go.Proofs.YtpbkibafhabahaaW.PrintWords
def governorlaw07_WireWrites.Pure : Prop := ∀ (l0 : List Int) (l1 : List (List Int)), (l0.length ≤ 9223372036854775807 ∧ ∀ a ∈ l0, (Lit.int .i64 a).wf = true) → (l1.length ≤ 9223372036854775807 ∧ ∀ a ∈ l1, (a.length ≤ 9223372036854775807 ∧ ∀ aa ∈ a, (Lit.int .u8 aa).wf = true)) → governorlaw07_WireWrites.f l0 l1 = some true
end Go.Proofs.Ytpbkibafhabahaa.Print
