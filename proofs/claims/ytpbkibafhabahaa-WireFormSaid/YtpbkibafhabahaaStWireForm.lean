/- What is to be shown of governorlaw07_WireForm in plain Lean. -/
import Derived.Test.YtpbkibafhabahaaPrint1
import Derived.Test.YtpbkibafhabahaaOp
namespace Go.Proofs.Ytpbkibafhabahaa.Print
open Go.RowKit Go.Proofs.YtpbkibafhabahaaW.PrintWords
def governorlaw07_WireForm.Pure : Prop := ∀ (l0 : List Int), (l0.length ≤ 9223372036854775807 ∧ ∀ a ∈ l0, (Lit.int .u8 a).wf = true) → governorlaw07_WireForm.f l0 = some true
end Go.Proofs.Ytpbkibafhabahaa.Print
