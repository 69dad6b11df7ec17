/- What is to be shown of governorlaw03_FrameRow in plain Lean. -/
import Derived.Test.YtgfpkgbkbempkaaPrint6
import Derived.Test.YtgfpkgbkbempkaaOp
namespace Go.Proofs.Ytgfpkgbkbempkaa.Print
open Go.RowKit Go.Proofs.YtgfpkgbkbempkaaW.PrintWords
def governorlaw03_FrameRow.Pure : Prop := ∀ (l0 : List Int) (a1 : Int), (l0.length ≤ 9223372036854775807 ∧ ∀ a ∈ l0, (Lit.int .u8 a).wf = true) → (Lit.int .u8 a1).wf = true → ∃ k, governorlaw03_FrameRow.f k l0 a1 = some true
end Go.Proofs.Ytgfpkgbkbempkaa.Print
