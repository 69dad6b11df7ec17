/- What is to be shown of governorlaw03_FrameCuts in plain Lean. -/
import Derived.Test.YtgfpkgbkbempkaaPrint5
import Derived.Test.YtgfpkgbkbempkaaOp
namespace Go.Proofs.Ytgfpkgbkbempkaa.Print
open Go.RowKit Go.Proofs.YtgfpkgbkbempkaaW.PrintWords
def governorlaw03_FrameCuts.Pure : Prop := ∀ (l0 : List (List Int)) (a1 : Int) (a2 : Int), (l0.length ≤ 9223372036854775807 ∧ ∀ a ∈ l0, (a.length ≤ 9223372036854775807 ∧ ∀ aa ∈ a, (Lit.int .u8 aa).wf = true)) → (Lit.int .u16 a1).wf = true → (Lit.int .u16 a2).wf = true → ∃ k, governorlaw03_FrameCuts.f k l0 a1 a2 = some true
end Go.Proofs.Ytgfpkgbkbempkaa.Print
