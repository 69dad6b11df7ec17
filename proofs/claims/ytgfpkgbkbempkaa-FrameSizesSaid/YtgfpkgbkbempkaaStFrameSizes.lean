/- What is to be shown of governorlaw03_FrameSizes in plain Lean. -/
import Derived.Test.YtgfpkgbkbempkaaPrint7
import Derived.Test.YtgfpkgbkbempkaaOp
namespace Go.Proofs.Ytgfpkgbkbempkaa.Print
open Go.RowKit Go.Proofs.YtgfpkgbkbempkaaW.PrintWords
def governorlaw03_FrameSizes.Pure : Prop := ∀ (x0 : S24) (x1 : S24), wf24 x0 → wf24 x1 → ∃ k, governorlaw03_FrameSizes.f k x0.f0 x0.f1 x0.f2 x1.f0 x1.f1 x1.f2 = some true
end Go.Proofs.Ytgfpkgbkbempkaa.Print
