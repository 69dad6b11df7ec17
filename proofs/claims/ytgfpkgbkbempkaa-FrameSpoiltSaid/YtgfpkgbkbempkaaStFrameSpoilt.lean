/- What is to be shown of governorlaw03_FrameSpoilt in plain Lean. -/
import Derived.Test.YtgfpkgbkbempkaaPrint6
import Derived.Test.YtgfpkgbkbempkaaOp
namespace Go.Proofs.Ytgfpkgbkbempkaa.Print
open Go.RowKit Go.Proofs.YtgfpkgbkbempkaaW.PrintWords
def governorlaw03_FrameSpoilt.Pure : Prop := ∀ (x0 : S24) (a1 : Int) (a2 : Int), wf24 x0 → (Lit.int .u16 a1).wf = true → (Lit.int .u8 a2).wf = true → ∃ k, governorlaw03_FrameSpoilt.f k x0.f0 x0.f1 x0.f2 a1 a2 = some true
end Go.Proofs.Ytgfpkgbkbempkaa.Print
