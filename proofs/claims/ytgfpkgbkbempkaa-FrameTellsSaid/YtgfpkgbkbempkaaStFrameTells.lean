/- What is to be shown of governorlaw03_FrameTells in plain Lean. -/
import Derived.Test.YtgfpkgbkbempkaaPrint5
import Derived.Test.YtgfpkgbkbempkaaOp
namespace Go.Proofs.Ytgfpkgbkbempkaa.Print
open Go.RowKit Go.Proofs.YtgfpkgbkbempkaaW.PrintWords
def governorlaw03_FrameTells.Pure : Prop := ∀ (x0 : S24) (l1 : List Int) (a2 : Int), wf24 x0 → (l1.length ≤ 9223372036854775807 ∧ ∀ a ∈ l1, (Lit.int .u8 a).wf = true) → (Lit.int .i64 a2).wf = true → ∃ k, governorlaw03_FrameTells.f k x0.f0 x0.f1 x0.f2 l1 a2 = some true
end Go.Proofs.Ytgfpkgbkbempkaa.Print
