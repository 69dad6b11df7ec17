/- What is to be shown of governorlaw19_PromoteNone in plain Lean. -/
import Derived.Test.YtlenanfkphglaaaPrint10
import Derived.Test.YtlenanfkphglaaaOp
namespace Go.Proofs.Ytlenanfkphglaaa.Print
open Go.RowKit Go.Proofs.YtlenanfkphglaaaW.PrintWords
def governorlaw19_PromoteNone.Pure : Prop := ∀ (x0 : S23) (x1 : S37) (l2 : List (S37)), wf23 x0 → wf37 x1 → (l2.length ≤ 9223372036854775807 ∧ ∀ a ∈ l2, wf37 a) → governorlaw19_PromoteNone.f x0.f0 x0.f1 x0.f2 x0.f3 x0.f4 x0.f5 x0.f6 x0.f7 x0.f8 x0.f9 x0.f10 x0.f11 x1.f0.f0 x1.f0.f1 x1.f0.f2 x1.f0.f3 x1.f0.f4 x1.f0.f5 x1.f0.f6 x1.f0.f7 x1.f1.f0 x1.f1.f1 x1.f1.f2 x1.f2.f0 x1.f2.f1 x1.f2.f2 x1.f3.f0 x1.f3.f1 x1.f3.f2 x1.f3.f3 x1.f4 l2 = some true
end Go.Proofs.Ytlenanfkphglaaa.Print
