/- What is to be shown of governorlaw19_PromoteTicks in plain Lean. -/
import Derived.Test.YtlenanfkphglaaaPrint9
import Derived.Test.YtlenanfkphglaaaOp
namespace Go.Proofs.Ytlenanfkphglaaa.Print
open Go.RowKit Go.Proofs.YtlenanfkphglaaaW.PrintWords
def governorlaw19_PromoteTicks.Pure : Prop := ∀ (x0 : S23) (a1 : Int) (x2 : S27) (x3 : S29) (l4 : List Bool), wf23 x0 → (Lit.int .u8 a1).wf = true → wf27 x2 → wf29 x3 → (l4.length ≤ 9223372036854775807 ∧ ∀ a ∈ l4, True) → governorlaw19_PromoteTicks.f x0.f0 x0.f1 x0.f2 x0.f3 x0.f4 x0.f5 x0.f6 x0.f7 x0.f8 x0.f9 x0.f10 x0.f11 a1 x2.f0 x2.f1 x2.f2 x2.f3 x2.f4 x2.f5 x2.f6 x2.f7 x3.f0 x3.f1 x3.f2 l4 = some true
end Go.Proofs.Ytlenanfkphglaaa.Print
