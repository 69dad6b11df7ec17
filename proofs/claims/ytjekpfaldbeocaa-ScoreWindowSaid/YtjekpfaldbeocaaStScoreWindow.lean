/- What is to be shown of governorlaw17_ScoreWindow in plain Lean. -/
import Derived.Test.YtjekpfaldbeocaaPrint5
import Derived.Test.YtjekpfaldbeocaaOp
namespace Go.Proofs.Ytjekpfaldbeocaa.Print
open Go.RowKit Go.Proofs.YtjekpfaldbeocaaW.PrintWords
def governorlaw17_ScoreWindow.Pure : Prop := ∀ (a0 : Int) (l1 : List (S27)) (l2 : List (S27)), (Lit.int .u8 a0).wf = true → (l1.length ≤ 9223372036854775807 ∧ ∀ a ∈ l1, wf27 a) → (l2.length ≤ 9223372036854775807 ∧ ∀ a ∈ l2, wf27 a) → ∃ k, governorlaw17_ScoreWindow.f k a0 l1 l2 = some true
end Go.Proofs.Ytjekpfaldbeocaa.Print
