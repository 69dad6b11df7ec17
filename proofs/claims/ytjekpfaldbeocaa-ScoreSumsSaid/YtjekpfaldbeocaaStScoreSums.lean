/- What is to be shown of governorlaw17_ScoreSums in plain Lean. -/
import Derived.Test.YtjekpfaldbeocaaPrint5
import Derived.Test.YtjekpfaldbeocaaOp
namespace Go.Proofs.Ytjekpfaldbeocaa.Print
open Go.RowKit Go.Proofs.YtjekpfaldbeocaaW.PrintWords
def governorlaw17_ScoreSums.Pure : Prop := ∀ (l0 : List (S27)) (l1 : List (S27)), (l0.length ≤ 9223372036854775807 ∧ ∀ a ∈ l0, wf27 a) → (l1.length ≤ 9223372036854775807 ∧ ∀ a ∈ l1, wf27 a) → ∃ k, governorlaw17_ScoreSums.f k l0 l1 = some true
end Go.Proofs.Ytjekpfaldbeocaa.Print
