/- What is to be shown of governorlaw17_ScoreShort in plain Lean. -/
import Derived.Test.YtjekpfaldbeocaaPrint7
import Derived.Test.YtjekpfaldbeocaaOp
namespace Go.Proofs.Ytjekpfaldbeocaa.Print
open Go.RowKit Go.Proofs.YtjekpfaldbeocaaW.PrintWords
def governorlaw17_ScoreShort.Pure : Prop := ∀ (x0 : S33) (l1 : List (S27)) (l2 : List (S27)), wf33 x0 → (l1.length ≤ 9223372036854775807 ∧ ∀ a ∈ l1, wf27 a) → (l2.length ≤ 9223372036854775807 ∧ ∀ a ∈ l2, wf27 a) → ∃ k, governorlaw17_ScoreShort.f k x0.f0 x0.f1 x0.f2 x0.f3 x0.f4 x0.f5 x0.f6 x0.f7 x0.f8 x0.f9 x0.f10 x0.f11 l1 l2 = some true
end Go.Proofs.Ytjekpfaldbeocaa.Print
