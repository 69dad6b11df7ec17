/- governorlaw19_PromoteTicks.f is true of every byte: the law itself is shown in the text of the law's walk. -/
import Derived.Test.YtlenanfkphglaaaStPromoteTicks
namespace Go.Proofs.Ytlenanfkphglaaa.Pure
open Go.RowKit Go.Proofs.Ytlenanfkphglaaa.Print Go.Proofs.YtlenanfkphglaaaW.PrintWords Go.Proofs.YtlenanfkphglaaaW.PrintLast
theorem PromoteTicks : governorlaw19_PromoteTicks.Pure := by
  unfold governorlaw19_PromoteTicks.Pure
  intro x0 a1 x2 x3 l4 _ h3 _ _ _
  unfold governorlaw19_PromoteTicks.f
  rw [if_pos]
  simp [Lit.wf] at h3
  have h0 : IntKind.u8.min = 0 := rfl
  have h1 : IntKind.u8.max = 255 := rfl
  omega
end Go.Proofs.Ytlenanfkphglaaa.Pure
