/- governorlaw19_PromoteAlone.f is true of every byte: the law itself is shown in the text of the law's walk. -/
import Derived.Test.YtlenanfkphglaaaStPromoteAlone
namespace Go.Proofs.Ytlenanfkphglaaa.Pure
open Go.RowKit Go.Proofs.Ytlenanfkphglaaa.Print Go.Proofs.YtlenanfkphglaaaW.PrintWords Go.Proofs.YtlenanfkphglaaaW.PrintLast
theorem PromoteAlone : governorlaw19_PromoteAlone.Pure := by
  unfold governorlaw19_PromoteAlone.Pure
  intro x0 x1 l2 a3 _ _ _ h3
  unfold governorlaw19_PromoteAlone.f
  rw [if_pos]
  simp [Lit.wf] at h3
  have h0 : IntKind.u8.min = 0 := rfl
  have h1 : IntKind.u8.max = 255 := rfl
  omega
end Go.Proofs.Ytlenanfkphglaaa.Pure
