/- governorlaw19_PromoteNone.f is true of all: the law itself is shown in the text of the law's walk. -/
import Derived.Test.YtlenanfkphglaaaStPromoteNone
namespace Go.Proofs.Ytlenanfkphglaaa.Pure
open Go.RowKit Go.Proofs.Ytlenanfkphglaaa.Print Go.Proofs.YtlenanfkphglaaaW.PrintWords Go.Proofs.YtlenanfkphglaaaW.PrintLast
theorem PromoteNone : governorlaw19_PromoteNone.Pure := by
  unfold governorlaw19_PromoteNone.Pure
  intros
  rfl
end Go.Proofs.Ytlenanfkphglaaa.Pure
