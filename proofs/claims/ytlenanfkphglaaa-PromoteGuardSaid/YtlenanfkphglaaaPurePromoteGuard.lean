/- governorlaw19_PromoteGuard.f is true of all: the law itself is shown in the text of the law's walk. -/
import Derived.Test.YtlenanfkphglaaaStPromoteGuard
namespace Go.Proofs.Ytlenanfkphglaaa.Pure
open Go.RowKit Go.Proofs.Ytlenanfkphglaaa.Print Go.Proofs.YtlenanfkphglaaaW.PrintWords Go.Proofs.YtlenanfkphglaaaW.PrintLast
theorem PromoteGuard : governorlaw19_PromoteGuard.Pure := by
  unfold governorlaw19_PromoteGuard.Pure
  intros
  rfl
end Go.Proofs.Ytlenanfkphglaaa.Pure
