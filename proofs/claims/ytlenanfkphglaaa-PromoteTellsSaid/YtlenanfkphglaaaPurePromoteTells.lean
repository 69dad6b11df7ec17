/- Pruned: a text of this claim's: words and walks that the claim's theorem uses. -/
import Derived.Test.YtlenanfkphglaaaStPromoteTells
namespace Go.Proofs.Ytlenanfkphglaaa.Pure
open Go.RowKit Go.Proofs.Ytlenanfkphglaaa.Print Go.Proofs.YtlenanfkphglaaaW.PrintWords Go.Proofs.YtlenanfkphglaaaW.PrintLast
theorem PromoteTells : governorlaw19_PromoteTells.Pure := by
  unfold governorlaw19_PromoteTells.Pure
  intros
  rfl
end Go.Proofs.Ytlenanfkphglaaa.Pure
