/- Pruned: a text of this claim's: words and walks that the claim's theorem uses. -/
import Derived.Test.YtlenanfkphglaaaWInv
import Derived.Test.YtlenanfkphglaaaWFootNe
namespace Go.Proofs.YtlenanfkphglaaaW.PrintWords
open Go.RowKit
end Go.Proofs.YtlenanfkphglaaaW.PrintWords
namespace Go.Proofs.YtlenanfkphglaaaW.PrintLast
section
variable {ops : Array Oper} {a : Act} {o og : Oper} {g : Nat} {t : Tmp} {u : Bool}
end
end Go.Proofs.YtlenanfkphglaaaW.PrintLast
