/- Pruned: a text of this claim's: words and walks that the claim's theorem uses. -/
import Derived.Test.YtlenanfkphglaaaWTab
namespace Go.Proofs.YtlenanfkphglaaaW.PrintLast
section
variable {P : Program} {ops : Array Oper} {Q : Exit → Act → World → Prop} {md : Region.Mode} {S : World → Prop} {ds : List Nat} {T : Bool × List (List Nat × List Nat)}
end
end Go.Proofs.YtlenanfkphglaaaW.PrintLast
