/- Pruned: a text of this claim's: words and walks that the claim's theorem uses. -/
import Derived.Test.YtlenanfkphglaaaWN
namespace Go.Proofs.YtlenanfkphglaaaW.PrintWords
open Go.RowKit
namespace Kd
section
variable {α : Type} {d : Kd α} {W : World} {g n : Nat} {S ok : Nat → Prop} {A : Option Addr} {ad : Addr} {xs : List α}
end
end Kd
end Go.Proofs.YtlenanfkphglaaaW.PrintWords
