/- The bytes of any numbers and texts are the document's. No condition. -/
import Derived.Test.YtpbkibafhabahaaStWireWrites
namespace Go.Proofs.Ytpbkibafhabahaa.Pure
open Go.RowKit Go.Proofs.Ytpbkibafhabahaa.Print Go.Proofs.YtpbkibafhabahaaW.PrintWords

theorem WireWrites : governorlaw07_WireWrites.Pure := by
  intro l0 l1 h0 h1
  unfold governorlaw07_WireWrites.f
  rw [if_pos (by rw [List.all_eq_true]; exact h0.2)]

end Go.Proofs.Ytpbkibafhabahaa.Pure
