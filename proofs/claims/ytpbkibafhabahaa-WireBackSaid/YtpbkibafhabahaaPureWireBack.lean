/- What was written is read, in the same order, and nothing is left; of fewer bytes it is not. No condition. -/
import Derived.Test.YtpbkibafhabahaaStWireBack
namespace Go.Proofs.Ytpbkibafhabahaa.Pure
open Go.RowKit Go.Proofs.Ytpbkibafhabahaa.Print Go.Proofs.YtpbkibafhabahaaW.PrintWords

theorem WireBack : governorlaw07_WireBack.Pure := by
  intro l0 l1 a2 h0 h1 h2
  unfold governorlaw07_WireBack.f
  rw [if_pos (by rw [Bool.and_eq_true, Bool.and_eq_true, List.all_eq_true, List.all_eq_true]; exact ⟨h0.2, h1.2, h2⟩)]

end Go.Proofs.Ytpbkibafhabahaa.Pure
