/- Behind what was wrong nothing is read, and that is told still; a number that is not within bounds is wrong. No condition. -/
import Derived.Test.YtpbkibafhabahaaStWireWrong
namespace Go.Proofs.Ytpbkibafhabahaa.Pure
open Go.RowKit Go.Proofs.Ytpbkibafhabahaa.Print Go.Proofs.YtpbkibafhabahaaW.PrintWords

theorem WireWrong : governorlaw07_WireWrong.Pure := by
  intro a0 a1 a2 l3 h0 h1 h2 h3
  unfold governorlaw07_WireWrong.f
  rw [if_pos (by rw [Bool.and_eq_true, List.all_eq_true]; exact ⟨h0, h3.2⟩)]

end Go.Proofs.Ytpbkibafhabahaa.Pure
