/- A number has a byte for each seven binary digits of its count, one at least, ten at most; a text as many more as it is long. No condition. -/
import Derived.Test.YtpbkibafhabahaaStWireSizes
namespace Go.Proofs.Ytpbkibafhabahaa.Pure
open Go.RowKit Go.Proofs.Ytpbkibafhabahaa.Print Go.Proofs.YtpbkibafhabahaaW.PrintWords

theorem WireSizes : governorlaw07_WireSizes.Pure := by
  intro a0 l1 h0 h1
  unfold governorlaw07_WireSizes.f
  rw [if_pos h0]

end Go.Proofs.Ytpbkibafhabahaa.Pure
