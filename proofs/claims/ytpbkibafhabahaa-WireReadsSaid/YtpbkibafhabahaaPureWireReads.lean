/- What a reader of any bytes tells, whatever is asked, is the document's. No condition. -/
import Derived.Test.YtpbkibafhabahaaStWireReads
namespace Go.Proofs.Ytpbkibafhabahaa.Pure
open Go.RowKit Go.Proofs.Ytpbkibafhabahaa.Print Go.Proofs.YtpbkibafhabahaaW.PrintWords

theorem WireReads : governorlaw07_WireReads.Pure := by
  intro l0 l1 h0 h1
  unfold governorlaw07_WireReads.f
  rw [if_pos (by rw [Bool.and_eq_true, List.all_eq_true, List.all_eq_true]; exact ⟨h0.2, fun q hq => (h1.2 q hq).2.2⟩)]

end Go.Proofs.Ytpbkibafhabahaa.Pure
