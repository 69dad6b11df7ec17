/- Bytes that are read to their end as numbers are those that are written of what was read. No condition. -/
import Derived.Test.YtpbkibafhabahaaStWireForm
namespace Go.Proofs.Ytpbkibafhabahaa.Pure
open Go.RowKit Go.Proofs.Ytpbkibafhabahaa.Print Go.Proofs.YtpbkibafhabahaaW.PrintWords

theorem WireForm : governorlaw07_WireForm.Pure := by
  intro l0 h0
  unfold governorlaw07_WireForm.f
  rw [if_pos (by rw [List.all_eq_true]; exact h0.2)]

end Go.Proofs.Ytpbkibafhabahaa.Pure
