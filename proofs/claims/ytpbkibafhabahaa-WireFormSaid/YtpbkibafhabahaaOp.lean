/- How this claim's structs are read as data: by the words of the print. -/
import Derived.Test.YtpbkibafhabahaaPrint0
import Derived.Test.YtpbkibafhabahaaOpen
namespace Go.Proofs.Ytpbkibafhabahaa.Print
open Go.RowKit Go.Proofs.YtpbkibafhabahaaW.PrintWords Go.Proofs.YtpbkibafhabahaaW.Open
def wf30 (x : S30) : Prop := (Lit.int .i64 x.f0).wf = true ∧ (Lit.int .i64 x.f1).wf = true ∧ (Lit.int .i64 x.f2).wf = true
theorem op30 : Opens Try.prog 30 k30 wf30 := by
  have h := opens_struct Try.underlying30 (fun x : S30 => (x.f0, x.f1, x.f2)) (fun a => (⟨a.1, a.2.1, a.2.2⟩ : S30)) (fun _ => rfl) (opens_field rfl (by kernel_rfl) (opens_int Try.underlying3) (opens_field rfl (by kernel_rfl) (opens_int Try.underlying2) (opens_last rfl (by kernel_rfl) (opens_int Try.underlying2)))) (by kernel_rfl)
  exact h
end Go.Proofs.Ytpbkibafhabahaa.Print
