/- How this claim's structs are read as data: by the words of the print. -/
import Derived.Test.YtgfpkgbkbempkaaPrint0
import Derived.Test.YtgfpkgbkbempkaaOpen
namespace Go.Proofs.Ytgfpkgbkbempkaa.Print
open Go.RowKit Go.Proofs.YtgfpkgbkbempkaaW.PrintWords Go.Proofs.YtgfpkgbkbempkaaW.Open
def wf24 (x : S24) : Prop := (Lit.int .i64 x.f0).wf = true ∧ (Lit.int .i64 x.f1).wf = true ∧ (x.f2.length ≤ 9223372036854775807 ∧ ∀ a ∈ x.f2, (Lit.int .u8 a).wf = true)
theorem op24 : Opens Try.prog 24 k24 wf24 := by
  have h := opens_struct Try.underlying24 (fun x : S24 => (x.f0, x.f1, x.f2)) (fun a => (⟨a.1, a.2.1, a.2.2⟩ : S24)) (fun _ => rfl) (opens_field rfl (by kernel_rfl) (opens_int Try.underlying3) (opens_field rfl (by kernel_rfl) (opens_int Try.underlying2) (opens_last rfl (by kernel_rfl) (opens_slice Try.underlying22 (by kernel_rfl) (opens_int Try.underlying5))))) (by kernel_rfl)
  exact h
end Go.Proofs.Ytgfpkgbkbempkaa.Print
