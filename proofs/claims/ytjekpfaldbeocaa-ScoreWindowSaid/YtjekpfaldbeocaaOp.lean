/- How this claim's structs are read as data: by the words of the print. -/
import Derived.Test.YtjekpfaldbeocaaPrint0
import Derived.Test.YtjekpfaldbeocaaOpen
namespace Go.Proofs.Ytjekpfaldbeocaa.Print
open Go.RowKit Go.Proofs.YtjekpfaldbeocaaW.PrintWords Go.Proofs.YtjekpfaldbeocaaW.Open
def wf27 (x : S27) : Prop := (Lit.int .i64 x.f0).wf = true ∧ True
theorem op27 : Opens Try.prog 27 k27 wf27 := by
  have h := opens_struct Try.underlying27 (fun x : S27 => (x.f0, x.f1)) (fun a => (⟨a.1, a.2⟩ : S27)) (fun _ => rfl) (opens_field rfl (by kernel_rfl) (opens_int Try.underlying2) (opens_last rfl (by kernel_rfl) (opens_bool Try.underlying4))) (by kernel_rfl)
  exact h
def wf33 (x : S33) : Prop := (Lit.int .i64 x.f0).wf = true ∧ (Lit.int .i64 x.f1).wf = true ∧ (Lit.int .i64 x.f2).wf = true ∧ (Lit.int .i64 x.f3).wf = true ∧ (Lit.int .i64 x.f4).wf = true ∧ (Lit.int .i64 x.f5).wf = true ∧ (Lit.int .i64 x.f6).wf = true ∧ (Lit.int .i64 x.f7).wf = true ∧ (Lit.int .i64 x.f8).wf = true ∧ (Lit.int .i64 x.f9).wf = true ∧ (Lit.int .i64 x.f10).wf = true ∧ (Lit.int .i64 x.f11).wf = true
theorem op33 : Opens Try.prog 33 k33 wf33 := by
  have h := opens_struct Try.underlying33 (fun x : S33 => (x.f0, x.f1, x.f2, x.f3, x.f4, x.f5, x.f6, x.f7, x.f8, x.f9, x.f10, x.f11)) (fun a => (⟨a.1, a.2.1, a.2.2.1, a.2.2.2.1, a.2.2.2.2.1, a.2.2.2.2.2.1, a.2.2.2.2.2.2.1, a.2.2.2.2.2.2.2.1, a.2.2.2.2.2.2.2.2.1, a.2.2.2.2.2.2.2.2.2.1, a.2.2.2.2.2.2.2.2.2.2.1, a.2.2.2.2.2.2.2.2.2.2.2⟩ : S33)) (fun _ => rfl) (opens_field rfl (by kernel_rfl) (opens_int Try.underlying3) (opens_field rfl (by kernel_rfl) (opens_int Try.underlying3) (opens_field rfl (by kernel_rfl) (opens_int Try.underlying3) (opens_field rfl (by kernel_rfl) (opens_int Try.underlying2) (opens_field rfl (by kernel_rfl) (opens_int Try.underlying2) (opens_field rfl (by kernel_rfl) (opens_int Try.underlying3) (opens_field rfl (by kernel_rfl) (opens_int Try.underlying2) (opens_field rfl (by kernel_rfl) (opens_int Try.underlying3) (opens_field rfl (by kernel_rfl) (opens_int Try.underlying2) (opens_field rfl (by kernel_rfl) (opens_int Try.underlying3) (opens_field rfl (by kernel_rfl) (opens_int Try.underlying3) (opens_last rfl (by kernel_rfl) (opens_int Try.underlying3))))))))))))) (by kernel_rfl)
  exact h
end Go.Proofs.Ytjekpfaldbeocaa.Print
