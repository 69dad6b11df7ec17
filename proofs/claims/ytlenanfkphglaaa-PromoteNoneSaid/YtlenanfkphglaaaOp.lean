/- Pruned: a text of this claim's: words and walks that the claim's theorem uses. -/
import Derived.Test.YtlenanfkphglaaaPrint0
import Derived.Test.YtlenanfkphglaaaOpen
namespace Go.Proofs.Ytlenanfkphglaaa.Print
open Go.RowKit Go.Proofs.YtlenanfkphglaaaW.PrintWords Go.Proofs.YtlenanfkphglaaaW.Open
def wf72 (x : S72) : Prop := (Lit.int .i64 x.f0).wf = true ∧ (Lit.int .i64 x.f1).wf = true
theorem op72 : Opens Try.prog 72 k72 wf72 := by
  have h := opens_struct Try.underlying72 (fun x : S72 => (x.f0, x.f1)) (fun a => (⟨a.1, a.2⟩ : S72)) (fun _ => rfl) (opens_field rfl (by kernel_rfl) (opens_int Try.underlying2) (opens_last rfl (by kernel_rfl) (opens_int Try.underlying3))) (by kernel_rfl)
  exact h
def wf74 (x : S74) : Prop := (Lit.int .i64 x.f0).wf = true ∧ (Lit.int .i64 x.f1).wf = true
theorem op74 : Opens Try.prog 74 k74 wf74 := by
  have h := opens_struct Try.underlying74 (fun x : S74 => (x.f0, x.f1)) (fun a => (⟨a.1, a.2⟩ : S74)) (fun _ => rfl) (opens_field rfl (by kernel_rfl) (opens_int Try.underlying2) (opens_last rfl (by kernel_rfl) (opens_int Try.underlying3))) (by kernel_rfl)
  exact h
def wf27 (x : S27) : Prop := (Lit.int .i64 x.f0).wf = true ∧ (Lit.int .i64 x.f1).wf = true ∧ (x.f2.length ≤ 9223372036854775807 ∧ ∀ a ∈ x.f2, wf72 a) ∧ (Lit.int .i64 x.f3).wf = true ∧ (Lit.int .i64 x.f4).wf = true ∧ (Lit.int .i64 x.f5).wf = true ∧ (Lit.int .i64 x.f6).wf = true ∧ (x.f7.length ≤ 9223372036854775807 ∧ ∀ a ∈ x.f7, wf74 a)
theorem op27 : Opens Try.prog 27 k27 wf27 := by
  have h := opens_struct Try.underlying27 (fun x : S27 => (x.f0, x.f1, x.f2, x.f3, x.f4, x.f5, x.f6, x.f7)) (fun a => (⟨a.1, a.2.1, a.2.2.1, a.2.2.2.1, a.2.2.2.2.1, a.2.2.2.2.2.1, a.2.2.2.2.2.2.1, a.2.2.2.2.2.2.2⟩ : S27)) (fun _ => rfl) (opens_field rfl (by kernel_rfl) (opens_int Try.underlying3) (opens_field rfl (by kernel_rfl) (opens_int Try.underlying2) (opens_field rfl (by kernel_rfl) (opens_slice Try.underlying24 (by kernel_rfl) op72) (opens_field rfl (by kernel_rfl) (opens_int Try.underlying2) (opens_field rfl (by kernel_rfl) (opens_int Try.underlying2) (opens_field rfl (by kernel_rfl) (opens_int Try.underlying2) (opens_field rfl (by kernel_rfl) (opens_int Try.underlying2) (opens_last rfl (by kernel_rfl) (opens_slice Try.underlying25 (by kernel_rfl) op74))))))))) (by kernel_rfl)
  exact h
def wf23 (x : S23) : Prop := (Lit.int .i64 x.f0).wf = true ∧ (Lit.int .i64 x.f1).wf = true ∧ (Lit.int .i64 x.f2).wf = true ∧ (Lit.int .i64 x.f3).wf = true ∧ (Lit.int .i64 x.f4).wf = true ∧ (Lit.int .i64 x.f5).wf = true ∧ (Lit.int .i64 x.f6).wf = true ∧ (Lit.int .i64 x.f7).wf = true ∧ (Lit.int .i64 x.f8).wf = true ∧ (Lit.int .i64 x.f9).wf = true ∧ (Lit.int .i64 x.f10).wf = true ∧ (Lit.int .i64 x.f11).wf = true
theorem op23 : Opens Try.prog 23 k23 wf23 := by
  have h := opens_struct Try.underlying23 (fun x : S23 => (x.f0, x.f1, x.f2, x.f3, x.f4, x.f5, x.f6, x.f7, x.f8, x.f9, x.f10, x.f11)) (fun a => (⟨a.1, a.2.1, a.2.2.1, a.2.2.2.1, a.2.2.2.2.1, a.2.2.2.2.2.1, a.2.2.2.2.2.2.1, a.2.2.2.2.2.2.2.1, a.2.2.2.2.2.2.2.2.1, a.2.2.2.2.2.2.2.2.2.1, a.2.2.2.2.2.2.2.2.2.2.1, a.2.2.2.2.2.2.2.2.2.2.2⟩ : S23)) (fun _ => rfl) (opens_field rfl (by kernel_rfl) (opens_int Try.underlying3) (opens_field rfl (by kernel_rfl) (opens_int Try.underlying3) (opens_field rfl (by kernel_rfl) (opens_int Try.underlying3) (opens_field rfl (by kernel_rfl) (opens_int Try.underlying2) (opens_field rfl (by kernel_rfl) (opens_int Try.underlying2) (opens_field rfl (by kernel_rfl) (opens_int Try.underlying3) (opens_field rfl (by kernel_rfl) (opens_int Try.underlying2) (opens_field rfl (by kernel_rfl) (opens_int Try.underlying3) (opens_field rfl (by kernel_rfl) (opens_int Try.underlying2) (opens_field rfl (by kernel_rfl) (opens_int Try.underlying3) (opens_field rfl (by kernel_rfl) (opens_int Try.underlying3) (opens_last rfl (by kernel_rfl) (opens_int Try.underlying3))))))))))))) (by kernel_rfl)
  exact h
def wf64 (x : S64) : Prop := (Lit.int .i64 x.f0).wf = true ∧ True
theorem op64 : Opens Try.prog 64 k64 wf64 := by
  have h := opens_struct Try.underlying64 (fun x : S64 => (x.f0, x.f1)) (fun a => (⟨a.1, a.2⟩ : S64)) (fun _ => rfl) (opens_field rfl (by kernel_rfl) (opens_int Try.underlying2) (opens_last rfl (by kernel_rfl) (opens_bool Try.underlying4))) (by kernel_rfl)
  exact h
def wf29 (x : S29) : Prop := (Lit.int .i64 x.f0).wf = true ∧ (Lit.int .i64 x.f1).wf = true ∧ True
theorem op29 : Opens Try.prog 29 k29 wf29 := by
  have h := opens_struct Try.underlying29 (fun x : S29 => (x.f0, x.f1, x.f2)) (fun a => (⟨a.1, a.2.1, a.2.2⟩ : S29)) (fun _ => rfl) (opens_field rfl (by kernel_rfl) (opens_int Try.underlying2) (opens_field rfl (by kernel_rfl) (opens_int Try.underlying2) (opens_last rfl (by kernel_rfl) (opens_bool Try.underlying4)))) (by kernel_rfl)
  exact h
def wf31 (x : S31) : Prop := (Lit.int .i64 x.f0).wf = true ∧ (Lit.int .i64 x.f1).wf = true ∧ True
theorem op31 : Opens Try.prog 31 k31 wf31 := by
  have h := opens_struct Try.underlying31 (fun x : S31 => (x.f0, x.f1, x.f2)) (fun a => (⟨a.1, a.2.1, a.2.2⟩ : S31)) (fun _ => rfl) (opens_field rfl (by kernel_rfl) (opens_int Try.underlying3) (opens_field rfl (by kernel_rfl) (opens_int Try.underlying2) (opens_last rfl (by kernel_rfl) (opens_bool Try.underlying4)))) (by kernel_rfl)
  exact h
def wf34 (x : S34) : Prop := (Lit.int .i64 x.f0).wf = true ∧ (x.f1.length ≤ 9223372036854775807 ∧ ∀ a ∈ x.f1, (Lit.int .i64 a).wf = true) ∧ (Lit.int .i64 x.f2).wf = true ∧ (Lit.int .i64 x.f3).wf = true
theorem op34 : Opens Try.prog 34 k34 wf34 := by
  have h := opens_struct Try.underlying34 (fun x : S34 => (x.f0, x.f1, x.f2, x.f3)) (fun a => (⟨a.1, a.2.1, a.2.2.1, a.2.2.2⟩ : S34)) (fun _ => rfl) (opens_field rfl (by kernel_rfl) (opens_int Try.underlying3) (opens_field rfl (by kernel_rfl) (opens_slice Try.underlying32 (by kernel_rfl) (opens_int Try.underlying3)) (opens_field rfl (by kernel_rfl) (opens_int Try.underlying2) (opens_last rfl (by kernel_rfl) (opens_int Try.underlying2))))) (by kernel_rfl)
  exact h
def wf37 (x : S37) : Prop := wf27 x.f0 ∧ wf29 x.f1 ∧ wf31 x.f2 ∧ wf34 x.f3 ∧ (x.f4.length ≤ 9223372036854775807 ∧ ∀ a ∈ x.f4, wf64 a)
theorem op37 : Opens Try.prog 37 k37 wf37 := by
  have h := opens_struct Try.underlying37 (fun x : S37 => (x.f0, x.f1, x.f2, x.f3, x.f4)) (fun a => (⟨a.1, a.2.1, a.2.2.1, a.2.2.2.1, a.2.2.2.2⟩ : S37)) (fun _ => rfl) (opens_field rfl (by kernel_rfl) op27 (opens_field rfl (by kernel_rfl) op29 (opens_field rfl (by kernel_rfl) op31 (opens_field rfl (by kernel_rfl) op34 (opens_last rfl (by kernel_rfl) (opens_slice Try.underlying35 (by kernel_rfl) op64)))))) (by kernel_rfl)
  exact h
end Go.Proofs.Ytlenanfkphglaaa.Print
