/- The law FrameTells, in plain Lean: what the program tells of frames and of bytes is the document's. -/
import Derived.Test.YtgfpkgbkbempkaaStFrameTells
import Derived.Test.YtgfpkgbkbempkaaPlainD
import Derived.Test.YtgfpkgbkbempkaaPlainE
namespace Go.Proofs.Ytgfpkgbkbempkaa.Pure
open Go.RowKit Go.Proofs.Ytgfpkgbkbempkaa.Print Go.Proofs.YtgfpkgbkbempkaaW.PrintWords Go.Proofs.YtgfpkgbkbempkaaW.PrintLast Go.Proofs.Ytgfpkgbkbempkaa.Plain Go.Proofs.Ytgfpkgbkbempkaa.W
set_option linter.unusedVariables false
set_option linter.unusedSimpArgs false

theorem bytes_ofT {l : List Int} (h : ∀ a ∈ l, (Lit.int .u8 a).wf = true) : InByte l := fun x hx => by
  have := h x hx
  simpa [Lit.wf, IntKind.min, IntKind.max, IntKind.bits, IntKind.signed] using this
theorem FrameTells : governorlaw03_FrameTells.Pure := by
  intro x0 l1 a2 h0 h1 h2
  have hb0 : InByte x0.f2 := bytes_ofT h0.2.2.2
  have hb1 : InByte l1 := bytes_ofT h1.2
  refine ⟨l1.length + 1, ?_⟩
  unfold governorlaw03_FrameTells.f
  by_cases hg : x0.f2.length > 9000 ∨ l1.length > 9000
  · rw [if_pos hg]
  rw [if_neg hg]
  have hl : l1.length ≤ 9000 := by omega
  rw [get_eq hb1 (by omega), Option.bind_some, refget_eq hb1 (by omega), Option.bind_some, scan_eq hb1 (by omega) a2 _ (Nat.lt_succ_self _), Option.bind_some, refscan_eq hb1 (by omega) a2 _ (Nat.lt_succ_self _), Option.bind_some]
  rw [show frame_Right.f x0.f0 x0.f1 x0.f2 = some (rightB x0.f0 x0.f1 x0.f2.length) from rfl, Option.bind_some, refright_eq, Option.bind_some, put_eq hb0, Option.bind_some, refput_eq hb0, Option.bind_some]
  rw [if_pos ⟨rfl, rfl, rfl, rfl, sameL_self _, sameL_self _⟩]
end Go.Proofs.Ytgfpkgbkbempkaa.Pure
