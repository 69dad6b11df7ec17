/- The law FrameSizes, in plain Lean: a frame has 11 bytes more than its body; unlike frames have unlike bytes, neither the beginning of the other's. -/
import Derived.Test.YtgfpkgbkbempkaaStFrameSizes
import Derived.Test.YtgfpkgbkbempkaaPlainE
namespace Go.Proofs.Ytgfpkgbkbempkaa.Pure
open Go.RowKit Go.Proofs.Ytgfpkgbkbempkaa.Print Go.Proofs.YtgfpkgbkbempkaaW.PrintWords Go.Proofs.YtgfpkgbkbempkaaW.PrintLast Go.Proofs.Ytgfpkgbkbempkaa.Plain Go.Proofs.Ytgfpkgbkbempkaa.W
set_option linter.unusedVariables false
set_option linter.unusedSimpArgs false

theorem bytes_ofS {l : List Int} (h : ∀ a ∈ l, (Lit.int .u8 a).wf = true) : InByte l := fun x hx => by
  have := h x hx
  simpa [Lit.wf, IntKind.min, IntKind.max, IntKind.bits, IntKind.signed] using this
theorem put_no {t s : Int} {b : List Int} (h : rightB t s b.length = false) : putF t s b = [] := by unfold putF; rw [if_neg (by simp [h])]
theorem FrameSizes : governorlaw03_FrameSizes.Pure := by
  intro x0 x1 h0 h1
  have hb0 : InByte x0.f2 := bytes_ofS h0.2.2.2
  have hb1 : InByte x1.f2 := bytes_ofS h1.2.2.2
  refine ⟨0 + 1 + 1, ?_⟩
  unfold governorlaw03_FrameSizes.f
  rw [show governorlaw03_head.f = some true from rfl, Option.bind_some]
  by_cases g0 : (x0.f2.length : Int) > 3000
  · rw [if_pos g0, governorlaw03_FrameSizes.j0, if_pos rfl]
  rw [if_neg g0]
  by_cases g1 : (x1.f2.length : Int) > 3000
  · rw [decide_eq_true g1, governorlaw03_FrameSizes.j0, if_pos rfl]
  rw [decide_eq_false g1, governorlaw03_FrameSizes.j0, if_neg (by decide), put_eq hb0, Option.bind_some, put_eq hb1, Option.bind_some]
  cases r0 : rightB x0.f0 x0.f1 x0.f2.length with
  | true =>
    have l0 := put_len r0
    rw [if_neg (by omega)]
    cases r1 : rightB x1.f0 x1.f1 x1.f2.length with
    | true =>
      have l1 := put_len r1
      rw [show (((putF x1.f0 x1.f1 x1.f2).length : Int) == 0) = false from beq_eq_false_iff_ne.2 (by omega), governorlaw03_FrameSizes.j1, if_neg (by decide)]
      rw [show governorref03_Same.f [(⟨x0.f0, x0.f1, x0.f2⟩ : S24)] [(⟨x1.f0, x1.f1, x1.f2⟩ : S24)] = some (sameF x0 x1 && true) from rfl, Option.bind_some, Bool.and_true, if_pos rfl, if_pos (by rw [w64 (by omega) (by omega), l0]; omega)]
      have hm : mn ((putF x0.f0 x0.f1 x0.f2).length : Int) ((putF x1.f0 x1.f1 x1.f2).length : Int) = ((min (putF x0.f0 x0.f1 x0.f2).length (putF x1.f0 x1.f1 x1.f2).length : Nat) : Int) := by
        unfold mn
        split <;> omega
      rw [hm, if_pos (by omega), if_pos (by omega), if_pos (by omega), Int.toNat_natCast]
      have hi0 : InByte ((putF x0.f0 x0.f1 x0.f2).take (min (putF x0.f0 x0.f1 x0.f2).length (putF x1.f0 x1.f1 x1.f2).length)) := in_take (put_in hb0) _
      have hi1 : InByte ((putF x1.f0 x1.f1 x1.f2).take (min (putF x0.f0 x0.f1 x0.f2).length (putF x1.f0 x1.f1 x1.f2).length)) := in_take (put_in hb1) _
      rw [str_eq hi0 hi1, sameF_eq hb0 hb1, decide_eq_decide.2 (put_prefix hb0 hb1 r0 r1 _ rfl), beq_self_eq_true]
    | false =>
      rw [put_no r1, show (((([] : List Int).length : Nat) : Int) == 0) = true from rfl, governorlaw03_FrameSizes.j1, if_pos rfl, if_pos rfl]
      unfold frame_Right.f
      rw [Option.bind_some, Option.bind_some, r0, r1, show (((putF x0.f0 x0.f1 x0.f2).length : Int) == 0) = false from beq_eq_false_iff_ne.2 (by omega)]
      rfl
  | false =>
    rw [put_no r0, if_pos (show ((([] : List Int).length : Nat) : Int) = 0 from rfl), governorlaw03_FrameSizes.j1, if_pos rfl, if_pos rfl]
    unfold frame_Right.f
    rw [Option.bind_some, Option.bind_some, r0]
    cases r1 : rightB x1.f0 x1.f1 x1.f2.length with
    | true =>
      have l1 := put_len r1
      rw [show (((putF x1.f0 x1.f1 x1.f2).length : Int) == 0) = false from beq_eq_false_iff_ne.2 (by omega)]
      rfl
    | false =>
      rw [put_no r1]
      rfl
end Go.Proofs.Ytgfpkgbkbempkaa.Pure
