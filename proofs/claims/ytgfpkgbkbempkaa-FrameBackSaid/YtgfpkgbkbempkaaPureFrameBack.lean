/- The law FrameBack, in plain Lean: a right frame is got from its bytes, whatever stands behind them; what is got has just the bytes that were read. -/
import Derived.Test.YtgfpkgbkbempkaaStFrameBack
import Derived.Test.YtgfpkgbkbempkaaPlainE
namespace Go.Proofs.Ytgfpkgbkbempkaa.Pure
open Go.RowKit Go.Proofs.Ytgfpkgbkbempkaa.Print Go.Proofs.YtgfpkgbkbempkaaW.PrintWords Go.Proofs.YtgfpkgbkbempkaaW.PrintLast Go.Proofs.Ytgfpkgbkbempkaa.Plain Go.Proofs.Ytgfpkgbkbempkaa.W
set_option linter.unusedVariables false
set_option linter.unusedSimpArgs false

theorem bytes_ofB {l : List Int} (h : ∀ a ∈ l, (Lit.int .u8 a).wf = true) : InByte l := fun x hx => by
  have := h x hx
  simpa [Lit.wf, IntKind.min, IntKind.max, IntKind.bits, IntKind.signed] using this
theorem put_noB {t s : Int} {b : List Int} (h : rightB t s b.length = false) : putF t s b = [] := by unfold putF; rw [if_neg (by simp [h])]
theorem FrameBack : governorlaw03_FrameBack.Pure := by
  intro x0 l1 l2 h0 h1 h2
  have hb0 : InByte x0.f2 := bytes_ofB h0.2.2.2
  have hb1 : InByte l1 := bytes_ofB h1.2
  have hb2 : InByte l2 := bytes_ofB h2.2
  unfold governorlaw03_FrameBack.f
  by_cases hg : x0.f2.length > 9000 ∨ l1.length > 9000 ∨ l2.length > 9000
  · rw [if_pos hg]
  rw [if_neg hg]
  have hpl : (putF x0.f0 x0.f1 x0.f2).length ≤ 9011 := by
    unfold putF
    split
    · rw [List.length_append, pre_len, be_length]; omega
    · simp
  have hin : InByte (([] ++ putF x0.f0 x0.f1 x0.f2) ++ l1) := fun x hx => by
    rw [List.nil_append, List.mem_append] at hx
    rcases hx with hx | hx
    · exact put_in hb0 x hx
    · exact hb1 x hx
  rw [show frame_Right.f x0.f0 x0.f1 x0.f2 = some (rightB x0.f0 x0.f1 x0.f2.length) from rfl, Option.bind_some, put_eq hb0, Option.bind_some, get_eq hin (by rw [List.nil_append, List.length_append]; omega), Option.bind_some, get_eq hb2 (by omega), Option.bind_some]
  have c2 : rightB x0.f0 x0.f1 x0.f2.length = true → sameL [(⟨(getF (([] ++ putF x0.f0 x0.f1 x0.f2) ++ l1)).1, (getF (([] ++ putF x0.f0 x0.f1 x0.f2) ++ l1)).2.1, (getF (([] ++ putF x0.f0 x0.f1 x0.f2) ++ l1)).2.2.1⟩ : S24)] [(⟨x0.f0, x0.f1, x0.f2⟩ : S24)] = true ∧ (getF (([] ++ putF x0.f0 x0.f1 x0.f2) ++ l1)).2.2.2.1 = ((putF x0.f0 x0.f1 x0.f2).length : Int) ∧ (getF (([] ++ putF x0.f0 x0.f1 x0.f2) ++ l1)).2.2.2.2 = 0 ∧ (getF (([] ++ putF x0.f0 x0.f1 x0.f2) ++ l1)).2.2.2.1 = 11 + (x0.f2.length : Int) := fun hr => by
    rw [List.nil_append, get_put l1 hb0 hr, put_len hr]
    refine ⟨sameL_self _, rfl, rfl, ?_⟩
    show ((x0.f2.length + 11 : Nat) : Int) = 11 + (x0.f2.length : Int)
    omega
  have c3 : rightB x0.f0 x0.f1 x0.f2.length = false → (putF x0.f0 x0.f1 x0.f2).length = 0 := fun hr => by rw [put_noB hr]; rfl
  rw [if_pos ⟨by omega, c2, c3⟩]
  by_cases h0 : (getF l2).2.2.2.2 = 0
  · rw [if_pos h0]
    obtain ⟨t, s, b, e, hr, hl, hp, hib⟩ := get_ok hb2 h0
    rw [e]
    dsimp only
    rw [show frame_Right.f t s b = some (rightB t s b.length) from rfl, Option.bind_some, put_eq hib, Option.bind_some, if_pos ⟨hr, by omega, by omega, by rw [Int.toNat_natCast, hp]⟩]
  · rw [if_neg h0]
    obtain ⟨e, he, hz⟩ := get_err h0
    rw [hz]
    rfl
end Go.Proofs.Ytgfpkgbkbempkaa.Pure
