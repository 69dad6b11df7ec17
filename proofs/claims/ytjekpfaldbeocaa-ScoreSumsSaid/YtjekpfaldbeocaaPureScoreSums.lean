/- What two rows of marks cost together is what both cost; so is how many are bad; no more are bad than there are. No condition. -/
import Derived.Test.YtjekpfaldbeocaaStScoreSums
import Derived.Test.YtjekpfaldbeocaaPlain
namespace Go.Proofs.Ytjekpfaldbeocaa.Pure
open Go.RowKit Go.Proofs.Ytjekpfaldbeocaa Print Plain Go.Proofs.YtjekpfaldbeocaaW.PrintWords

theorem ScoreSums : governorlaw17_ScoreSums.Pure := by
  intro l0 l1 _ _
  refine ⟨400, ?_⟩
  unfold governorlaw17_ScoreSums.f
  obtain ⟨b0, e0, t0⟩ := right_told l0 400 (by omega)
  obtain ⟨b1, e1, t1⟩ := right_told l1 400 (by omega)
  rw [head_told 400 (by omega), e0, e1]
  simp only [Option.bind_some]
  have yes : governorlaw17_ScoreSums.j0 400 l0 l1 true true = some true := by simp only [governorlaw17_ScoreSums.j0]; rw [if_pos trivial]
  cases b0 with
  | false => rw [if_neg (by decide)]; exact yes
  | true =>
    rw [if_pos rfl]
    cases b1 with
    | false => exact yes
    | true =>
      obtain ⟨n0, k0⟩ := t0 rfl
      obtain ⟨n1, k1⟩ := t1 rfl
      have ra := sumC_range k0
      have rb := sumC_range k1
      have ca := cntB_range l0
      have cb := cntB_range l1
      simp only [governorlaw17_ScoreSums.j0]
      rw [if_neg (by decide)]
      simp only [Option.bind_some, List.nil_append, List.length_nil, Nat.zero_add]
      rw [if_pos (by omega), if_pos (by omega), if_pos trivial]
      unfold score_Cost.f score_Bad.f
      rw [costF_eq (ok_append k0 k1) (by simp; omega), costF_eq k0 (by omega), costF_eq k1 (by omega), badF_eq (l := l0 ++ l1) (by simp; omega), badF_eq (l := l0) (by omega), badF_eq (l := l1) (by omega), sumC_append, cntB_append]
      have w1 : wrap64 (sumC l0 + sumC l1) = sumC l0 + sumC l1 := by unfold wrap64; omega
      have w2 : wrap64 (cntB l0 + cntB l1) = cntB l0 + cntB l1 := by unfold wrap64; omega
      simp only [Option.bind_some]
      rw [w1, w2, if_pos rfl, if_pos rfl, if_pos (by omega), if_pos (by omega)]
      rfl

end Go.Proofs.Ytjekpfaldbeocaa.Pure
