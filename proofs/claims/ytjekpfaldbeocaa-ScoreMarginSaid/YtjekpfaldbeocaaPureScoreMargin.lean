/- Of two rows of marks not both beat the other one, if there is a margin; what is beaten is beaten, too, by a row that costs less and has no more that are bad. No condition. -/
import Derived.Test.YtjekpfaldbeocaaStScoreMargin
import Derived.Test.YtjekpfaldbeocaaPlain
set_option linter.unusedVariables false
namespace Go.Proofs.Ytjekpfaldbeocaa.Pure
open Go.RowKit Go.Proofs.Ytjekpfaldbeocaa Print Plain Go.Proofs.YtjekpfaldbeocaaW.PrintWords

theorem margin_rest {c0 c1 c2 c3 c4 c5 c6 c7 c8 c9 c10 c11 : Int} {l1 l2 : List S27} {a3 a4 : Int} (k1 : Ok l1) (k2 : Ok l2) (n1 : l1.length ≤ 300) (n2 : l2.length ≤ 300) (h7 : 1 ≤ c7) (m0 : 0 ≤ c8) (m1 : c8 ≤ 1000000000) (p3 : 0 ≤ a3 ∧ a3 ≤ 255) (p4 : 0 ≤ a4 ∧ a4 ≤ 65535) (k : Nat) (b : Bool)
    (hb : b = betB c7 c9 c8 l1 l2) : governorlaw17_ScoreMargin.j1 (k + 1) l1 l2 a3 a4 true b false c0 c1 c2 c3 c4 c5 c6 c7 c8 c9 c10 c11 = some true := by
  simp only [governorlaw17_ScoreMargin.j1]
  rw [if_neg (by decide)]
  cases b with
  | false => rw [if_neg (by decide)]
  | true =>
    rw [if_pos rfl]
    obtain ⟨q1, q2, q3, q4⟩ := betB_iff.1 hb.symm
    have e3 : wrap64 a3 = a3 := by unfold wrap64; omega
    have e4 : wrap64 a4 = a4 := by unfold wrap64; omega
    simp only [Option.bind_some, List.nil_append, List.length_nil, Nat.zero_add]
    rw [e3, e4, if_pos (by omega), if_neg (by omega)]
    have t0 : a3.tmod (l2.length : Int) = a3 % (l2.length : Int) := Int.tmod_eq_emod_of_nonneg p3.1
    have t1 : 0 ≤ a3 % (l2.length : Int) := Int.emod_nonneg _ (by omega)
    have t2 : a3 % (l2.length : Int) < (l2.length : Int) := Int.emod_lt_of_pos _ (by omega)
    rw [t0]
    obtain ⟨i, hi⟩ := Int.eq_ofNat_of_zero_le t1
    rw [hi] at t2 ⊢
    have i2 : i < l2.length := by omega
    have i1 : i < l1.length := by omega
    rw [if_pos (by omega), if_pos (by omega), if_pos (by omega), if_pos (by omega), if_pos trivial, Int.toNat_natCast, rd_get i i2, rd_get i i1]
    have o2 := k2 l2[i] (List.getElem_mem _)
    have o1 := k1 l1[i] (List.getElem_mem _)
    have s2 : wrap64 (l2[i].f0 - a4) = l2[i].f0 - a4 := by unfold wrap64; omega
    have s1 : wrap64 (l1[i].f0 + a4) = l1[i].f0 + a4 := by unfold wrap64; omega
    rw [s2, s1]
    have x2 : 0 ≤ mx 0 (l2[i].f0 - a4) ∧ mx 0 (l2[i].f0 - a4) ≤ l2[i].f0 := by unfold mx; split <;> omega
    have x1 : l1[i].f0 ≤ mn 1000000000 (l1[i].f0 + a4) ∧ mn 1000000000 (l1[i].f0 + a4) ≤ 1000000000 := by unfold mn; split <;> omega
    generalize mx 0 (l2[i].f0 - a4) = u at *
    generalize mn 1000000000 (l1[i].f0 + a4) = v at *
    rw [better_told c0 c1 c2 c3 c4 c5 c6 c7 c8 c9 c10 c11 l1 (l2.set i ⟨u, false⟩) k1 (ok_set k2 i _ ⟨by show 0 ≤ u; omega, by show u ≤ 1000000000; omega⟩) (by omega) (by rw [List.length_set]; omega) m0 m1]
    have y1 : betB c7 c9 c8 l1 (l2.set i ⟨u, false⟩) = true := by
      rw [betB_iff, List.length_set, sumC_set l2 i i2, cntB_set l2 i i2]
      refine ⟨q1, q2, ?_, ?_⟩
      · simp only [Bool.false_eq_true, if_false]; split <;> omega
      · simp only; omega
    rw [y1]
    simp only [Option.bind_some]
    rw [if_pos trivial, better_told c0 c1 c2 c3 c4 c5 c6 c7 c8 c9 c10 c11 (l1.set i ⟨v, l1[i].f1⟩) l2 (ok_set k1 i _ ⟨by show 0 ≤ v; omega, by show v ≤ 1000000000; omega⟩) k2 (by rw [List.length_set]; omega) (by omega) m0 m1]
    have y2 : betB c7 c9 c8 (l1.set i ⟨v, l1[i].f1⟩) l2 = true := by
      rw [betB_iff, List.length_set, sumC_set l1 i i1]
      refine ⟨q1, q2, q3, ?_⟩
      simp only; omega
    rw [y2]
    rfl
theorem ScoreMargin : governorlaw17_ScoreMargin.Pure := by
  intro x l1 l2 a3 a4 _ _ _ ha3 ha4
  have p3 : 0 ≤ a3 ∧ a3 ≤ 255 := by simp [Lit.wf, IntKind.min, IntKind.max, IntKind.bits, IntKind.signed] at ha3; omega
  have p4 : 0 ≤ a4 ∧ a4 ≤ 65535 := by simp [Lit.wf, IntKind.min, IntKind.max, IntKind.bits, IntKind.signed] at ha4; omega
  refine ⟨400, ?_⟩
  unfold governorlaw17_ScoreMargin.f governorref09_Conf.f
  obtain ⟨b1, e1, t1⟩ := right_told l1 400 (by omega)
  obtain ⟨b2, e2, t2⟩ := right_told l2 400 (by omega)
  rw [head_told 400 (by omega), e1, e2]
  simp only [Option.bind_some]
  have yes : governorlaw17_ScoreMargin.j0 400 l1 l2 a3 a4 true true x.f0 x.f1 x.f2 x.f3 x.f4 x.f5 x.f6 x.f7 x.f8 x.f9 x.f10 x.f11 = some true := by simp only [governorlaw17_ScoreMargin.j0]; rw [if_pos trivial]
  by_cases hc : W.confB x.f0 x.f1 x.f2 x.f3 x.f4 x.f5 x.f6 x.f7 x.f8 x.f9 x.f10 x.f11 = true
  · rw [if_pos hc]
    have ⟨hw, hm, _⟩ := conf_told hc
    cases b1 with
    | false => rw [if_neg (by decide)]; exact yes
    | true =>
      rw [if_pos rfl]
      cases b2 with
      | false => exact yes
      | true =>
        obtain ⟨n1, k1⟩ := t1 rfl
        obtain ⟨n2, k2⟩ := t2 rfl
        simp only [governorlaw17_ScoreMargin.j0]
        rw [if_neg (by decide), better_told x.f0 x.f1 x.f2 x.f3 x.f4 x.f5 x.f6 x.f7 x.f8 x.f9 x.f10 x.f11 l1 l2 k1 k2 (by omega) (by omega) hm.1 hm.2, better_told x.f0 x.f1 x.f2 x.f3 x.f4 x.f5 x.f6 x.f7 x.f8 x.f9 x.f10 x.f11 l2 l1 k2 k1 (by omega) (by omega) hm.1 hm.2]
        simp only [Option.bind_some]
        by_cases hp : x.f8 > 0
        · rw [if_pos hp]
          by_cases hx : betB x.f7 x.f9 x.f8 l1 l2 = true
          · rw [if_pos hx]
            have hy : betB x.f7 x.f9 x.f8 l2 l1 = false := by
              rw [← Bool.not_eq_true, betB_iff]
              have := betB_iff.1 hx
              omega
            rw [hy]
            exact margin_rest k1 k2 n1 n2 hw.1 hm.1 hm.2 p3 p4 _ _ rfl
          · rw [if_neg hx]
            exact margin_rest k1 k2 n1 n2 hw.1 hm.1 hm.2 p3 p4 _ _ rfl
        · rw [if_neg hp]
          exact margin_rest k1 k2 n1 n2 hw.1 hm.1 hm.2 p3 p4 _ _ rfl
  · rw [if_neg hc]
    exact yes

end Go.Proofs.Ytjekpfaldbeocaa.Pure
