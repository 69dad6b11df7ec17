/- A row of marks that has not just as many as the window beats none and is not beaten, nor does one that has too many bad ones beat any. No condition. -/
import Derived.Test.YtjekpfaldbeocaaStScoreShort
import Derived.Test.YtjekpfaldbeocaaPlain
namespace Go.Proofs.Ytjekpfaldbeocaa.Pure
open Go.RowKit Go.Proofs.Ytjekpfaldbeocaa Print Plain Go.Proofs.YtjekpfaldbeocaaW.PrintWords

theorem count_bad {c0 c1 c2 c3 c4 c5 c6 c7 c8 c9 c10 c11 : Int} {l1 l2 : List S27} (k1 : Ok l1) (k2 : Ok l2) (n1 : l1.length ≤ 300) (n2 : l2.length ≤ 300) (m0 : 0 ≤ c8) (m1 : c8 ≤ 1000000000) (d : Nat) : ∀ (k i : Nat), i ≤ l2.length → l2.length - i = d → d < k →
    governorlaw17_ScoreShort.l0 k l1 l2 true (cntB (l2.take i)) (i : Int) c0 c1 c2 c3 c4 c5 c6 c7 c8 c9 c10 c11 = some true := by
  induction d with
  | zero =>
    intro k i hi hd hk
    obtain ⟨k, rfl⟩ : ∃ m, k = m + 1 := ⟨k - 1, by omega⟩
    obtain rfl : i = l2.length := by omega
    simp only [governorlaw17_ScoreShort.l0]
    rw [if_neg (by omega), List.take_length, better_told c0 c1 c2 c3 c4 c5 c6 c7 c8 c9 c10 c11 l1 l2 k1 k2 (by omega) (by omega) m0 m1]
    have no : ¬ ((l1.length : Int) = c7 ∧ (l2.length : Int) = c7 ∧ cntB l2 ≤ c9) → betB c7 c9 c8 l1 l2 = false := fun h => by
      rw [← Bool.not_eq_true, betB_iff]
      exact fun h' => h ⟨h'.1, h'.2.1, h'.2.2.1⟩
    simp only [Option.bind_some]
    by_cases a : (l1.length : Int) = c7
    · rw [if_pos a]
      by_cases b : (l2.length : Int) = c7
      · rw [if_pos b, if_pos trivial]
        by_cases e : cntB l2 ≤ c9
        · rw [if_pos e]
        · rw [if_neg e, no (fun h => e h.2.2)]; rfl
      · rw [if_neg b, if_pos trivial, no (fun h => b h.2.1)]; rfl
    · rw [if_neg a, if_pos trivial, no (fun h => a h.1)]; rfl
  | succ d ih =>
    intro k i hi hd hk
    obtain ⟨k, rfl⟩ : ∃ m, k = m + 1 := ⟨k - 1, by omega⟩
    have hlt : i < l2.length := by omega
    have e1 : wrap64 ((i : Int) + 1) = ((i + 1 : Nat) : Int) := by unfold wrap64; omega
    have hc := cntB_range (l2.take i)
    have hcl : (l2.take i).length ≤ 300 := by rw [List.length_take]; omega
    have e2 : wrap64 (cntB (l2.take i) + 1) = cntB (l2.take i) + 1 := by unfold wrap64; omega
    have h := ih k (i + 1) (by omega) (by omega) (by omega)
    rw [List.take_succ_eq_append_getElem hlt, cntB_append] at h
    simp only [governorlaw17_ScoreShort.l0]
    rw [if_pos (by omega), if_pos (by omega), rd_get i hlt, e1, e2]
    by_cases hb : l2[i].f1 = true
    · rw [if_pos hb]
      simpa [cntB, hb] using h
    · rw [if_neg hb]
      simpa [cntB, hb] using h
theorem ScoreShort : governorlaw17_ScoreShort.Pure := by
  intro x l1 l2 _ _ _
  refine ⟨400, ?_⟩
  unfold governorlaw17_ScoreShort.f governorref09_Conf.f
  obtain ⟨b1, e1, t1⟩ := right_told l1 400 (by omega)
  obtain ⟨b2, e2, t2⟩ := right_told l2 400 (by omega)
  rw [head_told 400 (by omega), e1, e2]
  simp only [Option.bind_some]
  have yes : governorlaw17_ScoreShort.j0 400 l1 l2 true true x.f0 x.f1 x.f2 x.f3 x.f4 x.f5 x.f6 x.f7 x.f8 x.f9 x.f10 x.f11 = some true := by simp only [governorlaw17_ScoreShort.j0]; rw [if_pos trivial]
  by_cases hc : W.confB x.f0 x.f1 x.f2 x.f3 x.f4 x.f5 x.f6 x.f7 x.f8 x.f9 x.f10 x.f11 = true
  · rw [if_pos hc]
    have ⟨_, hm, _⟩ := conf_told hc
    cases b1 with
    | false => rw [if_neg (by decide)]; exact yes
    | true =>
      rw [if_pos rfl]
      cases b2 with
      | false => exact yes
      | true =>
        obtain ⟨n1, k1⟩ := t1 rfl
        obtain ⟨n2, k2⟩ := t2 rfl
        simp only [governorlaw17_ScoreShort.j0]
        rw [if_neg (by decide)]
        have := count_bad (c0 := x.f0) (c1 := x.f1) (c2 := x.f2) (c3 := x.f3) (c4 := x.f4) (c5 := x.f5) (c6 := x.f6) (c7 := x.f7) (c9 := x.f9) (c10 := x.f10) (c11 := x.f11) k1 k2 n1 n2 hm.1 hm.2 l2.length 399 0 (by omega) (by omega) (by omega)
        simpa [cntB] using this
  · rw [if_neg hc]
    exact yes

end Go.Proofs.Ytjekpfaldbeocaa.Pure
