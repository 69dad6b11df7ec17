/- Behind any marks just the last ones are told, as many as the window, however many came ahead. No condition. -/
import Derived.Test.YtjekpfaldbeocaaStScoreWindow
import Derived.Test.YtjekpfaldbeocaaPlain
namespace Go.Proofs.Ytjekpfaldbeocaa.Pure
open Go.RowKit Go.Proofs.Ytjekpfaldbeocaa Print Plain Go.Proofs.YtjekpfaldbeocaaW.PrintWords

theorem same_from (l : List S27) (hl : l.length ≤ 1000000) (d : Nat) : ∀ (k i : Nat), i ≤ l.length → l.length - i = d → d < k → governorref17_Same.l0 k l l (i : Int) = some true := by
  induction d with
  | zero =>
    intro k i hi hd hk
    obtain ⟨k, rfl⟩ : ∃ m, k = m + 1 := ⟨k - 1, by omega⟩
    obtain rfl : i = l.length := by omega
    simp only [governorref17_Same.l0]
    rw [if_neg (by omega)]
  | succ d ih =>
    intro k i hi hd hk
    obtain ⟨k, rfl⟩ : ∃ m, k = m + 1 := ⟨k - 1, by omega⟩
    have e : wrap64 ((i : Int) + 1) = ((i + 1 : Nat) : Int) := by unfold wrap64; omega
    simp only [governorref17_Same.l0]
    rw [if_pos (by omega), if_pos (by omega), if_pos (by omega), e, if_neg (by simp)]
    exact ih k (i + 1) (by omega) (by omega) (by omega)
theorem same_refl (l : List S27) (hl : l.length ≤ 1000000) (k : Nat) (hk : l.length < k) : governorref17_Same.f k l l = some true := by
  unfold governorref17_Same.f
  rw [if_pos rfl]
  exact same_from l hl l.length k 0 (by omega) (by omega) hk
/-- The last ones. -/
def last (w : Nat) (l : List S27) : List S27 := l.drop (l.length - w)
theorem last_length (w : Nat) (l : List S27) : (last w l).length ≤ l.length ∧ (last w l).length ≤ w := by
  unfold last
  rw [List.length_drop]
  omega
theorem last_last (w : Nat) (l : List S27) (m : S27) : last w (last w l ++ [m]) = last w (l ++ [m]) := by
  unfold last
  rcases Nat.le_total l.length w with h | h
  · rw [Nat.sub_eq_zero_of_le h, List.drop_zero]
  · cases w with
    | zero => simp
    | succ w =>
      rw [List.length_append, List.length_append, List.length_drop, List.length_singleton]
      rw [List.drop_append_of_le_length (by rw [List.length_drop]; omega), List.drop_append_of_le_length (by omega), List.drop_drop]
      congr 2
      omega
theorem add_told (w : Nat) (l : List S27) (m : S27) (hl : l.length ≤ 1000000) (hw : w ≤ 1000) : score_Add.f (w : Int) l m.f0 m.f1 = some (last w (l ++ [m])) := by
  unfold score_Add.f api_Mark.f
  rw [if_pos (by omega)]
  simp only [Option.bind_some]
  rw [if_pos (by simp; omega)]
  have e0 : mx 0 (w : Int) = (w : Int) := by unfold mx; split <;> omega
  have e1 : wrap64 (((l ++ [m]).length : Int) - (w : Int)) = ((l ++ [m]).length : Int) - (w : Int) := by
    have : (l ++ [m]).length = l.length + 1 := by simp
    unfold wrap64; omega
  have e2 : mx 0 (((l ++ [m]).length : Int) - (w : Int)) = (((l ++ [m]).length - w : Nat) : Int) := by unfold mx; split <;> omega
  have e3 : ([⟨m.f0, m.f1⟩] : List S27) = [m] := rfl
  rw [e3, e0, e1, e2, if_pos (by omega), if_pos (by omega), Int.toNat_natCast]
  rfl
theorem window_from {l1 l2 : List S27} (w : Nat) (hw : w ≤ 39) (n1 : l1.length ≤ 300) (n2 : l2.length ≤ 300) (d : Nat) : ∀ (k i : Nat) (x : List S27), i ≤ l2.length → l2.length - i = d → d + 702 < k → x.length ≤ 700 →
    (∀ m, last w (x ++ [m]) = last w (l1 ++ l2.take i ++ [m])) → (0 < i → x = last w (l1 ++ l2.take i)) → governorlaw17_ScoreWindow.l0 k l1 l2 true (w : Int) x (i : Int) = some true := by
  induction d with
  | zero =>
    intro k i x hi hd hk hx h1 h2
    obtain ⟨k, rfl⟩ : ∃ m, k = m + 1 := ⟨k - 1, by omega⟩
    obtain rfl : i = l2.length := by omega
    simp only [governorlaw17_ScoreWindow.l0]
    rw [if_neg (by omega)]
    by_cases h0 : (l2.length : Int) = 0
    · rw [if_pos h0]
    · rw [if_neg h0]
      have hxe := h2 (by omega)
      rw [List.take_length] at hxe
      have hlen : (l1 ++ l2).length = l1.length + l2.length := List.length_append
      simp only [Option.bind_some, List.nil_append, List.length_nil, Nat.zero_add]
      rw [if_pos (by omega), if_pos (by omega), if_pos trivial]
      have hd : x = (l1 ++ l2).drop ((l1 ++ l2).length - w) := hxe
      obtain ⟨n, hn⟩ : ∃ n, (l1 ++ l2).length = n := ⟨_, rfl⟩
      rw [hn] at hd hlen ⊢
      have e1 : wrap64 ((n : Int) - mn (w : Int) (n : Int)) = ((n - w : Nat) : Int) := by unfold wrap64 mn; split <;> omega
      rw [e1, if_pos (by omega), if_pos (by omega), Int.toNat_natCast, ← hd, same_refl x (by omega) k (by omega)]
      rfl
  | succ d ih =>
    intro k i x hi hd hk hx h1 h2
    obtain ⟨k, rfl⟩ : ∃ m, k = m + 1 := ⟨k - 1, by omega⟩
    have hlt : i < l2.length := by omega
    have e : wrap64 ((i : Int) + 1) = ((i + 1 : Nat) : Int) := by unfold wrap64; omega
    simp only [governorlaw17_ScoreWindow.l0]
    rw [if_pos (by omega), if_pos (by omega), rd_get i hlt, add_told w x l2[i] (by omega) (by omega), e]
    simp only [Option.bind_some]
    have ht : l1 ++ l2.take (i + 1) = l1 ++ l2.take i ++ [l2[i]] := by rw [List.take_succ_eq_append_getElem hlt, List.append_assoc]
    have hy : last w (x ++ [l2[i]]) = last w (l1 ++ l2.take (i + 1)) := by rw [h1, ht]
    have hyl := last_length w (x ++ [l2[i]])
    refine ih k (i + 1) _ (by omega) (by omega) (by omega) (by omega) (fun m => ?_) (fun _ => hy)
    rw [hy, last_last]
theorem ScoreWindow : governorlaw17_ScoreWindow.Pure := by
  intro a0 l1 l2 ha _ _
  have p0 : 0 ≤ a0 ∧ a0 ≤ 255 := by simp [Lit.wf, IntKind.min, IntKind.max, IntKind.bits, IntKind.signed] at ha; omega
  refine ⟨1500, ?_⟩
  unfold governorlaw17_ScoreWindow.f
  obtain ⟨b1, e1, t1⟩ := right_told l1 1500 (by omega)
  obtain ⟨b2, e2, t2⟩ := right_told l2 1500 (by omega)
  rw [head_told 1500 (by omega), e1, e2]
  simp only [Option.bind_some]
  have yes : governorlaw17_ScoreWindow.j0 1500 a0 l1 l2 true true = some true := by simp only [governorlaw17_ScoreWindow.j0]; rw [if_pos trivial]
  cases b1 with
  | false => rw [if_neg (by decide)]; exact yes
  | true =>
    rw [if_pos rfl]
    cases b2 with
    | false => exact yes
    | true =>
      obtain ⟨n1, _⟩ := t1 rfl
      obtain ⟨n2, _⟩ := t2 rfl
      simp only [governorlaw17_ScoreWindow.j0]
      rw [if_neg (by decide)]
      have t0 : a0.tmod 40 = a0 % 40 := Int.tmod_eq_emod_of_nonneg p0.1
      obtain ⟨w, hw⟩ := Int.eq_ofNat_of_zero_le (show 0 ≤ a0 % 40 by omega)
      have e : wrap64 (w : Int) = (w : Int) := by unfold wrap64; omega
      rw [t0, hw, e]
      exact window_from w (by omega) n1 n2 l2.length 1499 0 l1 (by omega) (by omega) (by omega) (by omega) (fun m => by simp) (fun h => by omega)
end Go.Proofs.Ytjekpfaldbeocaa.Pure
