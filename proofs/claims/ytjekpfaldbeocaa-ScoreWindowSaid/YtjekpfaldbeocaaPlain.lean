/- Plain facts on rows of marks: what they cost, how many are bad, when one row beats another one. -/
import Derived.Test.YtjekpfaldbeocaaPrint4
import Derived.Test.YtjekpfaldbeocaaPrint5
import Derived.Test.YtjekpfaldbeocaaPrint7
namespace Go.Proofs.Ytjekpfaldbeocaa.Plain
open Go.RowKit Go.Proofs.Ytjekpfaldbeocaa Print Go.Proofs.YtjekpfaldbeocaaW.PrintWords

def Ok (l : List S27) : Prop := ∀ m ∈ l, 0 ≤ m.f0 ∧ m.f0 ≤ 1000000000
def sumC : List S27 → Int
  | [] => 0
  | m :: l => m.f0 + sumC l
def cntB : List S27 → Int
  | [] => 0
  | m :: l => (if m.f1 = true then 1 else 0) + cntB l
theorem sumC_append (a b : List S27) : sumC (a ++ b) = sumC a + sumC b := by
  induction a with
  | nil => simp [sumC]
  | cons m a ih => simp only [List.cons_append, sumC, ih]; omega
theorem cntB_append (a b : List S27) : cntB (a ++ b) = cntB a + cntB b := by
  induction a with
  | nil => simp [cntB]
  | cons m a ih => simp only [List.cons_append, cntB, ih]; omega
theorem sumC_range {l : List S27} (h : Ok l) : 0 ≤ sumC l ∧ sumC l ≤ 1000000000 * (l.length : Int) := by
  induction l with
  | nil => simp [sumC]
  | cons m l ih =>
    have h1 := h m List.mem_cons_self
    have h2 := ih (fun x hx => h x (List.mem_cons_of_mem _ hx))
    simp only [sumC, List.length_cons]
    omega
theorem cntB_range (l : List S27) : 0 ≤ cntB l ∧ cntB l ≤ (l.length : Int) := by
  induction l with
  | nil => simp [cntB]
  | cons m l ih =>
    simp only [cntB, List.length_cons]
    split <;> omega
theorem costF_from {l : List S27} (h : Ok l) (s : Int) (h0 : 0 ≤ s) (h1 : s + 1000000000 * (l.length : Int) ≤ 9000000000000000000) : l.foldl (fun a m => wrap64 (a + m.f0)) s = s + sumC l := by
  induction l generalizing s with
  | nil => simp [sumC]
  | cons m l ih =>
    have hm := h m List.mem_cons_self
    simp only [List.length_cons] at h1
    have e : wrap64 (s + m.f0) = s + m.f0 := by unfold wrap64; omega
    rw [List.foldl_cons, e, ih (fun x hx => h x (List.mem_cons_of_mem _ hx)) _ (by omega) (by omega)]
    simp only [sumC]
    omega
theorem costF_eq {l : List S27} (h : Ok l) (hl : l.length ≤ 1000000) : costF l = sumC l := by
  have := costF_from h 0 (by omega) (by omega)
  unfold costF
  rw [this]
  omega
theorem badF_from (l : List S27) (s : Int) (h0 : 0 ≤ s) (h1 : s + (l.length : Int) ≤ 9000000000000000000) : l.foldl (fun a m => wrap64 (a + if m.f1 = true then 1 else 0)) s = s + cntB l := by
  induction l generalizing s with
  | nil => simp [cntB]
  | cons m l ih =>
    simp only [List.length_cons] at h1
    have e : wrap64 (s + if m.f1 = true then 1 else 0) = s + if m.f1 = true then 1 else 0 := by unfold wrap64; split <;> omega
    rw [List.foldl_cons, e, ih _ (by split <;> omega) (by split <;> omega)]
    simp only [cntB]
    omega
theorem badF_eq {l : List S27} (hl : l.length ≤ 1000000) : badF l = cntB l := by
  have := badF_from l 0 (by omega) (by omega)
  unfold badF
  rw [this]
  omega
theorem ok_append {a b : List S27} (h : Ok a) (k : Ok b) : Ok (a ++ b) := fun x hx => (List.mem_append.1 hx).elim (h x) (k x)
theorem rd_get {l : List S27} (i : Nat) (h : i < l.length) : rd_T27 l (i : Int) = l[i] := by
  unfold rd_T27
  rw [Int.toNat_natCast, List.getD_eq_getElem?_getD, List.getElem?_eq_getElem h]
  rfl
/-- Whether marks may be so: told, and what it says. -/
theorem right_from {l : List S27} (hl : l.length ≤ 300) (d : Nat) : ∀ (k i : Nat), i ≤ l.length → l.length - i = d → d < k → (∀ j (h : j < l.length), j < i → 0 ≤ l[j].f0 ∧ l[j].f0 ≤ 1000000000) →
    ∃ b, governorlaw17_right.l0 k l (i : Int) = some b ∧ (b = true → Ok l) := by
  induction d with
  | zero =>
    intro k i hi hd hk h
    obtain ⟨k, rfl⟩ : ∃ m, k = m + 1 := ⟨k - 1, by omega⟩
    obtain rfl : i = l.length := by omega
    refine ⟨true, by simp only [governorlaw17_right.l0]; rw [if_neg (by omega)], fun _ m hm => ?_⟩
    obtain ⟨j, hj, rfl⟩ := List.mem_iff_getElem.1 hm
    exact h j hj hj
  | succ d ih =>
    intro k i hi hd hk h
    obtain ⟨k, rfl⟩ : ∃ m, k = m + 1 := ⟨k - 1, by omega⟩
    have hlt : i < l.length := by omega
    have e : wrap64 ((i : Int) + 1) = ((i + 1 : Nat) : Int) := by unfold wrap64; omega
    simp only [governorlaw17_right.l0]
    rw [if_pos (by omega), if_pos (by omega), rd_get i hlt]
    by_cases c1 : l[i].f0 < 0
    · rw [if_pos c1]
      exact ⟨false, rfl, fun h => by cases h⟩
    · rw [if_neg c1]
      by_cases c2 : l[i].f0 > 1000000000
      · rw [if_pos c2]
        exact ⟨false, rfl, fun h => by cases h⟩
      · rw [if_neg c2, e]
        refine ih k (i + 1) (by omega) (by omega) (by omega) (fun j hj hji => ?_)
        rcases Nat.lt_or_ge j i with h1 | h1
        · exact h j hj h1
        · obtain rfl : j = i := by omega
          omega
theorem right_told (l : List S27) (k : Nat) (hk : 302 ≤ k) : ∃ b, governorlaw17_right.f k l = some b ∧ (b = true → l.length ≤ 300 ∧ Ok l) := by
  unfold governorlaw17_right.f
  by_cases c : (l.length : Int) > 300
  · rw [if_pos c]
    exact ⟨false, rfl, fun h => by cases h⟩
  · rw [if_neg c]
    obtain ⟨b, h1, h2⟩ := right_from (l := l) (by omega) l.length k 0 (by omega) (by omega) (by omega) (fun j _ h => by omega)
    exact ⟨b, h1, fun h => ⟨by omega, h2 h⟩⟩
theorem head_told (k : Nat) (hk : 100 ≤ k) : governorlaw17_head.f k = some true := at_rounds governorlaw17_head.mono hk (by decide +kernel)
/-- Does one row beat another one, told at once. -/
def betB (w ceil margin : Int) (l1 l2 : List S27) : Bool := decide ((l1.length : Int) = w) && (decide ((l2.length : Int) = w) && (decide (cntB l2 ≤ ceil) && decide (sumC l2 + margin ≤ sumC l1)))
theorem better_told (c0 c1 c2 c3 c4 c5 c6 c7 c8 c9 c10 c11 : Int) (l1 l2 : List S27) (h1 : Ok l1) (h2 : Ok l2) (n1 : l1.length ≤ 1000000) (n2 : l2.length ≤ 1000000) (m0 : 0 ≤ c8) (m1 : c8 ≤ 1000000000) :
    score_Better.f c0 c1 c2 c3 c4 c5 c6 c7 c8 c9 c10 c11 l1 l2 = some (betB c7 c9 c8 l1 l2) := by
  unfold score_Better.f score_Bad.f score_Cost.f betB
  rw [costF_eq h1 n1, costF_eq h2 n2, badF_eq n2]
  have r1 := sumC_range h1
  have r2 := sumC_range h2
  have e : wrap64 (sumC l2 + c8) = sumC l2 + c8 := by unfold wrap64; omega
  simp only [Option.bind_some]
  rw [e]
  by_cases a : (l1.length : Int) = c7
  · rw [if_pos a, decide_eq_true a, Bool.true_and]
    by_cases b : (l2.length : Int) = c7
    · rw [if_pos b, decide_eq_true b, Bool.true_and]
      by_cases d : cntB l2 ≤ c9
      · rw [if_pos d, decide_eq_true d, Bool.true_and]
      · rw [if_neg d, decide_eq_false d, Bool.false_and]
    · rw [if_neg b, decide_eq_false b, Bool.false_and]
  · rw [if_neg a, decide_eq_false a, Bool.false_and]
theorem betB_iff {w ceil margin : Int} {l1 l2 : List S27} : betB w ceil margin l1 l2 = true ↔ (l1.length : Int) = w ∧ (l2.length : Int) = w ∧ cntB l2 ≤ ceil ∧ sumC l2 + margin ≤ sumC l1 := by
  unfold betB
  simp only [Bool.and_eq_true, decide_eq_true_eq]
theorem conf_told {c0 c1 c2 c3 c4 c5 c6 c7 c8 c9 c10 c11 : Int} (h : W.confB c0 c1 c2 c3 c4 c5 c6 c7 c8 c9 c10 c11 = true) : (1 ≤ c7 ∧ c7 ≤ 32) ∧ (0 ≤ c8 ∧ c8 ≤ 1000000000) ∧ (0 ≤ c9 ∧ c9 ≤ 32) ∧ (1 ≤ c10 ∧ c10 ≤ 32) ∧ (0 ≤ c11 ∧ c11 ≤ 32) := by
  simp only [W.confB, W.judgeB, W.inB, Bool.and_eq_true, decide_eq_true_eq] at h
  omega
/-- A mark put in another one's place. -/
theorem sumC_set (l : List S27) (i : Nat) (h : i < l.length) (m : S27) : sumC (l.set i m) = sumC l - l[i].f0 + m.f0 := by
  induction l generalizing i with
  | nil => simp at h
  | cons x l ih =>
    cases i with
    | zero => simp [sumC]; omega
    | succ i =>
      have := ih i (by simpa using h)
      simp only [List.set_cons_succ, sumC, List.getElem_cons_succ, this]
      omega
theorem cntB_set (l : List S27) (i : Nat) (h : i < l.length) (m : S27) : cntB (l.set i m) = cntB l - (if l[i].f1 = true then 1 else 0) + (if m.f1 = true then 1 else 0) := by
  induction l generalizing i with
  | nil => simp at h
  | cons x l ih =>
    cases i with
    | zero => simp only [List.set_cons_zero, cntB, List.getElem_cons_zero]; omega
    | succ i =>
      have := ih i (by simpa using h)
      simp only [List.set_cons_succ, cntB, List.getElem_cons_succ, this]
      omega
theorem ok_set {l : List S27} (h : Ok l) (i : Nat) (m : S27) (hm : 0 ≤ m.f0 ∧ m.f0 ≤ 1000000000) : Ok (l.set i m) := fun x hx => by
  rcases List.mem_or_eq_of_mem_set hx with h1 | rfl
  · exact h x h1
  · exact hm
end Go.Proofs.Ytjekpfaldbeocaa.Plain
