/- The sum of one byte more is told by the sum ahead alone; two sums that are alike go on alike, unlike ones unlike. No condition. -/
import Derived.Test.YtnclihpmahjceaaPrint4
import Derived.Test.YtnclihpmahjceaaPlain
namespace Go.Proofs.Ytnclihpmahjceaa.Pure
open Go.RowKit Go.Proofs.Ytnclihpmahjceaa.Print Go.Proofs.YtnclihpmahjceaaW.PrintWords Go.Proofs.YtnclihpmahjceaaW.PrintLast Go.Proofs.Ytnclihpmahjceaa Plain

theorem one_byte {m : List Int} (k : Nat) (hk : k < m.length) : (m.take (k + 1)).drop k = [rd m k] := by
  rw [W.take_rd m k hk, List.drop_append_of_le_length (by rw [List.length_take]; omega), List.drop_eq_nil_of_le (by rw [List.length_take]; omega), List.nil_append]
theorem bytes_one {x0 x1 x2 : List Int} (h0 : W.InByte x0) (h1 : W.InByte x1) (h2 : W.InByte x2) (hl : x2.length ≤ 900) (d : Nat) : ∀ (k : Nat) (i : Nat), i ≤ x2.length → x2.length - i = d → d < k →
    governorlaw02_SumOne.l0 k x0 x1 x2 true (M.more 0 x0) (M.more 0 (x0 ++ x2.take i)) (i : Int) = some true := by
  induction d with
  | zero =>
    intro k i hi hd hk
    obtain ⟨k, rfl⟩ : ∃ m, k = m + 1 := ⟨k - 1, by omega⟩
    obtain rfl : i = x2.length := by omega
    simp only [governorlaw02_SumOne.l0]
    unfold sum_Of.f sum_More.f
    rw [if_neg (by omega), sumF0 h0, sumF0 h1]
    simp only [Option.bind_some]
    rw [sumF_more h2, sumF_more h2, List.take_length]
    simp only [Option.bind_some, if_true]
    congr 1
    rw [beq_iff_eq, Bool.eq_iff_iff, beq_iff_eq, beq_iff_eq, ← more_more, ← more_more]
    exact ⟨fun h => more_inj _ (more_range _ _) (more_range _ _) h, fun h => by rw [h]⟩
  | succ d ih =>
    intro k i hi hd hk
    obtain ⟨k, rfl⟩ : ∃ m, k = m + 1 := ⟨k - 1, by omega⟩
    have e1 : wrap64 ((i : Int) + 1) = ((i + 1 : Nat) : Int) := by unfold wrap64; omega
    have hone := one_byte (m := x2) i (by omega)
    simp only [governorlaw02_SumOne.l0]
    rw [e1, if_pos (by omega), if_pos (by omega), if_pos (by omega), if_pos (by omega)]
    rw [Int.toNat_natCast, Int.toNat_natCast, hone]
    unfold sum_More.f
    rw [sumF_more (fun u hu => by rw [List.mem_singleton.1 hu]; exact rd_byte h2 i (by omega))]
    simp only [Option.bind_some]
    rw [List.append_assoc, ← W.take_rd x2 i (by omega)]
    exact ih k (i + 1) (by omega) (by omega) (by omega)
theorem SumOne : governorlaw02_SumOne.Pure := by
  intro l0 l1 l2 _ _ hw0 _ _ hw1 _ _ hw2
  have h0 := inByte_of hw0
  have h1 := inByte_of hw1
  have h2 := inByte_of hw2
  refine ⟨l2.length + 2, ?_⟩
  unfold governorlaw02_SumOne.f governorlaw02_head.f
  simp only [Option.bind_some]
  have yes : ∀ k, governorlaw02_SumOne.j0 (k + 1) l0 l1 l2 true true = some true := fun k => by simp only [governorlaw02_SumOne.j0]; rw [if_pos trivial]
  by_cases c0 : (l0.length : Int) > 3000
  · rw [if_pos c0]; exact yes _
  · rw [if_neg c0]
    by_cases c1 : (l1.length : Int) > 3000
    · rw [if_pos c1]; exact yes _
    · rw [if_neg c1]
      by_cases c2 : (l2.length : Int) > 900
      · rw [decide_eq_true c2]; exact yes _
      · rw [decide_eq_false c2]
        simp only [governorlaw02_SumOne.j0]
        rw [if_neg (by decide)]
        unfold sum_Of.f sum_More.f
        rw [sumF0 h0]
        simp only [Option.bind_some]
        have := bytes_one h0 h1 h2 (by omega) l2.length (l2.length + 1) 0 (by omega) (by omega) (by omega)
        simpa using this

end Go.Proofs.Ytnclihpmahjceaa.Pure
