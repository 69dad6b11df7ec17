/- The sum of three rows of one length, turned bit by bit into one, is their three sums turned. No condition. -/
import Derived.Test.YtnclihpmahjceaaPrint3
import Derived.Test.YtnclihpmahjceaaPlain
namespace Go.Proofs.Ytnclihpmahjceaa.Pure
open Go.RowKit Go.Proofs.Ytnclihpmahjceaa.Print Go.Proofs.YtnclihpmahjceaaW.PrintWords Go.Proofs.YtnclihpmahjceaaW.PrintLast Go.Proofs.Ytnclihpmahjceaa Plain

theorem set_turn {x y z : List Int} (n k : Nat) (hk : k < n) : (turned x y z k ++ List.replicate (n - k) 0).set k (turn (rd x k) (rd y k) (rd z k)) = turned x y z (k + 1) ++ List.replicate (n - (k + 1)) 0 := by
  have hl := turned_length x y z k
  rw [List.set_append_right _ _ (by omega), hl, Nat.sub_self]
  obtain ⟨m, hm⟩ : ∃ m, n - k = m + 1 := ⟨n - k - 1, by omega⟩
  rw [hm, show n - (k + 1) = m from by omega, List.replicate_succ, List.set_cons_zero]
  simp [turned]
theorem turns {x0 x1 x2 : List Int} (h0 : W.InByte x0) (h1 : W.InByte x1) (h2 : W.InByte x2) (n : Nat) (n0 : n ≤ x0.length) (n1 : n ≤ x1.length) (n2 : n ≤ x2.length) (hn : n ≤ 9000) (d : Nat) : ∀ (k : Nat) (i : Nat), i ≤ n → n - i = d → d < k →
    governorlaw02_SumTurns.l0 k x0 x1 x2 true (n : Int) (turned x0 x1 x2 i ++ List.replicate (n - i) 0) (i : Int) = some true := by
  induction d with
  | zero =>
    intro k i hi hd hk
    obtain ⟨k, rfl⟩ : ∃ m, k = m + 1 := ⟨k - 1, by omega⟩
    obtain rfl : i = n := by omega
    simp only [governorlaw02_SumTurns.l0]
    rw [if_neg (by omega), if_pos trivial, Nat.sub_self, List.replicate_zero, List.append_nil]
    unfold sum_Of.f sum_More.f
    rw [sumF0 (turned_byte h0 h1 h2 i n0 n1 n2), Int.toNat_natCast, sumF0 (inByte_take h0 i), sumF0 (inByte_take h1 i), sumF0 (inByte_take h2 i)]
    simp only [Option.bind_some]
    rw [if_pos (by omega), if_pos (by omega), if_pos (by omega), if_pos (by omega), more_turned h0 h1 h2 i n0 n1 n2]
    simp
  | succ d ih =>
    intro k i hi hd hk
    obtain ⟨k, rfl⟩ : ∃ m, k = m + 1 := ⟨k - 1, by omega⟩
    have e1 : wrap64 ((i : Int) + 1) = ((i + 1 : Nat) : Int) := by unfold wrap64; omega
    have hl := turned_length x0 x1 x2 i
    simp only [governorlaw02_SumTurns.l0]
    rw [e1, if_pos (by omega), if_pos (by omega), if_pos (by omega), if_pos (by omega), if_pos (by omega), if_pos (by rw [List.length_append, List.length_replicate]; omega), Int.toNat_natCast]
    have := ih k (i + 1) (by omega) (by omega) (by omega)
    rw [← set_turn n i (by omega)] at this
    exact this
theorem SumTurns : governorlaw02_SumTurns.Pure := by
  intro l0 l1 l2 _ _ hw0 _ _ hw1 _ _ hw2
  have h0 := inByte_of hw0
  have h1 := inByte_of hw1
  have h2 := inByte_of hw2
  obtain ⟨n, hn⟩ : ∃ n : Nat, mn (mn (l0.length : Int) (l1.length : Int)) (l2.length : Int) = (n : Int) := ⟨(mn (mn (l0.length : Int) (l1.length : Int)) (l2.length : Int)).toNat, by unfold mn; (repeat' split) <;> omega⟩
  have n0 : n ≤ l0.length := by unfold mn at hn; (repeat' split at hn) <;> omega
  have n1 : n ≤ l1.length := by unfold mn at hn; (repeat' split at hn) <;> omega
  have n2 : n ≤ l2.length := by unfold mn at hn; (repeat' split at hn) <;> omega
  refine ⟨n + 1, ?_⟩
  unfold governorlaw02_SumTurns.f governorlaw02_head.f
  rw [hn]
  simp only [Option.bind_some]
  by_cases hl : (n : Int) > 9000
  · rw [if_pos hl]
  · rw [if_neg hl, if_pos (by omega), if_pos (by omega)]
    have := turns h0 h1 h2 n n0 n1 n2 (by omega) n (n + 1) 0 (by omega) (by omega) (by omega)
    simpa [turned] using this

end Go.Proofs.Ytnclihpmahjceaa.Pure
