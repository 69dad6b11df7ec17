/- With its own sum behind it, the lowest byte first, every row of bytes has one and the same sum. No condition. -/
import Derived.Test.YtnclihpmahjceaaPrint4
import Derived.Test.YtnclihpmahjceaaPlain
namespace Go.Proofs.Ytnclihpmahjceaa.Pure
open Go.RowKit Go.Proofs.Ytnclihpmahjceaa.Print Go.Proofs.YtnclihpmahjceaaW.PrintWords Go.Proofs.YtnclihpmahjceaaW.PrintLast Go.Proofs.Ytnclihpmahjceaa Plain

theorem SumZero : governorlaw02_SumZero.Pure := by
  intro l0 _ hs hw
  have hb := inByte_of hw
  unfold governorlaw02_SumZero.f governorlaw02_head.f sum_Of.f sum_More.f
  simp only [Option.bind_some]
  by_cases hl : (l0.length : Int) > 9000
  · rw [if_pos hl]
  · rw [if_neg hl, sumF0 hb]
    simp only [Option.bind_some, List.nil_append, List.length_nil, Nat.zero_add]
    rw [if_pos (by omega), if_pos (by simp; omega)]
    simp only [if_true]
    rw [sumF0 (inByte_append hb (bytes_of_sum _)), ← more_more, more_zero]
    rfl

end Go.Proofs.Ytnclihpmahjceaa.Pure
