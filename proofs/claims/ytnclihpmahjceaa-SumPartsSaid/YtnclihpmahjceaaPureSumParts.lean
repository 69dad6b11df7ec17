/- Parts, one behind the other, sum up as the whole, wherever a row of bytes is cut. No condition. -/
import Derived.Test.YtnclihpmahjceaaPrint2
import Derived.Test.YtnclihpmahjceaaPlain
namespace Go.Proofs.Ytnclihpmahjceaa.Pure
open Go.RowKit Go.Proofs.Ytnclihpmahjceaa.Print Go.Proofs.YtnclihpmahjceaaW.PrintWords Go.Proofs.YtnclihpmahjceaaW.PrintLast Go.Proofs.Ytnclihpmahjceaa Plain

theorem SumParts : governorlaw02_SumParts.Pure := by
  intro l0 a1 _ _ hw ha
  have hb := inByte_of hw
  have h1 := wf_u16 ha
  unfold governorlaw02_SumParts.f governorlaw02_head.f
  simp only [Option.bind_some]
  by_cases hl : (l0.length : Int) > 9000
  · rw [if_pos hl]
  · have e1 : wrap64 ((l0.length : Int) + 1) = (l0.length : Int) + 1 := by unfold wrap64; omega
    have e2 : wrap64 a1 = a1 := by unfold wrap64; omega
    rw [e1, e2]
    have e3 : a1.tmod ((l0.length : Int) + 1) = a1 % ((l0.length : Int) + 1) := Int.tmod_eq_emod_of_nonneg h1.1
    have p0 : 0 ≤ a1 % ((l0.length : Int) + 1) := Int.emod_nonneg _ (by omega)
    have p1 : a1 % ((l0.length : Int) + 1) < (l0.length : Int) + 1 := Int.emod_lt_of_pos _ (by omega)
    rw [e3]
    generalize a1 % ((l0.length : Int) + 1) = k at *
    rw [if_neg hl, if_neg (by omega), if_pos trivial, if_pos p0, if_pos (by omega)]
    unfold sum_Of.f sum_More.f
    rw [sumF0 (inByte_take hb _)]
    simp only [Option.bind_some]
    rw [sumF_more (inByte_drop hb _), sumF0 hb, List.take_append_drop]
    simp only [Option.bind_some, if_true]
    rw [sumF_more inByte_nil, List.append_nil]
    simp

end Go.Proofs.Ytnclihpmahjceaa.Pure
