/- The sum of any bytes, and that of more behind any sum's, are the reference's: for every row of bytes and every sum. No condition. -/
import Derived.Test.YtnclihpmahjceaaPrint1
import Derived.Test.YtnclihpmahjceaaPlain
namespace Go.Proofs.Ytnclihpmahjceaa.Pure
open Go.RowKit Go.Proofs.Ytnclihpmahjceaa.Print Go.Proofs.YtnclihpmahjceaaW.PrintWords Go.Proofs.YtnclihpmahjceaaW.PrintLast Go.Proofs.Ytnclihpmahjceaa Plain

theorem SumTells : governorlaw02_SumTells.Pure := by
  intro l0 a1 _ _ hw ha
  have hb := inByte_of hw
  have e0 := sumF0 hb
  have e1 := W.sumF_of (wf_u32 ha) hb
  unfold governorlaw02_SumTells.f governorlaw02_head.f sum_Of.f governorref02_Of.f sum_More.f governorref02_More.f
  rw [e0, e1]
  simp only [Option.bind_some, if_true, beq_self_eq_true]
  split <;> rfl

end Go.Proofs.Ytnclihpmahjceaa.Pure
