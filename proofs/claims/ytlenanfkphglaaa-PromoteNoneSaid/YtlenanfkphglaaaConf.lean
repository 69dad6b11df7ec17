/- Pruned: a text of this claim's: words and walks that the claim's theorem uses. -/
import Derived.Test.YtlenanfkphglaaaProg
import Derived.Test.YtlenanfkphglaaaWWords
import Derived.WalkKit
import Derived.Outline
import Derived.Deep.DeepCutAuto
import Derived.Deep.RegionHeld3
import Derived.BigQuiet
import Derived.Lib.Hide
namespace Go.Proofs.Ytlenanfkphglaaa.W
open Go.RowKit Go.Proofs.YtlenanfkphglaaaW.PrintWords
set_option linter.unusedVariables false
def inB (n a b : Int) : Bool := decide (a ≤ n) && decide (n ≤ b)
theorem within_calls (n a b : Int) (w : World) : Calls Try.prog 24 #[.int .i64 n, .int .i64 a, .int .i64 b] w fun e w' => e = .returned (.bool (inB n a b)) ∧ w = w' := by
  by_cases h1 : a ≤ n
  · have h1b : decide (a ≤ n) = true := decide_eq_true h1
    have e : inB n a b = decide (n ≤ b) := by simp [inB, h1]
    have HE := Lib.hid e
    clear e
    go_enter Try.func24, Try.ntmps24
    go_wp2
    go_ret
    exact ⟨by rw [HE.out]; rfl, rfl⟩
  · have h1b : decide (a ≤ n) = false := decide_eq_false h1
    have e : false = inB n a b := by simp [inB, h1]
    have HE := Lib.hid e
    clear e
    go_enter Try.func24, Try.ntmps24
    go_wp2
    go_ret
    exact ⟨by rw [← HE.out]; rfl, rfl⟩
def sizeB (c0 c1 c2 : Int) : Bool := inB c0 1 c1 && (decide (c1 ≤ 1000) && inB c2 1 1000)
def plantB (c3 c4 c5 c6 : Int) : Bool := inB c3 0 1099511627776 && (inB c4 1 1000000 && (inB c5 0 8 && inB c6 0 1000000000))
def judgeB (c7 c8 c9 c10 c11 : Int) : Bool := inB c7 1 32 && (inB c8 0 1000000000 && (inB c9 0 32 && (inB c10 1 32 && inB c11 0 32)))
def confB (c0 c1 c2 c3 c4 c5 c6 c7 c8 c9 c10 c11 : Int) : Bool := sizeB c0 c1 c2 && (plantB c3 c4 c5 c6 && judgeB c7 c8 c9 c10 c11)
theorem and_false_ (a : Bool) : (a && false) = false := by cases a <;> rfl
set_option maxRecDepth 100000 in
set_option maxHeartbeats 4000000 in
theorem conf_calls (c0 c1 c2 c3 c4 c5 c6 c7 c8 c9 c10 c11 : Int) (w : World) : Calls Try.prog 9 #[.agg #[.int .i64 c0, .int .i64 c1, .int .i64 c2, .int .i64 c3, .int .i64 c4, .int .i64 c5, .int .i64 c6, .int .i64 c7, .int .i64 c8, .int .i64 c9, .int .i64 c10, .int .i64 c11]] w
    fun e w' => e = .returned (.bool (confB c0 c1 c2 c3 c4 c5 c6 c7 c8 c9 c10 c11)) ∧ Below w.heap.size w w' := by
  have hu := Try.underlying23
  obtain ⟨cb, hcb⟩ : ∃ cb, confB c0 c1 c2 c3 c4 c5 c6 c7 c8 c9 c10 c11 = cb := ⟨_, rfl⟩
  rw [hcb]
  have HCB := Lib.hid hcb.symm
  clear hcb
  go_enter Try.func9, Try.ntmps9
  go_upto_region 1 with fail
  go_cut [3] (fun s3 wx => s3 = .bool (sizeB c0 c1 c2) ∧ wx = w.alloc (.cells #[.int .i64 c0, .int .i64 c1, .int .i64 c2, .int .i64 c3, .int .i64 c4, .int .i64 c5, .int .i64 c6, .int .i64 c7, .int .i64 c8, .int .i64 c9, .int .i64 c10, .int .i64 c11] 23))
  case first =>
    go_wp2_with fail
    all_goals go_meet
    all_goals exact ⟨congrArg Value.bool (by simp_all [sizeB, inB] <;> (intros; omega)), rfl⟩
  case rest =>
    obtain ⟨rfl, rfl⟩ := hcut
    go_upto_region 2 with fail
    go_cut [4] (fun s4 wx => s4 = .bool (plantB c3 c4 c5 c6) ∧ wx = w.alloc (.cells #[.int .i64 c0, .int .i64 c1, .int .i64 c2, .int .i64 c3, .int .i64 c4, .int .i64 c5, .int .i64 c6, .int .i64 c7, .int .i64 c8, .int .i64 c9, .int .i64 c10, .int .i64 c11] 23))
    case first =>
      go_wp2_with (go_at_call 24; refine (within_calls _ _ _ _).mono ?_; rintro e w' ⟨rfl, rfl⟩)
      all_goals go_meet
      all_goals exact ⟨congrArg Value.bool (by simp_all [plantB, inB] <;> (intros; omega)), rfl⟩
    case rest =>
      obtain ⟨rfl, rfl⟩ := hcut
      go_upto_region 3 with fail
      go_cut [5] (fun s5 wx => s5 = .bool (judgeB c7 c8 c9 c10 c11) ∧ wx = w.alloc (.cells #[.int .i64 c0, .int .i64 c1, .int .i64 c2, .int .i64 c3, .int .i64 c4, .int .i64 c5, .int .i64 c6, .int .i64 c7, .int .i64 c8, .int .i64 c9, .int .i64 c10, .int .i64 c11] 23))
      case first =>
        go_wp2_with (go_at_call 24; refine (within_calls _ _ _ _).mono ?_; rintro e w' ⟨rfl, rfl⟩)
        all_goals go_meet
        all_goals exact ⟨congrArg Value.bool (by simp_all [judgeB, inB] <;> (intros; omega)), rfl⟩
      case rest =>
        obtain ⟨rfl, rfl⟩ := hcut
        have HC2 := Lib.hid (show cb = (sizeB c0 c1 c2 && (plantB c3 c4 c5 c6 && judgeB c7 c8 c9 c10 c11)) from HCB.out)
        clear HCB
        generalize sizeB c0 c1 c2 = x at *
        generalize plantB c3 c4 c5 c6 = y at *
        generalize judgeB c7 c8 c9 c10 c11 = z at *
        have hB : Below w.heap.size w (w.alloc (.cells #[.int .i64 c0, .int .i64 c1, .int .i64 c2, .int .i64 c3, .int .i64 c4, .int .i64 c5, .int .i64 c6, .int .i64 c7, .int .i64 c8, .int .i64 c9, .int .i64 c10, .int .i64 c11] 23)) := (Below.refl _ w).alloc (Nat.le_refl _) _
        cases x <;> cases y <;> cases z
        all_goals go_wp2
        all_goals go_ret
        all_goals exact ⟨by rw [HC2.out]; rfl, hB⟩
end Go.Proofs.Ytlenanfkphglaaa.W
