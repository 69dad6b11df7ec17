/- Functions of the program as Lean functions, and that its calls come to them; written by a program of this claim over the kit print; Lean checks it. -/
import Derived.Test.YtjekpfaldbeocaaPrint0
import Derived.Test.YtjekpfaldbeocaaPrint2
import Derived.Test.YtjekpfaldbeocaaPrint3
namespace Go.Proofs.Ytjekpfaldbeocaa.Print
open Go.RowKit Go.Proofs.YtjekpfaldbeocaaW.PrintWords Go.Proofs.YtjekpfaldbeocaaW.PrintLast Go.Proofs.YtjekpfaldbeocaaW.PrintMore
attribute [local go_sem] max2_int min2_int max_two min_two max_three min_three max_four min_four   -- for this text's walks alone
set_option linter.unusedVariables false
set_option linter.unusedSimpArgs false

/-! ### governorlaw17_head: function 7 -/
def governorlaw17_head.f (k : Nat)  : Option (Bool) := (score_Add.f 2 (([(⟨1, false⟩ : S27), (⟨2, false⟩ : S27)] : List (S27))) 3 true).bind fun t124 => ((some (([(⟨3, false⟩ : S27), (⟨3, false⟩ : S27), (⟨3, true⟩ : S27), (⟨3, false⟩ : S27)] : List (S27)) : List (S27))).bind fun y127 => ((some (([(⟨3, false⟩ : S27), (⟨4, false⟩ : S27), (⟨4, false⟩ : S27), (⟨3, false⟩ : S27)] : List (S27)) : List (S27))).bind fun y130 => ((governorref17_Same.f k t124 (([(⟨2, false⟩ : S27), (⟨3, true⟩ : S27)] : List (S27)))).bind fun t136 => (if t136 = true then ((score_Add.f 0 t124 0 false).bind fun t137 => (if (t137.length : Int) = 0 then ((score_Cost.f y127).bind fun t140 => (if t140 = 12 then ((score_Bad.f y127).bind fun t141 => (if t141 = 1 then ((governorlaw09_Plain.f).bind fun bt142 => ((score_Better.f bt142.1 bt142.2.1 bt142.2.2.1 bt142.2.2.2.1 bt142.2.2.2.2.1 bt142.2.2.2.2.2.1 bt142.2.2.2.2.2.2.1 bt142.2.2.2.2.2.2.2.1 bt142.2.2.2.2.2.2.2.2.1 bt142.2.2.2.2.2.2.2.2.2.1 bt142.2.2.2.2.2.2.2.2.2.2.1 bt142.2.2.2.2.2.2.2.2.2.2.2 y130 y127).bind fun t154 => (if t154 = true then ((governorlaw09_Plain.f).bind fun bt155 => ((score_Better.f bt155.1 bt155.2.1 bt155.2.2.1 bt155.2.2.2.1 bt155.2.2.2.2.1 bt155.2.2.2.2.2.1 bt155.2.2.2.2.2.2.1 bt155.2.2.2.2.2.2.2.1 bt155.2.2.2.2.2.2.2.2.1 bt155.2.2.2.2.2.2.2.2.2.1 bt155.2.2.2.2.2.2.2.2.2.2.1 bt155.2.2.2.2.2.2.2.2.2.2.2 y127 y130).bind fun t167 => (if t167 = true then (some false) else ((governorlaw09_Plain.f).bind fun bt168 => (if 3 ≤ (y127.length : Int) then ((score_Better.f bt168.1 bt168.2.1 bt168.2.2.1 bt168.2.2.2.1 bt168.2.2.2.2.1 bt168.2.2.2.2.2.1 bt168.2.2.2.2.2.2.1 bt168.2.2.2.2.2.2.2.1 bt168.2.2.2.2.2.2.2.2.1 bt168.2.2.2.2.2.2.2.2.2.1 bt168.2.2.2.2.2.2.2.2.2.2.1 bt168.2.2.2.2.2.2.2.2.2.2.2 y130 (y127.take 3)).bind fun t184 => (some (!t184))) else (none)))))) else (some false)))) else (some false))) else (some false))) else (some false))) else (some false)))))
theorem governorlaw17_head.mono : ∀ k, LeO (governorlaw17_head.f k ) (governorlaw17_head.f (k + 1) ) := by
  intro  k
  unfold governorlaw17_head.f
  repeat' first
      | (with_reducible exact governorref17_Same.mono _ _ _)
      | (with_reducible exact LeO.refl _)
      | (with_reducible exact LeO.none _)
      | (with_reducible refine LeO.ite ?_ ?_)
      | (with_reducible refine LeO.bind ?_ (fun _ => ?_))
      | exact governorref17_Same.mono _ _ _
      | exact LeO.none _
      | refine LeO.ite ?_ ?_
      | refine LeO.bind ?_ (fun _ => ?_)
def governorlaw17_head.T4 : Bool × List (List Nat × List Nat) := (true, [([], []), ([], []), ([], []), ([1, 2], [1, 2]), ([0, 3], [0, 3]), ([4, 4], [4]), ([5], [5]), ([5], [5]), ([6, 7, 5, 5], [5, 6, 7]), ([8, 5], [5, 8]), ([9, 5], [5, 9]), ([5, 10], [5, 10]), ([11, 8], [11]), ([12], [12]), ([13, 12, 12], [12, 13]), ([14, 12], [12, 14]), ([12, 15], [12, 15]), ([16, 14], [16]), ([17], [17]), ([18, 17, 17], [17, 18]), ([19, 17], [17, 19]), ([17, 20], [17, 20]), ([21, 19], [21]), ([22, 22], [22]), ([22], [22]), ([22], [22]), ([23, 24, 25, 23, 22], [22, 23, 24, 25]), ([22, 26], [22, 26]), ([27, 26], [27]), ([28, 28], [28]), ([28], [28]), ([28], [28]), ([29, 30, 31, 29, 28], [28, 29, 30, 31]), ([32, 28], [28, 32]), ([28, 33], [28, 33]), ([34, 32], [34]), ([35, 35], [35]), ([35], [35]), ([35], [35]), ([38, 35], [35, 38]), ([36, 37, 39, 36, 35], [35, 36, 37, 39]), ([40, 35], [35, 40]), ([35, 41], [35, 41]), ([42, 40, 0, 1, 2, 3, 4, 5, 6, 7, 8, 9, 10, 11, 12, 13, 14, 15, 16, 17, 18, 19, 20, 21, 22, 23, 24, 25, 26, 27, 28, 29, 30, 31, 32, 33, 34, 35, 36, 37, 38, 39, 40, 41, 42], [42])])
def governorlaw17_head.B4 : List Nat := [0, 0, 0, 6, 15, 31, 63, 63, 255, 511, 1023, 2047, 4095, 8191, 16383, 32767, 65535, 131071, 262143, 524287, 1048575, 2097151, 4194303, 8388607, 8388607, 8388607, 67108863, 134217727, 268435455, 536870911, 536870911, 536870911, 4294967295, 8589934591, 17179869183, 34359738367, 68719476735, 68719476735, 68719476735, 343597383679, 1099511627775, 2199023255551, 4398046511103, 8796093022207]
theorem governorlaw17_head.tab4 : rtab .any (opsOf Try.f7 4) = governorlaw17_head.T4 := by kernel_rfl
theorem governorlaw17_head.bits4 : waitsOk governorlaw17_head.T4.2 governorlaw17_head.B4 = true := by kernel_rfl
set_option maxHeartbeats 8000000 in
set_option maxRecDepth 100000 in
theorem governorlaw17_head.calls_t (k : Nat) (r : Bool) (w : World) (h : governorlaw17_head.f k  = some r) (hr_ : r = true) :
    Calls Try.prog 7 #[] w fun e w' => e = .returned (.bool r) ∧ Below w.heap.size w w' := by
  have hu27 := Try.underlying27
  have HB := Aside0.mk (Below.refl w.heap.size w)
  have H : ((score_Add.f 2 (([(⟨1, false⟩ : S27), (⟨2, false⟩ : S27)] : List (S27))) 3 true).bind fun t124 => ((some (([(⟨3, false⟩ : S27), (⟨3, false⟩ : S27), (⟨3, true⟩ : S27), (⟨3, false⟩ : S27)] : List (S27)) : List (S27))).bind fun y127 => ((some (([(⟨3, false⟩ : S27), (⟨4, false⟩ : S27), (⟨4, false⟩ : S27), (⟨3, false⟩ : S27)] : List (S27)) : List (S27))).bind fun y130 => ((governorref17_Same.f k t124 (([(⟨2, false⟩ : S27), (⟨3, true⟩ : S27)] : List (S27)))).bind fun t136 => (if t136 = true then ((score_Add.f 0 t124 0 false).bind fun t137 => (if (t137.length : Int) = 0 then ((score_Cost.f y127).bind fun t140 => (if t140 = 12 then ((score_Bad.f y127).bind fun t141 => (if t141 = 1 then ((governorlaw09_Plain.f).bind fun bt142 => ((score_Better.f bt142.1 bt142.2.1 bt142.2.2.1 bt142.2.2.2.1 bt142.2.2.2.2.1 bt142.2.2.2.2.2.1 bt142.2.2.2.2.2.2.1 bt142.2.2.2.2.2.2.2.1 bt142.2.2.2.2.2.2.2.2.1 bt142.2.2.2.2.2.2.2.2.2.1 bt142.2.2.2.2.2.2.2.2.2.2.1 bt142.2.2.2.2.2.2.2.2.2.2.2 y130 y127).bind fun t154 => (if t154 = true then ((governorlaw09_Plain.f).bind fun bt155 => ((score_Better.f bt155.1 bt155.2.1 bt155.2.2.1 bt155.2.2.2.1 bt155.2.2.2.2.1 bt155.2.2.2.2.2.1 bt155.2.2.2.2.2.2.1 bt155.2.2.2.2.2.2.2.1 bt155.2.2.2.2.2.2.2.2.1 bt155.2.2.2.2.2.2.2.2.2.1 bt155.2.2.2.2.2.2.2.2.2.2.1 bt155.2.2.2.2.2.2.2.2.2.2.2 y127 y130).bind fun t167 => (if t167 = true then (some false) else ((governorlaw09_Plain.f).bind fun bt168 => (if 3 ≤ (y127.length : Int) then ((score_Better.f bt168.1 bt168.2.1 bt168.2.2.1 bt168.2.2.2.1 bt168.2.2.2.2.1 bt168.2.2.2.2.2.1 bt168.2.2.2.2.2.2.1 bt168.2.2.2.2.2.2.2.1 bt168.2.2.2.2.2.2.2.2.1 bt168.2.2.2.2.2.2.2.2.2.1 bt168.2.2.2.2.2.2.2.2.2.2.1 bt168.2.2.2.2.2.2.2.2.2.2.2 y130 (y127.take 3)).bind fun t184 => (some (!t184))) else (none)))))) else (some false)))) else (some false))) else (some false))) else (some false))) else (some false)))))) = some r := h
  clear h
  obtain ⟨y121, hy121⟩ : ∃ y_ : List (S27), y_ = (([(⟨1, false⟩ : S27), (⟨2, false⟩ : S27)] : List (S27))) := ⟨_, rfl⟩
  replace H : ((score_Add.f 2 y121 3 true).bind fun t124 => ((some (([(⟨3, false⟩ : S27), (⟨3, false⟩ : S27), (⟨3, true⟩ : S27), (⟨3, false⟩ : S27)] : List (S27)) : List (S27))).bind fun y127 => ((some (([(⟨3, false⟩ : S27), (⟨4, false⟩ : S27), (⟨4, false⟩ : S27), (⟨3, false⟩ : S27)] : List (S27)) : List (S27))).bind fun y130 => ((governorref17_Same.f k t124 (([(⟨2, false⟩ : S27), (⟨3, true⟩ : S27)] : List (S27)))).bind fun t136 => (if t136 = true then ((score_Add.f 0 t124 0 false).bind fun t137 => (if (t137.length : Int) = 0 then ((score_Cost.f y127).bind fun t140 => (if t140 = 12 then ((score_Bad.f y127).bind fun t141 => (if t141 = 1 then ((governorlaw09_Plain.f).bind fun bt142 => ((score_Better.f bt142.1 bt142.2.1 bt142.2.2.1 bt142.2.2.2.1 bt142.2.2.2.2.1 bt142.2.2.2.2.2.1 bt142.2.2.2.2.2.2.1 bt142.2.2.2.2.2.2.2.1 bt142.2.2.2.2.2.2.2.2.1 bt142.2.2.2.2.2.2.2.2.2.1 bt142.2.2.2.2.2.2.2.2.2.2.1 bt142.2.2.2.2.2.2.2.2.2.2.2 y130 y127).bind fun t154 => (if t154 = true then ((governorlaw09_Plain.f).bind fun bt155 => ((score_Better.f bt155.1 bt155.2.1 bt155.2.2.1 bt155.2.2.2.1 bt155.2.2.2.2.1 bt155.2.2.2.2.2.1 bt155.2.2.2.2.2.2.1 bt155.2.2.2.2.2.2.2.1 bt155.2.2.2.2.2.2.2.2.1 bt155.2.2.2.2.2.2.2.2.2.1 bt155.2.2.2.2.2.2.2.2.2.2.1 bt155.2.2.2.2.2.2.2.2.2.2.2 y127 y130).bind fun t167 => (if t167 = true then (some false) else ((governorlaw09_Plain.f).bind fun bt168 => (if 3 ≤ (y127.length : Int) then ((score_Better.f bt168.1 bt168.2.1 bt168.2.2.1 bt168.2.2.2.1 bt168.2.2.2.2.1 bt168.2.2.2.2.2.1 bt168.2.2.2.2.2.2.1 bt168.2.2.2.2.2.2.2.1 bt168.2.2.2.2.2.2.2.2.1 bt168.2.2.2.2.2.2.2.2.2.1 bt168.2.2.2.2.2.2.2.2.2.2.1 bt168.2.2.2.2.2.2.2.2.2.2.2 y130 (y127.take 3)).bind fun t184 => (some (!t184))) else (none)))))) else (some false)))) else (some false))) else (some false))) else (some false))) else (some false)))))) = some r := by first | (rw [hy121]; with_reducible exact H) | (have H2_ := (Option.bind_some _ _).symm.trans H; rw [hy121]; with_reducible exact H2_) | (have H2_ := (Option.bind_some _ _).symm.trans H; with_reducible exact H2_) | with_reducible exact H | (rw [hy121]; exact H) | exact H
  have Ny121 := Aside0.mk hy121
  clear hy121
  replace H := Option.bind_eq_some_iff.mp H
  obtain ⟨t124, A10, H⟩ := H
  replace H : ((some (([(⟨3, false⟩ : S27), (⟨3, false⟩ : S27), (⟨3, true⟩ : S27), (⟨3, false⟩ : S27)] : List (S27)) : List (S27))).bind fun y127 => ((some (([(⟨3, false⟩ : S27), (⟨4, false⟩ : S27), (⟨4, false⟩ : S27), (⟨3, false⟩ : S27)] : List (S27)) : List (S27))).bind fun y130 => ((governorref17_Same.f k t124 (([(⟨2, false⟩ : S27), (⟨3, true⟩ : S27)] : List (S27)))).bind fun t136 => (if t136 = true then ((score_Add.f 0 t124 0 false).bind fun t137 => (if (t137.length : Int) = 0 then ((score_Cost.f y127).bind fun t140 => (if t140 = 12 then ((score_Bad.f y127).bind fun t141 => (if t141 = 1 then ((governorlaw09_Plain.f).bind fun bt142 => ((score_Better.f bt142.1 bt142.2.1 bt142.2.2.1 bt142.2.2.2.1 bt142.2.2.2.2.1 bt142.2.2.2.2.2.1 bt142.2.2.2.2.2.2.1 bt142.2.2.2.2.2.2.2.1 bt142.2.2.2.2.2.2.2.2.1 bt142.2.2.2.2.2.2.2.2.2.1 bt142.2.2.2.2.2.2.2.2.2.2.1 bt142.2.2.2.2.2.2.2.2.2.2.2 y130 y127).bind fun t154 => (if t154 = true then ((governorlaw09_Plain.f).bind fun bt155 => ((score_Better.f bt155.1 bt155.2.1 bt155.2.2.1 bt155.2.2.2.1 bt155.2.2.2.2.1 bt155.2.2.2.2.2.1 bt155.2.2.2.2.2.2.1 bt155.2.2.2.2.2.2.2.1 bt155.2.2.2.2.2.2.2.2.1 bt155.2.2.2.2.2.2.2.2.2.1 bt155.2.2.2.2.2.2.2.2.2.2.1 bt155.2.2.2.2.2.2.2.2.2.2.2 y127 y130).bind fun t167 => (if t167 = true then (some false) else ((governorlaw09_Plain.f).bind fun bt168 => (if 3 ≤ (y127.length : Int) then ((score_Better.f bt168.1 bt168.2.1 bt168.2.2.1 bt168.2.2.2.1 bt168.2.2.2.2.1 bt168.2.2.2.2.2.1 bt168.2.2.2.2.2.2.1 bt168.2.2.2.2.2.2.2.1 bt168.2.2.2.2.2.2.2.2.1 bt168.2.2.2.2.2.2.2.2.2.1 bt168.2.2.2.2.2.2.2.2.2.2.1 bt168.2.2.2.2.2.2.2.2.2.2.2 y130 (y127.take 3)).bind fun t184 => (some (!t184))) else (none)))))) else (some false)))) else (some false))) else (some false))) else (some false))) else (some false))))) = some r := H
  have A1 := Aside0.mk A10
  clear A10
  obtain ⟨y127, hy127⟩ : ∃ y_ : List (S27), y_ = (([(⟨3, false⟩ : S27), (⟨3, false⟩ : S27), (⟨3, true⟩ : S27), (⟨3, false⟩ : S27)] : List (S27))) := ⟨_, rfl⟩
  replace H : ((some (([(⟨3, false⟩ : S27), (⟨4, false⟩ : S27), (⟨4, false⟩ : S27), (⟨3, false⟩ : S27)] : List (S27)) : List (S27))).bind fun y130 => ((governorref17_Same.f k t124 (([(⟨2, false⟩ : S27), (⟨3, true⟩ : S27)] : List (S27)))).bind fun t136 => (if t136 = true then ((score_Add.f 0 t124 0 false).bind fun t137 => (if (t137.length : Int) = 0 then ((score_Cost.f y127).bind fun t140 => (if t140 = 12 then ((score_Bad.f y127).bind fun t141 => (if t141 = 1 then ((governorlaw09_Plain.f).bind fun bt142 => ((score_Better.f bt142.1 bt142.2.1 bt142.2.2.1 bt142.2.2.2.1 bt142.2.2.2.2.1 bt142.2.2.2.2.2.1 bt142.2.2.2.2.2.2.1 bt142.2.2.2.2.2.2.2.1 bt142.2.2.2.2.2.2.2.2.1 bt142.2.2.2.2.2.2.2.2.2.1 bt142.2.2.2.2.2.2.2.2.2.2.1 bt142.2.2.2.2.2.2.2.2.2.2.2 y130 y127).bind fun t154 => (if t154 = true then ((governorlaw09_Plain.f).bind fun bt155 => ((score_Better.f bt155.1 bt155.2.1 bt155.2.2.1 bt155.2.2.2.1 bt155.2.2.2.2.1 bt155.2.2.2.2.2.1 bt155.2.2.2.2.2.2.1 bt155.2.2.2.2.2.2.2.1 bt155.2.2.2.2.2.2.2.2.1 bt155.2.2.2.2.2.2.2.2.2.1 bt155.2.2.2.2.2.2.2.2.2.2.1 bt155.2.2.2.2.2.2.2.2.2.2.2 y127 y130).bind fun t167 => (if t167 = true then (some false) else ((governorlaw09_Plain.f).bind fun bt168 => (if 3 ≤ (y127.length : Int) then ((score_Better.f bt168.1 bt168.2.1 bt168.2.2.1 bt168.2.2.2.1 bt168.2.2.2.2.1 bt168.2.2.2.2.2.1 bt168.2.2.2.2.2.2.1 bt168.2.2.2.2.2.2.2.1 bt168.2.2.2.2.2.2.2.2.1 bt168.2.2.2.2.2.2.2.2.2.1 bt168.2.2.2.2.2.2.2.2.2.2.1 bt168.2.2.2.2.2.2.2.2.2.2.2 y130 (y127.take 3)).bind fun t184 => (some (!t184))) else (none)))))) else (some false)))) else (some false))) else (some false))) else (some false))) else (some false)))) = some r := by first | (rw [hy127]; with_reducible exact H) | (have H2_ := (Option.bind_some _ _).symm.trans H; rw [hy127]; with_reducible exact H2_) | (have H2_ := (Option.bind_some _ _).symm.trans H; with_reducible exact H2_) | with_reducible exact H | (rw [hy127]; exact H) | exact H
  have Ny127 := Aside0.mk hy127
  clear hy127
  obtain ⟨y130, hy130⟩ : ∃ y_ : List (S27), y_ = (([(⟨3, false⟩ : S27), (⟨4, false⟩ : S27), (⟨4, false⟩ : S27), (⟨3, false⟩ : S27)] : List (S27))) := ⟨_, rfl⟩
  replace H : ((governorref17_Same.f k t124 (([(⟨2, false⟩ : S27), (⟨3, true⟩ : S27)] : List (S27)))).bind fun t136 => (if t136 = true then ((score_Add.f 0 t124 0 false).bind fun t137 => (if (t137.length : Int) = 0 then ((score_Cost.f y127).bind fun t140 => (if t140 = 12 then ((score_Bad.f y127).bind fun t141 => (if t141 = 1 then ((governorlaw09_Plain.f).bind fun bt142 => ((score_Better.f bt142.1 bt142.2.1 bt142.2.2.1 bt142.2.2.2.1 bt142.2.2.2.2.1 bt142.2.2.2.2.2.1 bt142.2.2.2.2.2.2.1 bt142.2.2.2.2.2.2.2.1 bt142.2.2.2.2.2.2.2.2.1 bt142.2.2.2.2.2.2.2.2.2.1 bt142.2.2.2.2.2.2.2.2.2.2.1 bt142.2.2.2.2.2.2.2.2.2.2.2 y130 y127).bind fun t154 => (if t154 = true then ((governorlaw09_Plain.f).bind fun bt155 => ((score_Better.f bt155.1 bt155.2.1 bt155.2.2.1 bt155.2.2.2.1 bt155.2.2.2.2.1 bt155.2.2.2.2.2.1 bt155.2.2.2.2.2.2.1 bt155.2.2.2.2.2.2.2.1 bt155.2.2.2.2.2.2.2.2.1 bt155.2.2.2.2.2.2.2.2.2.1 bt155.2.2.2.2.2.2.2.2.2.2.1 bt155.2.2.2.2.2.2.2.2.2.2.2 y127 y130).bind fun t167 => (if t167 = true then (some false) else ((governorlaw09_Plain.f).bind fun bt168 => (if 3 ≤ (y127.length : Int) then ((score_Better.f bt168.1 bt168.2.1 bt168.2.2.1 bt168.2.2.2.1 bt168.2.2.2.2.1 bt168.2.2.2.2.2.1 bt168.2.2.2.2.2.2.1 bt168.2.2.2.2.2.2.2.1 bt168.2.2.2.2.2.2.2.2.1 bt168.2.2.2.2.2.2.2.2.2.1 bt168.2.2.2.2.2.2.2.2.2.2.1 bt168.2.2.2.2.2.2.2.2.2.2.2 y130 (y127.take 3)).bind fun t184 => (some (!t184))) else (none)))))) else (some false)))) else (some false))) else (some false))) else (some false))) else (some false))) = some r := by first | (rw [hy130]; with_reducible exact H) | (have H2_ := (Option.bind_some _ _).symm.trans H; rw [hy130]; with_reducible exact H2_) | (have H2_ := (Option.bind_some _ _).symm.trans H; with_reducible exact H2_) | with_reducible exact H | (rw [hy130]; exact H) | exact H
  have Ny130 := Aside0.mk hy130
  clear hy130
  obtain ⟨y133, hy133⟩ : ∃ y_ : List (S27), y_ = (([(⟨2, false⟩ : S27), (⟨3, true⟩ : S27)] : List (S27))) := ⟨_, rfl⟩
  replace H : ((governorref17_Same.f k t124 y133).bind fun t136 => (if t136 = true then ((score_Add.f 0 t124 0 false).bind fun t137 => (if (t137.length : Int) = 0 then ((score_Cost.f y127).bind fun t140 => (if t140 = 12 then ((score_Bad.f y127).bind fun t141 => (if t141 = 1 then ((governorlaw09_Plain.f).bind fun bt142 => ((score_Better.f bt142.1 bt142.2.1 bt142.2.2.1 bt142.2.2.2.1 bt142.2.2.2.2.1 bt142.2.2.2.2.2.1 bt142.2.2.2.2.2.2.1 bt142.2.2.2.2.2.2.2.1 bt142.2.2.2.2.2.2.2.2.1 bt142.2.2.2.2.2.2.2.2.2.1 bt142.2.2.2.2.2.2.2.2.2.2.1 bt142.2.2.2.2.2.2.2.2.2.2.2 y130 y127).bind fun t154 => (if t154 = true then ((governorlaw09_Plain.f).bind fun bt155 => ((score_Better.f bt155.1 bt155.2.1 bt155.2.2.1 bt155.2.2.2.1 bt155.2.2.2.2.1 bt155.2.2.2.2.2.1 bt155.2.2.2.2.2.2.1 bt155.2.2.2.2.2.2.2.1 bt155.2.2.2.2.2.2.2.2.1 bt155.2.2.2.2.2.2.2.2.2.1 bt155.2.2.2.2.2.2.2.2.2.2.1 bt155.2.2.2.2.2.2.2.2.2.2.2 y127 y130).bind fun t167 => (if t167 = true then (some false) else ((governorlaw09_Plain.f).bind fun bt168 => (if 3 ≤ (y127.length : Int) then ((score_Better.f bt168.1 bt168.2.1 bt168.2.2.1 bt168.2.2.2.1 bt168.2.2.2.2.1 bt168.2.2.2.2.2.1 bt168.2.2.2.2.2.2.1 bt168.2.2.2.2.2.2.2.1 bt168.2.2.2.2.2.2.2.2.1 bt168.2.2.2.2.2.2.2.2.2.1 bt168.2.2.2.2.2.2.2.2.2.2.1 bt168.2.2.2.2.2.2.2.2.2.2.2 y130 (y127.take 3)).bind fun t184 => (some (!t184))) else (none)))))) else (some false)))) else (some false))) else (some false))) else (some false))) else (some false))) = some r := by first | (rw [hy133]; with_reducible exact H) | (have H2_ := (Option.bind_some _ _).symm.trans H; rw [hy133]; with_reducible exact H2_) | (have H2_ := (Option.bind_some _ _).symm.trans H; with_reducible exact H2_) | with_reducible exact H | (rw [hy133]; exact H) | exact H
  have Ny133 := Aside0.mk hy133
  clear hy133
  replace H := Option.bind_eq_some_iff.mp H
  obtain ⟨t136, A20, H⟩ := H
  replace H : (if t136 = true then ((score_Add.f 0 t124 0 false).bind fun t137 => (if (t137.length : Int) = 0 then ((score_Cost.f y127).bind fun t140 => (if t140 = 12 then ((score_Bad.f y127).bind fun t141 => (if t141 = 1 then ((governorlaw09_Plain.f).bind fun bt142 => ((score_Better.f bt142.1 bt142.2.1 bt142.2.2.1 bt142.2.2.2.1 bt142.2.2.2.2.1 bt142.2.2.2.2.2.1 bt142.2.2.2.2.2.2.1 bt142.2.2.2.2.2.2.2.1 bt142.2.2.2.2.2.2.2.2.1 bt142.2.2.2.2.2.2.2.2.2.1 bt142.2.2.2.2.2.2.2.2.2.2.1 bt142.2.2.2.2.2.2.2.2.2.2.2 y130 y127).bind fun t154 => (if t154 = true then ((governorlaw09_Plain.f).bind fun bt155 => ((score_Better.f bt155.1 bt155.2.1 bt155.2.2.1 bt155.2.2.2.1 bt155.2.2.2.2.1 bt155.2.2.2.2.2.1 bt155.2.2.2.2.2.2.1 bt155.2.2.2.2.2.2.2.1 bt155.2.2.2.2.2.2.2.2.1 bt155.2.2.2.2.2.2.2.2.2.1 bt155.2.2.2.2.2.2.2.2.2.2.1 bt155.2.2.2.2.2.2.2.2.2.2.2 y127 y130).bind fun t167 => (if t167 = true then (some false) else ((governorlaw09_Plain.f).bind fun bt168 => (if 3 ≤ (y127.length : Int) then ((score_Better.f bt168.1 bt168.2.1 bt168.2.2.1 bt168.2.2.2.1 bt168.2.2.2.2.1 bt168.2.2.2.2.2.1 bt168.2.2.2.2.2.2.1 bt168.2.2.2.2.2.2.2.1 bt168.2.2.2.2.2.2.2.2.1 bt168.2.2.2.2.2.2.2.2.2.1 bt168.2.2.2.2.2.2.2.2.2.2.1 bt168.2.2.2.2.2.2.2.2.2.2.2 y130 (y127.take 3)).bind fun t184 => (some (!t184))) else (none)))))) else (some false)))) else (some false))) else (some false))) else (some false))) else (some false)) = some r := H
  have A2 := Aside0.mk A20
  clear A20
  by_cases c3 : t136 = true
  · subst c3
    have H1 : ((score_Add.f 0 t124 0 false).bind fun t137 => (if (t137.length : Int) = 0 then ((score_Cost.f y127).bind fun t140 => (if t140 = 12 then ((score_Bad.f y127).bind fun t141 => (if t141 = 1 then ((governorlaw09_Plain.f).bind fun bt142 => ((score_Better.f bt142.1 bt142.2.1 bt142.2.2.1 bt142.2.2.2.1 bt142.2.2.2.2.1 bt142.2.2.2.2.2.1 bt142.2.2.2.2.2.2.1 bt142.2.2.2.2.2.2.2.1 bt142.2.2.2.2.2.2.2.2.1 bt142.2.2.2.2.2.2.2.2.2.1 bt142.2.2.2.2.2.2.2.2.2.2.1 bt142.2.2.2.2.2.2.2.2.2.2.2 y130 y127).bind fun t154 => (if t154 = true then ((governorlaw09_Plain.f).bind fun bt155 => ((score_Better.f bt155.1 bt155.2.1 bt155.2.2.1 bt155.2.2.2.1 bt155.2.2.2.2.1 bt155.2.2.2.2.2.1 bt155.2.2.2.2.2.2.1 bt155.2.2.2.2.2.2.2.1 bt155.2.2.2.2.2.2.2.2.1 bt155.2.2.2.2.2.2.2.2.2.1 bt155.2.2.2.2.2.2.2.2.2.2.1 bt155.2.2.2.2.2.2.2.2.2.2.2 y127 y130).bind fun t167 => (if t167 = true then (some false) else ((governorlaw09_Plain.f).bind fun bt168 => (if 3 ≤ (y127.length : Int) then ((score_Better.f bt168.1 bt168.2.1 bt168.2.2.1 bt168.2.2.2.1 bt168.2.2.2.2.1 bt168.2.2.2.2.2.1 bt168.2.2.2.2.2.2.1 bt168.2.2.2.2.2.2.2.1 bt168.2.2.2.2.2.2.2.2.1 bt168.2.2.2.2.2.2.2.2.2.1 bt168.2.2.2.2.2.2.2.2.2.2.1 bt168.2.2.2.2.2.2.2.2.2.2.2 y130 (y127.take 3)).bind fun t184 => (some (!t184))) else (none)))))) else (some false)))) else (some false))) else (some false))) else (some false))) = some r := by rw [if_pos rfl] at H; exact H
    clear H
    have H := H1
    clear H1
    replace H := Option.bind_eq_some_iff.mp H
    obtain ⟨t137, A40, H⟩ := H
    replace H : (if (t137.length : Int) = 0 then ((score_Cost.f y127).bind fun t140 => (if t140 = 12 then ((score_Bad.f y127).bind fun t141 => (if t141 = 1 then ((governorlaw09_Plain.f).bind fun bt142 => ((score_Better.f bt142.1 bt142.2.1 bt142.2.2.1 bt142.2.2.2.1 bt142.2.2.2.2.1 bt142.2.2.2.2.2.1 bt142.2.2.2.2.2.2.1 bt142.2.2.2.2.2.2.2.1 bt142.2.2.2.2.2.2.2.2.1 bt142.2.2.2.2.2.2.2.2.2.1 bt142.2.2.2.2.2.2.2.2.2.2.1 bt142.2.2.2.2.2.2.2.2.2.2.2 y130 y127).bind fun t154 => (if t154 = true then ((governorlaw09_Plain.f).bind fun bt155 => ((score_Better.f bt155.1 bt155.2.1 bt155.2.2.1 bt155.2.2.2.1 bt155.2.2.2.2.1 bt155.2.2.2.2.2.1 bt155.2.2.2.2.2.2.1 bt155.2.2.2.2.2.2.2.1 bt155.2.2.2.2.2.2.2.2.1 bt155.2.2.2.2.2.2.2.2.2.1 bt155.2.2.2.2.2.2.2.2.2.2.1 bt155.2.2.2.2.2.2.2.2.2.2.2 y127 y130).bind fun t167 => (if t167 = true then (some false) else ((governorlaw09_Plain.f).bind fun bt168 => (if 3 ≤ (y127.length : Int) then ((score_Better.f bt168.1 bt168.2.1 bt168.2.2.1 bt168.2.2.2.1 bt168.2.2.2.2.1 bt168.2.2.2.2.2.1 bt168.2.2.2.2.2.2.1 bt168.2.2.2.2.2.2.2.1 bt168.2.2.2.2.2.2.2.2.1 bt168.2.2.2.2.2.2.2.2.2.1 bt168.2.2.2.2.2.2.2.2.2.2.1 bt168.2.2.2.2.2.2.2.2.2.2.2 y130 (y127.take 3)).bind fun t184 => (some (!t184))) else (none)))))) else (some false)))) else (some false))) else (some false))) else (some false)) = some r := H
    have A4 := Aside0.mk A40
    clear A40
    by_cases c5 : (t137.length : Int) = 0
    · rw [if_pos c5] at H
      have c5b0 : ((t137.length : Int) == 0) = true := beq_iff_eq.mpr c5
      have c5b1 : ((t137.length : Int) != 0) = false := bne_eq_false_iff_eq.mpr c5
      clear c5
      replace H := Option.bind_eq_some_iff.mp H
      obtain ⟨t140, A60, H⟩ := H
      replace H : (if t140 = 12 then ((score_Bad.f y127).bind fun t141 => (if t141 = 1 then ((governorlaw09_Plain.f).bind fun bt142 => ((score_Better.f bt142.1 bt142.2.1 bt142.2.2.1 bt142.2.2.2.1 bt142.2.2.2.2.1 bt142.2.2.2.2.2.1 bt142.2.2.2.2.2.2.1 bt142.2.2.2.2.2.2.2.1 bt142.2.2.2.2.2.2.2.2.1 bt142.2.2.2.2.2.2.2.2.2.1 bt142.2.2.2.2.2.2.2.2.2.2.1 bt142.2.2.2.2.2.2.2.2.2.2.2 y130 y127).bind fun t154 => (if t154 = true then ((governorlaw09_Plain.f).bind fun bt155 => ((score_Better.f bt155.1 bt155.2.1 bt155.2.2.1 bt155.2.2.2.1 bt155.2.2.2.2.1 bt155.2.2.2.2.2.1 bt155.2.2.2.2.2.2.1 bt155.2.2.2.2.2.2.2.1 bt155.2.2.2.2.2.2.2.2.1 bt155.2.2.2.2.2.2.2.2.2.1 bt155.2.2.2.2.2.2.2.2.2.2.1 bt155.2.2.2.2.2.2.2.2.2.2.2 y127 y130).bind fun t167 => (if t167 = true then (some false) else ((governorlaw09_Plain.f).bind fun bt168 => (if 3 ≤ (y127.length : Int) then ((score_Better.f bt168.1 bt168.2.1 bt168.2.2.1 bt168.2.2.2.1 bt168.2.2.2.2.1 bt168.2.2.2.2.2.1 bt168.2.2.2.2.2.2.1 bt168.2.2.2.2.2.2.2.1 bt168.2.2.2.2.2.2.2.2.1 bt168.2.2.2.2.2.2.2.2.2.1 bt168.2.2.2.2.2.2.2.2.2.2.1 bt168.2.2.2.2.2.2.2.2.2.2.2 y130 (y127.take 3)).bind fun t184 => (some (!t184))) else (none)))))) else (some false)))) else (some false))) else (some false)) = some r := H
      have A6 := Aside0.mk A60
      clear A60
      by_cases c7 : t140 = 12
      · rw [if_pos c7] at H
        have c7b0 : (t140 == 12) = true := beq_iff_eq.mpr c7
        have c7b1 : (t140 != 12) = false := bne_eq_false_iff_eq.mpr c7
        clear c7
        replace H := Option.bind_eq_some_iff.mp H
        obtain ⟨t141, A80, H⟩ := H
        replace H : (if t141 = 1 then ((governorlaw09_Plain.f).bind fun bt142 => ((score_Better.f bt142.1 bt142.2.1 bt142.2.2.1 bt142.2.2.2.1 bt142.2.2.2.2.1 bt142.2.2.2.2.2.1 bt142.2.2.2.2.2.2.1 bt142.2.2.2.2.2.2.2.1 bt142.2.2.2.2.2.2.2.2.1 bt142.2.2.2.2.2.2.2.2.2.1 bt142.2.2.2.2.2.2.2.2.2.2.1 bt142.2.2.2.2.2.2.2.2.2.2.2 y130 y127).bind fun t154 => (if t154 = true then ((governorlaw09_Plain.f).bind fun bt155 => ((score_Better.f bt155.1 bt155.2.1 bt155.2.2.1 bt155.2.2.2.1 bt155.2.2.2.2.1 bt155.2.2.2.2.2.1 bt155.2.2.2.2.2.2.1 bt155.2.2.2.2.2.2.2.1 bt155.2.2.2.2.2.2.2.2.1 bt155.2.2.2.2.2.2.2.2.2.1 bt155.2.2.2.2.2.2.2.2.2.2.1 bt155.2.2.2.2.2.2.2.2.2.2.2 y127 y130).bind fun t167 => (if t167 = true then (some false) else ((governorlaw09_Plain.f).bind fun bt168 => (if 3 ≤ (y127.length : Int) then ((score_Better.f bt168.1 bt168.2.1 bt168.2.2.1 bt168.2.2.2.1 bt168.2.2.2.2.1 bt168.2.2.2.2.2.1 bt168.2.2.2.2.2.2.1 bt168.2.2.2.2.2.2.2.1 bt168.2.2.2.2.2.2.2.2.1 bt168.2.2.2.2.2.2.2.2.2.1 bt168.2.2.2.2.2.2.2.2.2.2.1 bt168.2.2.2.2.2.2.2.2.2.2.2 y130 (y127.take 3)).bind fun t184 => (some (!t184))) else (none)))))) else (some false)))) else (some false)) = some r := H
        have A8 := Aside0.mk A80
        clear A80
        by_cases c9 : t141 = 1
        · rw [if_pos c9] at H
          have c9b0 : (t141 == 1) = true := beq_iff_eq.mpr c9
          have c9b1 : (t141 != 1) = false := bne_eq_false_iff_eq.mpr c9
          clear c9
          replace H := Option.bind_eq_some_iff.mp H
          obtain ⟨⟨t142, t143, t144, t145, t146, t147, t148, t149, t150, t151, t152, t153⟩, A100, H⟩ := H
          replace H : ((score_Better.f t142 t143 t144 t145 t146 t147 t148 t149 t150 t151 t152 t153 y130 y127).bind fun t154 => (if t154 = true then ((governorlaw09_Plain.f).bind fun bt155 => ((score_Better.f bt155.1 bt155.2.1 bt155.2.2.1 bt155.2.2.2.1 bt155.2.2.2.2.1 bt155.2.2.2.2.2.1 bt155.2.2.2.2.2.2.1 bt155.2.2.2.2.2.2.2.1 bt155.2.2.2.2.2.2.2.2.1 bt155.2.2.2.2.2.2.2.2.2.1 bt155.2.2.2.2.2.2.2.2.2.2.1 bt155.2.2.2.2.2.2.2.2.2.2.2 y127 y130).bind fun t167 => (if t167 = true then (some false) else ((governorlaw09_Plain.f).bind fun bt168 => (if 3 ≤ (y127.length : Int) then ((score_Better.f bt168.1 bt168.2.1 bt168.2.2.1 bt168.2.2.2.1 bt168.2.2.2.2.1 bt168.2.2.2.2.2.1 bt168.2.2.2.2.2.2.1 bt168.2.2.2.2.2.2.2.1 bt168.2.2.2.2.2.2.2.2.1 bt168.2.2.2.2.2.2.2.2.2.1 bt168.2.2.2.2.2.2.2.2.2.2.1 bt168.2.2.2.2.2.2.2.2.2.2.2 y130 (y127.take 3)).bind fun t184 => (some (!t184))) else (none)))))) else (some false))) = some r := H
          have A10 := Aside0.mk A100
          clear A100
          replace H := Option.bind_eq_some_iff.mp H
          obtain ⟨t154, A110, H⟩ := H
          replace H : (if t154 = true then ((governorlaw09_Plain.f).bind fun bt155 => ((score_Better.f bt155.1 bt155.2.1 bt155.2.2.1 bt155.2.2.2.1 bt155.2.2.2.2.1 bt155.2.2.2.2.2.1 bt155.2.2.2.2.2.2.1 bt155.2.2.2.2.2.2.2.1 bt155.2.2.2.2.2.2.2.2.1 bt155.2.2.2.2.2.2.2.2.2.1 bt155.2.2.2.2.2.2.2.2.2.2.1 bt155.2.2.2.2.2.2.2.2.2.2.2 y127 y130).bind fun t167 => (if t167 = true then (some false) else ((governorlaw09_Plain.f).bind fun bt168 => (if 3 ≤ (y127.length : Int) then ((score_Better.f bt168.1 bt168.2.1 bt168.2.2.1 bt168.2.2.2.1 bt168.2.2.2.2.1 bt168.2.2.2.2.2.1 bt168.2.2.2.2.2.2.1 bt168.2.2.2.2.2.2.2.1 bt168.2.2.2.2.2.2.2.2.1 bt168.2.2.2.2.2.2.2.2.2.1 bt168.2.2.2.2.2.2.2.2.2.2.1 bt168.2.2.2.2.2.2.2.2.2.2.2 y130 (y127.take 3)).bind fun t184 => (some (!t184))) else (none)))))) else (some false)) = some r := H
          have A11 := Aside0.mk A110
          clear A110
          by_cases c12 : t154 = true
          · subst c12
            have H1 : ((governorlaw09_Plain.f).bind fun bt155 => ((score_Better.f bt155.1 bt155.2.1 bt155.2.2.1 bt155.2.2.2.1 bt155.2.2.2.2.1 bt155.2.2.2.2.2.1 bt155.2.2.2.2.2.2.1 bt155.2.2.2.2.2.2.2.1 bt155.2.2.2.2.2.2.2.2.1 bt155.2.2.2.2.2.2.2.2.2.1 bt155.2.2.2.2.2.2.2.2.2.2.1 bt155.2.2.2.2.2.2.2.2.2.2.2 y127 y130).bind fun t167 => (if t167 = true then (some false) else ((governorlaw09_Plain.f).bind fun bt168 => (if 3 ≤ (y127.length : Int) then ((score_Better.f bt168.1 bt168.2.1 bt168.2.2.1 bt168.2.2.2.1 bt168.2.2.2.2.1 bt168.2.2.2.2.2.1 bt168.2.2.2.2.2.2.1 bt168.2.2.2.2.2.2.2.1 bt168.2.2.2.2.2.2.2.2.1 bt168.2.2.2.2.2.2.2.2.2.1 bt168.2.2.2.2.2.2.2.2.2.2.1 bt168.2.2.2.2.2.2.2.2.2.2.2 y130 (y127.take 3)).bind fun t184 => (some (!t184))) else (none)))))) = some r := by rw [if_pos rfl] at H; exact H
            clear H
            have H := H1
            clear H1
            replace H := Option.bind_eq_some_iff.mp H
            obtain ⟨⟨t155, t156, t157, t158, t159, t160, t161, t162, t163, t164, t165, t166⟩, A130, H⟩ := H
            replace H : ((score_Better.f t155 t156 t157 t158 t159 t160 t161 t162 t163 t164 t165 t166 y127 y130).bind fun t167 => (if t167 = true then (some false) else ((governorlaw09_Plain.f).bind fun bt168 => (if 3 ≤ (y127.length : Int) then ((score_Better.f bt168.1 bt168.2.1 bt168.2.2.1 bt168.2.2.2.1 bt168.2.2.2.2.1 bt168.2.2.2.2.2.1 bt168.2.2.2.2.2.2.1 bt168.2.2.2.2.2.2.2.1 bt168.2.2.2.2.2.2.2.2.1 bt168.2.2.2.2.2.2.2.2.2.1 bt168.2.2.2.2.2.2.2.2.2.2.1 bt168.2.2.2.2.2.2.2.2.2.2.2 y130 (y127.take 3)).bind fun t184 => (some (!t184))) else (none))))) = some r := H
            have A13 := Aside0.mk A130
            clear A130
            replace H := Option.bind_eq_some_iff.mp H
            obtain ⟨t167, A140, H⟩ := H
            replace H : (if t167 = true then (some false) else ((governorlaw09_Plain.f).bind fun bt168 => (if 3 ≤ (y127.length : Int) then ((score_Better.f bt168.1 bt168.2.1 bt168.2.2.1 bt168.2.2.2.1 bt168.2.2.2.2.1 bt168.2.2.2.2.2.1 bt168.2.2.2.2.2.2.1 bt168.2.2.2.2.2.2.2.1 bt168.2.2.2.2.2.2.2.2.1 bt168.2.2.2.2.2.2.2.2.2.1 bt168.2.2.2.2.2.2.2.2.2.2.1 bt168.2.2.2.2.2.2.2.2.2.2.2 y130 (y127.take 3)).bind fun t184 => (some (!t184))) else (none)))) = some r := H
            have A14 := Aside0.mk A140
            clear A140
            by_cases c15 : t167 = true
            · subst c15
              have H1 : (some false) = some r := by rw [if_pos rfl] at H; exact H
              clear H
              have H := H1
              clear H1
              rw [hr_] at H
              cases H
            · replace c15 := Bool.eq_false_iff.mpr c15
              subst c15
              have H1 : ((governorlaw09_Plain.f).bind fun bt168 => (if 3 ≤ (y127.length : Int) then ((score_Better.f bt168.1 bt168.2.1 bt168.2.2.1 bt168.2.2.2.1 bt168.2.2.2.2.1 bt168.2.2.2.2.2.1 bt168.2.2.2.2.2.2.1 bt168.2.2.2.2.2.2.2.1 bt168.2.2.2.2.2.2.2.2.1 bt168.2.2.2.2.2.2.2.2.2.1 bt168.2.2.2.2.2.2.2.2.2.2.1 bt168.2.2.2.2.2.2.2.2.2.2.2 y130 (y127.take 3)).bind fun t184 => (some (!t184))) else (none))) = some r := by rw [if_neg (show ¬ (false = true) by decide)] at H; exact H
              clear H
              have H := H1
              clear H1
              replace H := Option.bind_eq_some_iff.mp H
              obtain ⟨⟨t168, t169, t170, t171, t172, t173, t174, t175, t176, t177, t178, t179⟩, A160, H⟩ := H
              replace H : (if 3 ≤ (y127.length : Int) then ((score_Better.f t168 t169 t170 t171 t172 t173 t174 t175 t176 t177 t178 t179 y130 (y127.take 3)).bind fun t184 => (some (!t184))) else (none)) = some r := H
              have A16 := Aside0.mk A160
              clear A160
              by_cases c17 : 3 ≤ (y127.length : Int)
              · rw [if_pos c17] at H
                have c17b0 := eq_true c17
                have c17b1 : decide (3 ≤ (y127.length : Int)) = true := decide_eq_true c17
                clear c17
                obtain ⟨y180, hy180⟩ : ∃ y_ : List (S27), y_ = (y127.take 3) := ⟨_, rfl⟩
                replace H : ((score_Better.f t168 t169 t170 t171 t172 t173 t174 t175 t176 t177 t178 t179 y130 y180).bind fun t184 => (some (!t184))) = some r := by first | (rw [hy180]; with_reducible exact H) | (have H2_ := (Option.bind_some _ _).symm.trans H; rw [hy180]; with_reducible exact H2_) | (have H2_ := (Option.bind_some _ _).symm.trans H; with_reducible exact H2_) | with_reducible exact H | (rw [hy180]; exact H) | exact H
                have Ny180 := Aside0.mk hy180
                clear hy180
                replace H := Option.bind_eq_some_iff.mp H
                obtain ⟨t184, A180, H⟩ := H
                replace H : (some (!t184)) = some r := H
                have A18 := Aside0.mk A180
                clear A180
                obtain rfl := Option.some.inj H
                go_enter Try.func7, Try.ntmps7
                try go_wp2_with (first | ((with_reducible refine gate_dst (N := 6) rfl ?_); (try (refine gate_guard (by rfl) ?_; dsimp only)); refine Kd.R_lit k27 _ 27 ?hg (N := 6) ?hd (xs := ([(⟨1, false⟩ : S27), (⟨2, false⟩ : S27)] : List (S27))) (inner := [.int .i64 1, .bool false, .int .i64 2, .bool false]) (ok := fun _ => True) (okp := fun _ => True) ?hr ?hp (fun _ hk => hk) trivial (Below.refl _ _) (Nat.le_refl _) (by simp) ?_; (case hd => rfl); (case hg => rfl); (case hr => first | (go_simp; done) | (go_simp; rfl)); (case hp => exact (Reps.c2 (show Kd.M k27 _ _ _ (⟨1, false⟩ : S27) [.int .i64 1, .bool false] from (k27_mkM _ _ _ (⟨1, false⟩ : S27) )) (Reps.c2 (show Kd.M k27 _ _ _ (⟨2, false⟩ : S27) [.int .i64 2, .bool false] from (k27_mkM _ _ _ (⟨2, false⟩ : S27) )) (Reps.none _ _)))); intro v122 w19 ho20 hb hg_ hnew_; clear hg_ hnew_; (first | rw [← Ny121.out] at ho20 | (simp only [Int.reduceToNat] at ho20; rw [← Ny121.out] at ho20)); have n0_ := Aside0.mk (Kd.R_lower ho20 (below_size (by repeat (first | (with_reducible first | exact HB.out | apply below_alloc | apply pw_below_drewN | apply below_drew1) | exact HB.out)))); have n1_ := Aside0.mk (below_step (by repeat (first | (with_reducible first | exact HB.out | apply below_alloc | apply pw_below_drewN | apply below_drew1) | exact HB.out)) hb); clear HB; have HO123 := n0_; have HB := n1_; clear n0_ n1_; clear hb ho20; obtain ⟨Ao21, co21, eo21⟩ := Kd.R_slice HO123.out; subst eo21) | ((with_reducible refine gate_callee (f := 9) rfl ?_); refine goesL_ (some 8) rfl rfl Try.func9 (by kernel_rfl) rfl #[.int .i64 2, .slice Ao21 y121.length co21, .agg #[.int .i64 3, .bool true]] rfl (by (try simp only [List.map_toArray, List.map_cons, List.map_nil]); first | done | rfl | (simp only [List.length_drop, List.length_take]; rfl)) ?_; (with_reducible refine (score_Add.calls 2 _ _ y121 3 true t124 _ ?side1 ?side2 A1.out).mono ?_); (case side1 => repeat (first | exact (Kd.R_reads' HO123.out).2.2 | (with_reducible refine Kd.C_alloc ?_ _) | (with_reducible refine Kd.C_drewN ?_ _) | (with_reducible refine Kd.C_drew ?_))); (case side2 => exact (Kd.R_reads' HO123.out).2.1); rintro e w22 ⟨v125, rfl, ho0, hb⟩; refine ⟨_, rfl, ?_⟩; have n0_ := Aside0.mk (Kd.R_elder' (by (with_reducible repeat (first | apply Kd.R_alloc | apply Kd.R_drewN | apply Kd.R_drew)); exact HO123.out) (Kd.Q_base ho0) hb); have n1_ := Aside0.mk (Kd.Q_lower (Kd.Q_new' ho0 (Kd.R_lt (by (with_reducible repeat (first | apply Kd.R_alloc | apply Kd.R_drewN | apply Kd.R_drew)); exact HO123.out))) (below_size (by repeat (first | (with_reducible first | exact HB.out | apply below_alloc | apply pw_below_drewN | apply below_drew1) | exact HB.out)))); have n2_ := Aside0.mk (below_step (by repeat (first | (with_reducible first | exact HB.out | apply below_alloc | apply pw_below_drewN | apply below_drew1) | exact HB.out)) hb); clear HO123; clear HB; have HO123 := n0_; have HO126 := n1_; have HB := n2_; clear n0_ n1_ n2_; (try clear hb); (try clear hb2); (try clear hk); (try clear hi); (try clear ho0)) | ((with_reducible refine gate_dst (N := 13) rfl ?_); (try (refine gate_guard (by rfl) ?_; dsimp only)); refine Kd.R_lit k27 _ 27 ?hg (N := 13) ?hd (xs := ([(⟨3, false⟩ : S27), (⟨3, false⟩ : S27), (⟨3, true⟩ : S27), (⟨3, false⟩ : S27)] : List (S27))) (inner := [.int .i64 3, .bool false, .int .i64 3, .bool false, .int .i64 3, .bool true, .int .i64 3, .bool false]) (ok := fun _ => True) (okp := fun _ => True) ?hr ?hp (fun _ hk => hk) trivial (Below.refl _ _) (Nat.le_refl _) (by simp) ?_; (case hd => rfl); (case hg => rfl); (case hr => first | (go_simp; done) | (go_simp; rfl)); (case hp => exact (Reps.c2 (show Kd.M k27 _ _ _ (⟨3, false⟩ : S27) [.int .i64 3, .bool false] from (k27_mkM _ _ _ (⟨3, false⟩ : S27) )) (Reps.c2 (show Kd.M k27 _ _ _ (⟨3, false⟩ : S27) [.int .i64 3, .bool false] from (k27_mkM _ _ _ (⟨3, false⟩ : S27) )) (Reps.c2 (show Kd.M k27 _ _ _ (⟨3, true⟩ : S27) [.int .i64 3, .bool true] from (k27_mkM _ _ _ (⟨3, true⟩ : S27) )) (Reps.c2 (show Kd.M k27 _ _ _ (⟨3, false⟩ : S27) [.int .i64 3, .bool false] from (k27_mkM _ _ _ (⟨3, false⟩ : S27) )) (Reps.none _ _)))))); intro v128 w23 ho24 hb hg_ hnew_; clear hg_ hnew_; (first | rw [← Ny127.out] at ho24 | (simp only [Int.reduceToNat] at ho24; rw [← Ny127.out] at ho24)); have n0_ := Aside0.mk (Kd.R_elder' (by (with_reducible repeat (first | apply Kd.R_alloc | apply Kd.R_drewN | apply Kd.R_drew)); exact HO123.out) (Kd.R_base ho24) hb); have n1_ := Aside0.mk (Kd.Q_elder' (by (with_reducible repeat (first | apply Kd.Q_alloc | apply Kd.Q_drewN | apply Kd.Q_drew)); exact HO126.out) (Kd.R_base ho24) hb); have n2_ := Aside0.mk (Kd.R_lower (Kd.R_new' (Kd.R_new' ho24 (Kd.R_lt (by (with_reducible repeat (first | apply Kd.R_alloc | apply Kd.R_drewN | apply Kd.R_drew)); exact HO123.out))) (Kd.Q_lt (by (with_reducible repeat (first | apply Kd.Q_alloc | apply Kd.Q_drewN | apply Kd.Q_drew)); exact HO126.out))) (below_size (by repeat (first | (with_reducible first | exact HB.out | apply below_alloc | apply pw_below_drewN | apply below_drew1) | exact HB.out)))); have n3_ := Aside0.mk (below_step (by repeat (first | (with_reducible first | exact HB.out | apply below_alloc | apply pw_below_drewN | apply below_drew1) | exact HB.out)) hb); clear HO123; clear HO126; clear HB; have HO123 := n0_; have HO126 := n1_; have HO129 := n2_; have HB := n3_; clear n0_ n1_ n2_ n3_; clear hb ho24) | ((with_reducible refine gate_dst (N := 18) rfl ?_); (try (refine gate_guard (by rfl) ?_; dsimp only)); refine Kd.R_lit k27 _ 27 ?hg (N := 18) ?hd (xs := ([(⟨3, false⟩ : S27), (⟨4, false⟩ : S27), (⟨4, false⟩ : S27), (⟨3, false⟩ : S27)] : List (S27))) (inner := [.int .i64 3, .bool false, .int .i64 4, .bool false, .int .i64 4, .bool false, .int .i64 3, .bool false]) (ok := fun _ => True) (okp := fun _ => True) ?hr ?hp (fun _ hk => hk) trivial (Below.refl _ _) (Nat.le_refl _) (by simp) ?_; (case hd => rfl); (case hg => rfl); (case hr => first | (go_simp; done) | (go_simp; rfl)); (case hp => exact (Reps.c2 (show Kd.M k27 _ _ _ (⟨3, false⟩ : S27) [.int .i64 3, .bool false] from (k27_mkM _ _ _ (⟨3, false⟩ : S27) )) (Reps.c2 (show Kd.M k27 _ _ _ (⟨4, false⟩ : S27) [.int .i64 4, .bool false] from (k27_mkM _ _ _ (⟨4, false⟩ : S27) )) (Reps.c2 (show Kd.M k27 _ _ _ (⟨4, false⟩ : S27) [.int .i64 4, .bool false] from (k27_mkM _ _ _ (⟨4, false⟩ : S27) )) (Reps.c2 (show Kd.M k27 _ _ _ (⟨3, false⟩ : S27) [.int .i64 3, .bool false] from (k27_mkM _ _ _ (⟨3, false⟩ : S27) )) (Reps.none _ _)))))); intro v131 w25 ho26 hb hg_ hnew_; clear hg_ hnew_; (first | rw [← Ny130.out] at ho26 | (simp only [Int.reduceToNat] at ho26; rw [← Ny130.out] at ho26)); have n0_ := Aside0.mk (Kd.R_elder' (by (with_reducible repeat (first | apply Kd.R_alloc | apply Kd.R_drewN | apply Kd.R_drew)); exact HO123.out) (Kd.R_base ho26) hb); have n1_ := Aside0.mk (Kd.Q_elder' (by (with_reducible repeat (first | apply Kd.Q_alloc | apply Kd.Q_drewN | apply Kd.Q_drew)); exact HO126.out) (Kd.R_base ho26) hb); have n2_ := Aside0.mk (Kd.R_elder' (by (with_reducible repeat (first | apply Kd.R_alloc | apply Kd.R_drewN | apply Kd.R_drew)); exact HO129.out) (Kd.R_base ho26) hb); have n3_ := Aside0.mk (Kd.R_lower (Kd.R_new' (Kd.R_new' (Kd.R_new' ho26 (Kd.R_lt (by (with_reducible repeat (first | apply Kd.R_alloc | apply Kd.R_drewN | apply Kd.R_drew)); exact HO123.out))) (Kd.Q_lt (by (with_reducible repeat (first | apply Kd.Q_alloc | apply Kd.Q_drewN | apply Kd.Q_drew)); exact HO126.out))) (Kd.R_lt (by (with_reducible repeat (first | apply Kd.R_alloc | apply Kd.R_drewN | apply Kd.R_drew)); exact HO129.out))) (below_size (by repeat (first | (with_reducible first | exact HB.out | apply below_alloc | apply pw_below_drewN | apply below_drew1) | exact HB.out)))); have n4_ := Aside0.mk (below_step (by repeat (first | (with_reducible first | exact HB.out | apply below_alloc | apply pw_below_drewN | apply below_drew1) | exact HB.out)) hb); clear HO123; clear HO126; clear HO129; clear HB; have HO123 := n0_; have HO126 := n1_; have HO129 := n2_; have HO132 := n3_; have HB := n4_; clear n0_ n1_ n2_ n3_ n4_; clear hb ho26))
                have n0_ := Aside0.mk (Kd.R_drew HO123.out)
                have n1_ := Aside0.mk (Kd.Q_drew HO126.out)
                have n2_ := Aside0.mk (Kd.R_drew HO129.out)
                have n3_ := Aside0.mk (Kd.R_drew HO132.out)
                have n4_ := Aside0.mk (below_drew1 HB.out)
                clear HO123
                clear HO126
                clear HO129
                clear HO132
                clear HB
                have HO123 := n0_
                have HO126 := n1_
                have HO129 := n2_
                have HO132 := n3_
                have HB := n4_
                clear n0_ n1_ n2_ n3_ n4_
                refine start_ (n := 44) (S := fun w' => True) (ds := []) #[false, false, false, false, false, false, false, false, false, false, false, false, false, false, false, false, false, false, false, false, false, false, false, false, false, false, false, false, false, false, false, false, false, false, false, false, false, false, false, false, false, false, false, false] (by kernel_rfl) rfl rfl trivial (fun hHeld => ?_); refine with_tabW governorlaw17_head.tab4 governorlaw17_head.bits4 (fun HT_ HW_ => ?_)
                generalize w25.drew = w27 at HO123 HO126 HO129 HO132 HB hHeld ⊢
                refine pure_ (i := 0) (N := some 19) (v := ?_) (a' := ?_) #[true, false, false, false, false, false, false, false, false, false, false, false, false, false, false, false, false, false, false, false, false, false, false, false, false, false, false, false, false, false, false, false, false, false, false, false, false, false, false, false, false, false, false, false] rfl rfl (any_of HT_.out (by kernel_rfl)) (fun _ _ _ h => h) (Or.inl ⟨by rfl, ?_⟩) ?_ ?_
                rotate_left
                · intro w'
                  go_simp
                  with_reducible rfl
                rotate_left
                · simp only [Act.put, List.setIfInBounds_toArray, List.set_cons_zero, List.set_cons_succ, i64_w, i32_w]
                  rfl
                refine pure_ (i := 1) (N := some 20) (v := ?_) (a' := ?_) #[true, true, false, false, false, false, false, false, false, false, false, false, false, false, false, false, false, false, false, false, false, false, false, false, false, false, false, false, false, false, false, false, false, false, false, false, false, false, false, false, false, false, false, false] rfl rfl (any_of HT_.out (by kernel_rfl)) (fun _ _ _ h => h) (Or.inl ⟨by rfl, ?_⟩) ?_ ?_
                rotate_left
                · intro w'
                  go_simp
                  with_reducible rfl
                rotate_left
                · simp only [Act.put, List.setIfInBounds_toArray, List.set_cons_zero, List.set_cons_succ, i64_w, i32_w]
                  rfl
                refine pure_ (i := 2) (N := some 21) (v := ?_) (a' := ?_) #[true, true, true, false, false, false, false, false, false, false, false, false, false, false, false, false, false, false, false, false, false, false, false, false, false, false, false, false, false, false, false, false, false, false, false, false, false, false, false, false, false, false, false, false] rfl rfl (any_of HT_.out (by kernel_rfl)) (fun _ _ _ h => h) (Or.inl ⟨by rfl, ?_⟩) ?_ ?_
                rotate_left
                · intro w'
                  go_simp
                  with_reducible rfl
                rotate_left
                · simp only [Act.put, List.setIfInBounds_toArray, List.set_cons_zero, List.set_cons_succ, i64_w, i32_w]
                  rfl
                refine one_ (i := 3) (N := some 22) #[true, true, true, true, false, false, false, false, false, false, false, false, false, false, false, false, false, false, false, false, false, false, false, false, false, false, false, false, false, false, false, false, false, false, false, false, false, false, false, false, false, false, false, false] rfl rfl (one_of HT_.out (by kernel_rfl)) (by decide) (fun K hK => ?_)
                refine Kd.R_lit_step k27 _ 27 ?hg (N := 22) ?hd (xs := ([(⟨2, false⟩ : S27), (⟨3, true⟩ : S27)] : List (S27))) (inner := [.int .i64 2, .bool false, .int .i64 3, .bool true]) (ok := fun _ => True) (okp := fun _ => True) ?hr ?hp (fun _ hk => hk) trivial (Below.refl _ _) (Nat.le_refl _) (by simp) ?_; (case hd => rfl); (case hg => rfl); (case hr => first | (go_simp; done) | (go_simp; rfl)); (case hp => exact (Reps.c2 (show Kd.M k27 _ _ _ (⟨2, false⟩ : S27) [.int .i64 2, .bool false] from (k27_mkM _ _ _ (⟨2, false⟩ : S27) )) (Reps.c2 (show Kd.M k27 _ _ _ (⟨3, true⟩ : S27) [.int .i64 3, .bool true] from (k27_mkM _ _ _ (⟨3, true⟩ : S27) )) (Reps.none _ _))))
                intro v134 w28 ho29 hb hg_ hnew_
                clear hg_ hnew_
                (first | rw [← Ny133.out] at ho29 | (simp only [Int.reduceToNat] at ho29; rw [← Ny133.out] at ho29))
                have n0_ := Aside0.mk (Kd.R_elder' (by (with_reducible repeat (first | apply Kd.R_alloc | apply Kd.R_drewN | apply Kd.R_drew)); exact HO123.out) (Kd.R_base ho29) hb)
                have n1_ := Aside0.mk (Kd.Q_elder' (by (with_reducible repeat (first | apply Kd.Q_alloc | apply Kd.Q_drewN | apply Kd.Q_drew)); exact HO126.out) (Kd.R_base ho29) hb)
                have n2_ := Aside0.mk (Kd.R_elder' (by (with_reducible repeat (first | apply Kd.R_alloc | apply Kd.R_drewN | apply Kd.R_drew)); exact HO129.out) (Kd.R_base ho29) hb)
                have n3_ := Aside0.mk (Kd.R_elder' (by (with_reducible repeat (first | apply Kd.R_alloc | apply Kd.R_drewN | apply Kd.R_drew)); exact HO132.out) (Kd.R_base ho29) hb)
                have n4_ := Aside0.mk (Kd.R_lower (Kd.R_new' (Kd.R_new' (Kd.R_new' (Kd.R_new' ho29 (Kd.R_lt (by (with_reducible repeat (first | apply Kd.R_alloc | apply Kd.R_drewN | apply Kd.R_drew)); exact HO123.out))) (Kd.Q_lt (by (with_reducible repeat (first | apply Kd.Q_alloc | apply Kd.Q_drewN | apply Kd.Q_drew)); exact HO126.out))) (Kd.R_lt (by (with_reducible repeat (first | apply Kd.R_alloc | apply Kd.R_drewN | apply Kd.R_drew)); exact HO129.out))) (Kd.R_lt (by (with_reducible repeat (first | apply Kd.R_alloc | apply Kd.R_drewN | apply Kd.R_drew)); exact HO132.out))) (below_size (by repeat (first | (with_reducible first | exact HB.out | apply below_alloc | apply pw_below_drewN | apply below_drew1) | exact HB.out))))
                have n5_ := Aside0.mk (below_step (by repeat (first | (with_reducible first | exact HB.out | apply below_alloc | apply pw_below_drewN | apply below_drew1) | exact HB.out)) hb)
                clear HO123
                clear HO126
                clear HO129
                clear HO132
                clear HB
                have HO123 := n0_
                have HO126 := n1_
                have HO129 := n2_
                have HO132 := n3_
                have HO135 := n4_
                have HB := n5_
                clear n0_ n1_ n2_ n3_ n4_ n5_
                clear hb ho29
                obtain ⟨Ao30, co30, eo30, _⟩ := Kd.Q_slice HO126.out
                (first | subst eo30 | (injection eo30 with f1_ f2_ f3_; have f4_ := f1_.symm; have f5_ := f3_.symm; clear f1_ f2_ f3_; subst f4_; subst f5_))
                obtain ⟨Ao31, co31, eo31⟩ := Kd.R_slice HO135.out
                (first | subst eo31 | (injection eo31 with f1_ f2_ f3_; have f4_ := f1_.symm; have f5_ := f3_.symm; clear f1_ f2_ f3_; subst f4_; subst f5_))
                refine hK.out _ _ trivial (fun hHeld => ?_)
                clear hK K
                refine norm_ (a' := ?_) ?_ ?_
                rotate_left
                · show Act.put _ (some 22) _ = _
                  simp only [Act.put, List.setIfInBounds_toArray, List.set_cons_zero, List.set_cons_succ, i64_w, i32_w]
                  rfl
                refine one_ (i := 4) (N := some 23) #[true, true, true, true, true, false, false, false, false, false, false, false, false, false, false, false, false, false, false, false, false, false, false, false, false, false, false, false, false, false, false, false, false, false, false, false, false, false, false, false, false, false, false, false] rfl rfl (one_of HT_.out (by kernel_rfl)) (by decide) (fun K hK => ?_)
                refine goes_ Try.func10 (by kernel_rfl) rfl #[.slice Ao30 t124.length co30, .slice Ao31 y133.length co31] (by rfl) rfl rfl (by (try simp only [List.map_toArray, List.map_cons, List.map_nil]); first | done | rfl | (simp only [List.length_drop, List.length_take]; rfl)) ?_
                with_reducible refine (governorref17_Same.calls k _ _ t124 _ _ y133 true _ ?side1 ?side2 ?side3 ?side4 A2.out).mono ?_
                (case side1 => repeat (first | exact (Kd.Q_reads' HO126.out).2.2 | (with_reducible refine Kd.C_alloc ?_ _) | (with_reducible refine Kd.C_drewN ?_ _) | (with_reducible refine Kd.C_drew ?_)))
                (case side2 => exact (Kd.Q_reads' HO126.out).2.1)
                (case side3 => repeat (first | exact (Kd.R_reads' HO135.out).2.2 | (with_reducible refine Kd.C_alloc ?_ _) | (with_reducible refine Kd.C_drewN ?_ _) | (with_reducible refine Kd.C_drew ?_)))
                (case side4 => exact (Kd.R_reads' HO135.out).2.1)
                rintro e w' ⟨rfl, ⟨nd, rfl⟩⟩
                refine ⟨_, rfl, ?_⟩
                refine hK.out _ _ trivial (fun hHeld => ?_)
                clear hK K
                refine norm_ (a' := ?_) ?_ ?_
                rotate_left
                · show Act.put _ (some 23) _ = _
                  simp only [Act.put, List.setIfInBounds_toArray, List.set_cons_zero, List.set_cons_succ, i64_w, i32_w]
                  rfl
                refine pure_ (i := 5) (N := some 24) (v := ?_) (a' := ?_) #[true, true, true, true, true, true, false, false, false, false, false, false, false, false, false, false, false, false, false, false, false, false, false, false, false, false, false, false, false, false, false, false, false, false, false, false, false, false, false, false, false, false, false, false] rfl rfl (any_of HT_.out (by kernel_rfl)) (fun _ _ _ h => h) (Or.inl ⟨by rfl, ?_⟩) ?_ ?_
                rotate_left
                · intro w'
                  go_simp
                  with_reducible rfl
                rotate_left
                · simp only [Act.put, List.setIfInBounds_toArray, List.set_cons_zero, List.set_cons_succ, i64_w, i32_w]
                  rfl
                refine pure_ (i := 6) (N := some 25) (v := ?_) (a' := ?_) #[true, true, true, true, true, true, true, false, false, false, false, false, false, false, false, false, false, false, false, false, false, false, false, false, false, false, false, false, false, false, false, false, false, false, false, false, false, false, false, false, false, false, false, false] rfl rfl (any_of HT_.out (by kernel_rfl)) (fun _ _ _ h => h) (Or.inl ⟨by rfl, ?_⟩) ?_ ?_
                rotate_left
                · intro w'
                  go_simp
                  with_reducible rfl
                rotate_left
                · simp only [Act.put, List.setIfInBounds_toArray, List.set_cons_zero, List.set_cons_succ, i64_w, i32_w]
                  rfl
                refine pure_ (i := 7) (N := some 26) (v := ?_) (a' := ?_) #[true, true, true, true, true, true, true, true, false, false, false, false, false, false, false, false, false, false, false, false, false, false, false, false, false, false, false, false, false, false, false, false, false, false, false, false, false, false, false, false, false, false, false, false] rfl rfl (any_of HT_.out (by kernel_rfl)) (fun _ _ _ h => h) (Or.inl ⟨by rfl, ?_⟩) ?_ ?_
                rotate_left
                · intro w'
                  go_simp
                  with_reducible rfl
                rotate_left
                · simp only [Act.put, List.setIfInBounds_toArray, List.set_cons_zero, List.set_cons_succ, i64_w, i32_w]
                  rfl
                refine one_ (i := 8) (N := some 27) #[true, true, true, true, true, true, true, true, true, false, false, false, false, false, false, false, false, false, false, false, false, false, false, false, false, false, false, false, false, false, false, false, false, false, false, false, false, false, false, false, false, false, false, false] rfl rfl (one_of HT_.out (by kernel_rfl)) (by decide) (fun K hK => ?_)
                refine goes_ Try.func9 (by kernel_rfl) rfl #[.int .i64 0, .slice Ao30 t124.length co30, .agg #[.int .i64 0, .bool false]] (by rfl) rfl rfl (by (try simp only [List.map_toArray, List.map_cons, List.map_nil]); first | done | rfl | (simp only [List.length_drop, List.length_take]; rfl)) ?_
                with_reducible refine (score_Add.calls 0 _ _ t124 0 false t137 _ ?side1 ?side2 A4.out).mono ?_
                (case side1 => repeat (first | exact (Kd.Q_reads' HO126.out).2.2 | (with_reducible refine Kd.C_alloc ?_ _) | (with_reducible refine Kd.C_drewN ?_ _) | (with_reducible refine Kd.C_drew ?_)))
                (case side2 => exact (Kd.Q_reads' HO126.out).2.1)
                rintro e w32 ⟨v138, rfl, ho0, hb⟩
                refine ⟨_, rfl, ?_⟩
                have n0_ := Aside0.mk (Kd.R_elder' (by (with_reducible repeat (first | apply Kd.R_alloc | apply Kd.R_drewN | apply Kd.R_drew)); exact HO123.out) (Kd.Q_base ho0) hb)
                have n1_ := Aside0.mk (Kd.Q_elder' (by (with_reducible repeat (first | apply Kd.Q_alloc | apply Kd.Q_drewN | apply Kd.Q_drew)); exact HO126.out) (Kd.Q_base ho0) hb)
                have n2_ := Aside0.mk (Kd.R_elder' (by (with_reducible repeat (first | apply Kd.R_alloc | apply Kd.R_drewN | apply Kd.R_drew)); exact HO129.out) (Kd.Q_base ho0) hb)
                have n3_ := Aside0.mk (Kd.R_elder' (by (with_reducible repeat (first | apply Kd.R_alloc | apply Kd.R_drewN | apply Kd.R_drew)); exact HO132.out) (Kd.Q_base ho0) hb)
                have n4_ := Aside0.mk (Kd.R_elder' (by (with_reducible repeat (first | apply Kd.R_alloc | apply Kd.R_drewN | apply Kd.R_drew)); exact HO135.out) (Kd.Q_base ho0) hb)
                have n5_ := Aside0.mk (Kd.Q_lower (Kd.Q_new' (Kd.Q_new' (Kd.Q_new' (Kd.Q_new' (Kd.Q_new' ho0 (Kd.R_lt (by (with_reducible repeat (first | apply Kd.R_alloc | apply Kd.R_drewN | apply Kd.R_drew)); exact HO123.out))) (Kd.Q_lt (by (with_reducible repeat (first | apply Kd.Q_alloc | apply Kd.Q_drewN | apply Kd.Q_drew)); exact HO126.out))) (Kd.R_lt (by (with_reducible repeat (first | apply Kd.R_alloc | apply Kd.R_drewN | apply Kd.R_drew)); exact HO129.out))) (Kd.R_lt (by (with_reducible repeat (first | apply Kd.R_alloc | apply Kd.R_drewN | apply Kd.R_drew)); exact HO132.out))) (Kd.R_lt (by (with_reducible repeat (first | apply Kd.R_alloc | apply Kd.R_drewN | apply Kd.R_drew)); exact HO135.out))) (below_size (by repeat (first | (with_reducible first | exact HB.out | apply below_alloc | apply pw_below_drewN | apply below_drew1) | exact HB.out))))
                have n6_ := Aside0.mk (below_step (by repeat (first | (with_reducible first | exact HB.out | apply below_alloc | apply pw_below_drewN | apply below_drew1) | exact HB.out)) hb)
                clear HO123
                clear HO126
                clear HO129
                clear HO132
                clear HO135
                clear HB
                have HO123 := n0_
                have HO126 := n1_
                have HO129 := n2_
                have HO132 := n3_
                have HO135 := n4_
                have HO139 := n5_
                have HB := n6_
                clear n0_ n1_ n2_ n3_ n4_ n5_ n6_
                (try clear hb)
                (try clear hb2)
                (try clear hk)
                (try clear hi)
                (try clear ho0)
                obtain ⟨Ao33, co33, eo33, _⟩ := Kd.Q_slice HO139.out
                (first | subst eo33 | (injection eo33 with f1_ f2_ f3_; have f4_ := f1_.symm; have f5_ := f3_.symm; clear f1_ f2_ f3_; subst f4_; subst f5_))
                obtain ⟨Ao34, co34, eo34⟩ := Kd.R_slice HO129.out
                (first | subst eo34 | (injection eo34 with f1_ f2_ f3_; have f4_ := f1_.symm; have f5_ := f3_.symm; clear f1_ f2_ f3_; subst f4_; subst f5_))
                refine hK.out _ _ trivial (fun hHeld => ?_)
                clear hK K
                refine norm_ (a' := ?_) ?_ ?_
                rotate_left
                · show Act.put _ (some 27) _ = _
                  simp only [Act.put, List.setIfInBounds_toArray, List.set_cons_zero, List.set_cons_succ, i64_w, i32_w]
                  rfl
                refine pure_ (i := 9) (N := some 28) (v := ?_) (a' := ?_) #[true, true, true, true, true, true, true, true, true, true, false, false, false, false, false, false, false, false, false, false, false, false, false, false, false, false, false, false, false, false, false, false, false, false, false, false, false, false, false, false, false, false, false, false] rfl rfl (any_of HT_.out (by kernel_rfl)) (fun _ _ _ h => h) (Or.inl ⟨by rfl, ?_⟩) ?_ ?_
                rotate_left
                · intro w'
                  go_simp
                  with_reducible rfl
                rotate_left
                · simp only [Act.put, List.setIfInBounds_toArray, List.set_cons_zero, List.set_cons_succ, i64_w, i32_w]
                  rfl
                refine pure_ (i := 10) (N := some 29) (v := ?_) (a' := ?_) #[true, true, true, true, true, true, true, true, true, true, true, false, false, false, false, false, false, false, false, false, false, false, false, false, false, false, false, false, false, false, false, false, false, false, false, false, false, false, false, false, false, false, false, false] rfl rfl (any_of HT_.out (by kernel_rfl)) (fun _ _ _ h => h) (Or.inl ⟨by rfl, ?_⟩) ?_ ?_
                rotate_left
                · intro w'
                  go_simp
                  with_reducible rfl
                rotate_left
                · simp only [Act.put, List.setIfInBounds_toArray, List.set_cons_zero, List.set_cons_succ, i64_w, i32_w]
                  rfl
                refine pure_ (i := 11) (N := some 30) (v := ?_) (a' := ?_) #[true, true, true, true, true, true, true, true, true, true, true, true, false, false, false, false, false, false, false, false, false, false, false, false, false, false, false, false, false, false, false, false, false, false, false, false, false, false, false, false, false, false, false, false] rfl rfl (any_of HT_.out (by kernel_rfl)) (fun _ _ _ h => h) (Or.inl ⟨by rfl, ?_⟩) ?_ ?_
                rotate_left
                · intro w'
                  go_simp
                  with_reducible rfl
                rotate_left
                · simp only [Act.put, List.setIfInBounds_toArray, List.set_cons_zero, List.set_cons_succ, i64_w, i32_w]
                  rfl
                refine pure_ (i := 12) (N := some 31) (v := ?_) (a' := ?_) #[true, true, true, true, true, true, true, true, true, true, true, true, true, false, false, false, false, false, false, false, false, false, false, false, false, false, false, false, false, false, false, false, false, false, false, false, false, false, false, false, false, false, false, false] rfl rfl (any_of HT_.out (by kernel_rfl)) (fun _ _ _ h => h) (Or.inl ⟨by rfl, ?_⟩) ?_ ?_
                rotate_left
                · intro w'
                  go_simp
                  with_reducible rfl
                rotate_left
                · simp only [Act.put, List.setIfInBounds_toArray, List.set_cons_zero, List.set_cons_succ, i64_w, i32_w]
                  rfl
                refine pure_ (i := 13) (N := some 32) (v := ?_) (a' := ?_) #[true, true, true, true, true, true, true, true, true, true, true, true, true, true, false, false, false, false, false, false, false, false, false, false, false, false, false, false, false, false, false, false, false, false, false, false, false, false, false, false, false, false, false, false] rfl rfl (any_of HT_.out (by kernel_rfl)) (fun _ _ _ h => h) (Or.inl ⟨by rfl, ?_⟩) ?_ ?_
                rotate_left
                · intro w'
                  go_simp
                  with_reducible rfl
                rotate_left
                · simp only [Act.put, List.setIfInBounds_toArray, List.set_cons_zero, List.set_cons_succ, i64_w, i32_w]
                  rfl
                refine one_ (i := 14) (N := some 33) #[true, true, true, true, true, true, true, true, true, true, true, true, true, true, true, false, false, false, false, false, false, false, false, false, false, false, false, false, false, false, false, false, false, false, false, false, false, false, false, false, false, false, false, false] rfl rfl (one_of HT_.out (by kernel_rfl)) (by decide) (fun K hK => ?_)
                refine goes_ Try.func11 (by kernel_rfl) rfl #[.slice Ao34 y127.length co34] (by rfl) rfl rfl (by (try simp only [List.map_toArray, List.map_cons, List.map_nil]); first | done | rfl | (simp only [List.length_drop, List.length_take]; rfl)) ?_
                with_reducible refine (score_Cost.calls _ _ y127 t140 _ ?side1 ?side2 A6.out).mono ?_
                (case side1 => repeat (first | exact (Kd.R_reads' HO129.out).2.2 | (with_reducible refine Kd.C_alloc ?_ _) | (with_reducible refine Kd.C_drewN ?_ _) | (with_reducible refine Kd.C_drew ?_)))
                (case side2 => exact (Kd.R_reads' HO129.out).2.1)
                rintro e w35 ⟨rfl, hb⟩
                refine ⟨_, rfl, ?_⟩
                have n0_ := Aside0.mk (Kd.R_below (by (with_reducible repeat (first | apply Kd.R_alloc | apply Kd.R_drewN | apply Kd.R_drew)); exact HO123.out) hb)
                have n1_ := Aside0.mk (Kd.Q_below (by (with_reducible repeat (first | apply Kd.Q_alloc | apply Kd.Q_drewN | apply Kd.Q_drew)); exact HO126.out) hb)
                have n2_ := Aside0.mk (Kd.R_below (by (with_reducible repeat (first | apply Kd.R_alloc | apply Kd.R_drewN | apply Kd.R_drew)); exact HO129.out) hb)
                have n3_ := Aside0.mk (Kd.R_below (by (with_reducible repeat (first | apply Kd.R_alloc | apply Kd.R_drewN | apply Kd.R_drew)); exact HO132.out) hb)
                have n4_ := Aside0.mk (Kd.R_below (by (with_reducible repeat (first | apply Kd.R_alloc | apply Kd.R_drewN | apply Kd.R_drew)); exact HO135.out) hb)
                have n5_ := Aside0.mk (Kd.Q_below (by (with_reducible repeat (first | apply Kd.Q_alloc | apply Kd.Q_drewN | apply Kd.Q_drew)); exact HO139.out) hb)
                have n6_ := Aside0.mk (below_step (by repeat (first | (with_reducible first | exact HB.out | apply below_alloc | apply pw_below_drewN | apply below_drew1) | exact HB.out)) hb)
                clear HO123
                clear HO126
                clear HO129
                clear HO132
                clear HO135
                clear HO139
                clear HB
                have HO123 := n0_
                have HO126 := n1_
                have HO129 := n2_
                have HO132 := n3_
                have HO135 := n4_
                have HO139 := n5_
                have HB := n6_
                clear n0_ n1_ n2_ n3_ n4_ n5_ n6_
                (try clear hb)
                (try clear hb2)
                (try clear hk)
                (try clear hi)
                refine hK.out _ _ trivial (fun hHeld => ?_)
                clear hK K
                refine norm_ (a' := ?_) ?_ ?_
                rotate_left
                · show Act.put _ (some 33) _ = _
                  simp only [Act.put, List.setIfInBounds_toArray, List.set_cons_zero, List.set_cons_succ, i64_w, i32_w]
                  rfl
                refine pure_ (i := 15) (N := some 34) (v := ?_) (a' := ?_) #[true, true, true, true, true, true, true, true, true, true, true, true, true, true, true, true, false, false, false, false, false, false, false, false, false, false, false, false, false, false, false, false, false, false, false, false, false, false, false, false, false, false, false, false] rfl rfl (any_of HT_.out (by kernel_rfl)) (fun _ _ _ h => h) (Or.inl ⟨by rfl, ?_⟩) ?_ ?_
                rotate_left
                · intro w'
                  go_simp
                  with_reducible rfl
                rotate_left
                · simp only [Act.put, List.setIfInBounds_toArray, List.set_cons_zero, List.set_cons_succ, i64_w, i32_w]
                  rfl
                refine pure_ (i := 16) (N := some 35) (v := ?_) (a' := ?_) #[true, true, true, true, true, true, true, true, true, true, true, true, true, true, true, true, true, false, false, false, false, false, false, false, false, false, false, false, false, false, false, false, false, false, false, false, false, false, false, false, false, false, false, false] rfl rfl (any_of HT_.out (by kernel_rfl)) (fun _ _ _ h => h) (Or.inl ⟨by rfl, ?_⟩) ?_ ?_
                rotate_left
                · intro w'
                  go_simp
                  with_reducible rfl
                rotate_left
                · simp only [Act.put, List.setIfInBounds_toArray, List.set_cons_zero, List.set_cons_succ, i64_w, i32_w]
                  rfl
                refine pure_ (i := 17) (N := some 36) (v := ?_) (a' := ?_) #[true, true, true, true, true, true, true, true, true, true, true, true, true, true, true, true, true, true, false, false, false, false, false, false, false, false, false, false, false, false, false, false, false, false, false, false, false, false, false, false, false, false, false, false] rfl rfl (any_of HT_.out (by kernel_rfl)) (fun _ _ _ h => h) (Or.inl ⟨by rfl, ?_⟩) ?_ ?_
                rotate_left
                · intro w'
                  go_simp
                  with_reducible rfl
                rotate_left
                · simp only [Act.put, List.setIfInBounds_toArray, List.set_cons_zero, List.set_cons_succ, i64_w, i32_w]
                  rfl
                refine pure_ (i := 18) (N := some 37) (v := ?_) (a' := ?_) #[true, true, true, true, true, true, true, true, true, true, true, true, true, true, true, true, true, true, true, false, false, false, false, false, false, false, false, false, false, false, false, false, false, false, false, false, false, false, false, false, false, false, false, false] rfl rfl (any_of HT_.out (by kernel_rfl)) (fun _ _ _ h => h) (Or.inl ⟨by rfl, ?_⟩) ?_ ?_
                rotate_left
                · intro w'
                  go_simp
                  with_reducible rfl
                rotate_left
                · simp only [Act.put, List.setIfInBounds_toArray, List.set_cons_zero, List.set_cons_succ, i64_w, i32_w]
                  rfl
                refine one_ (i := 19) (N := some 38) #[true, true, true, true, true, true, true, true, true, true, true, true, true, true, true, true, true, true, true, true, false, false, false, false, false, false, false, false, false, false, false, false, false, false, false, false, false, false, false, false, false, false, false, false] rfl rfl (one_of HT_.out (by kernel_rfl)) (by decide) (fun K hK => ?_)
                refine goes_ Try.func12 (by kernel_rfl) rfl #[.slice Ao34 y127.length co34] (by rfl) rfl rfl (by (try simp only [List.map_toArray, List.map_cons, List.map_nil]); first | done | rfl | (simp only [List.length_drop, List.length_take]; rfl)) ?_
                with_reducible refine (score_Bad.calls _ _ y127 t141 _ ?side1 ?side2 A8.out).mono ?_
                (case side1 => repeat (first | exact (Kd.R_reads' HO129.out).2.2 | (with_reducible refine Kd.C_alloc ?_ _) | (with_reducible refine Kd.C_drewN ?_ _) | (with_reducible refine Kd.C_drew ?_)))
                (case side2 => exact (Kd.R_reads' HO129.out).2.1)
                rintro e w36 ⟨rfl, hb⟩
                refine ⟨_, rfl, ?_⟩
                have n0_ := Aside0.mk (Kd.R_below (by (with_reducible repeat (first | apply Kd.R_alloc | apply Kd.R_drewN | apply Kd.R_drew)); exact HO123.out) hb)
                have n1_ := Aside0.mk (Kd.Q_below (by (with_reducible repeat (first | apply Kd.Q_alloc | apply Kd.Q_drewN | apply Kd.Q_drew)); exact HO126.out) hb)
                have n2_ := Aside0.mk (Kd.R_below (by (with_reducible repeat (first | apply Kd.R_alloc | apply Kd.R_drewN | apply Kd.R_drew)); exact HO129.out) hb)
                have n3_ := Aside0.mk (Kd.R_below (by (with_reducible repeat (first | apply Kd.R_alloc | apply Kd.R_drewN | apply Kd.R_drew)); exact HO132.out) hb)
                have n4_ := Aside0.mk (Kd.R_below (by (with_reducible repeat (first | apply Kd.R_alloc | apply Kd.R_drewN | apply Kd.R_drew)); exact HO135.out) hb)
                have n5_ := Aside0.mk (Kd.Q_below (by (with_reducible repeat (first | apply Kd.Q_alloc | apply Kd.Q_drewN | apply Kd.Q_drew)); exact HO139.out) hb)
                have n6_ := Aside0.mk (below_step (by repeat (first | (with_reducible first | exact HB.out | apply below_alloc | apply pw_below_drewN | apply below_drew1) | exact HB.out)) hb)
                clear HO123
                clear HO126
                clear HO129
                clear HO132
                clear HO135
                clear HO139
                clear HB
                have HO123 := n0_
                have HO126 := n1_
                have HO129 := n2_
                have HO132 := n3_
                have HO135 := n4_
                have HO139 := n5_
                have HB := n6_
                clear n0_ n1_ n2_ n3_ n4_ n5_ n6_
                (try clear hb)
                (try clear hb2)
                (try clear hk)
                (try clear hi)
                refine hK.out _ _ trivial (fun hHeld => ?_)
                clear hK K
                refine norm_ (a' := ?_) ?_ ?_
                rotate_left
                · show Act.put _ (some 38) _ = _
                  simp only [Act.put, List.setIfInBounds_toArray, List.set_cons_zero, List.set_cons_succ, i64_w, i32_w]
                  rfl
                refine pure_ (i := 20) (N := some 39) (v := ?_) (a' := ?_) #[true, true, true, true, true, true, true, true, true, true, true, true, true, true, true, true, true, true, true, true, true, false, false, false, false, false, false, false, false, false, false, false, false, false, false, false, false, false, false, false, false, false, false, false] rfl rfl (any_of HT_.out (by kernel_rfl)) (fun _ _ _ h => h) (Or.inl ⟨by rfl, ?_⟩) ?_ ?_
                rotate_left
                · intro w'
                  go_simp
                  with_reducible rfl
                rotate_left
                · simp only [Act.put, List.setIfInBounds_toArray, List.set_cons_zero, List.set_cons_succ, i64_w, i32_w]
                  rfl
                refine pure_ (i := 21) (N := some 40) (v := ?_) (a' := ?_) #[true, true, true, true, true, true, true, true, true, true, true, true, true, true, true, true, true, true, true, true, true, true, false, false, false, false, false, false, false, false, false, false, false, false, false, false, false, false, false, false, false, false, false, false] rfl rfl (any_of HT_.out (by kernel_rfl)) (fun _ _ _ h => h) (Or.inl ⟨by rfl, ?_⟩) ?_ ?_
                rotate_left
                · intro w'
                  go_simp
                  with_reducible rfl
                rotate_left
                · simp only [Act.put, List.setIfInBounds_toArray, List.set_cons_zero, List.set_cons_succ, i64_w, i32_w]
                  rfl
                refine pure_ (i := 22) (N := some 41) (v := ?_) (a' := ?_) #[true, true, true, true, true, true, true, true, true, true, true, true, true, true, true, true, true, true, true, true, true, true, true, false, false, false, false, false, false, false, false, false, false, false, false, false, false, false, false, false, false, false, false, false] rfl rfl (any_of HT_.out (by kernel_rfl)) (fun _ _ _ h => h) (Or.inl ⟨by rfl, ?_⟩) ?_ ?_
                rotate_left
                · intro w'
                  go_simp
                  with_reducible rfl
                rotate_left
                · simp only [Act.put, List.setIfInBounds_toArray, List.set_cons_zero, List.set_cons_succ, i64_w, i32_w]
                  rfl
                refine pure_ (i := 24) (N := some 43) (v := ?_) (a' := ?_) #[true, true, true, true, true, true, true, true, true, true, true, true, true, true, true, true, true, true, true, true, true, true, true, false, true, false, false, false, false, false, false, false, false, false, false, false, false, false, false, false, false, false, false, false] rfl rfl (any_of HT_.out (by kernel_rfl)) (fun _ _ _ h => h) (Or.inl ⟨by rfl, ?_⟩) ?_ ?_
                rotate_left
                · intro w'
                  go_simp
                  with_reducible rfl
                rotate_left
                · simp only [Act.put, List.setIfInBounds_toArray, List.set_cons_zero, List.set_cons_succ, i64_w, i32_w]
                  rfl
                refine pure_ (i := 25) (N := some 44) (v := ?_) (a' := ?_) #[true, true, true, true, true, true, true, true, true, true, true, true, true, true, true, true, true, true, true, true, true, true, true, false, true, true, false, false, false, false, false, false, false, false, false, false, false, false, false, false, false, false, false, false] rfl rfl (any_of HT_.out (by kernel_rfl)) (fun _ _ _ h => h) (Or.inl ⟨by rfl, ?_⟩) ?_ ?_
                rotate_left
                · intro w'
                  go_simp
                  with_reducible rfl
                rotate_left
                · simp only [Act.put, List.setIfInBounds_toArray, List.set_cons_zero, List.set_cons_succ, i64_w, i32_w]
                  rfl
                refine one_ (i := 23) (N := some 42) #[true, true, true, true, true, true, true, true, true, true, true, true, true, true, true, true, true, true, true, true, true, true, true, true, true, true, false, false, false, false, false, false, false, false, false, false, false, false, false, false, false, false, false, false] rfl rfl (one_of HT_.out (by kernel_rfl)) (by decide) (fun K hK => ?_)
                refine goes_ Try.func15 (by kernel_rfl) rfl #[] (by rfl) rfl rfl (by (try simp only [List.map_toArray, List.map_cons, List.map_nil]); first | done | rfl | (simp only [List.length_drop, List.length_take]; rfl)) ?_
                with_reducible refine (governorlaw09_Plain.calls  t142 t143 t144 t145 t146 t147 t148 t149 t150 t151 t152 t153 _ A10.out).mono ?_
                rintro e w37 ⟨rfl, hb⟩
                refine ⟨_, rfl, ?_⟩
                have n0_ := Aside0.mk (Kd.R_below (by (with_reducible repeat (first | apply Kd.R_alloc | apply Kd.R_drewN | apply Kd.R_drew)); exact HO123.out) hb)
                have n1_ := Aside0.mk (Kd.Q_below (by (with_reducible repeat (first | apply Kd.Q_alloc | apply Kd.Q_drewN | apply Kd.Q_drew)); exact HO126.out) hb)
                have n2_ := Aside0.mk (Kd.R_below (by (with_reducible repeat (first | apply Kd.R_alloc | apply Kd.R_drewN | apply Kd.R_drew)); exact HO129.out) hb)
                have n3_ := Aside0.mk (Kd.R_below (by (with_reducible repeat (first | apply Kd.R_alloc | apply Kd.R_drewN | apply Kd.R_drew)); exact HO132.out) hb)
                have n4_ := Aside0.mk (Kd.R_below (by (with_reducible repeat (first | apply Kd.R_alloc | apply Kd.R_drewN | apply Kd.R_drew)); exact HO135.out) hb)
                have n5_ := Aside0.mk (Kd.Q_below (by (with_reducible repeat (first | apply Kd.Q_alloc | apply Kd.Q_drewN | apply Kd.Q_drew)); exact HO139.out) hb)
                have n6_ := Aside0.mk (below_step (by repeat (first | (with_reducible first | exact HB.out | apply below_alloc | apply pw_below_drewN | apply below_drew1) | exact HB.out)) hb)
                clear HO123
                clear HO126
                clear HO129
                clear HO132
                clear HO135
                clear HO139
                clear HB
                have HO123 := n0_
                have HO126 := n1_
                have HO129 := n2_
                have HO132 := n3_
                have HO135 := n4_
                have HO139 := n5_
                have HB := n6_
                clear n0_ n1_ n2_ n3_ n4_ n5_ n6_
                (try clear hb)
                (try clear hb2)
                (try clear hk)
                (try clear hi)
                obtain ⟨Ao38, co38, eo38⟩ := Kd.R_slice HO132.out
                (first | subst eo38 | (injection eo38 with f1_ f2_ f3_; have f4_ := f1_.symm; have f5_ := f3_.symm; clear f1_ f2_ f3_; subst f4_; subst f5_))
                refine hK.out _ _ trivial (fun hHeld => ?_)
                clear hK K
                refine norm_ (a' := ?_) ?_ ?_
                rotate_left
                · show Act.put _ (some 42) _ = _
                  simp only [Act.put, List.setIfInBounds_toArray, List.set_cons_zero, List.set_cons_succ, i64_w, i32_w]
                  rfl
                refine one_ (i := 26) (N := some 45) #[true, true, true, true, true, true, true, true, true, true, true, true, true, true, true, true, true, true, true, true, true, true, true, true, true, true, true, false, false, false, false, false, false, false, false, false, false, false, false, false, false, false, false, false] rfl rfl (one_of HT_.out (by kernel_rfl)) (by decide) (fun K hK => ?_)
                refine goes_ Try.func14 (by kernel_rfl) rfl #[.agg #[.int .i64 t142, .int .i64 t143, .int .i64 t144, .int .i64 t145, .int .i64 t146, .int .i64 t147, .int .i64 t148, .int .i64 t149, .int .i64 t150, .int .i64 t151, .int .i64 t152, .int .i64 t153], .slice Ao38 y130.length co38, .slice Ao34 y127.length co34] (by rfl) rfl rfl (by (try simp only [List.map_toArray, List.map_cons, List.map_nil]); first | done | rfl | (simp only [List.length_drop, List.length_take]; rfl)) ?_
                with_reducible refine (score_Better.calls t142 t143 t144 t145 t146 t147 t148 t149 t150 t151 t152 t153 _ _ y130 _ _ y127 true _ ?side1 ?side2 ?side3 ?side4 A11.out).mono ?_
                (case side1 => repeat (first | exact (Kd.R_reads' HO132.out).2.2 | (with_reducible refine Kd.C_alloc ?_ _) | (with_reducible refine Kd.C_drewN ?_ _) | (with_reducible refine Kd.C_drew ?_)))
                (case side2 => exact (Kd.R_reads' HO132.out).2.1)
                (case side3 => repeat (first | exact (Kd.R_reads' HO129.out).2.2 | (with_reducible refine Kd.C_alloc ?_ _) | (with_reducible refine Kd.C_drewN ?_ _) | (with_reducible refine Kd.C_drew ?_)))
                (case side4 => exact (Kd.R_reads' HO129.out).2.1)
                rintro e w39 ⟨rfl, hb⟩
                refine ⟨_, rfl, ?_⟩
                have n0_ := Aside0.mk (Kd.R_below (by (with_reducible repeat (first | apply Kd.R_alloc | apply Kd.R_drewN | apply Kd.R_drew)); exact HO123.out) hb)
                have n1_ := Aside0.mk (Kd.Q_below (by (with_reducible repeat (first | apply Kd.Q_alloc | apply Kd.Q_drewN | apply Kd.Q_drew)); exact HO126.out) hb)
                have n2_ := Aside0.mk (Kd.R_below (by (with_reducible repeat (first | apply Kd.R_alloc | apply Kd.R_drewN | apply Kd.R_drew)); exact HO129.out) hb)
                have n3_ := Aside0.mk (Kd.R_below (by (with_reducible repeat (first | apply Kd.R_alloc | apply Kd.R_drewN | apply Kd.R_drew)); exact HO132.out) hb)
                have n4_ := Aside0.mk (Kd.R_below (by (with_reducible repeat (first | apply Kd.R_alloc | apply Kd.R_drewN | apply Kd.R_drew)); exact HO135.out) hb)
                have n5_ := Aside0.mk (Kd.Q_below (by (with_reducible repeat (first | apply Kd.Q_alloc | apply Kd.Q_drewN | apply Kd.Q_drew)); exact HO139.out) hb)
                have n6_ := Aside0.mk (below_step (by repeat (first | (with_reducible first | exact HB.out | apply below_alloc | apply pw_below_drewN | apply below_drew1) | exact HB.out)) hb)
                clear HO123
                clear HO126
                clear HO129
                clear HO132
                clear HO135
                clear HO139
                clear HB
                have HO123 := n0_
                have HO126 := n1_
                have HO129 := n2_
                have HO132 := n3_
                have HO135 := n4_
                have HO139 := n5_
                have HB := n6_
                clear n0_ n1_ n2_ n3_ n4_ n5_ n6_
                (try clear hb)
                (try clear hb2)
                (try clear hk)
                (try clear hi)
                refine hK.out _ _ trivial (fun hHeld => ?_)
                clear hK K
                refine norm_ (a' := ?_) ?_ ?_
                rotate_left
                · show Act.put _ (some 45) _ = _
                  simp only [Act.put, List.setIfInBounds_toArray, List.set_cons_zero, List.set_cons_succ, i64_w, i32_w]
                  rfl
                refine pure_ (i := 27) (N := some 46) (v := ?_) (a' := ?_) #[true, true, true, true, true, true, true, true, true, true, true, true, true, true, true, true, true, true, true, true, true, true, true, true, true, true, true, true, false, false, false, false, false, false, false, false, false, false, false, false, false, false, false, false] rfl rfl (any_of HT_.out (by kernel_rfl)) (fun _ _ _ h => h) (Or.inl ⟨by rfl, ?_⟩) ?_ ?_
                rotate_left
                · intro w'
                  go_simp
                  with_reducible rfl
                rotate_left
                · simp only [Act.put, List.setIfInBounds_toArray, List.set_cons_zero, List.set_cons_succ, i64_w, i32_w]
                  rfl
                refine pure_ (i := 28) (N := some 47) (v := ?_) (a' := ?_) #[true, true, true, true, true, true, true, true, true, true, true, true, true, true, true, true, true, true, true, true, true, true, true, true, true, true, true, true, true, false, false, false, false, false, false, false, false, false, false, false, false, false, false, false] rfl rfl (any_of HT_.out (by kernel_rfl)) (fun _ _ _ h => h) (Or.inl ⟨by rfl, ?_⟩) ?_ ?_
                rotate_left
                · intro w'
                  go_simp
                  with_reducible rfl
                rotate_left
                · simp only [Act.put, List.setIfInBounds_toArray, List.set_cons_zero, List.set_cons_succ, i64_w, i32_w]
                  rfl
                refine pure_ (i := 30) (N := some 49) (v := ?_) (a' := ?_) #[true, true, true, true, true, true, true, true, true, true, true, true, true, true, true, true, true, true, true, true, true, true, true, true, true, true, true, true, true, false, true, false, false, false, false, false, false, false, false, false, false, false, false, false] rfl rfl (any_of HT_.out (by kernel_rfl)) (fun _ _ _ h => h) (Or.inl ⟨by rfl, ?_⟩) ?_ ?_
                rotate_left
                · intro w'
                  go_simp
                  with_reducible rfl
                rotate_left
                · simp only [Act.put, List.setIfInBounds_toArray, List.set_cons_zero, List.set_cons_succ, i64_w, i32_w]
                  rfl
                refine pure_ (i := 31) (N := some 50) (v := ?_) (a' := ?_) #[true, true, true, true, true, true, true, true, true, true, true, true, true, true, true, true, true, true, true, true, true, true, true, true, true, true, true, true, true, false, true, true, false, false, false, false, false, false, false, false, false, false, false, false] rfl rfl (any_of HT_.out (by kernel_rfl)) (fun _ _ _ h => h) (Or.inl ⟨by rfl, ?_⟩) ?_ ?_
                rotate_left
                · intro w'
                  go_simp
                  with_reducible rfl
                rotate_left
                · simp only [Act.put, List.setIfInBounds_toArray, List.set_cons_zero, List.set_cons_succ, i64_w, i32_w]
                  rfl
                refine one_ (i := 29) (N := some 48) #[true, true, true, true, true, true, true, true, true, true, true, true, true, true, true, true, true, true, true, true, true, true, true, true, true, true, true, true, true, true, true, true, false, false, false, false, false, false, false, false, false, false, false, false] rfl rfl (one_of HT_.out (by kernel_rfl)) (by decide) (fun K hK => ?_)
                refine goes_ Try.func15 (by kernel_rfl) rfl #[] (by rfl) rfl rfl (by (try simp only [List.map_toArray, List.map_cons, List.map_nil]); first | done | rfl | (simp only [List.length_drop, List.length_take]; rfl)) ?_
                with_reducible refine (governorlaw09_Plain.calls  t155 t156 t157 t158 t159 t160 t161 t162 t163 t164 t165 t166 _ A13.out).mono ?_
                rintro e w40 ⟨rfl, hb⟩
                refine ⟨_, rfl, ?_⟩
                have n0_ := Aside0.mk (Kd.R_below (by (with_reducible repeat (first | apply Kd.R_alloc | apply Kd.R_drewN | apply Kd.R_drew)); exact HO123.out) hb)
                have n1_ := Aside0.mk (Kd.Q_below (by (with_reducible repeat (first | apply Kd.Q_alloc | apply Kd.Q_drewN | apply Kd.Q_drew)); exact HO126.out) hb)
                have n2_ := Aside0.mk (Kd.R_below (by (with_reducible repeat (first | apply Kd.R_alloc | apply Kd.R_drewN | apply Kd.R_drew)); exact HO129.out) hb)
                have n3_ := Aside0.mk (Kd.R_below (by (with_reducible repeat (first | apply Kd.R_alloc | apply Kd.R_drewN | apply Kd.R_drew)); exact HO132.out) hb)
                have n4_ := Aside0.mk (Kd.R_below (by (with_reducible repeat (first | apply Kd.R_alloc | apply Kd.R_drewN | apply Kd.R_drew)); exact HO135.out) hb)
                have n5_ := Aside0.mk (Kd.Q_below (by (with_reducible repeat (first | apply Kd.Q_alloc | apply Kd.Q_drewN | apply Kd.Q_drew)); exact HO139.out) hb)
                have n6_ := Aside0.mk (below_step (by repeat (first | (with_reducible first | exact HB.out | apply below_alloc | apply pw_below_drewN | apply below_drew1) | exact HB.out)) hb)
                clear HO123
                clear HO126
                clear HO129
                clear HO132
                clear HO135
                clear HO139
                clear HB
                have HO123 := n0_
                have HO126 := n1_
                have HO129 := n2_
                have HO132 := n3_
                have HO135 := n4_
                have HO139 := n5_
                have HB := n6_
                clear n0_ n1_ n2_ n3_ n4_ n5_ n6_
                (try clear hb)
                (try clear hb2)
                (try clear hk)
                (try clear hi)
                refine hK.out _ _ trivial (fun hHeld => ?_)
                clear hK K
                refine norm_ (a' := ?_) ?_ ?_
                rotate_left
                · show Act.put _ (some 48) _ = _
                  simp only [Act.put, List.setIfInBounds_toArray, List.set_cons_zero, List.set_cons_succ, i64_w, i32_w]
                  rfl
                refine one_ (i := 32) (N := some 51) #[true, true, true, true, true, true, true, true, true, true, true, true, true, true, true, true, true, true, true, true, true, true, true, true, true, true, true, true, true, true, true, true, true, false, false, false, false, false, false, false, false, false, false, false] rfl rfl (one_of HT_.out (by kernel_rfl)) (by decide) (fun K hK => ?_)
                refine goes_ Try.func14 (by kernel_rfl) rfl #[.agg #[.int .i64 t155, .int .i64 t156, .int .i64 t157, .int .i64 t158, .int .i64 t159, .int .i64 t160, .int .i64 t161, .int .i64 t162, .int .i64 t163, .int .i64 t164, .int .i64 t165, .int .i64 t166], .slice Ao34 y127.length co34, .slice Ao38 y130.length co38] (by rfl) rfl rfl (by (try simp only [List.map_toArray, List.map_cons, List.map_nil]); first | done | rfl | (simp only [List.length_drop, List.length_take]; rfl)) ?_
                with_reducible refine (score_Better.calls t155 t156 t157 t158 t159 t160 t161 t162 t163 t164 t165 t166 _ _ y127 _ _ y130 false _ ?side1 ?side2 ?side3 ?side4 A14.out).mono ?_
                (case side1 => repeat (first | exact (Kd.R_reads' HO129.out).2.2 | (with_reducible refine Kd.C_alloc ?_ _) | (with_reducible refine Kd.C_drewN ?_ _) | (with_reducible refine Kd.C_drew ?_)))
                (case side2 => exact (Kd.R_reads' HO129.out).2.1)
                (case side3 => repeat (first | exact (Kd.R_reads' HO132.out).2.2 | (with_reducible refine Kd.C_alloc ?_ _) | (with_reducible refine Kd.C_drewN ?_ _) | (with_reducible refine Kd.C_drew ?_)))
                (case side4 => exact (Kd.R_reads' HO132.out).2.1)
                rintro e w41 ⟨rfl, hb⟩
                refine ⟨_, rfl, ?_⟩
                have n0_ := Aside0.mk (Kd.R_below (by (with_reducible repeat (first | apply Kd.R_alloc | apply Kd.R_drewN | apply Kd.R_drew)); exact HO123.out) hb)
                have n1_ := Aside0.mk (Kd.Q_below (by (with_reducible repeat (first | apply Kd.Q_alloc | apply Kd.Q_drewN | apply Kd.Q_drew)); exact HO126.out) hb)
                have n2_ := Aside0.mk (Kd.R_below (by (with_reducible repeat (first | apply Kd.R_alloc | apply Kd.R_drewN | apply Kd.R_drew)); exact HO129.out) hb)
                have n3_ := Aside0.mk (Kd.R_below (by (with_reducible repeat (first | apply Kd.R_alloc | apply Kd.R_drewN | apply Kd.R_drew)); exact HO132.out) hb)
                have n4_ := Aside0.mk (Kd.R_below (by (with_reducible repeat (first | apply Kd.R_alloc | apply Kd.R_drewN | apply Kd.R_drew)); exact HO135.out) hb)
                have n5_ := Aside0.mk (Kd.Q_below (by (with_reducible repeat (first | apply Kd.Q_alloc | apply Kd.Q_drewN | apply Kd.Q_drew)); exact HO139.out) hb)
                have n6_ := Aside0.mk (below_step (by repeat (first | (with_reducible first | exact HB.out | apply below_alloc | apply pw_below_drewN | apply below_drew1) | exact HB.out)) hb)
                clear HO123
                clear HO126
                clear HO129
                clear HO132
                clear HO135
                clear HO139
                clear HB
                have HO123 := n0_
                have HO126 := n1_
                have HO129 := n2_
                have HO132 := n3_
                have HO135 := n4_
                have HO139 := n5_
                have HB := n6_
                clear n0_ n1_ n2_ n3_ n4_ n5_ n6_
                (try clear hb)
                (try clear hb2)
                (try clear hk)
                (try clear hi)
                refine hK.out _ _ trivial (fun hHeld => ?_)
                clear hK K
                refine norm_ (a' := ?_) ?_ ?_
                rotate_left
                · show Act.put _ (some 51) _ = _
                  simp only [Act.put, List.setIfInBounds_toArray, List.set_cons_zero, List.set_cons_succ, i64_w, i32_w]
                  rfl
                refine pure_ (i := 33) (N := some 52) (v := ?_) (a' := ?_) #[true, true, true, true, true, true, true, true, true, true, true, true, true, true, true, true, true, true, true, true, true, true, true, true, true, true, true, true, true, true, true, true, true, true, false, false, false, false, false, false, false, false, false, false] rfl rfl (any_of HT_.out (by kernel_rfl)) (fun _ _ _ h => h) (Or.inl ⟨by rfl, ?_⟩) ?_ ?_
                rotate_left
                · intro w'
                  go_simp
                  with_reducible rfl
                rotate_left
                · simp only [Act.put, List.setIfInBounds_toArray, List.set_cons_zero, List.set_cons_succ, i64_w, i32_w]
                  rfl
                refine pure_ (i := 34) (N := some 53) (v := ?_) (a' := ?_) #[true, true, true, true, true, true, true, true, true, true, true, true, true, true, true, true, true, true, true, true, true, true, true, true, true, true, true, true, true, true, true, true, true, true, true, false, false, false, false, false, false, false, false, false] rfl rfl (any_of HT_.out (by kernel_rfl)) (fun _ _ _ h => h) (Or.inl ⟨by rfl, ?_⟩) ?_ ?_
                rotate_left
                · intro w'
                  go_simp
                  with_reducible rfl
                rotate_left
                · simp only [Act.put, List.setIfInBounds_toArray, List.set_cons_zero, List.set_cons_succ, i64_w, i32_w]
                  rfl
                refine pure_ (i := 35) (N := some 54) (v := ?_) (a' := ?_) #[true, true, true, true, true, true, true, true, true, true, true, true, true, true, true, true, true, true, true, true, true, true, true, true, true, true, true, true, true, true, true, true, true, true, true, true, false, false, false, false, false, false, false, false] rfl rfl (any_of HT_.out (by kernel_rfl)) (fun _ _ _ h => h) (Or.inl ⟨by rfl, ?_⟩) ?_ ?_
                rotate_left
                · intro w'
                  go_simp
                  with_reducible rfl
                rotate_left
                · simp only [Act.put, List.setIfInBounds_toArray, List.set_cons_zero, List.set_cons_succ, i64_w, i32_w]
                  rfl
                refine pure_ (i := 37) (N := some 56) (v := ?_) (a' := ?_) #[true, true, true, true, true, true, true, true, true, true, true, true, true, true, true, true, true, true, true, true, true, true, true, true, true, true, true, true, true, true, true, true, true, true, true, true, false, true, false, false, false, false, false, false] rfl rfl (any_of HT_.out (by kernel_rfl)) (fun _ _ _ h => h) (Or.inl ⟨by rfl, ?_⟩) ?_ ?_
                rotate_left
                · intro w'
                  go_simp
                  with_reducible rfl
                rotate_left
                · simp only [Act.put, List.setIfInBounds_toArray, List.set_cons_zero, List.set_cons_succ, i64_w, i32_w]
                  rfl
                refine pure_ (i := 38) (N := some 57) (v := ?_) (a' := ?_) #[true, true, true, true, true, true, true, true, true, true, true, true, true, true, true, true, true, true, true, true, true, true, true, true, true, true, true, true, true, true, true, true, true, true, true, true, false, true, true, false, false, false, false, false] rfl rfl (any_of HT_.out (by kernel_rfl)) (fun _ _ _ h => h) (Or.inl ⟨by rfl, ?_⟩) ?_ ?_
                rotate_left
                · intro w'
                  go_simp
                  with_reducible rfl
                rotate_left
                · simp only [Act.put, List.setIfInBounds_toArray, List.set_cons_zero, List.set_cons_succ, i64_w, i32_w]
                  rfl
                have q43e : (3 : Int) ≤ ((y127.length : Int) : Int) := of_decide_eq_true (by first | (with_reducible assumption) | assumption)
                obtain ⟨i043, hi043e, _, hsz43e, _⟩ := info_parts info27
                have hroom43e : y127.length ≤ co34 := (Kd.R_reads' HO129.out).2.1
                have hcut43e := cut_to (P := Try.prog) 22 27 .i64 Try.underlying22 hi043e Ao34 y127.length co34 3 (by omega) q43e hroom43e
                have hy43e : y180.length = (3 : Int).toNat := (by rw [Ny180.out, List.length_take]; omega)
                rw [← hy43e] at hcut43e
                clear q43e hi043e hroom43e hy43e
                refine pure_ (i := 39) (N := some 58) (v := ?_) (a' := ?_) #[true, true, true, true, true, true, true, true, true, true, true, true, true, true, true, true, true, true, true, true, true, true, true, true, true, true, true, true, true, true, true, true, true, true, true, true, false, true, true, true, false, false, false, false] rfl rfl (any_of HT_.out (by kernel_rfl)) (fun _ _ _ h => h) (Or.inl ⟨by rfl, ?_⟩) ?_ ?_
                rotate_left
                · intro w'
                  go_simp
                  with_reducible rfl
                rotate_left
                · simp only [Act.put, List.setIfInBounds_toArray, List.set_cons_zero, List.set_cons_succ, i64_w, i32_w]
                  rfl
                refine one_ (i := 36) (N := some 55) #[true, true, true, true, true, true, true, true, true, true, true, true, true, true, true, true, true, true, true, true, true, true, true, true, true, true, true, true, true, true, true, true, true, true, true, true, true, true, true, true, false, false, false, false] rfl rfl (one_of HT_.out (by kernel_rfl)) (by decide) (fun K hK => ?_)
                refine goes_ Try.func15 (by kernel_rfl) rfl #[] (by rfl) rfl rfl (by (try simp only [List.map_toArray, List.map_cons, List.map_nil]); first | done | rfl | (simp only [List.length_drop, List.length_take]; rfl)) ?_
                with_reducible refine (governorlaw09_Plain.calls  t168 t169 t170 t171 t172 t173 t174 t175 t176 t177 t178 t179 _ A16.out).mono ?_
                rintro e w42 ⟨rfl, hb⟩
                refine ⟨_, rfl, ?_⟩
                have n0_ := Aside0.mk (Kd.R_below (by (with_reducible repeat (first | apply Kd.R_alloc | apply Kd.R_drewN | apply Kd.R_drew)); exact HO123.out) hb)
                have n1_ := Aside0.mk (Kd.Q_below (by (with_reducible repeat (first | apply Kd.Q_alloc | apply Kd.Q_drewN | apply Kd.Q_drew)); exact HO126.out) hb)
                have n2_ := Aside0.mk (Kd.R_below (by (with_reducible repeat (first | apply Kd.R_alloc | apply Kd.R_drewN | apply Kd.R_drew)); exact HO129.out) hb)
                have n3_ := Aside0.mk (Kd.R_below (by (with_reducible repeat (first | apply Kd.R_alloc | apply Kd.R_drewN | apply Kd.R_drew)); exact HO132.out) hb)
                have n4_ := Aside0.mk (Kd.R_below (by (with_reducible repeat (first | apply Kd.R_alloc | apply Kd.R_drewN | apply Kd.R_drew)); exact HO135.out) hb)
                have n5_ := Aside0.mk (Kd.Q_below (by (with_reducible repeat (first | apply Kd.Q_alloc | apply Kd.Q_drewN | apply Kd.Q_drew)); exact HO139.out) hb)
                have n6_ := Aside0.mk (below_step (by repeat (first | (with_reducible first | exact HB.out | apply below_alloc | apply pw_below_drewN | apply below_drew1) | exact HB.out)) hb)
                clear HO123
                clear HO126
                clear HO129
                clear HO132
                clear HO135
                clear HO139
                clear HB
                have HO123 := n0_
                have HO126 := n1_
                have HO129 := n2_
                have HO132 := n3_
                have HO135 := n4_
                have HO139 := n5_
                have HB := n6_
                clear n0_ n1_ n2_ n3_ n4_ n5_ n6_
                (try clear hb)
                (try clear hb2)
                (try clear hk)
                (try clear hi)
                have q43 : (3 : Int) ≤ ((y127.length : Int) : Int) := of_decide_eq_true (by first | (with_reducible assumption) | assumption)
                obtain ⟨i043, hi043, _, hsz43, _⟩ := info_parts info27
                have hroom43 : y127.length ≤ co34 := (Kd.R_reads' HO129.out).2.1
                have hC43 : Kd.C k27 _ Ao34 y127.length y127 := (Kd.R_reads' HO129.out).2.2
                have hcut43 := cut_to (P := Try.prog) 22 27 .i64 Try.underlying22 hi043 Ao34 y127.length co34 3 (by omega) q43 hroom43
                have hr43 := Kd.C_take (m := 3) hC43 (by omega)
                have hy43 : y180.length = (3 : Int).toNat := (by rw [Ny180.out, List.length_take]; omega)
                rw [← Ny180.out] at hr43
                rw [← hy43] at hcut43
                have HR183 := Aside0.mk hr43
                have HC183 := Aside0.mk (show y180.length ≤ co34 from by omega)
                clear hr43 hC43 hroom43 hi043 hsz43
                have KY43 := Aside0.mk hy43
                clear hy43
                have KL43 := Aside0.mk (show 3 ≤ y127.length from by omega)
                replace q43 := eq_true q43
                refine hK.out _ _ trivial (fun hHeld => ?_)
                clear hK K
                refine norm_ (a' := ?_) ?_ ?_
                rotate_left
                · show Act.put _ (some 55) _ = _
                  simp only [Act.put, List.setIfInBounds_toArray, List.set_cons_zero, List.set_cons_succ, i64_w, i32_w]
                  rfl
                refine one_ (i := 40) (N := some 59) #[true, true, true, true, true, true, true, true, true, true, true, true, true, true, true, true, true, true, true, true, true, true, true, true, true, true, true, true, true, true, true, true, true, true, true, true, true, true, true, true, true, false, false, false] rfl rfl (one_of HT_.out (by kernel_rfl)) (by decide) (fun K hK => ?_)
                refine goes_ Try.func14 (by kernel_rfl) rfl #[.agg #[.int .i64 t168, .int .i64 t169, .int .i64 t170, .int .i64 t171, .int .i64 t172, .int .i64 t173, .int .i64 t174, .int .i64 t175, .int .i64 t176, .int .i64 t177, .int .i64 t178, .int .i64 t179], .slice Ao38 y130.length co38, .slice Ao34 y180.length co34] (by rfl) rfl rfl (by (try simp only [List.map_toArray, List.map_cons, List.map_nil]); first | done | rfl | (simp only [List.length_drop, List.length_take]; rfl)) ?_
                with_reducible refine (score_Better.calls t168 t169 t170 t171 t172 t173 t174 t175 t176 t177 t178 t179 _ _ y130 _ _ y180 t184 _ ?side1 ?side2 ?side3 ?side4 A18.out).mono ?_
                (case side1 => repeat (first | exact (Kd.R_reads' HO132.out).2.2 | (with_reducible refine Kd.C_alloc ?_ _) | (with_reducible refine Kd.C_drewN ?_ _) | (with_reducible refine Kd.C_drew ?_)))
                (case side2 => exact (Kd.R_reads' HO132.out).2.1)
                (case side3 => repeat (first | exact (by repeat (first | (with_reducible exact HR183.out) | (with_reducible refine Kd.C_alloc ?_ _) | (with_reducible refine Kd.C_drewN ?_ _) | (with_reducible refine Kd.C_drew ?_) | exact HR183.out)) | (with_reducible refine Kd.C_alloc ?_ _) | (with_reducible refine Kd.C_drewN ?_ _) | (with_reducible refine Kd.C_drew ?_)))
                (case side4 => exact HC183.out)
                rintro e w44 ⟨rfl, hb⟩
                refine ⟨_, rfl, ?_⟩
                have n0_ := Aside0.mk (Kd.R_below (by (with_reducible repeat (first | apply Kd.R_alloc | apply Kd.R_drewN | apply Kd.R_drew)); exact HO123.out) hb)
                have n1_ := Aside0.mk (Kd.Q_below (by (with_reducible repeat (first | apply Kd.Q_alloc | apply Kd.Q_drewN | apply Kd.Q_drew)); exact HO126.out) hb)
                have n2_ := Aside0.mk (Kd.R_below (by (with_reducible repeat (first | apply Kd.R_alloc | apply Kd.R_drewN | apply Kd.R_drew)); exact HO129.out) hb)
                have n3_ := Aside0.mk (Kd.R_below (by (with_reducible repeat (first | apply Kd.R_alloc | apply Kd.R_drewN | apply Kd.R_drew)); exact HO132.out) hb)
                have n4_ := Aside0.mk (Kd.R_below (by (with_reducible repeat (first | apply Kd.R_alloc | apply Kd.R_drewN | apply Kd.R_drew)); exact HO135.out) hb)
                have n5_ := Aside0.mk (Kd.Q_below (by (with_reducible repeat (first | apply Kd.Q_alloc | apply Kd.Q_drewN | apply Kd.Q_drew)); exact HO139.out) hb)
                have n6_ := Aside0.mk (Kd.C_below (by repeat (first | (with_reducible exact HR183.out) | (with_reducible refine Kd.C_alloc ?_ _) | (with_reducible refine Kd.C_drewN ?_ _) | (with_reducible refine Kd.C_drew ?_) | exact HR183.out)) hb)
                have n7_ := Aside0.mk (below_step (by repeat (first | (with_reducible first | exact HB.out | apply below_alloc | apply pw_below_drewN | apply below_drew1) | exact HB.out)) hb)
                clear HO123
                clear HO126
                clear HO129
                clear HO132
                clear HO135
                clear HO139
                clear HR183
                clear HB
                have HO123 := n0_
                have HO126 := n1_
                have HO129 := n2_
                have HO132 := n3_
                have HO135 := n4_
                have HO139 := n5_
                have HR183 := n6_
                have HB := n7_
                clear n0_ n1_ n2_ n3_ n4_ n5_ n6_ n7_
                (try clear hb)
                (try clear hb2)
                (try clear hk)
                (try clear hi)
                refine hK.out _ _ trivial (fun hHeld => ?_)
                clear hK K
                refine norm_ (a' := ?_) ?_ ?_
                rotate_left
                · show Act.put _ (some 59) _ = _
                  simp only [Act.put, List.setIfInBounds_toArray, List.set_cons_zero, List.set_cons_succ, i64_w, i32_w]
                  rfl
                refine pure_ (i := 41) (N := some 60) (v := ?_) (a' := ?_) #[true, true, true, true, true, true, true, true, true, true, true, true, true, true, true, true, true, true, true, true, true, true, true, true, true, true, true, true, true, true, true, true, true, true, true, true, true, true, true, true, true, true, false, false] rfl rfl (any_of HT_.out (by kernel_rfl)) (fun _ _ _ h => h) (Or.inl ⟨by rfl, ?_⟩) ?_ ?_
                rotate_left
                · intro w'
                  go_simp
                  with_reducible rfl
                rotate_left
                · simp only [Act.put, List.setIfInBounds_toArray, List.set_cons_zero, List.set_cons_succ, i64_w, i32_w]
                  rfl
                refine pure_ (i := 42) (N := some 61) (v := ?_) (a' := ?_) #[true, true, true, true, true, true, true, true, true, true, true, true, true, true, true, true, true, true, true, true, true, true, true, true, true, true, true, true, true, true, true, true, true, true, true, true, true, true, true, true, true, true, true, false] rfl rfl (any_of HT_.out (by kernel_rfl)) (fun _ _ _ h => h) (Or.inl ⟨by rfl, ?_⟩) ?_ ?_
                rotate_left
                · intro w'
                  go_simp
                  with_reducible rfl
                rotate_left
                · simp only [Act.put, List.setIfInBounds_toArray, List.set_cons_zero, List.set_cons_succ, i64_w, i32_w]
                  rfl
                refine pure_ (i := 43) (N := some 0) (v := ?_) (a' := ?_) #[true, true, true, true, true, true, true, true, true, true, true, true, true, true, true, true, true, true, true, true, true, true, true, true, true, true, true, true, true, true, true, true, true, true, true, true, true, true, true, true, true, true, true, true] rfl rfl (any_of HT_.out (by kernel_rfl)) (fun _ _ _ h => h) (Or.inl ⟨by rfl, ?_⟩) ?_ ?_
                rotate_left
                · intro w'
                  go_simp
                  with_reducible rfl
                rotate_left
                · simp only [Act.put, List.setIfInBounds_toArray, List.set_cons_zero, List.set_cons_succ, i64_w, i32_w]
                  rfl
                refine done_ (done_of HT_.out (by kernel_rfl)) ?_
                try go_wp2
                go_ret
                exact ⟨by first | rfl | (simp [errW_none, errW_some] <;> rfl) | (simp [*, errW_none, errW_some] <;> rfl), by repeat (first | (with_reducible first | exact HB.out | apply below_alloc | apply pw_below_drewN | apply below_drew1) | exact HB.out)⟩
              · rw [if_neg c17] at H
                exact absurd H (by simp)
          · replace c12 := Bool.eq_false_iff.mpr c12
            subst c12
            have H1 : (some false) = some r := by rw [if_neg (show ¬ (false = true) by decide)] at H; exact H
            clear H
            have H := H1
            clear H1
            rw [hr_] at H
            cases H
        · rw [if_neg c9] at H
          have c9b0 : (t141 == 1) = false := beq_eq_false_iff_ne.mpr c9
          have c9b1 : (t141 != 1) = true := bne_iff_ne.mpr c9
          rw [hr_] at H
          cases H
      · rw [if_neg c7] at H
        have c7b0 : (t140 == 12) = false := beq_eq_false_iff_ne.mpr c7
        have c7b1 : (t140 != 12) = true := bne_iff_ne.mpr c7
        rw [hr_] at H
        cases H
    · rw [if_neg c5] at H
      have c5b0 : ((t137.length : Int) == 0) = false := beq_eq_false_iff_ne.mpr c5
      have c5b1 : ((t137.length : Int) != 0) = true := bne_iff_ne.mpr c5
      have c5b2 : ¬ (t137 = []) := fun h_ => c5 (by rw [h_]; rfl)
      rw [hr_] at H
      cases H
  · replace c3 := Bool.eq_false_iff.mpr c3
    subst c3
    have H1 : (some false) = some r := by rw [if_neg (show ¬ (false = true) by decide)] at H; exact H
    clear H
    have H := H1
    clear H1
    rw [hr_] at H
    cases H
theorem governorlaw17_head.value (k : Nat) (r : Bool) (h : governorlaw17_head.f k = some r) : r = true := by
  have h1 := at_rounds (governorlaw17_head.mono) (Nat.le_max_left k 100) h
  have h2 := at_rounds (governorlaw17_head.mono) (Nat.le_max_right k 100) (show governorlaw17_head.f 100 = some true by decide +kernel)
  exact Option.some.inj (h1.symm.trans h2)
theorem governorlaw17_head.calls (k : Nat) (r : Bool) (w : World) (h : governorlaw17_head.f k  = some r) :
    Calls Try.prog 7 #[] w fun e w' => e = .returned (.bool r) ∧ Below w.heap.size w w' := governorlaw17_head.calls_t k r w h (governorlaw17_head.value k r h)

end Go.Proofs.Ytjekpfaldbeocaa.Print
