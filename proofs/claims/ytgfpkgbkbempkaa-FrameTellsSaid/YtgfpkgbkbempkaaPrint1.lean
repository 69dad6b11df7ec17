/- Functions of the program as Lean functions, and that its calls come to them; written by a program of this claim over the kit print; Lean checks it. -/
import Derived.Test.YtgfpkgbkbempkaaPrint0
namespace Go.Proofs.Ytgfpkgbkbempkaa.Print
open Go.RowKit Go.Proofs.YtgfpkgbkbempkaaW.PrintWords Go.Proofs.YtgfpkgbkbempkaaW.PrintLast Go.Proofs.YtgfpkgbkbempkaaW.PrintMore
attribute [local go_sem] max2_int min2_int max_two min_two max_three min_three max_four min_four   -- for this text's walks alone
set_option linter.unusedVariables false
set_option linter.unusedSimpArgs false

/-! ### frame_Right: function 14 -/
def frame_Right.f (a0_0 : Int) (a0_1 : Int) (l0_2 : List Int) : Option (Bool) := some (W.rightB a0_0 a0_1 l0_2.length)
theorem frame_Right.calls (a0_0 : Int) (a0_1 : Int) (A0_2 : Option Addr) (c0_2 : Nat) (l0_2 : List Int) (r : Bool) (w : World) (hr0_2 : Kd.C (Kd.int .u8) w A0_2 l0_2.length l0_2) (hc0_2 : l0_2.length ≤ c0_2) (h : frame_Right.f a0_0 a0_1 l0_2 = some r) :
    Calls Try.prog 14 #[.agg #[.int .i64 a0_0, .int .i64 a0_1, .slice A0_2 l0_2.length c0_2]] w fun e w' => e = .returned (.bool r) ∧ Below w.heap.size w w' := by
  obtain rfl := Option.some.inj h
  exact W.right_calls a0_0 a0_1 A0_2 l0_2.length c0_2 w


/-! ### frame_read: function 19 -/
def frame_read.f (l0 : List Int) : Option Int := if l0.length ≤ 4 ∧ (l0.all fun x => decide (0 ≤ x ∧ x ≤ 255)) = true then some (W.beN l0) else none
theorem frame_read.calls (A0 : Option Addr) (c0 : Nat) (l0 : List Int) (r : Int) (w : World) (hr0 : Kd.C (Kd.int .u8) w A0 l0.length l0) (hc0 : l0.length ≤ c0) (h : frame_read.f l0 = some r) :
    Calls Try.prog 19 #[.slice A0 l0.length c0] w fun e w' => e = .returned (.int .u32 r) ∧ Drawn0 w w' := by
  unfold frame_read.f at h
  split at h
  · rename_i hl
    obtain rfl := Option.some.inj h
    exact W.read_calls A0 c0 l0 w hr0 (fun x hx => of_decide_eq_true ((List.all_eq_true.1 hl.2) x hx)) hl.1
  · cases h


-- NOT PRINTED: function 31 (sum_table)

/-! ### sum_More: function 28 -/
def sum_More.f (a0 : Int) (l1 : List Int) : Option (Int) := W.sumF a0 l1
theorem sum_More.calls (a0 : Int) (A1 : Option Addr) (c1 : Nat) (l1 : List Int) (r : Int) (w : World) (hr1 : Kd.C (Kd.int .u8) w A1 l1.length l1) (hc1 : l1.length ≤ c1) (h : sum_More.f a0 l1 = some r) :
    Calls Try.prog 28 #[.int .u32 a0, .slice A1 l1.length c1] w fun e w' => e = .returned (.int .u32 r) ∧ Below w.heap.size w w' :=
  W.sumF_calls a0 A1 c1 l1 r w hr1 hc1 h


/-! ### sum_Of: function 20 -/
def sum_Of.f (l0 : List Int) : Option (Int) := (sum_More.f 0 l0).bind fun t101 => (some t101)
set_option maxHeartbeats 8000000 in
set_option maxRecDepth 100000 in
theorem sum_Of.calls (A0 : Option Addr) (c0 : Nat) (l0 : List Int) (r : Int) (w : World) (hr0 : Kd.C (Kd.int .u8) w A0 l0.length l0) (hc0 : l0.length ≤ c0) (h : sum_Of.f l0 = some r) :
    Calls Try.prog 20 #[.slice A0 l0.length c0] w fun e w' => e = .returned (.int .u32 r) ∧ Below w.heap.size w w' := by
  have HR0 := Aside0.mk hr0
  have HC0 := Aside0.mk hc0
  clear hr0 hc0
  have HB := Aside0.mk (Below.refl w.heap.size w)
  have H : ((sum_More.f 0 l0).bind fun t101 => (some t101)) = some r := h
  clear h
  replace H := Option.bind_eq_some_iff.mp H
  obtain ⟨t101, A20, H⟩ := H
  replace H : (some t101) = some r := H
  have A2 := Aside0.mk A20
  clear A20
  obtain rfl := Option.some.inj H
  go_enter Try.func20, Try.ntmps20
  go_wp2_with (first | ((with_reducible refine gate_callee (f := 28) rfl ?_); refine goesL_ (some 4) rfl rfl Try.func28 (by kernel_rfl) rfl #[.int .u32 0, .slice A0 l0.length c0] rfl (by (try simp only [List.map_toArray, List.map_cons, List.map_nil]); first | done | rfl | (simp only [List.length_drop, List.length_take]; rfl)) ?_; (with_reducible refine (sum_More.calls 0 _ _ l0 t101 _ ?side1 ?side2 A2.out).mono ?_); (case side1 => repeat (first | exact HR0.out | (with_reducible refine Kd.C_alloc ?_ _) | (with_reducible refine Kd.C_drewN ?_ _) | (with_reducible refine Kd.C_drew ?_))); (case side2 => exact HC0.out); rintro e w3 ⟨rfl, hb⟩; refine ⟨_, rfl, ?_⟩; have n0_ := Aside0.mk (below_step (by repeat (first | (with_reducible first | exact HB.out | apply below_alloc | apply pw_below_drewN | apply below_drew1) | exact HB.out)) hb); clear HB; have HB := n0_; clear n0_; (try clear hb); (try clear hb2); (try clear hk); (try clear hi)))
  go_ret
  exact ⟨by first | rfl | (simp [errW_none, errW_some] <;> rfl) | (simp [*, errW_none, errW_some] <;> rfl), by repeat (first | (with_reducible first | exact HB.out | apply below_alloc | apply pw_below_drewN | apply below_drew1) | exact HB.out)⟩

/-! ### slices_Clone_byte_byte: function 21 -/
def slices_Clone_byte_byte.f (l0 : List Int) : Option (List Int) := if l0.length ≤ 140737488351232 then some l0 else none
theorem slices_Clone_byte_byte.calls (A0 : Option Addr) (c0 : Nat) (l0 : List Int) (r : List Int) (w : World) (hr0 : Kd.C (Kd.int .u8) w A0 l0.length l0) (hc0 : l0.length ≤ c0) (h : slices_Clone_byte_byte.f l0 = some r) :
    Calls Try.prog 21 #[.slice A0 l0.length c0] w fun e w' => ∃ v0_ : Value, e = .returned v0_ ∧ Kd.R (Kd.int .u8) 5 w' w.heap.size (fun _ => True) v0_ r ∧ Below w.heap.size w w' := by
  unfold slices_Clone_byte_byte.f at h
  split at h
  · rename_i hl
    obtain rfl := Option.some.inj h
    refine (W.clone_calls A0 c0 l0 w (W.readsC hr0) hl).mono ?_
    rintro e w' ⟨v, rfl, ho, hb⟩
    exact ⟨v, rfl, W.R_nums ho, hb⟩
  · cases h


end Go.Proofs.Ytgfpkgbkbempkaa.Print
