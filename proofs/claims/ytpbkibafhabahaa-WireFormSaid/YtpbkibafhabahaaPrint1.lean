/- Functions of the program as Lean functions, and that its calls come to them; written by a program of this claim over the kit print; Lean checks it. -/
import Derived.Test.YtpbkibafhabahaaPrint0
namespace Go.Proofs.Ytpbkibafhabahaa.Print
open Go.RowKit Go.Proofs.YtpbkibafhabahaaW.PrintWords Go.Proofs.YtpbkibafhabahaaW.PrintLast Go.Proofs.YtpbkibafhabahaaW.PrintMore
attribute [local go_sem] max2_int min2_int max_two min_two max_three min_three max_four min_four   -- for this text's walks alone
set_option linter.unusedVariables false
set_option linter.unusedSimpArgs false

-- NOT PRINTED: function 26 (slices_Clone_byte_byte)

-- NOT PRINTED: function 10 (wire_NewReader)

-- NOT PRINTED: function 27 (wire_step_int64)

-- NOT PRINTED: function 28 (wire_within)

-- NOT PRINTED: function 12 (wire_Reader_Int)

-- NOT PRINTED: function 29 (wire_step_byte)

-- NOT PRINTED: function 14 (wire_Reader_Text)

-- NOT PRINTED: function 31 (wire_number)

-- NOT PRINTED: function 16 (wire_Reader_Num)

-- NOT PRINTED: function 18 (wire_Reader_End)

-- NOT PRINTED: function 20 (wire_Writer_Num)

-- NOT PRINTED: function 22 (wire_Writer_Text)

-- NOT PRINTED: function 24 (wire_Writer_Bytes)

-- NOT PRINTED: function 9 (governorlaw07_head)

/-! ### governorlaw07_WireSizes: function 8 -/
/-- What the call answers wherever its arguments are what Go's can be. -/
def governorlaw07_WireSizes.f (a0 : Int) (l1 : List (Int)) : Option (Bool) := if (Lit.int .i64 a0).wf = true then some true else none
theorem governorlaw07_WireSizes.calls (a0 : Int) (A1 : Option Addr) (c1 : Nat) (l1 : List (Int)) (r : Bool) (w : World) (hr1 : Kd.C (Kd.int .u8) w A1 l1.length l1) (hc1 : l1.length ≤ c1) (h : governorlaw07_WireSizes.f a0 l1 = some r) :
    Calls Try.prog 8 #[.int .i64 a0, .slice A1 l1.length c1] w fun e w' => e = .returned (.bool r) ∧ Below w.heap.size w w' := by
  unfold governorlaw07_WireSizes.f at h
  split at h
  · rename_i hw
    obtain rfl : true = r := by injection h
    have hb := Wire.wf_i64 hw
    exact Wire.sizes_calls a0 A1 c1 l1 w hb.1 hb.2 (Wire.reads_of_C hr1)
  · cases h


/-! ### governorlaw07_WireWrong: function 7 -/
/-- What the call answers wherever its arguments are what Go's can be. -/
def governorlaw07_WireWrong.f (a0 a1 a2 : Int) (l3 : List (Int)) : Option (Bool) := if ((Lit.int .i64 a0).wf && l3.all (fun x => (Lit.int .u8 x).wf)) = true then some true else none
theorem governorlaw07_WireWrong.calls (a0 a1 a2 : Int) (A3 : Option Addr) (c3 : Nat) (l3 : List (Int)) (r : Bool) (w : World) (hr3 : Kd.C (Kd.int .u8) w A3 l3.length l3) (hc3 : l3.length ≤ c3) (h : governorlaw07_WireWrong.f a0 a1 a2 l3 = some r) :
    Calls Try.prog 7 #[.int .i64 a0, .int .i64 a1, .int .i64 a2, .slice A3 l3.length c3] w fun e w' => e = .returned (.bool r) ∧ Below w.heap.size w w' := by
  unfold governorlaw07_WireWrong.f at h
  split at h
  · rename_i hw
    obtain rfl : true = r := by injection h
    rw [Bool.and_eq_true, List.all_eq_true] at hw
    have hb := Wire.wf_i64 hw.1
    exact Wire.wrong_calls a0 a1 a2 A3 c3 l3 w hb.1 hb.2 (Wire.reads_of_C hr3) (fun x hx => Wire.wf_u8 (hw.2 x hx))
  · cases h


/-! ### governorlaw07_WireForm: function 6 -/
/-- What the call answers wherever its arguments are what Go's can be. -/
def governorlaw07_WireForm.f (l0 : List (Int)) : Option (Bool) := if l0.all (fun x => (Lit.int .u8 x).wf) = true then some true else none
theorem governorlaw07_WireForm.calls (A0 : Option Addr) (c0 : Nat) (l0 : List (Int)) (r : Bool) (w : World) (hr0 : Kd.C (Kd.int .u8) w A0 l0.length l0) (hc0 : l0.length ≤ c0) (h : governorlaw07_WireForm.f l0 = some r) :
    Calls Try.prog 6 #[.slice A0 l0.length c0] w fun e w' => e = .returned (.bool r) ∧ Below w.heap.size w w' := by
  unfold governorlaw07_WireForm.f at h
  split at h
  · rename_i hw
    obtain rfl : true = r := by injection h
    rw [List.all_eq_true] at hw
    exact Wire.form_calls A0 c0 l0 w (Wire.reads_of_C hr0) (fun x hx => Wire.wf_u8 (hw x hx))
  · cases h


/-! ### governorlaw07_WireBack: function 5 -/
/-- What the call answers wherever its arguments are what Go's can be. -/
def governorlaw07_WireBack.f (l0 l1 : List (Int)) (a2 : Int) : Option (Bool) := if (l0.all (fun x => (Lit.int .i64 x).wf) && (l1.all (fun x => (Lit.int .u8 x).wf) && (Lit.int .u16 a2).wf)) = true then some true else none
theorem governorlaw07_WireBack.calls (A0 : Option Addr) (c0 : Nat) (l0 : List (Int)) (A1 : Option Addr) (c1 : Nat) (l1 : List (Int)) (a2 : Int) (r : Bool) (w : World) (hr0 : Kd.C (Kd.int .i64) w A0 l0.length l0) (hc0 : l0.length ≤ c0) (hr1 : Kd.C (Kd.int .u8) w A1 l1.length l1) (hc1 : l1.length ≤ c1) (h : governorlaw07_WireBack.f l0 l1 a2 = some r) :
    Calls Try.prog 5 #[.slice A0 l0.length c0, .slice A1 l1.length c1, .int .u16 a2] w fun e w' => e = .returned (.bool r) ∧ Below w.heap.size w w' := by
  unfold governorlaw07_WireBack.f at h
  split at h
  · rename_i hw
    obtain rfl : true = r := by injection h
    rw [Bool.and_eq_true, Bool.and_eq_true, List.all_eq_true, List.all_eq_true] at hw
    have h2 := Wire.wf_u16 hw.2.2
    exact Wire.back_calls A0 c0 l0 A1 c1 l1 a2 w (Wire.readsI_of_C hr0) (fun x hx => Wire.wf_i64 (hw.1 x hx)) (Wire.reads_of_C hr1) (fun x hx => Wire.wf_u8 (hw.2.1 x hx)) h2.1 h2.2
  · cases h


-- NOT PRINTED: function 21 (governorref07_Writer_Num)

-- NOT PRINTED: function 23 (governorref07_Writer_Text)

-- NOT PRINTED: function 25 (governorref07_Writer_Bytes)

/-! ### governorlaw07_WireWrites: function 4 -/
/-- What the call answers wherever its arguments are what Go's can be. -/
def governorlaw07_WireWrites.f (l0 : List (Int)) (l1 : List (List (Int))) : Option (Bool) := if l0.all (fun x => (Lit.int .i64 x).wf) = true then some true else none
theorem governorlaw07_WireWrites.calls (A0 : Option Addr) (c0 : Nat) (l0 : List (Int)) (A1 : Option Addr) (c1 : Nat) (l1 : List (List Int)) (r : Bool) (w : World) (hr0 : Kd.C (Kd.int .i64) w A0 l0.length l0) (hc0 : l0.length ≤ c0) (hr1 : Kd.C (Kd.slice 5 (Kd.int .u8)) w A1 l1.length l1) (hc1 : l1.length ≤ c1) (h : governorlaw07_WireWrites.f l0 l1 = some r) :
    Calls Try.prog 4 #[.slice A0 l0.length c0, .slice A1 l1.length c1] w fun e w' => e = .returned (.bool r) ∧ Below w.heap.size w w' := by
  unfold governorlaw07_WireWrites.f at h
  split at h
  · rename_i hw
    obtain rfl : true = r := by injection h
    rw [List.all_eq_true] at hw
    exact Wire.writes_calls A0 c0 l0 A1 c1 l1 w (Wire.readsI_of_C hr0) (fun x hx => Wire.wf_i64 (hw x hx)) hr1
  · cases h


-- NOT PRINTED: function 11 (governorref07_NewReader)

-- NOT PRINTED: function 17 (governorref07_Reader_Num)

-- NOT PRINTED: function 13 (governorref07_Reader_Int)

-- NOT PRINTED: function 15 (governorref07_Reader_Text)

-- NOT PRINTED: function 19 (governorref07_Reader_End)

/-! ### governorlaw07_WireReads: function 3 -/
/-- What the call answers wherever its arguments are what Go's can be. -/
def governorlaw07_WireReads.f (l0 : List (Int)) (l1 : List (S30)) : Option (Bool) := if (l0.all (fun x => (Lit.int .u8 x).wf) && l1.all (fun q => (Lit.int .i64 q.f2).wf)) = true then some true else none
theorem governorlaw07_WireReads.calls (A0 : Option Addr) (c0 : Nat) (l0 : List (Int)) (A1 : Option Addr) (c1 : Nat) (l1 : List (S30)) (r : Bool) (w : World) (hr0 : Kd.C (Kd.int .u8) w A0 l0.length l0) (hc0 : l0.length ≤ c0) (hr1 : Kd.C (k30) w A1 l1.length l1) (hc1 : l1.length ≤ c1) (h : governorlaw07_WireReads.f l0 l1 = some r) :
    Calls Try.prog 3 #[.slice A0 l0.length c0, .slice A1 l1.length c1] w fun e w' => e = .returned (.bool r) ∧ Below w.heap.size w w' := by
  unfold governorlaw07_WireReads.f at h
  split at h
  · rename_i hw
    obtain rfl : true = r := by injection h
    rw [Bool.and_eq_true, List.all_eq_true, List.all_eq_true] at hw
    have hask : Wire.ReadsAsk w A1 (l1.map fun q => (q.f0, q.f1, q.f2)) := by
      refine ⟨by rw [List.length_map]; exact hr1.2.1, fun hp => ?_⟩
      rw [List.length_map] at hp
      obtain ⟨ad, e, hcs⟩ := hr1.2.2 hp
      refine ⟨ad, e, fun j hj => ?_⟩
      rw [List.length_map] at hj
      obtain ⟨cs, _, hK, hcell⟩ := hcs j l1[j] (List.getElem?_eq_getElem hj)
      have hcs' := k30_open hK
      subst hcs'
      have e3 : k30.sz = 3 := rfl
      rw [e3] at hcell
      refine ⟨?_, ?_, ?_⟩
      · have := hcell 0 _ rfl
        rw [Nat.add_zero] at this
        simpa using this
      · simpa using hcell 1 _ rfl
      · simpa using hcell 2 _ rfl
    have h := Wire.reads_calls A0 c0 l0 A1 c1 (l1.map fun q => (q.f0, q.f1, q.f2)) w (Wire.reads_of_C hr0) (fun x hx => Wire.wf_u8 (hw.1 x hx)) hask (fun q hq => by
      obtain ⟨p, hp, rfl⟩ := List.mem_map.1 hq
      exact Wire.wf_i64 (hw.2 p hp))
    rw [List.length_map] at h
    exact h
  · cases h


end Go.Proofs.Ytpbkibafhabahaa.Print
