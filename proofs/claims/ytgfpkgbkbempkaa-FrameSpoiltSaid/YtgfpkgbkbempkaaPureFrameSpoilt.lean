/- The law FrameSpoilt, in plain Lean: a right frame's bytes with one turned behind its size are told as of a wrong sum. -/
import Derived.Test.YtgfpkgbkbempkaaStFrameSpoilt
import Derived.Test.YtgfpkgbkbempkaaPlainC
import Derived.Laws.BitsAllLaws
namespace Go.Proofs.Ytgfpkgbkbempkaa.Pure
open Go.RowKit Go.Proofs.Ytgfpkgbkbempkaa.Print Go.Proofs.YtgfpkgbkbempkaaW.PrintWords Go.Proofs.YtgfpkgbkbempkaaW.PrintLast Go.Proofs.Ytgfpkgbkbempkaa.Plain Go.Proofs.Ytgfpkgbkbempkaa.W
set_option linter.unusedVariables false
set_option linter.unusedSimpArgs false

theorem xor_byte {a b : Int} (ha : 0 ≤ a ∧ a ≤ 255) (hb : 0 ≤ b ∧ b ≤ 255) (h0 : b ≠ 0) : (0 ≤ bits .xor .u8 a b ∧ bits .xor .u8 a b ≤ 255) ∧ bits .xor .u8 a b ≠ a := by
  obtain ⟨m, rfl⟩ := Int.eq_ofNat_of_zero_le ha.1
  obtain ⟨n, rfl⟩ := Int.eq_ofNat_of_zero_le hb.1
  rw [u8_xor_nat m n (by omega) (by omega)]
  have hlt : m ^^^ n < 2 ^ 8 := Nat.xor_lt_two_pow (by omega) (by omega)
  refine ⟨by omega, fun h => h0 ?_⟩
  have h1 : m ^^^ n = m := by omega
  have h2 : m ^^^ (m ^^^ n) = m ^^^ m := by rw [h1]
  rw [← Nat.xor_assoc, Nat.xor_self, Nat.zero_xor] at h2
  omega
theorem bytes_of {l : List Int} (h : ∀ a ∈ l, (Lit.int .u8 a).wf = true) : InByte l := fun x hx => by
  have := h x hx
  simpa [Lit.wf, IntKind.min, IntKind.max, IntKind.bits, IntKind.signed] using this
theorem FrameSpoilt : governorlaw03_FrameSpoilt.Pure := by
  intro x0 a1 a2 h0 h1 h2
  have hb : InByte x0.f2 := bytes_of h0.2.2.2
  have w1 : 0 ≤ a1 ∧ a1 ≤ 65535 := by simpa [Lit.wf, IntKind.min, IntKind.max, IntKind.bits, IntKind.signed] using h1
  have w2 : 0 ≤ a2 ∧ a2 ≤ 255 := by simpa [Lit.wf, IntKind.min, IntKind.max, IntKind.bits, IntKind.signed] using h2
  refine ⟨0 + 1, ?_⟩
  unfold governorlaw03_FrameSpoilt.f
  rw [show governorlaw03_head.f = some true from rfl, Option.bind_some, put_eq hb, Option.bind_some]
  have hk : ∀ q : Bool, q = true → governorlaw03_FrameSpoilt.j0 (0 + 1) a1 a2 true (putF x0.f0 x0.f1 x0.f2) q x0.f0 x0.f1 x0.f2 = some (decide ((x0.f2.length : Int) > 9000) || (decide (a2 = 0) || !rightB x0.f0 x0.f1 x0.f2.length)) := by
    rintro q rfl
    rw [governorlaw03_FrameSpoilt.j0]
    rw [if_pos rfl, if_pos rfl]
    by_cases h9 : (x0.f2.length : Int) > 9000
    · rw [if_pos h9, decide_eq_true h9, Bool.true_or]
    · rw [if_neg h9, decide_eq_false h9, Bool.false_or]
      by_cases hz : a2 = 0
      · rw [if_pos hz, decide_eq_true hz, Bool.true_or]
      · rw [if_neg hz, decide_eq_false hz, Bool.false_or]
        rfl
  by_cases hr : rightB x0.f0 x0.f1 x0.f2.length = true
  · have hl := put_len hr
    have h5 := (right_iff.1 hr).2.2.2.2
    rw [if_neg (by omega), if_neg (by omega)]
    by_cases hz : a2 = 0
    · rw [hk _ (by rw [hz]; rfl), decide_eq_true hz, Bool.true_or, Bool.or_true]
    · have e0 : (a2 == 0) = false := beq_eq_false_iff_ne.2 hz
      rw [e0]
      rw [governorlaw03_FrameSpoilt.j0]
      have wl : wrap64 (((putF x0.f0 x0.f1 x0.f2).length : Int) - 2) = ((putF x0.f0 x0.f1 x0.f2).length : Int) - 2 := w64 (by omega) (by omega)
      have wa : wrap64 a1 = a1 := w64 (by omega) (by omega)
      rw [wl, wa]
      have t1 := Int.tmod_nonneg (a := a1) (((putF x0.f0 x0.f1 x0.f2).length : Int) - 2) w1.1
      have t2 := Int.tmod_lt_of_pos a1 (b := ((putF x0.f0 x0.f1 x0.f2).length : Int) - 2) (by omega)
      obtain ⟨j, hj⟩ := Int.eq_ofNat_of_zero_le t1
      have hj' : a1.tmod (((putF x0.f0 x0.f1 x0.f2).length : Int) - 2) = (j : Int) := hj
      rw [hj'] at t2 ⊢
      have wk : wrap64 (2 + (j : Int)) = ((j + 2 : Nat) : Int) := by rw [w64 (by omega) (by omega)]; omega
      rw [wk, if_neg (by decide), if_neg (by omega), Option.bind_some, List.nil_append, if_pos (by simp; omega), Option.bind_some, if_pos (by omega), if_pos (by omega), Int.toNat_natCast]
      have hjl : j + 2 < (putF x0.f0 x0.f1 x0.f2).length := by omega
      have hrd := rd_byte (put_in (t := x0.f0) (s := x0.f1) hb) (j + 2) hjl
      have hx := xor_byte hrd w2 hz
      have hrg : rd (putF x0.f0 x0.f1 x0.f2) ((j + 2 : Nat) : Int) = (putF x0.f0 x0.f1 x0.f2)[j + 2] := by
        unfold rd
        rw [Int.toNat_natCast, List.getD_eq_getElem?_getD, List.getElem?_eq_getElem hjl]
        rfl
      have hin : InByte ((putF x0.f0 x0.f1 x0.f2).set (j + 2) (bits .xor .u8 (rd (putF x0.f0 x0.f1 x0.f2) ((j + 2 : Nat) : Int)) a2)) := fun x hx' => by
        rcases List.mem_or_eq_of_mem_set hx' with hx' | rfl
        · exact put_in hb x hx'
        · exact hx.1
      rw [get_eq hin (by rw [List.length_set]; omega), get_spoilt hb hr (j + 2) (by omega) hjl hx.1 (by rw [← hrg]; exact hx.2), Option.bind_some, if_pos rfl, if_pos rfl, if_pos rfl]
      rfl
  · have hp : putF x0.f0 x0.f1 x0.f2 = [] := by unfold putF; rw [if_neg hr]
    have hr' : rightB x0.f0 x0.f1 x0.f2.length = false := by simpa using hr
    have hq := hk true rfl
    rw [hr', Bool.not_false, Bool.or_true, Bool.or_true] at hq
    by_cases h9 : (x0.f2.length : Int) > 9000
    · rw [if_pos h9, hq]
    · rw [if_neg h9, if_pos (by rw [hp]; simp), hq]
end Go.Proofs.Ytgfpkgbkbempkaa.Pure
