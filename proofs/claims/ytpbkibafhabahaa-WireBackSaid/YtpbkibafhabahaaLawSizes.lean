/- How many bytes a number and a text have: the statement's call, walked through. -/
import Derived.Test.YtpbkibafhabahaaWireHead
namespace Go.Proofs.Ytpbkibafhabahaa.Wire
open Go.RowKit Go.Proofs.YtpbkibafhabahaaW.PrintWords Go.Proofs.Ytpbkibafhabahaa.Obj
set_option linter.unusedVariables false

def cntF : Nat → Int → Nat
  | 0, _ => 0
  | j + 1, q => if q = 0 then 0 else 1 + cntF j (q / 128)
theorem vbF_cnt (j : Nat) : ∀ c : Int, 0 ≤ c → (vbF j c).length = 1 + cntF j (c / 128) := by
  induction j with
  | zero => intro c _; rfl
  | succ j ih =>
    intro c hc
    unfold vbF cntF
    by_cases h : c < 128
    · rw [if_pos h, if_pos (by omega)]; rfl
    · rw [if_neg h, if_neg (by omega), List.length_cons, ih _ (by omega)]; omega
theorem vb_small (n : Nat) (h : n ≤ 3000) : (vb (zig n)).length = if n < 64 then 1 else 2 := by
  unfold vb
  rw [vbF_cnt 9 _ (zig_nonneg _)]
  unfold zig
  rw [if_pos (by omega)]
  by_cases h1 : n < 64
  · rw [if_pos h1, show (2 * (n : Int)) / 128 = 0 by omega]; rfl
  · rw [if_neg h1]
    unfold cntF
    rw [if_neg (by omega)]
    unfold cntF
    rw [if_pos (by omega)]
set_option maxRecDepth 100000 in
set_option maxHeartbeats 4000000 in
theorem sizes_calls (n : Int) (A : Option Addr) (c : Nat) (l : List Int) (w : World) (hn0 : -9223372036854775808 ≤ n) (hn1 : n ≤ 9223372036854775807) (hR : ReadsInt w .u8 A l.length l) :
    Calls Try.prog 8 #[.int .i64 n, .slice A l.length c] w fun e w' => e = .returned (.bool true) ∧ Below w.heap.size w w' := by
  have hu22 := Try.underlying22
  have hu41 := Try.underlying41
  have HR := Aside0.mk hR
  have hmax := hR.2.1
  clear hR
  by_cases hl : 3000 < l.length
  · go_enter Try.func8, Try.ntmps8
    go_wp2_with (go_at_call 9; refine (head_calls w).mono ?_; rintro e w1 ⟨rfl, hb⟩; have HB := Aside0.mk hb; clear hb)
    go_ret
    exact ⟨rfl, HB.out⟩
  · obtain ⟨a, ha⟩ : ∃ a, (vb (zig n)).length = a := ⟨_, rfl⟩
    have ha10 := vb_len (zig n)
    rw [ha] at ha10
    obtain ⟨ha1, ha2⟩ := ha10
    obtain ⟨s, hs⟩ : ∃ s, (vb (zig l.length)).length = s := ⟨_, rfl⟩
    have hs2 := vb_small l.length (by omega)
    rw [hs] at hs2
    have hs3 : s ≤ 2 := by rw [hs2]; split <;> omega
    have HA := Aside0.mk ha
    have HSS := Aside0.mk hs
    have HS2 := Aside0.mk hs2
    have hz0 := zig_nonneg n
    have HZL := Aside0.mk (zig_lt n hn0 hn1)
    have HC := Aside0.mk (show 1 + cntF 9 (zig n / 128) = a by rw [← vbF_cnt 9 _ hz0]; exact ha)
    have HN0 := Aside0.mk hn0
    have HN1 := Aside0.mk hn1
    clear ha hs hs2 hn0 hn1
    go_enter Try.func8, Try.ntmps8
    go_wp2_with fail
    refine (head_calls w).mono ?_
    rintro e w1 ⟨rfl, hb⟩
    have HB := Aside0.mk hb
    have HR1 := Aside0.mk (HR.out.below hb)
    clear hb HR
    go_wp2_with fail
    have H0 := Aside0.mk (show St w1 [wrA 41 w1.heap.size []] (w1.alloc (.cells #[.slice none 0 0] 41)) from (St.start w1).push (below_alloc (Below.refl _ _) _) (newW w1 _))
    refine (H0.out.wnum 0 _ [] n rfl HN0.out HN1.out (by simp)).mono ?_
    rintro e w2 ⟨rfl, h⟩
    have H1 := Aside0.mk h
    clear h H0
    go_wp2_with fail
    refine (H1.out.wbytes 0 _ (vb (zig n)) rfl (by have := HA.out; omega)).mono ?_
    rintro e w3 ⟨v, rfl, h⟩
    obtain ⟨A2, c2, rfl, hc2, _, _⟩ := h.bytes 1 rfl
    have H2 := Aside0.mk h
    rw [HA.out]
    rw [HA.out] at hc2
    clear h H1
    go_wp2_with fail
    refine (H2.out.wtext 0 _ (vb (zig n)) A c l rfl HR1.out (by have := HA.out; omega)).mono ?_
    rintro e w4 ⟨rfl, h⟩
    have H3 := Aside0.mk h
    clear h H2
    go_wp2_with fail
    obtain ⟨xs, hxs⟩ : ∃ xs, (vb (zig n) ++ vb (zig l.length)) ++ l = xs := ⟨_, rfl⟩
    have hxl : xs.length = a + s + l.length := by rw [← hxs]; simp only [List.length_append]; rw [HA.out, HSS.out]
    refine (H3.out.wbytes 0 _ xs (by rw [← hxs]; rfl) (by omega)).mono ?_
    rintro e w5 ⟨v, rfl, h⟩
    obtain ⟨A3, c3, rfl, hc3, _, _⟩ := h.bytes 2 rfl
    have HB5 := Aside0.mk (below_then HB.out HB.out.size h.2)
    have hx1 : xs.length ≤ 3100 := by omega
    have HXL := Aside0.mk hxl
    clear h H3 hxs hxl
    by_cases hneg : n < 0
    · have hm : wrap64 (-(n + 1).tdiv 64) = zig n / 128 := by
        rw [← Int.neg_tdiv, Int.tdiv_eq_ediv_of_nonneg (by omega)]
        have := HN0.out
        unfold zig wrap64
        rw [if_neg (by omega)]
        omega
      have HM := Lib.hid hm
      clear hm
      have hnn := HN0.out
      go_wp2_with fail
      rw [HM.out]
      clear hnn hneg HM HN0 HN1
      go_loopg [11, 10] 9 (fun gk sk sw wx => ∃ (q : Int) (W : Nat), sk = .int .i64 q ∧ sw = .int .i64 W ∧ 0 ≤ q ∧ 1 ≤ W ∧ W + gk ≤ 10 ∧ wx = w5 ∧ Aside0 (q ≤ 9223372036854775807) ∧ Aside0 (q < 128 ^ gk) ∧ Aside0 (W + cntF gk q = a))
      case atStart => exact ⟨_, 1, rfl, rfl, by omega, by omega, by omega, rfl, ⟨by have := HZL.out; omega⟩, ⟨by have := HZL.out; simp; omega⟩, HC⟩
      case round =>
        obtain ⟨q, W, rfl, rfl, q0, W1, W2, rfl, HQ9, HQ, HW⟩ := hrel
        by_cases hq : 0 < q
        · cases gk with
          | zero => have := HQ.out; exfalso; simp at this; omega
          | succ gk =>
            go_wp2_with fail
            go_roundg gk
            case rel =>
              have h2 := HQ.out
              rw [Int.pow_succ] at h2
              have h9 := HQ9.out
              refine ⟨q / 128, W + 1, congrArg (Value.int .i64) (by rw [Int.tdiv_eq_ediv_of_nonneg q0]; unfold wrap64; omega), by go_num, by omega, by omega, by omega, rfl, ⟨by omega⟩, ⟨by omega⟩, ⟨?_⟩⟩
              have h3 := HW.out
              unfold cntF at h3
              rw [if_neg (by omega)] at h3
              omega
            case measure => omega
        · have hWa : W = a := by
            have h3 := HW.out
            cases gk with
            | zero => simpa [cntF] using h3
            | succ gk => unfold cntF at h3; rw [if_pos (by omega)] at h3; omega
          subst hWa
          clear HW HQ HC
          have hxs := HXL.out
          by_cases h64 : 64 ≤ l.length
          · have hs1 : s = 2 := by rw [HS2.out, if_neg (by omega)]
            have hb1 : ((xs.length : Int) - W == l.length + 2) = true := by simp; omega
            clear hxs HS2 HSS hs1
            go_wp2_with fail
            go_ret
            exact ⟨rfl, HB5.out⟩
          · have hs1 : s = 1 := by rw [HS2.out, if_pos (by omega)]
            have hb1 : ((xs.length : Int) - W == l.length + 1) = true := by simp; omega
            clear hxs HS2 HSS hs1
            go_wp2_with fail
            go_ret
            exact ⟨rfl, HB5.out⟩
    · have hm : n / 64 = zig n / 128 := by
        unfold zig
        rw [if_pos (by omega)]
        omega
      have HM := Lib.hid hm
      clear hm
      have hnn := HN1.out
      go_wp2_with fail
      rw [HM.out]
      clear hnn hneg HM HN0 HN1
      go_loopg [11, 10] 9 (fun gk sk sw wx => ∃ (q : Int) (W : Nat), sk = .int .i64 q ∧ sw = .int .i64 W ∧ 0 ≤ q ∧ 1 ≤ W ∧ W + gk ≤ 10 ∧ wx = w5 ∧ Aside0 (q ≤ 9223372036854775807) ∧ Aside0 (q < 128 ^ gk) ∧ Aside0 (W + cntF gk q = a))
      case atStart => exact ⟨_, 1, rfl, rfl, by omega, by omega, by omega, rfl, ⟨by have := HZL.out; omega⟩, ⟨by have := HZL.out; simp; omega⟩, HC⟩
      case round =>
        obtain ⟨q, W, rfl, rfl, q0, W1, W2, rfl, HQ9, HQ, HW⟩ := hrel
        by_cases hq : 0 < q
        · cases gk with
          | zero => have := HQ.out; exfalso; simp at this; omega
          | succ gk =>
            go_wp2_with fail
            go_roundg gk
            case rel =>
              have h2 := HQ.out
              rw [Int.pow_succ] at h2
              have h9 := HQ9.out
              refine ⟨q / 128, W + 1, congrArg (Value.int .i64) (by rw [Int.tdiv_eq_ediv_of_nonneg q0]; unfold wrap64; omega), by go_num, by omega, by omega, by omega, rfl, ⟨by omega⟩, ⟨by omega⟩, ⟨?_⟩⟩
              have h3 := HW.out
              unfold cntF at h3
              rw [if_neg (by omega)] at h3
              omega
            case measure => omega
        · have hWa : W = a := by
            have h3 := HW.out
            cases gk with
            | zero => simpa [cntF] using h3
            | succ gk => unfold cntF at h3; rw [if_pos (by omega)] at h3; omega
          subst hWa
          clear HW HQ HC
          have hxs := HXL.out
          by_cases h64 : 64 ≤ l.length
          · have hs1 : s = 2 := by rw [HS2.out, if_neg (by omega)]
            have hb1 : ((xs.length : Int) - W == l.length + 2) = true := by simp; omega
            clear hxs HS2 HSS hs1
            go_wp2_with fail
            go_ret
            exact ⟨rfl, HB5.out⟩
          · have hs1 : s = 1 := by rw [HS2.out, if_pos (by omega)]
            have hb1 : ((xs.length : Int) - W == l.length + 1) = true := by simp; omega
            clear hxs HS2 HSS hs1
            go_wp2_with fail
            go_ret
            exact ⟨rfl, HB5.out⟩
end Go.Proofs.Ytpbkibafhabahaa.Wire
