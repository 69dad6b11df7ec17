/- Behind what was wrong nothing is read: the statement's call, walked through. -/
import Derived.Test.YtpbkibafhabahaaWireHead
namespace Go.Proofs.Ytpbkibafhabahaa.Wire
open Go.RowKit Go.Proofs.YtpbkibafhabahaaW.PrintWords Go.Proofs.Ytpbkibafhabahaa.Obj
set_option linter.unusedVariables false

theorem wrong_dec (n : Int) (l : List Int) (h0 : -9223372036854775808 ≤ n) (h1 : n ≤ 9223372036854775807) : dec (vb (zig n) ++ l) = (n, ((vb (zig n)).length : Int), 0) := by
  rw [dec_vb _ _ (zig_nonneg n) (zig_lt n h0 h1), unzig_zig]
theorem wrong_in (n least most : Int) (l : List Int) (h0 : -9223372036854775808 ≤ n) (h1 : n ≤ 9223372036854775807) (h2 : least ≤ n) (h3 : n ≤ most) : rInt least most (vb (zig n) ++ l) 0 = (n, l, 0) := by
  have h : ¬ (n < least ∨ most < n) := by omega
  simp [rInt, rStep, within, wrong_dec n l h0 h1, h]
theorem wrong_out (n least most : Int) (l : List Int) (h0 : -9223372036854775808 ≤ n) (h1 : n ≤ 9223372036854775807) (h2 : n < least ∨ most < n) : rInt least most (vb (zig n) ++ l) 0 = (0, vb (zig n) ++ l, 12) := by
  simp [rInt, rStep, within, wrong_dec n l h0 h1, h2]
set_option maxRecDepth 100000 in
set_option maxHeartbeats 4000000 in
theorem wrong_calls (n least most : Int) (A : Option Addr) (c : Nat) (l : List Int) (w : World) (hn0 : -9223372036854775808 ≤ n) (hn1 : n ≤ 9223372036854775807) (hR : ReadsInt w .u8 A l.length l) (hby : ∀ x ∈ l, 0 ≤ x ∧ x < 256) :
    Calls Try.prog 7 #[.int .i64 n, .int .i64 least, .int .i64 most, .slice A l.length c] w fun e w' => e = .returned (.bool true) ∧ Below w.heap.size w w' := by
  have hu22 := Try.underlying22
  have hu41 := Try.underlying41
  have HR := Aside0.mk hR
  have hmax := hR.2.1
  clear hR
  by_cases hl : 900 < l.length
  · go_enter Try.func7, Try.ntmps7
    go_wp2_with (go_at_call 9; refine (head_calls w).mono ?_; rintro e w1 ⟨rfl, hb⟩; have HB := Aside0.mk hb; clear hb)
    go_ret
    exact ⟨rfl, HB.out⟩
  · obtain ⟨B, hB⟩ : ∃ B, vb (zig n) ++ l = B := ⟨_, rfl⟩
    have hBy : ∀ x ∈ B, 0 ≤ x ∧ x < 256 := by
      rw [← hB]
      intro x hx
      rcases List.mem_append.1 hx with h | h
      · exact vb_byte _ (zig_nonneg n) (zig_lt n hn0 hn1) x h
      · exact hby x h
    have hBl : B.length ≤ 910 := by rw [← hB, List.length_append]; have := vb_len (zig n); omega
    have ha := vb_len (zig n)
    have HIN := Aside0.mk (fun (h2 : least ≤ n) (h3 : n ≤ most) => wrong_in n least most l hn0 hn1 h2 h3)
    have HOUT := Aside0.mk (fun (h2 : n < least ∨ most < n) => wrong_out n least most l hn0 hn1 h2)
    rw [hB] at HIN HOUT
    have HBY := Aside0.mk hBy
    have HBE := Aside0.mk hB
    have HN := Aside0.mk (And.intro hn0 hn1)
    clear hBy hby hB hn0 hn1
    go_enter Try.func7, Try.ntmps7
    go_wp2_with fail
    refine (head_calls w).mono ?_
    rintro e w1 ⟨rfl, hb⟩
    have HB := Aside0.mk hb
    have HR1 := Aside0.mk (HR.out.below hb)
    clear hb HR
    go_wp2_with fail
    have H0 := Aside0.mk (show St w1 [wrA 41 w1.heap.size []] (w1.alloc (.cells #[.slice none 0 0] 41)) from (St.start w1).push (below_alloc (Below.refl _ _) _) (newW w1 _))
    refine (H0.out.wnum 0 _ [] n rfl HN.out.1 HN.out.2 (by simp)).mono ?_
    rintro e w2 ⟨rfl, h⟩
    have H1 := Aside0.mk h
    clear h H0
    go_wp2_with fail
    refine (H1.out.wbytes 0 _ (vb (zig n)) rfl (by omega)).mono ?_
    rintro e w3 ⟨v, rfl, h⟩
    have H2 := Aside0.mk h
    clear h H1
    obtain ⟨S, s1, sb, s3, s4⟩ := H2.out.at_ 1 rfl
    have HSB := Aside0.mk sb
    have HS1 := Aside0.mk s1
    have HS3 := Aside0.mk (@s3)
    have HR3 := Aside0.mk (HR1.out.below H2.out.2)
    clear s1 sb s3 s4
    go_wp2_with (at_builtin; refine print_append_row (w0 := w3) 0 rfl _ _ 22 5 .u8 1 rfl hu22 info5' (by decide) v (vb (zig n)) l A l.length c rfl rfl HSB.out.1 HR3.out (Below.refl _ _) (Nat.zero_le _) (by omega) ?_; intro v1 w4 hown _ hgrow hat; have HUP := Aside0.mk (by_put HSB.out HS1.out hgrow hown hat); clear hown hgrow hat)
    rw [HBE.out] at HUP
    have H4 := Aside0.mk (HS3.out HUP.out)
    clear HUP HS3 HS1 HSB H2
    obtain ⟨A4, c4, rfl, _, hr4, _⟩ := H4.out.bytes 1 rfl
    have HR4 := Aside0.mk hr4
    clear hr4
    refine (H4.out.newR A4 c4 B HR4.out (by omega)).mono ?_
    rintro e w5 ⟨g, rfl, h⟩
    have H5 := Aside0.mk h
    clear h H4
    go_wp2_with fail
    refine (H5.out.rint 2 g least most B 0 rfl HBY.out).mono ?_
    rintro e w6 ⟨rfl, h⟩
    by_cases hin : least ≤ n ∧ n ≤ most
    · obtain ⟨i1, i2⟩ := hin
      rw [HIN.out i1 i2] at h ⊢
      have H6 := Aside0.mk h
      have HB6 := Aside0.mk (below_then HB.out HB.out.size h.2)
      clear h H5
      by_cases hl0 : 0 < l.length
      · go_wp2_with fail
        go_ret
        exact ⟨rfl, HB6.out⟩
      · have hl1 : l = [] := List.eq_nil_of_length_eq_zero (by omega)
        have HE := Aside0.mk (show rEnd l 0 = 0 by rw [hl1]; rfl)
        clear hl1
        go_wp2_with fail
        refine (H6.out.rend 2 g l 0 rfl).mono ?_
        rintro e w7 ⟨rfl, rfl⟩
        rw [HE.out]
        go_wp2_with fail
        go_ret
        exact ⟨rfl, HB6.out⟩
    · have ho : n < least ∨ (¬ n < least ∧ most < n) := by omega
      rw [HOUT.out (by omega)] at h ⊢
      have H6 := Aside0.mk h
      clear h H5 hin
      rcases ho with o1 | ⟨o1, o2⟩
      all_goals
        go_wp2_with fail
        refine (H6.out.rnum 2 g B 12 rfl HBY.out).mono ?_
        rintro e w7 ⟨rfl, h⟩
        rw [show rNum B 12 = (0, B, 12) from if_neg (by decide)] at h ⊢
        have H7 := Aside0.mk h
        clear h H6
        go_wp2_with fail
        refine (H7.out.rtext 2 g 900 B 12 rfl (by omega) HBY.out (by omega) (by omega)).mono ?_
        rintro e w8 ⟨v8, rfl, h⟩
        rw [show rText 900 B 12 = ([], B, 12) from if_neg (by decide)] at h
        obtain ⟨A8, c8, rfl, _, _, _⟩ := h.bytes 3 rfl
        have H8 := Aside0.mk h
        have HB8 := Aside0.mk (below_then HB.out HB.out.size h.2)
        clear h H7
        go_wp2_with fail
        refine (H8.out.rend 2 g B 12 rfl).mono ?_
        rintro e w9 ⟨rfl, rfl⟩
        rw [show rEnd B 12 = 12 from if_neg (by simp)]
        go_wp2_with fail
        go_ret
        exact ⟨rfl, HB8.out⟩
end Go.Proofs.Ytpbkibafhabahaa.Wire
