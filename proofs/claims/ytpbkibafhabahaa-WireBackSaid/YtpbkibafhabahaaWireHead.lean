/- The statements' fixed question: it answers true. -/
import Derived.Test.YtpbkibafhabahaaWireH
import Derived.Lib.SlBytesConst
namespace Go.Proofs.Ytpbkibafhabahaa.Wire
open Go.RowKit Go.Proofs.YtpbkibafhabahaaW.PrintWords Go.Proofs.Ytpbkibafhabahaa.Obj
set_option linter.unusedVariables false

theorem hd_v1 : vb (zig (-1)) = [1] := by decide
theorem hd_v2 : vb (zig 300) = [216, 4] := by decide
theorem hd_v3 : vb (zig 2) = [4] := by decide
theorem hd_v4 : vb (zig (-9223372036854775808)) = [255, 255, 255, 255, 255, 255, 255, 255, 255, 1] := by decide
def hdB : List Int := [1, 216, 4, 4, 97, 98, 255, 255, 255, 255, 255, 255, 255, 255, 255, 1]
theorem hd_r1 : rNum hdB 0 = (-1, hdB.drop 1, 0) := by decide
theorem hd_r2 : rInt 300 300 (hdB.drop 1) 0 = (300, hdB.drop 3, 0) := by decide
theorem hd_r3 : rText 2 (hdB.drop 3) 0 = ([97, 98], hdB.drop 6, 0) := by decide
theorem hd_r4 : rNum (hdB.drop 6) 0 = (-9223372036854775808, [], 0) := by decide
theorem hd_r5 : rNum [] 0 = (0, [], 13) := by decide
theorem hd_r6 : rNum [128, 0] 0 = (0, [128, 0], 12) := by decide
theorem hd_by (n : Nat) : ∀ x ∈ hdB.drop n, 0 ≤ x ∧ x < 256 := fun x hx => by
  have h : ∀ x ∈ hdB, 0 ≤ x ∧ x < 256 := by decide
  exact h x (List.mem_of_mem_drop hx)
set_option maxRecDepth 100000 in
set_option maxHeartbeats 4000000 in
theorem head_calls (w : World) : Calls Try.prog 9 #[] w fun e w' => e = .returned (.bool true) ∧ Below w.heap.size w w' := by
  have hu22 := Try.underlying22
  have hu41 := Try.underlying41
  have H0 := Aside0.mk (show St w [wrA 41 w.heap.size []] (w.alloc (.cells #[.slice none 0 0] 41)) from (St.start w).push (below_alloc (Below.refl _ _) _) (newW w _))
  have kc := fun (w : World) (C : Array Value) (n c : Nat) => Lib.run_convert_bytes_const (P := Try.prog) w 22 5 C n c hu22 Try.underlying5
  go_enter Try.func9, Try.ntmps9
  go_wp2_with fail
  refine (H0.out.wnum 0 _ [] (-1) rfl (by omega) (by omega) (by simp)).mono ?_
  rintro e w1 ⟨rfl, h⟩
  rw [hd_v1] at h
  have H1 := Aside0.mk h
  clear h H0
  go_wp2_with fail
  refine (H1.out.wnum 0 _ _ 300 rfl (by omega) (by omega) (by simp)).mono ?_
  rintro e w2 ⟨rfl, h⟩
  rw [hd_v2] at h
  have H2 := Aside0.mk h
  clear h H1
  go_wp2_with fail
  have H3 := Aside0.mk (H2.out.push (below_alloc (Below.refl _ _) _) (newC w2 [97, 98] (2, 3) (by simp)))
  clear H2
  refine (H3.out.wtextO 0 1 _ (by decide) _ _ 2 [97, 98] rfl rfl (by simp)).mono ?_
  rintro e w3 ⟨rfl, h⟩
  have e3 : vb (zig ([97, 98] : List Int).length) = [4] := hd_v3
  rw [e3] at h
  have H4 := Aside0.mk h
  clear h H3 e3
  go_wp2_with fail
  refine (H4.out.wnum 0 _ _ (-9223372036854775808) rfl (by omega) (by omega) (by simp)).mono ?_
  rintro e w4 ⟨rfl, h⟩
  rw [hd_v4] at h
  have H5 := Aside0.mk h
  clear h H4
  go_wp2_with fail
  refine (H5.out.wbytes 0 _ hdB rfl (by decide)).mono ?_
  rintro e w5 ⟨v, rfl, h⟩
  obtain ⟨A, c, rfl, hc, hr, _⟩ := h.bytes 2 rfl
  have H6 := Aside0.mk h
  have HR := Aside0.mk hr
  clear h hr H5
  go_wp2_with fail
  refine (H6.out.newR A c hdB HR.out (by decide)).mono ?_
  rintro e w6 ⟨g, rfl, h⟩
  have H7 := Aside0.mk h
  clear h H6
  go_wp2_with fail
  refine (H7.out.rnum 3 g hdB 0 rfl (hd_by 0)).mono ?_
  rintro e w7 ⟨rfl, h⟩
  rw [hd_r1] at h ⊢
  have H8 := Aside0.mk h
  clear h H7
  go_wp2_with fail
  refine (H8.out.rint 3 g 300 300 _ 0 rfl (hd_by 1)).mono ?_
  rintro e w8 ⟨rfl, h⟩
  rw [hd_r2] at h ⊢
  have H9 := Aside0.mk h
  clear h H8
  go_wp2_with fail
  refine (H9.out.rtext 3 g 2 _ 0 rfl (by decide) (hd_by 3) (by omega) (by omega)).mono ?_
  rintro e w9 ⟨v2, rfl, h⟩
  rw [hd_r3] at h
  obtain ⟨A2, c2, rfl, hc2, _, _⟩ := h.bytes 4 rfl
  have H10 := Aside0.mk h
  clear h H9
  go_wp2_with fail
  refine (H10.out.rnum 3 g _ 0 rfl (hd_by 6)).mono ?_
  rintro e w10 ⟨rfl, h⟩
  rw [hd_r4] at h ⊢
  have H11 := Aside0.mk h
  clear h H10
  go_wp2_with fail
  refine (H11.out.rend 3 g _ 0 rfl).mono ?_
  rintro e w11 ⟨rfl, rfl⟩
  rw [show rEnd [] 0 = 0 by decide]
  go_wp2_with fail
  refine (H11.out.rnum 3 g _ 0 rfl (by simp)).mono ?_
  rintro e w12 ⟨rfl, h⟩
  rw [hd_r5] at h ⊢
  have H12 := Aside0.mk h
  clear h H11
  go_wp2_with fail
  have H13 := Aside0.mk (H12.out.push (below_alloc (Below.refl _ _) _) (newB w12 [128, 0] (by simp)))
  obtain ⟨A3, c3, e3, _, hr3, _⟩ := H13.out.bytes 5 rfl
  injection e3 with e3 _ _
  subst e3
  have HR3 := Aside0.mk hr3
  clear hr3 H12
  refine (H13.out.newR (some ⟨w12.heap.size, 0, none⟩) 2 [128, 0] HR3.out (by decide)).mono ?_
  rintro e w13 ⟨g2, rfl, h⟩
  have H14 := Aside0.mk h
  clear h H13
  go_wp2_with fail
  refine (H14.out.rnum 6 g2 _ 0 rfl (by decide)).mono ?_
  rintro e w14 ⟨rfl, h⟩
  rw [hd_r6] at h ⊢
  have H15 := Aside0.mk h
  clear h H14
  obtain ⟨A4, c4, e4, _, hr4, _⟩ := H15.out.bytes 2 rfl
  injection e4 with e4 _ e4'
  subst e4
  subst e4'
  obtain ⟨A5, c5, e5, _, hr5, _⟩ := H15.out.bytes 4 rfl
  injection e5 with e5 _ e5'
  subst e5
  subst e5'
  have k1 := string_of_reads (P := Try.prog) (c := c) Try.underlying22 Try.underlying5 Try.underlying9 (hr4.take_ 6 (by decide))
  have k2 : (convert 22 9 (.slice A2 2 c2)).run Try.prog w14 = .ok (.string (strOfNums [97, 98])) w14 := string_of_reads (P := Try.prog) (c := c2) Try.underlying22 Try.underlying5 Try.underlying9 hr5
  rw [show strOfNums (hdB.take 6) = ⟨#[1, 216, 4, 4, 97, 98]⟩ by decide] at k1
  rw [show strOfNums [97, 98] = ⟨#[97, 98]⟩ by decide] at k2
  clear hr4 hr5
  have hlen : hdB.length = 16 := rfl
  go_wp2_with fail
  refine (H15.out.rend 3 g _ 13 rfl).mono ?_
  rintro e w15 ⟨rfl, rfl⟩
  rw [show rEnd [] 13 = 13 by decide]
  go_wp2_with fail
  refine (H15.out.rend 6 g2 _ 12 rfl).mono ?_
  rintro e w16 ⟨rfl, rfl⟩
  rw [show rEnd [128, 0] 12 = 12 by decide]
  go_wp2_with fail
  go_ret
  exact ⟨rfl, H15.out.2⟩
end Go.Proofs.Ytpbkibafhabahaa.Wire
