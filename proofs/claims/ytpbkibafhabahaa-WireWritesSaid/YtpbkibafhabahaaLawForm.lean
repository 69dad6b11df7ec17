/- Bytes that are read to their end as numbers: the statement's call, walked through. -/
import Derived.Test.YtpbkibafhabahaaWireHead
import Derived.Deep.RegionWith
namespace Go.Proofs.Ytpbkibafhabahaa.Wire
open Go.RowKit Go.Proofs.YtpbkibafhabahaaW.PrintWords Go.Proofs.Ytpbkibafhabahaa.Obj
set_option linter.unusedVariables false

/-- How the reader and the writer stand behind k rounds. -/
def FormI (b : List Int) (k : Nat) (l : List Int) (e : Int) (xs : List Int) : Prop := (e = 0 ∧ xs ++ l = b ∧ k + l.length ≤ b.length) ∨ e = 12 ∨ e = 13
theorem form_step {b l xs : List Int} {k : Nat} (hb : ∀ x ∈ b, 0 ≤ x ∧ x < 256) (h1 : xs ++ l = b) (h2 : k + l.length ≤ b.length) :
    (∃ x l', rNum l 0 = (x, l', 0) ∧ -9223372036854775808 ≤ x ∧ x ≤ 9223372036854775807 ∧ xs ++ vb (zig x) ++ l' = b ∧ k + 1 + l'.length ≤ b.length) ∨ rNum l 0 = (0, l, 12) ∨ rNum l 0 = (0, l, 13) := by
  have hl : ∀ x ∈ l, 0 ≤ x ∧ x < 256 := fun x hx => hb x (by rw [← h1]; exact List.mem_append_right _ hx)
  rcases dec_cases l with ⟨x, n, h, p1, p2, p3⟩ | h | h
  · obtain ⟨q1, q2, q3, q4, q5⟩ := dec_form l x n hl h
    refine .inl ⟨x, l.drop n.toNat, by simp [rNum, rStep, h], q4, q5, ?_, ?_⟩
    · rw [← q3, show n.toNat = (vb (zig x)).length by omega, List.append_assoc, List.take_append_drop, h1]
    · rw [List.length_drop]; omega
  · exact .inr (.inl (by simp [rNum, rStep, h]))
  · exact .inr (.inr (by simp [rNum, rStep, h]))
theorem rNum_bytes {l : List Int} {e : Int} (h : ∀ x ∈ l, 0 ≤ x ∧ x < 256) : ∀ x ∈ (rNum l e).2.1, 0 ≤ x ∧ x < 256 := by
  unfold rNum rStep
  split
  · split
    · exact fun x hx => h x (List.mem_of_mem_drop hx)
    · exact h
  · exact h
set_option maxRecDepth 100000 in
set_option maxHeartbeats 8000000 in
theorem form_calls (A : Option Addr) (c : Nat) (b : List Int) (w : World) (hR : ReadsInt w .u8 A b.length b) (hby : ∀ x ∈ b, 0 ≤ x ∧ x < 256) :
    Calls Try.prog 6 #[.slice A b.length c] w fun e w' => e = .returned (.bool true) ∧ Below w.heap.size w w' := by
  have hu22 := Try.underlying22
  have hu41 := Try.underlying41
  have HR := Aside0.mk hR
  have hmax := hR.2.1
  have HBY := Aside0.mk hby
  clear hR hby
  by_cases hl : 900 < b.length
  · go_enter Try.func6, Try.ntmps6
    go_wp2_with (go_at_call 9; refine (head_calls w).mono ?_; rintro e w1 ⟨rfl, hb⟩; have HB := Aside0.mk hb; clear hb)
    go_ret
    exact ⟨rfl, HB.out⟩
  · go_enter Try.func6, Try.ntmps6
    go_wp2_with fail
    refine (head_calls w).mono ?_
    rintro e w1 ⟨rfl, hb⟩
    have HB := Aside0.mk hb
    have HR1 := Aside0.mk (HR.out.below hb)
    clear hb HR
    go_wp2_with fail
    refine ((St.start w1).newR A c b HR1.out (by omega)).mono ?_
    rintro e w2 ⟨g, rfl, h⟩
    have H2 := Aside0.mk (show St w1 [rdA g b 0, wrA 41 w2.heap.size []] (w2.alloc (.cells #[.slice none 0 0] 41)) from h.push (below_alloc (Below.refl _ _) _) (newW w2 _))
    have HB9 := Aside0.mk (fun (wx : World) (h : Below w1.heap.size w1 wx) => below_then HB.out HB.out.size h)
    clear h
    go_wp2_with fail
    obtain ⟨g2, hg2⟩ : ∃ g2, w2.heap.size = g2 := ⟨_, rfl⟩
    rw [hg2] at H2 ⊢
    clear hg2
    go_loopw [6] (fun i wr => ∃ (k : Nat) (l : List Int) (e : Int) (xs : List Int), k ≤ b.length ∧ i = .int .i64 k ∧ xs.length ≤ 10 * k ∧ Aside0 (FormI b k l e xs) ∧ Aside0 (∀ x ∈ l, 0 ≤ x ∧ x < 256) ∧ Aside0 (St w1 [rdA g l e, wrA 41 g2 xs] wr)) (fun i _ => b.length - (intOf i).toNat)
    case atStart => exact ⟨0, b, 0, [], by omega, rfl, by simp, ⟨.inl ⟨rfl, rfl, by omega⟩⟩, HBY, H2⟩
    case round =>
      clear H2
      obtain ⟨k, l, e, xs, hk, rfl, hxl, HI, HLB, HS⟩ := hrel
      by_cases hlt : k < b.length
      · rcases HI.out with ⟨rfl, hI1, hI2⟩ | rfl | rfl
        · by_cases hnil : l = []
          · rw [hnil, List.append_nil] at hI1
            rw [hnil, hI1] at HS
            rw [hI1] at hxl
            clear hnil hI1 hI2 HI HLB
            go_wp2_with fail
            refine (HS.out.rend 0 g [] 0 rfl).mono ?_
            rintro r wx ⟨rfl, rfl⟩
            rw [show rEnd [] 0 = 0 from rfl]
            go_wp2_with fail
            refine (HS.out.rend 0 g [] 0 rfl).mono ?_
            rintro r wx ⟨rfl, rfl⟩
            rw [show rEnd [] 0 = 0 from rfl]
            have HST := Aside0.mk (fun (wx : World) (A : Option Addr) (c : Nat) (hr : ReadsInt wx .u8 A b.length b) => string_of_reads (P := Try.prog) (c := c) hu22 Try.underlying5 Try.underlying9 hr)
            generalize strOfNums b = sy at HST
            go_wp2_with fail
            have k0 := HST.out _ A c (HR1.out.below HS.out.2)
            have k1 := HST.out _ A c ((HR1.out.below HS.out.2).below (below_drew (Below.refl _ _)))
            go_region_with ((go_at_call 24; refine ((HS.out.below (below_drew (Below.refl _ _))).wbytes 1 _ b rfl (by omega)).mono ?_; rintro e w2 ⟨v, rfl, h⟩; obtain ⟨A5, c5, rfl, _, hr5, _⟩ := h.bytes 2 rfl; have HV := Aside0.mk h; have k5 := HST.out _ A5 c5 hr5; have k6 := HST.out _ A c (HR1.out.below h.2); clear h hr5))
            all_goals go_wp2_with fail
            all_goals go_ret
            all_goals exact ⟨by first | rfl | simp, HB9.out _ HV.out.2⟩
          · have hne := hnil
            have HNE := Aside0.mk hnil
            have hI1' := Aside0.mk hI1
            clear hnil hI1 HI
            have hI1 := hI1'
            clear hI1'
            go_wp2_with fail
            refine (HS.out.rend 0 g l 0 rfl).mono ?_
            rintro r wx ⟨rfl, rfl⟩
            rw [show rEnd l 0 = 12 from if_pos ⟨rfl, HNE.out⟩]
            go_wp2_with fail
            refine (HS.out.rnum 0 g l 0 rfl HLB.out).mono ?_
            rintro r w4 ⟨rfl, h⟩
            have hlb := rNum_bytes (e := 0) HLB.out
            rcases form_step HBY.out hI1.out hI2 with ⟨x, l', hr, x0, x1, hx, hkl⟩ | hr | hr
            · rw [hr] at h hlb ⊢
              have H4 := Aside0.mk h
              have HLB' := Aside0.mk hlb
              have X0 := Aside0.mk x0
              have X1 := Aside0.mk x1
              have HX := Aside0.mk hx
              have hvl := (vb_len (zig x)).2
              clear h hlb hr x0 x1 hx HS
              by_cases hn' : l' = []
              · have HN' := Aside0.mk hn'
                go_wp2_with fail
                refine (H4.out.rend 0 g l' 0 rfl).mono ?_
                rintro r wx ⟨rfl, rfl⟩
                rw [show rEnd l' 0 = 0 from by rw [HN'.out]; rfl]
                go_wp2_with fail
                refine (H4.out.wnum 1 g2 xs x rfl X0.out X1.out (by omega)).mono ?_
                rintro r w5 ⟨rfl, h⟩
                have H5 := Aside0.mk h
                clear h H4
                go_wp2_with fail
                go_roundw
                case rel => exact ⟨k + 1, l', 0, _, by omega, by go_num, by rw [List.length_append]; omega, ⟨.inl ⟨rfl, HX.out, by omega⟩⟩, HLB', H5⟩
                case measure => simp [intOf]; omega
              · have HN' := Aside0.mk hn'
                go_wp2_with fail
                refine (H4.out.rend 0 g l' 0 rfl).mono ?_
                rintro r wx ⟨rfl, rfl⟩
                rw [show rEnd l' 0 = 12 from if_pos ⟨rfl, HN'.out⟩]
                go_wp2_with fail
                refine (H4.out.rend 0 g l' 0 rfl).mono ?_
                rintro r wx ⟨rfl, rfl⟩
                rw [show rEnd l' 0 = 12 from if_pos ⟨rfl, HN'.out⟩]
                go_wp2_with fail
                refine (H4.out.wnum 1 g2 xs x rfl X0.out X1.out (by omega)).mono ?_
                rintro r w5 ⟨rfl, h⟩
                have H5 := Aside0.mk h
                clear h H4
                go_wp2_with fail
                go_roundw
                case rel => exact ⟨k + 1, l', 0, _, by omega, by go_num, by rw [List.length_append]; omega, ⟨.inl ⟨rfl, HX.out, by omega⟩⟩, HLB', H5⟩
                case measure => simp [intOf]; omega
            · rw [hr] at h hlb ⊢
              have H4 := Aside0.mk h
              have HLB' := Aside0.mk hlb
              clear h hlb hr HS
              go_wp2_with fail
              refine (H4.out.rend 0 g l 12 rfl).mono ?_
              rintro r wx ⟨rfl, rfl⟩
              rw [show rEnd l 12 = 12 from if_neg (by simp)]
              go_wp2_with fail
              refine (H4.out.rend 0 g l 12 rfl).mono ?_
              rintro r wx ⟨rfl, rfl⟩
              rw [show rEnd l 12 = 12 from if_neg (by simp)]
              go_wp2_with fail
              refine (H4.out.wnum 1 g2 xs 0 rfl (by omega) (by omega) (by omega)).mono ?_
              rintro r w5 ⟨rfl, h⟩
              have H5 := Aside0.mk h
              clear h H4
              go_wp2_with fail
              go_roundw
              case rel => exact ⟨k + 1, l, 12, _, by omega, by go_num, by rw [List.length_append, show (vb (zig 0)).length = 1 from rfl]; omega, ⟨.inr (.inl rfl)⟩, HLB', H5⟩
              case measure => simp [intOf]; omega
            · rw [hr] at h hlb ⊢
              have H4 := Aside0.mk h
              have HLB' := Aside0.mk hlb
              clear h hlb hr HS
              go_wp2_with fail
              refine (H4.out.rend 0 g l 13 rfl).mono ?_
              rintro r wx ⟨rfl, rfl⟩
              rw [show rEnd l 13 = 13 from if_neg (by simp)]
              go_wp2_with fail
              refine (H4.out.rend 0 g l 13 rfl).mono ?_
              rintro r wx ⟨rfl, rfl⟩
              rw [show rEnd l 13 = 13 from if_neg (by simp)]
              go_wp2_with fail
              go_roundw
              case rel => exact ⟨k + 1, l, 13, xs, by omega, by go_num, by omega, ⟨.inr (.inr rfl)⟩, HLB', H4⟩
              case measure => simp [intOf]; omega
        · clear HI
          go_wp2_with fail
          refine (HS.out.rend 0 g l 12 rfl).mono ?_
          rintro r wx ⟨rfl, rfl⟩
          rw [show rEnd l 12 = 12 from if_neg (by simp)]
          go_wp2_with fail
          refine (HS.out.rnum 0 g l 12 rfl HLB.out).mono ?_
          rintro r w4 ⟨rfl, h⟩
          rw [show rNum l 12 = (0, l, 12) from if_neg (by decide)] at h ⊢
          have H4 := Aside0.mk h
          clear h HS
          go_wp2_with fail
          refine (H4.out.rend 0 g l 12 rfl).mono ?_
          rintro r wx ⟨rfl, rfl⟩
          rw [show rEnd l 12 = 12 from if_neg (by simp)]
          go_wp2_with fail
          refine (H4.out.rend 0 g l 12 rfl).mono ?_
          rintro r wx ⟨rfl, rfl⟩
          rw [show rEnd l 12 = 12 from if_neg (by simp)]
          go_wp2_with fail
          refine (H4.out.wnum 1 g2 xs 0 rfl (by omega) (by omega) (by omega)).mono ?_
          rintro r w5 ⟨rfl, h⟩
          have H5 := Aside0.mk h
          clear h H4
          go_wp2_with fail
          go_roundw
          case rel => exact ⟨k + 1, l, 12, _, by omega, by go_num, by rw [List.length_append, show (vb (zig 0)).length = 1 from rfl]; omega, ⟨.inr (.inl rfl)⟩, HLB, H5⟩
          case measure => simp [intOf]; omega
        · clear HI
          go_wp2_with fail
          refine (HS.out.rend 0 g l 13 rfl).mono ?_
          rintro r wx ⟨rfl, rfl⟩
          rw [show rEnd l 13 = 13 from if_neg (by simp)]
          go_wp2_with fail
          refine (HS.out.rend 0 g l 13 rfl).mono ?_
          rintro r wx ⟨rfl, rfl⟩
          rw [show rEnd l 13 = 13 from if_neg (by simp)]
          go_wp2_with fail
          go_ret
          exact ⟨rfl, HB9.out _ HS.out.2⟩
      · obtain rfl : k = b.length := by omega
        rcases HI.out with ⟨rfl, hI1, hI2⟩ | rfl | rfl
        · have hnil : l = [] := List.eq_nil_of_length_eq_zero (by omega)
          rw [hnil, List.append_nil] at hI1
          rw [hnil, hI1] at HS
          rw [hI1] at hxl
          clear hnil hI1 hI2 HI HLB
          go_wp2_with fail
          refine (HS.out.rend 0 g [] 0 rfl).mono ?_
          rintro r wx ⟨rfl, rfl⟩
          rw [show rEnd [] 0 = 0 from rfl]
          have HST := Aside0.mk (fun (wx : World) (A : Option Addr) (c : Nat) (hr : ReadsInt wx .u8 A b.length b) => string_of_reads (P := Try.prog) (c := c) hu22 Try.underlying5 Try.underlying9 hr)
          generalize strOfNums b = sy at HST
          go_wp2_with fail
          have k0 := HST.out _ A c (HR1.out.below HS.out.2)
          have k1 := HST.out _ A c ((HR1.out.below HS.out.2).below (below_drew (Below.refl _ _)))
          go_region_with ((go_at_call 24; refine ((HS.out.below (below_drew (Below.refl _ _))).wbytes 1 _ b rfl (by omega)).mono ?_; rintro e w2 ⟨v, rfl, h⟩; obtain ⟨A5, c5, rfl, _, hr5, _⟩ := h.bytes 2 rfl; have HV := Aside0.mk h; have k5 := HST.out _ A5 c5 hr5; have k6 := HST.out _ A c (HR1.out.below h.2); clear h hr5))
          all_goals go_wp2_with fail
          all_goals go_ret
          all_goals exact ⟨by first | rfl | simp, HB9.out _ HV.out.2⟩
        · clear HI
          go_wp2_with fail
          refine (HS.out.rend 0 g l 12 rfl).mono ?_
          rintro r wx ⟨rfl, rfl⟩
          rw [show rEnd l 12 = 12 from if_neg (by simp)]
          go_wp2_with fail
          go_ret
          exact ⟨rfl, HB9.out _ HS.out.2⟩
        · clear HI
          go_wp2_with fail
          refine (HS.out.rend 0 g l 13 rfl).mono ?_
          rintro r wx ⟨rfl, rfl⟩
          rw [show rEnd l 13 = 13 from if_neg (by simp)]
          go_wp2_with fail
          go_ret
          exact ⟨rfl, HB9.out _ HS.out.2⟩
end Go.Proofs.Ytpbkibafhabahaa.Wire
