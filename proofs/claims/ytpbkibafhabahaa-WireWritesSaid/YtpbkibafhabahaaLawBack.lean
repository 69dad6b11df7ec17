/- What was written is read: the statement's call, walked through. -/
import Derived.Test.YtpbkibafhabahaaLawWrites
namespace Go.Proofs.Ytpbkibafhabahaa.Wire
open Go.RowKit Go.Proofs.YtpbkibafhabahaaW.PrintWords Go.Proofs.Ytpbkibafhabahaa.Obj
set_option linter.unusedVariables false

/-- What is left behind the first j numbers. -/
def backL (ns t : List Int) (j : Nat) : List Int := (ns.drop j).flatMap (fun x => vb (zig x)) ++ (vb (zig t.length) ++ t)
theorem backL_zero (ns t : List Int) : backL ns t 0 = (encN ns ns.length ++ vb (zig t.length)) ++ t := by simp [backL, encN]
theorem backL_succ {ns t : List Int} {j : Nat} (h : j < ns.length) : backL ns t j = vb (zig (rd ns j)) ++ backL ns t (j + 1) := by
  unfold backL rd
  rw [List.drop_eq_getElem_cons h, Int.toNat_natCast, List.getD_eq_getElem?_getD, List.getElem?_eq_getElem h]
  simp only [List.flatMap_cons, List.append_assoc]
  rfl
theorem backL_end (ns t : List Int) : backL ns t ns.length = vb (zig t.length) ++ t := by simp [backL]
theorem back_num {x : Int} {l : List Int} (h0 : -9223372036854775808 ≤ x) (h1 : x ≤ 9223372036854775807) : rNum (vb (zig x) ++ l) 0 = (x, l, 0) := by
  simp [rNum, rStep, dec_vb _ l (zig_nonneg x) (zig_lt x h0 h1), unzig_zig]
/-- A number that is cut: at its end, or within. -/
theorem back_cut {x : Int} {l : List Int} {q : Nat} (h0 : -9223372036854775808 ≤ x) (h1 : x ≤ 9223372036854775807) (hq : q < (vb (zig x) ++ l).length) :
    (∃ q', q' < l.length ∧ rNum ((vb (zig x) ++ l).take q) 0 = (x, l.take q', 0)) ∨ rNum ((vb (zig x) ++ l).take q) 0 = (0, (vb (zig x) ++ l).take q, 13) := by
  rcases Nat.lt_or_ge q (vb (zig x)).length with h | h
  · have e : (vb (zig x) ++ l).take q = (vb (zig x)).take q := List.take_append_of_le_length (by omega)
    have hd := dec_cut _ q (zig_nonneg x) (zig_lt x h0 h1) h
    rw [e]
    exact .inr (by simp [rNum, rStep, hd])
  · obtain ⟨r, rfl⟩ : ∃ r, q = (vb (zig x)).length + r := ⟨q - (vb (zig x)).length, by omega⟩
    have e : (vb (zig x) ++ l).take ((vb (zig x)).length + r) = vb (zig x) ++ l.take r := by rw [List.take_append, List.take_of_length_le (by omega), Nat.add_sub_cancel_left]
    rw [e, back_num h0 h1]
    rw [List.length_append] at hq
    exact .inl ⟨r, by omega, rfl⟩
theorem back_text (t : List Int) (ht : t.length ≤ 3000) : rText t.length (vb (zig t.length) ++ t) 0 = (t, [], 0) := by
  have h := dec_vb (zig t.length) t (zig_nonneg _) (zig_lt _ (by omega) (by omega))
  rw [unzig_zig] at h
  have hw : within 0 t.length (vb (zig t.length) ++ t) = ((t.length : Int), ((vb (zig t.length)).length : Int), 0) := by unfold within; rw [h, if_neg (by simp)]
  have ht2 : textOf t.length (vb (zig t.length) ++ t) = (t, ((vb (zig t.length)).length : Int) + t.length, 0) := by
    unfold textOf
    rw [hw]
    have : (t.length : Int) ≤ ((vb (zig t.length) ++ t).length : Int) - ((vb (zig t.length)).length : Int) := by rw [List.length_append]; omega
    simp only [if_true, if_pos this]
    simp
  unfold rText
  rw [ht2]
  simp
  omega
theorem back_textcut (t : List Int) (ht : t.length ≤ 3000) (q : Nat) (hq : q < (vb (zig t.length) ++ t).length) : ∃ l', rText t.length ((vb (zig t.length) ++ t).take q) 0 = ([], l', 13) := by
  refine ⟨(vb (zig t.length) ++ t).take q, ?_⟩
  rcases Nat.lt_or_ge q (vb (zig t.length)).length with h | h
  · have e : (vb (zig t.length) ++ t).take q = (vb (zig t.length)).take q := List.take_append_of_le_length (by omega)
    have hd := dec_cut _ q (zig_nonneg t.length) (zig_lt _ (by omega) (by omega)) h
    rw [e]
    simp [rText, textOf, within, hd]
  · obtain ⟨r, rfl⟩ : ∃ r, q = (vb (zig t.length)).length + r := ⟨q - (vb (zig t.length)).length, by omega⟩
    have e : (vb (zig t.length) ++ t).take ((vb (zig t.length)).length + r) = vb (zig t.length) ++ t.take r := by rw [List.take_append, List.take_of_length_le (by omega), Nat.add_sub_cancel_left]
    rw [List.length_append] at hq
    have h := dec_vb (zig t.length) (t.take r) (zig_nonneg _) (zig_lt _ (by omega) (by omega))
    rw [unzig_zig] at h
    have hw : within 0 t.length (vb (zig t.length) ++ t.take r) = ((t.length : Int), ((vb (zig t.length)).length : Int), 0) := by unfold within; rw [h, if_neg (by simp)]
    rw [e]
    have ht2 : textOf t.length (vb (zig t.length) ++ t.take r) = ([], 0, 13) := by
      unfold textOf
      rw [hw]
      have : ¬ ((t.length : Int) ≤ ((vb (zig t.length) ++ t.take r).length : Int) - ((vb (zig t.length)).length : Int)) := by rw [List.length_append, List.length_take]; omega
      simp only [if_true, if_neg this]
    unfold rText
    rw [ht2]
    simp
theorem take_bytes {l : List Int} (h : ∀ x ∈ l, 0 ≤ x ∧ x < 256) (q : Nat) : ∀ x ∈ l.take q, 0 ≤ x ∧ x < 256 := fun x hx => h x (List.mem_of_mem_take hx)
theorem backL_bytes {ns t : List Int} (hn : ∀ x ∈ ns, -9223372036854775808 ≤ x ∧ x ≤ 9223372036854775807) (ht : ∀ x ∈ t, 0 ≤ x ∧ x < 256) (hl : t.length ≤ 3000) (j : Nat) : ∀ x ∈ backL ns t j, 0 ≤ x ∧ x < 256 := by
  intro x hx
  unfold backL at hx
  rw [List.mem_append, List.mem_append, List.mem_flatMap] at hx
  rcases hx with ⟨y, hy, hx⟩ | hx | hx
  · have := hn y (List.mem_of_mem_drop hy)
    exact vb_byte _ (zig_nonneg y) (zig_lt y this.1 this.2) x hx
  · exact vb_byte _ (zig_nonneg _) (zig_lt _ (by omega) (by omega)) x hx
  · exact ht x hx
/-- Where the reader of cut bytes stands. -/
def BackI (L : List Int) (ls : List Int) (es : Int) : Prop := (es = 0 ∧ ∃ q, q < L.length ∧ ls = L.take q) ∨ es = 13
theorem back_step {ns t : List Int} {j : Nat} {ls : List Int} {es : Int} (hj : j < ns.length) (hn : -9223372036854775808 ≤ rd ns j ∧ rd ns j ≤ 9223372036854775807) (h : BackI (backL ns t j) ls es) : BackI (backL ns t (j + 1)) (rNum ls es).2.1 (rNum ls es).2.2 := by
  rcases h with ⟨rfl, q, hq, rfl⟩ | rfl
  · rw [backL_succ hj] at hq ⊢
    rcases back_cut hn.1 hn.2 hq with ⟨q', h1, h2⟩ | h2
    · rw [h2]; exact .inl ⟨rfl, q', h1, rfl⟩
    · rw [h2]; exact .inr rfl
  · exact .inr (by rw [show rNum ls 13 = (0, ls, 13) from if_neg (by decide)])
theorem back_end {ns t : List Int} {ls : List Int} {es : Int} (ht : t.length ≤ 3000) (h : BackI (backL ns t ns.length) ls es) : (rText t.length ls es).2.2 = 13 := by
  rcases h with ⟨rfl, q, hq, rfl⟩ | rfl
  · rw [backL_end] at hq ⊢
    obtain ⟨l', h⟩ := back_textcut t ht q hq
    rw [h]
  · rw [show rText t.length ls 13 = ([], ls, 13) from if_neg (by decide)]
theorem rNum_sub (l : List Int) (e : Int) : ∀ x ∈ (rNum l e).2.1, x ∈ l := by
  unfold rNum rStep
  split
  · split
    · exact fun x hx => List.mem_of_mem_drop hx
    · exact fun x hx => hx
  · exact fun x hx => hx
theorem rNum_len (l : List Int) (e : Int) : (rNum l e).2.1.length ≤ l.length := by
  unfold rNum rStep
  split
  · split
    · simp
    · simp
  · simp
set_option maxRecDepth 100000 in
set_option maxHeartbeats 8000000 in
theorem back_calls (A0 : Option Addr) (c0 : Nat) (ns : List Int) (A1 : Option Addr) (c1 : Nat) (t : List Int) (cut : Int) (w : World) (hN : ReadsInt w .i64 A0 ns.length ns) (hn : ∀ x ∈ ns, -9223372036854775808 ≤ x ∧ x ≤ 9223372036854775807) (hT : ReadsInt w .u8 A1 t.length t) (hby : ∀ x ∈ t, 0 ≤ x ∧ x < 256) (hc0 : 0 ≤ cut) (hc1 : cut ≤ 65535) :
    Calls Try.prog 5 #[.slice A0 ns.length c0, .slice A1 t.length c1, .int .u16 cut] w fun e w' => e = .returned (.bool true) ∧ Below w.heap.size w w' := by
  have hu22 := Try.underlying22
  have hu41 := Try.underlying41
  have hu37 := Try.underlying37
  have hmaxn := hN.2.1
  have hmaxt := hT.2.1
  have HN := Aside0.mk hN
  have HNN := Aside0.mk hn
  have HT := Aside0.mk hT
  have HBY := Aside0.mk hby
  clear hN hT hn hby
  by_cases h1 : 300 < ns.length
  · go_enter Try.func5, Try.ntmps5
    go_wp2_with (go_at_call 9; refine (head_calls w).mono ?_; rintro e w1 ⟨rfl, hb⟩; have HB := Aside0.mk hb; clear hb)
    go_ret
    exact ⟨rfl, HB.out⟩
  · by_cases h2 : 3000 < t.length
    · go_enter Try.func5, Try.ntmps5
      go_wp2_with (go_at_call 9; refine (head_calls w).mono ?_; rintro e w1 ⟨rfl, hb⟩; have HB := Aside0.mk hb; clear hb)
      go_ret
      exact ⟨rfl, HB.out⟩
    · go_enter Try.func5, Try.ntmps5
      go_wp2_with fail
      refine (head_calls w).mono ?_
      rintro e w1 ⟨rfl, hb⟩
      have HB := Aside0.mk hb
      have HN1 := Aside0.mk (HN.out.below hb)
      have HT1 := Aside0.mk (HT.out.below hb)
      clear hb HN HT
      have HB9 := Aside0.mk (fun (wx : World) (h : Below w1.heap.size w1 wx) => below_then HB.out HB.out.size h)
      have H0 := Aside0.mk (show St w1 [wrA 41 w1.heap.size []] (w1.alloc (.cells #[.slice none 0 0] 41)) from (St.start w1).push (below_alloc (Below.refl _ _) _) (newW w1 _))
      go_wp2_with fail
      obtain ⟨g1, hg1⟩ : ∃ g1, w1.heap.size = g1 := ⟨_, rfl⟩
      have HG1 := Aside0.mk hg1
      clear hg1
      go_loopw [9] (fun i wr => ∃ k : Nat, k ≤ ns.length ∧ i = .int .i64 k ∧ Aside0 (St w1 [wrA 41 w1.heap.size (encN ns k)] wr)) (fun i _ => ns.length - (intOf i).toNat)
      case atStart => exact ⟨0, Nat.zero_le _, rfl, H0⟩
      case round =>
        clear H0
        obtain ⟨k, hk, rfl, HS⟩ := hrel
        by_cases hlt : k < ns.length
        · obtain ⟨ad, rfl, hcell⟩ := (HN1.out.below HS.out.2).at_ (k : Int) (by omega) (by omega)
          have hx := HNN.out (rd ns k) (by simp [rd, List.getD_eq_getElem?_getD, List.getElem?_eq_getElem hlt])
          have hel := encN_len ns k
          obtain ⟨x, hxe⟩ : ∃ x, rd ns k = x := ⟨_, rfl⟩
          have HE := Aside0.mk (encN_succ hlt)
          rw [hxe] at HE
          rw [hxe] at hx
          rw [hxe, Int.toNat_natCast] at hcell
          obtain ⟨x0, x1⟩ := hx
          have X0 := Aside0.mk x0
          have X1 := Aside0.mk x1
          clear hxe x0 x1
          go_wp2_with fail
          refine (HS.out.wnum 0 _ (encN ns k) x rfl X0.out X1.out (by omega)).mono ?_
          rintro e w2 ⟨rfl, h⟩
          have HS3 := Aside0.mk (show St w1 [wrA 41 w1.heap.size (encN ns (k + 1))] w2 by rw [HE.out]; exact h)
          clear h HS
          go_wp2_with fail
          go_roundw
          case rel => exact ⟨k + 1, by omega, by go_num, HS3⟩
          case measure => simp [intOf]; omega
        · obtain rfl : k = ns.length := by omega
          have hel := encN_len ns ns.length
          go_wp2_with fail
          refine (HS.out.wtext 0 _ (encN ns ns.length) A1 c1 t rfl HT1.out (by omega)).mono ?_
          rintro e w2 ⟨rfl, h⟩
          obtain ⟨B, hB⟩ : ∃ B, (encN ns ns.length ++ vb (zig t.length)) ++ t = B := ⟨_, rfl⟩
          have hBl : 1 ≤ B.length ∧ B.length ≤ 7000 := by
            rw [← hB, List.length_append, List.length_append]
            have := vb_len (zig t.length)
            omega
          have HBZ := Aside0.mk (show backL ns t 0 = B by rw [backL_zero]; exact hB)
          have HBB := Aside0.mk (backL_bytes HNN.out HBY.out (show t.length ≤ 3000 by omega))
          have HS2 := Aside0.mk (show St w1 [wrA 41 w1.heap.size B] w2 by rw [← hB]; exact h)
          obtain ⟨b0, b1⟩ := hBl
          clear hB h HS
          go_wp2_with fail
          refine (HS2.out.wbytes 0 _ B rfl (by omega)).mono ?_
          rintro e w3 ⟨v, rfl, h⟩
          obtain ⟨A3, c3, rfl, hc3, hr3, _⟩ := h.bytes 1 rfl
          have HS3 := Aside0.mk h
          have HR3 := Aside0.mk hr3
          clear h hr3 HS2
          go_wp2_with fail
          refine (HS3.out.newR A3 c3 B HR3.out (by omega)).mono ?_
          rintro e w4 ⟨gr, rfl, h⟩
          have HS4 := Aside0.mk h
          obtain ⟨A4, c4, e4, _, hr4, _⟩ := h.bytes 1 rfl
          injection e4 with e4 _ e4'
          subst e4
          subst e4'
          have HR4 := Aside0.mk hr4
          clear h hr4 HS3 HR3
          obtain ⟨m, hm⟩ : ∃ m : Int, cut % (B.length : Int) = m := ⟨_, rfl⟩
          have m0 : 0 ≤ m := by rw [← hm]; exact Int.emod_nonneg _ (by omega)
          have m1 : m < B.length := by rw [← hm]; exact Int.emod_lt_of_pos _ (by omega)
          obtain ⟨i0, hi, hz0, hz1, hz2⟩ := info_parts info5
          obtain ⟨S0, hS0⟩ : ∃ S0, B.take m.toNat = S0 := ⟨_, rfl⟩
          have hS0l : S0.length = m.toNat := by rw [← hS0, List.length_take]; omega
          have hcut := cut_to (P := Try.prog) 22 5 .i64 hu22 hi A3 B.length c3 m m0 (by omega) hc3
          rw [← hS0l] at hcut
          have HBI := Aside0.mk (show BackI (backL ns t 0) S0 0 from .inl ⟨rfl, m.toNat, by rw [HBZ.out]; omega, by rw [HBZ.out, hS0]⟩)
          have HRS := Aside0.mk (show ReadsInt w4 .u8 A3 S0.length S0 by rw [← hS0]; exact reads_take HR4.out _ (by omega))
          have hs7 : S0.length ≤ 7000 := by omega
          clear hS0 hS0l
          go_wp2_with fail
          clear hcut hm
          refine (HS4.out.newR A3 c3 S0 HRS.out (by omega)).mono ?_
          rintro e w5 ⟨gs, rfl, h⟩
          have HS5 := Aside0.mk h
          have HSB := Aside0.mk (show ∀ x ∈ S0, 0 ≤ x ∧ x < 256 from by
            rcases HBI.out with ⟨_, q, _, hq⟩ | h0
            · rw [hq]; exact take_bytes (HBB.out 0) q
            · cases h0)
          clear h HS4
          rw [← HBZ.out] at HS5
          go_wp2_with fail
          go_loopw [14] (fun i wr => ∃ (k : Nat) (ls : List Int) (es : Int), k ≤ ns.length ∧ i = .int .i64 k ∧ ls.length ≤ 7000 ∧ Aside0 (BackI (backL ns t k) ls es) ∧ Aside0 (∀ x ∈ ls, 0 ≤ x ∧ x < 256) ∧ Aside0 (St w1 [wrA 41 w1.heap.size (backL ns t 0), byA (.slice A3 (backL ns t 0).length c3) (backL ns t 0), rdA gr (backL ns t k) 0, rdA gs ls es] wr)) (fun i _ => ns.length - (intOf i).toNat)
          case atStart => exact ⟨0, S0, 0, by omega, rfl, hs7, HBI, HSB, HS5⟩
          case round =>
            clear HS5 HBI HSB
            obtain ⟨k, ls, es, hk, rfl, hls, HBI, HSB, HS⟩ := hrel
            by_cases hlt : k < ns.length
            · have hx := HNN.out (rd ns k) (by simp [rd, List.getD_eq_getElem?_getD, List.getElem?_eq_getElem hlt])
              have HST := Aside0.mk (back_step hlt hx HBI.out)
              have hbk := backL_succ (t := t) hlt
              obtain ⟨ad, rfl, hcell0⟩ := HN1.out.at_ (k : Int) (by omega) (by omega)
              rw [Int.toNat_natCast] at hcell0
              obtain ⟨x, hxe⟩ : ∃ x, rd ns k = x := ⟨_, rfl⟩
              rw [hxe] at hx hbk hcell0
              have HCE := Aside0.mk hcell0
              have HRN := Aside0.mk (show rNum (backL ns t k) 0 = (x, backL ns t (k + 1), 0) by rw [hbk]; exact back_num hx.1 hx.2)
              clear hxe hbk hx hcell0
              go_wp2_with fail
              refine (HS.out.rnum 2 gr _ 0 rfl (HBB.out k)).mono ?_
              rintro e w6 ⟨rfl, h⟩
              rw [HRN.out] at h ⊢
              have HS6 := Aside0.mk h
              have hcell6 : w6.cell? (ad.add k) = some (.int .i64 x) := pw_cell_below h.2 HCE.out
              have hxx : (x != x) = false := by simp
              clear h HS
              go_wp2_with fail
              refine (HS6.out.rnum 3 gs ls es rfl HSB.out).mono ?_
              rintro e w7 ⟨rfl, h⟩
              have HS7 := Aside0.mk h
              have HSB7 := Aside0.mk (show ∀ x ∈ (rNum ls es).2.1, 0 ≤ x ∧ x < 256 from fun x hx => HSB.out x (rNum_sub ls es x hx))
              have hl7 := rNum_len ls es
              obtain ⟨y, ls', es', hr⟩ : ∃ y ls' es', rNum ls es = (y, ls', es') := ⟨_, _, _, rfl⟩
              rw [hr] at hl7 HS7 HSB7 HST
              dsimp only at hl7
              rw [hr]
              clear h hr HS6 hcell6
              go_wp2_with fail
              go_roundw
              case rel => exact ⟨k + 1, ls', es', by omega, by go_num, by omega, HST, HSB7, HS7⟩
              case measure => simp [intOf]; omega
            · obtain rfl : k = ns.length := by omega
              have HEN := Aside0.mk (back_end (show t.length ≤ 3000 by omega) HBI.out)
              have HRT := Aside0.mk (show rText t.length (backL ns t ns.length) 0 = (t, [], 0) by rw [backL_end]; exact back_text t (by omega))
              have hbl : (backL ns t ns.length).length ≤ 7000 := by rw [backL_end, List.length_append]; have := vb_len (zig t.length); omega
              go_wp2_with fail
              refine (HS.out.rtext 2 gr t.length _ 0 rfl (by omega) (HBB.out _) (by omega) (by omega)).mono ?_
              rintro e w6 ⟨v6, rfl, h⟩
              rw [HRT.out] at h
              obtain ⟨A6, c6, rfl, _, _, _⟩ := h.bytes 4 rfl
              have HS6 := Aside0.mk h
              clear h HS
              go_wp2_with fail
              refine (HS6.out.rtext 3 gs t.length ls es rfl (by omega) HSB.out (by omega) (by omega)).mono ?_
              rintro e w7 ⟨v7, rfl, h⟩
              rw [HEN.out] at h
              obtain ⟨l7, h7⟩ : ∃ l7, (rText t.length ls es).2.1 = l7 := ⟨_, rfl⟩
              rw [h7] at h
              obtain ⟨A8, c8, e8, _, hr8, _⟩ := h.bytes 4 rfl
              injection e8 with e8 _ e8'
              subst e8
              subst e8'
              have HS7 := Aside0.mk h
              have k1 := string_of_reads (P := Try.prog) (c := c6) hu22 Try.underlying5 Try.underlying9 hr8
              have k2 := string_of_reads (P := Try.prog) (c := c1) hu22 Try.underlying5 Try.underlying9 (HT1.out.below h.2)
              generalize strOfNums t = sy at k1 k2
              clear h h7 hr8 HS6
              go_wp2_with fail
              refine (HS7.out.rend 2 gr [] 0 rfl).mono ?_
              rintro e w8 ⟨rfl, rfl⟩
              rw [show rEnd [] 0 = 0 from rfl]
              go_wp2_with fail
              refine (HS7.out.rend 3 gs l7 13 rfl).mono ?_
              rintro e w9 ⟨rfl, rfl⟩
              rw [show rEnd l7 13 = 13 from if_neg (by simp)]
              go_wp2_with fail
              go_ret
              exact ⟨by first | rfl | simp, HB9.out _ HS7.out.2⟩
end Go.Proofs.Ytpbkibafhabahaa.Wire
