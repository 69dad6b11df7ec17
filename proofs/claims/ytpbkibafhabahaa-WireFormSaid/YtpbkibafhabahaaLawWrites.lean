/- The bytes of any numbers and texts: the statement's call, walked through. -/
import Derived.Test.YtpbkibafhabahaaWireHead
import Derived.StillTailTactics
import Derived.Deep.RegionWith
namespace Go.Proofs.Ytpbkibafhabahaa.Wire
open Go.RowKit Go.Proofs.YtpbkibafhabahaaW.PrintWords Go.Proofs.Ytpbkibafhabahaa.Obj
set_option linter.unusedVariables false

/-- The first k numbers' bytes; behind them the first k texts', each cut at 900 bytes. -/
def encN (ns : List Int) (k : Nat) : List Int := (ns.take k).flatMap fun x => vb (zig x)
def encT (ts : List (List Int)) (k : Nat) : List Int := (ts.take k).flatMap fun t => vb (zig (t.take 900).length) ++ t.take 900
theorem encN_succ {ns : List Int} {k : Nat} (h : k < ns.length) : encN ns (k + 1) = encN ns k ++ vb (zig (rd ns k)) := by
  unfold encN rd
  rw [List.take_succ_eq_append_getElem h, List.flatMap_append, Int.toNat_natCast, List.getD_eq_getElem?_getD, List.getElem?_eq_getElem h]
  simp
theorem encN_len (ns : List Int) (k : Nat) : (encN ns k).length ≤ 10 * k := by
  induction k with
  | zero => simp [encN]
  | succ k ih =>
    by_cases h : k < ns.length
    · rw [encN_succ h, List.length_append]; have := vb_len (zig (rd ns k)); omega
    · have : encN ns (k + 1) = encN ns k := by unfold encN; rw [List.take_of_length_le (by omega), List.take_of_length_le (by omega)]
      rw [this]; omega
theorem encT_succ {ts : List (List Int)} {k : Nat} (h : k < ts.length) : encT ts (k + 1) = encT ts k ++ (vb (zig ((ts.getD k []).take 900).length) ++ (ts.getD k []).take 900) := by
  unfold encT
  rw [List.take_succ_eq_append_getElem h, List.flatMap_append, List.getD_eq_getElem?_getD, List.getElem?_eq_getElem h]
  simp
theorem encT_len (ts : List (List Int)) (k : Nat) : (encT ts k).length ≤ 910 * k := by
  induction k with
  | zero => simp [encT]
  | succ k ih =>
    by_cases h : k < ts.length
    · rw [encT_succ h, List.length_append, List.length_append]; have := vb_len (zig ((ts.getD k []).take 900).length); have : ((ts.getD k []).take 900).length ≤ 900 := by rw [List.length_take]; omega
      omega
    · have : encT ts (k + 1) = encT ts k := by unfold encT; rw [List.take_of_length_le (by omega), List.take_of_length_le (by omega)]
      rw [this]; omega
set_option maxRecDepth 100000 in
set_option maxHeartbeats 8000000 in
theorem writes_calls (A0 : Option Addr) (c0 : Nat) (ns : List Int) (A1 : Option Addr) (c1 : Nat) (ts : List (List Int)) (w : World) (hN : ReadsInt w .i64 A0 ns.length ns) (hn : ∀ x ∈ ns, -9223372036854775808 ≤ x ∧ x ≤ 9223372036854775807) (hT : Kd.C (Kd.slice 5 (Kd.int .u8)) w A1 ts.length ts) :
    Calls Try.prog 4 #[.slice A0 ns.length c0, .slice A1 ts.length c1] w fun e w' => e = .returned (.bool true) ∧ Below w.heap.size w w' := by
  have hu22 := Try.underlying22
  have hu41 := Try.underlying41
  have hu44 := Try.underlying44
  have hu37 := Try.underlying37
  have hu38 := Try.underlying38
  have hmaxn := hN.2.1
  have hmaxt := hT.2.1
  have HN := Aside0.mk hN
  have HNN := Aside0.mk hn
  have HT := Aside0.mk hT
  clear hN hT hn
  by_cases h1 : 900 < ns.length
  · go_enter Try.func4, Try.ntmps4
    go_wp2_with (go_at_call 9; refine (head_calls w).mono ?_; rintro e w1 ⟨rfl, hb⟩; have HB := Aside0.mk hb; clear hb)
    go_ret
    exact ⟨rfl, ((HB.out.alloc HB.out.size _).alloc (by have := HB.out.size; simp; omega) _)⟩
  · by_cases h2 : 300 < ts.length
    · go_enter Try.func4, Try.ntmps4
      go_wp2_with (go_at_call 9; refine (head_calls w).mono ?_; rintro e w1 ⟨rfl, hb⟩; have HB := Aside0.mk hb; clear hb)
      go_ret
      exact ⟨rfl, ((HB.out.alloc HB.out.size _).alloc (by have := HB.out.size; simp; omega) _)⟩
    · go_enter Try.func4, Try.ntmps4
      go_wp2_with fail
      refine (head_calls w).mono ?_
      rintro e w1 ⟨rfl, hb⟩
      have HB := Aside0.mk hb
      have HN1 := Aside0.mk (HN.out.below hb)
      have HT1 := Aside0.mk (Kd.C_below HT.out hb)
      clear hb HN HT
      have H0 := Aside0.mk (show St w1 [wrA 41 w1.heap.size []] (w1.alloc (.cells #[.slice none 0 0] 41)) from (St.start w1).push (below_alloc (Below.refl _ _) _) (newW w1 _))
      have H1 := Aside0.mk (show St w1 [wrA 41 w1.heap.size [], wrA 44 (w1.heap.size + 1) []] ((w1.alloc (.cells #[.slice none 0 0] 41)).alloc (.cells #[.slice none 0 0] 44)) from by
        have h := H0.out.push (below_alloc (Below.refl _ _) _) (newW (w1.alloc (.cells #[.slice none 0 0] 41)) 44)
        rw [World.size_alloc] at h
        exact h)
      clear H0
      go_wp2_with fail
      go_loopw [8] (fun i wr => ∃ k : Nat, k ≤ ns.length ∧ i = .int .i64 k ∧ Aside0 (St w1 [wrA 41 w1.heap.size (encN ns k), wrA 44 (w1.heap.size + 1) (encN ns k)] wr)) (fun i _ => ns.length - (intOf i).toNat)
      case atStart => exact ⟨0, Nat.zero_le _, rfl, H1⟩
      case round =>
        clear H1
        obtain ⟨k, hk, rfl, HS⟩ := hrel
        by_cases hlt : k < ns.length
        · obtain ⟨ad, rfl, hcell⟩ := (HN1.out.below HS.out.2).at_ (k : Int) (by omega) (by omega)
          have hx := HNN.out (rd ns k) (by simp [rd, List.getD_eq_getElem?_getD, List.getElem?_eq_getElem hlt])
          have hel := encN_len ns k
          obtain ⟨x, hxe⟩ : ∃ x, rd ns k = x := ⟨_, rfl⟩
          have HE := Aside0.mk (encN_succ hlt)
          have HXE := Aside0.mk hxe
          rw [hxe] at HE
          rw [hxe] at hx
          rw [hxe, Int.toNat_natCast] at hcell
          obtain ⟨x0, x1⟩ := hx
          have X0 := Aside0.mk x0
          have X1 := Aside0.mk x1
          clear hxe x0 x1
          go_wp2_with fail
          refine (HS.out.wnum 0 _ (encN ns k) x rfl X0.out X1.out (by omega)).mono ?_
          rintro e w2 ⟨rfl, h⟩
          have HS2 := Aside0.mk h
          obtain ⟨ad', e', hcell2⟩ := (HN1.out.below h.2).at_ (k : Int) (by omega) (by omega)
          obtain rfl : ad = ad' := by injection e'
          rw [HXE.out, Int.toNat_natCast] at hcell2
          clear h e' HS
          go_wp2_with fail
          refine (HS2.out.fnum 1 _ (encN ns k) x rfl X0.out X1.out (by omega)).mono ?_
          rintro e w3 ⟨rfl, h⟩
          have HS3 := Aside0.mk (show St w1 [wrA 41 w1.heap.size (encN ns (k + 1)), wrA 44 (w1.heap.size + 1) (encN ns (k + 1))] w3 by rw [HE.out]; exact h)
          clear h HS2
          go_wp2_with fail
          go_roundw
          case rel => exact ⟨k + 1, by omega, by go_num, HS3⟩
          case measure => simp [intOf]; omega
        · obtain rfl : k = ns.length := by omega
          have hel := encN_len ns ns.length
          obtain ⟨X, hX⟩ : ∃ X, encN ns ns.length = X := ⟨_, rfl⟩
          rw [hX] at HS hel
          clear hX HN1
          go_wp2_with fail
          go_loopw [9] (fun i wr => ∃ k : Nat, k ≤ ts.length ∧ i = .int .i64 k ∧ Aside0 (St w1 [wrA 41 w1.heap.size (X ++ encT ts k), wrA 44 (w1.heap.size + 1) (X ++ encT ts k)] wr)) (fun i _ => ts.length - (intOf i).toNat)
          case atStart => exact ⟨0, Nat.zero_le _, rfl, ⟨by rw [show encT ts 0 = [] from rfl, List.append_nil]; exact HS.out⟩⟩
          case round =>
            rename_i wr0
            clear HS
            obtain ⟨k, hk, rfl, HS⟩ := hrel
            by_cases hlt : k < ts.length
            · have hel2 := encT_len ts k
              have HE := Aside0.mk (encT_succ hlt)
              obtain ⟨t, ht⟩ : ∃ t, ts.getD k [] = t := ⟨_, rfl⟩
              rw [ht] at HE
              obtain ⟨ad, cs, rfl, _, ⟨A2, c2, rfl, hlc, hC⟩, hcell1⟩ := Kd.C_get HT1.out [] (k : Int) (by omega) (by omega)
              have hcell0 := hcell1 0 _ rfl
              rw [show (Kd.slice 5 (Kd.int .u8)).sz = 1 from rfl, Nat.mul_one, Nat.add_zero, Int.toNat_natCast, ht] at hcell0
              rw [Int.toNat_natCast, ht] at hlc hC
              have hR2 := reads_of_C hC
              have hcell : wr.cell? (ad.add k) = some (.slice A2 t.length c2) := pw_cell_below HS.out.2 hcell0
              have HCE := Aside0.mk hcell0
              have HR2 := Aside0.mk hR2
              have htm := hR2.2.1
              obtain ⟨i0, hi, hz0, hz1, hz2⟩ := info_parts info5
              clear ht hR2 hC hcell0 hcell1
              obtain ⟨m, hm⟩ : ∃ m : Int, (if (900 : Int) < (t.length : Int) then (900 : Int) else (t.length : Int)) = m := ⟨_, rfl⟩
              have m0 : 0 ≤ m := by rw [← hm]; split <;> omega
              have m1 : m ≤ t.length := by rw [← hm]; split <;> omega
              obtain ⟨t', ht'⟩ : ∃ t', t.take 900 = t' := ⟨_, rfl⟩
              have htl : t'.length = m.toNat := by rw [← ht', List.length_take, ← hm]; split <;> omega
              have ht9 : t'.length ≤ 900 := by rw [← ht', List.length_take]; omega
              have hcut := cut_to (P := Try.prog) 22 5 .i64 hu22 hi A2 t.length c2 m m0 m1 hlc
              rw [← htl] at hcut
              rw [ht'] at HE
              have HRT := Aside0.mk (show ReadsInt w1 .u8 A2 t'.length t' by
                rw [← ht']
                rcases Nat.lt_or_ge t.length 900 with h | h
                · rw [List.take_of_length_le (by omega)]; exact HR2.out
                · exact reads_take HR2.out 900 h)
              clear htl ht' HR2
              go_wp2_with fail
              go_still_tail 12, (by kernel_rfl)
              change wpList _ _ _ _ _ wr.drew
              have HS1 := Aside0.mk (HS.out.below (below_drew (Below.refl _ _)))
              generalize wr.drew = w2 at HS1 ⊢
              clear HS hcell
              go_wp2_with fail
              refine (HS1.out.wtext 0 _ (X ++ encT ts k) A2 c2 t' rfl HRT.out (by rw [List.length_append]; omega)).mono ?_
              rintro e w3 ⟨rfl, h⟩
              have HS3 := Aside0.mk h
              have hcell3 : w3.cell? (ad.add k) = some (.slice A2 t.length c2) := pw_cell_below h.2 HCE.out
              clear h HS1
              go_wp2_with fail
              go_still_tail 12, (by kernel_rfl)
              change wpList _ _ _ _ _ w3.drew
              have HS4 := Aside0.mk (HS3.out.below (below_drew (Below.refl _ _)))
              generalize w3.drew = w4 at HS4 ⊢
              clear HS3 hcell3
              go_wp2_with fail
              refine (HS4.out.ftext 1 _ (X ++ encT ts k) A2 c2 t' rfl HRT.out (by rw [List.length_append]; omega)).mono ?_
              rintro e w5 ⟨rfl, h⟩
              have HS5 := Aside0.mk (show St w1 [wrA 41 w1.heap.size (X ++ encT ts (k + 1)), wrA 44 (w1.heap.size + 1) (X ++ encT ts (k + 1))] w5 by
                rw [HE.out, ← List.append_assoc, ← List.append_assoc]; exact h)
              clear h HS4
              go_wp2_with fail
              go_roundw
              case rel => exact ⟨k + 1, by omega, by go_num, HS5⟩
              case measure => simp [intOf]; omega
            · obtain rfl : k = ts.length := by omega
              have hel2 := encT_len ts ts.length
              obtain ⟨Y, hY⟩ : ∃ Y, X ++ encT ts ts.length = Y := ⟨_, rfl⟩
              have hyl : Y.length ≤ 300000 := by rw [← hY, List.length_append]; omega
              rw [hY] at HS
              have HB9 := Aside0.mk (fun (wx : World) (h : Below w1.heap.size w1 wx) => below_then HB.out HB.out.size h)
              have hs22 := Try.underlying9
              have hu5 := Try.underlying5
              have HST := Aside0.mk (fun (wx : World) (A : Option Addr) (c : Nat) (hr : ReadsInt wx .u8 A Y.length Y) => string_of_reads (P := Try.prog) (c := c) hu22 hu5 hs22 hr)
              generalize strOfNums Y = sy at HST
              clear hY hel2 HT1 hlt hk hel HNN
              go_wp2_with fail
              go_region_with (first
                | (go_at_call 24; refine ((HS.out.below (below_drew (Below.refl _ _))).wbytes 0 _ Y rfl (by omega)).mono ?_; rintro e w2 ⟨v, rfl, h⟩; obtain ⟨A5, c5, rfl, _, hr5, _⟩ := h.bytes 2 rfl; have HV := Aside0.mk h; have k5 := HST.out w2 A5 c5 hr5; clear h hr5)
                | (go_at_call 25; refine (HV.out.fbytes 1 _ Y rfl (by omega)).mono ?_; rintro e w3 ⟨v, rfl, h⟩; obtain ⟨A6, c6, rfl, _, hr6, _⟩ := h.bytes 3 rfl; obtain ⟨A7, c7, e7, _, hr7, _⟩ := h.bytes 2 rfl; injection e7 with e7 _ e7'; subst e7; subst e7'; have HV2 := Aside0.mk h; have k6 := HST.out w3 A6 c6 hr6; have k7 := HST.out w3 A5 c5 hr7; clear h hr6 hr7))
              all_goals go_wp2_with fail
              all_goals go_ret
              all_goals exact ⟨by first | rfl | simp, HB9.out _ HV2.out.2⟩
end Go.Proofs.Ytpbkibafhabahaa.Wire
