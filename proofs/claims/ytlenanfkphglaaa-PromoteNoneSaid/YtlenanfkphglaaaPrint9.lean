/- Pruned: a text of this claim's: words and walks that the claim's theorem uses. -/
import Derived.Test.YtlenanfkphglaaaPrint0
import Derived.Test.YtlenanfkphglaaaPrint8
namespace Go.Proofs.Ytlenanfkphglaaa.Print
open Go.RowKit Go.Proofs.YtlenanfkphglaaaW.PrintWords Go.Proofs.YtlenanfkphglaaaW.PrintLast Go.Proofs.YtlenanfkphglaaaW.PrintMore
attribute [local go_sem] max2_int min2_int max_two min_two max_three min_three max_four min_four
set_option linter.unusedVariables false
set_option linter.unusedSimpArgs false
def slotAt (l : List S74) (p : Int) (i : Nat) : Bool := W.inB (rd_T74 l i).f0 0 (p - 1) && ((i == 0 || decide ((rd_T74 l ((i : Int) - 1)).f0 < (rd_T74 l i).f0)) && W.inB (rd_T74 l i).f1 0 1000)
def slotsAll (l : List S74) (p : Int) (k : Nat) : Bool := (List.range k).all (slotAt l p)
theorem slotsAll_succ (l : List S74) (p : Int) (k : Nat) : slotsAll l p (k + 1) = (slotsAll l p k && slotAt l p k) := by unfold slotsAll; rw [List.range_succ, List.all_append]; simp
theorem slotsAll_false {l : List S74} {p : Int} {k n : Nat} (h : slotAt l p k = false) (hk : k < n) : slotsAll l p n = false := by
  unfold slotsAll
  rw [List.all_eq_false]
  exact ⟨k, List.mem_range.2 hk, by simp [h]⟩
def slotsB (l : List S74) (p : Int) : Bool := (decide (1 ≤ l.length) && (decide (l.length ≤ 8) && (decide ((rd_T74 l 0).f0 = 0) && W.inB p 1 1099511627776))) && slotsAll l p l.length
def governorref09_slots.f (l0 : List S74) (a1 : Int) : Option (Bool) := some (slotsB l0 a1)
set_option maxRecDepth 100000 in
set_option maxHeartbeats 1000000 in
theorem governorref09_slots.calls (A0 : Option Addr) (c0 : Nat) (l0 : List S74) (a1 : Int) (r : Bool) (w : World) (hr0 : Kd.C k74 w A0 l0.length l0) (hc0 : l0.length ≤ c0) (h : governorref09_slots.f l0 a1 = some r) :
    Calls Try.prog 36 #[.slice A0 l0.length c0, .int .i64 a1] w fun e w' => e = .returned (.bool r) ∧ Drawn0 w w' := by
  have H := Aside0.mk (Option.some.inj h)
  have HR := Aside0.mk hr0
  have hl := hr0.2.1
  clear hr0 h
  have hu74 := Try.underlying74
  by_cases n1 : 1 ≤ l0.length
  · by_cases n8 : l0.length ≤ 8
    · obtain ⟨ad0, rfl, he1, _⟩ := at_T74 HR.out (0 : Int) (by omega) (by omega)
      have he0 : w.cell? ad0 = some (.int .i64 (rd_T74 l0 0).f0) := by simpa [Addr.add] using he1
      clear he1
      by_cases z0 : (rd_T74 l0 0).f0 = 0
      · rw [z0] at he0
        cases b0 : W.inB a1 1 1099511627776
        · have HN := Aside0.mk b0
          go_enter Try.func36, Try.ntmps36
          go_wp2_with (go_at_call 24; refine (W.within_calls _ _ _ _).mono ?_; rintro e w' ⟨rfl, rfl⟩)
          go_ret
          exact ⟨by rw [← H.out]; unfold slotsB; rw [HN.out]; simp, Drawn0.refl _⟩
        · have HE := Aside0.mk (show slotsB l0 a1 = slotsAll l0 a1 l0.length by unfold slotsB; rw [b0, decide_eq_true n1, decide_eq_true n8, decide_eq_true z0]; rfl)
          have hp : 1 ≤ a1 ∧ a1 ≤ 1099511627776 := by simpa [W.inB] using b0
          obtain ⟨hp1, hp2⟩ := hp
          have HB0 := Aside0.mk b0
          clear z0
          go_enter Try.func36, Try.ntmps36
          go_wp2_with (go_at_call 24; refine (W.within_calls _ _ _ _).mono ?_; (try rw [HB0.out]); rintro e w' ⟨rfl, rfl⟩)
          go_loopw [5] (fun i wr => ∃ k : Nat, k ≤ l0.length ∧ i = .int .i64 k ∧ slotsAll l0 a1 k = true ∧ Drawn0 w wr) (fun i _ => l0.length - (intOf i).toNat)
          case atStart => exact ⟨0, Nat.zero_le _, rfl, rfl, Drawn0.refl _⟩
          case round =>
            obtain ⟨k, hk, rfl, hall, hdr⟩ := hrel
            have HA := Aside0.mk hall
            have HD := Aside0.mk hdr
            clear hall hdr he0
            by_cases hlt : k < l0.length
            · obtain ⟨ad, he, hc1, hc2⟩ := at_T74 (Kd.C_below HR.out HD.out.below) (k : Int) (by omega) (by omega)
              obtain rfl := Option.some.inj he
              rw [Int.toNat_natCast] at hc1 hc2
              have HB := Aside0.mk (show slotAt l0 a1 k = (W.inB (rd_T74 l0 k).f0 0 (a1 - 1) && ((k == 0 || decide ((rd_T74 l0 ((k : Int) - 1)).f0 < (rd_T74 l0 k).f0)) && W.inB (rd_T74 l0 k).f1 0 1000)) from rfl)
              generalize hx : rd_T74 l0 (k : Int) = x at *
              clear hx
              cases b1 : W.inB x.f0 0 (a1 - 1)
              · have HB1 := Aside0.mk b1
                go_wp2_with fail
                go_quiet ((go_at_call 24; exact Calls.quiet_of_same ((W.within_calls _ _ _ _).mono fun _ _ h => ⟨h.1, h.2.symm⟩)))
                go_wp2
                go_ret
                exact ⟨by rw [← H.out, HE.out, slotsAll_false (k := k) (by rw [HB.out, HB1.out]; rfl) hlt]; rfl, HD.out.step _⟩
              · have HB1 := Aside0.mk b1
                by_cases h0 : k = 0
                · have hk0 : decide (0 < k) = false := decide_eq_false (by omega)
                  have HZ := Aside0.mk (show (k == 0) = true by simp [h0])
                  clear h0
                  cases b3 : W.inB x.f1 0 1000
                  · have HB3 := Aside0.mk b3
                    go_wp2_with fail
                    go_quiet ((go_at_call 24; exact Calls.quiet_of_same ((W.within_calls _ _ _ _).mono fun _ _ h => ⟨h.1, h.2.symm⟩)))
                    go_wp2
                    go_ret
                    exact ⟨by rw [← H.out, HE.out, slotsAll_false (k := k) (by rw [HB.out, HB1.out, HZ.out, HB3.out]; rfl) hlt]; rfl, HD.out.step _⟩
                  · have HB3 := Aside0.mk b3
                    go_wp2_with fail
                    go_quiet ((go_at_call 24; exact Calls.quiet_of_same ((W.within_calls _ _ _ _).mono fun _ _ h => ⟨h.1, h.2.symm⟩)))
                    go_wp2
                    go_roundw
                    case rel => exact ⟨k + 1, by omega, by go_num, by rw [slotsAll_succ, HA.out, HB.out, HB1.out, HZ.out, HB3.out]; rfl, HD.out.step _⟩
                    case measure => simp [intOf]; omega
                · obtain ⟨j, rfl⟩ : ∃ j, k = j + 1 := ⟨k - 1, by omega⟩
                  have hk0 : decide (0 < j + 1) = true := decide_eq_true (by omega)
                  have HZ := Aside0.mk (show ((j + 1 : Nat) == 0) = false by simp)
                  clear h0
                  obtain ⟨ad', he', hd1, _⟩ := at_T74 (Kd.C_below HR.out HD.out.below) (j : Int) (by omega) (by omega)
                  obtain rfl := Option.some.inj he'
                  rw [Int.toNat_natCast] at hd1
                  rw [show (((j + 1 : Nat) : Int) - 1) = (j : Int) by omega] at HB
                  generalize rd_T74 l0 (j : Int) = y at *
                  cases b2 : decide (y.f0 < x.f0)
                  · have HB2 := Aside0.mk b2
                    have hle : decide (x.f0 ≤ y.f0) = true := decide_eq_true (by have := of_decide_eq_false b2; omega)
                    clear b2
                    go_wp2_with fail
                    go_quiet ((go_at_call 24; exact Calls.quiet_of_same ((W.within_calls _ _ _ _).mono fun _ _ h => ⟨h.1, h.2.symm⟩)))
                    go_wp2
                    go_ret
                    exact ⟨by rw [← H.out, HE.out, slotsAll_false (k := j + 1) (by rw [HB.out, HB1.out, HZ.out, HB2.out]; rfl) hlt]; rfl, HD.out.step _⟩
                  · have HB2 := Aside0.mk b2
                    have hle : decide (x.f0 ≤ y.f0) = false := decide_eq_false (by have := of_decide_eq_true b2; omega)
                    clear b2
                    cases b3 : W.inB x.f1 0 1000
                    · have HB3 := Aside0.mk b3
                      go_wp2_with fail
                      go_quiet ((go_at_call 24; exact Calls.quiet_of_same ((W.within_calls _ _ _ _).mono fun _ _ h => ⟨h.1, h.2.symm⟩)))
                      go_wp2
                      go_ret
                      exact ⟨by rw [← H.out, HE.out, slotsAll_false (k := j + 1) (by rw [HB.out, HB1.out, HZ.out, HB2.out, HB3.out]; rfl) hlt]; rfl, HD.out.step _⟩
                    · have HB3 := Aside0.mk b3
                      go_wp2_with fail
                      go_quiet ((go_at_call 24; exact Calls.quiet_of_same ((W.within_calls _ _ _ _).mono fun _ _ h => ⟨h.1, h.2.symm⟩)))
                      go_wp2
                      go_roundw
                      case rel => exact ⟨j + 1 + 1, by omega, by go_num, by rw [slotsAll_succ, HA.out, HB.out, HB1.out, HZ.out, HB2.out, HB3.out]; rfl, HD.out.step _⟩
                      case measure => simp [intOf]; omega
            · obtain rfl : k = l0.length := by omega
              go_wp2
              go_ret
              exact ⟨by rw [← H.out, HE.out, HA.out]; rfl, HD.out⟩
      · have HN := Aside0.mk z0
        have z0b : ((rd_T74 l0 0).f0 != 0) = true := by simpa using z0
        clear z0
        go_enter Try.func36, Try.ntmps36
        go_wp2
        go_ret
        exact ⟨by rw [← H.out]; unfold slotsB; rw [decide_eq_false HN.out]; simp, Drawn0.refl _⟩
    · go_enter Try.func36, Try.ntmps36
      go_wp2
      go_ret
      exact ⟨by rw [← H.out]; unfold slotsB; rw [decide_eq_false n8]; simp, Drawn0.refl _⟩
  · go_enter Try.func36, Try.ntmps36
    go_wp2
    go_ret
    exact ⟨by rw [← H.out]; unfold slotsB; rw [decide_eq_false n1]; simp, Drawn0.refl _⟩
def governorref09_Policy.f (a0_0 : Int) (a0_1 : Int) (l0_2 : List (S72)) (a0_3 : Int) (a0_4 : Int) (a0_5 : Int) (a0_6 : Int) (l0_7 : List (S74)) : Option (Bool) := if a0_0 = 1 then ((governorref09_within.f a0_1 1 1000000000).bind fun t160 => (if t160 = true then ((governorref09_none.f a0_0 a0_1 l0_2 a0_3 a0_4 a0_5 a0_6 l0_7 false true true true).bind fun t161 => (some t161)) else (some false))) else (if a0_0 = 2 then ((governorref09_bands.f l0_2).bind fun t162 => (if t162 = true then ((governorref09_none.f a0_0 a0_1 l0_2 a0_3 a0_4 a0_5 a0_6 l0_7 true false true true).bind fun t163 => (some t163)) else (some false))) else (if a0_0 = 3 then ((governorref09_within.f a0_3 (-1000000000) 1000000000).bind fun t164 => (if t164 = true then ((governorref09_within.f a0_4 (-1000000000) 1000000000).bind fun t165 => (if t165 = true then ((governorref09_within.f a0_5 (-1000000000) 1000000000).bind fun t166 => (if t166 = true then ((governorref09_within.f a0_1 1 1000000000).bind fun t167 => (if t167 = true then ((governorref09_none.f a0_0 a0_1 l0_2 a0_3 a0_4 a0_5 a0_6 l0_7 false true false true).bind fun t168 => (some t168)) else (some false))) else (some false))) else (some false))) else (some false))) else (if a0_0 = 4 then ((governorref09_slots.f l0_7 a0_6).bind fun t169 => (if t169 = true then ((governorref09_none.f a0_0 a0_1 l0_2 a0_3 a0_4 a0_5 a0_6 l0_7 true true true false).bind fun t170 => (some t170)) else (some false))) else (some false))))
set_option maxHeartbeats 8000000 in
set_option maxRecDepth 100000 in
theorem governorref09_Policy.calls (a0_0 : Int) (a0_1 : Int) (A0_2 : Option Addr) (c0_2 : Nat) (l0_2 : List (S72)) (a0_3 : Int) (a0_4 : Int) (a0_5 : Int) (a0_6 : Int) (A0_7 : Option Addr) (c0_7 : Nat) (l0_7 : List (S74)) (r : Bool) (w : World) (hr0_2 : Kd.C k72 w A0_2 l0_2.length l0_2) (hc0_2 : l0_2.length ≤ c0_2) (hr0_7 : Kd.C k74 w A0_7 l0_7.length l0_7) (hc0_7 : l0_7.length ≤ c0_7) (h : governorref09_Policy.f a0_0 a0_1 l0_2 a0_3 a0_4 a0_5 a0_6 l0_7 = some r) :
    Calls Try.prog 25 #[.agg #[.int .i64 a0_0, .int .i64 a0_1, .slice A0_2 l0_2.length c0_2, .int .i64 a0_3, .int .i64 a0_4, .int .i64 a0_5, .int .i64 a0_6, .slice A0_7 l0_7.length c0_7]] w fun e w' => e = .returned (.bool r) ∧ Below w.heap.size w w' := by
  have hu27 := Try.underlying27
  have HR0_2 := Aside0.mk hr0_2
  have HC0_2 := Aside0.mk hc0_2
  clear hr0_2 hc0_2
  have HR0_7 := Aside0.mk hr0_7
  have HC0_7 := Aside0.mk hc0_7
  clear hr0_7 hc0_7
  have HB := Aside0.mk (Below.refl w.heap.size w)
  have H : (if a0_0 = 1 then ((governorref09_within.f a0_1 1 1000000000).bind fun t160 => (if t160 = true then ((governorref09_none.f a0_0 a0_1 l0_2 a0_3 a0_4 a0_5 a0_6 l0_7 false true true true).bind fun t161 => (some t161)) else (some false))) else (if a0_0 = 2 then ((governorref09_bands.f l0_2).bind fun t162 => (if t162 = true then ((governorref09_none.f a0_0 a0_1 l0_2 a0_3 a0_4 a0_5 a0_6 l0_7 true false true true).bind fun t163 => (some t163)) else (some false))) else (if a0_0 = 3 then ((governorref09_within.f a0_3 (-1000000000) 1000000000).bind fun t164 => (if t164 = true then ((governorref09_within.f a0_4 (-1000000000) 1000000000).bind fun t165 => (if t165 = true then ((governorref09_within.f a0_5 (-1000000000) 1000000000).bind fun t166 => (if t166 = true then ((governorref09_within.f a0_1 1 1000000000).bind fun t167 => (if t167 = true then ((governorref09_none.f a0_0 a0_1 l0_2 a0_3 a0_4 a0_5 a0_6 l0_7 false true false true).bind fun t168 => (some t168)) else (some false))) else (some false))) else (some false))) else (some false))) else (if a0_0 = 4 then ((governorref09_slots.f l0_7 a0_6).bind fun t169 => (if t169 = true then ((governorref09_none.f a0_0 a0_1 l0_2 a0_3 a0_4 a0_5 a0_6 l0_7 true true true false).bind fun t170 => (some t170)) else (some false))) else (some false))))) = some r := h
  clear h
  by_cases c2 : a0_0 = 1
  · rw [if_pos c2] at H
    have c2b0 : (a0_0 == 1) = true := beq_iff_eq.mpr c2
    have c2b1 : (a0_0 != 1) = false := bne_eq_false_iff_eq.mpr c2
    clear c2
    replace H := Option.bind_eq_some_iff.mp H
    obtain ⟨t160, A30, H⟩ := H
    replace H : (if t160 = true then ((governorref09_none.f a0_0 a0_1 l0_2 a0_3 a0_4 a0_5 a0_6 l0_7 false true true true).bind fun t161 => (some t161)) else (some false)) = some r := H
    have A3 := Aside0.mk A30
    clear A30
    by_cases c4 : t160 = true
    · subst c4
      have H1 : ((governorref09_none.f a0_0 a0_1 l0_2 a0_3 a0_4 a0_5 a0_6 l0_7 false true true true).bind fun t161 => (some t161)) = some r := by rw [if_pos rfl] at H; exact H
      clear H
      have H := H1
      clear H1
      replace H := Option.bind_eq_some_iff.mp H
      obtain ⟨t161, A50, H⟩ := H
      replace H : (some t161) = some r := H
      have A5 := Aside0.mk A50
      clear A50
      obtain rfl := Option.some.inj H
      go_enter Try.func25, Try.ntmps25
      go_wp2_with (first | ((with_reducible refine gate_dst (N := 1) rfl ?_); refine box_event ?hg (N := 1) ?hd (cs := #[.int .i64 a0_0, .int .i64 a0_1, .slice A0_2 l0_2.length c0_2, .int .i64 a0_3, .int .i64 a0_4, .int .i64 a0_5, .int .i64 a0_6, .slice A0_7 l0_7.length c0_7]) (t := 27) ?hr ?_; (case hd => rfl); (case hg => rfl); (case hr => first | (go_simp; done) | (go_simp; rfl)); intro gb159 hg w6 hbox hb; have n0_ := Aside0.mk (below_step (by repeat (first | (with_reducible first | exact HB.out | apply below_alloc | apply pw_below_drewN | apply below_drew1) | exact HB.out)) hb); have n1_ := Aside0.mk (hbox); have n2_ := Aside0.mk ((by rw [hg]; exact (below_size (by repeat (first | (with_reducible first | exact HB.out | apply below_alloc | apply pw_below_drewN | apply below_drew1) | exact HB.out))) : w.heap.size ≤ gb159)); have n3_ := Aside0.mk ((by rw [hg]; exact (below_size (by repeat (first | (with_reducible first | exact HB.out | apply below_alloc | apply pw_below_drewN | apply below_drew1) | exact HB.out))) : w.heap.size ≤ gb159)); clear HB; have HB := n0_; have BK159 := n1_; have GW159 := n2_; have GE159 := n3_; clear n0_ n1_ n2_ n3_; clear hb hbox hg; have hcz7_0 : w6.cell? ⟨gb159, 0, none⟩ = some (.int .i64 a0_0) := (blk_cell BK159.out 0).trans rfl; have hcz7_1 : w6.cell? ⟨gb159, 1, none⟩ = some (.int .i64 a0_1) := (blk_cell BK159.out 1).trans rfl; have hcz7_2 : w6.cell? ⟨gb159, 2, none⟩ = some (.slice A0_2 l0_2.length c0_2) := (blk_cell BK159.out 2).trans rfl; have hcz7_3 : w6.cell? ⟨gb159, 3, none⟩ = some (.int .i64 a0_3) := (blk_cell BK159.out 3).trans rfl; have hcz7_4 : w6.cell? ⟨gb159, 4, none⟩ = some (.int .i64 a0_4) := (blk_cell BK159.out 4).trans rfl; have hcz7_5 : w6.cell? ⟨gb159, 5, none⟩ = some (.int .i64 a0_5) := (blk_cell BK159.out 5).trans rfl; have hcz7_6 : w6.cell? ⟨gb159, 6, none⟩ = some (.int .i64 a0_6) := (blk_cell BK159.out 6).trans rfl; have hcz7_7 : w6.cell? ⟨gb159, 7, none⟩ = some (.slice A0_7 l0_7.length c0_7) := (blk_cell BK159.out 7).trans rfl; have hfz7_0 := blk_frozen BK159.out 0; have hfz7_1 := blk_frozen BK159.out 1; have hfz7_2 := blk_frozen BK159.out 2; have hfz7_3 := blk_frozen BK159.out 3; have hfz7_4 := blk_frozen BK159.out 4; have hfz7_5 := blk_frozen BK159.out 5; have hfz7_6 := blk_frozen BK159.out 6; have hfz7_7 := blk_frozen BK159.out 7) | ((with_reducible refine gate_callee (f := 24) rfl ?_); refine goesL_ (some 10) rfl rfl Try.func24 (by kernel_rfl) rfl #[.int .i64 a0_1, .int .i64 1, .int .i64 1000000000] rfl (by (try simp only [List.map_toArray, List.map_cons, List.map_nil]); first | done | rfl | (simp only [List.length_drop, List.length_take]; rfl)) ?_; (with_reducible refine (governorref09_within.calls a0_1 1 1000000000 true _ A3.out).mono ?_); rintro e w' ⟨rfl, ⟨nd, rfl⟩⟩; refine ⟨_, rfl, ?_⟩) | (go_at_call 34; (with_reducible refine (governorref09_none.calls a0_0 a0_1 _ _ l0_2 a0_3 a0_4 a0_5 a0_6 _ _ l0_7 false true true true t161 _ ?side1 ?side2 ?side3 ?side4 A5.out).mono ?_); (case side1 => repeat (first | exact (Kd.C_below HR0_2.out (by repeat (first | (with_reducible first | exact HB.out | apply below_alloc | apply pw_below_drewN | apply below_drew1 | refine below_set ?_ GE159.out) | exact HB.out))) | (with_reducible refine Kd.C_alloc ?_ _) | (with_reducible refine Kd.C_drewN ?_ _) | (with_reducible refine Kd.C_drew ?_))); (case side2 => exact HC0_2.out); (case side3 => repeat (first | exact (Kd.C_below HR0_7.out (by repeat (first | (with_reducible first | exact HB.out | apply below_alloc | apply pw_below_drewN | apply below_drew1 | refine below_set ?_ GE159.out) | exact HB.out))) | (with_reducible refine Kd.C_alloc ?_ _) | (with_reducible refine Kd.C_drewN ?_ _) | (with_reducible refine Kd.C_drew ?_))); (case side4 => exact HC0_7.out); rintro e w8 ⟨rfl, hb⟩; have n0_ := Aside0.mk (blk_below (g := gb159) (o := .cells #[.int .i64 a0_0, .int .i64 a0_1, .slice A0_2 l0_2.length c0_2, .int .i64 a0_3, .int .i64 a0_4, .int .i64 a0_5, .int .i64 a0_6, .slice A0_7 l0_7.length c0_7] 27 (0, 0)) (by (with_reducible repeat (first | refine blk_drewN ?_ _ | refine blk_drew ?_ | refine blk_alloc ?_ _)); exact BK159.out) hb); have n1_ := Aside0.mk (below_step (by repeat (first | (with_reducible first | exact HB.out | apply below_alloc | apply pw_below_drewN | apply below_drew1 | refine below_set ?_ GE159.out) | exact HB.out)) hb); clear BK159; clear HB; have BK159 := n0_; have HB := n1_; clear n0_ n1_; (try clear hb); (try clear hb2); (try clear hk); (try clear hi)))
      go_ret
      exact ⟨by first | rfl | (simp [errW_none, errW_some] <;> rfl) | (simp [*, errW_none, errW_some] <;> rfl), by repeat (first | (with_reducible first | exact HB.out | apply below_alloc | apply pw_below_drewN | apply below_drew1 | refine below_set ?_ GE159.out) | exact HB.out)⟩
    · replace c4 := Bool.eq_false_iff.mpr c4
      subst c4
      have H1 : (some false) = some r := by rw [if_neg (show ¬ (false = true) by decide)] at H; exact H
      clear H
      have H := H1
      clear H1
      obtain rfl := Option.some.inj H
      go_enter Try.func25, Try.ntmps25
      go_wp2_with (first | ((with_reducible refine gate_dst (N := 1) rfl ?_); refine box_event ?hg (N := 1) ?hd (cs := #[.int .i64 a0_0, .int .i64 a0_1, .slice A0_2 l0_2.length c0_2, .int .i64 a0_3, .int .i64 a0_4, .int .i64 a0_5, .int .i64 a0_6, .slice A0_7 l0_7.length c0_7]) (t := 27) ?hr ?_; (case hd => rfl); (case hg => rfl); (case hr => first | (go_simp; done) | (go_simp; rfl)); intro gb159 hg w9 hbox hb; have n0_ := Aside0.mk (below_step (by repeat (first | (with_reducible first | exact HB.out | apply below_alloc | apply pw_below_drewN | apply below_drew1) | exact HB.out)) hb); have n1_ := Aside0.mk (hbox); have n2_ := Aside0.mk ((by rw [hg]; exact (below_size (by repeat (first | (with_reducible first | exact HB.out | apply below_alloc | apply pw_below_drewN | apply below_drew1) | exact HB.out))) : w.heap.size ≤ gb159)); have n3_ := Aside0.mk ((by rw [hg]; exact (below_size (by repeat (first | (with_reducible first | exact HB.out | apply below_alloc | apply pw_below_drewN | apply below_drew1) | exact HB.out))) : w.heap.size ≤ gb159)); clear HB; have HB := n0_; have BK159 := n1_; have GW159 := n2_; have GE159 := n3_; clear n0_ n1_ n2_ n3_; clear hb hbox hg; have hcz10_0 : w9.cell? ⟨gb159, 0, none⟩ = some (.int .i64 a0_0) := (blk_cell BK159.out 0).trans rfl; have hcz10_1 : w9.cell? ⟨gb159, 1, none⟩ = some (.int .i64 a0_1) := (blk_cell BK159.out 1).trans rfl; have hcz10_2 : w9.cell? ⟨gb159, 2, none⟩ = some (.slice A0_2 l0_2.length c0_2) := (blk_cell BK159.out 2).trans rfl; have hcz10_3 : w9.cell? ⟨gb159, 3, none⟩ = some (.int .i64 a0_3) := (blk_cell BK159.out 3).trans rfl; have hcz10_4 : w9.cell? ⟨gb159, 4, none⟩ = some (.int .i64 a0_4) := (blk_cell BK159.out 4).trans rfl; have hcz10_5 : w9.cell? ⟨gb159, 5, none⟩ = some (.int .i64 a0_5) := (blk_cell BK159.out 5).trans rfl; have hcz10_6 : w9.cell? ⟨gb159, 6, none⟩ = some (.int .i64 a0_6) := (blk_cell BK159.out 6).trans rfl; have hcz10_7 : w9.cell? ⟨gb159, 7, none⟩ = some (.slice A0_7 l0_7.length c0_7) := (blk_cell BK159.out 7).trans rfl; have hfz10_0 := blk_frozen BK159.out 0; have hfz10_1 := blk_frozen BK159.out 1; have hfz10_2 := blk_frozen BK159.out 2; have hfz10_3 := blk_frozen BK159.out 3; have hfz10_4 := blk_frozen BK159.out 4; have hfz10_5 := blk_frozen BK159.out 5; have hfz10_6 := blk_frozen BK159.out 6; have hfz10_7 := blk_frozen BK159.out 7) | ((with_reducible refine gate_callee (f := 24) rfl ?_); refine goesL_ (some 10) rfl rfl Try.func24 (by kernel_rfl) rfl #[.int .i64 a0_1, .int .i64 1, .int .i64 1000000000] rfl (by (try simp only [List.map_toArray, List.map_cons, List.map_nil]); first | done | rfl | (simp only [List.length_drop, List.length_take]; rfl)) ?_; (with_reducible refine (governorref09_within.calls a0_1 1 1000000000 false _ A3.out).mono ?_); rintro e w' ⟨rfl, ⟨nd, rfl⟩⟩; refine ⟨_, rfl, ?_⟩))
      go_ret
      exact ⟨by first | rfl | (simp [errW_none, errW_some] <;> rfl) | (simp [*, errW_none, errW_some] <;> rfl), by repeat (first | (with_reducible first | exact HB.out | apply below_alloc | apply pw_below_drewN | apply below_drew1 | refine below_set ?_ GE159.out) | exact HB.out)⟩
  · rw [if_neg c2] at H
    have c2b0 : (a0_0 == 1) = false := beq_eq_false_iff_ne.mpr c2
    have c2b1 : (a0_0 != 1) = true := bne_iff_ne.mpr c2
    by_cases c11 : a0_0 = 2
    · rw [if_pos c11] at H
      have c11b0 : (a0_0 == 2) = true := beq_iff_eq.mpr c11
      have c11b1 : (a0_0 != 2) = false := bne_eq_false_iff_eq.mpr c11
      clear c11
      replace H := Option.bind_eq_some_iff.mp H
      obtain ⟨t162, A120, H⟩ := H
      replace H : (if t162 = true then ((governorref09_none.f a0_0 a0_1 l0_2 a0_3 a0_4 a0_5 a0_6 l0_7 true false true true).bind fun t163 => (some t163)) else (some false)) = some r := H
      have A12 := Aside0.mk A120
      clear A120
      by_cases c13 : t162 = true
      · subst c13
        have H1 : ((governorref09_none.f a0_0 a0_1 l0_2 a0_3 a0_4 a0_5 a0_6 l0_7 true false true true).bind fun t163 => (some t163)) = some r := by rw [if_pos rfl] at H; exact H
        clear H
        have H := H1
        clear H1
        replace H := Option.bind_eq_some_iff.mp H
        obtain ⟨t163, A140, H⟩ := H
        replace H : (some t163) = some r := H
        have A14 := Aside0.mk A140
        clear A140
        obtain rfl := Option.some.inj H
        go_enter Try.func25, Try.ntmps25
        go_wp2_with (first | ((with_reducible refine gate_dst (N := 1) rfl ?_); refine box_event ?hg (N := 1) ?hd (cs := #[.int .i64 a0_0, .int .i64 a0_1, .slice A0_2 l0_2.length c0_2, .int .i64 a0_3, .int .i64 a0_4, .int .i64 a0_5, .int .i64 a0_6, .slice A0_7 l0_7.length c0_7]) (t := 27) ?hr ?_; (case hd => rfl); (case hg => rfl); (case hr => first | (go_simp; done) | (go_simp; rfl)); intro gb159 hg w15 hbox hb; have n0_ := Aside0.mk (below_step (by repeat (first | (with_reducible first | exact HB.out | apply below_alloc | apply pw_below_drewN | apply below_drew1) | exact HB.out)) hb); have n1_ := Aside0.mk (hbox); have n2_ := Aside0.mk ((by rw [hg]; exact (below_size (by repeat (first | (with_reducible first | exact HB.out | apply below_alloc | apply pw_below_drewN | apply below_drew1) | exact HB.out))) : w.heap.size ≤ gb159)); have n3_ := Aside0.mk ((by rw [hg]; exact (below_size (by repeat (first | (with_reducible first | exact HB.out | apply below_alloc | apply pw_below_drewN | apply below_drew1) | exact HB.out))) : w.heap.size ≤ gb159)); clear HB; have HB := n0_; have BK159 := n1_; have GW159 := n2_; have GE159 := n3_; clear n0_ n1_ n2_ n3_; clear hb hbox hg; have hcz16_0 : w15.cell? ⟨gb159, 0, none⟩ = some (.int .i64 a0_0) := (blk_cell BK159.out 0).trans rfl; have hcz16_1 : w15.cell? ⟨gb159, 1, none⟩ = some (.int .i64 a0_1) := (blk_cell BK159.out 1).trans rfl; have hcz16_2 : w15.cell? ⟨gb159, 2, none⟩ = some (.slice A0_2 l0_2.length c0_2) := (blk_cell BK159.out 2).trans rfl; have hcz16_3 : w15.cell? ⟨gb159, 3, none⟩ = some (.int .i64 a0_3) := (blk_cell BK159.out 3).trans rfl; have hcz16_4 : w15.cell? ⟨gb159, 4, none⟩ = some (.int .i64 a0_4) := (blk_cell BK159.out 4).trans rfl; have hcz16_5 : w15.cell? ⟨gb159, 5, none⟩ = some (.int .i64 a0_5) := (blk_cell BK159.out 5).trans rfl; have hcz16_6 : w15.cell? ⟨gb159, 6, none⟩ = some (.int .i64 a0_6) := (blk_cell BK159.out 6).trans rfl; have hcz16_7 : w15.cell? ⟨gb159, 7, none⟩ = some (.slice A0_7 l0_7.length c0_7) := (blk_cell BK159.out 7).trans rfl; have hfz16_0 := blk_frozen BK159.out 0; have hfz16_1 := blk_frozen BK159.out 1; have hfz16_2 := blk_frozen BK159.out 2; have hfz16_3 := blk_frozen BK159.out 3; have hfz16_4 := blk_frozen BK159.out 4; have hfz16_5 := blk_frozen BK159.out 5; have hfz16_6 := blk_frozen BK159.out 6; have hfz16_7 := blk_frozen BK159.out 7) | ((with_reducible refine gate_callee (f := 35) rfl ?_); refine goesL_ (some 19) rfl rfl Try.func35 (by kernel_rfl) rfl #[.slice A0_2 l0_2.length c0_2] rfl (by (try simp only [List.map_toArray, List.map_cons, List.map_nil]); first | done | rfl | (simp only [List.length_drop, List.length_take]; rfl)) ?_; (with_reducible refine (governorref09_bands.calls _ _ l0_2 true _ ?side1 ?side2 A12.out).mono ?_); (case side1 => repeat (first | exact (Kd.C_below HR0_2.out HB.out) | (with_reducible refine Kd.C_alloc ?_ _) | (with_reducible refine Kd.C_drewN ?_ _) | (with_reducible refine Kd.C_drew ?_))); (case side2 => exact HC0_2.out); rintro e w' ⟨rfl, ⟨nd, rfl⟩⟩; refine ⟨_, rfl, ?_⟩) | (go_at_call 34; (with_reducible refine (governorref09_none.calls a0_0 a0_1 _ _ l0_2 a0_3 a0_4 a0_5 a0_6 _ _ l0_7 true false true true t163 _ ?side1 ?side2 ?side3 ?side4 A14.out).mono ?_); (case side1 => repeat (first | exact (Kd.C_below HR0_2.out (by repeat (first | (with_reducible first | exact HB.out | apply below_alloc | apply pw_below_drewN | apply below_drew1 | refine below_set ?_ GE159.out) | exact HB.out))) | (with_reducible refine Kd.C_alloc ?_ _) | (with_reducible refine Kd.C_drewN ?_ _) | (with_reducible refine Kd.C_drew ?_))); (case side2 => exact HC0_2.out); (case side3 => repeat (first | exact (Kd.C_below HR0_7.out (by repeat (first | (with_reducible first | exact HB.out | apply below_alloc | apply pw_below_drewN | apply below_drew1 | refine below_set ?_ GE159.out) | exact HB.out))) | (with_reducible refine Kd.C_alloc ?_ _) | (with_reducible refine Kd.C_drewN ?_ _) | (with_reducible refine Kd.C_drew ?_))); (case side4 => exact HC0_7.out); rintro e w17 ⟨rfl, hb⟩; have n0_ := Aside0.mk (blk_below (g := gb159) (o := .cells #[.int .i64 a0_0, .int .i64 a0_1, .slice A0_2 l0_2.length c0_2, .int .i64 a0_3, .int .i64 a0_4, .int .i64 a0_5, .int .i64 a0_6, .slice A0_7 l0_7.length c0_7] 27 (0, 0)) (by (with_reducible repeat (first | refine blk_drewN ?_ _ | refine blk_drew ?_ | refine blk_alloc ?_ _)); exact BK159.out) hb); have n1_ := Aside0.mk (below_step (by repeat (first | (with_reducible first | exact HB.out | apply below_alloc | apply pw_below_drewN | apply below_drew1 | refine below_set ?_ GE159.out) | exact HB.out)) hb); clear BK159; clear HB; have BK159 := n0_; have HB := n1_; clear n0_ n1_; (try clear hb); (try clear hb2); (try clear hk); (try clear hi)))
        go_ret
        exact ⟨by first | rfl | (simp [errW_none, errW_some] <;> rfl) | (simp [*, errW_none, errW_some] <;> rfl), by repeat (first | (with_reducible first | exact HB.out | apply below_alloc | apply pw_below_drewN | apply below_drew1 | refine below_set ?_ GE159.out) | exact HB.out)⟩
      · replace c13 := Bool.eq_false_iff.mpr c13
        subst c13
        have H1 : (some false) = some r := by rw [if_neg (show ¬ (false = true) by decide)] at H; exact H
        clear H
        have H := H1
        clear H1
        obtain rfl := Option.some.inj H
        go_enter Try.func25, Try.ntmps25
        go_wp2_with (first | ((with_reducible refine gate_dst (N := 1) rfl ?_); refine box_event ?hg (N := 1) ?hd (cs := #[.int .i64 a0_0, .int .i64 a0_1, .slice A0_2 l0_2.length c0_2, .int .i64 a0_3, .int .i64 a0_4, .int .i64 a0_5, .int .i64 a0_6, .slice A0_7 l0_7.length c0_7]) (t := 27) ?hr ?_; (case hd => rfl); (case hg => rfl); (case hr => first | (go_simp; done) | (go_simp; rfl)); intro gb159 hg w18 hbox hb; have n0_ := Aside0.mk (below_step (by repeat (first | (with_reducible first | exact HB.out | apply below_alloc | apply pw_below_drewN | apply below_drew1) | exact HB.out)) hb); have n1_ := Aside0.mk (hbox); have n2_ := Aside0.mk ((by rw [hg]; exact (below_size (by repeat (first | (with_reducible first | exact HB.out | apply below_alloc | apply pw_below_drewN | apply below_drew1) | exact HB.out))) : w.heap.size ≤ gb159)); have n3_ := Aside0.mk ((by rw [hg]; exact (below_size (by repeat (first | (with_reducible first | exact HB.out | apply below_alloc | apply pw_below_drewN | apply below_drew1) | exact HB.out))) : w.heap.size ≤ gb159)); clear HB; have HB := n0_; have BK159 := n1_; have GW159 := n2_; have GE159 := n3_; clear n0_ n1_ n2_ n3_; clear hb hbox hg; have hcz19_0 : w18.cell? ⟨gb159, 0, none⟩ = some (.int .i64 a0_0) := (blk_cell BK159.out 0).trans rfl; have hcz19_1 : w18.cell? ⟨gb159, 1, none⟩ = some (.int .i64 a0_1) := (blk_cell BK159.out 1).trans rfl; have hcz19_2 : w18.cell? ⟨gb159, 2, none⟩ = some (.slice A0_2 l0_2.length c0_2) := (blk_cell BK159.out 2).trans rfl; have hcz19_3 : w18.cell? ⟨gb159, 3, none⟩ = some (.int .i64 a0_3) := (blk_cell BK159.out 3).trans rfl; have hcz19_4 : w18.cell? ⟨gb159, 4, none⟩ = some (.int .i64 a0_4) := (blk_cell BK159.out 4).trans rfl; have hcz19_5 : w18.cell? ⟨gb159, 5, none⟩ = some (.int .i64 a0_5) := (blk_cell BK159.out 5).trans rfl; have hcz19_6 : w18.cell? ⟨gb159, 6, none⟩ = some (.int .i64 a0_6) := (blk_cell BK159.out 6).trans rfl; have hcz19_7 : w18.cell? ⟨gb159, 7, none⟩ = some (.slice A0_7 l0_7.length c0_7) := (blk_cell BK159.out 7).trans rfl; have hfz19_0 := blk_frozen BK159.out 0; have hfz19_1 := blk_frozen BK159.out 1; have hfz19_2 := blk_frozen BK159.out 2; have hfz19_3 := blk_frozen BK159.out 3; have hfz19_4 := blk_frozen BK159.out 4; have hfz19_5 := blk_frozen BK159.out 5; have hfz19_6 := blk_frozen BK159.out 6; have hfz19_7 := blk_frozen BK159.out 7) | ((with_reducible refine gate_callee (f := 35) rfl ?_); refine goesL_ (some 19) rfl rfl Try.func35 (by kernel_rfl) rfl #[.slice A0_2 l0_2.length c0_2] rfl (by (try simp only [List.map_toArray, List.map_cons, List.map_nil]); first | done | rfl | (simp only [List.length_drop, List.length_take]; rfl)) ?_; (with_reducible refine (governorref09_bands.calls _ _ l0_2 false _ ?side1 ?side2 A12.out).mono ?_); (case side1 => repeat (first | exact (Kd.C_below HR0_2.out HB.out) | (with_reducible refine Kd.C_alloc ?_ _) | (with_reducible refine Kd.C_drewN ?_ _) | (with_reducible refine Kd.C_drew ?_))); (case side2 => exact HC0_2.out); rintro e w' ⟨rfl, ⟨nd, rfl⟩⟩; refine ⟨_, rfl, ?_⟩))
        go_ret
        exact ⟨by first | rfl | (simp [errW_none, errW_some] <;> rfl) | (simp [*, errW_none, errW_some] <;> rfl), by repeat (first | (with_reducible first | exact HB.out | apply below_alloc | apply pw_below_drewN | apply below_drew1 | refine below_set ?_ GE159.out) | exact HB.out)⟩
    · rw [if_neg c11] at H
      have c11b0 : (a0_0 == 2) = false := beq_eq_false_iff_ne.mpr c11
      have c11b1 : (a0_0 != 2) = true := bne_iff_ne.mpr c11
      by_cases c20 : a0_0 = 3
      · rw [if_pos c20] at H
        have c20b0 : (a0_0 == 3) = true := beq_iff_eq.mpr c20
        have c20b1 : (a0_0 != 3) = false := bne_eq_false_iff_eq.mpr c20
        clear c20
        replace H := Option.bind_eq_some_iff.mp H
        obtain ⟨t164, A210, H⟩ := H
        replace H : (if t164 = true then ((governorref09_within.f a0_4 (-1000000000) 1000000000).bind fun t165 => (if t165 = true then ((governorref09_within.f a0_5 (-1000000000) 1000000000).bind fun t166 => (if t166 = true then ((governorref09_within.f a0_1 1 1000000000).bind fun t167 => (if t167 = true then ((governorref09_none.f a0_0 a0_1 l0_2 a0_3 a0_4 a0_5 a0_6 l0_7 false true false true).bind fun t168 => (some t168)) else (some false))) else (some false))) else (some false))) else (some false)) = some r := H
        have A21 := Aside0.mk A210
        clear A210
        by_cases c22 : t164 = true
        · subst c22
          have H1 : ((governorref09_within.f a0_4 (-1000000000) 1000000000).bind fun t165 => (if t165 = true then ((governorref09_within.f a0_5 (-1000000000) 1000000000).bind fun t166 => (if t166 = true then ((governorref09_within.f a0_1 1 1000000000).bind fun t167 => (if t167 = true then ((governorref09_none.f a0_0 a0_1 l0_2 a0_3 a0_4 a0_5 a0_6 l0_7 false true false true).bind fun t168 => (some t168)) else (some false))) else (some false))) else (some false))) = some r := by rw [if_pos rfl] at H; exact H
          clear H
          have H := H1
          clear H1
          replace H := Option.bind_eq_some_iff.mp H
          obtain ⟨t165, A230, H⟩ := H
          replace H : (if t165 = true then ((governorref09_within.f a0_5 (-1000000000) 1000000000).bind fun t166 => (if t166 = true then ((governorref09_within.f a0_1 1 1000000000).bind fun t167 => (if t167 = true then ((governorref09_none.f a0_0 a0_1 l0_2 a0_3 a0_4 a0_5 a0_6 l0_7 false true false true).bind fun t168 => (some t168)) else (some false))) else (some false))) else (some false)) = some r := H
          have A23 := Aside0.mk A230
          clear A230
          by_cases c24 : t165 = true
          · subst c24
            have H1 : ((governorref09_within.f a0_5 (-1000000000) 1000000000).bind fun t166 => (if t166 = true then ((governorref09_within.f a0_1 1 1000000000).bind fun t167 => (if t167 = true then ((governorref09_none.f a0_0 a0_1 l0_2 a0_3 a0_4 a0_5 a0_6 l0_7 false true false true).bind fun t168 => (some t168)) else (some false))) else (some false))) = some r := by rw [if_pos rfl] at H; exact H
            clear H
            have H := H1
            clear H1
            replace H := Option.bind_eq_some_iff.mp H
            obtain ⟨t166, A250, H⟩ := H
            replace H : (if t166 = true then ((governorref09_within.f a0_1 1 1000000000).bind fun t167 => (if t167 = true then ((governorref09_none.f a0_0 a0_1 l0_2 a0_3 a0_4 a0_5 a0_6 l0_7 false true false true).bind fun t168 => (some t168)) else (some false))) else (some false)) = some r := H
            have A25 := Aside0.mk A250
            clear A250
            by_cases c26 : t166 = true
            · subst c26
              have H1 : ((governorref09_within.f a0_1 1 1000000000).bind fun t167 => (if t167 = true then ((governorref09_none.f a0_0 a0_1 l0_2 a0_3 a0_4 a0_5 a0_6 l0_7 false true false true).bind fun t168 => (some t168)) else (some false))) = some r := by rw [if_pos rfl] at H; exact H
              clear H
              have H := H1
              clear H1
              replace H := Option.bind_eq_some_iff.mp H
              obtain ⟨t167, A270, H⟩ := H
              replace H : (if t167 = true then ((governorref09_none.f a0_0 a0_1 l0_2 a0_3 a0_4 a0_5 a0_6 l0_7 false true false true).bind fun t168 => (some t168)) else (some false)) = some r := H
              have A27 := Aside0.mk A270
              clear A270
              by_cases c28 : t167 = true
              · subst c28
                have H1 : ((governorref09_none.f a0_0 a0_1 l0_2 a0_3 a0_4 a0_5 a0_6 l0_7 false true false true).bind fun t168 => (some t168)) = some r := by rw [if_pos rfl] at H; exact H
                clear H
                have H := H1
                clear H1
                replace H := Option.bind_eq_some_iff.mp H
                obtain ⟨t168, A290, H⟩ := H
                replace H : (some t168) = some r := H
                have A29 := Aside0.mk A290
                clear A290
                obtain rfl := Option.some.inj H
                go_enter Try.func25, Try.ntmps25
                go_wp2_with (first | ((with_reducible refine gate_dst (N := 1) rfl ?_); refine box_event ?hg (N := 1) ?hd (cs := #[.int .i64 a0_0, .int .i64 a0_1, .slice A0_2 l0_2.length c0_2, .int .i64 a0_3, .int .i64 a0_4, .int .i64 a0_5, .int .i64 a0_6, .slice A0_7 l0_7.length c0_7]) (t := 27) ?hr ?_; (case hd => rfl); (case hg => rfl); (case hr => first | (go_simp; done) | (go_simp; rfl)); intro gb159 hg w30 hbox hb; have n0_ := Aside0.mk (below_step (by repeat (first | (with_reducible first | exact HB.out | apply below_alloc | apply pw_below_drewN | apply below_drew1) | exact HB.out)) hb); have n1_ := Aside0.mk (hbox); have n2_ := Aside0.mk ((by rw [hg]; exact (below_size (by repeat (first | (with_reducible first | exact HB.out | apply below_alloc | apply pw_below_drewN | apply below_drew1) | exact HB.out))) : w.heap.size ≤ gb159)); have n3_ := Aside0.mk ((by rw [hg]; exact (below_size (by repeat (first | (with_reducible first | exact HB.out | apply below_alloc | apply pw_below_drewN | apply below_drew1) | exact HB.out))) : w.heap.size ≤ gb159)); clear HB; have HB := n0_; have BK159 := n1_; have GW159 := n2_; have GE159 := n3_; clear n0_ n1_ n2_ n3_; clear hb hbox hg; have hcz31_0 : w30.cell? ⟨gb159, 0, none⟩ = some (.int .i64 a0_0) := (blk_cell BK159.out 0).trans rfl; have hcz31_1 : w30.cell? ⟨gb159, 1, none⟩ = some (.int .i64 a0_1) := (blk_cell BK159.out 1).trans rfl; have hcz31_2 : w30.cell? ⟨gb159, 2, none⟩ = some (.slice A0_2 l0_2.length c0_2) := (blk_cell BK159.out 2).trans rfl; have hcz31_3 : w30.cell? ⟨gb159, 3, none⟩ = some (.int .i64 a0_3) := (blk_cell BK159.out 3).trans rfl; have hcz31_4 : w30.cell? ⟨gb159, 4, none⟩ = some (.int .i64 a0_4) := (blk_cell BK159.out 4).trans rfl; have hcz31_5 : w30.cell? ⟨gb159, 5, none⟩ = some (.int .i64 a0_5) := (blk_cell BK159.out 5).trans rfl; have hcz31_6 : w30.cell? ⟨gb159, 6, none⟩ = some (.int .i64 a0_6) := (blk_cell BK159.out 6).trans rfl; have hcz31_7 : w30.cell? ⟨gb159, 7, none⟩ = some (.slice A0_7 l0_7.length c0_7) := (blk_cell BK159.out 7).trans rfl; have hfz31_0 := blk_frozen BK159.out 0; have hfz31_1 := blk_frozen BK159.out 1; have hfz31_2 := blk_frozen BK159.out 2; have hfz31_3 := blk_frozen BK159.out 3; have hfz31_4 := blk_frozen BK159.out 4; have hfz31_5 := blk_frozen BK159.out 5; have hfz31_6 := blk_frozen BK159.out 6; have hfz31_7 := blk_frozen BK159.out 7) | ((with_reducible refine gate_callee (f := 24) rfl ?_); refine goesL_ (some 28) rfl rfl Try.func24 (by kernel_rfl) rfl #[.int .i64 a0_3, .int .i64 (-1000000000), .int .i64 1000000000] rfl (by (try simp only [List.map_toArray, List.map_cons, List.map_nil]); first | done | rfl | (simp only [List.length_drop, List.length_take]; rfl)) ?_; (with_reducible refine (governorref09_within.calls a0_3 (-1000000000) 1000000000 true _ A21.out).mono ?_); rintro e w' ⟨rfl, ⟨nd, rfl⟩⟩; refine ⟨_, rfl, ?_⟩) | (go_at_call 24; (with_reducible refine (governorref09_within.calls a0_4 (-1000000000) 1000000000 true _ A23.out).mono ?_); rintro e w' ⟨rfl, ⟨nd, rfl⟩⟩) | (go_at_call 24; (with_reducible refine (governorref09_within.calls a0_5 (-1000000000) 1000000000 true _ A25.out).mono ?_); rintro e w' ⟨rfl, ⟨nd, rfl⟩⟩) | (go_at_call 24; (with_reducible refine (governorref09_within.calls a0_1 1 1000000000 true _ A27.out).mono ?_); rintro e w' ⟨rfl, ⟨nd, rfl⟩⟩) | (go_at_call 34; (with_reducible refine (governorref09_none.calls a0_0 a0_1 _ _ l0_2 a0_3 a0_4 a0_5 a0_6 _ _ l0_7 false true false true t168 _ ?side1 ?side2 ?side3 ?side4 A29.out).mono ?_); (case side1 => repeat (first | exact (Kd.C_below HR0_2.out (by repeat (first | (with_reducible first | exact HB.out | apply below_alloc | apply pw_below_drewN | apply below_drew1 | refine below_set ?_ GE159.out) | exact HB.out))) | (with_reducible refine Kd.C_alloc ?_ _) | (with_reducible refine Kd.C_drewN ?_ _) | (with_reducible refine Kd.C_drew ?_))); (case side2 => exact HC0_2.out); (case side3 => repeat (first | exact (Kd.C_below HR0_7.out (by repeat (first | (with_reducible first | exact HB.out | apply below_alloc | apply pw_below_drewN | apply below_drew1 | refine below_set ?_ GE159.out) | exact HB.out))) | (with_reducible refine Kd.C_alloc ?_ _) | (with_reducible refine Kd.C_drewN ?_ _) | (with_reducible refine Kd.C_drew ?_))); (case side4 => exact HC0_7.out); rintro e w32 ⟨rfl, hb⟩; have n0_ := Aside0.mk (blk_below (g := gb159) (o := .cells #[.int .i64 a0_0, .int .i64 a0_1, .slice A0_2 l0_2.length c0_2, .int .i64 a0_3, .int .i64 a0_4, .int .i64 a0_5, .int .i64 a0_6, .slice A0_7 l0_7.length c0_7] 27 (0, 0)) (by (with_reducible repeat (first | refine blk_drewN ?_ _ | refine blk_drew ?_ | refine blk_alloc ?_ _)); exact BK159.out) hb); have n1_ := Aside0.mk (below_step (by repeat (first | (with_reducible first | exact HB.out | apply below_alloc | apply pw_below_drewN | apply below_drew1 | refine below_set ?_ GE159.out) | exact HB.out)) hb); clear BK159; clear HB; have BK159 := n0_; have HB := n1_; clear n0_ n1_; (try clear hb); (try clear hb2); (try clear hk); (try clear hi)))
                go_ret
                exact ⟨by first | rfl | (simp [errW_none, errW_some] <;> rfl) | (simp [*, errW_none, errW_some] <;> rfl), by repeat (first | (with_reducible first | exact HB.out | apply below_alloc | apply pw_below_drewN | apply below_drew1 | refine below_set ?_ GE159.out) | exact HB.out)⟩
              · replace c28 := Bool.eq_false_iff.mpr c28
                subst c28
                have H1 : (some false) = some r := by rw [if_neg (show ¬ (false = true) by decide)] at H; exact H
                clear H
                have H := H1
                clear H1
                obtain rfl := Option.some.inj H
                go_enter Try.func25, Try.ntmps25
                go_wp2_with (first | ((with_reducible refine gate_dst (N := 1) rfl ?_); refine box_event ?hg (N := 1) ?hd (cs := #[.int .i64 a0_0, .int .i64 a0_1, .slice A0_2 l0_2.length c0_2, .int .i64 a0_3, .int .i64 a0_4, .int .i64 a0_5, .int .i64 a0_6, .slice A0_7 l0_7.length c0_7]) (t := 27) ?hr ?_; (case hd => rfl); (case hg => rfl); (case hr => first | (go_simp; done) | (go_simp; rfl)); intro gb159 hg w33 hbox hb; have n0_ := Aside0.mk (below_step (by repeat (first | (with_reducible first | exact HB.out | apply below_alloc | apply pw_below_drewN | apply below_drew1) | exact HB.out)) hb); have n1_ := Aside0.mk (hbox); have n2_ := Aside0.mk ((by rw [hg]; exact (below_size (by repeat (first | (with_reducible first | exact HB.out | apply below_alloc | apply pw_below_drewN | apply below_drew1) | exact HB.out))) : w.heap.size ≤ gb159)); have n3_ := Aside0.mk ((by rw [hg]; exact (below_size (by repeat (first | (with_reducible first | exact HB.out | apply below_alloc | apply pw_below_drewN | apply below_drew1) | exact HB.out))) : w.heap.size ≤ gb159)); clear HB; have HB := n0_; have BK159 := n1_; have GW159 := n2_; have GE159 := n3_; clear n0_ n1_ n2_ n3_; clear hb hbox hg; have hcz34_0 : w33.cell? ⟨gb159, 0, none⟩ = some (.int .i64 a0_0) := (blk_cell BK159.out 0).trans rfl; have hcz34_1 : w33.cell? ⟨gb159, 1, none⟩ = some (.int .i64 a0_1) := (blk_cell BK159.out 1).trans rfl; have hcz34_2 : w33.cell? ⟨gb159, 2, none⟩ = some (.slice A0_2 l0_2.length c0_2) := (blk_cell BK159.out 2).trans rfl; have hcz34_3 : w33.cell? ⟨gb159, 3, none⟩ = some (.int .i64 a0_3) := (blk_cell BK159.out 3).trans rfl; have hcz34_4 : w33.cell? ⟨gb159, 4, none⟩ = some (.int .i64 a0_4) := (blk_cell BK159.out 4).trans rfl; have hcz34_5 : w33.cell? ⟨gb159, 5, none⟩ = some (.int .i64 a0_5) := (blk_cell BK159.out 5).trans rfl; have hcz34_6 : w33.cell? ⟨gb159, 6, none⟩ = some (.int .i64 a0_6) := (blk_cell BK159.out 6).trans rfl; have hcz34_7 : w33.cell? ⟨gb159, 7, none⟩ = some (.slice A0_7 l0_7.length c0_7) := (blk_cell BK159.out 7).trans rfl; have hfz34_0 := blk_frozen BK159.out 0; have hfz34_1 := blk_frozen BK159.out 1; have hfz34_2 := blk_frozen BK159.out 2; have hfz34_3 := blk_frozen BK159.out 3; have hfz34_4 := blk_frozen BK159.out 4; have hfz34_5 := blk_frozen BK159.out 5; have hfz34_6 := blk_frozen BK159.out 6; have hfz34_7 := blk_frozen BK159.out 7) | ((with_reducible refine gate_callee (f := 24) rfl ?_); refine goesL_ (some 28) rfl rfl Try.func24 (by kernel_rfl) rfl #[.int .i64 a0_3, .int .i64 (-1000000000), .int .i64 1000000000] rfl (by (try simp only [List.map_toArray, List.map_cons, List.map_nil]); first | done | rfl | (simp only [List.length_drop, List.length_take]; rfl)) ?_; (with_reducible refine (governorref09_within.calls a0_3 (-1000000000) 1000000000 true _ A21.out).mono ?_); rintro e w' ⟨rfl, ⟨nd, rfl⟩⟩; refine ⟨_, rfl, ?_⟩) | (go_at_call 24; (with_reducible refine (governorref09_within.calls a0_4 (-1000000000) 1000000000 true _ A23.out).mono ?_); rintro e w' ⟨rfl, ⟨nd, rfl⟩⟩) | (go_at_call 24; (with_reducible refine (governorref09_within.calls a0_5 (-1000000000) 1000000000 true _ A25.out).mono ?_); rintro e w' ⟨rfl, ⟨nd, rfl⟩⟩) | (go_at_call 24; (with_reducible refine (governorref09_within.calls a0_1 1 1000000000 false _ A27.out).mono ?_); rintro e w' ⟨rfl, ⟨nd, rfl⟩⟩))
                go_ret
                exact ⟨by first | rfl | (simp [errW_none, errW_some] <;> rfl) | (simp [*, errW_none, errW_some] <;> rfl), by repeat (first | (with_reducible first | exact HB.out | apply below_alloc | apply pw_below_drewN | apply below_drew1 | refine below_set ?_ GE159.out) | exact HB.out)⟩
            · replace c26 := Bool.eq_false_iff.mpr c26
              subst c26
              have H1 : (some false) = some r := by rw [if_neg (show ¬ (false = true) by decide)] at H; exact H
              clear H
              have H := H1
              clear H1
              obtain rfl := Option.some.inj H
              go_enter Try.func25, Try.ntmps25
              go_wp2_with (first | ((with_reducible refine gate_dst (N := 1) rfl ?_); refine box_event ?hg (N := 1) ?hd (cs := #[.int .i64 a0_0, .int .i64 a0_1, .slice A0_2 l0_2.length c0_2, .int .i64 a0_3, .int .i64 a0_4, .int .i64 a0_5, .int .i64 a0_6, .slice A0_7 l0_7.length c0_7]) (t := 27) ?hr ?_; (case hd => rfl); (case hg => rfl); (case hr => first | (go_simp; done) | (go_simp; rfl)); intro gb159 hg w35 hbox hb; have n0_ := Aside0.mk (below_step (by repeat (first | (with_reducible first | exact HB.out | apply below_alloc | apply pw_below_drewN | apply below_drew1) | exact HB.out)) hb); have n1_ := Aside0.mk (hbox); have n2_ := Aside0.mk ((by rw [hg]; exact (below_size (by repeat (first | (with_reducible first | exact HB.out | apply below_alloc | apply pw_below_drewN | apply below_drew1) | exact HB.out))) : w.heap.size ≤ gb159)); have n3_ := Aside0.mk ((by rw [hg]; exact (below_size (by repeat (first | (with_reducible first | exact HB.out | apply below_alloc | apply pw_below_drewN | apply below_drew1) | exact HB.out))) : w.heap.size ≤ gb159)); clear HB; have HB := n0_; have BK159 := n1_; have GW159 := n2_; have GE159 := n3_; clear n0_ n1_ n2_ n3_; clear hb hbox hg; have hcz36_0 : w35.cell? ⟨gb159, 0, none⟩ = some (.int .i64 a0_0) := (blk_cell BK159.out 0).trans rfl; have hcz36_1 : w35.cell? ⟨gb159, 1, none⟩ = some (.int .i64 a0_1) := (blk_cell BK159.out 1).trans rfl; have hcz36_2 : w35.cell? ⟨gb159, 2, none⟩ = some (.slice A0_2 l0_2.length c0_2) := (blk_cell BK159.out 2).trans rfl; have hcz36_3 : w35.cell? ⟨gb159, 3, none⟩ = some (.int .i64 a0_3) := (blk_cell BK159.out 3).trans rfl; have hcz36_4 : w35.cell? ⟨gb159, 4, none⟩ = some (.int .i64 a0_4) := (blk_cell BK159.out 4).trans rfl; have hcz36_5 : w35.cell? ⟨gb159, 5, none⟩ = some (.int .i64 a0_5) := (blk_cell BK159.out 5).trans rfl; have hcz36_6 : w35.cell? ⟨gb159, 6, none⟩ = some (.int .i64 a0_6) := (blk_cell BK159.out 6).trans rfl; have hcz36_7 : w35.cell? ⟨gb159, 7, none⟩ = some (.slice A0_7 l0_7.length c0_7) := (blk_cell BK159.out 7).trans rfl; have hfz36_0 := blk_frozen BK159.out 0; have hfz36_1 := blk_frozen BK159.out 1; have hfz36_2 := blk_frozen BK159.out 2; have hfz36_3 := blk_frozen BK159.out 3; have hfz36_4 := blk_frozen BK159.out 4; have hfz36_5 := blk_frozen BK159.out 5; have hfz36_6 := blk_frozen BK159.out 6; have hfz36_7 := blk_frozen BK159.out 7) | ((with_reducible refine gate_callee (f := 24) rfl ?_); refine goesL_ (some 28) rfl rfl Try.func24 (by kernel_rfl) rfl #[.int .i64 a0_3, .int .i64 (-1000000000), .int .i64 1000000000] rfl (by (try simp only [List.map_toArray, List.map_cons, List.map_nil]); first | done | rfl | (simp only [List.length_drop, List.length_take]; rfl)) ?_; (with_reducible refine (governorref09_within.calls a0_3 (-1000000000) 1000000000 true _ A21.out).mono ?_); rintro e w' ⟨rfl, ⟨nd, rfl⟩⟩; refine ⟨_, rfl, ?_⟩) | (go_at_call 24; (with_reducible refine (governorref09_within.calls a0_4 (-1000000000) 1000000000 true _ A23.out).mono ?_); rintro e w' ⟨rfl, ⟨nd, rfl⟩⟩) | (go_at_call 24; (with_reducible refine (governorref09_within.calls a0_5 (-1000000000) 1000000000 false _ A25.out).mono ?_); rintro e w' ⟨rfl, ⟨nd, rfl⟩⟩))
              go_ret
              exact ⟨by first | rfl | (simp [errW_none, errW_some] <;> rfl) | (simp [*, errW_none, errW_some] <;> rfl), by repeat (first | (with_reducible first | exact HB.out | apply below_alloc | apply pw_below_drewN | apply below_drew1 | refine below_set ?_ GE159.out) | exact HB.out)⟩
          · replace c24 := Bool.eq_false_iff.mpr c24
            subst c24
            have H1 : (some false) = some r := by rw [if_neg (show ¬ (false = true) by decide)] at H; exact H
            clear H
            have H := H1
            clear H1
            obtain rfl := Option.some.inj H
            go_enter Try.func25, Try.ntmps25
            go_wp2_with (first | ((with_reducible refine gate_dst (N := 1) rfl ?_); refine box_event ?hg (N := 1) ?hd (cs := #[.int .i64 a0_0, .int .i64 a0_1, .slice A0_2 l0_2.length c0_2, .int .i64 a0_3, .int .i64 a0_4, .int .i64 a0_5, .int .i64 a0_6, .slice A0_7 l0_7.length c0_7]) (t := 27) ?hr ?_; (case hd => rfl); (case hg => rfl); (case hr => first | (go_simp; done) | (go_simp; rfl)); intro gb159 hg w37 hbox hb; have n0_ := Aside0.mk (below_step (by repeat (first | (with_reducible first | exact HB.out | apply below_alloc | apply pw_below_drewN | apply below_drew1) | exact HB.out)) hb); have n1_ := Aside0.mk (hbox); have n2_ := Aside0.mk ((by rw [hg]; exact (below_size (by repeat (first | (with_reducible first | exact HB.out | apply below_alloc | apply pw_below_drewN | apply below_drew1) | exact HB.out))) : w.heap.size ≤ gb159)); have n3_ := Aside0.mk ((by rw [hg]; exact (below_size (by repeat (first | (with_reducible first | exact HB.out | apply below_alloc | apply pw_below_drewN | apply below_drew1) | exact HB.out))) : w.heap.size ≤ gb159)); clear HB; have HB := n0_; have BK159 := n1_; have GW159 := n2_; have GE159 := n3_; clear n0_ n1_ n2_ n3_; clear hb hbox hg; have hcz38_0 : w37.cell? ⟨gb159, 0, none⟩ = some (.int .i64 a0_0) := (blk_cell BK159.out 0).trans rfl; have hcz38_1 : w37.cell? ⟨gb159, 1, none⟩ = some (.int .i64 a0_1) := (blk_cell BK159.out 1).trans rfl; have hcz38_2 : w37.cell? ⟨gb159, 2, none⟩ = some (.slice A0_2 l0_2.length c0_2) := (blk_cell BK159.out 2).trans rfl; have hcz38_3 : w37.cell? ⟨gb159, 3, none⟩ = some (.int .i64 a0_3) := (blk_cell BK159.out 3).trans rfl; have hcz38_4 : w37.cell? ⟨gb159, 4, none⟩ = some (.int .i64 a0_4) := (blk_cell BK159.out 4).trans rfl; have hcz38_5 : w37.cell? ⟨gb159, 5, none⟩ = some (.int .i64 a0_5) := (blk_cell BK159.out 5).trans rfl; have hcz38_6 : w37.cell? ⟨gb159, 6, none⟩ = some (.int .i64 a0_6) := (blk_cell BK159.out 6).trans rfl; have hcz38_7 : w37.cell? ⟨gb159, 7, none⟩ = some (.slice A0_7 l0_7.length c0_7) := (blk_cell BK159.out 7).trans rfl; have hfz38_0 := blk_frozen BK159.out 0; have hfz38_1 := blk_frozen BK159.out 1; have hfz38_2 := blk_frozen BK159.out 2; have hfz38_3 := blk_frozen BK159.out 3; have hfz38_4 := blk_frozen BK159.out 4; have hfz38_5 := blk_frozen BK159.out 5; have hfz38_6 := blk_frozen BK159.out 6; have hfz38_7 := blk_frozen BK159.out 7) | ((with_reducible refine gate_callee (f := 24) rfl ?_); refine goesL_ (some 28) rfl rfl Try.func24 (by kernel_rfl) rfl #[.int .i64 a0_3, .int .i64 (-1000000000), .int .i64 1000000000] rfl (by (try simp only [List.map_toArray, List.map_cons, List.map_nil]); first | done | rfl | (simp only [List.length_drop, List.length_take]; rfl)) ?_; (with_reducible refine (governorref09_within.calls a0_3 (-1000000000) 1000000000 true _ A21.out).mono ?_); rintro e w' ⟨rfl, ⟨nd, rfl⟩⟩; refine ⟨_, rfl, ?_⟩) | (go_at_call 24; (with_reducible refine (governorref09_within.calls a0_4 (-1000000000) 1000000000 false _ A23.out).mono ?_); rintro e w' ⟨rfl, ⟨nd, rfl⟩⟩))
            go_ret
            exact ⟨by first | rfl | (simp [errW_none, errW_some] <;> rfl) | (simp [*, errW_none, errW_some] <;> rfl), by repeat (first | (with_reducible first | exact HB.out | apply below_alloc | apply pw_below_drewN | apply below_drew1 | refine below_set ?_ GE159.out) | exact HB.out)⟩
        · replace c22 := Bool.eq_false_iff.mpr c22
          subst c22
          have H1 : (some false) = some r := by rw [if_neg (show ¬ (false = true) by decide)] at H; exact H
          clear H
          have H := H1
          clear H1
          obtain rfl := Option.some.inj H
          go_enter Try.func25, Try.ntmps25
          go_wp2_with (first | ((with_reducible refine gate_dst (N := 1) rfl ?_); refine box_event ?hg (N := 1) ?hd (cs := #[.int .i64 a0_0, .int .i64 a0_1, .slice A0_2 l0_2.length c0_2, .int .i64 a0_3, .int .i64 a0_4, .int .i64 a0_5, .int .i64 a0_6, .slice A0_7 l0_7.length c0_7]) (t := 27) ?hr ?_; (case hd => rfl); (case hg => rfl); (case hr => first | (go_simp; done) | (go_simp; rfl)); intro gb159 hg w39 hbox hb; have n0_ := Aside0.mk (below_step (by repeat (first | (with_reducible first | exact HB.out | apply below_alloc | apply pw_below_drewN | apply below_drew1) | exact HB.out)) hb); have n1_ := Aside0.mk (hbox); have n2_ := Aside0.mk ((by rw [hg]; exact (below_size (by repeat (first | (with_reducible first | exact HB.out | apply below_alloc | apply pw_below_drewN | apply below_drew1) | exact HB.out))) : w.heap.size ≤ gb159)); have n3_ := Aside0.mk ((by rw [hg]; exact (below_size (by repeat (first | (with_reducible first | exact HB.out | apply below_alloc | apply pw_below_drewN | apply below_drew1) | exact HB.out))) : w.heap.size ≤ gb159)); clear HB; have HB := n0_; have BK159 := n1_; have GW159 := n2_; have GE159 := n3_; clear n0_ n1_ n2_ n3_; clear hb hbox hg; have hcz40_0 : w39.cell? ⟨gb159, 0, none⟩ = some (.int .i64 a0_0) := (blk_cell BK159.out 0).trans rfl; have hcz40_1 : w39.cell? ⟨gb159, 1, none⟩ = some (.int .i64 a0_1) := (blk_cell BK159.out 1).trans rfl; have hcz40_2 : w39.cell? ⟨gb159, 2, none⟩ = some (.slice A0_2 l0_2.length c0_2) := (blk_cell BK159.out 2).trans rfl; have hcz40_3 : w39.cell? ⟨gb159, 3, none⟩ = some (.int .i64 a0_3) := (blk_cell BK159.out 3).trans rfl; have hcz40_4 : w39.cell? ⟨gb159, 4, none⟩ = some (.int .i64 a0_4) := (blk_cell BK159.out 4).trans rfl; have hcz40_5 : w39.cell? ⟨gb159, 5, none⟩ = some (.int .i64 a0_5) := (blk_cell BK159.out 5).trans rfl; have hcz40_6 : w39.cell? ⟨gb159, 6, none⟩ = some (.int .i64 a0_6) := (blk_cell BK159.out 6).trans rfl; have hcz40_7 : w39.cell? ⟨gb159, 7, none⟩ = some (.slice A0_7 l0_7.length c0_7) := (blk_cell BK159.out 7).trans rfl; have hfz40_0 := blk_frozen BK159.out 0; have hfz40_1 := blk_frozen BK159.out 1; have hfz40_2 := blk_frozen BK159.out 2; have hfz40_3 := blk_frozen BK159.out 3; have hfz40_4 := blk_frozen BK159.out 4; have hfz40_5 := blk_frozen BK159.out 5; have hfz40_6 := blk_frozen BK159.out 6; have hfz40_7 := blk_frozen BK159.out 7) | ((with_reducible refine gate_callee (f := 24) rfl ?_); refine goesL_ (some 28) rfl rfl Try.func24 (by kernel_rfl) rfl #[.int .i64 a0_3, .int .i64 (-1000000000), .int .i64 1000000000] rfl (by (try simp only [List.map_toArray, List.map_cons, List.map_nil]); first | done | rfl | (simp only [List.length_drop, List.length_take]; rfl)) ?_; (with_reducible refine (governorref09_within.calls a0_3 (-1000000000) 1000000000 false _ A21.out).mono ?_); rintro e w' ⟨rfl, ⟨nd, rfl⟩⟩; refine ⟨_, rfl, ?_⟩))
          go_ret
          exact ⟨by first | rfl | (simp [errW_none, errW_some] <;> rfl) | (simp [*, errW_none, errW_some] <;> rfl), by repeat (first | (with_reducible first | exact HB.out | apply below_alloc | apply pw_below_drewN | apply below_drew1 | refine below_set ?_ GE159.out) | exact HB.out)⟩
      · rw [if_neg c20] at H
        have c20b0 : (a0_0 == 3) = false := beq_eq_false_iff_ne.mpr c20
        have c20b1 : (a0_0 != 3) = true := bne_iff_ne.mpr c20
        by_cases c41 : a0_0 = 4
        · rw [if_pos c41] at H
          have c41b0 : (a0_0 == 4) = true := beq_iff_eq.mpr c41
          have c41b1 : (a0_0 != 4) = false := bne_eq_false_iff_eq.mpr c41
          clear c41
          replace H := Option.bind_eq_some_iff.mp H
          obtain ⟨t169, A420, H⟩ := H
          replace H : (if t169 = true then ((governorref09_none.f a0_0 a0_1 l0_2 a0_3 a0_4 a0_5 a0_6 l0_7 true true true false).bind fun t170 => (some t170)) else (some false)) = some r := H
          have A42 := Aside0.mk A420
          clear A420
          by_cases c43 : t169 = true
          · subst c43
            have H1 : ((governorref09_none.f a0_0 a0_1 l0_2 a0_3 a0_4 a0_5 a0_6 l0_7 true true true false).bind fun t170 => (some t170)) = some r := by rw [if_pos rfl] at H; exact H
            clear H
            have H := H1
            clear H1
            replace H := Option.bind_eq_some_iff.mp H
            obtain ⟨t170, A440, H⟩ := H
            replace H : (some t170) = some r := H
            have A44 := Aside0.mk A440
            clear A440
            obtain rfl := Option.some.inj H
            go_enter Try.func25, Try.ntmps25
            go_wp2_with (first | ((with_reducible refine gate_dst (N := 1) rfl ?_); refine box_event ?hg (N := 1) ?hd (cs := #[.int .i64 a0_0, .int .i64 a0_1, .slice A0_2 l0_2.length c0_2, .int .i64 a0_3, .int .i64 a0_4, .int .i64 a0_5, .int .i64 a0_6, .slice A0_7 l0_7.length c0_7]) (t := 27) ?hr ?_; (case hd => rfl); (case hg => rfl); (case hr => first | (go_simp; done) | (go_simp; rfl)); intro gb159 hg w45 hbox hb; have n0_ := Aside0.mk (below_step (by repeat (first | (with_reducible first | exact HB.out | apply below_alloc | apply pw_below_drewN | apply below_drew1) | exact HB.out)) hb); have n1_ := Aside0.mk (hbox); have n2_ := Aside0.mk ((by rw [hg]; exact (below_size (by repeat (first | (with_reducible first | exact HB.out | apply below_alloc | apply pw_below_drewN | apply below_drew1) | exact HB.out))) : w.heap.size ≤ gb159)); have n3_ := Aside0.mk ((by rw [hg]; exact (below_size (by repeat (first | (with_reducible first | exact HB.out | apply below_alloc | apply pw_below_drewN | apply below_drew1) | exact HB.out))) : w.heap.size ≤ gb159)); clear HB; have HB := n0_; have BK159 := n1_; have GW159 := n2_; have GE159 := n3_; clear n0_ n1_ n2_ n3_; clear hb hbox hg; have hcz46_0 : w45.cell? ⟨gb159, 0, none⟩ = some (.int .i64 a0_0) := (blk_cell BK159.out 0).trans rfl; have hcz46_1 : w45.cell? ⟨gb159, 1, none⟩ = some (.int .i64 a0_1) := (blk_cell BK159.out 1).trans rfl; have hcz46_2 : w45.cell? ⟨gb159, 2, none⟩ = some (.slice A0_2 l0_2.length c0_2) := (blk_cell BK159.out 2).trans rfl; have hcz46_3 : w45.cell? ⟨gb159, 3, none⟩ = some (.int .i64 a0_3) := (blk_cell BK159.out 3).trans rfl; have hcz46_4 : w45.cell? ⟨gb159, 4, none⟩ = some (.int .i64 a0_4) := (blk_cell BK159.out 4).trans rfl; have hcz46_5 : w45.cell? ⟨gb159, 5, none⟩ = some (.int .i64 a0_5) := (blk_cell BK159.out 5).trans rfl; have hcz46_6 : w45.cell? ⟨gb159, 6, none⟩ = some (.int .i64 a0_6) := (blk_cell BK159.out 6).trans rfl; have hcz46_7 : w45.cell? ⟨gb159, 7, none⟩ = some (.slice A0_7 l0_7.length c0_7) := (blk_cell BK159.out 7).trans rfl; have hfz46_0 := blk_frozen BK159.out 0; have hfz46_1 := blk_frozen BK159.out 1; have hfz46_2 := blk_frozen BK159.out 2; have hfz46_3 := blk_frozen BK159.out 3; have hfz46_4 := blk_frozen BK159.out 4; have hfz46_5 := blk_frozen BK159.out 5; have hfz46_6 := blk_frozen BK159.out 6; have hfz46_7 := blk_frozen BK159.out 7) | ((with_reducible refine gate_callee (f := 36) rfl ?_); refine goesL_ (some 55) rfl rfl Try.func36 (by kernel_rfl) rfl #[.slice A0_7 l0_7.length c0_7, .int .i64 a0_6] rfl (by (try simp only [List.map_toArray, List.map_cons, List.map_nil]); first | done | rfl | (simp only [List.length_drop, List.length_take]; rfl)) ?_; (with_reducible refine (governorref09_slots.calls _ _ l0_7 a0_6 true _ ?side1 ?side2 A42.out).mono ?_); (case side1 => repeat (first | exact (Kd.C_below HR0_7.out HB.out) | (with_reducible refine Kd.C_alloc ?_ _) | (with_reducible refine Kd.C_drewN ?_ _) | (with_reducible refine Kd.C_drew ?_))); (case side2 => exact HC0_7.out); rintro e w' ⟨rfl, ⟨nd, rfl⟩⟩; refine ⟨_, rfl, ?_⟩) | (go_at_call 34; (with_reducible refine (governorref09_none.calls a0_0 a0_1 _ _ l0_2 a0_3 a0_4 a0_5 a0_6 _ _ l0_7 true true true false t170 _ ?side1 ?side2 ?side3 ?side4 A44.out).mono ?_); (case side1 => repeat (first | exact (Kd.C_below HR0_2.out (by repeat (first | (with_reducible first | exact HB.out | apply below_alloc | apply pw_below_drewN | apply below_drew1 | refine below_set ?_ GE159.out) | exact HB.out))) | (with_reducible refine Kd.C_alloc ?_ _) | (with_reducible refine Kd.C_drewN ?_ _) | (with_reducible refine Kd.C_drew ?_))); (case side2 => exact HC0_2.out); (case side3 => repeat (first | exact (Kd.C_below HR0_7.out (by repeat (first | (with_reducible first | exact HB.out | apply below_alloc | apply pw_below_drewN | apply below_drew1 | refine below_set ?_ GE159.out) | exact HB.out))) | (with_reducible refine Kd.C_alloc ?_ _) | (with_reducible refine Kd.C_drewN ?_ _) | (with_reducible refine Kd.C_drew ?_))); (case side4 => exact HC0_7.out); rintro e w47 ⟨rfl, hb⟩; have n0_ := Aside0.mk (blk_below (g := gb159) (o := .cells #[.int .i64 a0_0, .int .i64 a0_1, .slice A0_2 l0_2.length c0_2, .int .i64 a0_3, .int .i64 a0_4, .int .i64 a0_5, .int .i64 a0_6, .slice A0_7 l0_7.length c0_7] 27 (0, 0)) (by (with_reducible repeat (first | refine blk_drewN ?_ _ | refine blk_drew ?_ | refine blk_alloc ?_ _)); exact BK159.out) hb); have n1_ := Aside0.mk (below_step (by repeat (first | (with_reducible first | exact HB.out | apply below_alloc | apply pw_below_drewN | apply below_drew1 | refine below_set ?_ GE159.out) | exact HB.out)) hb); clear BK159; clear HB; have BK159 := n0_; have HB := n1_; clear n0_ n1_; (try clear hb); (try clear hb2); (try clear hk); (try clear hi)))
            go_ret
            exact ⟨by first | rfl | (simp [errW_none, errW_some] <;> rfl) | (simp [*, errW_none, errW_some] <;> rfl), by repeat (first | (with_reducible first | exact HB.out | apply below_alloc | apply pw_below_drewN | apply below_drew1 | refine below_set ?_ GE159.out) | exact HB.out)⟩
          · replace c43 := Bool.eq_false_iff.mpr c43
            subst c43
            have H1 : (some false) = some r := by rw [if_neg (show ¬ (false = true) by decide)] at H; exact H
            clear H
            have H := H1
            clear H1
            obtain rfl := Option.some.inj H
            go_enter Try.func25, Try.ntmps25
            go_wp2_with (first | ((with_reducible refine gate_dst (N := 1) rfl ?_); refine box_event ?hg (N := 1) ?hd (cs := #[.int .i64 a0_0, .int .i64 a0_1, .slice A0_2 l0_2.length c0_2, .int .i64 a0_3, .int .i64 a0_4, .int .i64 a0_5, .int .i64 a0_6, .slice A0_7 l0_7.length c0_7]) (t := 27) ?hr ?_; (case hd => rfl); (case hg => rfl); (case hr => first | (go_simp; done) | (go_simp; rfl)); intro gb159 hg w48 hbox hb; have n0_ := Aside0.mk (below_step (by repeat (first | (with_reducible first | exact HB.out | apply below_alloc | apply pw_below_drewN | apply below_drew1) | exact HB.out)) hb); have n1_ := Aside0.mk (hbox); have n2_ := Aside0.mk ((by rw [hg]; exact (below_size (by repeat (first | (with_reducible first | exact HB.out | apply below_alloc | apply pw_below_drewN | apply below_drew1) | exact HB.out))) : w.heap.size ≤ gb159)); have n3_ := Aside0.mk ((by rw [hg]; exact (below_size (by repeat (first | (with_reducible first | exact HB.out | apply below_alloc | apply pw_below_drewN | apply below_drew1) | exact HB.out))) : w.heap.size ≤ gb159)); clear HB; have HB := n0_; have BK159 := n1_; have GW159 := n2_; have GE159 := n3_; clear n0_ n1_ n2_ n3_; clear hb hbox hg; have hcz49_0 : w48.cell? ⟨gb159, 0, none⟩ = some (.int .i64 a0_0) := (blk_cell BK159.out 0).trans rfl; have hcz49_1 : w48.cell? ⟨gb159, 1, none⟩ = some (.int .i64 a0_1) := (blk_cell BK159.out 1).trans rfl; have hcz49_2 : w48.cell? ⟨gb159, 2, none⟩ = some (.slice A0_2 l0_2.length c0_2) := (blk_cell BK159.out 2).trans rfl; have hcz49_3 : w48.cell? ⟨gb159, 3, none⟩ = some (.int .i64 a0_3) := (blk_cell BK159.out 3).trans rfl; have hcz49_4 : w48.cell? ⟨gb159, 4, none⟩ = some (.int .i64 a0_4) := (blk_cell BK159.out 4).trans rfl; have hcz49_5 : w48.cell? ⟨gb159, 5, none⟩ = some (.int .i64 a0_5) := (blk_cell BK159.out 5).trans rfl; have hcz49_6 : w48.cell? ⟨gb159, 6, none⟩ = some (.int .i64 a0_6) := (blk_cell BK159.out 6).trans rfl; have hcz49_7 : w48.cell? ⟨gb159, 7, none⟩ = some (.slice A0_7 l0_7.length c0_7) := (blk_cell BK159.out 7).trans rfl; have hfz49_0 := blk_frozen BK159.out 0; have hfz49_1 := blk_frozen BK159.out 1; have hfz49_2 := blk_frozen BK159.out 2; have hfz49_3 := blk_frozen BK159.out 3; have hfz49_4 := blk_frozen BK159.out 4; have hfz49_5 := blk_frozen BK159.out 5; have hfz49_6 := blk_frozen BK159.out 6; have hfz49_7 := blk_frozen BK159.out 7) | ((with_reducible refine gate_callee (f := 36) rfl ?_); refine goesL_ (some 55) rfl rfl Try.func36 (by kernel_rfl) rfl #[.slice A0_7 l0_7.length c0_7, .int .i64 a0_6] rfl (by (try simp only [List.map_toArray, List.map_cons, List.map_nil]); first | done | rfl | (simp only [List.length_drop, List.length_take]; rfl)) ?_; (with_reducible refine (governorref09_slots.calls _ _ l0_7 a0_6 false _ ?side1 ?side2 A42.out).mono ?_); (case side1 => repeat (first | exact (Kd.C_below HR0_7.out HB.out) | (with_reducible refine Kd.C_alloc ?_ _) | (with_reducible refine Kd.C_drewN ?_ _) | (with_reducible refine Kd.C_drew ?_))); (case side2 => exact HC0_7.out); rintro e w' ⟨rfl, ⟨nd, rfl⟩⟩; refine ⟨_, rfl, ?_⟩))
            go_ret
            exact ⟨by first | rfl | (simp [errW_none, errW_some] <;> rfl) | (simp [*, errW_none, errW_some] <;> rfl), by repeat (first | (with_reducible first | exact HB.out | apply below_alloc | apply pw_below_drewN | apply below_drew1 | refine below_set ?_ GE159.out) | exact HB.out)⟩
        · rw [if_neg c41] at H
          have c41b0 : (a0_0 == 4) = false := beq_eq_false_iff_ne.mpr c41
          have c41b1 : (a0_0 != 4) = true := bne_iff_ne.mpr c41
          obtain rfl := Option.some.inj H
          go_enter Try.func25, Try.ntmps25
          go_wp2_with (first | ((with_reducible refine gate_dst (N := 1) rfl ?_); refine box_event ?hg (N := 1) ?hd (cs := #[.int .i64 a0_0, .int .i64 a0_1, .slice A0_2 l0_2.length c0_2, .int .i64 a0_3, .int .i64 a0_4, .int .i64 a0_5, .int .i64 a0_6, .slice A0_7 l0_7.length c0_7]) (t := 27) ?hr ?_; (case hd => rfl); (case hg => rfl); (case hr => first | (go_simp; done) | (go_simp; rfl)); intro gb159 hg w50 hbox hb; have n0_ := Aside0.mk (below_step (by repeat (first | (with_reducible first | exact HB.out | apply below_alloc | apply pw_below_drewN | apply below_drew1) | exact HB.out)) hb); have n1_ := Aside0.mk (hbox); have n2_ := Aside0.mk ((by rw [hg]; exact (below_size (by repeat (first | (with_reducible first | exact HB.out | apply below_alloc | apply pw_below_drewN | apply below_drew1) | exact HB.out))) : w.heap.size ≤ gb159)); have n3_ := Aside0.mk ((by rw [hg]; exact (below_size (by repeat (first | (with_reducible first | exact HB.out | apply below_alloc | apply pw_below_drewN | apply below_drew1) | exact HB.out))) : w.heap.size ≤ gb159)); clear HB; have HB := n0_; have BK159 := n1_; have GW159 := n2_; have GE159 := n3_; clear n0_ n1_ n2_ n3_; clear hb hbox hg; have hcz51_0 : w50.cell? ⟨gb159, 0, none⟩ = some (.int .i64 a0_0) := (blk_cell BK159.out 0).trans rfl; have hcz51_1 : w50.cell? ⟨gb159, 1, none⟩ = some (.int .i64 a0_1) := (blk_cell BK159.out 1).trans rfl; have hcz51_2 : w50.cell? ⟨gb159, 2, none⟩ = some (.slice A0_2 l0_2.length c0_2) := (blk_cell BK159.out 2).trans rfl; have hcz51_3 : w50.cell? ⟨gb159, 3, none⟩ = some (.int .i64 a0_3) := (blk_cell BK159.out 3).trans rfl; have hcz51_4 : w50.cell? ⟨gb159, 4, none⟩ = some (.int .i64 a0_4) := (blk_cell BK159.out 4).trans rfl; have hcz51_5 : w50.cell? ⟨gb159, 5, none⟩ = some (.int .i64 a0_5) := (blk_cell BK159.out 5).trans rfl; have hcz51_6 : w50.cell? ⟨gb159, 6, none⟩ = some (.int .i64 a0_6) := (blk_cell BK159.out 6).trans rfl; have hcz51_7 : w50.cell? ⟨gb159, 7, none⟩ = some (.slice A0_7 l0_7.length c0_7) := (blk_cell BK159.out 7).trans rfl; have hfz51_0 := blk_frozen BK159.out 0; have hfz51_1 := blk_frozen BK159.out 1; have hfz51_2 := blk_frozen BK159.out 2; have hfz51_3 := blk_frozen BK159.out 3; have hfz51_4 := blk_frozen BK159.out 4; have hfz51_5 := blk_frozen BK159.out 5; have hfz51_6 := blk_frozen BK159.out 6; have hfz51_7 := blk_frozen BK159.out 7))
          go_ret
          exact ⟨by first | rfl | (simp [errW_none, errW_some] <;> rfl) | (simp [*, errW_none, errW_some] <;> rfl), by repeat (first | (with_reducible first | exact HB.out | apply below_alloc | apply pw_below_drewN | apply below_drew1 | refine below_set ?_ GE159.out) | exact HB.out)⟩
def governorref09_Zero.f (a0_0 : Int) (a0_1 : Int) (l0_2 : List (S72)) (a0_3 : Int) (a0_4 : Int) (a0_5 : Int) (a0_6 : Int) (l0_7 : List (S74)) : Option (Bool) := if a0_0 = 0 then ((governorref09_none.f a0_0 a0_1 l0_2 a0_3 a0_4 a0_5 a0_6 l0_7 true true true true).bind fun t172 => (some t172)) else (some false)
set_option maxHeartbeats 8000000 in
set_option maxRecDepth 100000 in
theorem governorref09_Zero.calls (a0_0 : Int) (a0_1 : Int) (A0_2 : Option Addr) (c0_2 : Nat) (l0_2 : List (S72)) (a0_3 : Int) (a0_4 : Int) (a0_5 : Int) (a0_6 : Int) (A0_7 : Option Addr) (c0_7 : Nat) (l0_7 : List (S74)) (r : Bool) (w : World) (hr0_2 : Kd.C k72 w A0_2 l0_2.length l0_2) (hc0_2 : l0_2.length ≤ c0_2) (hr0_7 : Kd.C k74 w A0_7 l0_7.length l0_7) (hc0_7 : l0_7.length ≤ c0_7) (h : governorref09_Zero.f a0_0 a0_1 l0_2 a0_3 a0_4 a0_5 a0_6 l0_7 = some r) :
    Calls Try.prog 26 #[.agg #[.int .i64 a0_0, .int .i64 a0_1, .slice A0_2 l0_2.length c0_2, .int .i64 a0_3, .int .i64 a0_4, .int .i64 a0_5, .int .i64 a0_6, .slice A0_7 l0_7.length c0_7]] w fun e w' => e = .returned (.bool r) ∧ Below w.heap.size w w' := by
  have hu27 := Try.underlying27
  have HR0_2 := Aside0.mk hr0_2
  have HC0_2 := Aside0.mk hc0_2
  clear hr0_2 hc0_2
  have HR0_7 := Aside0.mk hr0_7
  have HC0_7 := Aside0.mk hc0_7
  clear hr0_7 hc0_7
  have HB := Aside0.mk (Below.refl w.heap.size w)
  have H : (if a0_0 = 0 then ((governorref09_none.f a0_0 a0_1 l0_2 a0_3 a0_4 a0_5 a0_6 l0_7 true true true true).bind fun t172 => (some t172)) else (some false)) = some r := h
  clear h
  by_cases c2 : a0_0 = 0
  · rw [if_pos c2] at H
    have c2b0 : (a0_0 == 0) = true := beq_iff_eq.mpr c2
    have c2b1 : (a0_0 != 0) = false := bne_eq_false_iff_eq.mpr c2
    clear c2
    replace H := Option.bind_eq_some_iff.mp H
    obtain ⟨t172, A30, H⟩ := H
    replace H : (some t172) = some r := H
    have A3 := Aside0.mk A30
    clear A30
    obtain rfl := Option.some.inj H
    go_enter Try.func26, Try.ntmps26
    go_wp2_with (first | ((with_reducible refine gate_dst (N := 1) rfl ?_); refine box_event ?hg (N := 1) ?hd (cs := #[.int .i64 a0_0, .int .i64 a0_1, .slice A0_2 l0_2.length c0_2, .int .i64 a0_3, .int .i64 a0_4, .int .i64 a0_5, .int .i64 a0_6, .slice A0_7 l0_7.length c0_7]) (t := 27) ?hr ?_; (case hd => rfl); (case hg => rfl); (case hr => first | (go_simp; done) | (go_simp; rfl)); intro gb171 hg w4 hbox hb; have n0_ := Aside0.mk (below_step (by repeat (first | (with_reducible first | exact HB.out | apply below_alloc | apply pw_below_drewN | apply below_drew1) | exact HB.out)) hb); have n1_ := Aside0.mk (hbox); have n2_ := Aside0.mk ((by rw [hg]; exact (below_size (by repeat (first | (with_reducible first | exact HB.out | apply below_alloc | apply pw_below_drewN | apply below_drew1) | exact HB.out))) : w.heap.size ≤ gb171)); have n3_ := Aside0.mk ((by rw [hg]; exact (below_size (by repeat (first | (with_reducible first | exact HB.out | apply below_alloc | apply pw_below_drewN | apply below_drew1) | exact HB.out))) : w.heap.size ≤ gb171)); clear HB; have HB := n0_; have BK171 := n1_; have GW171 := n2_; have GE171 := n3_; clear n0_ n1_ n2_ n3_; clear hb hbox hg; have hcz5_0 : w4.cell? ⟨gb171, 0, none⟩ = some (.int .i64 a0_0) := (blk_cell BK171.out 0).trans rfl; have hcz5_1 : w4.cell? ⟨gb171, 1, none⟩ = some (.int .i64 a0_1) := (blk_cell BK171.out 1).trans rfl; have hcz5_2 : w4.cell? ⟨gb171, 2, none⟩ = some (.slice A0_2 l0_2.length c0_2) := (blk_cell BK171.out 2).trans rfl; have hcz5_3 : w4.cell? ⟨gb171, 3, none⟩ = some (.int .i64 a0_3) := (blk_cell BK171.out 3).trans rfl; have hcz5_4 : w4.cell? ⟨gb171, 4, none⟩ = some (.int .i64 a0_4) := (blk_cell BK171.out 4).trans rfl; have hcz5_5 : w4.cell? ⟨gb171, 5, none⟩ = some (.int .i64 a0_5) := (blk_cell BK171.out 5).trans rfl; have hcz5_6 : w4.cell? ⟨gb171, 6, none⟩ = some (.int .i64 a0_6) := (blk_cell BK171.out 6).trans rfl; have hcz5_7 : w4.cell? ⟨gb171, 7, none⟩ = some (.slice A0_7 l0_7.length c0_7) := (blk_cell BK171.out 7).trans rfl; have hfz5_0 := blk_frozen BK171.out 0; have hfz5_1 := blk_frozen BK171.out 1; have hfz5_2 := blk_frozen BK171.out 2; have hfz5_3 := blk_frozen BK171.out 3; have hfz5_4 := blk_frozen BK171.out 4; have hfz5_5 := blk_frozen BK171.out 5; have hfz5_6 := blk_frozen BK171.out 6; have hfz5_7 := blk_frozen BK171.out 7) | (go_at_call 34; (with_reducible refine (governorref09_none.calls a0_0 a0_1 _ _ l0_2 a0_3 a0_4 a0_5 a0_6 _ _ l0_7 true true true true t172 _ ?side1 ?side2 ?side3 ?side4 A3.out).mono ?_); (case side1 => repeat (first | exact (Kd.C_below HR0_2.out HB.out) | (with_reducible refine Kd.C_alloc ?_ _) | (with_reducible refine Kd.C_drewN ?_ _) | (with_reducible refine Kd.C_drew ?_))); (case side2 => exact HC0_2.out); (case side3 => repeat (first | exact (Kd.C_below HR0_7.out HB.out) | (with_reducible refine Kd.C_alloc ?_ _) | (with_reducible refine Kd.C_drewN ?_ _) | (with_reducible refine Kd.C_drew ?_))); (case side4 => exact HC0_7.out); rintro e w6 ⟨rfl, hb⟩; have n0_ := Aside0.mk (blk_below (g := gb171) (o := .cells #[.int .i64 a0_0, .int .i64 a0_1, .slice A0_2 l0_2.length c0_2, .int .i64 a0_3, .int .i64 a0_4, .int .i64 a0_5, .int .i64 a0_6, .slice A0_7 l0_7.length c0_7] 27 (0, 0)) (by (with_reducible repeat (first | refine blk_drewN ?_ _ | refine blk_drew ?_ | refine blk_alloc ?_ _)); exact BK171.out) hb); have n1_ := Aside0.mk (below_step (by repeat (first | (with_reducible first | exact HB.out | apply below_alloc | apply pw_below_drewN | apply below_drew1 | refine below_set ?_ GE171.out) | exact HB.out)) hb); clear BK171; clear HB; have BK171 := n0_; have HB := n1_; clear n0_ n1_; (try clear hb); (try clear hb2); (try clear hk); (try clear hi)))
    go_ret
    exact ⟨by first | rfl | (simp [errW_none, errW_some] <;> rfl) | (simp [*, errW_none, errW_some] <;> rfl), by repeat (first | (with_reducible first | exact HB.out | apply below_alloc | apply pw_below_drewN | apply below_drew1 | refine below_set ?_ GE171.out) | exact HB.out)⟩
  · rw [if_neg c2] at H
    have c2b0 : (a0_0 == 0) = false := beq_eq_false_iff_ne.mpr c2
    have c2b1 : (a0_0 != 0) = true := bne_iff_ne.mpr c2
    obtain rfl := Option.some.inj H
    go_enter Try.func26, Try.ntmps26
    go_wp2_with (first | ((with_reducible refine gate_dst (N := 1) rfl ?_); refine box_event ?hg (N := 1) ?hd (cs := #[.int .i64 a0_0, .int .i64 a0_1, .slice A0_2 l0_2.length c0_2, .int .i64 a0_3, .int .i64 a0_4, .int .i64 a0_5, .int .i64 a0_6, .slice A0_7 l0_7.length c0_7]) (t := 27) ?hr ?_; (case hd => rfl); (case hg => rfl); (case hr => first | (go_simp; done) | (go_simp; rfl)); intro gb171 hg w7 hbox hb; have n0_ := Aside0.mk (below_step (by repeat (first | (with_reducible first | exact HB.out | apply below_alloc | apply pw_below_drewN | apply below_drew1) | exact HB.out)) hb); have n1_ := Aside0.mk (hbox); have n2_ := Aside0.mk ((by rw [hg]; exact (below_size (by repeat (first | (with_reducible first | exact HB.out | apply below_alloc | apply pw_below_drewN | apply below_drew1) | exact HB.out))) : w.heap.size ≤ gb171)); have n3_ := Aside0.mk ((by rw [hg]; exact (below_size (by repeat (first | (with_reducible first | exact HB.out | apply below_alloc | apply pw_below_drewN | apply below_drew1) | exact HB.out))) : w.heap.size ≤ gb171)); clear HB; have HB := n0_; have BK171 := n1_; have GW171 := n2_; have GE171 := n3_; clear n0_ n1_ n2_ n3_; clear hb hbox hg; have hcz8_0 : w7.cell? ⟨gb171, 0, none⟩ = some (.int .i64 a0_0) := (blk_cell BK171.out 0).trans rfl; have hcz8_1 : w7.cell? ⟨gb171, 1, none⟩ = some (.int .i64 a0_1) := (blk_cell BK171.out 1).trans rfl; have hcz8_2 : w7.cell? ⟨gb171, 2, none⟩ = some (.slice A0_2 l0_2.length c0_2) := (blk_cell BK171.out 2).trans rfl; have hcz8_3 : w7.cell? ⟨gb171, 3, none⟩ = some (.int .i64 a0_3) := (blk_cell BK171.out 3).trans rfl; have hcz8_4 : w7.cell? ⟨gb171, 4, none⟩ = some (.int .i64 a0_4) := (blk_cell BK171.out 4).trans rfl; have hcz8_5 : w7.cell? ⟨gb171, 5, none⟩ = some (.int .i64 a0_5) := (blk_cell BK171.out 5).trans rfl; have hcz8_6 : w7.cell? ⟨gb171, 6, none⟩ = some (.int .i64 a0_6) := (blk_cell BK171.out 6).trans rfl; have hcz8_7 : w7.cell? ⟨gb171, 7, none⟩ = some (.slice A0_7 l0_7.length c0_7) := (blk_cell BK171.out 7).trans rfl; have hfz8_0 := blk_frozen BK171.out 0; have hfz8_1 := blk_frozen BK171.out 1; have hfz8_2 := blk_frozen BK171.out 2; have hfz8_3 := blk_frozen BK171.out 3; have hfz8_4 := blk_frozen BK171.out 4; have hfz8_5 := blk_frozen BK171.out 5; have hfz8_6 := blk_frozen BK171.out 6; have hfz8_7 := blk_frozen BK171.out 7))
    go_ret
    exact ⟨by first | rfl | (simp [errW_none, errW_some] <;> rfl) | (simp [*, errW_none, errW_some] <;> rfl), by repeat (first | (with_reducible first | exact HB.out | apply below_alloc | apply pw_below_drewN | apply below_drew1 | refine below_set ?_ GE171.out) | exact HB.out)⟩
def allF (r : Int) (l : List Int) : Int := l.foldl (fun a x => wrap64 (a + x)) r
theorem allF_snoc (r : Int) (l : List Int) (x : Int) : allF r (l ++ [x]) = wrap64 (allF r l + x) := by unfold allF; rw [List.foldl_append]; rfl
theorem take_int (l : List Int) (k : Nat) (h : k < l.length) : l.take (k + 1) = l.take k ++ [rd l k] := by
  rw [List.take_succ_eq_append_getElem h]
  unfold rd
  rw [Int.toNat_natCast, List.getD_eq_getElem?_getD, List.getElem?_eq_getElem h]
  rfl
def governorref16_All.f (a0_0 : Int) (l0_1 : List Int) (a0_2 : Int) (a0_3 : Int) : Option (Int) := some (allF a0_0 l0_1)
set_option maxHeartbeats 1000000 in
theorem governorref16_All.calls (a0_0 : Int) (A0_1 : Option Addr) (c0_1 : Nat) (l0_1 : List Int) (a0_2 : Int) (a0_3 : Int) (r : Int) (w : World) (hr0_1 : Kd.C (Kd.int .i64) w A0_1 l0_1.length l0_1) (hc0_1 : l0_1.length ≤ c0_1) (h : governorref16_All.f a0_0 l0_1 a0_2 a0_3 = some r) :
    Calls Try.prog 37 #[.agg #[.int .i64 a0_0, .slice A0_1 l0_1.length c0_1, .int .i64 a0_2, .int .i64 a0_3]] w fun e w' => e = .returned (.int .i64 r) ∧ Below w.heap.size w w' := by
  obtain rfl := Option.some.inj h
  have hu := Try.underlying34
  have hl := hr0_1.2.1
  have HR := Aside0.mk hr0_1
  clear hr0_1 h
  go_enter Try.func37, Try.ntmps37
  go_wp2
  have hb := below_alloc (Below.refl w.heap.size w) (.cells #[.int .i64 a0_0, .slice A0_1 l0_1.length c0_1, .int .i64 a0_2, .int .i64 a0_3] 34)
  have hnew := pick_new w (.cells #[.int .i64 a0_0, .slice A0_1 l0_1.length c0_1, .int .i64 a0_2, .int .i64 a0_3] 34)
  have hc1 := pick_cell hnew 1 rfl
  generalize hW : w.alloc (.cells #[.int .i64 a0_0, .slice A0_1 l0_1.length c0_1, .int .i64 a0_2, .int .i64 a0_3] 34) = W at *
  have HB := Aside0.mk hb
  clear hW hnew hb
  go_loopw [3, 4] (fun s i wr => ∃ k : Nat, k ≤ l0_1.length ∧ i = .int .i64 k ∧ s = .int .i64 (allF a0_0 (l0_1.take k)) ∧ wr = W) (fun _ i _ => l0_1.length - (intOf i).toNat)
  case atStart => exact ⟨0, Nat.zero_le _, rfl, rfl, rfl⟩
  case round =>
    obtain ⟨k, hk, rfl, rfl, rfl⟩ := hrel
    by_cases hlt : k < l0_1.length
    · obtain ⟨ad, rfl, hx⟩ := Kd.at_int (Kd.C_below HR.out HB.out) (k : Int) (by omega) (by omega)
      have HS := Aside0.mk (allF_snoc a0_0 (l0_1.take k) (rd l0_1 k))
      have HT := Aside0.mk (take_int l0_1 k hlt)
      rw [Int.toNat_natCast] at hx
      generalize rd l0_1 k = x at *
      generalize allF a0_0 (l0_1.take k) = s at *
      go_wp2
      go_roundw
      case rel => exact ⟨k + 1, by omega, by go_num, by rw [HT.out, HS.out], by first | rfl | trivial⟩
      case measure => simp [intOf]; omega
    · have HT := Aside0.mk (show l0_1.take k = l0_1 from List.take_of_length_le (by omega))
      go_wp2
      go_ret
      exact ⟨by rw [HT.out]; rfl, HB.out⟩
def plantOk (x : Int) : Bool := !decide (x < 0) && !decide (x > 1000)
def plantB (a0_0 : Int) (l0_1 : List Int) (a0_2 : Int) (a0_3 : Int) : Bool := !decide (a0_0 < 0) && !decide (a0_0 > 1000) && !decide ((l0_1.length : Int) > 8) && !decide (a0_2 < 0) && !decide (a0_2 > 1000000000) && !decide (a0_3 < 0) && !decide (a0_3 > 1000000000) && l0_1.all plantOk && decide (allF a0_0 l0_1 ≤ 1000)
def governorref16_Right.f (a0_0 : Int) (l0_1 : List Int) (a0_2 : Int) (a0_3 : Int) : Option (Bool) := some (plantB a0_0 l0_1 a0_2 a0_3)
theorem all_take {l : List Int} {k : Nat} {p : Int → Bool} (hk : k < l.length) (h : p (rd l k) = false) : l.all p = false := by
  have hm : rd l k ∈ l := by
    unfold rd
    rw [Int.toNat_natCast, List.getD_eq_getElem?_getD, List.getElem?_eq_getElem hk]
    exact List.getElem_mem hk
  rw [List.all_eq_false]
  exact ⟨_, hm, by simp [h]⟩
set_option maxHeartbeats 2000000 in
theorem governorref16_Right.calls (a0_0 : Int) (A0_1 : Option Addr) (c0_1 : Nat) (l0_1 : List Int) (a0_2 : Int) (a0_3 : Int) (r : Bool) (w : World) (hr0_1 : Kd.C (Kd.int .i64) w A0_1 l0_1.length l0_1) (hc0_1 : l0_1.length ≤ c0_1) (h : governorref16_Right.f a0_0 l0_1 a0_2 a0_3 = some r) :
    Calls Try.prog 27 #[.agg #[.int .i64 a0_0, .slice A0_1 l0_1.length c0_1, .int .i64 a0_2, .int .i64 a0_3]] w fun e w' => e = .returned (.bool r) ∧ Below w.heap.size w w' := by
  obtain rfl := Option.some.inj h
  have hu := Try.underlying34
  have hi := (by kernel_rfl : (Try.prog.info? 34).map (·.size) = some 4)
  have hl := hr0_1.2.1
  have HR := Aside0.mk hr0_1
  clear hr0_1 h
  go_enter Try.func27, Try.ntmps27
  go_upto_region 1 with (fail)
  have hb := below_alloc (Below.refl w.heap.size w) (.cells #[.int .i64 a0_0, .slice A0_1 l0_1.length c0_1, .int .i64 a0_2, .int .i64 a0_3] 34)
  have hnew := pick_new w (.cells #[.int .i64 a0_0, .slice A0_1 l0_1.length c0_1, .int .i64 a0_2, .int .i64 a0_3] 34)
  have hc0 := pick_cell hnew 0 rfl
  have hc1 := pick_cell hnew 1 rfl
  have hc2 := pick_cell hnew 2 rfl
  have hc3 := pick_cell hnew 3 rfl
  generalize hW : w.alloc (.cells #[.int .i64 a0_0, .slice A0_1 l0_1.length c0_1, .int .i64 a0_2, .int .i64 a0_3] 34) = W at *
  have HB := Aside0.mk hb
  have HN := Aside0.mk hnew
  clear hW hnew hb
  by_cases h0 : a0_0 < 0
  · have q0 := decide_eq_true h0
    go_wp2
    go_ret
    exact ⟨by rw [show plantB a0_0 l0_1 a0_2 a0_3 = false from by unfold plantB; simp [q0]]; rfl, HB.out⟩
  have q0 := decide_eq_false h0
  by_cases h1 : a0_0 > 1000
  · have q1 := decide_eq_true h1
    go_wp2
    go_ret
    exact ⟨by rw [show plantB a0_0 l0_1 a0_2 a0_3 = false from by unfold plantB; simp [q1]]; rfl, HB.out⟩
  have q1 := decide_eq_false h1
  by_cases h2 : (l0_1.length : Int) > 8
  · have q2 := decide_eq_true h2
    go_wp2
    go_ret
    exact ⟨by rw [show plantB a0_0 l0_1 a0_2 a0_3 = false from by unfold plantB; simp [q2]]; rfl, HB.out⟩
  have q2 := decide_eq_false h2
  by_cases h3 : a0_2 < 0
  · have q3 := decide_eq_true h3
    go_wp2
    go_ret
    exact ⟨by rw [show plantB a0_0 l0_1 a0_2 a0_3 = false from by unfold plantB; simp [q3]]; rfl, HB.out⟩
  have q3 := decide_eq_false h3
  by_cases h4 : a0_2 > 1000000000
  · have q4 := decide_eq_true h4
    go_wp2
    go_ret
    exact ⟨by rw [show plantB a0_0 l0_1 a0_2 a0_3 = false from by unfold plantB; simp [q4]]; rfl, HB.out⟩
  have q4 := decide_eq_false h4
  by_cases h5 : a0_3 < 0
  · have q5 := decide_eq_true h5
    go_wp2
    go_ret
    exact ⟨by rw [show plantB a0_0 l0_1 a0_2 a0_3 = false from by unfold plantB; simp [q5]]; rfl, HB.out⟩
  have q5 := decide_eq_false h5
  by_cases h6 : a0_3 > 1000000000
  · have q6 := decide_eq_true h6
    go_wp2
    go_ret
    exact ⟨by rw [show plantB a0_0 l0_1 a0_2 a0_3 = false from by unfold plantB; simp [q6]]; rfl, HB.out⟩
  have q6 := decide_eq_false h6
  have HP := Aside0.mk (show plantB a0_0 l0_1 a0_2 a0_3 = (l0_1.all plantOk && decide (allF a0_0 l0_1 ≤ 1000)) by unfold plantB; simp only [q0, q1, q2, q3, q4, q5, q6, Bool.not_false, Bool.true_and])
  go_wp2
  clear h0 h1 h2 h3 h4 h5 h6 q0 q1 q2 q3 q4 q5 q6 hc0 hc2 hc3
  go_loopw [3] (fun i wr => ∃ k : Nat, k ≤ l0_1.length ∧ i = .int .i64 k ∧ (l0_1.take k).all plantOk = true ∧ wr = W) (fun i _ => l0_1.length - (intOf i).toNat)
  case atStart => exact ⟨0, Nat.zero_le _, rfl, rfl, rfl⟩
  case round =>
    obtain ⟨k, hk, rfl, hall, rfl⟩ := hrel
    have HA := Aside0.mk hall
    clear hall
    by_cases hlt : k < l0_1.length
    · obtain ⟨ad, rfl, hx⟩ := Kd.at_int (Kd.C_below HR.out HB.out) (k : Int) (by omega) (by omega)
      have HT := Aside0.mk (take_int l0_1 k hlt)
      have HF := Aside0.mk (fun h => all_take (l := l0_1) (p := plantOk) hlt h)
      rw [Int.toNat_natCast] at hx
      generalize rd l0_1 k = x at *
      by_cases x0 : x < 0
      · have z0 := decide_eq_true x0
        go_wp2
        go_ret
        exact ⟨by rw [HP.out, HF.out (by unfold plantOk; rw [z0]; rfl)]; rfl, HB.out⟩
      have z0 := decide_eq_false x0
      by_cases x1 : x > 1000
      · have z1 := decide_eq_true x1
        go_wp2
        go_ret
        exact ⟨by rw [HP.out, HF.out (by unfold plantOk; rw [z0, z1]; rfl)]; rfl, HB.out⟩
      have z1 := decide_eq_false x1
      have HO := Aside0.mk (show plantOk x = true by unfold plantOk; rw [z0, z1]; rfl)
      go_wp2
      go_roundw
      case rel => exact ⟨k + 1, by omega, by go_num, by rw [HT.out, List.all_append, HA.out]; simp [HO.out], by first | rfl | trivial⟩
      case measure => simp [intOf]; omega
    · have HT := Aside0.mk (show l0_1.all plantOk = true by have := HA.out; rwa [List.take_of_length_le (by omega)] at this)
      go_wp2_with (first
        | (with_reducible refine hd_gate 59 rfl ?_); refine hd_run rfl (v := .agg #[.int .i64 a0_0, .slice A0_1 l0_1.length c0_1, .int .i64 a0_2, .int .i64 a0_3]) (w1 := wr) ?hr ?_; (case hr => exact pick_loadRow rfl w.heap.size rfl 34 _ (0, 0) _ HN.out hu rfl hi)
        | (with_reducible refine hd_gate 60 rfl ?_); refine hd_call rfl (by kernel_rfl) (governorref16_All.calls a0_0 A0_1 c0_1 l0_1 a0_2 a0_3 _ wr (Kd.C_below HR.out HB.out) hc0_1 rfl) ?_; rintro e w1 ⟨rfl, hb⟩; refine ⟨_, rfl, ?_⟩; have HB1 := Aside0.mk (below_step HB.out hb); clear hb)
      go_ret
      exact ⟨by rw [HP.out, HT.out]; rfl, HB1.out⟩
theorem pick_mid {w : World} {b : Nat} {t : TypeId} {fr : Nat × Nat} {cs : Array Value} (h : w.heap[b]? = some (.cells cs t fr)) (o : Nat) (p : List Value) (hp : (cs.toList.drop o).take p.length = p) : ∀ j v, p[j]? = some v → w.cell? ((⟨b, o, none⟩ : Addr).add j) = some v := fun j v hj => by
  rw [Addr.add_mid]
  refine pick_cell h _ ?_
  have hlt : j < p.length := (List.getElem?_eq_some_iff.1 hj).1
  rw [← hp, List.getElem?_take_of_lt hlt, List.getElem?_drop] at hj
  rw [← Array.getElem?_toList, hj]
def polB (a0_0 a0_1 : Int) (l0_2 : List S72) (a0_3 a0_4 a0_5 a0_6 : Int) (l0_7 : List S74) : Bool := (governorref09_Policy.f a0_0 a0_1 l0_2 a0_3 a0_4 a0_5 a0_6 l0_7).getD false
theorem pol_some (a0_0 a0_1 : Int) (l0_2 : List S72) (a0_3 a0_4 a0_5 a0_6 : Int) (l0_7 : List S74) : governorref09_Policy.f a0_0 a0_1 l0_2 a0_3 a0_4 a0_5 a0_6 l0_7 = some (polB a0_0 a0_1 l0_2 a0_3 a0_4 a0_5 a0_6 l0_7) := by
  have h : (governorref09_Policy.f a0_0 a0_1 l0_2 a0_3 a0_4 a0_5 a0_6 l0_7).isSome = true := by
    unfold governorref09_Policy.f governorref09_within.f
    simp only [governorref09_none.f, governorref09_bands.f, governorref09_slots.f, Option.bind_some]
    repeat' (first | rfl | split | simp only [Option.bind_some])
  unfold polB
  cases hq : governorref09_Policy.f a0_0 a0_1 l0_2 a0_3 a0_4 a0_5 a0_6 l0_7 with
  | none => rw [hq] at h; cases h
  | some b => rfl
def zeroB (a0_0 a0_1 : Int) (l0_2 : List S72) (a0_3 a0_4 a0_5 a0_6 : Int) (l0_7 : List S74) : Bool := (governorref09_Zero.f a0_0 a0_1 l0_2 a0_3 a0_4 a0_5 a0_6 l0_7).getD false
theorem zero_some (a0_0 a0_1 : Int) (l0_2 : List S72) (a0_3 a0_4 a0_5 a0_6 : Int) (l0_7 : List S74) : governorref09_Zero.f a0_0 a0_1 l0_2 a0_3 a0_4 a0_5 a0_6 l0_7 = some (zeroB a0_0 a0_1 l0_2 a0_3 a0_4 a0_5 a0_6 l0_7) := by
  have h : (governorref09_Zero.f a0_0 a0_1 l0_2 a0_3 a0_4 a0_5 a0_6 l0_7).isSome = true := by
    unfold governorref09_Zero.f
    simp only [governorref09_none.f, Option.bind_some]
    split <;> rfl
  unfold zeroB
  cases hq : governorref09_Zero.f a0_0 a0_1 l0_2 a0_3 a0_4 a0_5 a0_6 l0_7 with
  | none => rw [hq] at h; cases h
  | some b => rfl
def markOk (m : S64) : Bool := !decide (m.f0 < 0) && !decide (m.f0 > 1000000000)
def simB (a0_0 : Int) (a0_1 : Int) (l0_2 : List (S72)) (a0_3 : Int) (a0_4 : Int) (a0_5 : Int) (a0_6 : Int) (l0_7 : List (S74)) (a0_8 : Int) (a0_9 : Int) (a0_10 : Bool) (a0_11 : Int) (a0_12 : Int) (a0_13 : Bool) (a0_14 : Int) (l0_15 : List Int) (a0_16 : Int) (a0_17 : Int) (l0_18 : List (S64)) : Bool := !decide ((l0_2.length : Int) > 8) && !decide ((l0_7.length : Int) > 8) && (polB a0_0 a0_1 l0_2 a0_3 a0_4 a0_5 a0_6 l0_7 || zeroB a0_0 a0_1 l0_2 a0_3 a0_4 a0_5 a0_6 l0_7) && !decide ((l0_15.length : Int) > 8) && plantB a0_14 l0_15 a0_16 a0_17 && !decide ((l0_18.length : Int) > 32) && l0_18.all markOk &&
  (decide (a0_11 ≥ 0) && (decide (a0_11 ≤ 1000) && (decide (a0_12 ≥ 0) && decide (a0_12 ≤ 1099511627776))))
def governorref18_Right.f (a0_0 : Int) (a0_1 : Int) (l0_2 : List (S72)) (a0_3 : Int) (a0_4 : Int) (a0_5 : Int) (a0_6 : Int) (l0_7 : List (S74)) (a0_8 : Int) (a0_9 : Int) (a0_10 : Bool) (a0_11 : Int) (a0_12 : Int) (a0_13 : Bool) (a0_14 : Int) (l0_15 : List Int) (a0_16 : Int) (a0_17 : Int) (l0_18 : List (S64)) : Option (Bool) := some (simB a0_0 a0_1 l0_2 a0_3 a0_4 a0_5 a0_6 l0_7 a0_8 a0_9 a0_10 a0_11 a0_12 a0_13 a0_14 l0_15 a0_16 a0_17 l0_18)
theorem marks_take {l : List S64} {k : Nat} {p : S64 → Bool} (hk : k < l.length) (h : p (rd_T64 l k) = false) : l.all p = false := by
  have hm : rd_T64 l k ∈ l := by
    unfold rd_T64
    rw [Int.toNat_natCast, List.getD_eq_getElem?_getD, List.getElem?_eq_getElem hk]
    exact List.getElem_mem hk
  rw [List.all_eq_false]
  exact ⟨_, hm, by simp [h]⟩
theorem marks_rd (l : List S64) (k : Nat) (h : k < l.length) : l.take (k + 1) = l.take k ++ [rd_T64 l k] := by
  rw [List.take_succ_eq_append_getElem h]
  unfold rd_T64
  rw [Int.toNat_natCast, List.getD_eq_getElem?_getD, List.getElem?_eq_getElem h]
  rfl
set_option maxHeartbeats 4000000 in
set_option maxRecDepth 100000 in
theorem governorref18_Right.calls (a0_0 : Int) (a0_1 : Int) (A0_2 : Option Addr) (c0_2 : Nat) (l0_2 : List (S72)) (a0_3 : Int) (a0_4 : Int) (a0_5 : Int) (a0_6 : Int) (A0_7 : Option Addr) (c0_7 : Nat) (l0_7 : List (S74)) (a0_8 : Int) (a0_9 : Int) (a0_10 : Bool) (a0_11 : Int) (a0_12 : Int) (a0_13 : Bool) (a0_14 : Int) (A0_15 : Option Addr) (c0_15 : Nat) (l0_15 : List Int) (a0_16 : Int) (a0_17 : Int) (A0_18 : Option Addr) (c0_18 : Nat) (l0_18 : List (S64)) (r : Bool) (w : World) (hr0_2 : Kd.C k72 w A0_2 l0_2.length l0_2) (hc0_2 : l0_2.length ≤ c0_2) (hr0_7 : Kd.C k74 w A0_7 l0_7.length l0_7) (hc0_7 : l0_7.length ≤ c0_7) (hr0_15 : Kd.C (Kd.int .i64) w A0_15 l0_15.length l0_15) (hc0_15 : l0_15.length ≤ c0_15) (hr0_18 : Kd.C k64 w A0_18 l0_18.length l0_18) (hc0_18 : l0_18.length ≤ c0_18) (h : governorref18_Right.f a0_0 a0_1 l0_2 a0_3 a0_4 a0_5 a0_6 l0_7 a0_8 a0_9 a0_10 a0_11 a0_12 a0_13 a0_14 l0_15 a0_16 a0_17 l0_18 = some r) :
    Calls Try.prog 10 #[.agg #[.int .i64 a0_0, .int .i64 a0_1, .slice A0_2 l0_2.length c0_2, .int .i64 a0_3, .int .i64 a0_4, .int .i64 a0_5, .int .i64 a0_6, .slice A0_7 l0_7.length c0_7, .int .i64 a0_8, .int .i64 a0_9, .bool a0_10, .int .i64 a0_11, .int .i64 a0_12, .bool a0_13, .int .i64 a0_14, .slice A0_15 l0_15.length c0_15, .int .i64 a0_16, .int .i64 a0_17, .slice A0_18 l0_18.length c0_18]] w fun e w' => e = .returned (.bool r) ∧ Below w.heap.size w w' := by
  obtain rfl := Option.some.inj h
  clear h
  have hu37 := Try.underlying37
  have hu27 := Try.underlying27
  have hu34 := Try.underlying34
  have hu31 := Try.underlying31
  have hu64 := Try.underlying64
  have hi27 : (Try.prog.info? 27).map (·.size) = some 8 := by kernel_rfl
  have hi34 : (Try.prog.info? 34).map (·.size) = some 4 := by kernel_rfl
  have hl2 := hr0_2.2.1
  have hl7 := hr0_7.2.1
  have hl15 := hr0_15.2.1
  have hl18 := hr0_18.2.1
  have R2 := Aside0.mk hr0_2
  have R7 := Aside0.mk hr0_7
  have R15 := Aside0.mk hr0_15
  have R18 := Aside0.mk hr0_18
  have HP := Aside0.mk (pol_some a0_0 a0_1 l0_2 a0_3 a0_4 a0_5 a0_6 l0_7)
  have HZ := Aside0.mk (zero_some a0_0 a0_1 l0_2 a0_3 a0_4 a0_5 a0_6 l0_7)
  clear hr0_2 hr0_7 hr0_15 hr0_18
  go_enter Try.func10, Try.ntmps10
  go_upto_region 1 with (fail)
  have hb := below_alloc (Below.refl w.heap.size w) (.cells #[.int .i64 a0_0, .int .i64 a0_1, .slice A0_2 l0_2.length c0_2, .int .i64 a0_3, .int .i64 a0_4, .int .i64 a0_5, .int .i64 a0_6, .slice A0_7 l0_7.length c0_7, .int .i64 a0_8, .int .i64 a0_9, .bool a0_10, .int .i64 a0_11, .int .i64 a0_12, .bool a0_13, .int .i64 a0_14, .slice A0_15 l0_15.length c0_15, .int .i64 a0_16, .int .i64 a0_17, .slice A0_18 l0_18.length c0_18] 37)
  have hnew := pick_new w (.cells #[.int .i64 a0_0, .int .i64 a0_1, .slice A0_2 l0_2.length c0_2, .int .i64 a0_3, .int .i64 a0_4, .int .i64 a0_5, .int .i64 a0_6, .slice A0_7 l0_7.length c0_7, .int .i64 a0_8, .int .i64 a0_9, .bool a0_10, .int .i64 a0_11, .int .i64 a0_12, .bool a0_13, .int .i64 a0_14, .slice A0_15 l0_15.length c0_15, .int .i64 a0_16, .int .i64 a0_17, .slice A0_18 l0_18.length c0_18] 37)
  generalize hW : w.alloc (.cells #[.int .i64 a0_0, .int .i64 a0_1, .slice A0_2 l0_2.length c0_2, .int .i64 a0_3, .int .i64 a0_4, .int .i64 a0_5, .int .i64 a0_6, .slice A0_7 l0_7.length c0_7, .int .i64 a0_8, .int .i64 a0_9, .bool a0_10, .int .i64 a0_11, .int .i64 a0_12, .bool a0_13, .int .i64 a0_14, .slice A0_15 l0_15.length c0_15, .int .i64 a0_16, .int .i64 a0_17, .slice A0_18 l0_18.length c0_18] 37) = W at *
  have HB := Aside0.mk hb
  have HN := Aside0.mk hnew
  have hc2 := pick_cell hnew 2 rfl
  have hc7 := pick_cell hnew 7 rfl
  have hc15 := pick_cell hnew 15 rfl
  have hc18 := pick_cell hnew 18 rfl
  clear hW hnew hb
  by_cases h0 : (l0_2.length : Int) > 8
  · have q0 := decide_eq_true h0
    go_wp2
    go_ret
    exact ⟨by rw [show simB a0_0 a0_1 l0_2 a0_3 a0_4 a0_5 a0_6 l0_7 a0_8 a0_9 a0_10 a0_11 a0_12 a0_13 a0_14 l0_15 a0_16 a0_17 l0_18 = false from by unfold simB; simp [q0]]; rfl, HB.out⟩
  have q0 := decide_eq_false h0
  by_cases h1 : (l0_7.length : Int) > 8
  · have q1 := decide_eq_true h1
    go_wp2
    go_ret
    exact ⟨by rw [show simB a0_0 a0_1 l0_2 a0_3 a0_4 a0_5 a0_6 l0_7 a0_8 a0_9 a0_10 a0_11 a0_12 a0_13 a0_14 l0_15 a0_16 a0_17 l0_18 = false from by unfold simB; simp [q1]]; rfl, HB.out⟩
  have q1 := decide_eq_false h1
  cases hpb : polB a0_0 a0_1 l0_2 a0_3 a0_4 a0_5 a0_6 l0_7
  · have HPB := Aside0.mk hpb
    clear hpb
    cases hzb : zeroB a0_0 a0_1 l0_2 a0_3 a0_4 a0_5 a0_6 l0_7
    · have HZB := Aside0.mk hzb
      clear hzb
      go_wp2_with (first
          | (with_reducible refine hd_gate 18 rfl ?_); refine hd_run rfl (v := .agg #[.int .i64 a0_0, .int .i64 a0_1, .slice A0_2 l0_2.length c0_2, .int .i64 a0_3, .int .i64 a0_4, .int .i64 a0_5, .int .i64 a0_6, .slice A0_7 l0_7.length c0_7]) (w1 := W) ?hr ?_; (case hr => exact pick_load rfl rfl (pick_loadAt W ⟨w.heap.size, 0, none⟩ 27 [.int .i64 a0_0, .int .i64 a0_1, .slice A0_2 l0_2.length c0_2, .int .i64 a0_3, .int .i64 a0_4, .int .i64 a0_5, .int .i64 a0_6, .slice A0_7 l0_7.length c0_7] _ (pick_prefix [.int .i64 a0_0, .int .i64 a0_1, .slice A0_2 l0_2.length c0_2, .int .i64 a0_3, .int .i64 a0_4, .int .i64 a0_5, .int .i64 a0_6, .slice A0_7 l0_7.length c0_7] [.int .i64 a0_8, .int .i64 a0_9, .bool a0_10, .int .i64 a0_11, .int .i64 a0_12, .bool a0_13, .int .i64 a0_14, .slice A0_15 l0_15.length c0_15, .int .i64 a0_16, .int .i64 a0_17, .slice A0_18 l0_18.length c0_18] HN.out) hu27 rfl hi27))
          | (with_reducible refine hd_gate 19 rfl ?_); refine hd_call rfl (by kernel_rfl) (governorref09_Policy.calls a0_0 a0_1 A0_2 c0_2 l0_2 a0_3 a0_4 a0_5 a0_6 A0_7 c0_7 l0_7 false W (Kd.C_below R2.out HB.out) hc0_2 (Kd.C_below R7.out HB.out) hc0_7 (by rw [HP.out, HPB.out])) ?_; rintro e W1 ⟨rfl, hb⟩; refine ⟨_, rfl, ?_⟩; have HB1 := Aside0.mk (below_step HB.out hb); have HN1 := Aside0.mk (hd_later HN.out hb); have hd15 := pick_cell HN1.out 15 rfl; have hd18 := pick_cell HN1.out 18 rfl; clear hb
          | (with_reducible refine hd_gate 23 rfl ?_); refine hd_run rfl (v := .agg #[.int .i64 a0_0, .int .i64 a0_1, .slice A0_2 l0_2.length c0_2, .int .i64 a0_3, .int .i64 a0_4, .int .i64 a0_5, .int .i64 a0_6, .slice A0_7 l0_7.length c0_7]) (w1 := W1) ?hr ?_; (case hr => exact pick_load rfl rfl (pick_loadAt W1 ⟨w.heap.size, 0, none⟩ 27 [.int .i64 a0_0, .int .i64 a0_1, .slice A0_2 l0_2.length c0_2, .int .i64 a0_3, .int .i64 a0_4, .int .i64 a0_5, .int .i64 a0_6, .slice A0_7 l0_7.length c0_7] _ (pick_prefix [.int .i64 a0_0, .int .i64 a0_1, .slice A0_2 l0_2.length c0_2, .int .i64 a0_3, .int .i64 a0_4, .int .i64 a0_5, .int .i64 a0_6, .slice A0_7 l0_7.length c0_7] [.int .i64 a0_8, .int .i64 a0_9, .bool a0_10, .int .i64 a0_11, .int .i64 a0_12, .bool a0_13, .int .i64 a0_14, .slice A0_15 l0_15.length c0_15, .int .i64 a0_16, .int .i64 a0_17, .slice A0_18 l0_18.length c0_18] HN1.out) hu27 rfl hi27))
          | (with_reducible refine hd_gate 24 rfl ?_); refine hd_call rfl (by kernel_rfl) (governorref09_Zero.calls a0_0 a0_1 A0_2 c0_2 l0_2 a0_3 a0_4 a0_5 a0_6 A0_7 c0_7 l0_7 false W1 (Kd.C_below R2.out HB1.out) hc0_2 (Kd.C_below R7.out HB1.out) hc0_7 (by rw [HZ.out, HZB.out])) ?_; rintro e W2 ⟨rfl, hb⟩; refine ⟨_, rfl, ?_⟩; have HB2 := Aside0.mk (below_step HB1.out hb); have HN2 := Aside0.mk (hd_later HN1.out hb); have he15 := pick_cell HN2.out 15 rfl; have he18 := pick_cell HN2.out 18 rfl; clear hb)
      go_ret
      exact ⟨by rw [show simB a0_0 a0_1 l0_2 a0_3 a0_4 a0_5 a0_6 l0_7 a0_8 a0_9 a0_10 a0_11 a0_12 a0_13 a0_14 l0_15 a0_16 a0_17 l0_18 = false from by unfold simB; simp [HPB.out, HZB.out]]; rfl, HB2.out⟩
    · have HZB := Aside0.mk hzb
      clear hzb
      by_cases h2 : (l0_15.length : Int) > 8
      · have q2 := decide_eq_true h2
        go_wp2_with (first
            | (with_reducible refine hd_gate 18 rfl ?_); refine hd_run rfl (v := .agg #[.int .i64 a0_0, .int .i64 a0_1, .slice A0_2 l0_2.length c0_2, .int .i64 a0_3, .int .i64 a0_4, .int .i64 a0_5, .int .i64 a0_6, .slice A0_7 l0_7.length c0_7]) (w1 := W) ?hr ?_; (case hr => exact pick_load rfl rfl (pick_loadAt W ⟨w.heap.size, 0, none⟩ 27 [.int .i64 a0_0, .int .i64 a0_1, .slice A0_2 l0_2.length c0_2, .int .i64 a0_3, .int .i64 a0_4, .int .i64 a0_5, .int .i64 a0_6, .slice A0_7 l0_7.length c0_7] _ (pick_prefix [.int .i64 a0_0, .int .i64 a0_1, .slice A0_2 l0_2.length c0_2, .int .i64 a0_3, .int .i64 a0_4, .int .i64 a0_5, .int .i64 a0_6, .slice A0_7 l0_7.length c0_7] [.int .i64 a0_8, .int .i64 a0_9, .bool a0_10, .int .i64 a0_11, .int .i64 a0_12, .bool a0_13, .int .i64 a0_14, .slice A0_15 l0_15.length c0_15, .int .i64 a0_16, .int .i64 a0_17, .slice A0_18 l0_18.length c0_18] HN.out) hu27 rfl hi27))
            | (with_reducible refine hd_gate 19 rfl ?_); refine hd_call rfl (by kernel_rfl) (governorref09_Policy.calls a0_0 a0_1 A0_2 c0_2 l0_2 a0_3 a0_4 a0_5 a0_6 A0_7 c0_7 l0_7 false W (Kd.C_below R2.out HB.out) hc0_2 (Kd.C_below R7.out HB.out) hc0_7 (by rw [HP.out, HPB.out])) ?_; rintro e W1 ⟨rfl, hb⟩; refine ⟨_, rfl, ?_⟩; have HB1 := Aside0.mk (below_step HB.out hb); have HN1 := Aside0.mk (hd_later HN.out hb); have hd15 := pick_cell HN1.out 15 rfl; have hd18 := pick_cell HN1.out 18 rfl; clear hb
            | (with_reducible refine hd_gate 23 rfl ?_); refine hd_run rfl (v := .agg #[.int .i64 a0_0, .int .i64 a0_1, .slice A0_2 l0_2.length c0_2, .int .i64 a0_3, .int .i64 a0_4, .int .i64 a0_5, .int .i64 a0_6, .slice A0_7 l0_7.length c0_7]) (w1 := W1) ?hr ?_; (case hr => exact pick_load rfl rfl (pick_loadAt W1 ⟨w.heap.size, 0, none⟩ 27 [.int .i64 a0_0, .int .i64 a0_1, .slice A0_2 l0_2.length c0_2, .int .i64 a0_3, .int .i64 a0_4, .int .i64 a0_5, .int .i64 a0_6, .slice A0_7 l0_7.length c0_7] _ (pick_prefix [.int .i64 a0_0, .int .i64 a0_1, .slice A0_2 l0_2.length c0_2, .int .i64 a0_3, .int .i64 a0_4, .int .i64 a0_5, .int .i64 a0_6, .slice A0_7 l0_7.length c0_7] [.int .i64 a0_8, .int .i64 a0_9, .bool a0_10, .int .i64 a0_11, .int .i64 a0_12, .bool a0_13, .int .i64 a0_14, .slice A0_15 l0_15.length c0_15, .int .i64 a0_16, .int .i64 a0_17, .slice A0_18 l0_18.length c0_18] HN1.out) hu27 rfl hi27))
            | (with_reducible refine hd_gate 24 rfl ?_); refine hd_call rfl (by kernel_rfl) (governorref09_Zero.calls a0_0 a0_1 A0_2 c0_2 l0_2 a0_3 a0_4 a0_5 a0_6 A0_7 c0_7 l0_7 true W1 (Kd.C_below R2.out HB1.out) hc0_2 (Kd.C_below R7.out HB1.out) hc0_7 (by rw [HZ.out, HZB.out])) ?_; rintro e W2 ⟨rfl, hb⟩; refine ⟨_, rfl, ?_⟩; have HB2 := Aside0.mk (below_step HB1.out hb); have HN2 := Aside0.mk (hd_later HN1.out hb); have he15 := pick_cell HN2.out 15 rfl; have he18 := pick_cell HN2.out 18 rfl; clear hb)
        go_ret
        exact ⟨by rw [show simB a0_0 a0_1 l0_2 a0_3 a0_4 a0_5 a0_6 l0_7 a0_8 a0_9 a0_10 a0_11 a0_12 a0_13 a0_14 l0_15 a0_16 a0_17 l0_18 = false from by unfold simB; simp [q2]]; rfl, HB2.out⟩
      have q2 := decide_eq_false h2
      cases hpl : plantB a0_14 l0_15 a0_16 a0_17
      · have HPL := Aside0.mk hpl
        clear hpl
        go_wp2_with (first
            | (with_reducible refine hd_gate 18 rfl ?_); refine hd_run rfl (v := .agg #[.int .i64 a0_0, .int .i64 a0_1, .slice A0_2 l0_2.length c0_2, .int .i64 a0_3, .int .i64 a0_4, .int .i64 a0_5, .int .i64 a0_6, .slice A0_7 l0_7.length c0_7]) (w1 := W) ?hr ?_; (case hr => exact pick_load rfl rfl (pick_loadAt W ⟨w.heap.size, 0, none⟩ 27 [.int .i64 a0_0, .int .i64 a0_1, .slice A0_2 l0_2.length c0_2, .int .i64 a0_3, .int .i64 a0_4, .int .i64 a0_5, .int .i64 a0_6, .slice A0_7 l0_7.length c0_7] _ (pick_prefix [.int .i64 a0_0, .int .i64 a0_1, .slice A0_2 l0_2.length c0_2, .int .i64 a0_3, .int .i64 a0_4, .int .i64 a0_5, .int .i64 a0_6, .slice A0_7 l0_7.length c0_7] [.int .i64 a0_8, .int .i64 a0_9, .bool a0_10, .int .i64 a0_11, .int .i64 a0_12, .bool a0_13, .int .i64 a0_14, .slice A0_15 l0_15.length c0_15, .int .i64 a0_16, .int .i64 a0_17, .slice A0_18 l0_18.length c0_18] HN.out) hu27 rfl hi27))
            | (with_reducible refine hd_gate 19 rfl ?_); refine hd_call rfl (by kernel_rfl) (governorref09_Policy.calls a0_0 a0_1 A0_2 c0_2 l0_2 a0_3 a0_4 a0_5 a0_6 A0_7 c0_7 l0_7 false W (Kd.C_below R2.out HB.out) hc0_2 (Kd.C_below R7.out HB.out) hc0_7 (by rw [HP.out, HPB.out])) ?_; rintro e W1 ⟨rfl, hb⟩; refine ⟨_, rfl, ?_⟩; have HB1 := Aside0.mk (below_step HB.out hb); have HN1 := Aside0.mk (hd_later HN.out hb); have hd15 := pick_cell HN1.out 15 rfl; have hd18 := pick_cell HN1.out 18 rfl; clear hb
            | (with_reducible refine hd_gate 23 rfl ?_); refine hd_run rfl (v := .agg #[.int .i64 a0_0, .int .i64 a0_1, .slice A0_2 l0_2.length c0_2, .int .i64 a0_3, .int .i64 a0_4, .int .i64 a0_5, .int .i64 a0_6, .slice A0_7 l0_7.length c0_7]) (w1 := W1) ?hr ?_; (case hr => exact pick_load rfl rfl (pick_loadAt W1 ⟨w.heap.size, 0, none⟩ 27 [.int .i64 a0_0, .int .i64 a0_1, .slice A0_2 l0_2.length c0_2, .int .i64 a0_3, .int .i64 a0_4, .int .i64 a0_5, .int .i64 a0_6, .slice A0_7 l0_7.length c0_7] _ (pick_prefix [.int .i64 a0_0, .int .i64 a0_1, .slice A0_2 l0_2.length c0_2, .int .i64 a0_3, .int .i64 a0_4, .int .i64 a0_5, .int .i64 a0_6, .slice A0_7 l0_7.length c0_7] [.int .i64 a0_8, .int .i64 a0_9, .bool a0_10, .int .i64 a0_11, .int .i64 a0_12, .bool a0_13, .int .i64 a0_14, .slice A0_15 l0_15.length c0_15, .int .i64 a0_16, .int .i64 a0_17, .slice A0_18 l0_18.length c0_18] HN1.out) hu27 rfl hi27))
            | (with_reducible refine hd_gate 24 rfl ?_); refine hd_call rfl (by kernel_rfl) (governorref09_Zero.calls a0_0 a0_1 A0_2 c0_2 l0_2 a0_3 a0_4 a0_5 a0_6 A0_7 c0_7 l0_7 true W1 (Kd.C_below R2.out HB1.out) hc0_2 (Kd.C_below R7.out HB1.out) hc0_7 (by rw [HZ.out, HZB.out])) ?_; rintro e W2 ⟨rfl, hb⟩; refine ⟨_, rfl, ?_⟩; have HB2 := Aside0.mk (below_step HB1.out hb); have HN2 := Aside0.mk (hd_later HN1.out hb); have he15 := pick_cell HN2.out 15 rfl; have he18 := pick_cell HN2.out 18 rfl; clear hb
            | (with_reducible refine hd_gate 37 rfl ?_); refine hd_run rfl (v := .agg #[.int .i64 a0_14, .slice A0_15 l0_15.length c0_15, .int .i64 a0_16, .int .i64 a0_17]) (w1 := W2) ?hr ?_; (case hr => exact pick_load rfl rfl (pick_loadAt W2 ⟨w.heap.size, 14, none⟩ 34 [.int .i64 a0_14, .slice A0_15 l0_15.length c0_15, .int .i64 a0_16, .int .i64 a0_17] _ (pick_mid HN2.out 14 [.int .i64 a0_14, .slice A0_15 l0_15.length c0_15, .int .i64 a0_16, .int .i64 a0_17] rfl) hu34 rfl hi34))
            | (with_reducible refine hd_gate 38 rfl ?_); refine hd_call rfl (by kernel_rfl) (governorref16_Right.calls a0_14 A0_15 c0_15 l0_15 a0_16 a0_17 false W2 (Kd.C_below R15.out HB2.out) hc0_15 (by rw [governorref16_Right.f, HPL.out])) ?_; rintro e W3 ⟨rfl, hb⟩; refine ⟨_, rfl, ?_⟩; have HB3 := Aside0.mk (below_step HB2.out hb); have HN3 := Aside0.mk (hd_later HN2.out hb); have hf18 := pick_cell HN3.out 18 rfl; have hf11 := pick_cell HN3.out 11 rfl; have hf12 := pick_cell HN3.out 12 rfl; clear hb)
        go_ret
        exact ⟨by rw [show simB a0_0 a0_1 l0_2 a0_3 a0_4 a0_5 a0_6 l0_7 a0_8 a0_9 a0_10 a0_11 a0_12 a0_13 a0_14 l0_15 a0_16 a0_17 l0_18 = false from by unfold simB; simp [HPL.out]]; rfl, HB3.out⟩
      have HPL := Aside0.mk hpl
      clear hpl
      by_cases h3 : (l0_18.length : Int) > 32
      · have q3 := decide_eq_true h3
        go_wp2_with (first
            | (with_reducible refine hd_gate 18 rfl ?_); refine hd_run rfl (v := .agg #[.int .i64 a0_0, .int .i64 a0_1, .slice A0_2 l0_2.length c0_2, .int .i64 a0_3, .int .i64 a0_4, .int .i64 a0_5, .int .i64 a0_6, .slice A0_7 l0_7.length c0_7]) (w1 := W) ?hr ?_; (case hr => exact pick_load rfl rfl (pick_loadAt W ⟨w.heap.size, 0, none⟩ 27 [.int .i64 a0_0, .int .i64 a0_1, .slice A0_2 l0_2.length c0_2, .int .i64 a0_3, .int .i64 a0_4, .int .i64 a0_5, .int .i64 a0_6, .slice A0_7 l0_7.length c0_7] _ (pick_prefix [.int .i64 a0_0, .int .i64 a0_1, .slice A0_2 l0_2.length c0_2, .int .i64 a0_3, .int .i64 a0_4, .int .i64 a0_5, .int .i64 a0_6, .slice A0_7 l0_7.length c0_7] [.int .i64 a0_8, .int .i64 a0_9, .bool a0_10, .int .i64 a0_11, .int .i64 a0_12, .bool a0_13, .int .i64 a0_14, .slice A0_15 l0_15.length c0_15, .int .i64 a0_16, .int .i64 a0_17, .slice A0_18 l0_18.length c0_18] HN.out) hu27 rfl hi27))
            | (with_reducible refine hd_gate 19 rfl ?_); refine hd_call rfl (by kernel_rfl) (governorref09_Policy.calls a0_0 a0_1 A0_2 c0_2 l0_2 a0_3 a0_4 a0_5 a0_6 A0_7 c0_7 l0_7 false W (Kd.C_below R2.out HB.out) hc0_2 (Kd.C_below R7.out HB.out) hc0_7 (by rw [HP.out, HPB.out])) ?_; rintro e W1 ⟨rfl, hb⟩; refine ⟨_, rfl, ?_⟩; have HB1 := Aside0.mk (below_step HB.out hb); have HN1 := Aside0.mk (hd_later HN.out hb); have hd15 := pick_cell HN1.out 15 rfl; have hd18 := pick_cell HN1.out 18 rfl; clear hb
            | (with_reducible refine hd_gate 23 rfl ?_); refine hd_run rfl (v := .agg #[.int .i64 a0_0, .int .i64 a0_1, .slice A0_2 l0_2.length c0_2, .int .i64 a0_3, .int .i64 a0_4, .int .i64 a0_5, .int .i64 a0_6, .slice A0_7 l0_7.length c0_7]) (w1 := W1) ?hr ?_; (case hr => exact pick_load rfl rfl (pick_loadAt W1 ⟨w.heap.size, 0, none⟩ 27 [.int .i64 a0_0, .int .i64 a0_1, .slice A0_2 l0_2.length c0_2, .int .i64 a0_3, .int .i64 a0_4, .int .i64 a0_5, .int .i64 a0_6, .slice A0_7 l0_7.length c0_7] _ (pick_prefix [.int .i64 a0_0, .int .i64 a0_1, .slice A0_2 l0_2.length c0_2, .int .i64 a0_3, .int .i64 a0_4, .int .i64 a0_5, .int .i64 a0_6, .slice A0_7 l0_7.length c0_7] [.int .i64 a0_8, .int .i64 a0_9, .bool a0_10, .int .i64 a0_11, .int .i64 a0_12, .bool a0_13, .int .i64 a0_14, .slice A0_15 l0_15.length c0_15, .int .i64 a0_16, .int .i64 a0_17, .slice A0_18 l0_18.length c0_18] HN1.out) hu27 rfl hi27))
            | (with_reducible refine hd_gate 24 rfl ?_); refine hd_call rfl (by kernel_rfl) (governorref09_Zero.calls a0_0 a0_1 A0_2 c0_2 l0_2 a0_3 a0_4 a0_5 a0_6 A0_7 c0_7 l0_7 true W1 (Kd.C_below R2.out HB1.out) hc0_2 (Kd.C_below R7.out HB1.out) hc0_7 (by rw [HZ.out, HZB.out])) ?_; rintro e W2 ⟨rfl, hb⟩; refine ⟨_, rfl, ?_⟩; have HB2 := Aside0.mk (below_step HB1.out hb); have HN2 := Aside0.mk (hd_later HN1.out hb); have he15 := pick_cell HN2.out 15 rfl; have he18 := pick_cell HN2.out 18 rfl; clear hb
            | (with_reducible refine hd_gate 37 rfl ?_); refine hd_run rfl (v := .agg #[.int .i64 a0_14, .slice A0_15 l0_15.length c0_15, .int .i64 a0_16, .int .i64 a0_17]) (w1 := W2) ?hr ?_; (case hr => exact pick_load rfl rfl (pick_loadAt W2 ⟨w.heap.size, 14, none⟩ 34 [.int .i64 a0_14, .slice A0_15 l0_15.length c0_15, .int .i64 a0_16, .int .i64 a0_17] _ (pick_mid HN2.out 14 [.int .i64 a0_14, .slice A0_15 l0_15.length c0_15, .int .i64 a0_16, .int .i64 a0_17] rfl) hu34 rfl hi34))
            | (with_reducible refine hd_gate 38 rfl ?_); refine hd_call rfl (by kernel_rfl) (governorref16_Right.calls a0_14 A0_15 c0_15 l0_15 a0_16 a0_17 true W2 (Kd.C_below R15.out HB2.out) hc0_15 (by rw [governorref16_Right.f, HPL.out])) ?_; rintro e W3 ⟨rfl, hb⟩; refine ⟨_, rfl, ?_⟩; have HB3 := Aside0.mk (below_step HB2.out hb); have HN3 := Aside0.mk (hd_later HN2.out hb); have hf18 := pick_cell HN3.out 18 rfl; have hf11 := pick_cell HN3.out 11 rfl; have hf12 := pick_cell HN3.out 12 rfl; clear hb)
        go_ret
        exact ⟨by rw [show simB a0_0 a0_1 l0_2 a0_3 a0_4 a0_5 a0_6 l0_7 a0_8 a0_9 a0_10 a0_11 a0_12 a0_13 a0_14 l0_15 a0_16 a0_17 l0_18 = false from by unfold simB; simp [q3]]; rfl, HB3.out⟩
      have q3 := decide_eq_false h3
      go_wp2_with (first
          | (with_reducible refine hd_gate 18 rfl ?_); refine hd_run rfl (v := .agg #[.int .i64 a0_0, .int .i64 a0_1, .slice A0_2 l0_2.length c0_2, .int .i64 a0_3, .int .i64 a0_4, .int .i64 a0_5, .int .i64 a0_6, .slice A0_7 l0_7.length c0_7]) (w1 := W) ?hr ?_; (case hr => exact pick_load rfl rfl (pick_loadAt W ⟨w.heap.size, 0, none⟩ 27 [.int .i64 a0_0, .int .i64 a0_1, .slice A0_2 l0_2.length c0_2, .int .i64 a0_3, .int .i64 a0_4, .int .i64 a0_5, .int .i64 a0_6, .slice A0_7 l0_7.length c0_7] _ (pick_prefix [.int .i64 a0_0, .int .i64 a0_1, .slice A0_2 l0_2.length c0_2, .int .i64 a0_3, .int .i64 a0_4, .int .i64 a0_5, .int .i64 a0_6, .slice A0_7 l0_7.length c0_7] [.int .i64 a0_8, .int .i64 a0_9, .bool a0_10, .int .i64 a0_11, .int .i64 a0_12, .bool a0_13, .int .i64 a0_14, .slice A0_15 l0_15.length c0_15, .int .i64 a0_16, .int .i64 a0_17, .slice A0_18 l0_18.length c0_18] HN.out) hu27 rfl hi27))
          | (with_reducible refine hd_gate 19 rfl ?_); refine hd_call rfl (by kernel_rfl) (governorref09_Policy.calls a0_0 a0_1 A0_2 c0_2 l0_2 a0_3 a0_4 a0_5 a0_6 A0_7 c0_7 l0_7 false W (Kd.C_below R2.out HB.out) hc0_2 (Kd.C_below R7.out HB.out) hc0_7 (by rw [HP.out, HPB.out])) ?_; rintro e W1 ⟨rfl, hb⟩; refine ⟨_, rfl, ?_⟩; have HB1 := Aside0.mk (below_step HB.out hb); have HN1 := Aside0.mk (hd_later HN.out hb); have hd15 := pick_cell HN1.out 15 rfl; have hd18 := pick_cell HN1.out 18 rfl; clear hb
          | (with_reducible refine hd_gate 23 rfl ?_); refine hd_run rfl (v := .agg #[.int .i64 a0_0, .int .i64 a0_1, .slice A0_2 l0_2.length c0_2, .int .i64 a0_3, .int .i64 a0_4, .int .i64 a0_5, .int .i64 a0_6, .slice A0_7 l0_7.length c0_7]) (w1 := W1) ?hr ?_; (case hr => exact pick_load rfl rfl (pick_loadAt W1 ⟨w.heap.size, 0, none⟩ 27 [.int .i64 a0_0, .int .i64 a0_1, .slice A0_2 l0_2.length c0_2, .int .i64 a0_3, .int .i64 a0_4, .int .i64 a0_5, .int .i64 a0_6, .slice A0_7 l0_7.length c0_7] _ (pick_prefix [.int .i64 a0_0, .int .i64 a0_1, .slice A0_2 l0_2.length c0_2, .int .i64 a0_3, .int .i64 a0_4, .int .i64 a0_5, .int .i64 a0_6, .slice A0_7 l0_7.length c0_7] [.int .i64 a0_8, .int .i64 a0_9, .bool a0_10, .int .i64 a0_11, .int .i64 a0_12, .bool a0_13, .int .i64 a0_14, .slice A0_15 l0_15.length c0_15, .int .i64 a0_16, .int .i64 a0_17, .slice A0_18 l0_18.length c0_18] HN1.out) hu27 rfl hi27))
          | (with_reducible refine hd_gate 24 rfl ?_); refine hd_call rfl (by kernel_rfl) (governorref09_Zero.calls a0_0 a0_1 A0_2 c0_2 l0_2 a0_3 a0_4 a0_5 a0_6 A0_7 c0_7 l0_7 true W1 (Kd.C_below R2.out HB1.out) hc0_2 (Kd.C_below R7.out HB1.out) hc0_7 (by rw [HZ.out, HZB.out])) ?_; rintro e W2 ⟨rfl, hb⟩; refine ⟨_, rfl, ?_⟩; have HB2 := Aside0.mk (below_step HB1.out hb); have HN2 := Aside0.mk (hd_later HN1.out hb); have he15 := pick_cell HN2.out 15 rfl; have he18 := pick_cell HN2.out 18 rfl; clear hb
          | (with_reducible refine hd_gate 37 rfl ?_); refine hd_run rfl (v := .agg #[.int .i64 a0_14, .slice A0_15 l0_15.length c0_15, .int .i64 a0_16, .int .i64 a0_17]) (w1 := W2) ?hr ?_; (case hr => exact pick_load rfl rfl (pick_loadAt W2 ⟨w.heap.size, 14, none⟩ 34 [.int .i64 a0_14, .slice A0_15 l0_15.length c0_15, .int .i64 a0_16, .int .i64 a0_17] _ (pick_mid HN2.out 14 [.int .i64 a0_14, .slice A0_15 l0_15.length c0_15, .int .i64 a0_16, .int .i64 a0_17] rfl) hu34 rfl hi34))
          | (with_reducible refine hd_gate 38 rfl ?_); refine hd_call rfl (by kernel_rfl) (governorref16_Right.calls a0_14 A0_15 c0_15 l0_15 a0_16 a0_17 true W2 (Kd.C_below R15.out HB2.out) hc0_15 (by rw [governorref16_Right.f, HPL.out])) ?_; rintro e W3 ⟨rfl, hb⟩; refine ⟨_, rfl, ?_⟩; have HB3 := Aside0.mk (below_step HB2.out hb); have HN3 := Aside0.mk (hd_later HN2.out hb); have hf18 := pick_cell HN3.out 18 rfl; have hf11 := pick_cell HN3.out 11 rfl; have hf12 := pick_cell HN3.out 12 rfl; clear hb)
      have HS := Aside0.mk (show simB a0_0 a0_1 l0_2 a0_3 a0_4 a0_5 a0_6 l0_7 a0_8 a0_9 a0_10 a0_11 a0_12 a0_13 a0_14 l0_15 a0_16 a0_17 l0_18 = (l0_18.all markOk && (decide (a0_11 ≥ 0) && (decide (a0_11 ≤ 1000) && (decide (a0_12 ≥ 0) && decide (a0_12 ≤ 1099511627776))))) by unfold simB; simp only [q0, q1, q2, q3, HPL.out, HPB.out, HZB.out, Bool.not_false, Bool.true_and, Bool.and_true, Bool.or_true, Bool.true_or])
      clear h0 h1 h2 h3 q0 q1 q2 q3
      go_loopw [3] (fun i wr => ∃ k : Nat, k ≤ l0_18.length ∧ i = .int .i64 k ∧ (l0_18.take k).all markOk = true ∧ wr = W3) (fun i _ => l0_18.length - (intOf i).toNat)
      case atStart => exact ⟨0, Nat.zero_le _, rfl, rfl, rfl⟩
      case round =>
        obtain ⟨k, hk, rfl, hall, rfl⟩ := hrel
        have HA := Aside0.mk hall
        clear hall
        by_cases hlt : k < l0_18.length
        · obtain ⟨ad, rfl, hx0, hx1⟩ := at_T64 (Kd.C_below R18.out HB3.out) (k : Int) (by omega) (by omega)
          have HT := Aside0.mk (marks_rd l0_18 k hlt)
          have HF := Aside0.mk (fun h => marks_take (l := l0_18) (p := markOk) hlt h)
          rw [Int.toNat_natCast] at hx0
          clear hx1
          generalize rd_T64 l0_18 k = x at *
          by_cases x0 : x.f0 < 0
          · have z0 := decide_eq_true x0
            go_wp2
            go_ret
            exact ⟨by rw [HS.out, HF.out (by unfold markOk; rw [z0]; rfl)]; rfl, HB3.out⟩
          have z0 := decide_eq_false x0
          by_cases x1 : x.f0 > 1000000000
          · have z1 := decide_eq_true x1
            go_wp2
            go_ret
            exact ⟨by rw [HS.out, HF.out (by unfold markOk; rw [z0, z1]; rfl)]; rfl, HB3.out⟩
          have z1 := decide_eq_false x1
          have HO := Aside0.mk (show markOk x = true by unfold markOk; rw [z0, z1]; rfl)
          go_wp2
          go_roundw
          case rel => exact ⟨k + 1, by omega, by go_num, by rw [HT.out, List.all_append, HA.out]; simp [HO.out], by first | rfl | trivial⟩
          case measure => simp [intOf]; omega
        · have HT := Aside0.mk (show l0_18.all markOk = true by have := HA.out; rwa [List.take_of_length_le (by omega)] at this)
          by_cases y0 : a0_11 ≥ 0
          · have v0 := decide_eq_true y0
            by_cases y1 : a0_11 ≤ 1000
            · have v1 := decide_eq_true y1
              by_cases y2 : a0_12 ≥ 0
              · have v2 := decide_eq_true y2
                go_wp2
                go_ret
                exact ⟨by rw [HS.out, HT.out, v0, v1, v2]; rfl, HB3.out⟩
              · have v2 := decide_eq_false y2
                go_wp2
                go_ret
                exact ⟨by rw [HS.out, HT.out, v0, v1, v2]; rfl, HB3.out⟩
            · have v1 := decide_eq_false y1
              go_wp2
              go_ret
              exact ⟨by rw [HS.out, HT.out, v0, v1]; rfl, HB3.out⟩
          · have v0 := decide_eq_false y0
            go_wp2
            go_ret
            exact ⟨by rw [HS.out, HT.out, v0]; rfl, HB3.out⟩
  · have HPB := Aside0.mk hpb
    clear hpb
    by_cases h2 : (l0_15.length : Int) > 8
    · have q2 := decide_eq_true h2
      go_wp2_with (first
          | (with_reducible refine hd_gate 18 rfl ?_); refine hd_run rfl (v := .agg #[.int .i64 a0_0, .int .i64 a0_1, .slice A0_2 l0_2.length c0_2, .int .i64 a0_3, .int .i64 a0_4, .int .i64 a0_5, .int .i64 a0_6, .slice A0_7 l0_7.length c0_7]) (w1 := W) ?hr ?_; (case hr => exact pick_load rfl rfl (pick_loadAt W ⟨w.heap.size, 0, none⟩ 27 [.int .i64 a0_0, .int .i64 a0_1, .slice A0_2 l0_2.length c0_2, .int .i64 a0_3, .int .i64 a0_4, .int .i64 a0_5, .int .i64 a0_6, .slice A0_7 l0_7.length c0_7] _ (pick_prefix [.int .i64 a0_0, .int .i64 a0_1, .slice A0_2 l0_2.length c0_2, .int .i64 a0_3, .int .i64 a0_4, .int .i64 a0_5, .int .i64 a0_6, .slice A0_7 l0_7.length c0_7] [.int .i64 a0_8, .int .i64 a0_9, .bool a0_10, .int .i64 a0_11, .int .i64 a0_12, .bool a0_13, .int .i64 a0_14, .slice A0_15 l0_15.length c0_15, .int .i64 a0_16, .int .i64 a0_17, .slice A0_18 l0_18.length c0_18] HN.out) hu27 rfl hi27))
          | (with_reducible refine hd_gate 19 rfl ?_); refine hd_call rfl (by kernel_rfl) (governorref09_Policy.calls a0_0 a0_1 A0_2 c0_2 l0_2 a0_3 a0_4 a0_5 a0_6 A0_7 c0_7 l0_7 true W (Kd.C_below R2.out HB.out) hc0_2 (Kd.C_below R7.out HB.out) hc0_7 (by rw [HP.out, HPB.out])) ?_; rintro e W1 ⟨rfl, hb⟩; refine ⟨_, rfl, ?_⟩; have HB1 := Aside0.mk (below_step HB.out hb); have HN1 := Aside0.mk (hd_later HN.out hb); have hd15 := pick_cell HN1.out 15 rfl; have hd18 := pick_cell HN1.out 18 rfl; clear hb)
      go_ret
      exact ⟨by rw [show simB a0_0 a0_1 l0_2 a0_3 a0_4 a0_5 a0_6 l0_7 a0_8 a0_9 a0_10 a0_11 a0_12 a0_13 a0_14 l0_15 a0_16 a0_17 l0_18 = false from by unfold simB; simp [q2]]; rfl, HB1.out⟩
    have q2 := decide_eq_false h2
    cases hpl : plantB a0_14 l0_15 a0_16 a0_17
    · have HPL := Aside0.mk hpl
      clear hpl
      go_wp2_with (first
          | (with_reducible refine hd_gate 18 rfl ?_); refine hd_run rfl (v := .agg #[.int .i64 a0_0, .int .i64 a0_1, .slice A0_2 l0_2.length c0_2, .int .i64 a0_3, .int .i64 a0_4, .int .i64 a0_5, .int .i64 a0_6, .slice A0_7 l0_7.length c0_7]) (w1 := W) ?hr ?_; (case hr => exact pick_load rfl rfl (pick_loadAt W ⟨w.heap.size, 0, none⟩ 27 [.int .i64 a0_0, .int .i64 a0_1, .slice A0_2 l0_2.length c0_2, .int .i64 a0_3, .int .i64 a0_4, .int .i64 a0_5, .int .i64 a0_6, .slice A0_7 l0_7.length c0_7] _ (pick_prefix [.int .i64 a0_0, .int .i64 a0_1, .slice A0_2 l0_2.length c0_2, .int .i64 a0_3, .int .i64 a0_4, .int .i64 a0_5, .int .i64 a0_6, .slice A0_7 l0_7.length c0_7] [.int .i64 a0_8, .int .i64 a0_9, .bool a0_10, .int .i64 a0_11, .int .i64 a0_12, .bool a0_13, .int .i64 a0_14, .slice A0_15 l0_15.length c0_15, .int .i64 a0_16, .int .i64 a0_17, .slice A0_18 l0_18.length c0_18] HN.out) hu27 rfl hi27))
          | (with_reducible refine hd_gate 19 rfl ?_); refine hd_call rfl (by kernel_rfl) (governorref09_Policy.calls a0_0 a0_1 A0_2 c0_2 l0_2 a0_3 a0_4 a0_5 a0_6 A0_7 c0_7 l0_7 true W (Kd.C_below R2.out HB.out) hc0_2 (Kd.C_below R7.out HB.out) hc0_7 (by rw [HP.out, HPB.out])) ?_; rintro e W1 ⟨rfl, hb⟩; refine ⟨_, rfl, ?_⟩; have HB1 := Aside0.mk (below_step HB.out hb); have HN1 := Aside0.mk (hd_later HN.out hb); have hd15 := pick_cell HN1.out 15 rfl; have hd18 := pick_cell HN1.out 18 rfl; clear hb
          | (with_reducible refine hd_gate 37 rfl ?_); refine hd_run rfl (v := .agg #[.int .i64 a0_14, .slice A0_15 l0_15.length c0_15, .int .i64 a0_16, .int .i64 a0_17]) (w1 := W1) ?hr ?_; (case hr => exact pick_load rfl rfl (pick_loadAt W1 ⟨w.heap.size, 14, none⟩ 34 [.int .i64 a0_14, .slice A0_15 l0_15.length c0_15, .int .i64 a0_16, .int .i64 a0_17] _ (pick_mid HN1.out 14 [.int .i64 a0_14, .slice A0_15 l0_15.length c0_15, .int .i64 a0_16, .int .i64 a0_17] rfl) hu34 rfl hi34))
          | (with_reducible refine hd_gate 38 rfl ?_); refine hd_call rfl (by kernel_rfl) (governorref16_Right.calls a0_14 A0_15 c0_15 l0_15 a0_16 a0_17 false W1 (Kd.C_below R15.out HB1.out) hc0_15 (by rw [governorref16_Right.f, HPL.out])) ?_; rintro e W3 ⟨rfl, hb⟩; refine ⟨_, rfl, ?_⟩; have HB3 := Aside0.mk (below_step HB1.out hb); have HN3 := Aside0.mk (hd_later HN1.out hb); have hf18 := pick_cell HN3.out 18 rfl; have hf11 := pick_cell HN3.out 11 rfl; have hf12 := pick_cell HN3.out 12 rfl; clear hb)
      go_ret
      exact ⟨by rw [show simB a0_0 a0_1 l0_2 a0_3 a0_4 a0_5 a0_6 l0_7 a0_8 a0_9 a0_10 a0_11 a0_12 a0_13 a0_14 l0_15 a0_16 a0_17 l0_18 = false from by unfold simB; simp [HPL.out]]; rfl, HB3.out⟩
    have HPL := Aside0.mk hpl
    clear hpl
    by_cases h3 : (l0_18.length : Int) > 32
    · have q3 := decide_eq_true h3
      go_wp2_with (first
          | (with_reducible refine hd_gate 18 rfl ?_); refine hd_run rfl (v := .agg #[.int .i64 a0_0, .int .i64 a0_1, .slice A0_2 l0_2.length c0_2, .int .i64 a0_3, .int .i64 a0_4, .int .i64 a0_5, .int .i64 a0_6, .slice A0_7 l0_7.length c0_7]) (w1 := W) ?hr ?_; (case hr => exact pick_load rfl rfl (pick_loadAt W ⟨w.heap.size, 0, none⟩ 27 [.int .i64 a0_0, .int .i64 a0_1, .slice A0_2 l0_2.length c0_2, .int .i64 a0_3, .int .i64 a0_4, .int .i64 a0_5, .int .i64 a0_6, .slice A0_7 l0_7.length c0_7] _ (pick_prefix [.int .i64 a0_0, .int .i64 a0_1, .slice A0_2 l0_2.length c0_2, .int .i64 a0_3, .int .i64 a0_4, .int .i64 a0_5, .int .i64 a0_6, .slice A0_7 l0_7.length c0_7] [.int .i64 a0_8, .int .i64 a0_9, .bool a0_10, .int .i64 a0_11, .int .i64 a0_12, .bool a0_13, .int .i64 a0_14, .slice A0_15 l0_15.length c0_15, .int .i64 a0_16, .int .i64 a0_17, .slice A0_18 l0_18.length c0_18] HN.out) hu27 rfl hi27))
          | (with_reducible refine hd_gate 19 rfl ?_); refine hd_call rfl (by kernel_rfl) (governorref09_Policy.calls a0_0 a0_1 A0_2 c0_2 l0_2 a0_3 a0_4 a0_5 a0_6 A0_7 c0_7 l0_7 true W (Kd.C_below R2.out HB.out) hc0_2 (Kd.C_below R7.out HB.out) hc0_7 (by rw [HP.out, HPB.out])) ?_; rintro e W1 ⟨rfl, hb⟩; refine ⟨_, rfl, ?_⟩; have HB1 := Aside0.mk (below_step HB.out hb); have HN1 := Aside0.mk (hd_later HN.out hb); have hd15 := pick_cell HN1.out 15 rfl; have hd18 := pick_cell HN1.out 18 rfl; clear hb
          | (with_reducible refine hd_gate 37 rfl ?_); refine hd_run rfl (v := .agg #[.int .i64 a0_14, .slice A0_15 l0_15.length c0_15, .int .i64 a0_16, .int .i64 a0_17]) (w1 := W1) ?hr ?_; (case hr => exact pick_load rfl rfl (pick_loadAt W1 ⟨w.heap.size, 14, none⟩ 34 [.int .i64 a0_14, .slice A0_15 l0_15.length c0_15, .int .i64 a0_16, .int .i64 a0_17] _ (pick_mid HN1.out 14 [.int .i64 a0_14, .slice A0_15 l0_15.length c0_15, .int .i64 a0_16, .int .i64 a0_17] rfl) hu34 rfl hi34))
          | (with_reducible refine hd_gate 38 rfl ?_); refine hd_call rfl (by kernel_rfl) (governorref16_Right.calls a0_14 A0_15 c0_15 l0_15 a0_16 a0_17 true W1 (Kd.C_below R15.out HB1.out) hc0_15 (by rw [governorref16_Right.f, HPL.out])) ?_; rintro e W3 ⟨rfl, hb⟩; refine ⟨_, rfl, ?_⟩; have HB3 := Aside0.mk (below_step HB1.out hb); have HN3 := Aside0.mk (hd_later HN1.out hb); have hf18 := pick_cell HN3.out 18 rfl; have hf11 := pick_cell HN3.out 11 rfl; have hf12 := pick_cell HN3.out 12 rfl; clear hb)
      go_ret
      exact ⟨by rw [show simB a0_0 a0_1 l0_2 a0_3 a0_4 a0_5 a0_6 l0_7 a0_8 a0_9 a0_10 a0_11 a0_12 a0_13 a0_14 l0_15 a0_16 a0_17 l0_18 = false from by unfold simB; simp [q3]]; rfl, HB3.out⟩
    have q3 := decide_eq_false h3
    go_wp2_with (first
        | (with_reducible refine hd_gate 18 rfl ?_); refine hd_run rfl (v := .agg #[.int .i64 a0_0, .int .i64 a0_1, .slice A0_2 l0_2.length c0_2, .int .i64 a0_3, .int .i64 a0_4, .int .i64 a0_5, .int .i64 a0_6, .slice A0_7 l0_7.length c0_7]) (w1 := W) ?hr ?_; (case hr => exact pick_load rfl rfl (pick_loadAt W ⟨w.heap.size, 0, none⟩ 27 [.int .i64 a0_0, .int .i64 a0_1, .slice A0_2 l0_2.length c0_2, .int .i64 a0_3, .int .i64 a0_4, .int .i64 a0_5, .int .i64 a0_6, .slice A0_7 l0_7.length c0_7] _ (pick_prefix [.int .i64 a0_0, .int .i64 a0_1, .slice A0_2 l0_2.length c0_2, .int .i64 a0_3, .int .i64 a0_4, .int .i64 a0_5, .int .i64 a0_6, .slice A0_7 l0_7.length c0_7] [.int .i64 a0_8, .int .i64 a0_9, .bool a0_10, .int .i64 a0_11, .int .i64 a0_12, .bool a0_13, .int .i64 a0_14, .slice A0_15 l0_15.length c0_15, .int .i64 a0_16, .int .i64 a0_17, .slice A0_18 l0_18.length c0_18] HN.out) hu27 rfl hi27))
        | (with_reducible refine hd_gate 19 rfl ?_); refine hd_call rfl (by kernel_rfl) (governorref09_Policy.calls a0_0 a0_1 A0_2 c0_2 l0_2 a0_3 a0_4 a0_5 a0_6 A0_7 c0_7 l0_7 true W (Kd.C_below R2.out HB.out) hc0_2 (Kd.C_below R7.out HB.out) hc0_7 (by rw [HP.out, HPB.out])) ?_; rintro e W1 ⟨rfl, hb⟩; refine ⟨_, rfl, ?_⟩; have HB1 := Aside0.mk (below_step HB.out hb); have HN1 := Aside0.mk (hd_later HN.out hb); have hd15 := pick_cell HN1.out 15 rfl; have hd18 := pick_cell HN1.out 18 rfl; clear hb
        | (with_reducible refine hd_gate 37 rfl ?_); refine hd_run rfl (v := .agg #[.int .i64 a0_14, .slice A0_15 l0_15.length c0_15, .int .i64 a0_16, .int .i64 a0_17]) (w1 := W1) ?hr ?_; (case hr => exact pick_load rfl rfl (pick_loadAt W1 ⟨w.heap.size, 14, none⟩ 34 [.int .i64 a0_14, .slice A0_15 l0_15.length c0_15, .int .i64 a0_16, .int .i64 a0_17] _ (pick_mid HN1.out 14 [.int .i64 a0_14, .slice A0_15 l0_15.length c0_15, .int .i64 a0_16, .int .i64 a0_17] rfl) hu34 rfl hi34))
        | (with_reducible refine hd_gate 38 rfl ?_); refine hd_call rfl (by kernel_rfl) (governorref16_Right.calls a0_14 A0_15 c0_15 l0_15 a0_16 a0_17 true W1 (Kd.C_below R15.out HB1.out) hc0_15 (by rw [governorref16_Right.f, HPL.out])) ?_; rintro e W3 ⟨rfl, hb⟩; refine ⟨_, rfl, ?_⟩; have HB3 := Aside0.mk (below_step HB1.out hb); have HN3 := Aside0.mk (hd_later HN1.out hb); have hf18 := pick_cell HN3.out 18 rfl; have hf11 := pick_cell HN3.out 11 rfl; have hf12 := pick_cell HN3.out 12 rfl; clear hb)
    have HS := Aside0.mk (show simB a0_0 a0_1 l0_2 a0_3 a0_4 a0_5 a0_6 l0_7 a0_8 a0_9 a0_10 a0_11 a0_12 a0_13 a0_14 l0_15 a0_16 a0_17 l0_18 = (l0_18.all markOk && (decide (a0_11 ≥ 0) && (decide (a0_11 ≤ 1000) && (decide (a0_12 ≥ 0) && decide (a0_12 ≤ 1099511627776))))) by unfold simB; simp only [q0, q1, q2, q3, HPL.out, HPB.out, Bool.not_false, Bool.true_and, Bool.and_true, Bool.or_true, Bool.true_or])
    clear h0 h1 h2 h3 q0 q1 q2 q3
    go_loopw [3] (fun i wr => ∃ k : Nat, k ≤ l0_18.length ∧ i = .int .i64 k ∧ (l0_18.take k).all markOk = true ∧ wr = W3) (fun i _ => l0_18.length - (intOf i).toNat)
    case atStart => exact ⟨0, Nat.zero_le _, rfl, rfl, rfl⟩
    case round =>
      obtain ⟨k, hk, rfl, hall, rfl⟩ := hrel
      have HA := Aside0.mk hall
      clear hall
      by_cases hlt : k < l0_18.length
      · obtain ⟨ad, rfl, hx0, hx1⟩ := at_T64 (Kd.C_below R18.out HB3.out) (k : Int) (by omega) (by omega)
        have HT := Aside0.mk (marks_rd l0_18 k hlt)
        have HF := Aside0.mk (fun h => marks_take (l := l0_18) (p := markOk) hlt h)
        rw [Int.toNat_natCast] at hx0
        clear hx1
        generalize rd_T64 l0_18 k = x at *
        by_cases x0 : x.f0 < 0
        · have z0 := decide_eq_true x0
          go_wp2
          go_ret
          exact ⟨by rw [HS.out, HF.out (by unfold markOk; rw [z0]; rfl)]; rfl, HB3.out⟩
        have z0 := decide_eq_false x0
        by_cases x1 : x.f0 > 1000000000
        · have z1 := decide_eq_true x1
          go_wp2
          go_ret
          exact ⟨by rw [HS.out, HF.out (by unfold markOk; rw [z0, z1]; rfl)]; rfl, HB3.out⟩
        have z1 := decide_eq_false x1
        have HO := Aside0.mk (show markOk x = true by unfold markOk; rw [z0, z1]; rfl)
        go_wp2
        go_roundw
        case rel => exact ⟨k + 1, by omega, by go_num, by rw [HT.out, List.all_append, HA.out]; simp [HO.out], by first | rfl | trivial⟩
        case measure => simp [intOf]; omega
      · have HT := Aside0.mk (show l0_18.all markOk = true by have := HA.out; rwa [List.take_of_length_le (by omega)] at this)
        by_cases y0 : a0_11 ≥ 0
        · have v0 := decide_eq_true y0
          by_cases y1 : a0_11 ≤ 1000
          · have v1 := decide_eq_true y1
            by_cases y2 : a0_12 ≥ 0
            · have v2 := decide_eq_true y2
              go_wp2
              go_ret
              exact ⟨by rw [HS.out, HT.out, v0, v1, v2]; rfl, HB3.out⟩
            · have v2 := decide_eq_false y2
              go_wp2
              go_ret
              exact ⟨by rw [HS.out, HT.out, v0, v1, v2]; rfl, HB3.out⟩
          · have v1 := decide_eq_false y1
            go_wp2
            go_ret
            exact ⟨by rw [HS.out, HT.out, v0, v1]; rfl, HB3.out⟩
        · have v0 := decide_eq_false y0
          go_wp2
          go_ret
          exact ⟨by rw [HS.out, HT.out, v0]; rfl, HB3.out⟩
end Go.Proofs.Ytlenanfkphglaaa.Print
