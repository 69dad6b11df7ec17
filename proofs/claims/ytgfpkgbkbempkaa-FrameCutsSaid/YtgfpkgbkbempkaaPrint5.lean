/- Functions of the program as Lean functions, and that its calls come to them; written by a program of this claim over the kit print; Lean checks it. -/
import Derived.Test.YtgfpkgbkbempkaaPrint0
import Derived.Test.YtgfpkgbkbempkaaPrint3
import Derived.Test.YtgfpkgbkbempkaaPrint4
namespace Go.Proofs.Ytgfpkgbkbempkaa.Print
open Go.RowKit Go.Proofs.YtgfpkgbkbempkaaW.PrintWords Go.Proofs.YtgfpkgbkbempkaaW.PrintLast Go.Proofs.YtgfpkgbkbempkaaW.PrintMore
attribute [local go_sem] max2_int min2_int max_two min_two max_three min_three max_four min_four   -- for this text's walks alone
set_option linter.unusedVariables false
set_option linter.unusedSimpArgs false

/-! ### governorlaw03_FrameCuts: function 5 -/
mutual
def governorlaw03_FrameCuts.l0 : Nat → List (List Int) → Int → Int → Bool → List Int → List (S24) → Int → Option (Bool)
  | 0, _, _, _, _, _, _, _ => none
  | k + 1, x0, x1, x2, x7, x8, x9, x10 => if x10 < (x0.length : Int) then (if 0 ≤ x10 then (if 0 ≤ (mn ((rd_L2 x0 x10).length : Int) 900) then (if (mn ((rd_L2 x0 x10).length : Int) 900) ≤ ((rd_L2 x0 x10).length : Int) then ((some ((rd_L2 x0 x10).take ((mn ((rd_L2 x0 x10).length : Int) 900) : Int).toNat : List Int)).bind fun y285 => (if x9.length < 3518437208883 then ((frame_Put.f (wrap64 (1 + (Int.tmod x10 15))) (wrap64 ((wrap64 (x1)) + x10)) y285).bind fun t294 => (if x8.length + t294.length < 140737488355328 then (governorlaw03_FrameCuts.l0 k x0 x1 x2 x7 (x8 ++ t294) (x9 ++ [(⟨wrap64 (1 + (Int.tmod x10 15)), wrap64 ((wrap64 (x1)) + x10), y285⟩ : S24)]) (wrap64 (x10 + 1))) else (none))) else (none))) else (none)) else (none)) else (none)) else (if (wrap64 ((x8.length : Int) + 1)) = 0 then (none) else (if 0 ≤ (Int.tmod (wrap64 (x2)) (wrap64 ((x8.length : Int) + 1))) then (if (Int.tmod (wrap64 (x2)) (wrap64 ((x8.length : Int) + 1))) ≤ (x8.length : Int) then ((frame_Scan.f k (x8.take ((Int.tmod (wrap64 (x2)) (wrap64 ((x8.length : Int) + 1))) : Int).toNat) (wrap64 (x1))).bind fun bt305 => (governorlaw03_FrameCuts.l1 k x1 x7 x8 x9 (Int.tmod (wrap64 (x2)) (wrap64 ((x8.length : Int) + 1))) bt305.1 bt305.2 0 0)) else (none)) else (none)))
def governorlaw03_FrameCuts.l1 : Nat → Int → Bool → List Int → List (S24) → Int → List (S24) → Int → Int → Int → Option (Bool)
  | 0, _, _, _, _, _, _, _, _, _ => none
  | k + 1, x1, x7, x8, x9, x12, x13, x14, x15, x16 => if x15 < (x9.length : Int) then (if 0 ≤ x15 then (if (wrap64 ((wrap64 (x16 + 11)) + (((rd_T24 x9 x15).f2).length : Int))) ≤ x12 then (governorlaw03_FrameCuts.l1 k x1 x7 x8 x9 x12 x13 x14 (wrap64 (x15 + 1)) (wrap64 ((wrap64 (x16 + 11)) + (((rd_T24 x9 x15).f2).length : Int)))) else ((frame_Scan.f k x8 (wrap64 (x1))).bind fun bt311 => (if x7 = true then (if x15 ≤ (x9.length : Int) then ((governorref03_Same.f x13 (x9.take (x15 : Int).toNat)).bind fun t320 => (if t320 = true then (if x14 = x16 then ((governorref03_Same.f bt311.1 x9).bind fun t321 => (if t321 = true then (some (bt311.2 == (x8.length : Int))) else (some false))) else (some false)) else (some false))) else (none)) else (some false)))) else (none)) else ((frame_Scan.f k x8 (wrap64 (x1))).bind fun bt322 => (if x7 = true then (if 0 ≤ x15 then (if x15 ≤ (x9.length : Int) then ((governorref03_Same.f x13 (x9.take (x15 : Int).toNat)).bind fun t331 => (if t331 = true then (if x14 = x16 then ((governorref03_Same.f bt322.1 x9).bind fun t332 => (if t332 = true then (some (bt322.2 == (x8.length : Int))) else (some false))) else (some false)) else (some false))) else (none)) else (none)) else (some false)))
end
def governorlaw03_FrameCuts.f (k : Nat) (l0 : List (List Int)) (a1 : Int) (a2 : Int) : Option (Bool) := (governorlaw03_head.f).bind fun t282 => (if (l0.length : Int) > 20 then (some t282) else (governorlaw03_FrameCuts.l0 k l0 a1 a2 t282 ([] : List Int) ([] : List (S24)) 0))
theorem governorlaw03_FrameCuts.mono_l : ∀ k, (∀ y0 y1 y2 y3 y4 y5 y6, LeO (governorlaw03_FrameCuts.l0 k y0 y1 y2 y3 y4 y5 y6) (governorlaw03_FrameCuts.l0 (k + 1) y0 y1 y2 y3 y4 y5 y6)) ∧ (∀ y0 y1 y2 y3 y4 y5 y6 y7 y8, LeO (governorlaw03_FrameCuts.l1 k y0 y1 y2 y3 y4 y5 y6 y7 y8) (governorlaw03_FrameCuts.l1 (k + 1) y0 y1 y2 y3 y4 y5 y6 y7 y8))
  | 0 => ⟨fun _ _ _ _ _ _ _ r h => by simp [governorlaw03_FrameCuts.l0] at h, fun _ _ _ _ _ _ _ _ _ r h => by simp [governorlaw03_FrameCuts.l1] at h⟩
  | k + 1 => by
    obtain ⟨ih0, ih1⟩ := governorlaw03_FrameCuts.mono_l k
    refine ⟨?_, ?_⟩
    · intro y0 y1 y2 y3 y4 y5 y6
      unfold governorlaw03_FrameCuts.l0
      repeat' first
      | (with_reducible exact ih0 _ _ _ _ _ _ _)
      | (with_reducible exact ih1 _ _ _ _ _ _ _ _ _)
      | (with_reducible exact frame_Scan.mono _ _ _)
      | (with_reducible exact LeO.refl _)
      | (with_reducible exact LeO.none _)
      | (with_reducible refine LeO.ite ?_ ?_)
      | (with_reducible refine LeO.bind ?_ (fun _ => ?_))
      | exact ih0 _ _ _ _ _ _ _
      | exact ih1 _ _ _ _ _ _ _ _ _
      | exact frame_Scan.mono _ _ _
      | exact LeO.none _
      | refine LeO.ite ?_ ?_
      | refine LeO.bind ?_ (fun _ => ?_)
    · intro y0 y1 y2 y3 y4 y5 y6 y7 y8
      unfold governorlaw03_FrameCuts.l1
      repeat' first
      | (with_reducible exact ih0 _ _ _ _ _ _ _)
      | (with_reducible exact ih1 _ _ _ _ _ _ _ _ _)
      | (with_reducible exact frame_Scan.mono _ _ _)
      | (with_reducible exact LeO.refl _)
      | (with_reducible exact LeO.none _)
      | (with_reducible refine LeO.ite ?_ ?_)
      | (with_reducible refine LeO.bind ?_ (fun _ => ?_))
      | exact ih0 _ _ _ _ _ _ _
      | exact ih1 _ _ _ _ _ _ _ _ _
      | exact frame_Scan.mono _ _ _
      | exact LeO.none _
      | refine LeO.ite ?_ ?_
      | refine LeO.bind ?_ (fun _ => ?_)
theorem governorlaw03_FrameCuts.mono : ∀ a0 a1 a2 k, LeO (governorlaw03_FrameCuts.f k a0 a1 a2) (governorlaw03_FrameCuts.f (k + 1) a0 a1 a2) := by
  intro a0 a1 a2 k
  obtain ⟨ih0, ih1⟩ := governorlaw03_FrameCuts.mono_l k
  unfold governorlaw03_FrameCuts.f
  repeat' first
      | (with_reducible exact ih0 _ _ _ _ _ _ _)
      | (with_reducible exact ih1 _ _ _ _ _ _ _ _ _)
      | (with_reducible exact frame_Scan.mono _ _ _)
      | (with_reducible exact LeO.refl _)
      | (with_reducible exact LeO.none _)
      | (with_reducible refine LeO.ite ?_ ?_)
      | (with_reducible refine LeO.bind ?_ (fun _ => ?_))
      | exact ih0 _ _ _ _ _ _ _
      | exact ih1 _ _ _ _ _ _ _ _ _
      | exact frame_Scan.mono _ _ _
      | exact LeO.none _
      | refine LeO.ite ?_ ?_
      | refine LeO.bind ?_ (fun _ => ?_)
def governorlaw03_FrameCuts.T9 : Bool × List (List Nat × List Nat) := (true, [([], []), ([0], [0]), ([1], [1]), ([], []), ([3], [3]), ([], []), ([4, 5], [4, 5]), ([], []), ([], []), ([7, 8], [7, 8]), ([9], [9]), ([], []), ([], []), ([11, 12], [11, 12]), ([13], [13]), ([14], [14]), ([15], [15]), ([10, 16], [10, 16]), ([2, 6, 17], [2, 6, 17]), ([], []), ([19, 18, 0, 1, 2, 3, 4, 5, 6, 7, 8, 9, 10, 11, 12, 13, 14, 15, 16, 17, 18, 19], [18, 19])])
def governorlaw03_FrameCuts.B9 : List Nat := [0, 1, 3, 0, 8, 0, 56, 0, 0, 384, 896, 0, 0, 6144, 14336, 30720, 63488, 130944, 262143, 0, 1048575]
theorem governorlaw03_FrameCuts.tab9 : rtab .any (opsOf Try.f5 9) = governorlaw03_FrameCuts.T9 := by kernel_rfl
theorem governorlaw03_FrameCuts.bits9 : waitsOk governorlaw03_FrameCuts.T9.2 governorlaw03_FrameCuts.B9 = true := by kernel_rfl
set_option maxHeartbeats 8000000 in
set_option maxRecDepth 100000 in
theorem governorlaw03_FrameCuts.calls (k : Nat) (P0_ : Nat → Prop) (A0 : Option Addr) (c0 : Nat) (l0 : List (List Int)) (a1 : Int) (a2 : Int) (r : Bool) (w : World) (hs0 : Kd.V (Kd.slice 5 (Kd.int .u8)) 22 w w.heap.size (fun k_ => P0_ k_) (.slice A0 l0.length c0) l0) (h : governorlaw03_FrameCuts.f k l0 a1 a2 = some r) :
    Calls Try.prog 5 #[.slice A0 l0.length c0, .int .u16 a1, .int .u16 a2] w fun e w' => e = .returned (.bool r) ∧ Below w.heap.size w w' := by
  have hu24 := Try.underlying24
  have HO0 := Aside0.mk (show Kd.V (Kd.slice 5 (Kd.int .u8)) 22 w w.heap.size (fun k_ => (P0_ k_ ∨ w.heap.size ≤ k_)) (.slice A0 l0.length c0) l0 from Kd.V_mono hs0 (fun k_ hk => .inl hk))
  have HB := Aside0.mk (Below.refl w.heap.size w)
  have H : ((governorlaw03_head.f).bind fun t282 => (if (l0.length : Int) > 20 then (some t282) else (governorlaw03_FrameCuts.l0 k l0 a1 a2 t282 ([] : List Int) ([] : List (S24)) 0))) = some r := h
  clear h
  replace H := Option.bind_eq_some_iff.mp H
  obtain ⟨t282, A40, H⟩ := H
  replace H : (if (l0.length : Int) > 20 then (some t282) else (governorlaw03_FrameCuts.l0 k l0 a1 a2 t282 ([] : List Int) ([] : List (S24)) 0)) = some r := H
  have A4 := Aside0.mk A40
  clear A40
  by_cases c5 : (l0.length : Int) > 20
  · rw [if_pos c5] at H
    have c5b0 : decide (20 < (l0.length : Int)) = true := decide_eq_true c5
    have c5b1 : decide (20 < l0.length) = true := decide_eq_true (by omega)
    clear c5
    obtain rfl := Option.some.inj H
    go_enter Try.func5, Try.ntmps5
    go_wp2_with (first | ((with_reducible refine gate_callee (f := 9) rfl ?_); refine goesL_ (some 19) rfl rfl Try.func9 (by kernel_rfl) rfl #[] rfl (by (try simp only [List.map_toArray, List.map_cons, List.map_nil]); first | done | rfl | (simp only [List.length_drop, List.length_take]; rfl)) ?_; (with_reducible refine (governorlaw03_head.calls  t282 _ A4.out).mono ?_); rintro e w6 ⟨rfl, hb⟩; refine ⟨_, rfl, ?_⟩; have n0_ := Aside0.mk (Kd.V_below (by (with_reducible repeat (first | apply Kd.V_alloc | apply Kd.V_drewN | apply Kd.V_drew)); exact HO0.out) hb); have n1_ := Aside0.mk (below_step (by repeat (first | (with_reducible first | exact HB.out | apply below_alloc | apply pw_below_drewN | apply below_drew1) | exact HB.out)) hb); clear HO0; clear HB; have HO0 := n0_; have HB := n1_; clear n0_ n1_; (try clear hb); (try clear hb2); (try clear hk); (try clear hi)))
    go_ret
    exact ⟨by first | rfl | (simp [errW_none, errW_some] <;> rfl) | (simp [*, errW_none, errW_some] <;> rfl), by repeat (first | (with_reducible first | exact HB.out | apply below_alloc | apply pw_below_drewN | apply below_drew1) | exact HB.out)⟩
  · rw [if_neg c5] at H
    have c5b0 : decide (20 < (l0.length : Int)) = false := decide_eq_false c5
    have c5b1 : decide (20 < l0.length) = false := decide_eq_false (by omega)
    clear c5
    have H' := Aside0.mk H
    clear H
    go_enter Try.func5, Try.ntmps5
    go_wp2_with (first | ((with_reducible refine gate_callee (f := 9) rfl ?_); refine goesL_ (some 19) rfl rfl Try.func9 (by kernel_rfl) rfl #[] rfl (by (try simp only [List.map_toArray, List.map_cons, List.map_nil]); first | done | rfl | (simp only [List.length_drop, List.length_take]; rfl)) ?_; (with_reducible refine (governorlaw03_head.calls  t282 _ A4.out).mono ?_); rintro e w7 ⟨rfl, hb⟩; refine ⟨_, rfl, ?_⟩; have n0_ := Aside0.mk (Kd.V_below (by (with_reducible repeat (first | apply Kd.V_alloc | apply Kd.V_drewN | apply Kd.V_drew)); exact HO0.out) hb); have n1_ := Aside0.mk (below_step (by repeat (first | (with_reducible first | exact HB.out | apply below_alloc | apply pw_below_drewN | apply below_drew1) | exact HB.out)) hb); clear HO0; clear HB; have HO0 := n0_; have HB := n1_; clear n0_ n1_; (try clear hb); (try clear hb2); (try clear hk); (try clear hi)))
    go_loopg [8, 9, 10] k (fun kq v8 v9 v10 w' => ∃ (x8_1 : List Int) (x9_1 : List (S24)) (x10_1 : Int), v10 = .int .i64 x10_1 ∧ Aside0 (governorlaw03_FrameCuts.l0 kq l0 a1 a2 t282 x8_1 x9_1 x10_1 = some r) ∧ Aside0 (kq ≤ k) ∧ Aside0 (Kd.V (Kd.slice 5 (Kd.int .u8)) 22 w' w.heap.size (fun k_ => (P0_ k_ ∨ w.heap.size ≤ k_) ∧ some k_ ≠ (v8 : Value).ownBlock ∧ some k_ ≠ (v9 : Value).ownBlock) (.slice A0 l0.length c0) l0) ∧ Aside0 (Kd.R (Kd.int .u8) 5 w' w.heap.size (fun k_ => (w.heap.size ≤ k_)) v8 x8_1) ∧ Aside0 (Kd.N k24 24 w' w.heap.size (fun k_ => (P0_ k_ ∨ w.heap.size ≤ k_) ∧ some k_ ≠ (v8 : Value).ownBlock) v9 x9_1) ∧ Aside0 (Below w.heap.size w w'))
    case atStart => exact ⟨(([] : List Int)), (([] : List (S24))), (0), (by first | rfl | (simp; done) | (simp [*]; done)), H', ⟨Nat.le_refl _⟩, ⟨by (with_reducible repeat (first | apply Kd.V_alloc | apply Kd.V_drewN | apply Kd.V_drew)); exact Kd.V_mono HO0.out (fun _ hk => ⟨hk, ⟨(by simp [Value.ownBlock]), (by simp [Value.ownBlock])⟩⟩)⟩, ⟨by first | exact Kd.R_nil _ _ _ _ _ | exact Kd.N_nil _ _ _ _ _ | exact Kd.V_nil _ _ _ _ _ | exact Kd.Q_nil _ _ _ _ _ | exact Kd.S_nil _ _ _ _ _⟩, ⟨by first | exact Kd.S_nil _ _ _ _ _ | exact Kd.N_nil _ _ _ _ _ | exact Kd.V_nil _ _ _ _ _ | exact Kd.Q_nil _ _ _ _ _ | exact Kd.R_nil _ _ _ _ _⟩, ⟨by repeat (first | (with_reducible first | exact HB.out | apply below_alloc | apply pw_below_drewN | apply below_drew1) | exact HB.out)⟩⟩
    case round =>
      clear H'
      try clear p2
      try clear c5
      try clear c5b0
      try clear c5b1
      obtain ⟨x8_1, x9_1, x10_1, rfl, HA, HK1, HO_0, HO_8, HO_9, HB⟩ := hrel
      cases gk with
      | zero => exact absurd HA.out (by simp [governorlaw03_FrameCuts.l0])
      | succ k1 =>
        have H := HA.out
        clear HA
        simp only [governorlaw03_FrameCuts.l0] at H
        by_cases c8 : x10_1 < (l0.length : Int)
        · rw [if_pos c8] at H
          have c8b0 : decide (x10_1 < (l0.length : Int)) = true := decide_eq_true c8
          clear c8
          by_cases c9 : 0 ≤ x10_1
          · rw [if_pos c9] at H
            have c9b0 : decide (0 ≤ x10_1) = true := decide_eq_true c9
            clear c9
            obtain ⟨ji10, hji10⟩ : ∃ j_ : Int, (mn ((rd_L2 l0 x10_1).length : Int) 900) = j_ := ⟨_, rfl⟩
            replace H : (if 0 ≤ (ji10) then (if (ji10) ≤ ((rd_L2 l0 x10_1).length : Int) then ((some ((rd_L2 l0 x10_1).take ((ji10) : Int).toNat : List Int)).bind fun y285 => (if x9_1.length < 3518437208883 then ((frame_Put.f (wrap64 (1 + (Int.tmod x10_1 15))) (wrap64 ((wrap64 (a1)) + x10_1)) y285).bind fun t294 => (if x8_1.length + t294.length < 140737488355328 then (governorlaw03_FrameCuts.l0 k1 l0 a1 a2 t282 (x8_1 ++ t294) (x9_1 ++ [(⟨wrap64 (1 + (Int.tmod x10_1 15)), wrap64 ((wrap64 (a1)) + x10_1), y285⟩ : S24)]) (wrap64 (x10_1 + 1))) else (none))) else (none))) else (none)) else (none)) = some r := by first | (rw [hji10] at H; exact H) | (simp only [hji10] at H ⊢; exact H)
            have hji10_ : (if 900 < ((rd_L2 l0 x10_1).length : Int) then 900 else ((rd_L2 l0 x10_1).length : Int)) = ji10 := hji10
            by_cases c11 : 0 ≤ (ji10)
            · rw [if_pos c11] at H
              have c11b0 := eq_true c11
              have c11b1 : decide (0 ≤ (ji10)) = true := decide_eq_true c11
              clear c11
              by_cases c12 : (ji10) ≤ ((rd_L2 l0 x10_1).length : Int)
              · rw [if_pos c12] at H
                have c12b0 := eq_true c12
                have c12b1 : decide ((ji10) ≤ ((rd_L2 l0 x10_1).length : Int)) = true := decide_eq_true c12
                clear c12
                obtain ⟨y285, hy285⟩ : ∃ y_ : List Int, y_ = ((rd_L2 l0 x10_1).take ((ji10) : Int).toNat) := ⟨_, rfl⟩
                replace H : (if x9_1.length < 3518437208883 then ((frame_Put.f (wrap64 (1 + (Int.tmod x10_1 15))) (wrap64 ((wrap64 (a1)) + x10_1)) y285).bind fun t294 => (if x8_1.length + t294.length < 140737488355328 then (governorlaw03_FrameCuts.l0 k1 l0 a1 a2 t282 (x8_1 ++ t294) (x9_1 ++ [(⟨wrap64 (1 + (Int.tmod x10_1 15)), wrap64 ((wrap64 (a1)) + x10_1), y285⟩ : S24)]) (wrap64 (x10_1 + 1))) else (none))) else (none)) = some r := by first | (rw [hy285]; with_reducible exact H) | (have H2_ := (Option.bind_some _ _).symm.trans H; rw [hy285]; with_reducible exact H2_) | (have H2_ := (Option.bind_some _ _).symm.trans H; with_reducible exact H2_) | with_reducible exact H | (rw [hy285]; exact H) | exact H
                have Ny285 := Aside0.mk hy285
                clear hy285
                by_cases c13 : x9_1.length < 3518437208883
                · rw [if_pos c13] at H
                  have LMc13 := Aside0.mk c13
                  clear c13
                  obtain ⟨y291, hy291⟩ : ∃ y_ : List (S24), y_ = (x9_1 ++ [(⟨wrap64 (1 + (Int.tmod x10_1 15)), wrap64 ((wrap64 (a1)) + x10_1), y285⟩ : S24)]) := ⟨_, rfl⟩
                  replace H : ((frame_Put.f (wrap64 (1 + (Int.tmod x10_1 15))) (wrap64 ((wrap64 (a1)) + x10_1)) y285).bind fun t294 => (if x8_1.length + t294.length < 140737488355328 then (governorlaw03_FrameCuts.l0 k1 l0 a1 a2 t282 (x8_1 ++ t294) y291 (wrap64 (x10_1 + 1))) else (none))) = some r := by first | (rw [hy291]; with_reducible exact H) | (have H2_ := (Option.bind_some _ _).symm.trans H; rw [hy291]; with_reducible exact H2_) | (have H2_ := (Option.bind_some _ _).symm.trans H; with_reducible exact H2_) | with_reducible exact H | (rw [hy291]; exact H) | exact H
                  have Ny291 := Aside0.mk hy291
                  clear hy291
                  replace H := Option.bind_eq_some_iff.mp H
                  obtain ⟨t294, A140, H⟩ := H
                  replace H : (if x8_1.length + t294.length < 140737488355328 then (governorlaw03_FrameCuts.l0 k1 l0 a1 a2 t282 (x8_1 ++ t294) y291 (wrap64 (x10_1 + 1))) else (none)) = some r := H
                  have A14 := Aside0.mk A140
                  clear A140
                  by_cases c15 : x8_1.length + t294.length < 140737488355328
                  · rw [if_pos c15] at H
                    have LMc15 := Aside0.mk c15
                    clear c15
                    obtain ⟨y297, hy297⟩ : ∃ y_ : List Int, y_ = (x8_1 ++ t294) := ⟨_, rfl⟩
                    replace H : (governorlaw03_FrameCuts.l0 k1 l0 a1 a2 t282 y297 y291 (wrap64 (x10_1 + 1))) = some r := by first | (rw [hy297]; with_reducible exact H) | (have H2_ := (Option.bind_some _ _).symm.trans H; rw [hy297]; with_reducible exact H2_) | (have H2_ := (Option.bind_some _ _).symm.trans H; with_reducible exact H2_) | with_reducible exact H | (rw [hy297]; exact H) | exact H
                    have Ny297 := Aside0.mk hy297
                    clear hy297
                    have H' := Aside0.mk H
                    clear H
                    try go_wp2
                    have n0_ := Aside0.mk (Kd.V_drew HO_0.out)
                    have n1_ := Aside0.mk (Kd.R_drew HO_8.out)
                    have n2_ := Aside0.mk (Kd.N_drew HO_9.out)
                    have n3_ := Aside0.mk (below_drew1 HB.out)
                    clear HO_0
                    clear HO_8
                    clear HO_9
                    clear HB
                    have HO_0 := n0_
                    have HO_8 := n1_
                    have HO_9 := n2_
                    have HB := n3_
                    clear n0_ n1_ n2_ n3_
                    have p283 : 0 ≤ (x10_1 : Int) := of_decide_eq_true (by first | (with_reducible assumption) | assumption)
                    have q283 : x10_1 < (l0.length : Int) := of_decide_eq_true (by first | (with_reducible assumption) | assumption)
                    obtain ⟨ad283, A283_0, c283_0, e283, hx283_0, hl283_0, hi283_0⟩ := at_L2 (Kd.V_reads' HO_0.out).2.2 x10_1 p283 q283
                    cases e283
                    obtain ⟨ce283, hce283, hMe283, hcc283⟩ := Kd.V_get HO_0.out [] x10_1 p283 (by first | exact q283 | exact of_decide_eq_true (by first | (with_reducible assumption) | assumption) | (have e_ := (Kd.V_reads' HO_0.out).1; omega))
                    obtain ⟨ua283_0, uc283_0, rfl, ul283_0, ge283_0⟩ := Kd.FK_slice_open hMe283
                    have hv283_0 := hcc283 0 _ rfl
                    rw [Nat.add_zero, show ((Kd.slice 5 (Kd.int .u8))).sz = 1 from rfl, Nat.mul_one] at hv283_0
                    replace hv283_0 := Option.some.inj (hv283_0.symm.trans hx283_0)
                    injection hv283_0 with hva_ hvn_ hvc_
                    rw [hva_] at ge283_0
                    rw [hvc_] at ul283_0
                    have HL283_0 := Aside0.mk (show Kd.V (Kd.int .u8) 5 _ w.heap.size _ _ (rd_L2 l0 x10_1) from Kd.V_mk ul283_0 ge283_0)
                    clear hva_ hvn_ hvc_ ge283_0 ul283_0
                    clear hcc283 hce283
                    have HR283_0 := Aside0.mk hi283_0
                    have HC283_0 := Aside0.mk hl283_0
                    clear hi283_0 hl283_0
                    replace p283 := eq_true p283
                    replace q283 := eq_true q283
                    have p284 : 0 ≤ (x10_1 : Int) := of_decide_eq_true (by first | (with_reducible assumption) | assumption)
                    have q284 : x10_1 < (l0.length : Int) := of_decide_eq_true (by first | (with_reducible assumption) | assumption)
                    obtain ⟨ad284, A284_0, c284_0, e284, hx284_0, hl284_0, hi284_0⟩ := at_L2 (Kd.V_reads' HO_0.out).2.2 x10_1 p284 q284
                    obtain rfl : ad283 = ad284 := (by injection e284)
                    obtain ⟨ce284, hce284, hMe284, hcc284⟩ := Kd.V_get HO_0.out [] x10_1 p284 (by first | exact q284 | exact of_decide_eq_true (by first | (with_reducible assumption) | assumption) | (have e_ := (Kd.V_reads' HO_0.out).1; omega))
                    obtain ⟨ua284_0, uc284_0, rfl, ul284_0, ge284_0⟩ := Kd.FK_slice_open hMe284
                    have hv284_0 := hcc284 0 _ rfl
                    rw [Nat.add_zero, show ((Kd.slice 5 (Kd.int .u8))).sz = 1 from rfl, Nat.mul_one] at hv284_0
                    replace hv284_0 := Option.some.inj (hv284_0.symm.trans hx284_0)
                    injection hv284_0 with hva_ hvn_ hvc_
                    rw [hva_] at ge284_0
                    rw [hvc_] at ul284_0
                    have HL284_0 := Aside0.mk (show Kd.V (Kd.int .u8) 5 _ w.heap.size _ _ (rd_L2 l0 x10_1) from Kd.V_mk ul284_0 ge284_0)
                    clear hva_ hvn_ hvc_ ge284_0 ul284_0
                    clear hcc284 hce284
                    have HR284_0 := Aside0.mk hi284_0
                    have HC284_0 := Aside0.mk hl284_0
                    clear hi284_0 hl284_0
                    replace p284 := eq_true p284
                    replace q284 := eq_true q284
                    have ea_ := Option.some.inj (hx283_0.symm.trans hx284_0)
                    injection ea_ with ea_ en_ ec_
                    subst ea_
                    subst ec_
                    clear en_
                    have q17 : ((ji10) : Int) ≤ (((rd_L2 l0 x10_1).length : Int) : Int) := of_decide_eq_true (by first | (with_reducible assumption) | assumption)
                    obtain ⟨i017, hi017, _, hsz17, _⟩ := info_parts info5
                    have hroom17 : (rd_L2 l0 x10_1).length ≤ c283_0 := HC283_0.out
                    have hC17 : Kd.F (Kd.int .u8) _ _ A283_0 (rd_L2 l0 x10_1).length (rd_L2 l0 x10_1) := (Kd.V_at (base := w.heap.size) HL283_0.out).2.2
                    have hcut17 := cut_to (P := Try.prog) 22 5 .i64 Try.underlying22 hi017 A283_0 (rd_L2 l0 x10_1).length c283_0 (ji10) (of_decide_eq_true (by first | (with_reducible assumption) | assumption)) q17 hroom17
                    have hr17 := Kd.F_take (m := ((ji10) : Int).toNat) hC17 (by omega)
                    have hy17 : y285.length = ((ji10) : Int).toNat := (by rw [Ny285.out, List.length_take]; omega)
                    rw [← Ny285.out] at hr17
                    rw [← hy17] at hcut17
                    have HO289 := Aside0.mk (show Kd.V (Kd.int .u8) 5 _ w.heap.size _ (.slice A283_0 y285.length c283_0) y285 from Kd.V_mk (by omega) hr17)
                    have HC289 := Aside0.mk (show y285.length ≤ c283_0 from by omega)
                    clear hr17 hC17 hroom17 hi017 hsz17
                    have KY17 := Aside0.mk hy17
                    clear hy17
                    replace q17 := eq_true q17
                    refine start_ (n := 21) (S := fun w' => w'.cell? (ad283.add (x10_1).toNat) = some (.slice A283_0 (rd_L2 l0 x10_1).length c283_0) ∧ w'.cell? (ad283.add (x10_1).toNat) = some (.slice A283_0 (rd_L2 l0 x10_1).length c283_0)) (ds := []) #[false, false, false, false, false, false, false, false, false, false, false, false, false, false, false, false, false, false, false, false, false] (by kernel_rfl) rfl rfl ⟨hx283_0, hx284_0⟩ (fun hHeld => ?_); refine with_tabW governorlaw03_FrameCuts.tab9 governorlaw03_FrameCuts.bits9 (fun HT_ HW_ => ?_)
                    generalize wr.drew = w16 at HO_0 HO_8 HO_9 HB HL283_0 HL284_0 HO289 HR283_0 HR284_0 hx283_0 hx284_0 hHeld ⊢
                    refine pure_ (i := 0) (N := some 30) (v := ?_) (a' := ?_) #[true, false, false, false, false, false, false, false, false, false, false, false, false, false, false, false, false, false, false, false, false] rfl rfl (any_of HT_.out (by kernel_rfl)) (fun _ _ _ h => h) (Or.inl ⟨by rfl, ?_⟩) ?_ ?_
                    rotate_left
                    · intro w'
                      go_simp
                      with_reducible rfl
                    rotate_left
                    · simp only [Act.put, List.setIfInBounds_toArray, List.set_cons_zero, List.set_cons_succ, i64_w, i32_w]
                      rfl
                    refine pure_ (i := 1) (N := some 31) (v := ?_) (a' := ?_) #[true, true, false, false, false, false, false, false, false, false, false, false, false, false, false, false, false, false, false, false, false] rfl rfl (any_of HT_.out (by kernel_rfl)) (fun _ _ _ h => h) (Or.inl ⟨by rfl, ?_⟩) ?_ ?_
                    rotate_left
                    · intro w'
                      go_simp
                      with_reducible rfl
                    rotate_left
                    · simp only [Act.put, List.setIfInBounds_toArray, List.set_cons_zero, List.set_cons_succ, i64_w, i32_w]
                      rfl
                    refine pure_ (i := 2) (N := some 32) (v := ?_) (a' := ?_) #[true, true, true, false, false, false, false, false, false, false, false, false, false, false, false, false, false, false, false, false, false] rfl rfl (any_of HT_.out (by kernel_rfl)) (fun _ _ _ h => h) (Or.inl ⟨by rfl, ?_⟩) ?_ ?_
                    rotate_left
                    · intro w'
                      go_simp
                      with_reducible rfl
                    rotate_left
                    · simp only [Act.put, List.setIfInBounds_toArray, List.set_cons_zero, List.set_cons_succ, i64_w, i32_w]
                      rfl
                    refine pure_ (i := 3) (N := some 33) (v := ?_) (a' := ?_) #[true, true, true, true, false, false, false, false, false, false, false, false, false, false, false, false, false, false, false, false, false] rfl rfl (any_of HT_.out (by kernel_rfl)) (fun _ _ _ h => h) (Or.inl ⟨by rfl, ?_⟩) ?_ ?_
                    rotate_left
                    · intro w'
                      go_simp
                      with_reducible rfl
                    rotate_left
                    · simp only [Act.put, List.setIfInBounds_toArray, List.set_cons_zero, List.set_cons_succ, i64_w, i32_w]
                      rfl
                    refine pure_ (i := 4) (N := some 34) (v := ?_) (a' := ?_) #[true, true, true, true, true, false, false, false, false, false, false, false, false, false, false, false, false, false, false, false, false] rfl rfl (any_of HT_.out (by kernel_rfl)) (fun _ _ _ h => h) (Or.inl ⟨by rfl, ?_⟩) ?_ ?_
                    rotate_left
                    · intro w'
                      go_simp
                      with_reducible rfl
                    rotate_left
                    · simp only [Act.put, List.setIfInBounds_toArray, List.set_cons_zero, List.set_cons_succ, i64_w, i32_w]
                      rfl
                    refine pure_ (i := 5) (N := some 35) (v := ?_) (a' := ?_) #[true, true, true, true, true, true, false, false, false, false, false, false, false, false, false, false, false, false, false, false, false] rfl rfl (any_of HT_.out (by kernel_rfl)) (fun _ _ _ h => h) (Or.inl ⟨by rfl, ?_⟩) ?_ ?_
                    rotate_left
                    · intro w'
                      go_simp
                      with_reducible rfl
                    rotate_left
                    · simp only [Act.put, List.setIfInBounds_toArray, List.set_cons_zero, List.set_cons_succ, i64_w, i32_w]
                      rfl
                    refine pure_ (i := 6) (N := some 36) (v := ?_) (a' := ?_) #[true, true, true, true, true, true, true, false, false, false, false, false, false, false, false, false, false, false, false, false, false] rfl rfl (any_of HT_.out (by kernel_rfl)) (fun _ _ _ h => h) (Or.inl ⟨by rfl, ?_⟩) ?_ ?_
                    rotate_left
                    · intro w'
                      go_simp
                      with_reducible rfl
                    rotate_left
                    · simp only [Act.put, List.setIfInBounds_toArray, List.set_cons_zero, List.set_cons_succ, i64_w, i32_w]
                      rfl
                    refine pure_ (i := 7) (N := some 37) (v := ?_) (a' := ?_) #[true, true, true, true, true, true, true, true, false, false, false, false, false, false, false, false, false, false, false, false, false] rfl rfl (any_of HT_.out (by kernel_rfl)) (fun _ _ _ h => h) (Or.inl ⟨by rfl, ?_⟩) ?_ ?_
                    rotate_left
                    · intro w'
                      go_simp
                      with_reducible rfl
                    rotate_left
                    · simp only [Act.put, List.setIfInBounds_toArray, List.set_cons_zero, List.set_cons_succ, i64_w, i32_w]
                      rfl
                    refine pure_ (i := 8) (N := some 38) (v := ?_) (a' := ?_) #[true, true, true, true, true, true, true, true, true, false, false, false, false, false, false, false, false, false, false, false, false] rfl rfl (any_of HT_.out (by kernel_rfl)) (fun _ _ _ h => h) (Or.inl ⟨by rfl, ?_⟩) ?_ ?_
                    rotate_left
                    · intro w'
                      go_simp
                      with_reducible rfl
                    rotate_left
                    · simp only [Act.put, List.setIfInBounds_toArray, List.set_cons_zero, List.set_cons_succ, i64_w, i32_w]
                      rfl
                    refine pure_ (i := 9) (N := some 39) (v := ?_) (a' := ?_) #[true, true, true, true, true, true, true, true, true, true, false, false, false, false, false, false, false, false, false, false, false] rfl rfl (any_of HT_.out (by kernel_rfl)) (fun _ _ _ h => h) (Or.inl ⟨by rfl, ?_⟩) ?_ ?_
                    rotate_left
                    · intro w'
                      go_simp
                      with_reducible rfl
                    rotate_left
                    · simp only [Act.put, List.setIfInBounds_toArray, List.set_cons_zero, List.set_cons_succ, i64_w, i32_w]
                      rfl
                    refine pure_ (i := 11) (N := some 41) (v := ?_) (a' := ?_) #[true, true, true, true, true, true, true, true, true, true, false, true, false, false, false, false, false, false, false, false, false] rfl rfl (any_of HT_.out (by kernel_rfl)) (fun _ _ _ h => h) (Or.inl ⟨by rfl, ?_⟩) ?_ ?_
                    rotate_left
                    · intro w'
                      go_simp
                      with_reducible rfl
                    rotate_left
                    · simp only [Act.put, List.setIfInBounds_toArray, List.set_cons_zero, List.set_cons_succ, i64_w, i32_w]
                      rfl
                    refine pure_ (i := 12) (N := some 42) (v := ?_) (a' := ?_) #[true, true, true, true, true, true, true, true, true, true, false, true, true, false, false, false, false, false, false, false, false] rfl rfl (any_of HT_.out (by kernel_rfl)) (fun _ _ _ h => h) (Or.inl ⟨by rfl, ?_⟩) ?_ ?_
                    rotate_left
                    · intro w'
                      go_simp
                      with_reducible rfl
                    rotate_left
                    · simp only [Act.put, List.setIfInBounds_toArray, List.set_cons_zero, List.set_cons_succ, i64_w, i32_w]
                      rfl
                    refine pure_ (i := 13) (N := some 43) (v := ?_) (a' := ?_) #[true, true, true, true, true, true, true, true, true, true, false, true, true, true, false, false, false, false, false, false, false] rfl rfl (any_of HT_.out (by kernel_rfl)) (fun _ _ _ h => h) (Or.inl ⟨by rfl, ?_⟩) ?_ ?_
                    rotate_left
                    · intro w'
                      go_simp
                      with_reducible rfl
                    rotate_left
                    · simp only [Act.put, List.setIfInBounds_toArray, List.set_cons_zero, List.set_cons_succ, i64_w, i32_w]
                      rfl
                    refine take_ (i := 10) (N := some 40) (v := ?_) (a' := ?_) #[true, true, true, true, true, true, true, true, true, true, true, true, true, true, false, false, false, false, false, false, false] rfl rfl (take_ofW HT_.out HW_.out (by kernel_rfl)) (fun _ _ _ h => h) (Or.inl ⟨by rfl, ?_⟩) hHeld ?_ ?_
                    rotate_left
                    · rintro w' ⟨s0, s1⟩
                      go_simp
                      with_reducible rfl
                    rotate_left
                    · simp only [Act.put, List.setIfInBounds_toArray, List.set_cons_zero, List.set_cons_succ, i64_w, i32_w]
                      rfl
                    refine take_ (i := 14) (N := some 44) (v := ?_) (a' := ?_) #[true, true, true, true, true, true, true, true, true, true, true, true, true, true, true, false, false, false, false, false, false] rfl rfl (take_ofW HT_.out HW_.out (by kernel_rfl)) (fun _ _ _ h => h) (Or.inl ⟨by rfl, ?_⟩) hHeld ?_ ?_
                    rotate_left
                    · rintro w' ⟨s0, s1⟩
                      go_simp
                      with_reducible rfl
                    rotate_left
                    · simp only [Act.put, List.setIfInBounds_toArray, List.set_cons_zero, List.set_cons_succ, i64_w, i32_w]
                      rfl
                    refine pure_ (i := 15) (N := some 45) (v := ?_) (a' := ?_) #[true, true, true, true, true, true, true, true, true, true, true, true, true, true, true, true, false, false, false, false, false] rfl rfl (any_of HT_.out (by kernel_rfl)) (fun _ _ _ h => h) (Or.inl ⟨by rfl, ?_⟩) ?_ ?_
                    rotate_left
                    · intro w'
                      go_simp
                      with_reducible rfl
                    rotate_left
                    · simp only [Act.put, List.setIfInBounds_toArray, List.set_cons_zero, List.set_cons_succ, i64_w, i32_w]
                      rfl
                    refine pure_ (i := 16) (N := some 46) (v := ?_) (a' := ?_) #[true, true, true, true, true, true, true, true, true, true, true, true, true, true, true, true, true, false, false, false, false] rfl rfl (any_of HT_.out (by kernel_rfl)) (fun _ _ _ h => h) (Or.inl ⟨by rfl, ?_⟩) ?_ ?_
                    rotate_left
                    · intro w'
                      go_simp
                      with_reducible rfl
                    rotate_left
                    · simp only [Act.put, List.setIfInBounds_toArray, List.set_cons_zero, List.set_cons_succ, i64_w, i32_w]
                      rfl
                    refine pure_ (i := 17) (N := some 47) (v := ?_) (a' := ?_) #[true, true, true, true, true, true, true, true, true, true, true, true, true, true, true, true, true, true, false, false, false] rfl rfl (any_of HT_.out (by kernel_rfl)) (fun _ _ _ h => h) (Or.inl ⟨by rfl, ?_⟩) ?_ ?_
                    rotate_left
                    · intro w'
                      go_simp
                      with_reducible rfl
                    rotate_left
                    · simp only [Act.put, List.setIfInBounds_toArray, List.set_cons_zero, List.set_cons_succ, i64_w, i32_w]
                      rfl
                    refine pure_ (i := 18) (N := some 48) (v := ?_) (a' := ?_) #[true, true, true, true, true, true, true, true, true, true, true, true, true, true, true, true, true, true, true, false, false] rfl rfl (any_of HT_.out (by kernel_rfl)) (fun _ _ _ h => h) (Or.inl ⟨by rfl, ?_⟩) ?_ ?_
                    rotate_left
                    · intro w'
                      go_simp
                      with_reducible rfl
                    rotate_left
                    · simp only [Act.put, List.setIfInBounds_toArray, List.set_cons_zero, List.set_cons_succ, i64_w, i32_w]
                      rfl
                    refine one_ (i := 19) (N := some 11) #[true, true, true, true, true, true, true, true, true, true, true, true, true, true, true, true, true, true, true, true, false] rfl rfl (one_of HT_.out (by kernel_rfl)) (by decide) (fun K hK => ?_)
                    refine box_step ?hg (N := 11) ?hd (cs := #[.int .i64 0, .int .i64 0, .slice none 0 0]) (t := 24) ?hr ?_; (case hd => rfl); (case hg => rfl); (case hr => first | (go_simp; done) | (go_simp; rfl))
                    intro gb290 hg w18 hbox hb
                    have HS0_ := (hb.cell (World.block_lt_of_cell? _ _ (hHeld.1))).trans (hHeld.1)
                    have HS1_ := (hb.cell (World.block_lt_of_cell? _ _ (hHeld.2))).trans (hHeld.2)
                    have n0_ := Aside0.mk (Kd.V_below (Kd.V_elderB (by (with_reducible repeat (first | apply Kd.V_alloc | apply Kd.V_drewN | apply Kd.V_drew)); exact HO_0.out) gb290 (Nat.le_of_eq hg.symm)) hb)
                    have n1_ := Aside0.mk (Kd.R_below (by (with_reducible repeat (first | apply Kd.R_alloc | apply Kd.R_drewN | apply Kd.R_drew)); exact HO_8.out) hb)
                    have n2_ := Aside0.mk (Kd.N_below (Kd.N_elderB (by (with_reducible repeat (first | apply Kd.N_alloc | apply Kd.N_drewN | apply Kd.N_drew)); exact HO_9.out) gb290 (Nat.le_of_eq hg.symm)) hb)
                    have n3_ := Aside0.mk (Kd.V_below (Kd.V_elderB (by (with_reducible repeat (first | apply Kd.V_alloc | apply Kd.V_drewN | apply Kd.V_drew)); exact HL283_0.out) gb290 (Nat.le_of_eq hg.symm)) hb)
                    have n4_ := Aside0.mk (Kd.V_below (Kd.V_elderB (by (with_reducible repeat (first | apply Kd.V_alloc | apply Kd.V_drewN | apply Kd.V_drew)); exact HL284_0.out) gb290 (Nat.le_of_eq hg.symm)) hb)
                    have n5_ := Aside0.mk (Kd.V_below (Kd.V_elderB (by (with_reducible repeat (first | apply Kd.V_alloc | apply Kd.V_drewN | apply Kd.V_drew)); exact HO289.out) gb290 (Nat.le_of_eq hg.symm)) hb)
                    have n6_ := Aside0.mk (Kd.C_below (by repeat (first | (with_reducible exact HR283_0.out) | (with_reducible refine Kd.C_alloc ?_ _) | (with_reducible refine Kd.C_drewN ?_ _) | (with_reducible refine Kd.C_drew ?_) | exact HR283_0.out)) hb)
                    have n7_ := Aside0.mk (Kd.C_below (by repeat (first | (with_reducible exact HR284_0.out) | (with_reducible refine Kd.C_alloc ?_ _) | (with_reducible refine Kd.C_drewN ?_ _) | (with_reducible refine Kd.C_drew ?_) | exact HR284_0.out)) hb)
                    have n8_ := Aside0.mk (below_step (by repeat (first | (with_reducible first | exact HB.out | apply below_alloc | apply pw_below_drewN | apply below_drew1) | exact HB.out)) hb)
                    have n9_ := Aside0.mk (hbox)
                    have n10_ := Aside0.mk ((by rw [hg]; exact (below_size (by repeat (first | (with_reducible first | exact HB.out | apply below_alloc | apply pw_below_drewN | apply below_drew1) | exact HB.out))) : w.heap.size ≤ gb290))
                    have n11_ := Aside0.mk ((by rw [hg]; exact (below_size (by repeat (first | (with_reducible first | exact HB.out | apply below_alloc | apply pw_below_drewN | apply below_drew1) | exact HB.out))) : w.heap.size ≤ gb290))
                    clear HO_0
                    clear HO_8
                    clear HO_9
                    clear HL283_0
                    clear HL284_0
                    clear HO289
                    clear HR283_0
                    clear HR284_0
                    clear HB
                    have HO_0 := n0_
                    have HO_8 := n1_
                    have HO_9 := n2_
                    have HL283_0 := n3_
                    have HL284_0 := n4_
                    have HO289 := n5_
                    have HR283_0 := n6_
                    have HR284_0 := n7_
                    have HB := n8_
                    have BK290 := n9_
                    have GW290 := n10_
                    have GE290 := n11_
                    clear n0_ n1_ n2_ n3_ n4_ n5_ n6_ n7_ n8_ n9_ n10_ n11_
                    clear hb hbox hg
                    refine hK.out _ _ ⟨HS0_, HS1_⟩ (fun hHeld => ?_)
                    clear hK K
                    refine norm_ (a' := ?_) ?_ ?_
                    rotate_left
                    · show Act.put _ (some 11) _ = _
                      simp only [Act.put, List.setIfInBounds_toArray, List.set_cons_zero, List.set_cons_succ, i64_w, i32_w]
                      rfl
                    refine one_ (i := 20) (N := none) #[true, true, true, true, true, true, true, true, true, true, true, true, true, true, true, true, true, true, true, true, true] rfl rfl (one_of HT_.out (by kernel_rfl)) (by decide) (fun K hK => ?_)
                    have hs19 : w18.cell? ⟨gb290, 0, none⟩ = some (.int .i64 0) := (blk_cell BK290.out 0).trans rfl
                    have hfs19 := blk_frozen BK290.out 0
                    have hs20 : w18.cell? ⟨gb290, 1, none⟩ = some (.int .i64 0) := (blk_cell BK290.out 1).trans rfl
                    have hfs20 := blk_frozen BK290.out 1
                    have hs21 : w18.cell? ⟨gb290, 2, none⟩ = some (.slice none 0 0) := (blk_cell BK290.out 2).trans rfl
                    have hfs21 := blk_frozen BK290.out 2
                    refine skip_ (w1 := ?_) (by rfl) rfl ?_ ?_
                    rotate_left
                    · go_simp
                      rfl
                    refine hK.out _ _ ⟨((cell_far (p := ⟨gb290, _, none⟩) (by first | exact V_blk HO_0.out (by have h1_ := of_eq_true p283; have h2_ := of_eq_true q283; omega) Nat.zero_lt_one (fun _ hk => hk.2) | (rw [add_block]; exact V_blk HO_0.out (by have h1_ := of_eq_true p283; have h2_ := of_eq_true q283; omega) Nat.zero_lt_one (fun _ hk => hk.2)) | (show (Addr.add _ _).block ≠ _; rw [add_block]; exact V_blk HO_0.out (by have h1_ := of_eq_true p283; have h2_ := of_eq_true q283; omega) Nat.zero_lt_one (fun _ hk => hk.2)) | (dsimp only; exact V_blk HO_0.out (by have h1_ := of_eq_true p283; have h2_ := of_eq_true q283; omega) Nat.zero_lt_one (fun _ hk => hk.2))) _).trans (((cell_far (p := ⟨gb290, _, none⟩) (by first | exact V_blk HO_0.out (by have h1_ := of_eq_true p283; have h2_ := of_eq_true q283; omega) Nat.zero_lt_one (fun _ hk => hk.2) | (rw [add_block]; exact V_blk HO_0.out (by have h1_ := of_eq_true p283; have h2_ := of_eq_true q283; omega) Nat.zero_lt_one (fun _ hk => hk.2)) | (show (Addr.add _ _).block ≠ _; rw [add_block]; exact V_blk HO_0.out (by have h1_ := of_eq_true p283; have h2_ := of_eq_true q283; omega) Nat.zero_lt_one (fun _ hk => hk.2)) | (dsimp only; exact V_blk HO_0.out (by have h1_ := of_eq_true p283; have h2_ := of_eq_true q283; omega) Nat.zero_lt_one (fun _ hk => hk.2))) _).trans (((cell_far (p := ⟨gb290, _, none⟩) (by first | exact V_blk HO_0.out (by have h1_ := of_eq_true p283; have h2_ := of_eq_true q283; omega) Nat.zero_lt_one (fun _ hk => hk.2) | (rw [add_block]; exact V_blk HO_0.out (by have h1_ := of_eq_true p283; have h2_ := of_eq_true q283; omega) Nat.zero_lt_one (fun _ hk => hk.2)) | (show (Addr.add _ _).block ≠ _; rw [add_block]; exact V_blk HO_0.out (by have h1_ := of_eq_true p283; have h2_ := of_eq_true q283; omega) Nat.zero_lt_one (fun _ hk => hk.2)) | (dsimp only; exact V_blk HO_0.out (by have h1_ := of_eq_true p283; have h2_ := of_eq_true q283; omega) Nat.zero_lt_one (fun _ hk => hk.2))) _).trans (hHeld.1)))))), ((cell_far (p := ⟨gb290, _, none⟩) (by first | exact V_blk HO_0.out (by have h1_ := of_eq_true p283; have h2_ := of_eq_true q283; omega) Nat.zero_lt_one (fun _ hk => hk.2) | (rw [add_block]; exact V_blk HO_0.out (by have h1_ := of_eq_true p283; have h2_ := of_eq_true q283; omega) Nat.zero_lt_one (fun _ hk => hk.2)) | (show (Addr.add _ _).block ≠ _; rw [add_block]; exact V_blk HO_0.out (by have h1_ := of_eq_true p283; have h2_ := of_eq_true q283; omega) Nat.zero_lt_one (fun _ hk => hk.2)) | (dsimp only; exact V_blk HO_0.out (by have h1_ := of_eq_true p283; have h2_ := of_eq_true q283; omega) Nat.zero_lt_one (fun _ hk => hk.2))) _).trans (((cell_far (p := ⟨gb290, _, none⟩) (by first | exact V_blk HO_0.out (by have h1_ := of_eq_true p283; have h2_ := of_eq_true q283; omega) Nat.zero_lt_one (fun _ hk => hk.2) | (rw [add_block]; exact V_blk HO_0.out (by have h1_ := of_eq_true p283; have h2_ := of_eq_true q283; omega) Nat.zero_lt_one (fun _ hk => hk.2)) | (show (Addr.add _ _).block ≠ _; rw [add_block]; exact V_blk HO_0.out (by have h1_ := of_eq_true p283; have h2_ := of_eq_true q283; omega) Nat.zero_lt_one (fun _ hk => hk.2)) | (dsimp only; exact V_blk HO_0.out (by have h1_ := of_eq_true p283; have h2_ := of_eq_true q283; omega) Nat.zero_lt_one (fun _ hk => hk.2))) _).trans (((cell_far (p := ⟨gb290, _, none⟩) (by first | exact V_blk HO_0.out (by have h1_ := of_eq_true p283; have h2_ := of_eq_true q283; omega) Nat.zero_lt_one (fun _ hk => hk.2) | (rw [add_block]; exact V_blk HO_0.out (by have h1_ := of_eq_true p283; have h2_ := of_eq_true q283; omega) Nat.zero_lt_one (fun _ hk => hk.2)) | (show (Addr.add _ _).block ≠ _; rw [add_block]; exact V_blk HO_0.out (by have h1_ := of_eq_true p283; have h2_ := of_eq_true q283; omega) Nat.zero_lt_one (fun _ hk => hk.2)) | (dsimp only; exact V_blk HO_0.out (by have h1_ := of_eq_true p283; have h2_ := of_eq_true q283; omega) Nat.zero_lt_one (fun _ hk => hk.2))) _).trans (hHeld.2))))))⟩ (fun hHeld => ?_)
                    clear hK K
                    refine done_ (done_of HT_.out (by kernel_rfl)) ?_
                    have n0_ : Aside0 (Kd.V (Kd.slice 5 (Kd.int .u8)) 22 (((w18.setCell ⟨gb290, 0, none⟩ (.int .i64 (wrap64 (1 + (Int.tmod x10_1 15))))).setCell ⟨gb290, 1, none⟩ (.int .i64 (wrap64 ((wrap64 (a1)) + x10_1)))).setCell ⟨gb290, 2, none⟩ (.slice A283_0 y285.length c283_0)) w.heap.size (fun k_ => (P0_ k_ ∨ w.heap.size ≤ k_) ∧ some k_ ≠ (u8 : Value).ownBlock ∧ some k_ ≠ (u9 : Value).ownBlock ∧ k_ ≠ gb290) (.slice (some ad283) l0.length c0) l0) := ⟨by (with_reducible repeat (first | apply Kd.V_alloc | apply Kd.V_drewN | apply Kd.V_drew)); exact Kd.V_mono (Kd.V_far (p := ⟨gb290, 2, none⟩) (Kd.V_far (p := ⟨gb290, 1, none⟩) (Kd.V_far (p := ⟨gb290, 0, none⟩) (Kd.V_mono HO_0.out (fun k_ hk => (⟨hk, hk.2⟩ : _ ∧ k_ ≠ gb290))) (fun _ hk => hk.2) (.int .i64 (wrap64 (1 + (Int.tmod x10_1 15))))) (fun _ hk => hk.2) (.int .i64 (wrap64 ((wrap64 (a1)) + x10_1)))) (fun _ hk => hk.2) (.slice A283_0 y285.length c283_0)) (fun _ hk => ⟨hk.1.1.1, ⟨hk.1.1.2.1, ⟨hk.1.1.2.2, hk.1.2⟩⟩⟩)⟩
                    have n1_ : Aside0 (Kd.R (Kd.int .u8) 5 (((w18.setCell ⟨gb290, 0, none⟩ (.int .i64 (wrap64 (1 + (Int.tmod x10_1 15))))).setCell ⟨gb290, 1, none⟩ (.int .i64 (wrap64 ((wrap64 (a1)) + x10_1)))).setCell ⟨gb290, 2, none⟩ (.slice A283_0 y285.length c283_0)) w.heap.size (fun k_ => (w.heap.size ≤ k_)) u8 x8_1) := ⟨by (with_reducible repeat (first | apply Kd.R_alloc | apply Kd.R_drewN | apply Kd.R_drew)); exact Kd.R_mono (Kd.R_far (p := ⟨gb290, 2, none⟩) (Kd.R_far (p := ⟨gb290, 1, none⟩) (Kd.R_far (p := ⟨gb290, 0, none⟩) (Kd.R_types HO_8.out BK290.out (by decide)) (fun _ hk => hk.2) (.int .i64 (wrap64 (1 + (Int.tmod x10_1 15))))) (fun _ hk => hk.2) (.int .i64 (wrap64 ((wrap64 (a1)) + x10_1)))) (fun _ hk => hk.2) (.slice A283_0 y285.length c283_0)) (fun _ hk => hk.1)⟩
                    have n2_ : Aside0 (Kd.N k24 24 (((w18.setCell ⟨gb290, 0, none⟩ (.int .i64 (wrap64 (1 + (Int.tmod x10_1 15))))).setCell ⟨gb290, 1, none⟩ (.int .i64 (wrap64 ((wrap64 (a1)) + x10_1)))).setCell ⟨gb290, 2, none⟩ (.slice A283_0 y285.length c283_0)) w.heap.size (fun k_ => (P0_ k_ ∨ w.heap.size ≤ k_) ∧ some k_ ≠ (u8 : Value).ownBlock ∧ k_ ≠ gb290) u9 x9_1) := ⟨by (with_reducible repeat (first | apply Kd.N_alloc | apply Kd.N_drewN | apply Kd.N_drew)); exact Kd.N_mono (Kd.N_far (p := ⟨gb290, 2, none⟩) (Kd.N_far (p := ⟨gb290, 1, none⟩) (Kd.N_far (p := ⟨gb290, 0, none⟩) (Kd.N_mono HO_9.out (fun k_ hk => (⟨hk, hk.2⟩ : _ ∧ k_ ≠ gb290))) (fun _ hk => hk.2) (.int .i64 (wrap64 (1 + (Int.tmod x10_1 15))))) (fun _ hk => hk.2) (.int .i64 (wrap64 ((wrap64 (a1)) + x10_1)))) (fun _ hk => hk.2) (.slice A283_0 y285.length c283_0)) (fun _ hk => ⟨hk.1.1.1, ⟨hk.1.1.2, hk.1.2⟩⟩)⟩
                    have n3_ : Aside0 (Kd.V (Kd.int .u8) 5 (((w18.setCell ⟨gb290, 0, none⟩ (.int .i64 (wrap64 (1 + (Int.tmod x10_1 15))))).setCell ⟨gb290, 1, none⟩ (.int .i64 (wrap64 ((wrap64 (a1)) + x10_1)))).setCell ⟨gb290, 2, none⟩ (.slice A283_0 y285.length c283_0)) w.heap.size (fun k_ => (P0_ k_ ∨ w.heap.size ≤ k_) ∧ some k_ ≠ (u8 : Value).ownBlock ∧ some k_ ≠ (u9 : Value).ownBlock ∧ k_ ≠ gb290) (.slice A283_0 (rd_L2 l0 x10_1).length c283_0) (rd_L2 l0 x10_1)) := ⟨by (with_reducible repeat (first | apply Kd.V_alloc | apply Kd.V_drewN | apply Kd.V_drew)); exact Kd.V_mono (Kd.V_far (p := ⟨gb290, 2, none⟩) (Kd.V_far (p := ⟨gb290, 1, none⟩) (Kd.V_far (p := ⟨gb290, 0, none⟩) (Kd.V_mono HL283_0.out (fun k_ hk => (⟨hk, hk.2⟩ : _ ∧ k_ ≠ gb290))) (fun _ hk => hk.2) (.int .i64 (wrap64 (1 + (Int.tmod x10_1 15))))) (fun _ hk => hk.2) (.int .i64 (wrap64 ((wrap64 (a1)) + x10_1)))) (fun _ hk => hk.2) (.slice A283_0 y285.length c283_0)) (fun _ hk => ⟨hk.1.1.1, ⟨hk.1.1.2.1, ⟨hk.1.1.2.2, hk.1.2⟩⟩⟩)⟩
                    have n4_ : Aside0 (Kd.V (Kd.int .u8) 5 (((w18.setCell ⟨gb290, 0, none⟩ (.int .i64 (wrap64 (1 + (Int.tmod x10_1 15))))).setCell ⟨gb290, 1, none⟩ (.int .i64 (wrap64 ((wrap64 (a1)) + x10_1)))).setCell ⟨gb290, 2, none⟩ (.slice A283_0 y285.length c283_0)) w.heap.size (fun k_ => (P0_ k_ ∨ w.heap.size ≤ k_) ∧ some k_ ≠ (u8 : Value).ownBlock ∧ some k_ ≠ (u9 : Value).ownBlock ∧ k_ ≠ gb290) (.slice A283_0 (rd_L2 l0 x10_1).length c283_0) (rd_L2 l0 x10_1)) := ⟨by (with_reducible repeat (first | apply Kd.V_alloc | apply Kd.V_drewN | apply Kd.V_drew)); exact Kd.V_mono (Kd.V_far (p := ⟨gb290, 2, none⟩) (Kd.V_far (p := ⟨gb290, 1, none⟩) (Kd.V_far (p := ⟨gb290, 0, none⟩) (Kd.V_mono HL284_0.out (fun k_ hk => (⟨hk, hk.2⟩ : _ ∧ k_ ≠ gb290))) (fun _ hk => hk.2) (.int .i64 (wrap64 (1 + (Int.tmod x10_1 15))))) (fun _ hk => hk.2) (.int .i64 (wrap64 ((wrap64 (a1)) + x10_1)))) (fun _ hk => hk.2) (.slice A283_0 y285.length c283_0)) (fun _ hk => ⟨hk.1.1.1, ⟨hk.1.1.2.1, ⟨hk.1.1.2.2, hk.1.2⟩⟩⟩)⟩
                    have n5_ : Aside0 (Kd.V (Kd.int .u8) 5 (((w18.setCell ⟨gb290, 0, none⟩ (.int .i64 (wrap64 (1 + (Int.tmod x10_1 15))))).setCell ⟨gb290, 1, none⟩ (.int .i64 (wrap64 ((wrap64 (a1)) + x10_1)))).setCell ⟨gb290, 2, none⟩ (.slice A283_0 y285.length c283_0)) w.heap.size (fun k_ => (P0_ k_ ∨ w.heap.size ≤ k_) ∧ some k_ ≠ (u8 : Value).ownBlock ∧ some k_ ≠ (u9 : Value).ownBlock ∧ k_ ≠ gb290) (.slice A283_0 y285.length c283_0) y285) := ⟨by (with_reducible repeat (first | apply Kd.V_alloc | apply Kd.V_drewN | apply Kd.V_drew)); exact Kd.V_mono (Kd.V_far (p := ⟨gb290, 2, none⟩) (Kd.V_far (p := ⟨gb290, 1, none⟩) (Kd.V_far (p := ⟨gb290, 0, none⟩) (Kd.V_mono HO289.out (fun k_ hk => (⟨hk, hk.2⟩ : _ ∧ k_ ≠ gb290))) (fun _ hk => hk.2) (.int .i64 (wrap64 (1 + (Int.tmod x10_1 15))))) (fun _ hk => hk.2) (.int .i64 (wrap64 ((wrap64 (a1)) + x10_1)))) (fun _ hk => hk.2) (.slice A283_0 y285.length c283_0)) (fun _ hk => ⟨hk.1.1.1, ⟨hk.1.1.2.1, ⟨hk.1.1.2.2, hk.1.2⟩⟩⟩)⟩
                    have n6_ : Aside0 ((((w18.setCell ⟨gb290, 0, none⟩ (.int .i64 (wrap64 (1 + (Int.tmod x10_1 15))))).setCell ⟨gb290, 1, none⟩ (.int .i64 (wrap64 ((wrap64 (a1)) + x10_1)))).setCell ⟨gb290, 2, none⟩ (.slice A283_0 y285.length c283_0)).heap[gb290]? = some (.cells #[.int .i64 (wrap64 (1 + (Int.tmod x10_1 15))), .int .i64 (wrap64 ((wrap64 (a1)) + x10_1)), .slice A283_0 y285.length c283_0] 24 (0, 0))) := ⟨by (with_reducible repeat (first | refine blk_drewN ?_ _ | refine blk_drew ?_ | refine blk_alloc ?_ _)); refine blk_put (cs := #[.int .i64 (wrap64 (1 + (Int.tmod x10_1 15))), .int .i64 (wrap64 ((wrap64 (a1)) + x10_1)), .slice none 0 0]) ?_ 2 _ rfl; (with_reducible repeat (first | refine blk_drewN ?_ _ | refine blk_drew ?_ | refine blk_alloc ?_ _)); refine blk_put (cs := #[.int .i64 (wrap64 (1 + (Int.tmod x10_1 15))), .int .i64 0, .slice none 0 0]) ?_ 1 _ rfl; (with_reducible repeat (first | refine blk_drewN ?_ _ | refine blk_drew ?_ | refine blk_alloc ?_ _)); refine blk_put (cs := #[.int .i64 0, .int .i64 0, .slice none 0 0]) ?_ 0 _ rfl; (with_reducible repeat (first | refine blk_drewN ?_ _ | refine blk_drew ?_ | refine blk_alloc ?_ _)); exact BK290.out⟩
                    have n7_ : Aside0 (Below w.heap.size w (((w18.setCell ⟨gb290, 0, none⟩ (.int .i64 (wrap64 (1 + (Int.tmod x10_1 15))))).setCell ⟨gb290, 1, none⟩ (.int .i64 (wrap64 ((wrap64 (a1)) + x10_1)))).setCell ⟨gb290, 2, none⟩ (.slice A283_0 y285.length c283_0))) := ⟨by repeat (first | (with_reducible first | exact HB.out | apply below_alloc | apply pw_below_drewN | apply below_drew1 | refine below_set ?_ GE290.out) | exact HB.out)⟩
                    (try clear HO_0)
                    (try clear HO_8)
                    (try clear HO_9)
                    (try clear HL283_0)
                    (try clear HL284_0)
                    (try clear HO289)
                    (try clear BK290)
                    (try clear HB)
                    generalize (((w18.setCell ⟨gb290, 0, none⟩ (.int .i64 (wrap64 (1 + (Int.tmod x10_1 15))))).setCell ⟨gb290, 1, none⟩ (.int .i64 (wrap64 ((wrap64 (a1)) + x10_1)))).setCell ⟨gb290, 2, none⟩ (.slice A283_0 y285.length c283_0)) = w22 at n0_ n1_ n2_ n3_ n4_ n5_ n6_ n7_ ⊢
                    have HO_0 := n0_
                    have HO_8 := n1_
                    have HO_9 := n2_
                    have HL283_0 := n3_
                    have HL284_0 := n4_
                    have HO289 := n5_
                    have BK290 := n6_
                    have HB := n7_
                    clear n0_ n1_ n2_ n3_ n4_ n5_ n6_ n7_
                    have hcz23_0 : w22.cell? ⟨gb290, 0, none⟩ = some (.int .i64 (wrap64 (1 + (Int.tmod x10_1 15)))) := (blk_cell BK290.out 0).trans rfl
                    have hcz23_1 : w22.cell? ⟨gb290, 1, none⟩ = some (.int .i64 (wrap64 ((wrap64 (a1)) + x10_1))) := (blk_cell BK290.out 1).trans rfl
                    have hcz23_2 : w22.cell? ⟨gb290, 2, none⟩ = some (.slice A283_0 y285.length c283_0) := (blk_cell BK290.out 2).trans rfl
                    have hfz23_0 := blk_frozen BK290.out 0
                    have hfz23_1 := blk_frozen BK290.out 1
                    have hfz23_2 := blk_frozen BK290.out 2
                    try go_wp2_with (first | ((with_reducible refine gate_builtin (b := .append) (xs := #[.tmp 49, .tmp 51]) rfl ?_); (try (refine gate_guard (by rfl) ?_; dsimp only)); at_builtin; refine Kd.N_append k24 (w0 := w) w.heap.size rfl (.tmp 49) (.tmp 51) 29 24 (.agg #[(.int .i64 0), (.int .i64 0), (.slice none 0 0)]) 40 rfl Try.underlying29 info24 rfl (by decide) (by omega) u9 x9_1 (⟨wrap64 (1 + (Int.tmod x10_1 15)), wrap64 ((wrap64 (a1)) + x10_1), y285⟩ : S24) [.int .i64 (wrap64 (1 + (Int.tmod x10_1 15))), .int .i64 (wrap64 ((wrap64 (a1)) + x10_1)), .slice A283_0 y285.length c283_0] (fun k_ => (P0_ k_ ∨ w.heap.size ≤ k_) ∧ some k_ ≠ (u8 : Value).ownBlock ∧ k_ ≠ gb290) (fun k_ => ((fun k_ => (P0_ k_ ∨ w.heap.size ≤ k_) ∧ some k_ ≠ (u8 : Value).ownBlock ∧ k_ ≠ gb290)) k_ ∧ some k_ ≠ (u9 : Value).ownBlock) rfl rfl ?aP (fun _ hk => hk) ?aF ?aO ?aB ?aS ?aL ?_; (case aP => exact (k24_mkF _ _ (⟨wrap64 (1 + (Int.tmod x10_1 15)), wrap64 ((wrap64 (a1)) + x10_1), y285⟩ : S24) (Kd.V_reads' (Kd.V_mono (ok' := (fun k_ => ((fun k_ => (P0_ k_ ∨ w.heap.size ≤ k_) ∧ some k_ ≠ (u8 : Value).ownBlock ∧ k_ ≠ gb290)) k_ ∧ some k_ ≠ (u9 : Value).ownBlock)) (HO289.out) (fun k_ hk => ⟨⟨hk.1, ⟨hk.2.1, hk.2.2.2⟩⟩, hk.2.2.1⟩))).2.1 (Kd.V_F (Kd.V_mono (ok' := (fun k_ => ((fun k_ => (P0_ k_ ∨ w.heap.size ≤ k_) ∧ some k_ ≠ (u8 : Value).ownBlock ∧ k_ ≠ gb290)) k_ ∧ some k_ ≠ (u9 : Value).ownBlock)) (HO289.out) (fun k_ hk => ⟨⟨hk.1, ⟨hk.2.1, hk.2.2.2⟩⟩, hk.2.2.1⟩))))); (case aB => exact (by repeat (first | (with_reducible first | exact HB.out | apply below_alloc | apply pw_below_drewN | apply below_drew1 | refine below_set ?_ GE290.out) | exact HB.out))); (case aF => exact (fun k_ hk => ⟨(.inr (Nat.le_trans (below_size (by repeat (first | (with_reducible first | exact HB.out | apply below_alloc | apply pw_below_drewN | apply below_drew1 | refine below_set ?_ GE290.out) | exact HB.out))) hk)), Kd.fresh' (Kd.R_lt (by (with_reducible repeat (first | apply Kd.R_alloc | apply Kd.R_drewN | apply Kd.R_drew)); exact HO_8.out)) k_ hk, Kd.freshB (g := gb290) (o := .cells #[.int .i64 (wrap64 (1 + (Int.tmod x10_1 15))), .int .i64 (wrap64 ((wrap64 (a1)) + x10_1)), .slice A283_0 y285.length c283_0] 24 (0, 0)) (by (with_reducible repeat (first | refine blk_drewN ?_ _ | refine blk_drew ?_ | refine blk_alloc ?_ _)); exact BK290.out) k_ hk⟩)); (case aO => exact (by (with_reducible repeat (first | apply Kd.N_alloc | apply Kd.N_drewN | apply Kd.N_drew)); exact HO_9.out)); (case aS => exact (below_size (by repeat (first | (with_reducible first | exact HB.out | apply below_alloc | apply pw_below_drewN | apply below_drew1 | refine below_set ?_ GE290.out) | exact HB.out)))); (case aL => have := LMc13.out; omega); intro v292 w24 ho hb hg hat; rw [← Ny291.out] at ho; have n0_ := Aside0.mk (Kd.V_afterv (ok := (fun k_ => (P0_ k_ ∨ w.heap.size ≤ k_) ∧ some k_ ≠ (u8 : Value).ownBlock ∧ k_ ≠ gb290)) (by (with_reducible repeat (first | apply Kd.V_alloc | apply Kd.V_drewN | apply Kd.V_drew)); exact Kd.V_mono HO_0.out (fun _ hk => ⟨⟨hk.1, ⟨hk.2.1, hk.2.2.2⟩⟩, hk.2.2.1⟩)) hg hat); have n1_ := Aside0.mk (Kd.R_over' (by (with_reducible repeat (first | apply Kd.R_alloc | apply Kd.R_drewN | apply Kd.R_drew)); exact HO_8.out) (Kd.N_typed (by (with_reducible repeat (first | apply Kd.N_alloc | apply Kd.N_drewN | apply Kd.N_drew)); exact HO_9.out)) (by decide) hg); have n2_ := Aside0.mk (Kd.V_afterv (ok := (fun k_ => (P0_ k_ ∨ w.heap.size ≤ k_) ∧ some k_ ≠ (u8 : Value).ownBlock ∧ k_ ≠ gb290)) (by (with_reducible repeat (first | apply Kd.V_alloc | apply Kd.V_drewN | apply Kd.V_drew)); exact Kd.V_mono HL283_0.out (fun _ hk => ⟨⟨hk.1, ⟨hk.2.1, hk.2.2.2⟩⟩, hk.2.2.1⟩)) hg hat); have n3_ := Aside0.mk (Kd.V_afterv (ok := (fun k_ => (P0_ k_ ∨ w.heap.size ≤ k_) ∧ some k_ ≠ (u8 : Value).ownBlock ∧ k_ ≠ gb290)) (by (with_reducible repeat (first | apply Kd.V_alloc | apply Kd.V_drewN | apply Kd.V_drew)); exact Kd.V_mono HL284_0.out (fun _ hk => ⟨⟨hk.1, ⟨hk.2.1, hk.2.2.2⟩⟩, hk.2.2.1⟩)) hg hat); have n4_ := Aside0.mk (Kd.V_afterv (ok := (fun k_ => (P0_ k_ ∨ w.heap.size ≤ k_) ∧ some k_ ≠ (u8 : Value).ownBlock ∧ k_ ≠ gb290)) (by (with_reducible repeat (first | apply Kd.V_alloc | apply Kd.V_drewN | apply Kd.V_drew)); exact Kd.V_mono HO289.out (fun _ hk => ⟨⟨hk.1, ⟨hk.2.1, hk.2.2.2⟩⟩, hk.2.2.1⟩)) hg hat); have n5_ := Aside0.mk (blk_grown (g := gb290) (o := .cells #[.int .i64 (wrap64 (1 + (Int.tmod x10_1 15))), .int .i64 (wrap64 ((wrap64 (a1)) + x10_1)), .slice A283_0 y285.length c283_0] 24 (0, 0)) (by (with_reducible repeat (first | refine blk_drewN ?_ _ | refine blk_drew ?_ | refine blk_alloc ?_ _)); exact BK290.out) hg (Kd.N_away HO_9.out (fun _ hk => hk.2.2))); have n6_ := Aside0.mk (hb); have n7_ := Aside0.mk (ho); clear HO_0; clear HO_8; clear HL283_0; clear HL284_0; clear HO289; clear BK290; clear HB; clear HO_9; have HO_0 := n0_; have HO_8 := n1_; have HL283_0 := n2_; have HL284_0 := n3_; have HO289 := n4_; have BK290 := n5_; have HB := n6_; have HO293 := n7_; clear n0_ n1_ n2_ n3_ n4_ n5_ n6_ n7_; clear ho hb hg hat; have hcz25_0 : w24.cell? ⟨gb290, 0, none⟩ = some (.int .i64 (wrap64 (1 + (Int.tmod x10_1 15)))) := (blk_cell BK290.out 0).trans rfl; have hcz25_1 : w24.cell? ⟨gb290, 1, none⟩ = some (.int .i64 (wrap64 ((wrap64 (a1)) + x10_1))) := (blk_cell BK290.out 1).trans rfl; have hcz25_2 : w24.cell? ⟨gb290, 2, none⟩ = some (.slice A283_0 y285.length c283_0) := (blk_cell BK290.out 2).trans rfl; have hfz25_0 := blk_frozen BK290.out 0; have hfz25_1 := blk_frozen BK290.out 1; have hfz25_2 := blk_frozen BK290.out 2) | ((with_reducible refine gate_callee (f := 16) rfl ?_); refine goesL_ (some 55) rfl rfl Try.func16 (by kernel_rfl) rfl #[.agg #[.int .i64 (wrap64 (1 + (Int.tmod x10_1 15))), .int .i64 (wrap64 ((wrap64 (a1)) + x10_1)), .slice A283_0 y285.length c283_0]] rfl (by (try simp only [List.map_toArray, List.map_cons, List.map_nil]); first | done | rfl | (simp only [List.length_drop, List.length_take]; rfl)) ?_; (with_reducible refine (frame_Put.calls (wrap64 (1 + (Int.tmod x10_1 15))) (wrap64 ((wrap64 (a1)) + x10_1)) (fun k_ => (((P0_ k_ ∨ w.heap.size ≤ k_) ∧ (some k_ ≠ (u8 : Value).ownBlock ∧ k_ ≠ gb290)) ∧ some k_ ≠ (v292 : Value).ownBlock)) _ _ y285 t294 _ ?side1 A14.out).mono ?_); (case side1 => exact HO289.out); rintro e w26 ⟨v295, rfl, ho0, hb⟩; refine ⟨_, rfl, ?_⟩; have n0_ := Aside0.mk (Kd.V_elder' (by (with_reducible repeat (first | apply Kd.V_alloc | apply Kd.V_drewN | apply Kd.V_drew)); exact HO_0.out) (Kd.R_base ho0) hb); have n1_ := Aside0.mk (Kd.R_elder' (by (with_reducible repeat (first | apply Kd.R_alloc | apply Kd.R_drewN | apply Kd.R_drew)); exact HO_8.out) (Kd.R_base ho0) hb); have n2_ := Aside0.mk (Kd.V_elder' (by (with_reducible repeat (first | apply Kd.V_alloc | apply Kd.V_drewN | apply Kd.V_drew)); exact HL283_0.out) (Kd.R_base ho0) hb); have n3_ := Aside0.mk (Kd.V_elder' (by (with_reducible repeat (first | apply Kd.V_alloc | apply Kd.V_drewN | apply Kd.V_drew)); exact HL284_0.out) (Kd.R_base ho0) hb); have n4_ := Aside0.mk (Kd.V_elder' (by (with_reducible repeat (first | apply Kd.V_alloc | apply Kd.V_drewN | apply Kd.V_drew)); exact HO289.out) (Kd.R_base ho0) hb); have n5_ := Aside0.mk (Kd.N_elder' (by (with_reducible repeat (first | apply Kd.N_alloc | apply Kd.N_drewN | apply Kd.N_drew)); exact HO293.out) (Kd.R_base ho0) hb); have n6_ := Aside0.mk (Kd.R_lower (Kd.R_new' (Kd.R_newM (M := fun k_ => (w.heap.size ≤ k_)) (Kd.R_mono (ok' := fun k_ => True) ho0 (fun _ hk_ => trivial)) (below_size (by repeat (first | (with_reducible first | exact HB.out | apply below_alloc | apply pw_below_drewN | apply below_drew1 | refine below_set ?_ GE290.out) | exact HB.out))) (fun k_ h_ => h_)) (Kd.R_lt (by (with_reducible repeat (first | apply Kd.R_alloc | apply Kd.R_drewN | apply Kd.R_drew)); exact HO_8.out))) (below_size (by repeat (first | (with_reducible first | exact HB.out | apply below_alloc | apply pw_below_drewN | apply below_drew1 | refine below_set ?_ GE290.out) | exact HB.out)))); have n7_ := Aside0.mk (blk_below (g := gb290) (o := .cells #[.int .i64 (wrap64 (1 + (Int.tmod x10_1 15))), .int .i64 (wrap64 ((wrap64 (a1)) + x10_1)), .slice A283_0 y285.length c283_0] 24 (0, 0)) (by (with_reducible repeat (first | refine blk_drewN ?_ _ | refine blk_drew ?_ | refine blk_alloc ?_ _)); exact BK290.out) hb); have n8_ := Aside0.mk (below_step (by repeat (first | (with_reducible first | exact HB.out | apply below_alloc | apply pw_below_drewN | apply below_drew1 | refine below_set ?_ GE290.out) | exact HB.out)) hb); clear HO_0; clear HO_8; clear HL283_0; clear HL284_0; clear HO289; clear HO293; clear BK290; clear HB; have HO_0 := n0_; have HO_8 := n1_; have HL283_0 := n2_; have HL284_0 := n3_; have HO289 := n4_; have HO293 := n5_; have HO296 := n6_; have BK290 := n7_; have HB := n8_; clear n0_ n1_ n2_ n3_ n4_ n5_ n6_ n7_ n8_; (try clear hb); (try clear hb2); (try clear hk); (try clear hi); (try clear ho0); obtain ⟨Ao28, co28, eo28⟩ := Kd.R_slice HO296.out; subst eo28) | ((with_reducible refine gate_builtin (b := .append) (xs := #[.tmp 53, .tmp 55]) rfl ?_); (try (refine gate_guard (by rfl) ?_; dsimp only)); at_builtin; refine Kd.R_append_rows (Kd.int .u8) (w0 := w) w.heap.size rfl (.tmp 53) (.tmp 55) 22 5 (.int .u8 0) 1 rfl Try.underlying22 info5 rfl (by decide) (by omega) u8 x8_1 t294 _ _ _ (fun k_ => (w.heap.size ≤ k_) ∧ some k_ ≠ (.slice Ao28 t294.length co28 : Value).ownBlock) (fun _ => False) rfl rfl ?aO ?aR (fun _ _ h => h) (fun _ h => h.elim) ?aF ?aB ?aS ?aL ?_; (case aR => repeat (first | exact (Kd.R_reads' HO296.out).2.2 | (with_reducible refine Kd.C_alloc ?_ _) | (with_reducible refine Kd.C_drewN ?_ _) | (with_reducible refine Kd.C_drew ?_))); (case aB => exact (by repeat (first | (with_reducible first | exact HB.out | apply below_alloc | apply pw_below_drewN | apply below_drew1 | refine below_set ?_ GE290.out) | exact HB.out))); (case aF => exact (fun k_ hk => ⟨(Nat.le_trans (below_size (by repeat (first | (with_reducible first | exact HB.out | apply below_alloc | apply pw_below_drewN | apply below_drew1 | refine below_set ?_ GE290.out) | exact HB.out))) hk), Kd.fresh' (Kd.R_lt (by (with_reducible repeat (first | apply Kd.R_alloc | apply Kd.R_drewN | apply Kd.R_drew)); exact HO296.out)) k_ hk⟩)); (case aO => exact (by (with_reducible repeat (first | apply Kd.R_alloc | apply Kd.R_drewN | apply Kd.R_drew)); exact HO_8.out)); (case aS => exact (below_size (by repeat (first | (with_reducible first | exact HB.out | apply below_alloc | apply pw_below_drewN | apply below_drew1 | refine below_set ?_ GE290.out) | exact HB.out)))); (case aL => have := LMc15.out; omega); intro v298 w27 ho hb hg hat; rw [← Ny297.out] at ho; have n0_ := Aside0.mk (Kd.V_afterv (ok := (fun k_ => (P0_ k_ ∨ w.heap.size ≤ k_) ∧ some k_ ≠ (v292 : Value).ownBlock ∧ some k_ ≠ (.slice Ao28 t294.length co28 : Value).ownBlock ∧ k_ ≠ gb290)) (by (with_reducible repeat (first | apply Kd.V_alloc | apply Kd.V_drewN | apply Kd.V_drew)); exact Kd.V_mono HO_0.out (fun _ hk => ⟨⟨hk.1.1.1, ⟨hk.1.2, ⟨hk.2, hk.1.1.2.2⟩⟩⟩, hk.1.1.2.1⟩)) hg hat); have n1_ := Aside0.mk (Kd.V_afterv (ok := (fun k_ => (P0_ k_ ∨ w.heap.size ≤ k_) ∧ some k_ ≠ (v292 : Value).ownBlock ∧ some k_ ≠ (.slice Ao28 t294.length co28 : Value).ownBlock ∧ k_ ≠ gb290)) (by (with_reducible repeat (first | apply Kd.V_alloc | apply Kd.V_drewN | apply Kd.V_drew)); exact Kd.V_mono HL283_0.out (fun _ hk => ⟨⟨hk.1.1.1, ⟨hk.1.2, ⟨hk.2, hk.1.1.2.2⟩⟩⟩, hk.1.1.2.1⟩)) hg hat); have n2_ := Aside0.mk (Kd.V_afterv (ok := (fun k_ => (P0_ k_ ∨ w.heap.size ≤ k_) ∧ some k_ ≠ (v292 : Value).ownBlock ∧ some k_ ≠ (.slice Ao28 t294.length co28 : Value).ownBlock ∧ k_ ≠ gb290)) (by (with_reducible repeat (first | apply Kd.V_alloc | apply Kd.V_drewN | apply Kd.V_drew)); exact Kd.V_mono HL284_0.out (fun _ hk => ⟨⟨hk.1.1.1, ⟨hk.1.2, ⟨hk.2, hk.1.1.2.2⟩⟩⟩, hk.1.1.2.1⟩)) hg hat); have n3_ := Aside0.mk (Kd.V_afterv (ok := (fun k_ => (P0_ k_ ∨ w.heap.size ≤ k_) ∧ some k_ ≠ (v292 : Value).ownBlock ∧ some k_ ≠ (.slice Ao28 t294.length co28 : Value).ownBlock ∧ k_ ≠ gb290)) (by (with_reducible repeat (first | apply Kd.V_alloc | apply Kd.V_drewN | apply Kd.V_drew)); exact Kd.V_mono HO289.out (fun _ hk => ⟨⟨hk.1.1.1, ⟨hk.1.2, ⟨hk.2, hk.1.1.2.2⟩⟩⟩, hk.1.1.2.1⟩)) hg hat); have n4_ := Aside0.mk (blk_grown (g := gb290) (o := .cells #[.int .i64 (wrap64 (1 + (Int.tmod x10_1 15))), .int .i64 (wrap64 ((wrap64 (a1)) + x10_1)), .slice A283_0 y285.length c283_0] 24 (0, 0)) (by (with_reducible repeat (first | refine blk_drewN ?_ _ | refine blk_drew ?_ | refine blk_alloc ?_ _)); exact BK290.out) hg (Kd.R_ne HO_8.out BK290.out (by decide))); have n5_ := Aside0.mk (Kd.N_afterv (ok := (fun k_ => (P0_ k_ ∨ w.heap.size ≤ k_) ∧ some k_ ≠ (.slice Ao28 t294.length co28 : Value).ownBlock ∧ k_ ≠ gb290)) (by (with_reducible repeat (first | apply Kd.N_alloc | apply Kd.N_drewN | apply Kd.N_drew)); exact Kd.N_mono HO293.out (fun _ hk => ⟨⟨hk.1.1, ⟨hk.2, hk.1.2.2⟩⟩, hk.1.2.1⟩)) hg hat); have n6_ := Aside0.mk (Kd.R_after (ok := (fun k_ => (w.heap.size ≤ k_))) (by (with_reducible repeat (first | apply Kd.R_alloc | apply Kd.R_drewN | apply Kd.R_drew)); exact Kd.R_mono HO296.out (fun _ hk => ⟨hk.1.1, hk.2⟩)) hg hat); have n7_ := Aside0.mk (hb); have n8_ := Aside0.mk (ho); clear HO_0; clear HL283_0; clear HL284_0; clear HO289; clear BK290; clear HO293; clear HO296; clear HB; clear HO_8; have HO_0 := n0_; have HL283_0 := n1_; have HL284_0 := n2_; have HO289 := n3_; have BK290 := n4_; have HO293 := n5_; have HO296 := n6_; have HB := n7_; have HO299 := n8_; clear n0_ n1_ n2_ n3_ n4_ n5_ n6_ n7_ n8_; clear ho hb hg hat))
                    go_roundg k1
                    case measure => have := HK1.out; omega
                    case rel => exact ⟨(y297), (y291), (wrap64 (x10_1 + 1)), (by first | rfl | (simp; done) | (simp [*]; done)), H', ⟨by have := HK1.out; omega⟩, ⟨by (with_reducible repeat (first | apply Kd.V_alloc | apply Kd.V_drewN | apply Kd.V_drew)); exact Kd.V_mono HO_0.out (fun _ hk => ⟨hk.1.1, ⟨hk.2, hk.1.2.1⟩⟩)⟩, ⟨by (with_reducible repeat (first | apply Kd.R_alloc | apply Kd.R_drewN | apply Kd.R_drew)); exact Kd.R_mono HO299.out (fun _ hk => hk.1)⟩, ⟨by (with_reducible repeat (first | apply Kd.N_alloc | apply Kd.N_drewN | apply Kd.N_drew)); exact Kd.N_mono HO293.out (fun _ hk => ⟨hk.1.1, hk.2⟩)⟩, ⟨by repeat (first | (with_reducible first | exact HB.out | apply below_alloc | apply pw_below_drewN | apply below_drew1 | refine below_set ?_ GE290.out) | exact HB.out)⟩⟩
                  · rw [if_neg c15] at H
                    exact absurd H (by simp)
                · rw [if_neg c13] at H
                  exact absurd H (by simp)
              · rw [if_neg c12] at H
                exact absurd H (by simp)
            · rw [if_neg c11] at H
              exact absurd H (by simp)
          · rw [if_neg c9] at H
            exact absurd H (by simp)
        · rw [if_neg c8] at H
          have c8b0 : decide (x10_1 < (l0.length : Int)) = false := decide_eq_false c8
          clear c8
          by_cases c29 : (wrap64 ((x8_1.length : Int) + 1)) = 0
          · rw [if_pos c29] at H
            exact absurd H (by simp)
          · rw [if_neg c29] at H
            have c29b0 : ((wrap64 ((x8_1.length : Int) + 1)) == 0) = false := beq_eq_false_iff_ne.mpr c29
            have c29b1 : ((wrap64 ((x8_1.length : Int) + 1)) != 0) = true := bne_iff_ne.mpr c29
            obtain ⟨ji30, hji30⟩ : ∃ j_ : Int, (Int.tmod (wrap64 (a2)) (wrap64 ((x8_1.length : Int) + 1))) = j_ := ⟨_, rfl⟩
            replace H : (if 0 ≤ (ji30) then (if (ji30) ≤ (x8_1.length : Int) then ((frame_Scan.f k1 (x8_1.take ((ji30) : Int).toNat) (wrap64 (a1))).bind fun bt305 => (governorlaw03_FrameCuts.l1 k1 a1 t282 x8_1 x9_1 ji30 bt305.1 bt305.2 0 0)) else (none)) else (none)) = some r := by first | (rw [hji30] at H; exact H) | (simp only [hji30] at H ⊢; exact H)
            by_cases c31 : 0 ≤ (ji30)
            · rw [if_pos c31] at H
              have c31b0 := eq_true c31
              have c31b1 : decide (0 ≤ (ji30)) = true := decide_eq_true c31
              clear c31
              by_cases c32 : (ji30) ≤ (x8_1.length : Int)
              · rw [if_pos c32] at H
                have c32b0 := eq_true c32
                have c32b1 : decide ((ji30) ≤ (x8_1.length : Int)) = true := decide_eq_true c32
                clear c32
                obtain ⟨y300, hy300⟩ : ∃ y_ : List Int, y_ = (x8_1.take ((ji30) : Int).toNat) := ⟨_, rfl⟩
                replace H : ((frame_Scan.f k1 y300 (wrap64 (a1))).bind fun bt305 => (governorlaw03_FrameCuts.l1 k1 a1 t282 x8_1 x9_1 ji30 bt305.1 bt305.2 0 0)) = some r := by first | (rw [hy300]; with_reducible exact H) | (have H2_ := (Option.bind_some _ _).symm.trans H; rw [hy300]; with_reducible exact H2_) | (have H2_ := (Option.bind_some _ _).symm.trans H; with_reducible exact H2_) | with_reducible exact H | (rw [hy300]; exact H) | exact H
                have Ny300 := Aside0.mk hy300
                clear hy300
                replace H := Option.bind_eq_some_iff.mp H
                obtain ⟨⟨t305, t306⟩, A330, H⟩ := H
                replace H : (governorlaw03_FrameCuts.l1 k1 a1 t282 x8_1 x9_1 ji30 t305 t306 0 0) = some r := H
                have A33 := Aside0.mk A330
                clear A330
                have H' := Aside0.mk H
                clear H
                obtain ⟨Ao34, co34, eo34⟩ := Kd.R_slice HO_8.out
                subst eo34
                have q35 : ((ji30) : Int) ≤ ((x8_1.length : Int) : Int) := of_decide_eq_true (by first | (with_reducible assumption) | assumption)
                obtain ⟨i035, hi035, _, hsz35, _⟩ := info_parts info5
                have hroom35 : x8_1.length ≤ co34 := (Kd.R_reads' HO_8.out).2.1
                have hC35 : Kd.F (Kd.int .u8) _ _ Ao34 x8_1.length x8_1 := (Kd.V_at (base := w.heap.size) (Kd.V_mono (ok' := (fun k_ => ((P0_ k_ ∨ w.heap.size ≤ k_) ∧ some k_ ≠ (u9 : Value).ownBlock))) (Kd.R_V (Kd.R_apart' (HO_8.out) (Kd.N_typed HO_9.out) (by decide))) (fun k_ hk => ⟨(.inr (hk.1)), hk.2⟩))).2.2
                have hcut35 := cut_to (P := Try.prog) 22 5 .i64 Try.underlying22 hi035 Ao34 x8_1.length co34 (ji30) (of_decide_eq_true (by first | (with_reducible assumption) | assumption)) q35 hroom35
                have hr35 := Kd.F_take (m := ((ji30) : Int).toNat) hC35 (by omega)
                have hy35 : y300.length = ((ji30) : Int).toNat := (by rw [Ny300.out, List.length_take]; omega)
                rw [← Ny300.out] at hr35
                rw [← hy35] at hcut35
                have HO304 := Aside0.mk (show Kd.V (Kd.int .u8) 5 _ w.heap.size _ (.slice Ao34 y300.length co34) y300 from Kd.V_mk (by omega) hr35)
                have HC304 := Aside0.mk (show y300.length ≤ co34 from by omega)
                clear hr35 hC35 hroom35 hi035 hsz35
                have KY35 := Aside0.mk hy35
                clear hy35
                replace q35 := eq_true q35
                go_wp2_with (first | ((with_reducible refine gate_callee (f := 12) rfl ?_); refine goesL_ (some 69) rfl rfl Try.func12 (by kernel_rfl) rfl #[.slice Ao34 y300.length co34, .int .i64 (wrap64 (a1))] rfl (by (try simp only [List.map_toArray, List.map_cons, List.map_nil]); first | done | rfl | (simp only [List.length_drop, List.length_take]; rfl)) ?_; (with_reducible refine (frame_Scan.calls k1 _ _ y300 (wrap64 (a1)) t305 t306 _ ?side1 ?side2 A33.out).mono ?_); (case side1 => repeat (first | exact (Kd.V_reads' HO304.out).2.2 | (with_reducible refine Kd.C_alloc ?_ _) | (with_reducible refine Kd.C_drewN ?_ _) | (with_reducible refine Kd.C_drew ?_))); (case side2 => exact (Kd.V_reads' HO304.out).2.1); rintro e w36 ⟨v307, rfl, ho0, hb⟩; refine ⟨_, rfl, ?_⟩; have n0_ := Aside0.mk (Kd.V_elder' (by (with_reducible repeat (first | apply Kd.V_alloc | apply Kd.V_drewN | apply Kd.V_drew)); exact HO_0.out) (Kd.N_base (Kd.S_N ho0)) hb); have n1_ := Aside0.mk (Kd.R_below (by (with_reducible repeat (first | apply Kd.R_alloc | apply Kd.R_drewN | apply Kd.R_drew)); exact HO_8.out) hb); have n2_ := Aside0.mk (Kd.N_elder' (by (with_reducible repeat (first | apply Kd.N_alloc | apply Kd.N_drewN | apply Kd.N_drew)); exact HO_9.out) (Kd.N_base (Kd.S_N ho0)) hb); have n3_ := Aside0.mk (Kd.V_elder' (by (with_reducible repeat (first | apply Kd.V_alloc | apply Kd.V_drewN | apply Kd.V_drew)); exact HO304.out) (Kd.N_base (Kd.S_N ho0)) hb); have n4_ := Aside0.mk (Kd.N_lower (Kd.N_mono (ok' := fun k_ => (P0_ k_ ∨ w.heap.size ≤ k_) ∧ some k_ ≠ (.slice Ao34 x8_1.length co34 : Value).ownBlock ∧ some k_ ≠ (u9 : Value).ownBlock) (Kd.S_N (Kd.S_bound ho0)) (fun k_ hk_ => ⟨(.inr (Nat.le_trans (below_size (by repeat (first | (with_reducible first | exact HB.out | apply below_alloc | apply pw_below_drewN | apply below_drew1) | exact HB.out))) hk_.2.1)), (Kd.fresh' (Kd.R_lt (by (with_reducible repeat (first | apply Kd.R_alloc | apply Kd.R_drewN | apply Kd.R_drew)); exact HO_8.out)) k_ hk_.2.1), (Kd.fresh' (Kd.N_lt (by (with_reducible repeat (first | apply Kd.N_alloc | apply Kd.N_drewN | apply Kd.N_drew)); exact HO_9.out)) k_ hk_.2.1)⟩)) (below_size (by repeat (first | (with_reducible first | exact HB.out | apply below_alloc | apply pw_below_drewN | apply below_drew1) | exact HB.out)))); have n5_ := Aside0.mk (below_step (by repeat (first | (with_reducible first | exact HB.out | apply below_alloc | apply pw_below_drewN | apply below_drew1) | exact HB.out)) hb); clear HO_0; clear HO_8; clear HO_9; clear HO304; clear HB; have HO_0 := n0_; have HO_8 := n1_; have HO_9 := n2_; have HO304 := n3_; have HO308 := n4_; have HB := n5_; clear n0_ n1_ n2_ n3_ n4_ n5_; (try clear hb); (try clear hb2); (try clear hk); (try clear hi); (try clear ho0)))
                go_loopg [15, 16] k1 (fun kq v15 v16 w' => ∃ (x15_2 : Int) (x16_2 : Int), v15 = .int .i64 x15_2 ∧ v16 = .int .i64 x16_2 ∧ Aside0 (governorlaw03_FrameCuts.l1 kq a1 t282 x8_1 x9_1 ji30 t305 t306 x15_2 x16_2 = some r) ∧ Aside0 (kq ≤ k1) ∧ Aside0 (Kd.R (Kd.int .u8) 5 w' w.heap.size (fun k_ => (w.heap.size ≤ k_)) (.slice Ao34 x8_1.length co34) x8_1) ∧ Aside0 (Kd.N k24 24 w' w.heap.size (fun k_ => (P0_ k_ ∨ w.heap.size ≤ k_) ∧ some k_ ≠ ((.slice Ao34 x8_1.length co34) : Value).ownBlock ∧ some k_ ≠ (v307 : Value).ownBlock) u9 x9_1) ∧ Aside0 (Kd.N k24 24 w' w.heap.size (fun k_ => (P0_ k_ ∨ w.heap.size ≤ k_) ∧ some k_ ≠ ((.slice Ao34 x8_1.length co34) : Value).ownBlock ∧ some k_ ≠ (u9 : Value).ownBlock) v307 t305) ∧ Aside0 (Below w.heap.size w w'))
                case atStart => exact ⟨(0), (0), (by first | rfl | (simp; done) | (simp [*]; done)), (by first | rfl | (simp; done) | (simp [*]; done)), H', ⟨Nat.le_refl _⟩, ⟨by (with_reducible repeat (first | apply Kd.R_alloc | apply Kd.R_drewN | apply Kd.R_drew)); exact HO_8.out⟩, ⟨by (with_reducible repeat (first | apply Kd.N_alloc | apply Kd.N_drewN | apply Kd.N_drew)); exact Kd.N_mono HO_9.out (fun _ hk => ⟨hk.1.1, ⟨hk.1.2, hk.2⟩⟩)⟩, ⟨by (with_reducible repeat (first | apply Kd.N_alloc | apply Kd.N_drewN | apply Kd.N_drew)); exact HO308.out⟩, ⟨by repeat (first | (with_reducible first | exact HB.out | apply below_alloc | apply pw_below_drewN | apply below_drew1) | exact HB.out)⟩⟩
                case round =>
                  clear H'
                  try clear c1
                  try clear q1
                  try clear c2
                  try clear p2
                  try clear q2
                  try clear hx2
                  try clear c3
                  try clear q3
                  try clear c5
                  try clear c5b0
                  try clear c5b1
                  try clear p6
                  try clear c8
                  try clear c8b0
                  try clear c9
                  try clear c9b0
                  try clear c11
                  try clear c11b0
                  try clear c11b1
                  try clear c12
                  try clear c12b0
                  try clear c12b1
                  try clear c13
                  try clear c15
                  try clear c16
                  try clear q17
                  try clear c28
                  try clear p28
                  try clear q28
                  try clear hx28
                  try clear c29
                  try clear c29b0
                  try clear c29b1
                  try clear c31
                  try clear c31b0
                  try clear c31b1
                  try clear c32
                  try clear c32b0
                  try clear c32b1
                  try clear q35
                  try clear hcz23_0
                  try clear hcz23_1
                  try clear hcz23_2
                  try clear hcz25_0
                  try clear hcz25_1
                  try clear hcz25_2
                  try clear hfz23_0
                  try clear hfz23_1
                  try clear hfz23_2
                  try clear hfz25_0
                  try clear hfz25_1
                  try clear hfz25_2
                  try clear hx283_0
                  try clear hx284_0
                  try clear p2
                  try clear p283
                  try clear p284
                  try clear q17
                  try clear q283
                  try clear q284
                  try clear q35
                  obtain ⟨x15_2, x16_2, rfl, rfl, HA, HK2, HO_8, HO_9, HO_13, HB⟩ := hrel
                  cases gk with
                  | zero => exact absurd HA.out (by simp [governorlaw03_FrameCuts.l1])
                  | succ k2 =>
                    have H := HA.out
                    clear HA
                    simp only [governorlaw03_FrameCuts.l1] at H
                    by_cases c37 : x15_2 < (x9_1.length : Int)
                    · rw [if_pos c37] at H
                      have c37b0 : decide (x15_2 < (x9_1.length : Int)) = true := decide_eq_true c37
                      clear c37
                      by_cases c38 : 0 ≤ x15_2
                      · rw [if_pos c38] at H
                        have c38b0 : decide (0 ≤ x15_2) = true := decide_eq_true c38
                        clear c38
                        by_cases c39 : (wrap64 ((wrap64 (x16_2 + 11)) + (((rd_T24 x9_1 x15_2).f2).length : Int))) ≤ ji30
                        · rw [if_pos c39] at H
                          have c39b0 : decide ((wrap64 ((wrap64 (x16_2 + 11)) + (((rd_T24 x9_1 x15_2).f2).length : Int))) ≤ ji30) = true := decide_eq_true c39
                          clear c39
                          have H' := Aside0.mk H
                          clear H
                          obtain ⟨Ao40, co40, eo40⟩ := Kd.N_slice HO_9.out
                          subst eo40
                          have p309 : 0 ≤ (x15_2 : Int) := of_decide_eq_true (by first | (with_reducible assumption) | assumption)
                          have q309 : x15_2 < (x9_1.length : Int) := of_decide_eq_true (by first | (with_reducible assumption) | assumption)
                          obtain ⟨ad309, A309_2, c309_2, e309, hx309_0, hx309_1, hx309_2, hl309_2, hi309_2⟩ := at_T24 (Kd.N_reads' HO_9.out).2.2 x15_2 p309 q309
                          cases e309
                          obtain ⟨ce309, hce309, hMe309, hcc309⟩ := Kd.N_get HO_9.out z24 x15_2 p309 (by first | exact q309 | exact of_decide_eq_true (by first | (with_reducible assumption) | assumption) | (have e_ := (Kd.N_reads' HO_9.out).1; omega))
                          obtain ⟨ua309_2, uc309_2, rfl, ul309_2, ge309_2⟩ := k24_openF hMe309
                          have hv309_2 := hcc309 2 _ rfl
                          rw [add_field _ _ 2 (by omega)] at hv309_2
                          replace hv309_2 := Option.some.inj (hv309_2.symm.trans hx309_2)
                          injection hv309_2 with hva_ hvn_ hvc_
                          rw [hva_] at ge309_2
                          rw [hvc_] at ul309_2
                          have HL309_2 := Aside0.mk (show Kd.V (Kd.int .u8) 5 _ w.heap.size _ _ ((rd_T24 x9_1 x15_2).f2) from Kd.V_mk ul309_2 ge309_2)
                          clear hva_ hvn_ hvc_ ge309_2 ul309_2
                          clear hcc309 hce309
                          have HR309_2 := Aside0.mk hi309_2
                          have HC309_2 := Aside0.mk hl309_2
                          clear hi309_2 hl309_2
                          replace p309 := eq_true p309
                          replace q309 := eq_true q309
                          have p310 : 0 ≤ (x15_2 : Int) := of_decide_eq_true (by first | (with_reducible assumption) | assumption)
                          have q310 : x15_2 < (x9_1.length : Int) := of_decide_eq_true (by first | (with_reducible assumption) | assumption)
                          obtain ⟨ad310, A310_2, c310_2, e310, hx310_0, hx310_1, hx310_2, hl310_2, hi310_2⟩ := at_T24 (Kd.N_reads' HO_9.out).2.2 x15_2 p310 q310
                          obtain rfl : ad309 = ad310 := (by injection e310)
                          obtain ⟨ce310, hce310, hMe310, hcc310⟩ := Kd.N_get HO_9.out z24 x15_2 p310 (by first | exact q310 | exact of_decide_eq_true (by first | (with_reducible assumption) | assumption) | (have e_ := (Kd.N_reads' HO_9.out).1; omega))
                          obtain ⟨ua310_2, uc310_2, rfl, ul310_2, ge310_2⟩ := k24_openF hMe310
                          have hv310_2 := hcc310 2 _ rfl
                          rw [add_field _ _ 2 (by omega)] at hv310_2
                          replace hv310_2 := Option.some.inj (hv310_2.symm.trans hx310_2)
                          injection hv310_2 with hva_ hvn_ hvc_
                          rw [hva_] at ge310_2
                          rw [hvc_] at ul310_2
                          have HL310_2 := Aside0.mk (show Kd.V (Kd.int .u8) 5 _ w.heap.size _ _ ((rd_T24 x9_1 x15_2).f2) from Kd.V_mk ul310_2 ge310_2)
                          clear hva_ hvn_ hvc_ ge310_2 ul310_2
                          clear hcc310 hce310
                          have HR310_2 := Aside0.mk hi310_2
                          have HC310_2 := Aside0.mk hl310_2
                          clear hi310_2 hl310_2
                          replace p310 := eq_true p310
                          replace q310 := eq_true q310
                          have ea_ := Option.some.inj (hx309_2.symm.trans hx310_2)
                          injection ea_ with ea_ en_ ec_
                          subst ea_
                          subst ec_
                          clear en_
                          go_wp2
                          go_roundg k2
                          case measure => have := HK1.out; have := HK2.out; omega
                          case rel => exact ⟨(wrap64 (x15_2 + 1)), (wrap64 ((wrap64 (x16_2 + 11)) + (((rd_T24 x9_1 x15_2).f2).length : Int))), (by first | rfl | (simp; done) | (simp [*]; done)), (by first | rfl | (simp; done) | (simp [*]; done)), H', ⟨by have := HK1.out; have := HK2.out; omega⟩, ⟨by (with_reducible repeat (first | apply Kd.R_alloc | apply Kd.R_drewN | apply Kd.R_drew)); exact HO_8.out⟩, ⟨by (with_reducible repeat (first | apply Kd.N_alloc | apply Kd.N_drewN | apply Kd.N_drew)); exact HO_9.out⟩, ⟨by (with_reducible repeat (first | apply Kd.N_alloc | apply Kd.N_drewN | apply Kd.N_drew)); exact HO_13.out⟩, ⟨by repeat (first | (with_reducible first | exact HB.out | apply below_alloc | apply pw_below_drewN | apply below_drew1) | exact HB.out)⟩⟩
                        · rw [if_neg c39] at H
                          have c39b0 : decide ((wrap64 ((wrap64 (x16_2 + 11)) + (((rd_T24 x9_1 x15_2).f2).length : Int))) ≤ ji30) = false := decide_eq_false c39
                          clear c39
                          replace H := Option.bind_eq_some_iff.mp H
                          obtain ⟨⟨t311, t312⟩, A410, H⟩ := H
                          replace H : (if t282 = true then (if x15_2 ≤ (x9_1.length : Int) then ((governorref03_Same.f t305 (x9_1.take (x15_2 : Int).toNat)).bind fun t320 => (if t320 = true then (if t306 = x16_2 then ((governorref03_Same.f t311 x9_1).bind fun t321 => (if t321 = true then (some (t312 == (x8_1.length : Int))) else (some false))) else (some false)) else (some false))) else (none)) else (some false)) = some r := H
                          have A41 := Aside0.mk A410
                          clear A410
                          by_cases c42 : t282 = true
                          · subst c42
                            have H1 : (if x15_2 ≤ (x9_1.length : Int) then ((governorref03_Same.f t305 (x9_1.take (x15_2 : Int).toNat)).bind fun t320 => (if t320 = true then (if t306 = x16_2 then ((governorref03_Same.f t311 x9_1).bind fun t321 => (if t321 = true then (some (t312 == (x8_1.length : Int))) else (some false))) else (some false)) else (some false))) else (none)) = some r := by rw [if_pos rfl] at H; exact H
                            clear H
                            have H := H1
                            clear H1
                            have c43b0 := eq_true (of_decide_eq_true (by first | (with_reducible assumption) | assumption) : 0 ≤ x15_2)
                            by_cases c44 : x15_2 ≤ (x9_1.length : Int)
                            · rw [if_pos c44] at H
                              have c44b0 := eq_true c44
                              have c44b1 : decide (x15_2 ≤ (x9_1.length : Int)) = true := decide_eq_true c44
                              clear c44
                              obtain ⟨y315, hy315⟩ : ∃ y_ : List (S24), y_ = (x9_1.take (x15_2 : Int).toNat) := ⟨_, rfl⟩
                              replace H : ((governorref03_Same.f t305 y315).bind fun t320 => (if t320 = true then (if t306 = x16_2 then ((governorref03_Same.f t311 x9_1).bind fun t321 => (if t321 = true then (some (t312 == (x8_1.length : Int))) else (some false))) else (some false)) else (some false))) = some r := by first | (rw [hy315]; with_reducible exact H) | (have H2_ := (Option.bind_some _ _).symm.trans H; rw [hy315]; with_reducible exact H2_) | (have H2_ := (Option.bind_some _ _).symm.trans H; with_reducible exact H2_) | with_reducible exact H | (rw [hy315]; exact H) | exact H
                              have Ny315 := Aside0.mk hy315
                              clear hy315
                              replace H := Option.bind_eq_some_iff.mp H
                              obtain ⟨t320, A450, H⟩ := H
                              replace H : (if t320 = true then (if t306 = x16_2 then ((governorref03_Same.f t311 x9_1).bind fun t321 => (if t321 = true then (some (t312 == (x8_1.length : Int))) else (some false))) else (some false)) else (some false)) = some r := H
                              have A45 := Aside0.mk A450
                              clear A450
                              by_cases c46 : t320 = true
                              · subst c46
                                have H1 : (if t306 = x16_2 then ((governorref03_Same.f t311 x9_1).bind fun t321 => (if t321 = true then (some (t312 == (x8_1.length : Int))) else (some false))) else (some false)) = some r := by rw [if_pos rfl] at H; exact H
                                clear H
                                have H := H1
                                clear H1
                                by_cases c47 : t306 = x16_2
                                · rw [if_pos c47] at H
                                  have c47b0 : (t306 == x16_2) = true := beq_iff_eq.mpr c47
                                  have c47b1 : (t306 != x16_2) = false := bne_eq_false_iff_eq.mpr c47
                                  clear c47
                                  replace H := Option.bind_eq_some_iff.mp H
                                  obtain ⟨t321, A480, H⟩ := H
                                  replace H : (if t321 = true then (some (t312 == (x8_1.length : Int))) else (some false)) = some r := H
                                  have A48 := Aside0.mk A480
                                  clear A480
                                  by_cases c49 : t321 = true
                                  · subst c49
                                    have H1 : (some (t312 == (x8_1.length : Int))) = some r := by rw [if_pos rfl] at H; exact H
                                    clear H
                                    have H := H1
                                    clear H1
                                    obtain rfl := Option.some.inj H
                                    obtain ⟨Ao50, co50, eo50⟩ := Kd.N_slice HO_9.out
                                    subst eo50
                                    have p309 : 0 ≤ (x15_2 : Int) := of_decide_eq_true (by first | (with_reducible assumption) | assumption)
                                    have q309 : x15_2 < (x9_1.length : Int) := of_decide_eq_true (by first | (with_reducible assumption) | assumption)
                                    obtain ⟨ad309, A309_2, c309_2, e309, hx309_0, hx309_1, hx309_2, hl309_2, hi309_2⟩ := at_T24 (Kd.N_reads' HO_9.out).2.2 x15_2 p309 q309
                                    cases e309
                                    obtain ⟨ce309, hce309, hMe309, hcc309⟩ := Kd.N_get HO_9.out z24 x15_2 p309 (by first | exact q309 | exact of_decide_eq_true (by first | (with_reducible assumption) | assumption) | (have e_ := (Kd.N_reads' HO_9.out).1; omega))
                                    obtain ⟨ua309_2, uc309_2, rfl, ul309_2, ge309_2⟩ := k24_openF hMe309
                                    have hv309_2 := hcc309 2 _ rfl
                                    rw [add_field _ _ 2 (by omega)] at hv309_2
                                    replace hv309_2 := Option.some.inj (hv309_2.symm.trans hx309_2)
                                    injection hv309_2 with hva_ hvn_ hvc_
                                    rw [hva_] at ge309_2
                                    rw [hvc_] at ul309_2
                                    have HL309_2 := Aside0.mk (show Kd.V (Kd.int .u8) 5 _ w.heap.size _ _ ((rd_T24 x9_1 x15_2).f2) from Kd.V_mk ul309_2 ge309_2)
                                    clear hva_ hvn_ hvc_ ge309_2 ul309_2
                                    clear hcc309 hce309
                                    have HR309_2 := Aside0.mk hi309_2
                                    have HC309_2 := Aside0.mk hl309_2
                                    clear hi309_2 hl309_2
                                    replace p309 := eq_true p309
                                    replace q309 := eq_true q309
                                    go_wp2_with (first | ((with_reducible refine gate_callee (f := 12) rfl ?_); refine goesL_ (some 104) rfl rfl Try.func12 (by kernel_rfl) rfl #[.slice Ao34 x8_1.length co34, .int .i64 (wrap64 (a1))] rfl (by (try simp only [List.map_toArray, List.map_cons, List.map_nil]); first | done | rfl | (simp only [List.length_drop, List.length_take]; rfl)) ?_; (with_reducible refine (frame_Scan.calls k2 _ _ x8_1 (wrap64 (a1)) t311 t312 _ ?side1 ?side2 A41.out).mono ?_); (case side1 => repeat (first | exact (Kd.R_reads' HO_8.out).2.2 | (with_reducible refine Kd.C_alloc ?_ _) | (with_reducible refine Kd.C_drewN ?_ _) | (with_reducible refine Kd.C_drew ?_))); (case side2 => exact (Kd.R_reads' HO_8.out).2.1); rintro e w51 ⟨v313, rfl, ho0, hb⟩; refine ⟨_, rfl, ?_⟩; have n0_ := Aside0.mk (Kd.R_below (by (with_reducible repeat (first | apply Kd.R_alloc | apply Kd.R_drewN | apply Kd.R_drew)); exact HO_8.out) hb); have n1_ := Aside0.mk (Kd.N_elder' (by (with_reducible repeat (first | apply Kd.N_alloc | apply Kd.N_drewN | apply Kd.N_drew)); exact HO_9.out) (Kd.N_base (Kd.S_N ho0)) hb); have n2_ := Aside0.mk (Kd.N_elder' (by (with_reducible repeat (first | apply Kd.N_alloc | apply Kd.N_drewN | apply Kd.N_drew)); exact HO_13.out) (Kd.N_base (Kd.S_N ho0)) hb); have n3_ := Aside0.mk (Kd.V_elder' (by (with_reducible repeat (first | apply Kd.V_alloc | apply Kd.V_drewN | apply Kd.V_drew)); exact HL309_2.out) (Kd.N_base (Kd.S_N ho0)) hb); have n4_ := Aside0.mk (Kd.N_lower (Kd.N_mono (ok' := fun k_ => (P0_ k_ ∨ w.heap.size ≤ k_) ∧ some k_ ≠ (.slice Ao34 x8_1.length co34 : Value).ownBlock ∧ some k_ ≠ (.slice (some ad309) x9_1.length co50 : Value).ownBlock ∧ some k_ ≠ (v307 : Value).ownBlock) (Kd.S_N (Kd.S_bound ho0)) (fun k_ hk_ => ⟨(.inr (Nat.le_trans (below_size (by repeat (first | (with_reducible first | exact HB.out | apply below_alloc | apply pw_below_drewN | apply below_drew1) | exact HB.out))) hk_.2.1)), (Kd.fresh' (Kd.R_lt (by (with_reducible repeat (first | apply Kd.R_alloc | apply Kd.R_drewN | apply Kd.R_drew)); exact HO_8.out)) k_ hk_.2.1), (Kd.fresh' (Kd.N_lt (by (with_reducible repeat (first | apply Kd.N_alloc | apply Kd.N_drewN | apply Kd.N_drew)); exact HO_9.out)) k_ hk_.2.1), (Kd.fresh' (Kd.N_lt (by (with_reducible repeat (first | apply Kd.N_alloc | apply Kd.N_drewN | apply Kd.N_drew)); exact HO_13.out)) k_ hk_.2.1)⟩)) (below_size (by repeat (first | (with_reducible first | exact HB.out | apply below_alloc | apply pw_below_drewN | apply below_drew1) | exact HB.out)))); have n5_ := Aside0.mk (Kd.C_below (by repeat (first | (with_reducible exact HR309_2.out) | (with_reducible refine Kd.C_alloc ?_ _) | (with_reducible refine Kd.C_drewN ?_ _) | (with_reducible refine Kd.C_drew ?_) | exact HR309_2.out)) hb); have n6_ := Aside0.mk (below_step (by repeat (first | (with_reducible first | exact HB.out | apply below_alloc | apply pw_below_drewN | apply below_drew1) | exact HB.out)) hb); clear HO_8; clear HO_9; clear HO_13; clear HL309_2; clear HR309_2; clear HB; have HO_8 := n0_; have HO_9 := n1_; have HO_13 := n2_; have HL309_2 := n3_; have HO314 := n4_; have HR309_2 := n5_; have HB := n6_; clear n0_ n1_ n2_ n3_ n4_ n5_ n6_; (try clear hb); (try clear hb2); (try clear hk); (try clear hi); (try clear ho0); have q52 : (x15_2 : Int) ≤ ((x9_1.length : Int) : Int) := of_decide_eq_true (by first | (with_reducible assumption) | assumption); obtain ⟨i052, hi052, _, hsz52, _⟩ := info_parts info24; have hroom52 : x9_1.length ≤ co50 := (Kd.N_reads' HO_9.out).2.1; have hC52 : Kd.F k24 _ _ (some ad309) x9_1.length x9_1 := (Kd.V_at (base := w.heap.size) (Kd.N_V HO_9.out)).2.2; have hcut52 := cut_to (P := Try.prog) 29 24 .i64 Try.underlying29 hi052 (some ad309) x9_1.length co50 x15_2 (of_decide_eq_true (by first | (with_reducible assumption) | assumption)) q52 hroom52; have hr52 := Kd.F_take (m := (x15_2 : Int).toNat) hC52 (by omega); have hy52 : y315.length = (x15_2 : Int).toNat := (by rw [Ny315.out, List.length_take]; omega); rw [← Ny315.out] at hr52; rw [← hy52] at hcut52; have HO319 := Aside0.mk (show Kd.V k24 24 _ w.heap.size _ (.slice (some ad309) y315.length co50) y315 from Kd.V_mk (by omega) hr52); have HC319 := Aside0.mk (show y315.length ≤ co50 from by omega); clear hr52 hC52 hroom52 hi052 hsz52; have KY52 := Aside0.mk hy52; clear hy52; replace q52 := eq_true q52; obtain ⟨Ao53, co53, eo53⟩ := Kd.N_slice HO_13.out; subst eo53) | (go_at_call 18; (with_reducible refine (governorref03_Same.calls _ _ t305 _ _ y315 true _ ?side1 ?side2 ?side3 ?side4 A45.out).mono ?_); (case side1 => repeat (first | exact (Kd.N_reads' HO_13.out).2.2 | (with_reducible refine Kd.C_alloc ?_ _) | (with_reducible refine Kd.C_drewN ?_ _) | (with_reducible refine Kd.C_drew ?_))); (case side2 => exact (Kd.N_reads' HO_13.out).2.1); (case side3 => repeat (first | exact (Kd.V_reads' HO319.out).2.2 | (with_reducible refine Kd.C_alloc ?_ _) | (with_reducible refine Kd.C_drewN ?_ _) | (with_reducible refine Kd.C_drew ?_))); (case side4 => exact (Kd.V_reads' HO319.out).2.1); rintro e w' ⟨rfl, ⟨nd, rfl⟩⟩; obtain ⟨Ao54, co54, eo54⟩ := Kd.N_slice HO314.out; subst eo54) | (go_at_call 18; (with_reducible refine (governorref03_Same.calls _ _ t311 _ _ x9_1 true _ ?side1 ?side2 ?side3 ?side4 A48.out).mono ?_); (case side1 => repeat (first | exact (Kd.N_reads' HO314.out).2.2 | (with_reducible refine Kd.C_alloc ?_ _) | (with_reducible refine Kd.C_drewN ?_ _) | (with_reducible refine Kd.C_drew ?_))); (case side2 => exact (Kd.N_reads' HO314.out).2.1); (case side3 => repeat (first | exact (Kd.N_reads' HO_9.out).2.2 | (with_reducible refine Kd.C_alloc ?_ _) | (with_reducible refine Kd.C_drewN ?_ _) | (with_reducible refine Kd.C_drew ?_))); (case side4 => exact (Kd.N_reads' HO_9.out).2.1); rintro e w' ⟨rfl, ⟨nd, rfl⟩⟩))
                                    go_ret
                                    exact ⟨by first | rfl | (simp [errW_none, errW_some] <;> rfl) | (simp only [← hji30]; first | rfl | (simp [errW_none, errW_some] <;> rfl)) | (simp [*, errW_none, errW_some] <;> rfl), by repeat (first | (with_reducible first | exact HB.out | apply below_alloc | apply pw_below_drewN | apply below_drew1) | exact HB.out)⟩
                                  · replace c49 := Bool.eq_false_iff.mpr c49
                                    subst c49
                                    have H1 : (some false) = some r := by rw [if_neg (show ¬ (false = true) by decide)] at H; exact H
                                    clear H
                                    have H := H1
                                    clear H1
                                    obtain rfl := Option.some.inj H
                                    obtain ⟨Ao55, co55, eo55⟩ := Kd.N_slice HO_9.out
                                    subst eo55
                                    have p309 : 0 ≤ (x15_2 : Int) := of_decide_eq_true (by first | (with_reducible assumption) | assumption)
                                    have q309 : x15_2 < (x9_1.length : Int) := of_decide_eq_true (by first | (with_reducible assumption) | assumption)
                                    obtain ⟨ad309, A309_2, c309_2, e309, hx309_0, hx309_1, hx309_2, hl309_2, hi309_2⟩ := at_T24 (Kd.N_reads' HO_9.out).2.2 x15_2 p309 q309
                                    cases e309
                                    obtain ⟨ce309, hce309, hMe309, hcc309⟩ := Kd.N_get HO_9.out z24 x15_2 p309 (by first | exact q309 | exact of_decide_eq_true (by first | (with_reducible assumption) | assumption) | (have e_ := (Kd.N_reads' HO_9.out).1; omega))
                                    obtain ⟨ua309_2, uc309_2, rfl, ul309_2, ge309_2⟩ := k24_openF hMe309
                                    have hv309_2 := hcc309 2 _ rfl
                                    rw [add_field _ _ 2 (by omega)] at hv309_2
                                    replace hv309_2 := Option.some.inj (hv309_2.symm.trans hx309_2)
                                    injection hv309_2 with hva_ hvn_ hvc_
                                    rw [hva_] at ge309_2
                                    rw [hvc_] at ul309_2
                                    have HL309_2 := Aside0.mk (show Kd.V (Kd.int .u8) 5 _ w.heap.size _ _ ((rd_T24 x9_1 x15_2).f2) from Kd.V_mk ul309_2 ge309_2)
                                    clear hva_ hvn_ hvc_ ge309_2 ul309_2
                                    clear hcc309 hce309
                                    have HR309_2 := Aside0.mk hi309_2
                                    have HC309_2 := Aside0.mk hl309_2
                                    clear hi309_2 hl309_2
                                    replace p309 := eq_true p309
                                    replace q309 := eq_true q309
                                    go_wp2_with (first | ((with_reducible refine gate_callee (f := 12) rfl ?_); refine goesL_ (some 104) rfl rfl Try.func12 (by kernel_rfl) rfl #[.slice Ao34 x8_1.length co34, .int .i64 (wrap64 (a1))] rfl (by (try simp only [List.map_toArray, List.map_cons, List.map_nil]); first | done | rfl | (simp only [List.length_drop, List.length_take]; rfl)) ?_; (with_reducible refine (frame_Scan.calls k2 _ _ x8_1 (wrap64 (a1)) t311 t312 _ ?side1 ?side2 A41.out).mono ?_); (case side1 => repeat (first | exact (Kd.R_reads' HO_8.out).2.2 | (with_reducible refine Kd.C_alloc ?_ _) | (with_reducible refine Kd.C_drewN ?_ _) | (with_reducible refine Kd.C_drew ?_))); (case side2 => exact (Kd.R_reads' HO_8.out).2.1); rintro e w56 ⟨v313, rfl, ho0, hb⟩; refine ⟨_, rfl, ?_⟩; have n0_ := Aside0.mk (Kd.R_below (by (with_reducible repeat (first | apply Kd.R_alloc | apply Kd.R_drewN | apply Kd.R_drew)); exact HO_8.out) hb); have n1_ := Aside0.mk (Kd.N_elder' (by (with_reducible repeat (first | apply Kd.N_alloc | apply Kd.N_drewN | apply Kd.N_drew)); exact HO_9.out) (Kd.N_base (Kd.S_N ho0)) hb); have n2_ := Aside0.mk (Kd.N_elder' (by (with_reducible repeat (first | apply Kd.N_alloc | apply Kd.N_drewN | apply Kd.N_drew)); exact HO_13.out) (Kd.N_base (Kd.S_N ho0)) hb); have n3_ := Aside0.mk (Kd.V_elder' (by (with_reducible repeat (first | apply Kd.V_alloc | apply Kd.V_drewN | apply Kd.V_drew)); exact HL309_2.out) (Kd.N_base (Kd.S_N ho0)) hb); have n4_ := Aside0.mk (Kd.N_lower (Kd.N_mono (ok' := fun k_ => (P0_ k_ ∨ w.heap.size ≤ k_) ∧ some k_ ≠ (.slice Ao34 x8_1.length co34 : Value).ownBlock ∧ some k_ ≠ (.slice (some ad309) x9_1.length co55 : Value).ownBlock ∧ some k_ ≠ (v307 : Value).ownBlock) (Kd.S_N (Kd.S_bound ho0)) (fun k_ hk_ => ⟨(.inr (Nat.le_trans (below_size (by repeat (first | (with_reducible first | exact HB.out | apply below_alloc | apply pw_below_drewN | apply below_drew1) | exact HB.out))) hk_.2.1)), (Kd.fresh' (Kd.R_lt (by (with_reducible repeat (first | apply Kd.R_alloc | apply Kd.R_drewN | apply Kd.R_drew)); exact HO_8.out)) k_ hk_.2.1), (Kd.fresh' (Kd.N_lt (by (with_reducible repeat (first | apply Kd.N_alloc | apply Kd.N_drewN | apply Kd.N_drew)); exact HO_9.out)) k_ hk_.2.1), (Kd.fresh' (Kd.N_lt (by (with_reducible repeat (first | apply Kd.N_alloc | apply Kd.N_drewN | apply Kd.N_drew)); exact HO_13.out)) k_ hk_.2.1)⟩)) (below_size (by repeat (first | (with_reducible first | exact HB.out | apply below_alloc | apply pw_below_drewN | apply below_drew1) | exact HB.out)))); have n5_ := Aside0.mk (Kd.C_below (by repeat (first | (with_reducible exact HR309_2.out) | (with_reducible refine Kd.C_alloc ?_ _) | (with_reducible refine Kd.C_drewN ?_ _) | (with_reducible refine Kd.C_drew ?_) | exact HR309_2.out)) hb); have n6_ := Aside0.mk (below_step (by repeat (first | (with_reducible first | exact HB.out | apply below_alloc | apply pw_below_drewN | apply below_drew1) | exact HB.out)) hb); clear HO_8; clear HO_9; clear HO_13; clear HL309_2; clear HR309_2; clear HB; have HO_8 := n0_; have HO_9 := n1_; have HO_13 := n2_; have HL309_2 := n3_; have HO314 := n4_; have HR309_2 := n5_; have HB := n6_; clear n0_ n1_ n2_ n3_ n4_ n5_ n6_; (try clear hb); (try clear hb2); (try clear hk); (try clear hi); (try clear ho0); have q57 : (x15_2 : Int) ≤ ((x9_1.length : Int) : Int) := of_decide_eq_true (by first | (with_reducible assumption) | assumption); obtain ⟨i057, hi057, _, hsz57, _⟩ := info_parts info24; have hroom57 : x9_1.length ≤ co55 := (Kd.N_reads' HO_9.out).2.1; have hC57 : Kd.F k24 _ _ (some ad309) x9_1.length x9_1 := (Kd.V_at (base := w.heap.size) (Kd.N_V HO_9.out)).2.2; have hcut57 := cut_to (P := Try.prog) 29 24 .i64 Try.underlying29 hi057 (some ad309) x9_1.length co55 x15_2 (of_decide_eq_true (by first | (with_reducible assumption) | assumption)) q57 hroom57; have hr57 := Kd.F_take (m := (x15_2 : Int).toNat) hC57 (by omega); have hy57 : y315.length = (x15_2 : Int).toNat := (by rw [Ny315.out, List.length_take]; omega); rw [← Ny315.out] at hr57; rw [← hy57] at hcut57; have HO319 := Aside0.mk (show Kd.V k24 24 _ w.heap.size _ (.slice (some ad309) y315.length co55) y315 from Kd.V_mk (by omega) hr57); have HC319 := Aside0.mk (show y315.length ≤ co55 from by omega); clear hr57 hC57 hroom57 hi057 hsz57; have KY57 := Aside0.mk hy57; clear hy57; replace q57 := eq_true q57; obtain ⟨Ao58, co58, eo58⟩ := Kd.N_slice HO_13.out; subst eo58) | (go_at_call 18; (with_reducible refine (governorref03_Same.calls _ _ t305 _ _ y315 true _ ?side1 ?side2 ?side3 ?side4 A45.out).mono ?_); (case side1 => repeat (first | exact (Kd.N_reads' HO_13.out).2.2 | (with_reducible refine Kd.C_alloc ?_ _) | (with_reducible refine Kd.C_drewN ?_ _) | (with_reducible refine Kd.C_drew ?_))); (case side2 => exact (Kd.N_reads' HO_13.out).2.1); (case side3 => repeat (first | exact (Kd.V_reads' HO319.out).2.2 | (with_reducible refine Kd.C_alloc ?_ _) | (with_reducible refine Kd.C_drewN ?_ _) | (with_reducible refine Kd.C_drew ?_))); (case side4 => exact (Kd.V_reads' HO319.out).2.1); rintro e w' ⟨rfl, ⟨nd, rfl⟩⟩; obtain ⟨Ao59, co59, eo59⟩ := Kd.N_slice HO314.out; subst eo59) | (go_at_call 18; (with_reducible refine (governorref03_Same.calls _ _ t311 _ _ x9_1 false _ ?side1 ?side2 ?side3 ?side4 A48.out).mono ?_); (case side1 => repeat (first | exact (Kd.N_reads' HO314.out).2.2 | (with_reducible refine Kd.C_alloc ?_ _) | (with_reducible refine Kd.C_drewN ?_ _) | (with_reducible refine Kd.C_drew ?_))); (case side2 => exact (Kd.N_reads' HO314.out).2.1); (case side3 => repeat (first | exact (Kd.N_reads' HO_9.out).2.2 | (with_reducible refine Kd.C_alloc ?_ _) | (with_reducible refine Kd.C_drewN ?_ _) | (with_reducible refine Kd.C_drew ?_))); (case side4 => exact (Kd.N_reads' HO_9.out).2.1); rintro e w' ⟨rfl, ⟨nd, rfl⟩⟩))
                                    go_ret
                                    exact ⟨by first | rfl | (simp [errW_none, errW_some] <;> rfl) | (simp only [← hji30]; first | rfl | (simp [errW_none, errW_some] <;> rfl)) | (simp [*, errW_none, errW_some] <;> rfl), by repeat (first | (with_reducible first | exact HB.out | apply below_alloc | apply pw_below_drewN | apply below_drew1) | exact HB.out)⟩
                                · rw [if_neg c47] at H
                                  have c47b0 : (t306 == x16_2) = false := beq_eq_false_iff_ne.mpr c47
                                  have c47b1 : (t306 != x16_2) = true := bne_iff_ne.mpr c47
                                  obtain rfl := Option.some.inj H
                                  obtain ⟨Ao60, co60, eo60⟩ := Kd.N_slice HO_9.out
                                  subst eo60
                                  have p309 : 0 ≤ (x15_2 : Int) := of_decide_eq_true (by first | (with_reducible assumption) | assumption)
                                  have q309 : x15_2 < (x9_1.length : Int) := of_decide_eq_true (by first | (with_reducible assumption) | assumption)
                                  obtain ⟨ad309, A309_2, c309_2, e309, hx309_0, hx309_1, hx309_2, hl309_2, hi309_2⟩ := at_T24 (Kd.N_reads' HO_9.out).2.2 x15_2 p309 q309
                                  cases e309
                                  obtain ⟨ce309, hce309, hMe309, hcc309⟩ := Kd.N_get HO_9.out z24 x15_2 p309 (by first | exact q309 | exact of_decide_eq_true (by first | (with_reducible assumption) | assumption) | (have e_ := (Kd.N_reads' HO_9.out).1; omega))
                                  obtain ⟨ua309_2, uc309_2, rfl, ul309_2, ge309_2⟩ := k24_openF hMe309
                                  have hv309_2 := hcc309 2 _ rfl
                                  rw [add_field _ _ 2 (by omega)] at hv309_2
                                  replace hv309_2 := Option.some.inj (hv309_2.symm.trans hx309_2)
                                  injection hv309_2 with hva_ hvn_ hvc_
                                  rw [hva_] at ge309_2
                                  rw [hvc_] at ul309_2
                                  have HL309_2 := Aside0.mk (show Kd.V (Kd.int .u8) 5 _ w.heap.size _ _ ((rd_T24 x9_1 x15_2).f2) from Kd.V_mk ul309_2 ge309_2)
                                  clear hva_ hvn_ hvc_ ge309_2 ul309_2
                                  clear hcc309 hce309
                                  have HR309_2 := Aside0.mk hi309_2
                                  have HC309_2 := Aside0.mk hl309_2
                                  clear hi309_2 hl309_2
                                  replace p309 := eq_true p309
                                  replace q309 := eq_true q309
                                  go_wp2_with (first | ((with_reducible refine gate_callee (f := 12) rfl ?_); refine goesL_ (some 104) rfl rfl Try.func12 (by kernel_rfl) rfl #[.slice Ao34 x8_1.length co34, .int .i64 (wrap64 (a1))] rfl (by (try simp only [List.map_toArray, List.map_cons, List.map_nil]); first | done | rfl | (simp only [List.length_drop, List.length_take]; rfl)) ?_; (with_reducible refine (frame_Scan.calls k2 _ _ x8_1 (wrap64 (a1)) t311 t312 _ ?side1 ?side2 A41.out).mono ?_); (case side1 => repeat (first | exact (Kd.R_reads' HO_8.out).2.2 | (with_reducible refine Kd.C_alloc ?_ _) | (with_reducible refine Kd.C_drewN ?_ _) | (with_reducible refine Kd.C_drew ?_))); (case side2 => exact (Kd.R_reads' HO_8.out).2.1); rintro e w61 ⟨v313, rfl, ho0, hb⟩; refine ⟨_, rfl, ?_⟩; have n0_ := Aside0.mk (Kd.R_below (by (with_reducible repeat (first | apply Kd.R_alloc | apply Kd.R_drewN | apply Kd.R_drew)); exact HO_8.out) hb); have n1_ := Aside0.mk (Kd.N_elder' (by (with_reducible repeat (first | apply Kd.N_alloc | apply Kd.N_drewN | apply Kd.N_drew)); exact HO_9.out) (Kd.N_base (Kd.S_N ho0)) hb); have n2_ := Aside0.mk (Kd.N_elder' (by (with_reducible repeat (first | apply Kd.N_alloc | apply Kd.N_drewN | apply Kd.N_drew)); exact HO_13.out) (Kd.N_base (Kd.S_N ho0)) hb); have n3_ := Aside0.mk (Kd.V_elder' (by (with_reducible repeat (first | apply Kd.V_alloc | apply Kd.V_drewN | apply Kd.V_drew)); exact HL309_2.out) (Kd.N_base (Kd.S_N ho0)) hb); have n4_ := Aside0.mk (Kd.N_lower (Kd.N_mono (ok' := fun k_ => (P0_ k_ ∨ w.heap.size ≤ k_) ∧ some k_ ≠ (.slice Ao34 x8_1.length co34 : Value).ownBlock ∧ some k_ ≠ (.slice (some ad309) x9_1.length co60 : Value).ownBlock ∧ some k_ ≠ (v307 : Value).ownBlock) (Kd.S_N (Kd.S_bound ho0)) (fun k_ hk_ => ⟨(.inr (Nat.le_trans (below_size (by repeat (first | (with_reducible first | exact HB.out | apply below_alloc | apply pw_below_drewN | apply below_drew1) | exact HB.out))) hk_.2.1)), (Kd.fresh' (Kd.R_lt (by (with_reducible repeat (first | apply Kd.R_alloc | apply Kd.R_drewN | apply Kd.R_drew)); exact HO_8.out)) k_ hk_.2.1), (Kd.fresh' (Kd.N_lt (by (with_reducible repeat (first | apply Kd.N_alloc | apply Kd.N_drewN | apply Kd.N_drew)); exact HO_9.out)) k_ hk_.2.1), (Kd.fresh' (Kd.N_lt (by (with_reducible repeat (first | apply Kd.N_alloc | apply Kd.N_drewN | apply Kd.N_drew)); exact HO_13.out)) k_ hk_.2.1)⟩)) (below_size (by repeat (first | (with_reducible first | exact HB.out | apply below_alloc | apply pw_below_drewN | apply below_drew1) | exact HB.out)))); have n5_ := Aside0.mk (Kd.C_below (by repeat (first | (with_reducible exact HR309_2.out) | (with_reducible refine Kd.C_alloc ?_ _) | (with_reducible refine Kd.C_drewN ?_ _) | (with_reducible refine Kd.C_drew ?_) | exact HR309_2.out)) hb); have n6_ := Aside0.mk (below_step (by repeat (first | (with_reducible first | exact HB.out | apply below_alloc | apply pw_below_drewN | apply below_drew1) | exact HB.out)) hb); clear HO_8; clear HO_9; clear HO_13; clear HL309_2; clear HR309_2; clear HB; have HO_8 := n0_; have HO_9 := n1_; have HO_13 := n2_; have HL309_2 := n3_; have HO314 := n4_; have HR309_2 := n5_; have HB := n6_; clear n0_ n1_ n2_ n3_ n4_ n5_ n6_; (try clear hb); (try clear hb2); (try clear hk); (try clear hi); (try clear ho0); have q62 : (x15_2 : Int) ≤ ((x9_1.length : Int) : Int) := of_decide_eq_true (by first | (with_reducible assumption) | assumption); obtain ⟨i062, hi062, _, hsz62, _⟩ := info_parts info24; have hroom62 : x9_1.length ≤ co60 := (Kd.N_reads' HO_9.out).2.1; have hC62 : Kd.F k24 _ _ (some ad309) x9_1.length x9_1 := (Kd.V_at (base := w.heap.size) (Kd.N_V HO_9.out)).2.2; have hcut62 := cut_to (P := Try.prog) 29 24 .i64 Try.underlying29 hi062 (some ad309) x9_1.length co60 x15_2 (of_decide_eq_true (by first | (with_reducible assumption) | assumption)) q62 hroom62; have hr62 := Kd.F_take (m := (x15_2 : Int).toNat) hC62 (by omega); have hy62 : y315.length = (x15_2 : Int).toNat := (by rw [Ny315.out, List.length_take]; omega); rw [← Ny315.out] at hr62; rw [← hy62] at hcut62; have HO319 := Aside0.mk (show Kd.V k24 24 _ w.heap.size _ (.slice (some ad309) y315.length co60) y315 from Kd.V_mk (by omega) hr62); have HC319 := Aside0.mk (show y315.length ≤ co60 from by omega); clear hr62 hC62 hroom62 hi062 hsz62; have KY62 := Aside0.mk hy62; clear hy62; replace q62 := eq_true q62; obtain ⟨Ao63, co63, eo63⟩ := Kd.N_slice HO_13.out; subst eo63) | (go_at_call 18; (with_reducible refine (governorref03_Same.calls _ _ t305 _ _ y315 true _ ?side1 ?side2 ?side3 ?side4 A45.out).mono ?_); (case side1 => repeat (first | exact (Kd.N_reads' HO_13.out).2.2 | (with_reducible refine Kd.C_alloc ?_ _) | (with_reducible refine Kd.C_drewN ?_ _) | (with_reducible refine Kd.C_drew ?_))); (case side2 => exact (Kd.N_reads' HO_13.out).2.1); (case side3 => repeat (first | exact (Kd.V_reads' HO319.out).2.2 | (with_reducible refine Kd.C_alloc ?_ _) | (with_reducible refine Kd.C_drewN ?_ _) | (with_reducible refine Kd.C_drew ?_))); (case side4 => exact (Kd.V_reads' HO319.out).2.1); rintro e w' ⟨rfl, ⟨nd, rfl⟩⟩))
                                  go_ret
                                  exact ⟨by first | rfl | (simp [errW_none, errW_some] <;> rfl) | (simp only [← hji30]; first | rfl | (simp [errW_none, errW_some] <;> rfl)) | (simp [*, errW_none, errW_some] <;> rfl), by repeat (first | (with_reducible first | exact HB.out | apply below_alloc | apply pw_below_drewN | apply below_drew1) | exact HB.out)⟩
                              · replace c46 := Bool.eq_false_iff.mpr c46
                                subst c46
                                have H1 : (some false) = some r := by rw [if_neg (show ¬ (false = true) by decide)] at H; exact H
                                clear H
                                have H := H1
                                clear H1
                                obtain rfl := Option.some.inj H
                                obtain ⟨Ao64, co64, eo64⟩ := Kd.N_slice HO_9.out
                                subst eo64
                                have p309 : 0 ≤ (x15_2 : Int) := of_decide_eq_true (by first | (with_reducible assumption) | assumption)
                                have q309 : x15_2 < (x9_1.length : Int) := of_decide_eq_true (by first | (with_reducible assumption) | assumption)
                                obtain ⟨ad309, A309_2, c309_2, e309, hx309_0, hx309_1, hx309_2, hl309_2, hi309_2⟩ := at_T24 (Kd.N_reads' HO_9.out).2.2 x15_2 p309 q309
                                cases e309
                                obtain ⟨ce309, hce309, hMe309, hcc309⟩ := Kd.N_get HO_9.out z24 x15_2 p309 (by first | exact q309 | exact of_decide_eq_true (by first | (with_reducible assumption) | assumption) | (have e_ := (Kd.N_reads' HO_9.out).1; omega))
                                obtain ⟨ua309_2, uc309_2, rfl, ul309_2, ge309_2⟩ := k24_openF hMe309
                                have hv309_2 := hcc309 2 _ rfl
                                rw [add_field _ _ 2 (by omega)] at hv309_2
                                replace hv309_2 := Option.some.inj (hv309_2.symm.trans hx309_2)
                                injection hv309_2 with hva_ hvn_ hvc_
                                rw [hva_] at ge309_2
                                rw [hvc_] at ul309_2
                                have HL309_2 := Aside0.mk (show Kd.V (Kd.int .u8) 5 _ w.heap.size _ _ ((rd_T24 x9_1 x15_2).f2) from Kd.V_mk ul309_2 ge309_2)
                                clear hva_ hvn_ hvc_ ge309_2 ul309_2
                                clear hcc309 hce309
                                have HR309_2 := Aside0.mk hi309_2
                                have HC309_2 := Aside0.mk hl309_2
                                clear hi309_2 hl309_2
                                replace p309 := eq_true p309
                                replace q309 := eq_true q309
                                go_wp2_with (first | ((with_reducible refine gate_callee (f := 12) rfl ?_); refine goesL_ (some 104) rfl rfl Try.func12 (by kernel_rfl) rfl #[.slice Ao34 x8_1.length co34, .int .i64 (wrap64 (a1))] rfl (by (try simp only [List.map_toArray, List.map_cons, List.map_nil]); first | done | rfl | (simp only [List.length_drop, List.length_take]; rfl)) ?_; (with_reducible refine (frame_Scan.calls k2 _ _ x8_1 (wrap64 (a1)) t311 t312 _ ?side1 ?side2 A41.out).mono ?_); (case side1 => repeat (first | exact (Kd.R_reads' HO_8.out).2.2 | (with_reducible refine Kd.C_alloc ?_ _) | (with_reducible refine Kd.C_drewN ?_ _) | (with_reducible refine Kd.C_drew ?_))); (case side2 => exact (Kd.R_reads' HO_8.out).2.1); rintro e w65 ⟨v313, rfl, ho0, hb⟩; refine ⟨_, rfl, ?_⟩; have n0_ := Aside0.mk (Kd.R_below (by (with_reducible repeat (first | apply Kd.R_alloc | apply Kd.R_drewN | apply Kd.R_drew)); exact HO_8.out) hb); have n1_ := Aside0.mk (Kd.N_elder' (by (with_reducible repeat (first | apply Kd.N_alloc | apply Kd.N_drewN | apply Kd.N_drew)); exact HO_9.out) (Kd.N_base (Kd.S_N ho0)) hb); have n2_ := Aside0.mk (Kd.N_elder' (by (with_reducible repeat (first | apply Kd.N_alloc | apply Kd.N_drewN | apply Kd.N_drew)); exact HO_13.out) (Kd.N_base (Kd.S_N ho0)) hb); have n3_ := Aside0.mk (Kd.V_elder' (by (with_reducible repeat (first | apply Kd.V_alloc | apply Kd.V_drewN | apply Kd.V_drew)); exact HL309_2.out) (Kd.N_base (Kd.S_N ho0)) hb); have n4_ := Aside0.mk (Kd.N_lower (Kd.N_mono (ok' := fun k_ => (P0_ k_ ∨ w.heap.size ≤ k_) ∧ some k_ ≠ (.slice Ao34 x8_1.length co34 : Value).ownBlock ∧ some k_ ≠ (.slice (some ad309) x9_1.length co64 : Value).ownBlock ∧ some k_ ≠ (v307 : Value).ownBlock) (Kd.S_N (Kd.S_bound ho0)) (fun k_ hk_ => ⟨(.inr (Nat.le_trans (below_size (by repeat (first | (with_reducible first | exact HB.out | apply below_alloc | apply pw_below_drewN | apply below_drew1) | exact HB.out))) hk_.2.1)), (Kd.fresh' (Kd.R_lt (by (with_reducible repeat (first | apply Kd.R_alloc | apply Kd.R_drewN | apply Kd.R_drew)); exact HO_8.out)) k_ hk_.2.1), (Kd.fresh' (Kd.N_lt (by (with_reducible repeat (first | apply Kd.N_alloc | apply Kd.N_drewN | apply Kd.N_drew)); exact HO_9.out)) k_ hk_.2.1), (Kd.fresh' (Kd.N_lt (by (with_reducible repeat (first | apply Kd.N_alloc | apply Kd.N_drewN | apply Kd.N_drew)); exact HO_13.out)) k_ hk_.2.1)⟩)) (below_size (by repeat (first | (with_reducible first | exact HB.out | apply below_alloc | apply pw_below_drewN | apply below_drew1) | exact HB.out)))); have n5_ := Aside0.mk (Kd.C_below (by repeat (first | (with_reducible exact HR309_2.out) | (with_reducible refine Kd.C_alloc ?_ _) | (with_reducible refine Kd.C_drewN ?_ _) | (with_reducible refine Kd.C_drew ?_) | exact HR309_2.out)) hb); have n6_ := Aside0.mk (below_step (by repeat (first | (with_reducible first | exact HB.out | apply below_alloc | apply pw_below_drewN | apply below_drew1) | exact HB.out)) hb); clear HO_8; clear HO_9; clear HO_13; clear HL309_2; clear HR309_2; clear HB; have HO_8 := n0_; have HO_9 := n1_; have HO_13 := n2_; have HL309_2 := n3_; have HO314 := n4_; have HR309_2 := n5_; have HB := n6_; clear n0_ n1_ n2_ n3_ n4_ n5_ n6_; (try clear hb); (try clear hb2); (try clear hk); (try clear hi); (try clear ho0); have q66 : (x15_2 : Int) ≤ ((x9_1.length : Int) : Int) := of_decide_eq_true (by first | (with_reducible assumption) | assumption); obtain ⟨i066, hi066, _, hsz66, _⟩ := info_parts info24; have hroom66 : x9_1.length ≤ co64 := (Kd.N_reads' HO_9.out).2.1; have hC66 : Kd.F k24 _ _ (some ad309) x9_1.length x9_1 := (Kd.V_at (base := w.heap.size) (Kd.N_V HO_9.out)).2.2; have hcut66 := cut_to (P := Try.prog) 29 24 .i64 Try.underlying29 hi066 (some ad309) x9_1.length co64 x15_2 (of_decide_eq_true (by first | (with_reducible assumption) | assumption)) q66 hroom66; have hr66 := Kd.F_take (m := (x15_2 : Int).toNat) hC66 (by omega); have hy66 : y315.length = (x15_2 : Int).toNat := (by rw [Ny315.out, List.length_take]; omega); rw [← Ny315.out] at hr66; rw [← hy66] at hcut66; have HO319 := Aside0.mk (show Kd.V k24 24 _ w.heap.size _ (.slice (some ad309) y315.length co64) y315 from Kd.V_mk (by omega) hr66); have HC319 := Aside0.mk (show y315.length ≤ co64 from by omega); clear hr66 hC66 hroom66 hi066 hsz66; have KY66 := Aside0.mk hy66; clear hy66; replace q66 := eq_true q66; obtain ⟨Ao67, co67, eo67⟩ := Kd.N_slice HO_13.out; subst eo67) | (go_at_call 18; (with_reducible refine (governorref03_Same.calls _ _ t305 _ _ y315 false _ ?side1 ?side2 ?side3 ?side4 A45.out).mono ?_); (case side1 => repeat (first | exact (Kd.N_reads' HO_13.out).2.2 | (with_reducible refine Kd.C_alloc ?_ _) | (with_reducible refine Kd.C_drewN ?_ _) | (with_reducible refine Kd.C_drew ?_))); (case side2 => exact (Kd.N_reads' HO_13.out).2.1); (case side3 => repeat (first | exact (Kd.V_reads' HO319.out).2.2 | (with_reducible refine Kd.C_alloc ?_ _) | (with_reducible refine Kd.C_drewN ?_ _) | (with_reducible refine Kd.C_drew ?_))); (case side4 => exact (Kd.V_reads' HO319.out).2.1); rintro e w' ⟨rfl, ⟨nd, rfl⟩⟩))
                                go_ret
                                exact ⟨by first | rfl | (simp [errW_none, errW_some] <;> rfl) | (simp only [← hji30]; first | rfl | (simp [errW_none, errW_some] <;> rfl)) | (simp [*, errW_none, errW_some] <;> rfl), by repeat (first | (with_reducible first | exact HB.out | apply below_alloc | apply pw_below_drewN | apply below_drew1) | exact HB.out)⟩
                            · rw [if_neg c44] at H
                              exact absurd H (by simp)
                          · replace c42 := Bool.eq_false_iff.mpr c42
                            subst c42
                            have H1 : (some false) = some r := by rw [if_neg (show ¬ (false = true) by decide)] at H; exact H
                            clear H
                            have H := H1
                            clear H1
                            obtain rfl := Option.some.inj H
                            obtain ⟨Ao68, co68, eo68⟩ := Kd.N_slice HO_9.out
                            subst eo68
                            have p309 : 0 ≤ (x15_2 : Int) := of_decide_eq_true (by first | (with_reducible assumption) | assumption)
                            have q309 : x15_2 < (x9_1.length : Int) := of_decide_eq_true (by first | (with_reducible assumption) | assumption)
                            obtain ⟨ad309, A309_2, c309_2, e309, hx309_0, hx309_1, hx309_2, hl309_2, hi309_2⟩ := at_T24 (Kd.N_reads' HO_9.out).2.2 x15_2 p309 q309
                            cases e309
                            obtain ⟨ce309, hce309, hMe309, hcc309⟩ := Kd.N_get HO_9.out z24 x15_2 p309 (by first | exact q309 | exact of_decide_eq_true (by first | (with_reducible assumption) | assumption) | (have e_ := (Kd.N_reads' HO_9.out).1; omega))
                            obtain ⟨ua309_2, uc309_2, rfl, ul309_2, ge309_2⟩ := k24_openF hMe309
                            have hv309_2 := hcc309 2 _ rfl
                            rw [add_field _ _ 2 (by omega)] at hv309_2
                            replace hv309_2 := Option.some.inj (hv309_2.symm.trans hx309_2)
                            injection hv309_2 with hva_ hvn_ hvc_
                            rw [hva_] at ge309_2
                            rw [hvc_] at ul309_2
                            have HL309_2 := Aside0.mk (show Kd.V (Kd.int .u8) 5 _ w.heap.size _ _ ((rd_T24 x9_1 x15_2).f2) from Kd.V_mk ul309_2 ge309_2)
                            clear hva_ hvn_ hvc_ ge309_2 ul309_2
                            clear hcc309 hce309
                            have HR309_2 := Aside0.mk hi309_2
                            have HC309_2 := Aside0.mk hl309_2
                            clear hi309_2 hl309_2
                            replace p309 := eq_true p309
                            replace q309 := eq_true q309
                            go_wp2_with (first | ((with_reducible refine gate_callee (f := 12) rfl ?_); refine goesL_ (some 104) rfl rfl Try.func12 (by kernel_rfl) rfl #[.slice Ao34 x8_1.length co34, .int .i64 (wrap64 (a1))] rfl (by (try simp only [List.map_toArray, List.map_cons, List.map_nil]); first | done | rfl | (simp only [List.length_drop, List.length_take]; rfl)) ?_; (with_reducible refine (frame_Scan.calls k2 _ _ x8_1 (wrap64 (a1)) t311 t312 _ ?side1 ?side2 A41.out).mono ?_); (case side1 => repeat (first | exact (Kd.R_reads' HO_8.out).2.2 | (with_reducible refine Kd.C_alloc ?_ _) | (with_reducible refine Kd.C_drewN ?_ _) | (with_reducible refine Kd.C_drew ?_))); (case side2 => exact (Kd.R_reads' HO_8.out).2.1); rintro e w69 ⟨v313, rfl, ho0, hb⟩; refine ⟨_, rfl, ?_⟩; have n0_ := Aside0.mk (Kd.R_below (by (with_reducible repeat (first | apply Kd.R_alloc | apply Kd.R_drewN | apply Kd.R_drew)); exact HO_8.out) hb); have n1_ := Aside0.mk (Kd.N_elder' (by (with_reducible repeat (first | apply Kd.N_alloc | apply Kd.N_drewN | apply Kd.N_drew)); exact HO_9.out) (Kd.N_base (Kd.S_N ho0)) hb); have n2_ := Aside0.mk (Kd.N_elder' (by (with_reducible repeat (first | apply Kd.N_alloc | apply Kd.N_drewN | apply Kd.N_drew)); exact HO_13.out) (Kd.N_base (Kd.S_N ho0)) hb); have n3_ := Aside0.mk (Kd.V_elder' (by (with_reducible repeat (first | apply Kd.V_alloc | apply Kd.V_drewN | apply Kd.V_drew)); exact HL309_2.out) (Kd.N_base (Kd.S_N ho0)) hb); have n4_ := Aside0.mk (Kd.N_lower (Kd.N_mono (ok' := fun k_ => (P0_ k_ ∨ w.heap.size ≤ k_) ∧ some k_ ≠ (.slice Ao34 x8_1.length co34 : Value).ownBlock ∧ some k_ ≠ (.slice (some ad309) x9_1.length co68 : Value).ownBlock ∧ some k_ ≠ (v307 : Value).ownBlock) (Kd.S_N (Kd.S_bound ho0)) (fun k_ hk_ => ⟨(.inr (Nat.le_trans (below_size (by repeat (first | (with_reducible first | exact HB.out | apply below_alloc | apply pw_below_drewN | apply below_drew1) | exact HB.out))) hk_.2.1)), (Kd.fresh' (Kd.R_lt (by (with_reducible repeat (first | apply Kd.R_alloc | apply Kd.R_drewN | apply Kd.R_drew)); exact HO_8.out)) k_ hk_.2.1), (Kd.fresh' (Kd.N_lt (by (with_reducible repeat (first | apply Kd.N_alloc | apply Kd.N_drewN | apply Kd.N_drew)); exact HO_9.out)) k_ hk_.2.1), (Kd.fresh' (Kd.N_lt (by (with_reducible repeat (first | apply Kd.N_alloc | apply Kd.N_drewN | apply Kd.N_drew)); exact HO_13.out)) k_ hk_.2.1)⟩)) (below_size (by repeat (first | (with_reducible first | exact HB.out | apply below_alloc | apply pw_below_drewN | apply below_drew1) | exact HB.out)))); have n5_ := Aside0.mk (Kd.C_below (by repeat (first | (with_reducible exact HR309_2.out) | (with_reducible refine Kd.C_alloc ?_ _) | (with_reducible refine Kd.C_drewN ?_ _) | (with_reducible refine Kd.C_drew ?_) | exact HR309_2.out)) hb); have n6_ := Aside0.mk (below_step (by repeat (first | (with_reducible first | exact HB.out | apply below_alloc | apply pw_below_drewN | apply below_drew1) | exact HB.out)) hb); clear HO_8; clear HO_9; clear HO_13; clear HL309_2; clear HR309_2; clear HB; have HO_8 := n0_; have HO_9 := n1_; have HO_13 := n2_; have HL309_2 := n3_; have HO314 := n4_; have HR309_2 := n5_; have HB := n6_; clear n0_ n1_ n2_ n3_ n4_ n5_ n6_; (try clear hb); (try clear hb2); (try clear hk); (try clear hi); (try clear ho0)))
                            go_ret
                            exact ⟨by first | rfl | (simp [errW_none, errW_some] <;> rfl) | (simp only [← hji30]; first | rfl | (simp [errW_none, errW_some] <;> rfl)) | (simp [*, errW_none, errW_some] <;> rfl), by repeat (first | (with_reducible first | exact HB.out | apply below_alloc | apply pw_below_drewN | apply below_drew1) | exact HB.out)⟩
                      · rw [if_neg c38] at H
                        exact absurd H (by simp)
                    · rw [if_neg c37] at H
                      have c37b0 : decide (x15_2 < (x9_1.length : Int)) = false := decide_eq_false c37
                      clear c37
                      replace H := Option.bind_eq_some_iff.mp H
                      obtain ⟨⟨t322, t323⟩, A700, H⟩ := H
                      replace H : (if t282 = true then (if 0 ≤ x15_2 then (if x15_2 ≤ (x9_1.length : Int) then ((governorref03_Same.f t305 (x9_1.take (x15_2 : Int).toNat)).bind fun t331 => (if t331 = true then (if t306 = x16_2 then ((governorref03_Same.f t322 x9_1).bind fun t332 => (if t332 = true then (some (t323 == (x8_1.length : Int))) else (some false))) else (some false)) else (some false))) else (none)) else (none)) else (some false)) = some r := H
                      have A70 := Aside0.mk A700
                      clear A700
                      by_cases c71 : t282 = true
                      · subst c71
                        have H1 : (if 0 ≤ x15_2 then (if x15_2 ≤ (x9_1.length : Int) then ((governorref03_Same.f t305 (x9_1.take (x15_2 : Int).toNat)).bind fun t331 => (if t331 = true then (if t306 = x16_2 then ((governorref03_Same.f t322 x9_1).bind fun t332 => (if t332 = true then (some (t323 == (x8_1.length : Int))) else (some false))) else (some false)) else (some false))) else (none)) else (none)) = some r := by rw [if_pos rfl] at H; exact H
                        clear H
                        have H := H1
                        clear H1
                        by_cases c72 : 0 ≤ x15_2
                        · rw [if_pos c72] at H
                          have c72b0 := eq_true c72
                          have c72b1 : decide (0 ≤ x15_2) = true := decide_eq_true c72
                          clear c72
                          by_cases c73 : x15_2 ≤ (x9_1.length : Int)
                          · rw [if_pos c73] at H
                            have c73b0 := eq_true c73
                            have c73b1 : decide (x15_2 ≤ (x9_1.length : Int)) = true := decide_eq_true c73
                            clear c73
                            obtain ⟨y326, hy326⟩ : ∃ y_ : List (S24), y_ = (x9_1.take (x15_2 : Int).toNat) := ⟨_, rfl⟩
                            replace H : ((governorref03_Same.f t305 y326).bind fun t331 => (if t331 = true then (if t306 = x16_2 then ((governorref03_Same.f t322 x9_1).bind fun t332 => (if t332 = true then (some (t323 == (x8_1.length : Int))) else (some false))) else (some false)) else (some false))) = some r := by first | (rw [hy326]; with_reducible exact H) | (have H2_ := (Option.bind_some _ _).symm.trans H; rw [hy326]; with_reducible exact H2_) | (have H2_ := (Option.bind_some _ _).symm.trans H; with_reducible exact H2_) | with_reducible exact H | (rw [hy326]; exact H) | exact H
                            have Ny326 := Aside0.mk hy326
                            clear hy326
                            replace H := Option.bind_eq_some_iff.mp H
                            obtain ⟨t331, A740, H⟩ := H
                            replace H : (if t331 = true then (if t306 = x16_2 then ((governorref03_Same.f t322 x9_1).bind fun t332 => (if t332 = true then (some (t323 == (x8_1.length : Int))) else (some false))) else (some false)) else (some false)) = some r := H
                            have A74 := Aside0.mk A740
                            clear A740
                            by_cases c75 : t331 = true
                            · subst c75
                              have H1 : (if t306 = x16_2 then ((governorref03_Same.f t322 x9_1).bind fun t332 => (if t332 = true then (some (t323 == (x8_1.length : Int))) else (some false))) else (some false)) = some r := by rw [if_pos rfl] at H; exact H
                              clear H
                              have H := H1
                              clear H1
                              by_cases c76 : t306 = x16_2
                              · rw [if_pos c76] at H
                                have c76b0 : (t306 == x16_2) = true := beq_iff_eq.mpr c76
                                have c76b1 : (t306 != x16_2) = false := bne_eq_false_iff_eq.mpr c76
                                clear c76
                                replace H := Option.bind_eq_some_iff.mp H
                                obtain ⟨t332, A770, H⟩ := H
                                replace H : (if t332 = true then (some (t323 == (x8_1.length : Int))) else (some false)) = some r := H
                                have A77 := Aside0.mk A770
                                clear A770
                                by_cases c78 : t332 = true
                                · subst c78
                                  have H1 : (some (t323 == (x8_1.length : Int))) = some r := by rw [if_pos rfl] at H; exact H
                                  clear H
                                  have H := H1
                                  clear H1
                                  obtain rfl := Option.some.inj H
                                  obtain ⟨Ao79, co79, eo79⟩ := Kd.N_slice HO_9.out
                                  subst eo79
                                  go_wp2_with (first | ((with_reducible refine gate_callee (f := 12) rfl ?_); refine goesL_ (some 104) rfl rfl Try.func12 (by kernel_rfl) rfl #[.slice Ao34 x8_1.length co34, .int .i64 (wrap64 (a1))] rfl (by (try simp only [List.map_toArray, List.map_cons, List.map_nil]); first | done | rfl | (simp only [List.length_drop, List.length_take]; rfl)) ?_; (with_reducible refine (frame_Scan.calls k2 _ _ x8_1 (wrap64 (a1)) t322 t323 _ ?side1 ?side2 A70.out).mono ?_); (case side1 => repeat (first | exact (Kd.R_reads' HO_8.out).2.2 | (with_reducible refine Kd.C_alloc ?_ _) | (with_reducible refine Kd.C_drewN ?_ _) | (with_reducible refine Kd.C_drew ?_))); (case side2 => exact (Kd.R_reads' HO_8.out).2.1); rintro e w80 ⟨v324, rfl, ho0, hb⟩; refine ⟨_, rfl, ?_⟩; have n0_ := Aside0.mk (Kd.R_below (by (with_reducible repeat (first | apply Kd.R_alloc | apply Kd.R_drewN | apply Kd.R_drew)); exact HO_8.out) hb); have n1_ := Aside0.mk (Kd.N_elder' (by (with_reducible repeat (first | apply Kd.N_alloc | apply Kd.N_drewN | apply Kd.N_drew)); exact HO_9.out) (Kd.N_base (Kd.S_N ho0)) hb); have n2_ := Aside0.mk (Kd.N_elder' (by (with_reducible repeat (first | apply Kd.N_alloc | apply Kd.N_drewN | apply Kd.N_drew)); exact HO_13.out) (Kd.N_base (Kd.S_N ho0)) hb); have n3_ := Aside0.mk (Kd.N_lower (Kd.N_mono (ok' := fun k_ => (P0_ k_ ∨ w.heap.size ≤ k_) ∧ some k_ ≠ (.slice Ao34 x8_1.length co34 : Value).ownBlock ∧ some k_ ≠ (.slice Ao79 x9_1.length co79 : Value).ownBlock ∧ some k_ ≠ (v307 : Value).ownBlock) (Kd.S_N (Kd.S_bound ho0)) (fun k_ hk_ => ⟨(.inr (Nat.le_trans (below_size (by repeat (first | (with_reducible first | exact HB.out | apply below_alloc | apply pw_below_drewN | apply below_drew1) | exact HB.out))) hk_.2.1)), (Kd.fresh' (Kd.R_lt (by (with_reducible repeat (first | apply Kd.R_alloc | apply Kd.R_drewN | apply Kd.R_drew)); exact HO_8.out)) k_ hk_.2.1), (Kd.fresh' (Kd.N_lt (by (with_reducible repeat (first | apply Kd.N_alloc | apply Kd.N_drewN | apply Kd.N_drew)); exact HO_9.out)) k_ hk_.2.1), (Kd.fresh' (Kd.N_lt (by (with_reducible repeat (first | apply Kd.N_alloc | apply Kd.N_drewN | apply Kd.N_drew)); exact HO_13.out)) k_ hk_.2.1)⟩)) (below_size (by repeat (first | (with_reducible first | exact HB.out | apply below_alloc | apply pw_below_drewN | apply below_drew1) | exact HB.out)))); have n4_ := Aside0.mk (below_step (by repeat (first | (with_reducible first | exact HB.out | apply below_alloc | apply pw_below_drewN | apply below_drew1) | exact HB.out)) hb); clear HO_8; clear HO_9; clear HO_13; clear HB; have HO_8 := n0_; have HO_9 := n1_; have HO_13 := n2_; have HO325 := n3_; have HB := n4_; clear n0_ n1_ n2_ n3_ n4_; (try clear hb); (try clear hb2); (try clear hk); (try clear hi); (try clear ho0); have q81 : (x15_2 : Int) ≤ ((x9_1.length : Int) : Int) := of_decide_eq_true (by first | (with_reducible assumption) | assumption); obtain ⟨i081, hi081, _, hsz81, _⟩ := info_parts info24; have hroom81 : x9_1.length ≤ co79 := (Kd.N_reads' HO_9.out).2.1; have hC81 : Kd.F k24 _ _ Ao79 x9_1.length x9_1 := (Kd.V_at (base := w.heap.size) (Kd.N_V HO_9.out)).2.2; have hcut81 := cut_to (P := Try.prog) 29 24 .i64 Try.underlying29 hi081 Ao79 x9_1.length co79 x15_2 (of_decide_eq_true (by first | (with_reducible assumption) | assumption)) q81 hroom81; have hr81 := Kd.F_take (m := (x15_2 : Int).toNat) hC81 (by omega); have hy81 : y326.length = (x15_2 : Int).toNat := (by rw [Ny326.out, List.length_take]; omega); rw [← Ny326.out] at hr81; rw [← hy81] at hcut81; have HO330 := Aside0.mk (show Kd.V k24 24 _ w.heap.size _ (.slice Ao79 y326.length co79) y326 from Kd.V_mk (by omega) hr81); have HC330 := Aside0.mk (show y326.length ≤ co79 from by omega); clear hr81 hC81 hroom81 hi081 hsz81; have KY81 := Aside0.mk hy81; clear hy81; replace q81 := eq_true q81; obtain ⟨Ao82, co82, eo82⟩ := Kd.N_slice HO_13.out; subst eo82) | (go_at_call 18; (with_reducible refine (governorref03_Same.calls _ _ t305 _ _ y326 true _ ?side1 ?side2 ?side3 ?side4 A74.out).mono ?_); (case side1 => repeat (first | exact (Kd.N_reads' HO_13.out).2.2 | (with_reducible refine Kd.C_alloc ?_ _) | (with_reducible refine Kd.C_drewN ?_ _) | (with_reducible refine Kd.C_drew ?_))); (case side2 => exact (Kd.N_reads' HO_13.out).2.1); (case side3 => repeat (first | exact (Kd.V_reads' HO330.out).2.2 | (with_reducible refine Kd.C_alloc ?_ _) | (with_reducible refine Kd.C_drewN ?_ _) | (with_reducible refine Kd.C_drew ?_))); (case side4 => exact (Kd.V_reads' HO330.out).2.1); rintro e w' ⟨rfl, ⟨nd, rfl⟩⟩; obtain ⟨Ao83, co83, eo83⟩ := Kd.N_slice HO325.out; subst eo83) | (go_at_call 18; (with_reducible refine (governorref03_Same.calls _ _ t322 _ _ x9_1 true _ ?side1 ?side2 ?side3 ?side4 A77.out).mono ?_); (case side1 => repeat (first | exact (Kd.N_reads' HO325.out).2.2 | (with_reducible refine Kd.C_alloc ?_ _) | (with_reducible refine Kd.C_drewN ?_ _) | (with_reducible refine Kd.C_drew ?_))); (case side2 => exact (Kd.N_reads' HO325.out).2.1); (case side3 => repeat (first | exact (Kd.N_reads' HO_9.out).2.2 | (with_reducible refine Kd.C_alloc ?_ _) | (with_reducible refine Kd.C_drewN ?_ _) | (with_reducible refine Kd.C_drew ?_))); (case side4 => exact (Kd.N_reads' HO_9.out).2.1); rintro e w' ⟨rfl, ⟨nd, rfl⟩⟩))
                                  go_ret
                                  exact ⟨by first | rfl | (simp [errW_none, errW_some] <;> rfl) | (simp only [← hji30]; first | rfl | (simp [errW_none, errW_some] <;> rfl)) | (simp [*, errW_none, errW_some] <;> rfl), by repeat (first | (with_reducible first | exact HB.out | apply below_alloc | apply pw_below_drewN | apply below_drew1) | exact HB.out)⟩
                                · replace c78 := Bool.eq_false_iff.mpr c78
                                  subst c78
                                  have H1 : (some false) = some r := by rw [if_neg (show ¬ (false = true) by decide)] at H; exact H
                                  clear H
                                  have H := H1
                                  clear H1
                                  obtain rfl := Option.some.inj H
                                  obtain ⟨Ao84, co84, eo84⟩ := Kd.N_slice HO_9.out
                                  subst eo84
                                  go_wp2_with (first | ((with_reducible refine gate_callee (f := 12) rfl ?_); refine goesL_ (some 104) rfl rfl Try.func12 (by kernel_rfl) rfl #[.slice Ao34 x8_1.length co34, .int .i64 (wrap64 (a1))] rfl (by (try simp only [List.map_toArray, List.map_cons, List.map_nil]); first | done | rfl | (simp only [List.length_drop, List.length_take]; rfl)) ?_; (with_reducible refine (frame_Scan.calls k2 _ _ x8_1 (wrap64 (a1)) t322 t323 _ ?side1 ?side2 A70.out).mono ?_); (case side1 => repeat (first | exact (Kd.R_reads' HO_8.out).2.2 | (with_reducible refine Kd.C_alloc ?_ _) | (with_reducible refine Kd.C_drewN ?_ _) | (with_reducible refine Kd.C_drew ?_))); (case side2 => exact (Kd.R_reads' HO_8.out).2.1); rintro e w85 ⟨v324, rfl, ho0, hb⟩; refine ⟨_, rfl, ?_⟩; have n0_ := Aside0.mk (Kd.R_below (by (with_reducible repeat (first | apply Kd.R_alloc | apply Kd.R_drewN | apply Kd.R_drew)); exact HO_8.out) hb); have n1_ := Aside0.mk (Kd.N_elder' (by (with_reducible repeat (first | apply Kd.N_alloc | apply Kd.N_drewN | apply Kd.N_drew)); exact HO_9.out) (Kd.N_base (Kd.S_N ho0)) hb); have n2_ := Aside0.mk (Kd.N_elder' (by (with_reducible repeat (first | apply Kd.N_alloc | apply Kd.N_drewN | apply Kd.N_drew)); exact HO_13.out) (Kd.N_base (Kd.S_N ho0)) hb); have n3_ := Aside0.mk (Kd.N_lower (Kd.N_mono (ok' := fun k_ => (P0_ k_ ∨ w.heap.size ≤ k_) ∧ some k_ ≠ (.slice Ao34 x8_1.length co34 : Value).ownBlock ∧ some k_ ≠ (.slice Ao84 x9_1.length co84 : Value).ownBlock ∧ some k_ ≠ (v307 : Value).ownBlock) (Kd.S_N (Kd.S_bound ho0)) (fun k_ hk_ => ⟨(.inr (Nat.le_trans (below_size (by repeat (first | (with_reducible first | exact HB.out | apply below_alloc | apply pw_below_drewN | apply below_drew1) | exact HB.out))) hk_.2.1)), (Kd.fresh' (Kd.R_lt (by (with_reducible repeat (first | apply Kd.R_alloc | apply Kd.R_drewN | apply Kd.R_drew)); exact HO_8.out)) k_ hk_.2.1), (Kd.fresh' (Kd.N_lt (by (with_reducible repeat (first | apply Kd.N_alloc | apply Kd.N_drewN | apply Kd.N_drew)); exact HO_9.out)) k_ hk_.2.1), (Kd.fresh' (Kd.N_lt (by (with_reducible repeat (first | apply Kd.N_alloc | apply Kd.N_drewN | apply Kd.N_drew)); exact HO_13.out)) k_ hk_.2.1)⟩)) (below_size (by repeat (first | (with_reducible first | exact HB.out | apply below_alloc | apply pw_below_drewN | apply below_drew1) | exact HB.out)))); have n4_ := Aside0.mk (below_step (by repeat (first | (with_reducible first | exact HB.out | apply below_alloc | apply pw_below_drewN | apply below_drew1) | exact HB.out)) hb); clear HO_8; clear HO_9; clear HO_13; clear HB; have HO_8 := n0_; have HO_9 := n1_; have HO_13 := n2_; have HO325 := n3_; have HB := n4_; clear n0_ n1_ n2_ n3_ n4_; (try clear hb); (try clear hb2); (try clear hk); (try clear hi); (try clear ho0); have q86 : (x15_2 : Int) ≤ ((x9_1.length : Int) : Int) := of_decide_eq_true (by first | (with_reducible assumption) | assumption); obtain ⟨i086, hi086, _, hsz86, _⟩ := info_parts info24; have hroom86 : x9_1.length ≤ co84 := (Kd.N_reads' HO_9.out).2.1; have hC86 : Kd.F k24 _ _ Ao84 x9_1.length x9_1 := (Kd.V_at (base := w.heap.size) (Kd.N_V HO_9.out)).2.2; have hcut86 := cut_to (P := Try.prog) 29 24 .i64 Try.underlying29 hi086 Ao84 x9_1.length co84 x15_2 (of_decide_eq_true (by first | (with_reducible assumption) | assumption)) q86 hroom86; have hr86 := Kd.F_take (m := (x15_2 : Int).toNat) hC86 (by omega); have hy86 : y326.length = (x15_2 : Int).toNat := (by rw [Ny326.out, List.length_take]; omega); rw [← Ny326.out] at hr86; rw [← hy86] at hcut86; have HO330 := Aside0.mk (show Kd.V k24 24 _ w.heap.size _ (.slice Ao84 y326.length co84) y326 from Kd.V_mk (by omega) hr86); have HC330 := Aside0.mk (show y326.length ≤ co84 from by omega); clear hr86 hC86 hroom86 hi086 hsz86; have KY86 := Aside0.mk hy86; clear hy86; replace q86 := eq_true q86; obtain ⟨Ao87, co87, eo87⟩ := Kd.N_slice HO_13.out; subst eo87) | (go_at_call 18; (with_reducible refine (governorref03_Same.calls _ _ t305 _ _ y326 true _ ?side1 ?side2 ?side3 ?side4 A74.out).mono ?_); (case side1 => repeat (first | exact (Kd.N_reads' HO_13.out).2.2 | (with_reducible refine Kd.C_alloc ?_ _) | (with_reducible refine Kd.C_drewN ?_ _) | (with_reducible refine Kd.C_drew ?_))); (case side2 => exact (Kd.N_reads' HO_13.out).2.1); (case side3 => repeat (first | exact (Kd.V_reads' HO330.out).2.2 | (with_reducible refine Kd.C_alloc ?_ _) | (with_reducible refine Kd.C_drewN ?_ _) | (with_reducible refine Kd.C_drew ?_))); (case side4 => exact (Kd.V_reads' HO330.out).2.1); rintro e w' ⟨rfl, ⟨nd, rfl⟩⟩; obtain ⟨Ao88, co88, eo88⟩ := Kd.N_slice HO325.out; subst eo88) | (go_at_call 18; (with_reducible refine (governorref03_Same.calls _ _ t322 _ _ x9_1 false _ ?side1 ?side2 ?side3 ?side4 A77.out).mono ?_); (case side1 => repeat (first | exact (Kd.N_reads' HO325.out).2.2 | (with_reducible refine Kd.C_alloc ?_ _) | (with_reducible refine Kd.C_drewN ?_ _) | (with_reducible refine Kd.C_drew ?_))); (case side2 => exact (Kd.N_reads' HO325.out).2.1); (case side3 => repeat (first | exact (Kd.N_reads' HO_9.out).2.2 | (with_reducible refine Kd.C_alloc ?_ _) | (with_reducible refine Kd.C_drewN ?_ _) | (with_reducible refine Kd.C_drew ?_))); (case side4 => exact (Kd.N_reads' HO_9.out).2.1); rintro e w' ⟨rfl, ⟨nd, rfl⟩⟩))
                                  go_ret
                                  exact ⟨by first | rfl | (simp [errW_none, errW_some] <;> rfl) | (simp only [← hji30]; first | rfl | (simp [errW_none, errW_some] <;> rfl)) | (simp [*, errW_none, errW_some] <;> rfl), by repeat (first | (with_reducible first | exact HB.out | apply below_alloc | apply pw_below_drewN | apply below_drew1) | exact HB.out)⟩
                              · rw [if_neg c76] at H
                                have c76b0 : (t306 == x16_2) = false := beq_eq_false_iff_ne.mpr c76
                                have c76b1 : (t306 != x16_2) = true := bne_iff_ne.mpr c76
                                obtain rfl := Option.some.inj H
                                obtain ⟨Ao89, co89, eo89⟩ := Kd.N_slice HO_9.out
                                subst eo89
                                go_wp2_with (first | ((with_reducible refine gate_callee (f := 12) rfl ?_); refine goesL_ (some 104) rfl rfl Try.func12 (by kernel_rfl) rfl #[.slice Ao34 x8_1.length co34, .int .i64 (wrap64 (a1))] rfl (by (try simp only [List.map_toArray, List.map_cons, List.map_nil]); first | done | rfl | (simp only [List.length_drop, List.length_take]; rfl)) ?_; (with_reducible refine (frame_Scan.calls k2 _ _ x8_1 (wrap64 (a1)) t322 t323 _ ?side1 ?side2 A70.out).mono ?_); (case side1 => repeat (first | exact (Kd.R_reads' HO_8.out).2.2 | (with_reducible refine Kd.C_alloc ?_ _) | (with_reducible refine Kd.C_drewN ?_ _) | (with_reducible refine Kd.C_drew ?_))); (case side2 => exact (Kd.R_reads' HO_8.out).2.1); rintro e w90 ⟨v324, rfl, ho0, hb⟩; refine ⟨_, rfl, ?_⟩; have n0_ := Aside0.mk (Kd.R_below (by (with_reducible repeat (first | apply Kd.R_alloc | apply Kd.R_drewN | apply Kd.R_drew)); exact HO_8.out) hb); have n1_ := Aside0.mk (Kd.N_elder' (by (with_reducible repeat (first | apply Kd.N_alloc | apply Kd.N_drewN | apply Kd.N_drew)); exact HO_9.out) (Kd.N_base (Kd.S_N ho0)) hb); have n2_ := Aside0.mk (Kd.N_elder' (by (with_reducible repeat (first | apply Kd.N_alloc | apply Kd.N_drewN | apply Kd.N_drew)); exact HO_13.out) (Kd.N_base (Kd.S_N ho0)) hb); have n3_ := Aside0.mk (Kd.N_lower (Kd.N_mono (ok' := fun k_ => (P0_ k_ ∨ w.heap.size ≤ k_) ∧ some k_ ≠ (.slice Ao34 x8_1.length co34 : Value).ownBlock ∧ some k_ ≠ (.slice Ao89 x9_1.length co89 : Value).ownBlock ∧ some k_ ≠ (v307 : Value).ownBlock) (Kd.S_N (Kd.S_bound ho0)) (fun k_ hk_ => ⟨(.inr (Nat.le_trans (below_size (by repeat (first | (with_reducible first | exact HB.out | apply below_alloc | apply pw_below_drewN | apply below_drew1) | exact HB.out))) hk_.2.1)), (Kd.fresh' (Kd.R_lt (by (with_reducible repeat (first | apply Kd.R_alloc | apply Kd.R_drewN | apply Kd.R_drew)); exact HO_8.out)) k_ hk_.2.1), (Kd.fresh' (Kd.N_lt (by (with_reducible repeat (first | apply Kd.N_alloc | apply Kd.N_drewN | apply Kd.N_drew)); exact HO_9.out)) k_ hk_.2.1), (Kd.fresh' (Kd.N_lt (by (with_reducible repeat (first | apply Kd.N_alloc | apply Kd.N_drewN | apply Kd.N_drew)); exact HO_13.out)) k_ hk_.2.1)⟩)) (below_size (by repeat (first | (with_reducible first | exact HB.out | apply below_alloc | apply pw_below_drewN | apply below_drew1) | exact HB.out)))); have n4_ := Aside0.mk (below_step (by repeat (first | (with_reducible first | exact HB.out | apply below_alloc | apply pw_below_drewN | apply below_drew1) | exact HB.out)) hb); clear HO_8; clear HO_9; clear HO_13; clear HB; have HO_8 := n0_; have HO_9 := n1_; have HO_13 := n2_; have HO325 := n3_; have HB := n4_; clear n0_ n1_ n2_ n3_ n4_; (try clear hb); (try clear hb2); (try clear hk); (try clear hi); (try clear ho0); have q91 : (x15_2 : Int) ≤ ((x9_1.length : Int) : Int) := of_decide_eq_true (by first | (with_reducible assumption) | assumption); obtain ⟨i091, hi091, _, hsz91, _⟩ := info_parts info24; have hroom91 : x9_1.length ≤ co89 := (Kd.N_reads' HO_9.out).2.1; have hC91 : Kd.F k24 _ _ Ao89 x9_1.length x9_1 := (Kd.V_at (base := w.heap.size) (Kd.N_V HO_9.out)).2.2; have hcut91 := cut_to (P := Try.prog) 29 24 .i64 Try.underlying29 hi091 Ao89 x9_1.length co89 x15_2 (of_decide_eq_true (by first | (with_reducible assumption) | assumption)) q91 hroom91; have hr91 := Kd.F_take (m := (x15_2 : Int).toNat) hC91 (by omega); have hy91 : y326.length = (x15_2 : Int).toNat := (by rw [Ny326.out, List.length_take]; omega); rw [← Ny326.out] at hr91; rw [← hy91] at hcut91; have HO330 := Aside0.mk (show Kd.V k24 24 _ w.heap.size _ (.slice Ao89 y326.length co89) y326 from Kd.V_mk (by omega) hr91); have HC330 := Aside0.mk (show y326.length ≤ co89 from by omega); clear hr91 hC91 hroom91 hi091 hsz91; have KY91 := Aside0.mk hy91; clear hy91; replace q91 := eq_true q91; obtain ⟨Ao92, co92, eo92⟩ := Kd.N_slice HO_13.out; subst eo92) | (go_at_call 18; (with_reducible refine (governorref03_Same.calls _ _ t305 _ _ y326 true _ ?side1 ?side2 ?side3 ?side4 A74.out).mono ?_); (case side1 => repeat (first | exact (Kd.N_reads' HO_13.out).2.2 | (with_reducible refine Kd.C_alloc ?_ _) | (with_reducible refine Kd.C_drewN ?_ _) | (with_reducible refine Kd.C_drew ?_))); (case side2 => exact (Kd.N_reads' HO_13.out).2.1); (case side3 => repeat (first | exact (Kd.V_reads' HO330.out).2.2 | (with_reducible refine Kd.C_alloc ?_ _) | (with_reducible refine Kd.C_drewN ?_ _) | (with_reducible refine Kd.C_drew ?_))); (case side4 => exact (Kd.V_reads' HO330.out).2.1); rintro e w' ⟨rfl, ⟨nd, rfl⟩⟩))
                                go_ret
                                exact ⟨by first | rfl | (simp [errW_none, errW_some] <;> rfl) | (simp only [← hji30]; first | rfl | (simp [errW_none, errW_some] <;> rfl)) | (simp [*, errW_none, errW_some] <;> rfl), by repeat (first | (with_reducible first | exact HB.out | apply below_alloc | apply pw_below_drewN | apply below_drew1) | exact HB.out)⟩
                            · replace c75 := Bool.eq_false_iff.mpr c75
                              subst c75
                              have H1 : (some false) = some r := by rw [if_neg (show ¬ (false = true) by decide)] at H; exact H
                              clear H
                              have H := H1
                              clear H1
                              obtain rfl := Option.some.inj H
                              obtain ⟨Ao93, co93, eo93⟩ := Kd.N_slice HO_9.out
                              subst eo93
                              go_wp2_with (first | ((with_reducible refine gate_callee (f := 12) rfl ?_); refine goesL_ (some 104) rfl rfl Try.func12 (by kernel_rfl) rfl #[.slice Ao34 x8_1.length co34, .int .i64 (wrap64 (a1))] rfl (by (try simp only [List.map_toArray, List.map_cons, List.map_nil]); first | done | rfl | (simp only [List.length_drop, List.length_take]; rfl)) ?_; (with_reducible refine (frame_Scan.calls k2 _ _ x8_1 (wrap64 (a1)) t322 t323 _ ?side1 ?side2 A70.out).mono ?_); (case side1 => repeat (first | exact (Kd.R_reads' HO_8.out).2.2 | (with_reducible refine Kd.C_alloc ?_ _) | (with_reducible refine Kd.C_drewN ?_ _) | (with_reducible refine Kd.C_drew ?_))); (case side2 => exact (Kd.R_reads' HO_8.out).2.1); rintro e w94 ⟨v324, rfl, ho0, hb⟩; refine ⟨_, rfl, ?_⟩; have n0_ := Aside0.mk (Kd.R_below (by (with_reducible repeat (first | apply Kd.R_alloc | apply Kd.R_drewN | apply Kd.R_drew)); exact HO_8.out) hb); have n1_ := Aside0.mk (Kd.N_elder' (by (with_reducible repeat (first | apply Kd.N_alloc | apply Kd.N_drewN | apply Kd.N_drew)); exact HO_9.out) (Kd.N_base (Kd.S_N ho0)) hb); have n2_ := Aside0.mk (Kd.N_elder' (by (with_reducible repeat (first | apply Kd.N_alloc | apply Kd.N_drewN | apply Kd.N_drew)); exact HO_13.out) (Kd.N_base (Kd.S_N ho0)) hb); have n3_ := Aside0.mk (Kd.N_lower (Kd.N_mono (ok' := fun k_ => (P0_ k_ ∨ w.heap.size ≤ k_) ∧ some k_ ≠ (.slice Ao34 x8_1.length co34 : Value).ownBlock ∧ some k_ ≠ (.slice Ao93 x9_1.length co93 : Value).ownBlock ∧ some k_ ≠ (v307 : Value).ownBlock) (Kd.S_N (Kd.S_bound ho0)) (fun k_ hk_ => ⟨(.inr (Nat.le_trans (below_size (by repeat (first | (with_reducible first | exact HB.out | apply below_alloc | apply pw_below_drewN | apply below_drew1) | exact HB.out))) hk_.2.1)), (Kd.fresh' (Kd.R_lt (by (with_reducible repeat (first | apply Kd.R_alloc | apply Kd.R_drewN | apply Kd.R_drew)); exact HO_8.out)) k_ hk_.2.1), (Kd.fresh' (Kd.N_lt (by (with_reducible repeat (first | apply Kd.N_alloc | apply Kd.N_drewN | apply Kd.N_drew)); exact HO_9.out)) k_ hk_.2.1), (Kd.fresh' (Kd.N_lt (by (with_reducible repeat (first | apply Kd.N_alloc | apply Kd.N_drewN | apply Kd.N_drew)); exact HO_13.out)) k_ hk_.2.1)⟩)) (below_size (by repeat (first | (with_reducible first | exact HB.out | apply below_alloc | apply pw_below_drewN | apply below_drew1) | exact HB.out)))); have n4_ := Aside0.mk (below_step (by repeat (first | (with_reducible first | exact HB.out | apply below_alloc | apply pw_below_drewN | apply below_drew1) | exact HB.out)) hb); clear HO_8; clear HO_9; clear HO_13; clear HB; have HO_8 := n0_; have HO_9 := n1_; have HO_13 := n2_; have HO325 := n3_; have HB := n4_; clear n0_ n1_ n2_ n3_ n4_; (try clear hb); (try clear hb2); (try clear hk); (try clear hi); (try clear ho0); have q95 : (x15_2 : Int) ≤ ((x9_1.length : Int) : Int) := of_decide_eq_true (by first | (with_reducible assumption) | assumption); obtain ⟨i095, hi095, _, hsz95, _⟩ := info_parts info24; have hroom95 : x9_1.length ≤ co93 := (Kd.N_reads' HO_9.out).2.1; have hC95 : Kd.F k24 _ _ Ao93 x9_1.length x9_1 := (Kd.V_at (base := w.heap.size) (Kd.N_V HO_9.out)).2.2; have hcut95 := cut_to (P := Try.prog) 29 24 .i64 Try.underlying29 hi095 Ao93 x9_1.length co93 x15_2 (of_decide_eq_true (by first | (with_reducible assumption) | assumption)) q95 hroom95; have hr95 := Kd.F_take (m := (x15_2 : Int).toNat) hC95 (by omega); have hy95 : y326.length = (x15_2 : Int).toNat := (by rw [Ny326.out, List.length_take]; omega); rw [← Ny326.out] at hr95; rw [← hy95] at hcut95; have HO330 := Aside0.mk (show Kd.V k24 24 _ w.heap.size _ (.slice Ao93 y326.length co93) y326 from Kd.V_mk (by omega) hr95); have HC330 := Aside0.mk (show y326.length ≤ co93 from by omega); clear hr95 hC95 hroom95 hi095 hsz95; have KY95 := Aside0.mk hy95; clear hy95; replace q95 := eq_true q95; obtain ⟨Ao96, co96, eo96⟩ := Kd.N_slice HO_13.out; subst eo96) | (go_at_call 18; (with_reducible refine (governorref03_Same.calls _ _ t305 _ _ y326 false _ ?side1 ?side2 ?side3 ?side4 A74.out).mono ?_); (case side1 => repeat (first | exact (Kd.N_reads' HO_13.out).2.2 | (with_reducible refine Kd.C_alloc ?_ _) | (with_reducible refine Kd.C_drewN ?_ _) | (with_reducible refine Kd.C_drew ?_))); (case side2 => exact (Kd.N_reads' HO_13.out).2.1); (case side3 => repeat (first | exact (Kd.V_reads' HO330.out).2.2 | (with_reducible refine Kd.C_alloc ?_ _) | (with_reducible refine Kd.C_drewN ?_ _) | (with_reducible refine Kd.C_drew ?_))); (case side4 => exact (Kd.V_reads' HO330.out).2.1); rintro e w' ⟨rfl, ⟨nd, rfl⟩⟩))
                              go_ret
                              exact ⟨by first | rfl | (simp [errW_none, errW_some] <;> rfl) | (simp only [← hji30]; first | rfl | (simp [errW_none, errW_some] <;> rfl)) | (simp [*, errW_none, errW_some] <;> rfl), by repeat (first | (with_reducible first | exact HB.out | apply below_alloc | apply pw_below_drewN | apply below_drew1) | exact HB.out)⟩
                          · rw [if_neg c73] at H
                            exact absurd H (by simp)
                        · rw [if_neg c72] at H
                          exact absurd H (by simp)
                      · replace c71 := Bool.eq_false_iff.mpr c71
                        subst c71
                        have H1 : (some false) = some r := by rw [if_neg (show ¬ (false = true) by decide)] at H; exact H
                        clear H
                        have H := H1
                        clear H1
                        obtain rfl := Option.some.inj H
                        obtain ⟨Ao97, co97, eo97⟩ := Kd.N_slice HO_9.out
                        subst eo97
                        go_wp2_with (first | ((with_reducible refine gate_callee (f := 12) rfl ?_); refine goesL_ (some 104) rfl rfl Try.func12 (by kernel_rfl) rfl #[.slice Ao34 x8_1.length co34, .int .i64 (wrap64 (a1))] rfl (by (try simp only [List.map_toArray, List.map_cons, List.map_nil]); first | done | rfl | (simp only [List.length_drop, List.length_take]; rfl)) ?_; (with_reducible refine (frame_Scan.calls k2 _ _ x8_1 (wrap64 (a1)) t322 t323 _ ?side1 ?side2 A70.out).mono ?_); (case side1 => repeat (first | exact (Kd.R_reads' HO_8.out).2.2 | (with_reducible refine Kd.C_alloc ?_ _) | (with_reducible refine Kd.C_drewN ?_ _) | (with_reducible refine Kd.C_drew ?_))); (case side2 => exact (Kd.R_reads' HO_8.out).2.1); rintro e w98 ⟨v324, rfl, ho0, hb⟩; refine ⟨_, rfl, ?_⟩; have n0_ := Aside0.mk (Kd.R_below (by (with_reducible repeat (first | apply Kd.R_alloc | apply Kd.R_drewN | apply Kd.R_drew)); exact HO_8.out) hb); have n1_ := Aside0.mk (Kd.N_elder' (by (with_reducible repeat (first | apply Kd.N_alloc | apply Kd.N_drewN | apply Kd.N_drew)); exact HO_9.out) (Kd.N_base (Kd.S_N ho0)) hb); have n2_ := Aside0.mk (Kd.N_elder' (by (with_reducible repeat (first | apply Kd.N_alloc | apply Kd.N_drewN | apply Kd.N_drew)); exact HO_13.out) (Kd.N_base (Kd.S_N ho0)) hb); have n3_ := Aside0.mk (Kd.N_lower (Kd.N_mono (ok' := fun k_ => (P0_ k_ ∨ w.heap.size ≤ k_) ∧ some k_ ≠ (.slice Ao34 x8_1.length co34 : Value).ownBlock ∧ some k_ ≠ (.slice Ao97 x9_1.length co97 : Value).ownBlock ∧ some k_ ≠ (v307 : Value).ownBlock) (Kd.S_N (Kd.S_bound ho0)) (fun k_ hk_ => ⟨(.inr (Nat.le_trans (below_size (by repeat (first | (with_reducible first | exact HB.out | apply below_alloc | apply pw_below_drewN | apply below_drew1) | exact HB.out))) hk_.2.1)), (Kd.fresh' (Kd.R_lt (by (with_reducible repeat (first | apply Kd.R_alloc | apply Kd.R_drewN | apply Kd.R_drew)); exact HO_8.out)) k_ hk_.2.1), (Kd.fresh' (Kd.N_lt (by (with_reducible repeat (first | apply Kd.N_alloc | apply Kd.N_drewN | apply Kd.N_drew)); exact HO_9.out)) k_ hk_.2.1), (Kd.fresh' (Kd.N_lt (by (with_reducible repeat (first | apply Kd.N_alloc | apply Kd.N_drewN | apply Kd.N_drew)); exact HO_13.out)) k_ hk_.2.1)⟩)) (below_size (by repeat (first | (with_reducible first | exact HB.out | apply below_alloc | apply pw_below_drewN | apply below_drew1) | exact HB.out)))); have n4_ := Aside0.mk (below_step (by repeat (first | (with_reducible first | exact HB.out | apply below_alloc | apply pw_below_drewN | apply below_drew1) | exact HB.out)) hb); clear HO_8; clear HO_9; clear HO_13; clear HB; have HO_8 := n0_; have HO_9 := n1_; have HO_13 := n2_; have HO325 := n3_; have HB := n4_; clear n0_ n1_ n2_ n3_ n4_; (try clear hb); (try clear hb2); (try clear hk); (try clear hi); (try clear ho0)))
                        go_ret
                        exact ⟨by first | rfl | (simp [errW_none, errW_some] <;> rfl) | (simp only [← hji30]; first | rfl | (simp [errW_none, errW_some] <;> rfl)) | (simp [*, errW_none, errW_some] <;> rfl), by repeat (first | (with_reducible first | exact HB.out | apply below_alloc | apply pw_below_drewN | apply below_drew1) | exact HB.out)⟩
              · rw [if_neg c32] at H
                exact absurd H (by simp)
            · rw [if_neg c31] at H
              exact absurd H (by simp)

end Go.Proofs.Ytgfpkgbkbempkaa.Print
