/- Functions of the program as Lean functions, and that its calls come to them; written by a program of this claim over the kit print; Lean checks it. -/
import Derived.Test.YtjekpfaldbeocaaPrint0
import Derived.Test.YtjekpfaldbeocaaPrint3
import Derived.Test.YtjekpfaldbeocaaPrint4
import Derived.Test.YtjekpfaldbeocaaPrint5
namespace Go.Proofs.Ytjekpfaldbeocaa.Print
open Go.RowKit Go.Proofs.YtjekpfaldbeocaaW.PrintWords Go.Proofs.YtjekpfaldbeocaaW.PrintLast Go.Proofs.YtjekpfaldbeocaaW.PrintMore
attribute [local go_sem] max2_int min2_int max_two min_two max_three min_three max_four min_four   -- for this text's walks alone
set_option linter.unusedVariables false
set_option linter.unusedSimpArgs false

/-! ### governorlaw17_ScoreShort: function 6 -/
mutual
def governorlaw17_ScoreShort.j0 : Nat → List (S27) → List (S27) → Bool → Bool → Int → Int → Int → Int → Int → Int → Int → Int → Int → Int → Int → Int → Option (Bool)
  | 0, _, _, _, _, _, _, _, _, _, _, _, _, _, _, _, _ => none
  | k + 1, x1, x2, x7, x24, x255000, x255001, x255002, x255003, x255004, x255005, x255006, x255007, x255008, x255009, x255010, x255011 => if x24 = true then (some x7) else (governorlaw17_ScoreShort.l0 k x1 x2 x7 0 0 x255000 x255001 x255002 x255003 x255004 x255005 x255006 x255007 x255008 x255009 x255010 x255011)
def governorlaw17_ScoreShort.l0 : Nat → List (S27) → List (S27) → Bool → Int → Int → Int → Int → Int → Int → Int → Int → Int → Int → Int → Int → Int → Int → Option (Bool)
  | 0, _, _, _, _, _, _, _, _, _, _, _, _, _, _, _, _, _ => none
  | k + 1, x1, x2, x7, x8, x9, x255000, x255001, x255002, x255003, x255004, x255005, x255006, x255007, x255008, x255009, x255010, x255011 => if x9 < (x2.length : Int) then (if 0 ≤ x9 then (if (rd_T27 x2 x9).f1 = true then (governorlaw17_ScoreShort.l0 k x1 x2 x7 (wrap64 (x8 + 1)) (wrap64 (x9 + 1)) x255000 x255001 x255002 x255003 x255004 x255005 x255006 x255007 x255008 x255009 x255010 x255011) else (governorlaw17_ScoreShort.l0 k x1 x2 x7 x8 (wrap64 (x9 + 1)) x255000 x255001 x255002 x255003 x255004 x255005 x255006 x255007 x255008 x255009 x255010 x255011)) else (none)) else (if (x1.length : Int) = x255007 then (if (x2.length : Int) = x255007 then (if x7 = true then (if x8 ≤ x255009 then (some true) else ((score_Better.f x255000 x255001 x255002 x255003 x255004 x255005 x255006 x255007 x255008 x255009 x255010 x255011 x1 x2).bind fun t260 => (some (!t260)))) else (some false)) else (if x7 = true then ((score_Better.f x255000 x255001 x255002 x255003 x255004 x255005 x255006 x255007 x255008 x255009 x255010 x255011 x1 x2).bind fun t261 => (some (!t261))) else (some false))) else (if x7 = true then ((score_Better.f x255000 x255001 x255002 x255003 x255004 x255005 x255006 x255007 x255008 x255009 x255010 x255011 x1 x2).bind fun t262 => (some (!t262))) else (some false)))
end
def governorlaw17_ScoreShort.f (k : Nat) (a0_0 : Int) (a0_1 : Int) (a0_2 : Int) (a0_3 : Int) (a0_4 : Int) (a0_5 : Int) (a0_6 : Int) (a0_7 : Int) (a0_8 : Int) (a0_9 : Int) (a0_10 : Int) (a0_11 : Int) (l1 : List (S27)) (l2 : List (S27)) : Option (Bool) := (governorlaw17_head.f k).bind fun t255 => ((governorref09_Conf.f a0_0 a0_1 a0_2 a0_3 a0_4 a0_5 a0_6 a0_7 a0_8 a0_9 a0_10 a0_11).bind fun t256 => (if t256 = true then ((governorlaw17_right.f k l1).bind fun t257 => (if t257 = true then ((governorlaw17_right.f k l2).bind fun t258 => (governorlaw17_ScoreShort.j0 k l1 l2 t255 (!t258) a0_0 a0_1 a0_2 a0_3 a0_4 a0_5 a0_6 a0_7 a0_8 a0_9 a0_10 a0_11)) else (governorlaw17_ScoreShort.j0 k l1 l2 t255 true a0_0 a0_1 a0_2 a0_3 a0_4 a0_5 a0_6 a0_7 a0_8 a0_9 a0_10 a0_11))) else (governorlaw17_ScoreShort.j0 k l1 l2 t255 true a0_0 a0_1 a0_2 a0_3 a0_4 a0_5 a0_6 a0_7 a0_8 a0_9 a0_10 a0_11)))
theorem governorlaw17_ScoreShort.mono_l : ∀ k, (∀ y0 y1 y2 y3 y4 y5 y6 y7 y8 y9 y10 y11 y12 y13 y14 y15, LeO (governorlaw17_ScoreShort.j0 k y0 y1 y2 y3 y4 y5 y6 y7 y8 y9 y10 y11 y12 y13 y14 y15) (governorlaw17_ScoreShort.j0 (k + 1) y0 y1 y2 y3 y4 y5 y6 y7 y8 y9 y10 y11 y12 y13 y14 y15)) ∧ (∀ y0 y1 y2 y3 y4 y5 y6 y7 y8 y9 y10 y11 y12 y13 y14 y15 y16, LeO (governorlaw17_ScoreShort.l0 k y0 y1 y2 y3 y4 y5 y6 y7 y8 y9 y10 y11 y12 y13 y14 y15 y16) (governorlaw17_ScoreShort.l0 (k + 1) y0 y1 y2 y3 y4 y5 y6 y7 y8 y9 y10 y11 y12 y13 y14 y15 y16))
  | 0 => ⟨fun _ _ _ _ _ _ _ _ _ _ _ _ _ _ _ _ r h => by simp [governorlaw17_ScoreShort.j0] at h, fun _ _ _ _ _ _ _ _ _ _ _ _ _ _ _ _ _ r h => by simp [governorlaw17_ScoreShort.l0] at h⟩
  | k + 1 => by
    obtain ⟨ih0, ih1⟩ := governorlaw17_ScoreShort.mono_l k
    refine ⟨?_, ?_⟩
    · intro y0 y1 y2 y3 y4 y5 y6 y7 y8 y9 y10 y11 y12 y13 y14 y15
      unfold governorlaw17_ScoreShort.j0
      repeat' first
      | (with_reducible exact ih0 _ _ _ _ _ _ _ _ _ _ _ _ _ _ _ _)
      | (with_reducible exact ih1 _ _ _ _ _ _ _ _ _ _ _ _ _ _ _ _ _)
      | (with_reducible exact governorlaw17_head.mono _)
      | (with_reducible exact governorlaw17_right.mono _ _)
      | (with_reducible exact LeO.refl _)
      | (with_reducible exact LeO.none _)
      | (with_reducible refine LeO.ite ?_ ?_)
      | (with_reducible refine LeO.bind ?_ (fun _ => ?_))
      | exact ih0 _ _ _ _ _ _ _ _ _ _ _ _ _ _ _ _
      | exact ih1 _ _ _ _ _ _ _ _ _ _ _ _ _ _ _ _ _
      | exact governorlaw17_head.mono _
      | exact governorlaw17_right.mono _ _
      | exact LeO.none _
      | refine LeO.ite ?_ ?_
      | refine LeO.bind ?_ (fun _ => ?_)
    · intro y0 y1 y2 y3 y4 y5 y6 y7 y8 y9 y10 y11 y12 y13 y14 y15 y16
      unfold governorlaw17_ScoreShort.l0
      repeat' first
      | (with_reducible exact ih0 _ _ _ _ _ _ _ _ _ _ _ _ _ _ _ _)
      | (with_reducible exact ih1 _ _ _ _ _ _ _ _ _ _ _ _ _ _ _ _ _)
      | (with_reducible exact governorlaw17_head.mono _)
      | (with_reducible exact governorlaw17_right.mono _ _)
      | (with_reducible exact LeO.refl _)
      | (with_reducible exact LeO.none _)
      | (with_reducible refine LeO.ite ?_ ?_)
      | (with_reducible refine LeO.bind ?_ (fun _ => ?_))
      | exact ih0 _ _ _ _ _ _ _ _ _ _ _ _ _ _ _ _
      | exact ih1 _ _ _ _ _ _ _ _ _ _ _ _ _ _ _ _ _
      | exact governorlaw17_head.mono _
      | exact governorlaw17_right.mono _ _
      | exact LeO.none _
      | refine LeO.ite ?_ ?_
      | refine LeO.bind ?_ (fun _ => ?_)
theorem governorlaw17_ScoreShort.mono : ∀ a0 a1 a2 a3 a4 a5 a6 a7 a8 a9 a10 a11 a12 a13 k, LeO (governorlaw17_ScoreShort.f k a0 a1 a2 a3 a4 a5 a6 a7 a8 a9 a10 a11 a12 a13) (governorlaw17_ScoreShort.f (k + 1) a0 a1 a2 a3 a4 a5 a6 a7 a8 a9 a10 a11 a12 a13) := by
  intro a0 a1 a2 a3 a4 a5 a6 a7 a8 a9 a10 a11 a12 a13 k
  obtain ⟨ih0, ih1⟩ := governorlaw17_ScoreShort.mono_l k
  unfold governorlaw17_ScoreShort.f
  repeat' first
      | (with_reducible exact ih0 _ _ _ _ _ _ _ _ _ _ _ _ _ _ _ _)
      | (with_reducible exact ih1 _ _ _ _ _ _ _ _ _ _ _ _ _ _ _ _ _)
      | (with_reducible exact governorlaw17_head.mono _)
      | (with_reducible exact governorlaw17_right.mono _ _)
      | (with_reducible exact LeO.refl _)
      | (with_reducible exact LeO.none _)
      | (with_reducible refine LeO.ite ?_ ?_)
      | (with_reducible refine LeO.bind ?_ (fun _ => ?_))
      | exact ih0 _ _ _ _ _ _ _ _ _ _ _ _ _ _ _ _
      | exact ih1 _ _ _ _ _ _ _ _ _ _ _ _ _ _ _ _ _
      | exact governorlaw17_head.mono _
      | exact governorlaw17_right.mono _ _
      | exact LeO.none _
      | refine LeO.ite ?_ ?_
      | refine LeO.bind ?_ (fun _ => ?_)
set_option maxHeartbeats 8000000 in
set_option maxRecDepth 100000 in
theorem governorlaw17_ScoreShort.calls (k : Nat) (a0_0 : Int) (a0_1 : Int) (a0_2 : Int) (a0_3 : Int) (a0_4 : Int) (a0_5 : Int) (a0_6 : Int) (a0_7 : Int) (a0_8 : Int) (a0_9 : Int) (a0_10 : Int) (a0_11 : Int) (A1 : Option Addr) (c1 : Nat) (l1 : List (S27)) (A2 : Option Addr) (c2 : Nat) (l2 : List (S27)) (r : Bool) (w : World) (hr1 : Kd.C k27 w A1 l1.length l1) (hc1 : l1.length ≤ c1) (hr2 : Kd.C k27 w A2 l2.length l2) (hc2 : l2.length ≤ c2) (h : governorlaw17_ScoreShort.f k a0_0 a0_1 a0_2 a0_3 a0_4 a0_5 a0_6 a0_7 a0_8 a0_9 a0_10 a0_11 l1 l2 = some r) :
    Calls Try.prog 6 #[.agg #[.int .i64 a0_0, .int .i64 a0_1, .int .i64 a0_2, .int .i64 a0_3, .int .i64 a0_4, .int .i64 a0_5, .int .i64 a0_6, .int .i64 a0_7, .int .i64 a0_8, .int .i64 a0_9, .int .i64 a0_10, .int .i64 a0_11], .slice A1 l1.length c1, .slice A2 l2.length c2] w fun e w' => e = .returned (.bool r) ∧ Below w.heap.size w w' := by
  have hu33 := Try.underlying33
  have HR1 := Aside0.mk hr1
  have HC1 := Aside0.mk hc1
  clear hr1 hc1
  have HR2 := Aside0.mk hr2
  have HC2 := Aside0.mk hc2
  clear hr2 hc2
  have HB := Aside0.mk (Below.refl w.heap.size w)
  have H : ((governorlaw17_head.f k).bind fun t255 => ((governorref09_Conf.f a0_0 a0_1 a0_2 a0_3 a0_4 a0_5 a0_6 a0_7 a0_8 a0_9 a0_10 a0_11).bind fun t256 => (if t256 = true then ((governorlaw17_right.f k l1).bind fun t257 => (if t257 = true then ((governorlaw17_right.f k l2).bind fun t258 => (governorlaw17_ScoreShort.j0 k l1 l2 t255 (!t258) a0_0 a0_1 a0_2 a0_3 a0_4 a0_5 a0_6 a0_7 a0_8 a0_9 a0_10 a0_11)) else (governorlaw17_ScoreShort.j0 k l1 l2 t255 true a0_0 a0_1 a0_2 a0_3 a0_4 a0_5 a0_6 a0_7 a0_8 a0_9 a0_10 a0_11))) else (governorlaw17_ScoreShort.j0 k l1 l2 t255 true a0_0 a0_1 a0_2 a0_3 a0_4 a0_5 a0_6 a0_7 a0_8 a0_9 a0_10 a0_11)))) = some r := h
  clear h
  replace H := Option.bind_eq_some_iff.mp H
  obtain ⟨t255, A40, H⟩ := H
  replace H : ((governorref09_Conf.f a0_0 a0_1 a0_2 a0_3 a0_4 a0_5 a0_6 a0_7 a0_8 a0_9 a0_10 a0_11).bind fun t256 => (if t256 = true then ((governorlaw17_right.f k l1).bind fun t257 => (if t257 = true then ((governorlaw17_right.f k l2).bind fun t258 => (governorlaw17_ScoreShort.j0 k l1 l2 t255 (!t258) a0_0 a0_1 a0_2 a0_3 a0_4 a0_5 a0_6 a0_7 a0_8 a0_9 a0_10 a0_11)) else (governorlaw17_ScoreShort.j0 k l1 l2 t255 true a0_0 a0_1 a0_2 a0_3 a0_4 a0_5 a0_6 a0_7 a0_8 a0_9 a0_10 a0_11))) else (governorlaw17_ScoreShort.j0 k l1 l2 t255 true a0_0 a0_1 a0_2 a0_3 a0_4 a0_5 a0_6 a0_7 a0_8 a0_9 a0_10 a0_11))) = some r := H
  have A4 := Aside0.mk A40
  clear A40
  have HC5 := Aside0.mk H
  clear H
  go_enter Try.func6, Try.ntmps6
  go_upto_region 2 with (first | ((with_reducible refine gate_dst (N := 3) rfl ?_); (try (refine gate_guard (by rfl) ?_; dsimp only)); refine box_event ?hg (N := 3) ?hd (cs := #[.int .i64 a0_0, .int .i64 a0_1, .int .i64 a0_2, .int .i64 a0_3, .int .i64 a0_4, .int .i64 a0_5, .int .i64 a0_6, .int .i64 a0_7, .int .i64 a0_8, .int .i64 a0_9, .int .i64 a0_10, .int .i64 a0_11]) (t := 33) ?hr ?_; (case hd => rfl); (case hg => rfl); (case hr => first | (go_simp; done) | (go_simp; rfl)); intro gb254 hg w6 hbox hb; have n0_ := Aside0.mk (below_step (by repeat (first | (with_reducible first | exact HB.out | apply below_alloc | apply pw_below_drewN | apply below_drew1) | exact HB.out)) hb); have n1_ := Aside0.mk (hbox); have n2_ := Aside0.mk ((by rw [hg]; exact (below_size (by repeat (first | (with_reducible first | exact HB.out | apply below_alloc | apply pw_below_drewN | apply below_drew1) | exact HB.out))) : w.heap.size ≤ gb254)); have n3_ := Aside0.mk ((by rw [hg]; exact (below_size (by repeat (first | (with_reducible first | exact HB.out | apply below_alloc | apply pw_below_drewN | apply below_drew1) | exact HB.out))) : w.heap.size ≤ gb254)); clear HB; have HB := n0_; have BK254 := n1_; have GW254 := n2_; have GE254 := n3_; clear n0_ n1_ n2_ n3_; clear hb hbox hg) | ((with_reducible refine gate_callee (f := 7) rfl ?_); refine goesL_ (some 11) rfl rfl Try.func7 (by kernel_rfl) rfl #[] rfl (by (try simp only [List.map_toArray, List.map_cons, List.map_nil]); first | done | rfl | (simp only [List.length_drop, List.length_take]; rfl)) ?_; (with_reducible refine (governorlaw17_head.calls k  t255 _ A4.out).mono ?_); rintro e w7 ⟨rfl, hb⟩; refine ⟨_, rfl, ?_⟩; have n0_ := Aside0.mk (blk_below (g := gb254) (o := .cells #[.int .i64 a0_0, .int .i64 a0_1, .int .i64 a0_2, .int .i64 a0_3, .int .i64 a0_4, .int .i64 a0_5, .int .i64 a0_6, .int .i64 a0_7, .int .i64 a0_8, .int .i64 a0_9, .int .i64 a0_10, .int .i64 a0_11] 33 (0, 0)) (by (with_reducible repeat (first | refine blk_drewN ?_ _ | refine blk_drew ?_ | refine blk_alloc ?_ _)); exact BK254.out) hb); have n1_ := Aside0.mk (below_step (by repeat (first | (with_reducible first | exact HB.out | apply below_alloc | apply pw_below_drewN | apply below_drew1 | refine below_set ?_ GE254.out) | exact HB.out)) hb); clear BK254; clear HB; have BK254 := n0_; have HB := n1_; clear n0_ n1_; (try clear hb); (try clear hb2); (try clear hk); (try clear hi)))
  (try simp only [Act.put, List.setIfInBounds_toArray, List.set_cons_zero, List.set_cons_succ])
  go_cut [24] (fun v24 wc => ∃ (kq : Nat) (x24_4 : Bool), v24 = .bool x24_4 ∧ Aside0 (governorlaw17_ScoreShort.j0 kq l1 l2 t255 x24_4 a0_0 a0_1 a0_2 a0_3 a0_4 a0_5 a0_6 a0_7 a0_8 a0_9 a0_10 a0_11 = some r) ∧ Aside0 (kq ≤ k) ∧ Aside0 (wc.heap[gb254]? = some (.cells #[.int .i64 a0_0, .int .i64 a0_1, .int .i64 a0_2, .int .i64 a0_3, .int .i64 a0_4, .int .i64 a0_5, .int .i64 a0_6, .int .i64 a0_7, .int .i64 a0_8, .int .i64 a0_9, .int .i64 a0_10, .int .i64 a0_11] 33 (0, 0))) ∧ Aside0 (Below w.heap.size w wc))
  case first =>
    have H := HC5.out
    clear HC5
    replace H := Option.bind_eq_some_iff.mp H
    obtain ⟨t256, A80, H⟩ := H
    replace H : (if t256 = true then ((governorlaw17_right.f k l1).bind fun t257 => (if t257 = true then ((governorlaw17_right.f k l2).bind fun t258 => (governorlaw17_ScoreShort.j0 k l1 l2 t255 (!t258) a0_0 a0_1 a0_2 a0_3 a0_4 a0_5 a0_6 a0_7 a0_8 a0_9 a0_10 a0_11)) else (governorlaw17_ScoreShort.j0 k l1 l2 t255 true a0_0 a0_1 a0_2 a0_3 a0_4 a0_5 a0_6 a0_7 a0_8 a0_9 a0_10 a0_11))) else (governorlaw17_ScoreShort.j0 k l1 l2 t255 true a0_0 a0_1 a0_2 a0_3 a0_4 a0_5 a0_6 a0_7 a0_8 a0_9 a0_10 a0_11)) = some r := H
    have A8 := Aside0.mk A80
    clear A80
    by_cases c9 : t256 = true
    · subst c9
      have H1 : ((governorlaw17_right.f k l1).bind fun t257 => (if t257 = true then ((governorlaw17_right.f k l2).bind fun t258 => (governorlaw17_ScoreShort.j0 k l1 l2 t255 (!t258) a0_0 a0_1 a0_2 a0_3 a0_4 a0_5 a0_6 a0_7 a0_8 a0_9 a0_10 a0_11)) else (governorlaw17_ScoreShort.j0 k l1 l2 t255 true a0_0 a0_1 a0_2 a0_3 a0_4 a0_5 a0_6 a0_7 a0_8 a0_9 a0_10 a0_11))) = some r := by rw [if_pos rfl] at H; exact H
      clear H
      have H := H1
      clear H1
      replace H := Option.bind_eq_some_iff.mp H
      obtain ⟨t257, A100, H⟩ := H
      replace H : (if t257 = true then ((governorlaw17_right.f k l2).bind fun t258 => (governorlaw17_ScoreShort.j0 k l1 l2 t255 (!t258) a0_0 a0_1 a0_2 a0_3 a0_4 a0_5 a0_6 a0_7 a0_8 a0_9 a0_10 a0_11)) else (governorlaw17_ScoreShort.j0 k l1 l2 t255 true a0_0 a0_1 a0_2 a0_3 a0_4 a0_5 a0_6 a0_7 a0_8 a0_9 a0_10 a0_11)) = some r := H
      have A10 := Aside0.mk A100
      clear A100
      by_cases c11 : t257 = true
      · subst c11
        have H1 : ((governorlaw17_right.f k l2).bind fun t258 => (governorlaw17_ScoreShort.j0 k l1 l2 t255 (!t258) a0_0 a0_1 a0_2 a0_3 a0_4 a0_5 a0_6 a0_7 a0_8 a0_9 a0_10 a0_11)) = some r := by rw [if_pos rfl] at H; exact H
        clear H
        have H := H1
        clear H1
        replace H := Option.bind_eq_some_iff.mp H
        obtain ⟨t258, A120, H⟩ := H
        replace H : (governorlaw17_ScoreShort.j0 k l1 l2 t255 (!t258) a0_0 a0_1 a0_2 a0_3 a0_4 a0_5 a0_6 a0_7 a0_8 a0_9 a0_10 a0_11) = some r := H
        have A12 := Aside0.mk A120
        clear A120
        have H' := Aside0.mk H
        clear H
        have hcz13_0 : w7.cell? ⟨gb254, 0, none⟩ = some (.int .i64 a0_0) := (blk_cell BK254.out 0).trans rfl
        have hcz13_1 : w7.cell? ⟨gb254, 1, none⟩ = some (.int .i64 a0_1) := (blk_cell BK254.out 1).trans rfl
        have hcz13_2 : w7.cell? ⟨gb254, 2, none⟩ = some (.int .i64 a0_2) := (blk_cell BK254.out 2).trans rfl
        have hcz13_3 : w7.cell? ⟨gb254, 3, none⟩ = some (.int .i64 a0_3) := (blk_cell BK254.out 3).trans rfl
        have hcz13_4 : w7.cell? ⟨gb254, 4, none⟩ = some (.int .i64 a0_4) := (blk_cell BK254.out 4).trans rfl
        have hcz13_5 : w7.cell? ⟨gb254, 5, none⟩ = some (.int .i64 a0_5) := (blk_cell BK254.out 5).trans rfl
        have hcz13_6 : w7.cell? ⟨gb254, 6, none⟩ = some (.int .i64 a0_6) := (blk_cell BK254.out 6).trans rfl
        have hcz13_7 : w7.cell? ⟨gb254, 7, none⟩ = some (.int .i64 a0_7) := (blk_cell BK254.out 7).trans rfl
        have hcz13_8 : w7.cell? ⟨gb254, 8, none⟩ = some (.int .i64 a0_8) := (blk_cell BK254.out 8).trans rfl
        have hcz13_9 : w7.cell? ⟨gb254, 9, none⟩ = some (.int .i64 a0_9) := (blk_cell BK254.out 9).trans rfl
        have hcz13_10 : w7.cell? ⟨gb254, 10, none⟩ = some (.int .i64 a0_10) := (blk_cell BK254.out 10).trans rfl
        have hcz13_11 : w7.cell? ⟨gb254, 11, none⟩ = some (.int .i64 a0_11) := (blk_cell BK254.out 11).trans rfl
        have hfz13_0 := blk_frozen BK254.out 0
        have hfz13_1 := blk_frozen BK254.out 1
        have hfz13_2 := blk_frozen BK254.out 2
        have hfz13_3 := blk_frozen BK254.out 3
        have hfz13_4 := blk_frozen BK254.out 4
        have hfz13_5 := blk_frozen BK254.out 5
        have hfz13_6 := blk_frozen BK254.out 6
        have hfz13_7 := blk_frozen BK254.out 7
        have hfz13_8 := blk_frozen BK254.out 8
        have hfz13_9 := blk_frozen BK254.out 9
        have hfz13_10 := blk_frozen BK254.out 10
        have hfz13_11 := blk_frozen BK254.out 11
        go_wp2_with (first | ((with_reducible refine gate_callee (f := 13) rfl ?_); refine goesL_ (some 13) rfl rfl Try.func13 (by kernel_rfl) rfl #[.agg #[.int .i64 a0_0, .int .i64 a0_1, .int .i64 a0_2, .int .i64 a0_3, .int .i64 a0_4, .int .i64 a0_5, .int .i64 a0_6, .int .i64 a0_7, .int .i64 a0_8, .int .i64 a0_9, .int .i64 a0_10, .int .i64 a0_11]] rfl (by (try simp only [List.map_toArray, List.map_cons, List.map_nil]); first | done | rfl | (simp only [List.length_drop, List.length_take]; rfl)) ?_; (with_reducible refine (governorref09_Conf.calls a0_0 a0_1 a0_2 a0_3 a0_4 a0_5 a0_6 a0_7 a0_8 a0_9 a0_10 a0_11 true _ A8.out).mono ?_); rintro e w14 ⟨rfl, hb⟩; refine ⟨_, rfl, ?_⟩; have n0_ := Aside0.mk (blk_below (g := gb254) (o := .cells #[.int .i64 a0_0, .int .i64 a0_1, .int .i64 a0_2, .int .i64 a0_3, .int .i64 a0_4, .int .i64 a0_5, .int .i64 a0_6, .int .i64 a0_7, .int .i64 a0_8, .int .i64 a0_9, .int .i64 a0_10, .int .i64 a0_11] 33 (0, 0)) (by (with_reducible repeat (first | refine blk_drewN ?_ _ | refine blk_drew ?_ | refine blk_alloc ?_ _)); exact BK254.out) hb); have n1_ := Aside0.mk (below_step (by repeat (first | (with_reducible first | exact HB.out | apply below_alloc | apply pw_below_drewN | apply below_drew1 | refine below_set ?_ GE254.out) | exact HB.out)) hb); clear BK254; clear HB; have BK254 := n0_; have HB := n1_; clear n0_ n1_; (try clear hb); (try clear hb2); (try clear hk); (try clear hi)) | (go_at_call 8; (with_reducible refine (governorlaw17_right.calls k _ _ l1 true _ ?side1 ?side2 A10.out).mono ?_); (case side1 => repeat (first | exact (Kd.C_below HR1.out HB.out) | (with_reducible refine Kd.C_alloc ?_ _) | (with_reducible refine Kd.C_drewN ?_ _) | (with_reducible refine Kd.C_drew ?_))); (case side2 => exact HC1.out); rintro e w' ⟨rfl, ⟨nd, rfl⟩⟩) | (go_at_call 8; (with_reducible refine (governorlaw17_right.calls k _ _ l2 t258 _ ?side1 ?side2 A12.out).mono ?_); (case side1 => repeat (first | exact (Kd.C_below HR2.out (by repeat (first | (with_reducible first | exact HB.out | apply below_alloc | apply pw_below_drewN | apply below_drew1 | refine below_set ?_ GE254.out) | exact HB.out))) | (with_reducible refine Kd.C_alloc ?_ _) | (with_reducible refine Kd.C_drewN ?_ _) | (with_reducible refine Kd.C_drew ?_))); (case side2 => exact HC2.out); rintro e w' ⟨rfl, ⟨nd, rfl⟩⟩))
        go_meet
        case rel => exact ⟨_, (!t258), (by first | rfl | (simp; done) | (simp [*]; done)), H', ⟨by first | omega | exact Nat.le_refl _⟩, ⟨by (with_reducible repeat (first | refine blk_drewN ?_ _ | refine blk_drew ?_ | refine blk_alloc ?_ _)); exact BK254.out⟩, ⟨by repeat (first | (with_reducible first | exact HB.out | apply below_alloc | apply pw_below_drewN | apply below_drew1 | refine below_set ?_ GE254.out) | exact HB.out)⟩⟩
      · replace c11 := Bool.eq_false_iff.mpr c11
        subst c11
        have H1 : (governorlaw17_ScoreShort.j0 k l1 l2 t255 true a0_0 a0_1 a0_2 a0_3 a0_4 a0_5 a0_6 a0_7 a0_8 a0_9 a0_10 a0_11) = some r := by rw [if_neg (show ¬ (false = true) by decide)] at H; exact H
        clear H
        have H := H1
        clear H1
        have H' := Aside0.mk H
        clear H
        have hcz15_0 : w7.cell? ⟨gb254, 0, none⟩ = some (.int .i64 a0_0) := (blk_cell BK254.out 0).trans rfl
        have hcz15_1 : w7.cell? ⟨gb254, 1, none⟩ = some (.int .i64 a0_1) := (blk_cell BK254.out 1).trans rfl
        have hcz15_2 : w7.cell? ⟨gb254, 2, none⟩ = some (.int .i64 a0_2) := (blk_cell BK254.out 2).trans rfl
        have hcz15_3 : w7.cell? ⟨gb254, 3, none⟩ = some (.int .i64 a0_3) := (blk_cell BK254.out 3).trans rfl
        have hcz15_4 : w7.cell? ⟨gb254, 4, none⟩ = some (.int .i64 a0_4) := (blk_cell BK254.out 4).trans rfl
        have hcz15_5 : w7.cell? ⟨gb254, 5, none⟩ = some (.int .i64 a0_5) := (blk_cell BK254.out 5).trans rfl
        have hcz15_6 : w7.cell? ⟨gb254, 6, none⟩ = some (.int .i64 a0_6) := (blk_cell BK254.out 6).trans rfl
        have hcz15_7 : w7.cell? ⟨gb254, 7, none⟩ = some (.int .i64 a0_7) := (blk_cell BK254.out 7).trans rfl
        have hcz15_8 : w7.cell? ⟨gb254, 8, none⟩ = some (.int .i64 a0_8) := (blk_cell BK254.out 8).trans rfl
        have hcz15_9 : w7.cell? ⟨gb254, 9, none⟩ = some (.int .i64 a0_9) := (blk_cell BK254.out 9).trans rfl
        have hcz15_10 : w7.cell? ⟨gb254, 10, none⟩ = some (.int .i64 a0_10) := (blk_cell BK254.out 10).trans rfl
        have hcz15_11 : w7.cell? ⟨gb254, 11, none⟩ = some (.int .i64 a0_11) := (blk_cell BK254.out 11).trans rfl
        have hfz15_0 := blk_frozen BK254.out 0
        have hfz15_1 := blk_frozen BK254.out 1
        have hfz15_2 := blk_frozen BK254.out 2
        have hfz15_3 := blk_frozen BK254.out 3
        have hfz15_4 := blk_frozen BK254.out 4
        have hfz15_5 := blk_frozen BK254.out 5
        have hfz15_6 := blk_frozen BK254.out 6
        have hfz15_7 := blk_frozen BK254.out 7
        have hfz15_8 := blk_frozen BK254.out 8
        have hfz15_9 := blk_frozen BK254.out 9
        have hfz15_10 := blk_frozen BK254.out 10
        have hfz15_11 := blk_frozen BK254.out 11
        go_wp2_with (first | ((with_reducible refine gate_callee (f := 13) rfl ?_); refine goesL_ (some 13) rfl rfl Try.func13 (by kernel_rfl) rfl #[.agg #[.int .i64 a0_0, .int .i64 a0_1, .int .i64 a0_2, .int .i64 a0_3, .int .i64 a0_4, .int .i64 a0_5, .int .i64 a0_6, .int .i64 a0_7, .int .i64 a0_8, .int .i64 a0_9, .int .i64 a0_10, .int .i64 a0_11]] rfl (by (try simp only [List.map_toArray, List.map_cons, List.map_nil]); first | done | rfl | (simp only [List.length_drop, List.length_take]; rfl)) ?_; (with_reducible refine (governorref09_Conf.calls a0_0 a0_1 a0_2 a0_3 a0_4 a0_5 a0_6 a0_7 a0_8 a0_9 a0_10 a0_11 true _ A8.out).mono ?_); rintro e w16 ⟨rfl, hb⟩; refine ⟨_, rfl, ?_⟩; have n0_ := Aside0.mk (blk_below (g := gb254) (o := .cells #[.int .i64 a0_0, .int .i64 a0_1, .int .i64 a0_2, .int .i64 a0_3, .int .i64 a0_4, .int .i64 a0_5, .int .i64 a0_6, .int .i64 a0_7, .int .i64 a0_8, .int .i64 a0_9, .int .i64 a0_10, .int .i64 a0_11] 33 (0, 0)) (by (with_reducible repeat (first | refine blk_drewN ?_ _ | refine blk_drew ?_ | refine blk_alloc ?_ _)); exact BK254.out) hb); have n1_ := Aside0.mk (below_step (by repeat (first | (with_reducible first | exact HB.out | apply below_alloc | apply pw_below_drewN | apply below_drew1 | refine below_set ?_ GE254.out) | exact HB.out)) hb); clear BK254; clear HB; have BK254 := n0_; have HB := n1_; clear n0_ n1_; (try clear hb); (try clear hb2); (try clear hk); (try clear hi)) | (go_at_call 8; (with_reducible refine (governorlaw17_right.calls k _ _ l1 false _ ?side1 ?side2 A10.out).mono ?_); (case side1 => repeat (first | exact (Kd.C_below HR1.out HB.out) | (with_reducible refine Kd.C_alloc ?_ _) | (with_reducible refine Kd.C_drewN ?_ _) | (with_reducible refine Kd.C_drew ?_))); (case side2 => exact HC1.out); rintro e w' ⟨rfl, ⟨nd, rfl⟩⟩))
        go_meet
        case rel => exact ⟨_, (true), (by first | rfl | (simp; done) | (simp [*]; done)), H', ⟨by first | omega | exact Nat.le_refl _⟩, ⟨by (with_reducible repeat (first | refine blk_drewN ?_ _ | refine blk_drew ?_ | refine blk_alloc ?_ _)); exact BK254.out⟩, ⟨by repeat (first | (with_reducible first | exact HB.out | apply below_alloc | apply pw_below_drewN | apply below_drew1 | refine below_set ?_ GE254.out) | exact HB.out)⟩⟩
    · replace c9 := Bool.eq_false_iff.mpr c9
      subst c9
      have H1 : (governorlaw17_ScoreShort.j0 k l1 l2 t255 true a0_0 a0_1 a0_2 a0_3 a0_4 a0_5 a0_6 a0_7 a0_8 a0_9 a0_10 a0_11) = some r := by rw [if_neg (show ¬ (false = true) by decide)] at H; exact H
      clear H
      have H := H1
      clear H1
      have H' := Aside0.mk H
      clear H
      have hcz17_0 : w7.cell? ⟨gb254, 0, none⟩ = some (.int .i64 a0_0) := (blk_cell BK254.out 0).trans rfl
      have hcz17_1 : w7.cell? ⟨gb254, 1, none⟩ = some (.int .i64 a0_1) := (blk_cell BK254.out 1).trans rfl
      have hcz17_2 : w7.cell? ⟨gb254, 2, none⟩ = some (.int .i64 a0_2) := (blk_cell BK254.out 2).trans rfl
      have hcz17_3 : w7.cell? ⟨gb254, 3, none⟩ = some (.int .i64 a0_3) := (blk_cell BK254.out 3).trans rfl
      have hcz17_4 : w7.cell? ⟨gb254, 4, none⟩ = some (.int .i64 a0_4) := (blk_cell BK254.out 4).trans rfl
      have hcz17_5 : w7.cell? ⟨gb254, 5, none⟩ = some (.int .i64 a0_5) := (blk_cell BK254.out 5).trans rfl
      have hcz17_6 : w7.cell? ⟨gb254, 6, none⟩ = some (.int .i64 a0_6) := (blk_cell BK254.out 6).trans rfl
      have hcz17_7 : w7.cell? ⟨gb254, 7, none⟩ = some (.int .i64 a0_7) := (blk_cell BK254.out 7).trans rfl
      have hcz17_8 : w7.cell? ⟨gb254, 8, none⟩ = some (.int .i64 a0_8) := (blk_cell BK254.out 8).trans rfl
      have hcz17_9 : w7.cell? ⟨gb254, 9, none⟩ = some (.int .i64 a0_9) := (blk_cell BK254.out 9).trans rfl
      have hcz17_10 : w7.cell? ⟨gb254, 10, none⟩ = some (.int .i64 a0_10) := (blk_cell BK254.out 10).trans rfl
      have hcz17_11 : w7.cell? ⟨gb254, 11, none⟩ = some (.int .i64 a0_11) := (blk_cell BK254.out 11).trans rfl
      have hfz17_0 := blk_frozen BK254.out 0
      have hfz17_1 := blk_frozen BK254.out 1
      have hfz17_2 := blk_frozen BK254.out 2
      have hfz17_3 := blk_frozen BK254.out 3
      have hfz17_4 := blk_frozen BK254.out 4
      have hfz17_5 := blk_frozen BK254.out 5
      have hfz17_6 := blk_frozen BK254.out 6
      have hfz17_7 := blk_frozen BK254.out 7
      have hfz17_8 := blk_frozen BK254.out 8
      have hfz17_9 := blk_frozen BK254.out 9
      have hfz17_10 := blk_frozen BK254.out 10
      have hfz17_11 := blk_frozen BK254.out 11
      go_wp2_with (first | ((with_reducible refine gate_callee (f := 13) rfl ?_); refine goesL_ (some 13) rfl rfl Try.func13 (by kernel_rfl) rfl #[.agg #[.int .i64 a0_0, .int .i64 a0_1, .int .i64 a0_2, .int .i64 a0_3, .int .i64 a0_4, .int .i64 a0_5, .int .i64 a0_6, .int .i64 a0_7, .int .i64 a0_8, .int .i64 a0_9, .int .i64 a0_10, .int .i64 a0_11]] rfl (by (try simp only [List.map_toArray, List.map_cons, List.map_nil]); first | done | rfl | (simp only [List.length_drop, List.length_take]; rfl)) ?_; (with_reducible refine (governorref09_Conf.calls a0_0 a0_1 a0_2 a0_3 a0_4 a0_5 a0_6 a0_7 a0_8 a0_9 a0_10 a0_11 false _ A8.out).mono ?_); rintro e w18 ⟨rfl, hb⟩; refine ⟨_, rfl, ?_⟩; have n0_ := Aside0.mk (blk_below (g := gb254) (o := .cells #[.int .i64 a0_0, .int .i64 a0_1, .int .i64 a0_2, .int .i64 a0_3, .int .i64 a0_4, .int .i64 a0_5, .int .i64 a0_6, .int .i64 a0_7, .int .i64 a0_8, .int .i64 a0_9, .int .i64 a0_10, .int .i64 a0_11] 33 (0, 0)) (by (with_reducible repeat (first | refine blk_drewN ?_ _ | refine blk_drew ?_ | refine blk_alloc ?_ _)); exact BK254.out) hb); have n1_ := Aside0.mk (below_step (by repeat (first | (with_reducible first | exact HB.out | apply below_alloc | apply pw_below_drewN | apply below_drew1 | refine below_set ?_ GE254.out) | exact HB.out)) hb); clear BK254; clear HB; have BK254 := n0_; have HB := n1_; clear n0_ n1_; (try clear hb); (try clear hb2); (try clear hk); (try clear hi)))
      go_meet
      case rel => exact ⟨_, (true), (by first | rfl | (simp; done) | (simp [*]; done)), H', ⟨by first | omega | exact Nat.le_refl _⟩, ⟨by (with_reducible repeat (first | refine blk_drewN ?_ _ | refine blk_drew ?_ | refine blk_alloc ?_ _)); exact BK254.out⟩, ⟨by repeat (first | (with_reducible first | exact HB.out | apply below_alloc | apply pw_below_drewN | apply below_drew1 | refine below_set ?_ GE254.out) | exact HB.out)⟩⟩
  case rest =>
    clear HC5
    try clear c1
    try clear c2
    try clear p2
    try clear c6
    try clear c7
    try clear c9
    try clear c11
    try clear c13
    try clear hcz13_0
    try clear hcz13_1
    try clear hcz13_10
    try clear hcz13_11
    try clear hcz13_2
    try clear hcz13_3
    try clear hcz13_4
    try clear hcz13_5
    try clear hcz13_6
    try clear hcz13_7
    try clear hcz13_8
    try clear hcz13_9
    try clear hcz15_0
    try clear hcz15_1
    try clear hcz15_10
    try clear hcz15_11
    try clear hcz15_2
    try clear hcz15_3
    try clear hcz15_4
    try clear hcz15_5
    try clear hcz15_6
    try clear hcz15_7
    try clear hcz15_8
    try clear hcz15_9
    try clear hcz17_0
    try clear hcz17_1
    try clear hcz17_10
    try clear hcz17_11
    try clear hcz17_2
    try clear hcz17_3
    try clear hcz17_4
    try clear hcz17_5
    try clear hcz17_6
    try clear hcz17_7
    try clear hcz17_8
    try clear hcz17_9
    try clear hfz13_0
    try clear hfz13_1
    try clear hfz13_10
    try clear hfz13_11
    try clear hfz13_2
    try clear hfz13_3
    try clear hfz13_4
    try clear hfz13_5
    try clear hfz13_6
    try clear hfz13_7
    try clear hfz13_8
    try clear hfz13_9
    try clear hfz15_0
    try clear hfz15_1
    try clear hfz15_10
    try clear hfz15_11
    try clear hfz15_2
    try clear hfz15_3
    try clear hfz15_4
    try clear hfz15_5
    try clear hfz15_6
    try clear hfz15_7
    try clear hfz15_8
    try clear hfz15_9
    try clear hfz17_0
    try clear hfz17_1
    try clear hfz17_10
    try clear hfz17_11
    try clear hfz17_2
    try clear hfz17_3
    try clear hfz17_4
    try clear hfz17_5
    try clear hfz17_6
    try clear hfz17_7
    try clear hfz17_8
    try clear hfz17_9
    obtain ⟨kq, x24_4, rfl, HA, HJ4, BK254, HB⟩ := hcut
    cases kq with
    | zero => exact absurd HA.out (by simp [governorlaw17_ScoreShort.j0])
    | succ kj4 =>
      have H := HA.out
      clear HA
      simp only [governorlaw17_ScoreShort.j0] at H
      by_cases c19 : x24_4 = true
      · subst c19
        have H1 : (some t255) = some r := by rw [if_pos rfl] at H; exact H
        clear H
        have H := H1
        clear H1
        obtain rfl := Option.some.inj H
        go_wp2
        go_ret
        exact ⟨by first | rfl | (simp [errW_none, errW_some] <;> rfl) | (simp [*, errW_none, errW_some] <;> rfl), by repeat (first | (with_reducible first | exact HB.out | apply below_alloc | apply pw_below_drewN | apply below_drew1 | refine below_set ?_ GE254.out) | exact HB.out)⟩
      · replace c19 := Bool.eq_false_iff.mpr c19
        subst c19
        have H1 : (governorlaw17_ScoreShort.l0 kj4 l1 l2 t255 0 0 a0_0 a0_1 a0_2 a0_3 a0_4 a0_5 a0_6 a0_7 a0_8 a0_9 a0_10 a0_11) = some r := by rw [if_neg (show ¬ (false = true) by decide)] at H; exact H
        clear H
        have H := H1
        clear H1
        have H' := Aside0.mk H
        clear H
        go_wp2
        go_loopg [8, 9] kj4 (fun kq v8 v9 w' => ∃ (x8_2 : Int) (x9_2 : Int), v8 = .int .i64 x8_2 ∧ v9 = .int .i64 x9_2 ∧ Aside0 (governorlaw17_ScoreShort.l0 kq l1 l2 t255 x8_2 x9_2 a0_0 a0_1 a0_2 a0_3 a0_4 a0_5 a0_6 a0_7 a0_8 a0_9 a0_10 a0_11 = some r) ∧ Aside0 (kq ≤ kj4) ∧ Aside0 (w'.heap[gb254]? = some (.cells #[.int .i64 a0_0, .int .i64 a0_1, .int .i64 a0_2, .int .i64 a0_3, .int .i64 a0_4, .int .i64 a0_5, .int .i64 a0_6, .int .i64 a0_7, .int .i64 a0_8, .int .i64 a0_9, .int .i64 a0_10, .int .i64 a0_11] 33 (0, 0))) ∧ Aside0 (Below w.heap.size w w'))
        case atStart => exact ⟨(0), (0), (by first | rfl | (simp; done) | (simp [*]; done)), (by first | rfl | (simp; done) | (simp [*]; done)), H', ⟨Nat.le_refl _⟩, ⟨by (with_reducible repeat (first | refine blk_drewN ?_ _ | refine blk_drew ?_ | refine blk_alloc ?_ _)); exact BK254.out⟩, ⟨by repeat (first | (with_reducible first | exact HB.out | apply below_alloc | apply pw_below_drewN | apply below_drew1 | refine below_set ?_ GE254.out) | exact HB.out)⟩⟩
        case round =>
          clear H'
          try clear c1
          try clear c2
          try clear p2
          try clear c6
          try clear c7
          try clear c9
          try clear c11
          try clear c13
          try clear c19
          try clear hcz13_0
          try clear hcz13_1
          try clear hcz13_10
          try clear hcz13_11
          try clear hcz13_2
          try clear hcz13_3
          try clear hcz13_4
          try clear hcz13_5
          try clear hcz13_6
          try clear hcz13_7
          try clear hcz13_8
          try clear hcz13_9
          try clear hcz15_0
          try clear hcz15_1
          try clear hcz15_10
          try clear hcz15_11
          try clear hcz15_2
          try clear hcz15_3
          try clear hcz15_4
          try clear hcz15_5
          try clear hcz15_6
          try clear hcz15_7
          try clear hcz15_8
          try clear hcz15_9
          try clear hcz17_0
          try clear hcz17_1
          try clear hcz17_10
          try clear hcz17_11
          try clear hcz17_2
          try clear hcz17_3
          try clear hcz17_4
          try clear hcz17_5
          try clear hcz17_6
          try clear hcz17_7
          try clear hcz17_8
          try clear hcz17_9
          try clear hfz13_0
          try clear hfz13_1
          try clear hfz13_10
          try clear hfz13_11
          try clear hfz13_2
          try clear hfz13_3
          try clear hfz13_4
          try clear hfz13_5
          try clear hfz13_6
          try clear hfz13_7
          try clear hfz13_8
          try clear hfz13_9
          try clear hfz15_0
          try clear hfz15_1
          try clear hfz15_10
          try clear hfz15_11
          try clear hfz15_2
          try clear hfz15_3
          try clear hfz15_4
          try clear hfz15_5
          try clear hfz15_6
          try clear hfz15_7
          try clear hfz15_8
          try clear hfz15_9
          try clear hfz17_0
          try clear hfz17_1
          try clear hfz17_10
          try clear hfz17_11
          try clear hfz17_2
          try clear hfz17_3
          try clear hfz17_4
          try clear hfz17_5
          try clear hfz17_6
          try clear hfz17_7
          try clear hfz17_8
          try clear hfz17_9
          try clear p2
          obtain ⟨x8_2, x9_2, rfl, rfl, HA, HK2, BK254, HB⟩ := hrel
          cases gk with
          | zero => exact absurd HA.out (by simp [governorlaw17_ScoreShort.l0])
          | succ k2 =>
            have H := HA.out
            clear HA
            simp only [governorlaw17_ScoreShort.l0] at H
            by_cases c20 : x9_2 < (l2.length : Int)
            · rw [if_pos c20] at H
              have c20b0 : decide (x9_2 < (l2.length : Int)) = true := decide_eq_true c20
              clear c20
              by_cases c21 : 0 ≤ x9_2
              · rw [if_pos c21] at H
                have c21b0 : decide (0 ≤ x9_2) = true := decide_eq_true c21
                clear c21
                obtain ⟨bq22, hbq22⟩ : ∃ b_ : Bool, b_ = ((rd_T27 l2 x9_2).f1) := ⟨_, rfl⟩
                replace H : (if bq22 = true then (governorlaw17_ScoreShort.l0 k2 l1 l2 t255 (wrap64 (x8_2 + 1)) (wrap64 (x9_2 + 1)) a0_0 a0_1 a0_2 a0_3 a0_4 a0_5 a0_6 a0_7 a0_8 a0_9 a0_10 a0_11) else (governorlaw17_ScoreShort.l0 k2 l1 l2 t255 x8_2 (wrap64 (x9_2 + 1)) a0_0 a0_1 a0_2 a0_3 a0_4 a0_5 a0_6 a0_7 a0_8 a0_9 a0_10 a0_11)) = some r := by rw [← hbq22] at H; exact H
                have Nbq22 := Aside0.mk hbq22
                clear hbq22
                by_cases c23 : bq22 = true
                · subst c23
                  have H1 : (governorlaw17_ScoreShort.l0 k2 l1 l2 t255 (wrap64 (x8_2 + 1)) (wrap64 (x9_2 + 1)) a0_0 a0_1 a0_2 a0_3 a0_4 a0_5 a0_6 a0_7 a0_8 a0_9 a0_10 a0_11) = some r := by rw [if_pos rfl] at H; exact H
                  clear H
                  have H := H1
                  clear H1
                  have H' := Aside0.mk H
                  clear H
                  have p259 : 0 ≤ (x9_2 : Int) := of_decide_eq_true (by first | (with_reducible assumption) | assumption)
                  have q259 : x9_2 < (l2.length : Int) := of_decide_eq_true (by first | (with_reducible assumption) | assumption)
                  obtain ⟨ad259, e259, hx259_0, hx259_1⟩ := at_T27 HR2.out x9_2 p259 q259
                  (try rw [← Nbq22.out] at hx259_1)
                  cases e259
                  replace hx259_0 := (HB.out.cell (World.block_lt_of_cell? w _ hx259_0)).trans hx259_0
                  replace hx259_1 := (HB.out.cell (World.block_lt_of_cell? w _ hx259_1)).trans hx259_1
                  replace p259 := eq_true p259
                  replace q259 := eq_true q259
                  go_wp2
                  go_roundg k2
                  case measure => have := HJ4.out; have := HK2.out; omega
                  case rel => exact ⟨(wrap64 (x8_2 + 1)), (wrap64 (x9_2 + 1)), (by first | rfl | (simp; done) | (simp [*]; done)), (by first | rfl | (simp; done) | (simp [*]; done)), H', ⟨by have := HJ4.out; have := HK2.out; omega⟩, ⟨by (with_reducible repeat (first | refine blk_drewN ?_ _ | refine blk_drew ?_ | refine blk_alloc ?_ _)); exact BK254.out⟩, ⟨by repeat (first | (with_reducible first | exact HB.out | apply below_alloc | apply pw_below_drewN | apply below_drew1 | refine below_set ?_ GE254.out) | exact HB.out)⟩⟩
                · replace c23 := Bool.eq_false_iff.mpr c23
                  subst c23
                  have H1 : (governorlaw17_ScoreShort.l0 k2 l1 l2 t255 x8_2 (wrap64 (x9_2 + 1)) a0_0 a0_1 a0_2 a0_3 a0_4 a0_5 a0_6 a0_7 a0_8 a0_9 a0_10 a0_11) = some r := by rw [if_neg (show ¬ (false = true) by decide)] at H; exact H
                  clear H
                  have H := H1
                  clear H1
                  have H' := Aside0.mk H
                  clear H
                  have p259 : 0 ≤ (x9_2 : Int) := of_decide_eq_true (by first | (with_reducible assumption) | assumption)
                  have q259 : x9_2 < (l2.length : Int) := of_decide_eq_true (by first | (with_reducible assumption) | assumption)
                  obtain ⟨ad259, e259, hx259_0, hx259_1⟩ := at_T27 HR2.out x9_2 p259 q259
                  (try rw [← Nbq22.out] at hx259_1)
                  cases e259
                  replace hx259_0 := (HB.out.cell (World.block_lt_of_cell? w _ hx259_0)).trans hx259_0
                  replace hx259_1 := (HB.out.cell (World.block_lt_of_cell? w _ hx259_1)).trans hx259_1
                  replace p259 := eq_true p259
                  replace q259 := eq_true q259
                  go_wp2
                  go_roundg k2
                  case measure => have := HJ4.out; have := HK2.out; omega
                  case rel => exact ⟨(x8_2), (wrap64 (x9_2 + 1)), (by first | rfl | (simp; done) | (simp [*]; done)), (by first | rfl | (simp; done) | (simp [*]; done)), H', ⟨by have := HJ4.out; have := HK2.out; omega⟩, ⟨by (with_reducible repeat (first | refine blk_drewN ?_ _ | refine blk_drew ?_ | refine blk_alloc ?_ _)); exact BK254.out⟩, ⟨by repeat (first | (with_reducible first | exact HB.out | apply below_alloc | apply pw_below_drewN | apply below_drew1 | refine below_set ?_ GE254.out) | exact HB.out)⟩⟩
              · rw [if_neg c21] at H
                exact absurd H (by simp)
            · rw [if_neg c20] at H
              have c20b0 : decide (x9_2 < (l2.length : Int)) = false := decide_eq_false c20
              clear c20
              by_cases c24 : (l1.length : Int) = a0_7
              · rw [if_pos c24] at H
                have c24b0 : ((l1.length : Int) == a0_7) = true := beq_iff_eq.mpr c24
                have c24b1 : ((l1.length : Int) != a0_7) = false := bne_eq_false_iff_eq.mpr c24
                clear c24
                by_cases c25 : (l2.length : Int) = a0_7
                · rw [if_pos c25] at H
                  have c25b0 : ((l2.length : Int) == a0_7) = true := beq_iff_eq.mpr c25
                  have c25b1 : ((l2.length : Int) != a0_7) = false := bne_eq_false_iff_eq.mpr c25
                  clear c25
                  by_cases c26 : t255 = true
                  · subst c26
                    have H1 : (if x8_2 ≤ a0_9 then (some true) else ((score_Better.f a0_0 a0_1 a0_2 a0_3 a0_4 a0_5 a0_6 a0_7 a0_8 a0_9 a0_10 a0_11 l1 l2).bind fun t260 => (some (!t260)))) = some r := by rw [if_pos rfl] at H; exact H
                    clear H
                    have H := H1
                    clear H1
                    by_cases c27 : x8_2 ≤ a0_9
                    · rw [if_pos c27] at H
                      have c27b0 : decide (x8_2 ≤ a0_9) = true := decide_eq_true c27
                      clear c27
                      obtain rfl := Option.some.inj H
                      have hcz28_0 : wr.cell? ⟨gb254, 0, none⟩ = some (.int .i64 a0_0) := (blk_cell BK254.out 0).trans rfl
                      have hcz28_1 : wr.cell? ⟨gb254, 1, none⟩ = some (.int .i64 a0_1) := (blk_cell BK254.out 1).trans rfl
                      have hcz28_2 : wr.cell? ⟨gb254, 2, none⟩ = some (.int .i64 a0_2) := (blk_cell BK254.out 2).trans rfl
                      have hcz28_3 : wr.cell? ⟨gb254, 3, none⟩ = some (.int .i64 a0_3) := (blk_cell BK254.out 3).trans rfl
                      have hcz28_4 : wr.cell? ⟨gb254, 4, none⟩ = some (.int .i64 a0_4) := (blk_cell BK254.out 4).trans rfl
                      have hcz28_5 : wr.cell? ⟨gb254, 5, none⟩ = some (.int .i64 a0_5) := (blk_cell BK254.out 5).trans rfl
                      have hcz28_6 : wr.cell? ⟨gb254, 6, none⟩ = some (.int .i64 a0_6) := (blk_cell BK254.out 6).trans rfl
                      have hcz28_7 : wr.cell? ⟨gb254, 7, none⟩ = some (.int .i64 a0_7) := (blk_cell BK254.out 7).trans rfl
                      have hcz28_8 : wr.cell? ⟨gb254, 8, none⟩ = some (.int .i64 a0_8) := (blk_cell BK254.out 8).trans rfl
                      have hcz28_9 : wr.cell? ⟨gb254, 9, none⟩ = some (.int .i64 a0_9) := (blk_cell BK254.out 9).trans rfl
                      have hcz28_10 : wr.cell? ⟨gb254, 10, none⟩ = some (.int .i64 a0_10) := (blk_cell BK254.out 10).trans rfl
                      have hcz28_11 : wr.cell? ⟨gb254, 11, none⟩ = some (.int .i64 a0_11) := (blk_cell BK254.out 11).trans rfl
                      have hfz28_0 := blk_frozen BK254.out 0
                      have hfz28_1 := blk_frozen BK254.out 1
                      have hfz28_2 := blk_frozen BK254.out 2
                      have hfz28_3 := blk_frozen BK254.out 3
                      have hfz28_4 := blk_frozen BK254.out 4
                      have hfz28_5 := blk_frozen BK254.out 5
                      have hfz28_6 := blk_frozen BK254.out 6
                      have hfz28_7 := blk_frozen BK254.out 7
                      have hfz28_8 := blk_frozen BK254.out 8
                      have hfz28_9 := blk_frozen BK254.out 9
                      have hfz28_10 := blk_frozen BK254.out 10
                      have hfz28_11 := blk_frozen BK254.out 11
                      go_wp2
                      go_ret
                      exact ⟨by first | rfl | (simp [errW_none, errW_some] <;> rfl) | (simp [*, errW_none, errW_some] <;> rfl), by repeat (first | (with_reducible first | exact HB.out | apply below_alloc | apply pw_below_drewN | apply below_drew1 | refine below_set ?_ GE254.out) | exact HB.out)⟩
                    · rw [if_neg c27] at H
                      have c27b0 : decide (x8_2 ≤ a0_9) = false := decide_eq_false c27
                      clear c27
                      replace H := Option.bind_eq_some_iff.mp H
                      obtain ⟨t260, A290, H⟩ := H
                      replace H : (some (!t260)) = some r := H
                      have A29 := Aside0.mk A290
                      clear A290
                      obtain rfl := Option.some.inj H
                      have hcz30_0 : wr.cell? ⟨gb254, 0, none⟩ = some (.int .i64 a0_0) := (blk_cell BK254.out 0).trans rfl
                      have hcz30_1 : wr.cell? ⟨gb254, 1, none⟩ = some (.int .i64 a0_1) := (blk_cell BK254.out 1).trans rfl
                      have hcz30_2 : wr.cell? ⟨gb254, 2, none⟩ = some (.int .i64 a0_2) := (blk_cell BK254.out 2).trans rfl
                      have hcz30_3 : wr.cell? ⟨gb254, 3, none⟩ = some (.int .i64 a0_3) := (blk_cell BK254.out 3).trans rfl
                      have hcz30_4 : wr.cell? ⟨gb254, 4, none⟩ = some (.int .i64 a0_4) := (blk_cell BK254.out 4).trans rfl
                      have hcz30_5 : wr.cell? ⟨gb254, 5, none⟩ = some (.int .i64 a0_5) := (blk_cell BK254.out 5).trans rfl
                      have hcz30_6 : wr.cell? ⟨gb254, 6, none⟩ = some (.int .i64 a0_6) := (blk_cell BK254.out 6).trans rfl
                      have hcz30_7 : wr.cell? ⟨gb254, 7, none⟩ = some (.int .i64 a0_7) := (blk_cell BK254.out 7).trans rfl
                      have hcz30_8 : wr.cell? ⟨gb254, 8, none⟩ = some (.int .i64 a0_8) := (blk_cell BK254.out 8).trans rfl
                      have hcz30_9 : wr.cell? ⟨gb254, 9, none⟩ = some (.int .i64 a0_9) := (blk_cell BK254.out 9).trans rfl
                      have hcz30_10 : wr.cell? ⟨gb254, 10, none⟩ = some (.int .i64 a0_10) := (blk_cell BK254.out 10).trans rfl
                      have hcz30_11 : wr.cell? ⟨gb254, 11, none⟩ = some (.int .i64 a0_11) := (blk_cell BK254.out 11).trans rfl
                      have hfz30_0 := blk_frozen BK254.out 0
                      have hfz30_1 := blk_frozen BK254.out 1
                      have hfz30_2 := blk_frozen BK254.out 2
                      have hfz30_3 := blk_frozen BK254.out 3
                      have hfz30_4 := blk_frozen BK254.out 4
                      have hfz30_5 := blk_frozen BK254.out 5
                      have hfz30_6 := blk_frozen BK254.out 6
                      have hfz30_7 := blk_frozen BK254.out 7
                      have hfz30_8 := blk_frozen BK254.out 8
                      have hfz30_9 := blk_frozen BK254.out 9
                      have hfz30_10 := blk_frozen BK254.out 10
                      have hfz30_11 := blk_frozen BK254.out 11
                      go_wp2_with (first | (go_at_call 14; (with_reducible refine (score_Better.calls a0_0 a0_1 a0_2 a0_3 a0_4 a0_5 a0_6 a0_7 a0_8 a0_9 a0_10 a0_11 _ _ l1 _ _ l2 t260 _ ?side1 ?side2 ?side3 ?side4 A29.out).mono ?_); (case side1 => repeat (first | exact (Kd.C_below HR1.out HB.out) | (with_reducible refine Kd.C_alloc ?_ _) | (with_reducible refine Kd.C_drewN ?_ _) | (with_reducible refine Kd.C_drew ?_))); (case side2 => exact HC1.out); (case side3 => repeat (first | exact (Kd.C_below HR2.out HB.out) | (with_reducible refine Kd.C_alloc ?_ _) | (with_reducible refine Kd.C_drewN ?_ _) | (with_reducible refine Kd.C_drew ?_))); (case side4 => exact HC2.out); rintro e w31 ⟨rfl, hb⟩; have n0_ := Aside0.mk (blk_below (g := gb254) (o := .cells #[.int .i64 a0_0, .int .i64 a0_1, .int .i64 a0_2, .int .i64 a0_3, .int .i64 a0_4, .int .i64 a0_5, .int .i64 a0_6, .int .i64 a0_7, .int .i64 a0_8, .int .i64 a0_9, .int .i64 a0_10, .int .i64 a0_11] 33 (0, 0)) (by (with_reducible repeat (first | refine blk_drewN ?_ _ | refine blk_drew ?_ | refine blk_alloc ?_ _)); exact BK254.out) hb); have n1_ := Aside0.mk (below_step (by repeat (first | (with_reducible first | exact HB.out | apply below_alloc | apply pw_below_drewN | apply below_drew1 | refine below_set ?_ GE254.out) | exact HB.out)) hb); clear BK254; clear HB; have BK254 := n0_; have HB := n1_; clear n0_ n1_; (try clear hb); (try clear hb2); (try clear hk); (try clear hi)))
                      go_ret
                      exact ⟨by first | rfl | (simp [errW_none, errW_some] <;> rfl) | (simp [*, errW_none, errW_some] <;> rfl), by repeat (first | (with_reducible first | exact HB.out | apply below_alloc | apply pw_below_drewN | apply below_drew1 | refine below_set ?_ GE254.out) | exact HB.out)⟩
                  · replace c26 := Bool.eq_false_iff.mpr c26
                    subst c26
                    have H1 : (some false) = some r := by rw [if_neg (show ¬ (false = true) by decide)] at H; exact H
                    clear H
                    have H := H1
                    clear H1
                    obtain rfl := Option.some.inj H
                    have hcz32_0 : wr.cell? ⟨gb254, 0, none⟩ = some (.int .i64 a0_0) := (blk_cell BK254.out 0).trans rfl
                    have hcz32_1 : wr.cell? ⟨gb254, 1, none⟩ = some (.int .i64 a0_1) := (blk_cell BK254.out 1).trans rfl
                    have hcz32_2 : wr.cell? ⟨gb254, 2, none⟩ = some (.int .i64 a0_2) := (blk_cell BK254.out 2).trans rfl
                    have hcz32_3 : wr.cell? ⟨gb254, 3, none⟩ = some (.int .i64 a0_3) := (blk_cell BK254.out 3).trans rfl
                    have hcz32_4 : wr.cell? ⟨gb254, 4, none⟩ = some (.int .i64 a0_4) := (blk_cell BK254.out 4).trans rfl
                    have hcz32_5 : wr.cell? ⟨gb254, 5, none⟩ = some (.int .i64 a0_5) := (blk_cell BK254.out 5).trans rfl
                    have hcz32_6 : wr.cell? ⟨gb254, 6, none⟩ = some (.int .i64 a0_6) := (blk_cell BK254.out 6).trans rfl
                    have hcz32_7 : wr.cell? ⟨gb254, 7, none⟩ = some (.int .i64 a0_7) := (blk_cell BK254.out 7).trans rfl
                    have hcz32_8 : wr.cell? ⟨gb254, 8, none⟩ = some (.int .i64 a0_8) := (blk_cell BK254.out 8).trans rfl
                    have hcz32_9 : wr.cell? ⟨gb254, 9, none⟩ = some (.int .i64 a0_9) := (blk_cell BK254.out 9).trans rfl
                    have hcz32_10 : wr.cell? ⟨gb254, 10, none⟩ = some (.int .i64 a0_10) := (blk_cell BK254.out 10).trans rfl
                    have hcz32_11 : wr.cell? ⟨gb254, 11, none⟩ = some (.int .i64 a0_11) := (blk_cell BK254.out 11).trans rfl
                    have hfz32_0 := blk_frozen BK254.out 0
                    have hfz32_1 := blk_frozen BK254.out 1
                    have hfz32_2 := blk_frozen BK254.out 2
                    have hfz32_3 := blk_frozen BK254.out 3
                    have hfz32_4 := blk_frozen BK254.out 4
                    have hfz32_5 := blk_frozen BK254.out 5
                    have hfz32_6 := blk_frozen BK254.out 6
                    have hfz32_7 := blk_frozen BK254.out 7
                    have hfz32_8 := blk_frozen BK254.out 8
                    have hfz32_9 := blk_frozen BK254.out 9
                    have hfz32_10 := blk_frozen BK254.out 10
                    have hfz32_11 := blk_frozen BK254.out 11
                    go_wp2
                    go_ret
                    exact ⟨by first | rfl | (simp [errW_none, errW_some] <;> rfl) | (simp [*, errW_none, errW_some] <;> rfl), by repeat (first | (with_reducible first | exact HB.out | apply below_alloc | apply pw_below_drewN | apply below_drew1 | refine below_set ?_ GE254.out) | exact HB.out)⟩
                · rw [if_neg c25] at H
                  have c25b0 : ((l2.length : Int) == a0_7) = false := beq_eq_false_iff_ne.mpr c25
                  have c25b1 : ((l2.length : Int) != a0_7) = true := bne_iff_ne.mpr c25
                  by_cases c33 : t255 = true
                  · subst c33
                    have H1 : ((score_Better.f a0_0 a0_1 a0_2 a0_3 a0_4 a0_5 a0_6 a0_7 a0_8 a0_9 a0_10 a0_11 l1 l2).bind fun t261 => (some (!t261))) = some r := by rw [if_pos rfl] at H; exact H
                    clear H
                    have H := H1
                    clear H1
                    replace H := Option.bind_eq_some_iff.mp H
                    obtain ⟨t261, A340, H⟩ := H
                    replace H : (some (!t261)) = some r := H
                    have A34 := Aside0.mk A340
                    clear A340
                    obtain rfl := Option.some.inj H
                    have hcz35_0 : wr.cell? ⟨gb254, 0, none⟩ = some (.int .i64 a0_0) := (blk_cell BK254.out 0).trans rfl
                    have hcz35_1 : wr.cell? ⟨gb254, 1, none⟩ = some (.int .i64 a0_1) := (blk_cell BK254.out 1).trans rfl
                    have hcz35_2 : wr.cell? ⟨gb254, 2, none⟩ = some (.int .i64 a0_2) := (blk_cell BK254.out 2).trans rfl
                    have hcz35_3 : wr.cell? ⟨gb254, 3, none⟩ = some (.int .i64 a0_3) := (blk_cell BK254.out 3).trans rfl
                    have hcz35_4 : wr.cell? ⟨gb254, 4, none⟩ = some (.int .i64 a0_4) := (blk_cell BK254.out 4).trans rfl
                    have hcz35_5 : wr.cell? ⟨gb254, 5, none⟩ = some (.int .i64 a0_5) := (blk_cell BK254.out 5).trans rfl
                    have hcz35_6 : wr.cell? ⟨gb254, 6, none⟩ = some (.int .i64 a0_6) := (blk_cell BK254.out 6).trans rfl
                    have hcz35_7 : wr.cell? ⟨gb254, 7, none⟩ = some (.int .i64 a0_7) := (blk_cell BK254.out 7).trans rfl
                    have hcz35_8 : wr.cell? ⟨gb254, 8, none⟩ = some (.int .i64 a0_8) := (blk_cell BK254.out 8).trans rfl
                    have hcz35_9 : wr.cell? ⟨gb254, 9, none⟩ = some (.int .i64 a0_9) := (blk_cell BK254.out 9).trans rfl
                    have hcz35_10 : wr.cell? ⟨gb254, 10, none⟩ = some (.int .i64 a0_10) := (blk_cell BK254.out 10).trans rfl
                    have hcz35_11 : wr.cell? ⟨gb254, 11, none⟩ = some (.int .i64 a0_11) := (blk_cell BK254.out 11).trans rfl
                    have hfz35_0 := blk_frozen BK254.out 0
                    have hfz35_1 := blk_frozen BK254.out 1
                    have hfz35_2 := blk_frozen BK254.out 2
                    have hfz35_3 := blk_frozen BK254.out 3
                    have hfz35_4 := blk_frozen BK254.out 4
                    have hfz35_5 := blk_frozen BK254.out 5
                    have hfz35_6 := blk_frozen BK254.out 6
                    have hfz35_7 := blk_frozen BK254.out 7
                    have hfz35_8 := blk_frozen BK254.out 8
                    have hfz35_9 := blk_frozen BK254.out 9
                    have hfz35_10 := blk_frozen BK254.out 10
                    have hfz35_11 := blk_frozen BK254.out 11
                    go_wp2_with (first | (go_at_call 14; (with_reducible refine (score_Better.calls a0_0 a0_1 a0_2 a0_3 a0_4 a0_5 a0_6 a0_7 a0_8 a0_9 a0_10 a0_11 _ _ l1 _ _ l2 t261 _ ?side1 ?side2 ?side3 ?side4 A34.out).mono ?_); (case side1 => repeat (first | exact (Kd.C_below HR1.out HB.out) | (with_reducible refine Kd.C_alloc ?_ _) | (with_reducible refine Kd.C_drewN ?_ _) | (with_reducible refine Kd.C_drew ?_))); (case side2 => exact HC1.out); (case side3 => repeat (first | exact (Kd.C_below HR2.out HB.out) | (with_reducible refine Kd.C_alloc ?_ _) | (with_reducible refine Kd.C_drewN ?_ _) | (with_reducible refine Kd.C_drew ?_))); (case side4 => exact HC2.out); rintro e w36 ⟨rfl, hb⟩; have n0_ := Aside0.mk (blk_below (g := gb254) (o := .cells #[.int .i64 a0_0, .int .i64 a0_1, .int .i64 a0_2, .int .i64 a0_3, .int .i64 a0_4, .int .i64 a0_5, .int .i64 a0_6, .int .i64 a0_7, .int .i64 a0_8, .int .i64 a0_9, .int .i64 a0_10, .int .i64 a0_11] 33 (0, 0)) (by (with_reducible repeat (first | refine blk_drewN ?_ _ | refine blk_drew ?_ | refine blk_alloc ?_ _)); exact BK254.out) hb); have n1_ := Aside0.mk (below_step (by repeat (first | (with_reducible first | exact HB.out | apply below_alloc | apply pw_below_drewN | apply below_drew1 | refine below_set ?_ GE254.out) | exact HB.out)) hb); clear BK254; clear HB; have BK254 := n0_; have HB := n1_; clear n0_ n1_; (try clear hb); (try clear hb2); (try clear hk); (try clear hi)))
                    go_ret
                    exact ⟨by first | rfl | (simp [errW_none, errW_some] <;> rfl) | (simp [*, errW_none, errW_some] <;> rfl), by repeat (first | (with_reducible first | exact HB.out | apply below_alloc | apply pw_below_drewN | apply below_drew1 | refine below_set ?_ GE254.out) | exact HB.out)⟩
                  · replace c33 := Bool.eq_false_iff.mpr c33
                    subst c33
                    have H1 : (some false) = some r := by rw [if_neg (show ¬ (false = true) by decide)] at H; exact H
                    clear H
                    have H := H1
                    clear H1
                    obtain rfl := Option.some.inj H
                    have hcz37_0 : wr.cell? ⟨gb254, 0, none⟩ = some (.int .i64 a0_0) := (blk_cell BK254.out 0).trans rfl
                    have hcz37_1 : wr.cell? ⟨gb254, 1, none⟩ = some (.int .i64 a0_1) := (blk_cell BK254.out 1).trans rfl
                    have hcz37_2 : wr.cell? ⟨gb254, 2, none⟩ = some (.int .i64 a0_2) := (blk_cell BK254.out 2).trans rfl
                    have hcz37_3 : wr.cell? ⟨gb254, 3, none⟩ = some (.int .i64 a0_3) := (blk_cell BK254.out 3).trans rfl
                    have hcz37_4 : wr.cell? ⟨gb254, 4, none⟩ = some (.int .i64 a0_4) := (blk_cell BK254.out 4).trans rfl
                    have hcz37_5 : wr.cell? ⟨gb254, 5, none⟩ = some (.int .i64 a0_5) := (blk_cell BK254.out 5).trans rfl
                    have hcz37_6 : wr.cell? ⟨gb254, 6, none⟩ = some (.int .i64 a0_6) := (blk_cell BK254.out 6).trans rfl
                    have hcz37_7 : wr.cell? ⟨gb254, 7, none⟩ = some (.int .i64 a0_7) := (blk_cell BK254.out 7).trans rfl
                    have hcz37_8 : wr.cell? ⟨gb254, 8, none⟩ = some (.int .i64 a0_8) := (blk_cell BK254.out 8).trans rfl
                    have hcz37_9 : wr.cell? ⟨gb254, 9, none⟩ = some (.int .i64 a0_9) := (blk_cell BK254.out 9).trans rfl
                    have hcz37_10 : wr.cell? ⟨gb254, 10, none⟩ = some (.int .i64 a0_10) := (blk_cell BK254.out 10).trans rfl
                    have hcz37_11 : wr.cell? ⟨gb254, 11, none⟩ = some (.int .i64 a0_11) := (blk_cell BK254.out 11).trans rfl
                    have hfz37_0 := blk_frozen BK254.out 0
                    have hfz37_1 := blk_frozen BK254.out 1
                    have hfz37_2 := blk_frozen BK254.out 2
                    have hfz37_3 := blk_frozen BK254.out 3
                    have hfz37_4 := blk_frozen BK254.out 4
                    have hfz37_5 := blk_frozen BK254.out 5
                    have hfz37_6 := blk_frozen BK254.out 6
                    have hfz37_7 := blk_frozen BK254.out 7
                    have hfz37_8 := blk_frozen BK254.out 8
                    have hfz37_9 := blk_frozen BK254.out 9
                    have hfz37_10 := blk_frozen BK254.out 10
                    have hfz37_11 := blk_frozen BK254.out 11
                    go_wp2
                    go_ret
                    exact ⟨by first | rfl | (simp [errW_none, errW_some] <;> rfl) | (simp [*, errW_none, errW_some] <;> rfl), by repeat (first | (with_reducible first | exact HB.out | apply below_alloc | apply pw_below_drewN | apply below_drew1 | refine below_set ?_ GE254.out) | exact HB.out)⟩
              · rw [if_neg c24] at H
                have c24b0 : ((l1.length : Int) == a0_7) = false := beq_eq_false_iff_ne.mpr c24
                have c24b1 : ((l1.length : Int) != a0_7) = true := bne_iff_ne.mpr c24
                by_cases c38 : t255 = true
                · subst c38
                  have H1 : ((score_Better.f a0_0 a0_1 a0_2 a0_3 a0_4 a0_5 a0_6 a0_7 a0_8 a0_9 a0_10 a0_11 l1 l2).bind fun t262 => (some (!t262))) = some r := by rw [if_pos rfl] at H; exact H
                  clear H
                  have H := H1
                  clear H1
                  replace H := Option.bind_eq_some_iff.mp H
                  obtain ⟨t262, A390, H⟩ := H
                  replace H : (some (!t262)) = some r := H
                  have A39 := Aside0.mk A390
                  clear A390
                  obtain rfl := Option.some.inj H
                  have hcz40_0 : wr.cell? ⟨gb254, 0, none⟩ = some (.int .i64 a0_0) := (blk_cell BK254.out 0).trans rfl
                  have hcz40_1 : wr.cell? ⟨gb254, 1, none⟩ = some (.int .i64 a0_1) := (blk_cell BK254.out 1).trans rfl
                  have hcz40_2 : wr.cell? ⟨gb254, 2, none⟩ = some (.int .i64 a0_2) := (blk_cell BK254.out 2).trans rfl
                  have hcz40_3 : wr.cell? ⟨gb254, 3, none⟩ = some (.int .i64 a0_3) := (blk_cell BK254.out 3).trans rfl
                  have hcz40_4 : wr.cell? ⟨gb254, 4, none⟩ = some (.int .i64 a0_4) := (blk_cell BK254.out 4).trans rfl
                  have hcz40_5 : wr.cell? ⟨gb254, 5, none⟩ = some (.int .i64 a0_5) := (blk_cell BK254.out 5).trans rfl
                  have hcz40_6 : wr.cell? ⟨gb254, 6, none⟩ = some (.int .i64 a0_6) := (blk_cell BK254.out 6).trans rfl
                  have hcz40_7 : wr.cell? ⟨gb254, 7, none⟩ = some (.int .i64 a0_7) := (blk_cell BK254.out 7).trans rfl
                  have hcz40_8 : wr.cell? ⟨gb254, 8, none⟩ = some (.int .i64 a0_8) := (blk_cell BK254.out 8).trans rfl
                  have hcz40_9 : wr.cell? ⟨gb254, 9, none⟩ = some (.int .i64 a0_9) := (blk_cell BK254.out 9).trans rfl
                  have hcz40_10 : wr.cell? ⟨gb254, 10, none⟩ = some (.int .i64 a0_10) := (blk_cell BK254.out 10).trans rfl
                  have hcz40_11 : wr.cell? ⟨gb254, 11, none⟩ = some (.int .i64 a0_11) := (blk_cell BK254.out 11).trans rfl
                  have hfz40_0 := blk_frozen BK254.out 0
                  have hfz40_1 := blk_frozen BK254.out 1
                  have hfz40_2 := blk_frozen BK254.out 2
                  have hfz40_3 := blk_frozen BK254.out 3
                  have hfz40_4 := blk_frozen BK254.out 4
                  have hfz40_5 := blk_frozen BK254.out 5
                  have hfz40_6 := blk_frozen BK254.out 6
                  have hfz40_7 := blk_frozen BK254.out 7
                  have hfz40_8 := blk_frozen BK254.out 8
                  have hfz40_9 := blk_frozen BK254.out 9
                  have hfz40_10 := blk_frozen BK254.out 10
                  have hfz40_11 := blk_frozen BK254.out 11
                  go_wp2_with (first | (go_at_call 14; (with_reducible refine (score_Better.calls a0_0 a0_1 a0_2 a0_3 a0_4 a0_5 a0_6 a0_7 a0_8 a0_9 a0_10 a0_11 _ _ l1 _ _ l2 t262 _ ?side1 ?side2 ?side3 ?side4 A39.out).mono ?_); (case side1 => repeat (first | exact (Kd.C_below HR1.out HB.out) | (with_reducible refine Kd.C_alloc ?_ _) | (with_reducible refine Kd.C_drewN ?_ _) | (with_reducible refine Kd.C_drew ?_))); (case side2 => exact HC1.out); (case side3 => repeat (first | exact (Kd.C_below HR2.out HB.out) | (with_reducible refine Kd.C_alloc ?_ _) | (with_reducible refine Kd.C_drewN ?_ _) | (with_reducible refine Kd.C_drew ?_))); (case side4 => exact HC2.out); rintro e w41 ⟨rfl, hb⟩; have n0_ := Aside0.mk (blk_below (g := gb254) (o := .cells #[.int .i64 a0_0, .int .i64 a0_1, .int .i64 a0_2, .int .i64 a0_3, .int .i64 a0_4, .int .i64 a0_5, .int .i64 a0_6, .int .i64 a0_7, .int .i64 a0_8, .int .i64 a0_9, .int .i64 a0_10, .int .i64 a0_11] 33 (0, 0)) (by (with_reducible repeat (first | refine blk_drewN ?_ _ | refine blk_drew ?_ | refine blk_alloc ?_ _)); exact BK254.out) hb); have n1_ := Aside0.mk (below_step (by repeat (first | (with_reducible first | exact HB.out | apply below_alloc | apply pw_below_drewN | apply below_drew1 | refine below_set ?_ GE254.out) | exact HB.out)) hb); clear BK254; clear HB; have BK254 := n0_; have HB := n1_; clear n0_ n1_; (try clear hb); (try clear hb2); (try clear hk); (try clear hi)))
                  go_ret
                  exact ⟨by first | rfl | (simp [errW_none, errW_some] <;> rfl) | (simp [*, errW_none, errW_some] <;> rfl), by repeat (first | (with_reducible first | exact HB.out | apply below_alloc | apply pw_below_drewN | apply below_drew1 | refine below_set ?_ GE254.out) | exact HB.out)⟩
                · replace c38 := Bool.eq_false_iff.mpr c38
                  subst c38
                  have H1 : (some false) = some r := by rw [if_neg (show ¬ (false = true) by decide)] at H; exact H
                  clear H
                  have H := H1
                  clear H1
                  obtain rfl := Option.some.inj H
                  have hcz42_0 : wr.cell? ⟨gb254, 0, none⟩ = some (.int .i64 a0_0) := (blk_cell BK254.out 0).trans rfl
                  have hcz42_1 : wr.cell? ⟨gb254, 1, none⟩ = some (.int .i64 a0_1) := (blk_cell BK254.out 1).trans rfl
                  have hcz42_2 : wr.cell? ⟨gb254, 2, none⟩ = some (.int .i64 a0_2) := (blk_cell BK254.out 2).trans rfl
                  have hcz42_3 : wr.cell? ⟨gb254, 3, none⟩ = some (.int .i64 a0_3) := (blk_cell BK254.out 3).trans rfl
                  have hcz42_4 : wr.cell? ⟨gb254, 4, none⟩ = some (.int .i64 a0_4) := (blk_cell BK254.out 4).trans rfl
                  have hcz42_5 : wr.cell? ⟨gb254, 5, none⟩ = some (.int .i64 a0_5) := (blk_cell BK254.out 5).trans rfl
                  have hcz42_6 : wr.cell? ⟨gb254, 6, none⟩ = some (.int .i64 a0_6) := (blk_cell BK254.out 6).trans rfl
                  have hcz42_7 : wr.cell? ⟨gb254, 7, none⟩ = some (.int .i64 a0_7) := (blk_cell BK254.out 7).trans rfl
                  have hcz42_8 : wr.cell? ⟨gb254, 8, none⟩ = some (.int .i64 a0_8) := (blk_cell BK254.out 8).trans rfl
                  have hcz42_9 : wr.cell? ⟨gb254, 9, none⟩ = some (.int .i64 a0_9) := (blk_cell BK254.out 9).trans rfl
                  have hcz42_10 : wr.cell? ⟨gb254, 10, none⟩ = some (.int .i64 a0_10) := (blk_cell BK254.out 10).trans rfl
                  have hcz42_11 : wr.cell? ⟨gb254, 11, none⟩ = some (.int .i64 a0_11) := (blk_cell BK254.out 11).trans rfl
                  have hfz42_0 := blk_frozen BK254.out 0
                  have hfz42_1 := blk_frozen BK254.out 1
                  have hfz42_2 := blk_frozen BK254.out 2
                  have hfz42_3 := blk_frozen BK254.out 3
                  have hfz42_4 := blk_frozen BK254.out 4
                  have hfz42_5 := blk_frozen BK254.out 5
                  have hfz42_6 := blk_frozen BK254.out 6
                  have hfz42_7 := blk_frozen BK254.out 7
                  have hfz42_8 := blk_frozen BK254.out 8
                  have hfz42_9 := blk_frozen BK254.out 9
                  have hfz42_10 := blk_frozen BK254.out 10
                  have hfz42_11 := blk_frozen BK254.out 11
                  go_wp2
                  go_ret
                  exact ⟨by first | rfl | (simp [errW_none, errW_some] <;> rfl) | (simp [*, errW_none, errW_some] <;> rfl), by repeat (first | (with_reducible first | exact HB.out | apply below_alloc | apply pw_below_drewN | apply below_drew1 | refine below_set ?_ GE254.out) | exact HB.out)⟩

end Go.Proofs.Ytjekpfaldbeocaa.Print
