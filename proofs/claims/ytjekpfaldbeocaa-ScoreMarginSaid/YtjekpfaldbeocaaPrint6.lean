/- Functions of the program as Lean functions, and that its calls come to them; written by a program of this claim over the kit print; Lean checks it. -/
import Derived.Test.YtjekpfaldbeocaaPrint0
import Derived.Test.YtjekpfaldbeocaaPrint3
import Derived.Test.YtjekpfaldbeocaaPrint4
import Derived.Test.YtjekpfaldbeocaaPrint5
namespace Go.Proofs.Ytjekpfaldbeocaa.Print
open Go.RowKit Go.Proofs.YtjekpfaldbeocaaW.PrintWords Go.Proofs.YtjekpfaldbeocaaW.PrintLast Go.Proofs.YtjekpfaldbeocaaW.PrintMore
attribute [local go_sem] max2_int min2_int max_two min_two max_three min_three max_four min_four   -- for this text's walks alone
set_option linter.unusedVariables false
set_option linter.unusedSimpArgs false

/-! ### governorlaw17_ScoreMargin: function 5 -/
mutual
def governorlaw17_ScoreMargin.j0 : Nat → List (S27) → List (S27) → Int → Int → Bool → Bool → Int → Int → Int → Int → Int → Int → Int → Int → Int → Int → Int → Int → Option (Bool)
  | 0, _, _, _, _, _, _, _, _, _, _, _, _, _, _, _, _, _, _ => none
  | k + 1, x1, x2, x3, x4, x11, x29, x212000, x212001, x212002, x212003, x212004, x212005, x212006, x212007, x212008, x212009, x212010, x212011 => if x29 = true then (some x11) else ((score_Better.f x212000 x212001 x212002 x212003 x212004 x212005 x212006 x212007 x212008 x212009 x212010 x212011 x1 x2).bind fun t216 => (if x212008 > 0 then (if t216 = true then ((score_Better.f x212000 x212001 x212002 x212003 x212004 x212005 x212006 x212007 x212008 x212009 x212010 x212011 x2 x1).bind fun t217 => (governorlaw17_ScoreMargin.j1 k x1 x2 x3 x4 x11 t216 t217 x212000 x212001 x212002 x212003 x212004 x212005 x212006 x212007 x212008 x212009 x212010 x212011)) else (governorlaw17_ScoreMargin.j1 k x1 x2 x3 x4 x11 t216 false x212000 x212001 x212002 x212003 x212004 x212005 x212006 x212007 x212008 x212009 x212010 x212011)) else (governorlaw17_ScoreMargin.j1 k x1 x2 x3 x4 x11 t216 false x212000 x212001 x212002 x212003 x212004 x212005 x212006 x212007 x212008 x212009 x212010 x212011)))
def governorlaw17_ScoreMargin.j1 : Nat → List (S27) → List (S27) → Int → Int → Bool → Bool → Bool → Int → Int → Int → Int → Int → Int → Int → Int → Int → Int → Int → Int → Option (Bool)
  | 0, _, _, _, _, _, _, _, _, _, _, _, _, _, _, _, _, _, _, _ => none
  | k + 1, x1, x2, x3, x4, x11, x12, x46, x212000, x212001, x212002, x212003, x212004, x212005, x212006, x212007, x212008, x212009, x212010, x212011 => if x46 = true then (some false) else (if x12 = true then ((some (([] : List (S27)) : List (S27))).bind fun y218 => (if y218.length + x2.length < 8796093022208 then ((some (y218 ++ x2 : List (S27))).bind fun y221 => (if (y221.length : Int) = 0 then (none) else (if 0 ≤ (Int.tmod (wrap64 (x3)) (y221.length : Int)) then (if (Int.tmod (wrap64 (x3)) (y221.length : Int)) < (y221.length : Int) then ((some (([] : List (S27)) : List (S27))).bind fun y226 => (if y226.length + x1.length < 8796093022208 then ((some (y226 ++ x1 : List (S27))).bind fun y229 => (if (Int.tmod (wrap64 (x3)) (y221.length : Int)) < (y229.length : Int) then (if x11 = true then ((score_Better.f x212000 x212001 x212002 x212003 x212004 x212005 x212006 x212007 x212008 x212009 x212010 x212011 x1 (y221.set ((Int.tmod (wrap64 (x3)) (y221.length : Int)) : Int).toNat (⟨mx 0 (wrap64 (((rd_T27 y221 (Int.tmod (wrap64 (x3)) (y221.length : Int))).f0) - (wrap64 (x4)))), false⟩ : S27))).bind fun t234 => (if t234 = true then ((score_Better.f x212000 x212001 x212002 x212003 x212004 x212005 x212006 x212007 x212008 x212009 x212010 x212011 (y229.set ((Int.tmod (wrap64 (x3)) (y221.length : Int)) : Int).toNat (⟨mn 1000000000 (wrap64 (((rd_T27 y229 (Int.tmod (wrap64 (x3)) (y221.length : Int))).f0) + (wrap64 (x4)))), (rd_T27 y229 (Int.tmod (wrap64 (x3)) (y221.length : Int))).f1⟩ : S27)) x2).bind fun t235 => (some t235)) else (some false))) else (some false)) else (none))) else (none))) else (none)) else (none)))) else (none))) else (some x11))
end
def governorlaw17_ScoreMargin.f (k : Nat) (a0_0 : Int) (a0_1 : Int) (a0_2 : Int) (a0_3 : Int) (a0_4 : Int) (a0_5 : Int) (a0_6 : Int) (a0_7 : Int) (a0_8 : Int) (a0_9 : Int) (a0_10 : Int) (a0_11 : Int) (l1 : List (S27)) (l2 : List (S27)) (a3 : Int) (a4 : Int) : Option (Bool) := (governorlaw17_head.f k).bind fun t212 => ((governorref09_Conf.f a0_0 a0_1 a0_2 a0_3 a0_4 a0_5 a0_6 a0_7 a0_8 a0_9 a0_10 a0_11).bind fun t213 => (if t213 = true then ((governorlaw17_right.f k l1).bind fun t214 => (if t214 = true then ((governorlaw17_right.f k l2).bind fun t215 => (governorlaw17_ScoreMargin.j0 k l1 l2 a3 a4 t212 (!t215) a0_0 a0_1 a0_2 a0_3 a0_4 a0_5 a0_6 a0_7 a0_8 a0_9 a0_10 a0_11)) else (governorlaw17_ScoreMargin.j0 k l1 l2 a3 a4 t212 true a0_0 a0_1 a0_2 a0_3 a0_4 a0_5 a0_6 a0_7 a0_8 a0_9 a0_10 a0_11))) else (governorlaw17_ScoreMargin.j0 k l1 l2 a3 a4 t212 true a0_0 a0_1 a0_2 a0_3 a0_4 a0_5 a0_6 a0_7 a0_8 a0_9 a0_10 a0_11)))
theorem governorlaw17_ScoreMargin.mono_l : ∀ k, (∀ y0 y1 y2 y3 y4 y5 y6 y7 y8 y9 y10 y11 y12 y13 y14 y15 y16 y17, LeO (governorlaw17_ScoreMargin.j0 k y0 y1 y2 y3 y4 y5 y6 y7 y8 y9 y10 y11 y12 y13 y14 y15 y16 y17) (governorlaw17_ScoreMargin.j0 (k + 1) y0 y1 y2 y3 y4 y5 y6 y7 y8 y9 y10 y11 y12 y13 y14 y15 y16 y17)) ∧ (∀ y0 y1 y2 y3 y4 y5 y6 y7 y8 y9 y10 y11 y12 y13 y14 y15 y16 y17 y18, LeO (governorlaw17_ScoreMargin.j1 k y0 y1 y2 y3 y4 y5 y6 y7 y8 y9 y10 y11 y12 y13 y14 y15 y16 y17 y18) (governorlaw17_ScoreMargin.j1 (k + 1) y0 y1 y2 y3 y4 y5 y6 y7 y8 y9 y10 y11 y12 y13 y14 y15 y16 y17 y18))
  | 0 => ⟨fun _ _ _ _ _ _ _ _ _ _ _ _ _ _ _ _ _ _ r h => by simp [governorlaw17_ScoreMargin.j0] at h, fun _ _ _ _ _ _ _ _ _ _ _ _ _ _ _ _ _ _ _ r h => by simp [governorlaw17_ScoreMargin.j1] at h⟩
  | k + 1 => by
    obtain ⟨ih0, ih1⟩ := governorlaw17_ScoreMargin.mono_l k
    refine ⟨?_, ?_⟩
    · intro y0 y1 y2 y3 y4 y5 y6 y7 y8 y9 y10 y11 y12 y13 y14 y15 y16 y17
      unfold governorlaw17_ScoreMargin.j0
      repeat' first
      | (with_reducible exact ih0 _ _ _ _ _ _ _ _ _ _ _ _ _ _ _ _ _ _)
      | (with_reducible exact ih1 _ _ _ _ _ _ _ _ _ _ _ _ _ _ _ _ _ _ _)
      | (with_reducible exact governorlaw17_head.mono _)
      | (with_reducible exact governorlaw17_right.mono _ _)
      | (with_reducible exact LeO.refl _)
      | (with_reducible exact LeO.none _)
      | (with_reducible refine LeO.ite ?_ ?_)
      | (with_reducible refine LeO.bind ?_ (fun _ => ?_))
      | exact ih0 _ _ _ _ _ _ _ _ _ _ _ _ _ _ _ _ _ _
      | exact ih1 _ _ _ _ _ _ _ _ _ _ _ _ _ _ _ _ _ _ _
      | exact governorlaw17_head.mono _
      | exact governorlaw17_right.mono _ _
      | exact LeO.none _
      | refine LeO.ite ?_ ?_
      | refine LeO.bind ?_ (fun _ => ?_)
    · intro y0 y1 y2 y3 y4 y5 y6 y7 y8 y9 y10 y11 y12 y13 y14 y15 y16 y17 y18
      unfold governorlaw17_ScoreMargin.j1
      repeat' first
      | (with_reducible exact ih0 _ _ _ _ _ _ _ _ _ _ _ _ _ _ _ _ _ _)
      | (with_reducible exact ih1 _ _ _ _ _ _ _ _ _ _ _ _ _ _ _ _ _ _ _)
      | (with_reducible exact governorlaw17_head.mono _)
      | (with_reducible exact governorlaw17_right.mono _ _)
      | (with_reducible exact LeO.refl _)
      | (with_reducible exact LeO.none _)
      | (with_reducible refine LeO.ite ?_ ?_)
      | (with_reducible refine LeO.bind ?_ (fun _ => ?_))
      | exact ih0 _ _ _ _ _ _ _ _ _ _ _ _ _ _ _ _ _ _
      | exact ih1 _ _ _ _ _ _ _ _ _ _ _ _ _ _ _ _ _ _ _
      | exact governorlaw17_head.mono _
      | exact governorlaw17_right.mono _ _
      | exact LeO.none _
      | refine LeO.ite ?_ ?_
      | refine LeO.bind ?_ (fun _ => ?_)
theorem governorlaw17_ScoreMargin.mono : ∀ a0 a1 a2 a3 a4 a5 a6 a7 a8 a9 a10 a11 a12 a13 a14 a15 k, LeO (governorlaw17_ScoreMargin.f k a0 a1 a2 a3 a4 a5 a6 a7 a8 a9 a10 a11 a12 a13 a14 a15) (governorlaw17_ScoreMargin.f (k + 1) a0 a1 a2 a3 a4 a5 a6 a7 a8 a9 a10 a11 a12 a13 a14 a15) := by
  intro a0 a1 a2 a3 a4 a5 a6 a7 a8 a9 a10 a11 a12 a13 a14 a15 k
  obtain ⟨ih0, ih1⟩ := governorlaw17_ScoreMargin.mono_l k
  unfold governorlaw17_ScoreMargin.f
  repeat' first
      | (with_reducible exact ih0 _ _ _ _ _ _ _ _ _ _ _ _ _ _ _ _ _ _)
      | (with_reducible exact ih1 _ _ _ _ _ _ _ _ _ _ _ _ _ _ _ _ _ _ _)
      | (with_reducible exact governorlaw17_head.mono _)
      | (with_reducible exact governorlaw17_right.mono _ _)
      | (with_reducible exact LeO.refl _)
      | (with_reducible exact LeO.none _)
      | (with_reducible refine LeO.ite ?_ ?_)
      | (with_reducible refine LeO.bind ?_ (fun _ => ?_))
      | exact ih0 _ _ _ _ _ _ _ _ _ _ _ _ _ _ _ _ _ _
      | exact ih1 _ _ _ _ _ _ _ _ _ _ _ _ _ _ _ _ _ _ _
      | exact governorlaw17_head.mono _
      | exact governorlaw17_right.mono _ _
      | exact LeO.none _
      | refine LeO.ite ?_ ?_
      | refine LeO.bind ?_ (fun _ => ?_)
set_option maxHeartbeats 8000000 in
set_option maxRecDepth 100000 in
theorem governorlaw17_ScoreMargin.calls (k : Nat) (a0_0 : Int) (a0_1 : Int) (a0_2 : Int) (a0_3 : Int) (a0_4 : Int) (a0_5 : Int) (a0_6 : Int) (a0_7 : Int) (a0_8 : Int) (a0_9 : Int) (a0_10 : Int) (a0_11 : Int) (A1 : Option Addr) (c1 : Nat) (l1 : List (S27)) (A2 : Option Addr) (c2 : Nat) (l2 : List (S27)) (a3 : Int) (a4 : Int) (r : Bool) (w : World) (hr1 : Kd.C k27 w A1 l1.length l1) (hc1 : l1.length ≤ c1) (hr2 : Kd.C k27 w A2 l2.length l2) (hc2 : l2.length ≤ c2) (h : governorlaw17_ScoreMargin.f k a0_0 a0_1 a0_2 a0_3 a0_4 a0_5 a0_6 a0_7 a0_8 a0_9 a0_10 a0_11 l1 l2 a3 a4 = some r) :
    Calls Try.prog 5 #[.agg #[.int .i64 a0_0, .int .i64 a0_1, .int .i64 a0_2, .int .i64 a0_3, .int .i64 a0_4, .int .i64 a0_5, .int .i64 a0_6, .int .i64 a0_7, .int .i64 a0_8, .int .i64 a0_9, .int .i64 a0_10, .int .i64 a0_11], .slice A1 l1.length c1, .slice A2 l2.length c2, .int .u8 a3, .int .u16 a4] w fun e w' => e = .returned (.bool r) ∧ Below w.heap.size w w' := by
  have hu33 := Try.underlying33
  have hu27 := Try.underlying27
  have HR1 := Aside0.mk hr1
  have HC1 := Aside0.mk hc1
  clear hr1 hc1
  have HR2 := Aside0.mk hr2
  have HC2 := Aside0.mk hc2
  clear hr2 hc2
  have HB := Aside0.mk (Below.refl w.heap.size w)
  have H : ((governorlaw17_head.f k).bind fun t212 => ((governorref09_Conf.f a0_0 a0_1 a0_2 a0_3 a0_4 a0_5 a0_6 a0_7 a0_8 a0_9 a0_10 a0_11).bind fun t213 => (if t213 = true then ((governorlaw17_right.f k l1).bind fun t214 => (if t214 = true then ((governorlaw17_right.f k l2).bind fun t215 => (governorlaw17_ScoreMargin.j0 k l1 l2 a3 a4 t212 (!t215) a0_0 a0_1 a0_2 a0_3 a0_4 a0_5 a0_6 a0_7 a0_8 a0_9 a0_10 a0_11)) else (governorlaw17_ScoreMargin.j0 k l1 l2 a3 a4 t212 true a0_0 a0_1 a0_2 a0_3 a0_4 a0_5 a0_6 a0_7 a0_8 a0_9 a0_10 a0_11))) else (governorlaw17_ScoreMargin.j0 k l1 l2 a3 a4 t212 true a0_0 a0_1 a0_2 a0_3 a0_4 a0_5 a0_6 a0_7 a0_8 a0_9 a0_10 a0_11)))) = some r := h
  clear h
  replace H := Option.bind_eq_some_iff.mp H
  obtain ⟨t212, A60, H⟩ := H
  replace H : ((governorref09_Conf.f a0_0 a0_1 a0_2 a0_3 a0_4 a0_5 a0_6 a0_7 a0_8 a0_9 a0_10 a0_11).bind fun t213 => (if t213 = true then ((governorlaw17_right.f k l1).bind fun t214 => (if t214 = true then ((governorlaw17_right.f k l2).bind fun t215 => (governorlaw17_ScoreMargin.j0 k l1 l2 a3 a4 t212 (!t215) a0_0 a0_1 a0_2 a0_3 a0_4 a0_5 a0_6 a0_7 a0_8 a0_9 a0_10 a0_11)) else (governorlaw17_ScoreMargin.j0 k l1 l2 a3 a4 t212 true a0_0 a0_1 a0_2 a0_3 a0_4 a0_5 a0_6 a0_7 a0_8 a0_9 a0_10 a0_11))) else (governorlaw17_ScoreMargin.j0 k l1 l2 a3 a4 t212 true a0_0 a0_1 a0_2 a0_3 a0_4 a0_5 a0_6 a0_7 a0_8 a0_9 a0_10 a0_11))) = some r := H
  have A6 := Aside0.mk A60
  clear A60
  have HC7 := Aside0.mk H
  clear H
  go_enter Try.func5, Try.ntmps5
  go_upto_region 2 with (first | ((with_reducible refine gate_dst (N := 5) rfl ?_); refine box_event ?hg (N := 5) ?hd (cs := #[.int .i64 a0_0, .int .i64 a0_1, .int .i64 a0_2, .int .i64 a0_3, .int .i64 a0_4, .int .i64 a0_5, .int .i64 a0_6, .int .i64 a0_7, .int .i64 a0_8, .int .i64 a0_9, .int .i64 a0_10, .int .i64 a0_11]) (t := 33) ?hr ?_; (case hd => rfl); (case hg => rfl); (case hr => first | (go_simp; done) | (go_simp; rfl)); intro gb211 hg w8 hbox hb; have n0_ := Aside0.mk (below_step (by repeat (first | (with_reducible first | exact HB.out | apply below_alloc | apply pw_below_drewN | apply below_drew1) | exact HB.out)) hb); have n1_ := Aside0.mk (hbox); have n2_ := Aside0.mk ((by rw [hg]; exact (below_size (by repeat (first | (with_reducible first | exact HB.out | apply below_alloc | apply pw_below_drewN | apply below_drew1) | exact HB.out))) : w.heap.size ≤ gb211)); have n3_ := Aside0.mk ((by rw [hg]; exact (below_size (by repeat (first | (with_reducible first | exact HB.out | apply below_alloc | apply pw_below_drewN | apply below_drew1) | exact HB.out))) : w.heap.size ≤ gb211)); clear HB; have HB := n0_; have BK211 := n1_; have GW211 := n2_; have GE211 := n3_; clear n0_ n1_ n2_ n3_; clear hb hbox hg) | ((with_reducible refine gate_callee (f := 7) rfl ?_); refine goesL_ (some 16) rfl rfl Try.func7 (by kernel_rfl) rfl #[] rfl (by (try simp only [List.map_toArray, List.map_cons, List.map_nil]); first | done | rfl | (simp only [List.length_drop, List.length_take]; rfl)) ?_; (with_reducible refine (governorlaw17_head.calls k  t212 _ A6.out).mono ?_); rintro e w9 ⟨rfl, hb⟩; refine ⟨_, rfl, ?_⟩; have n0_ := Aside0.mk (blk_below (g := gb211) (o := .cells #[.int .i64 a0_0, .int .i64 a0_1, .int .i64 a0_2, .int .i64 a0_3, .int .i64 a0_4, .int .i64 a0_5, .int .i64 a0_6, .int .i64 a0_7, .int .i64 a0_8, .int .i64 a0_9, .int .i64 a0_10, .int .i64 a0_11] 33 (0, 0)) (by (with_reducible repeat (first | refine blk_drewN ?_ _ | refine blk_drew ?_ | refine blk_alloc ?_ _)); exact BK211.out) hb); have n1_ := Aside0.mk (below_step (by repeat (first | (with_reducible first | exact HB.out | apply below_alloc | apply pw_below_drewN | apply below_drew1 | refine below_set ?_ GE211.out) | exact HB.out)) hb); clear BK211; clear HB; have BK211 := n0_; have HB := n1_; clear n0_ n1_; (try clear hb); (try clear hb2); (try clear hk); (try clear hi)))
  (try simp only [Act.put, List.setIfInBounds_toArray, List.set_cons_zero, List.set_cons_succ])
  go_cut [29] (fun v29 wc => ∃ (kq : Nat) (x29_6 : Bool), v29 = .bool x29_6 ∧ Aside0 (governorlaw17_ScoreMargin.j0 kq l1 l2 a3 a4 t212 x29_6 a0_0 a0_1 a0_2 a0_3 a0_4 a0_5 a0_6 a0_7 a0_8 a0_9 a0_10 a0_11 = some r) ∧ Aside0 (kq ≤ k) ∧ Aside0 (wc.heap[gb211]? = some (.cells #[.int .i64 a0_0, .int .i64 a0_1, .int .i64 a0_2, .int .i64 a0_3, .int .i64 a0_4, .int .i64 a0_5, .int .i64 a0_6, .int .i64 a0_7, .int .i64 a0_8, .int .i64 a0_9, .int .i64 a0_10, .int .i64 a0_11] 33 (0, 0))) ∧ Aside0 (Below w.heap.size w wc))
  case first =>
    have H := HC7.out
    clear HC7
    replace H := Option.bind_eq_some_iff.mp H
    obtain ⟨t213, A100, H⟩ := H
    replace H : (if t213 = true then ((governorlaw17_right.f k l1).bind fun t214 => (if t214 = true then ((governorlaw17_right.f k l2).bind fun t215 => (governorlaw17_ScoreMargin.j0 k l1 l2 a3 a4 t212 (!t215) a0_0 a0_1 a0_2 a0_3 a0_4 a0_5 a0_6 a0_7 a0_8 a0_9 a0_10 a0_11)) else (governorlaw17_ScoreMargin.j0 k l1 l2 a3 a4 t212 true a0_0 a0_1 a0_2 a0_3 a0_4 a0_5 a0_6 a0_7 a0_8 a0_9 a0_10 a0_11))) else (governorlaw17_ScoreMargin.j0 k l1 l2 a3 a4 t212 true a0_0 a0_1 a0_2 a0_3 a0_4 a0_5 a0_6 a0_7 a0_8 a0_9 a0_10 a0_11)) = some r := H
    have A10 := Aside0.mk A100
    clear A100
    by_cases c11 : t213 = true
    · subst c11
      have H1 : ((governorlaw17_right.f k l1).bind fun t214 => (if t214 = true then ((governorlaw17_right.f k l2).bind fun t215 => (governorlaw17_ScoreMargin.j0 k l1 l2 a3 a4 t212 (!t215) a0_0 a0_1 a0_2 a0_3 a0_4 a0_5 a0_6 a0_7 a0_8 a0_9 a0_10 a0_11)) else (governorlaw17_ScoreMargin.j0 k l1 l2 a3 a4 t212 true a0_0 a0_1 a0_2 a0_3 a0_4 a0_5 a0_6 a0_7 a0_8 a0_9 a0_10 a0_11))) = some r := by rw [if_pos rfl] at H; exact H
      clear H
      have H := H1
      clear H1
      replace H := Option.bind_eq_some_iff.mp H
      obtain ⟨t214, A120, H⟩ := H
      replace H : (if t214 = true then ((governorlaw17_right.f k l2).bind fun t215 => (governorlaw17_ScoreMargin.j0 k l1 l2 a3 a4 t212 (!t215) a0_0 a0_1 a0_2 a0_3 a0_4 a0_5 a0_6 a0_7 a0_8 a0_9 a0_10 a0_11)) else (governorlaw17_ScoreMargin.j0 k l1 l2 a3 a4 t212 true a0_0 a0_1 a0_2 a0_3 a0_4 a0_5 a0_6 a0_7 a0_8 a0_9 a0_10 a0_11)) = some r := H
      have A12 := Aside0.mk A120
      clear A120
      by_cases c13 : t214 = true
      · subst c13
        have H1 : ((governorlaw17_right.f k l2).bind fun t215 => (governorlaw17_ScoreMargin.j0 k l1 l2 a3 a4 t212 (!t215) a0_0 a0_1 a0_2 a0_3 a0_4 a0_5 a0_6 a0_7 a0_8 a0_9 a0_10 a0_11)) = some r := by rw [if_pos rfl] at H; exact H
        clear H
        have H := H1
        clear H1
        replace H := Option.bind_eq_some_iff.mp H
        obtain ⟨t215, A140, H⟩ := H
        replace H : (governorlaw17_ScoreMargin.j0 k l1 l2 a3 a4 t212 (!t215) a0_0 a0_1 a0_2 a0_3 a0_4 a0_5 a0_6 a0_7 a0_8 a0_9 a0_10 a0_11) = some r := H
        have A14 := Aside0.mk A140
        clear A140
        have H' := Aside0.mk H
        clear H
        have hcz15_0 : w9.cell? ⟨gb211, 0, none⟩ = some (.int .i64 a0_0) := (blk_cell BK211.out 0).trans rfl
        have hcz15_1 : w9.cell? ⟨gb211, 1, none⟩ = some (.int .i64 a0_1) := (blk_cell BK211.out 1).trans rfl
        have hcz15_2 : w9.cell? ⟨gb211, 2, none⟩ = some (.int .i64 a0_2) := (blk_cell BK211.out 2).trans rfl
        have hcz15_3 : w9.cell? ⟨gb211, 3, none⟩ = some (.int .i64 a0_3) := (blk_cell BK211.out 3).trans rfl
        have hcz15_4 : w9.cell? ⟨gb211, 4, none⟩ = some (.int .i64 a0_4) := (blk_cell BK211.out 4).trans rfl
        have hcz15_5 : w9.cell? ⟨gb211, 5, none⟩ = some (.int .i64 a0_5) := (blk_cell BK211.out 5).trans rfl
        have hcz15_6 : w9.cell? ⟨gb211, 6, none⟩ = some (.int .i64 a0_6) := (blk_cell BK211.out 6).trans rfl
        have hcz15_7 : w9.cell? ⟨gb211, 7, none⟩ = some (.int .i64 a0_7) := (blk_cell BK211.out 7).trans rfl
        have hcz15_8 : w9.cell? ⟨gb211, 8, none⟩ = some (.int .i64 a0_8) := (blk_cell BK211.out 8).trans rfl
        have hcz15_9 : w9.cell? ⟨gb211, 9, none⟩ = some (.int .i64 a0_9) := (blk_cell BK211.out 9).trans rfl
        have hcz15_10 : w9.cell? ⟨gb211, 10, none⟩ = some (.int .i64 a0_10) := (blk_cell BK211.out 10).trans rfl
        have hcz15_11 : w9.cell? ⟨gb211, 11, none⟩ = some (.int .i64 a0_11) := (blk_cell BK211.out 11).trans rfl
        have hfz15_0 := blk_frozen BK211.out 0
        have hfz15_1 := blk_frozen BK211.out 1
        have hfz15_2 := blk_frozen BK211.out 2
        have hfz15_3 := blk_frozen BK211.out 3
        have hfz15_4 := blk_frozen BK211.out 4
        have hfz15_5 := blk_frozen BK211.out 5
        have hfz15_6 := blk_frozen BK211.out 6
        have hfz15_7 := blk_frozen BK211.out 7
        have hfz15_8 := blk_frozen BK211.out 8
        have hfz15_9 := blk_frozen BK211.out 9
        have hfz15_10 := blk_frozen BK211.out 10
        have hfz15_11 := blk_frozen BK211.out 11
        go_wp2_with (first | ((with_reducible refine gate_callee (f := 13) rfl ?_); refine goesL_ (some 18) rfl rfl Try.func13 (by kernel_rfl) rfl #[.agg #[.int .i64 a0_0, .int .i64 a0_1, .int .i64 a0_2, .int .i64 a0_3, .int .i64 a0_4, .int .i64 a0_5, .int .i64 a0_6, .int .i64 a0_7, .int .i64 a0_8, .int .i64 a0_9, .int .i64 a0_10, .int .i64 a0_11]] rfl (by (try simp only [List.map_toArray, List.map_cons, List.map_nil]); first | done | rfl | (simp only [List.length_drop, List.length_take]; rfl)) ?_; (with_reducible refine (governorref09_Conf.calls a0_0 a0_1 a0_2 a0_3 a0_4 a0_5 a0_6 a0_7 a0_8 a0_9 a0_10 a0_11 true _ A10.out).mono ?_); rintro e w16 ⟨rfl, hb⟩; refine ⟨_, rfl, ?_⟩; have n0_ := Aside0.mk (blk_below (g := gb211) (o := .cells #[.int .i64 a0_0, .int .i64 a0_1, .int .i64 a0_2, .int .i64 a0_3, .int .i64 a0_4, .int .i64 a0_5, .int .i64 a0_6, .int .i64 a0_7, .int .i64 a0_8, .int .i64 a0_9, .int .i64 a0_10, .int .i64 a0_11] 33 (0, 0)) (by (with_reducible repeat (first | refine blk_drewN ?_ _ | refine blk_drew ?_ | refine blk_alloc ?_ _)); exact BK211.out) hb); have n1_ := Aside0.mk (below_step (by repeat (first | (with_reducible first | exact HB.out | apply below_alloc | apply pw_below_drewN | apply below_drew1 | refine below_set ?_ GE211.out) | exact HB.out)) hb); clear BK211; clear HB; have BK211 := n0_; have HB := n1_; clear n0_ n1_; (try clear hb); (try clear hb2); (try clear hk); (try clear hi)) | (go_at_call 8; (with_reducible refine (governorlaw17_right.calls k _ _ l1 true _ ?side1 ?side2 A12.out).mono ?_); (case side1 => repeat (first | exact (Kd.C_below HR1.out HB.out) | (with_reducible refine Kd.C_alloc ?_ _) | (with_reducible refine Kd.C_drewN ?_ _) | (with_reducible refine Kd.C_drew ?_))); (case side2 => exact HC1.out); rintro e w' ⟨rfl, ⟨nd, rfl⟩⟩) | (go_at_call 8; (with_reducible refine (governorlaw17_right.calls k _ _ l2 t215 _ ?side1 ?side2 A14.out).mono ?_); (case side1 => repeat (first | exact (Kd.C_below HR2.out (by repeat (first | (with_reducible first | exact HB.out | apply below_alloc | apply pw_below_drewN | apply below_drew1 | refine below_set ?_ GE211.out) | exact HB.out))) | (with_reducible refine Kd.C_alloc ?_ _) | (with_reducible refine Kd.C_drewN ?_ _) | (with_reducible refine Kd.C_drew ?_))); (case side2 => exact HC2.out); rintro e w' ⟨rfl, ⟨nd, rfl⟩⟩))
        go_meet
        case rel => exact ⟨_, (!t215), (by first | rfl | (simp; done) | (simp [*]; done)), H', ⟨by first | omega | exact Nat.le_refl _⟩, ⟨by (with_reducible repeat (first | refine blk_drewN ?_ _ | refine blk_drew ?_ | refine blk_alloc ?_ _)); exact BK211.out⟩, ⟨by repeat (first | (with_reducible first | exact HB.out | apply below_alloc | apply pw_below_drewN | apply below_drew1 | refine below_set ?_ GE211.out) | exact HB.out)⟩⟩
      · replace c13 := Bool.eq_false_iff.mpr c13
        subst c13
        have H1 : (governorlaw17_ScoreMargin.j0 k l1 l2 a3 a4 t212 true a0_0 a0_1 a0_2 a0_3 a0_4 a0_5 a0_6 a0_7 a0_8 a0_9 a0_10 a0_11) = some r := by rw [if_neg (show ¬ (false = true) by decide)] at H; exact H
        clear H
        have H := H1
        clear H1
        have H' := Aside0.mk H
        clear H
        have hcz17_0 : w9.cell? ⟨gb211, 0, none⟩ = some (.int .i64 a0_0) := (blk_cell BK211.out 0).trans rfl
        have hcz17_1 : w9.cell? ⟨gb211, 1, none⟩ = some (.int .i64 a0_1) := (blk_cell BK211.out 1).trans rfl
        have hcz17_2 : w9.cell? ⟨gb211, 2, none⟩ = some (.int .i64 a0_2) := (blk_cell BK211.out 2).trans rfl
        have hcz17_3 : w9.cell? ⟨gb211, 3, none⟩ = some (.int .i64 a0_3) := (blk_cell BK211.out 3).trans rfl
        have hcz17_4 : w9.cell? ⟨gb211, 4, none⟩ = some (.int .i64 a0_4) := (blk_cell BK211.out 4).trans rfl
        have hcz17_5 : w9.cell? ⟨gb211, 5, none⟩ = some (.int .i64 a0_5) := (blk_cell BK211.out 5).trans rfl
        have hcz17_6 : w9.cell? ⟨gb211, 6, none⟩ = some (.int .i64 a0_6) := (blk_cell BK211.out 6).trans rfl
        have hcz17_7 : w9.cell? ⟨gb211, 7, none⟩ = some (.int .i64 a0_7) := (blk_cell BK211.out 7).trans rfl
        have hcz17_8 : w9.cell? ⟨gb211, 8, none⟩ = some (.int .i64 a0_8) := (blk_cell BK211.out 8).trans rfl
        have hcz17_9 : w9.cell? ⟨gb211, 9, none⟩ = some (.int .i64 a0_9) := (blk_cell BK211.out 9).trans rfl
        have hcz17_10 : w9.cell? ⟨gb211, 10, none⟩ = some (.int .i64 a0_10) := (blk_cell BK211.out 10).trans rfl
        have hcz17_11 : w9.cell? ⟨gb211, 11, none⟩ = some (.int .i64 a0_11) := (blk_cell BK211.out 11).trans rfl
        have hfz17_0 := blk_frozen BK211.out 0
        have hfz17_1 := blk_frozen BK211.out 1
        have hfz17_2 := blk_frozen BK211.out 2
        have hfz17_3 := blk_frozen BK211.out 3
        have hfz17_4 := blk_frozen BK211.out 4
        have hfz17_5 := blk_frozen BK211.out 5
        have hfz17_6 := blk_frozen BK211.out 6
        have hfz17_7 := blk_frozen BK211.out 7
        have hfz17_8 := blk_frozen BK211.out 8
        have hfz17_9 := blk_frozen BK211.out 9
        have hfz17_10 := blk_frozen BK211.out 10
        have hfz17_11 := blk_frozen BK211.out 11
        go_wp2_with (first | ((with_reducible refine gate_callee (f := 13) rfl ?_); refine goesL_ (some 18) rfl rfl Try.func13 (by kernel_rfl) rfl #[.agg #[.int .i64 a0_0, .int .i64 a0_1, .int .i64 a0_2, .int .i64 a0_3, .int .i64 a0_4, .int .i64 a0_5, .int .i64 a0_6, .int .i64 a0_7, .int .i64 a0_8, .int .i64 a0_9, .int .i64 a0_10, .int .i64 a0_11]] rfl (by (try simp only [List.map_toArray, List.map_cons, List.map_nil]); first | done | rfl | (simp only [List.length_drop, List.length_take]; rfl)) ?_; (with_reducible refine (governorref09_Conf.calls a0_0 a0_1 a0_2 a0_3 a0_4 a0_5 a0_6 a0_7 a0_8 a0_9 a0_10 a0_11 true _ A10.out).mono ?_); rintro e w18 ⟨rfl, hb⟩; refine ⟨_, rfl, ?_⟩; have n0_ := Aside0.mk (blk_below (g := gb211) (o := .cells #[.int .i64 a0_0, .int .i64 a0_1, .int .i64 a0_2, .int .i64 a0_3, .int .i64 a0_4, .int .i64 a0_5, .int .i64 a0_6, .int .i64 a0_7, .int .i64 a0_8, .int .i64 a0_9, .int .i64 a0_10, .int .i64 a0_11] 33 (0, 0)) (by (with_reducible repeat (first | refine blk_drewN ?_ _ | refine blk_drew ?_ | refine blk_alloc ?_ _)); exact BK211.out) hb); have n1_ := Aside0.mk (below_step (by repeat (first | (with_reducible first | exact HB.out | apply below_alloc | apply pw_below_drewN | apply below_drew1 | refine below_set ?_ GE211.out) | exact HB.out)) hb); clear BK211; clear HB; have BK211 := n0_; have HB := n1_; clear n0_ n1_; (try clear hb); (try clear hb2); (try clear hk); (try clear hi)) | (go_at_call 8; (with_reducible refine (governorlaw17_right.calls k _ _ l1 false _ ?side1 ?side2 A12.out).mono ?_); (case side1 => repeat (first | exact (Kd.C_below HR1.out HB.out) | (with_reducible refine Kd.C_alloc ?_ _) | (with_reducible refine Kd.C_drewN ?_ _) | (with_reducible refine Kd.C_drew ?_))); (case side2 => exact HC1.out); rintro e w' ⟨rfl, ⟨nd, rfl⟩⟩))
        go_meet
        case rel => exact ⟨_, (true), (by first | rfl | (simp; done) | (simp [*]; done)), H', ⟨by first | omega | exact Nat.le_refl _⟩, ⟨by (with_reducible repeat (first | refine blk_drewN ?_ _ | refine blk_drew ?_ | refine blk_alloc ?_ _)); exact BK211.out⟩, ⟨by repeat (first | (with_reducible first | exact HB.out | apply below_alloc | apply pw_below_drewN | apply below_drew1 | refine below_set ?_ GE211.out) | exact HB.out)⟩⟩
    · replace c11 := Bool.eq_false_iff.mpr c11
      subst c11
      have H1 : (governorlaw17_ScoreMargin.j0 k l1 l2 a3 a4 t212 true a0_0 a0_1 a0_2 a0_3 a0_4 a0_5 a0_6 a0_7 a0_8 a0_9 a0_10 a0_11) = some r := by rw [if_neg (show ¬ (false = true) by decide)] at H; exact H
      clear H
      have H := H1
      clear H1
      have H' := Aside0.mk H
      clear H
      have hcz19_0 : w9.cell? ⟨gb211, 0, none⟩ = some (.int .i64 a0_0) := (blk_cell BK211.out 0).trans rfl
      have hcz19_1 : w9.cell? ⟨gb211, 1, none⟩ = some (.int .i64 a0_1) := (blk_cell BK211.out 1).trans rfl
      have hcz19_2 : w9.cell? ⟨gb211, 2, none⟩ = some (.int .i64 a0_2) := (blk_cell BK211.out 2).trans rfl
      have hcz19_3 : w9.cell? ⟨gb211, 3, none⟩ = some (.int .i64 a0_3) := (blk_cell BK211.out 3).trans rfl
      have hcz19_4 : w9.cell? ⟨gb211, 4, none⟩ = some (.int .i64 a0_4) := (blk_cell BK211.out 4).trans rfl
      have hcz19_5 : w9.cell? ⟨gb211, 5, none⟩ = some (.int .i64 a0_5) := (blk_cell BK211.out 5).trans rfl
      have hcz19_6 : w9.cell? ⟨gb211, 6, none⟩ = some (.int .i64 a0_6) := (blk_cell BK211.out 6).trans rfl
      have hcz19_7 : w9.cell? ⟨gb211, 7, none⟩ = some (.int .i64 a0_7) := (blk_cell BK211.out 7).trans rfl
      have hcz19_8 : w9.cell? ⟨gb211, 8, none⟩ = some (.int .i64 a0_8) := (blk_cell BK211.out 8).trans rfl
      have hcz19_9 : w9.cell? ⟨gb211, 9, none⟩ = some (.int .i64 a0_9) := (blk_cell BK211.out 9).trans rfl
      have hcz19_10 : w9.cell? ⟨gb211, 10, none⟩ = some (.int .i64 a0_10) := (blk_cell BK211.out 10).trans rfl
      have hcz19_11 : w9.cell? ⟨gb211, 11, none⟩ = some (.int .i64 a0_11) := (blk_cell BK211.out 11).trans rfl
      have hfz19_0 := blk_frozen BK211.out 0
      have hfz19_1 := blk_frozen BK211.out 1
      have hfz19_2 := blk_frozen BK211.out 2
      have hfz19_3 := blk_frozen BK211.out 3
      have hfz19_4 := blk_frozen BK211.out 4
      have hfz19_5 := blk_frozen BK211.out 5
      have hfz19_6 := blk_frozen BK211.out 6
      have hfz19_7 := blk_frozen BK211.out 7
      have hfz19_8 := blk_frozen BK211.out 8
      have hfz19_9 := blk_frozen BK211.out 9
      have hfz19_10 := blk_frozen BK211.out 10
      have hfz19_11 := blk_frozen BK211.out 11
      go_wp2_with (first | ((with_reducible refine gate_callee (f := 13) rfl ?_); refine goesL_ (some 18) rfl rfl Try.func13 (by kernel_rfl) rfl #[.agg #[.int .i64 a0_0, .int .i64 a0_1, .int .i64 a0_2, .int .i64 a0_3, .int .i64 a0_4, .int .i64 a0_5, .int .i64 a0_6, .int .i64 a0_7, .int .i64 a0_8, .int .i64 a0_9, .int .i64 a0_10, .int .i64 a0_11]] rfl (by (try simp only [List.map_toArray, List.map_cons, List.map_nil]); first | done | rfl | (simp only [List.length_drop, List.length_take]; rfl)) ?_; (with_reducible refine (governorref09_Conf.calls a0_0 a0_1 a0_2 a0_3 a0_4 a0_5 a0_6 a0_7 a0_8 a0_9 a0_10 a0_11 false _ A10.out).mono ?_); rintro e w20 ⟨rfl, hb⟩; refine ⟨_, rfl, ?_⟩; have n0_ := Aside0.mk (blk_below (g := gb211) (o := .cells #[.int .i64 a0_0, .int .i64 a0_1, .int .i64 a0_2, .int .i64 a0_3, .int .i64 a0_4, .int .i64 a0_5, .int .i64 a0_6, .int .i64 a0_7, .int .i64 a0_8, .int .i64 a0_9, .int .i64 a0_10, .int .i64 a0_11] 33 (0, 0)) (by (with_reducible repeat (first | refine blk_drewN ?_ _ | refine blk_drew ?_ | refine blk_alloc ?_ _)); exact BK211.out) hb); have n1_ := Aside0.mk (below_step (by repeat (first | (with_reducible first | exact HB.out | apply below_alloc | apply pw_below_drewN | apply below_drew1 | refine below_set ?_ GE211.out) | exact HB.out)) hb); clear BK211; clear HB; have BK211 := n0_; have HB := n1_; clear n0_ n1_; (try clear hb); (try clear hb2); (try clear hk); (try clear hi)))
      go_meet
      case rel => exact ⟨_, (true), (by first | rfl | (simp; done) | (simp [*]; done)), H', ⟨by first | omega | exact Nat.le_refl _⟩, ⟨by (with_reducible repeat (first | refine blk_drewN ?_ _ | refine blk_drew ?_ | refine blk_alloc ?_ _)); exact BK211.out⟩, ⟨by repeat (first | (with_reducible first | exact HB.out | apply below_alloc | apply pw_below_drewN | apply below_drew1 | refine below_set ?_ GE211.out) | exact HB.out)⟩⟩
  case rest =>
    clear HC7
    try clear c1
    try clear c2
    try clear p2
    try clear c5
    try clear c7
    try clear c11
    try clear c13
    try clear hcz15_0
    try clear hcz15_1
    try clear hcz15_10
    try clear hcz15_11
    try clear hcz15_2
    try clear hcz15_3
    try clear hcz15_4
    try clear hcz15_5
    try clear hcz15_6
    try clear hcz15_7
    try clear hcz15_8
    try clear hcz15_9
    try clear hcz17_0
    try clear hcz17_1
    try clear hcz17_10
    try clear hcz17_11
    try clear hcz17_2
    try clear hcz17_3
    try clear hcz17_4
    try clear hcz17_5
    try clear hcz17_6
    try clear hcz17_7
    try clear hcz17_8
    try clear hcz17_9
    try clear hcz19_0
    try clear hcz19_1
    try clear hcz19_10
    try clear hcz19_11
    try clear hcz19_2
    try clear hcz19_3
    try clear hcz19_4
    try clear hcz19_5
    try clear hcz19_6
    try clear hcz19_7
    try clear hcz19_8
    try clear hcz19_9
    try clear hfz15_0
    try clear hfz15_1
    try clear hfz15_10
    try clear hfz15_11
    try clear hfz15_2
    try clear hfz15_3
    try clear hfz15_4
    try clear hfz15_5
    try clear hfz15_6
    try clear hfz15_7
    try clear hfz15_8
    try clear hfz15_9
    try clear hfz17_0
    try clear hfz17_1
    try clear hfz17_10
    try clear hfz17_11
    try clear hfz17_2
    try clear hfz17_3
    try clear hfz17_4
    try clear hfz17_5
    try clear hfz17_6
    try clear hfz17_7
    try clear hfz17_8
    try clear hfz17_9
    try clear hfz19_0
    try clear hfz19_1
    try clear hfz19_10
    try clear hfz19_11
    try clear hfz19_2
    try clear hfz19_3
    try clear hfz19_4
    try clear hfz19_5
    try clear hfz19_6
    try clear hfz19_7
    try clear hfz19_8
    try clear hfz19_9
    obtain ⟨kq, x29_6, rfl, HA, HJ6, BK211, HB⟩ := hcut
    cases kq with
    | zero => exact absurd HA.out (by simp [governorlaw17_ScoreMargin.j0])
    | succ kj6 =>
      have H := HA.out
      clear HA
      simp only [governorlaw17_ScoreMargin.j0] at H
      by_cases c21 : x29_6 = true
      · subst c21
        have H1 : (some t212) = some r := by rw [if_pos rfl] at H; exact H
        clear H
        have H := H1
        clear H1
        obtain rfl := Option.some.inj H
        go_wp2
        go_ret
        exact ⟨by first | rfl | (simp [errW_none, errW_some] <;> rfl) | (simp [*, errW_none, errW_some] <;> rfl), by repeat (first | (with_reducible first | exact HB.out | apply below_alloc | apply pw_below_drewN | apply below_drew1 | refine below_set ?_ GE211.out) | exact HB.out)⟩
      · replace c21 := Bool.eq_false_iff.mpr c21
        subst c21
        have H1 : ((score_Better.f a0_0 a0_1 a0_2 a0_3 a0_4 a0_5 a0_6 a0_7 a0_8 a0_9 a0_10 a0_11 l1 l2).bind fun t216 => (if a0_8 > 0 then (if t216 = true then ((score_Better.f a0_0 a0_1 a0_2 a0_3 a0_4 a0_5 a0_6 a0_7 a0_8 a0_9 a0_10 a0_11 l2 l1).bind fun t217 => (governorlaw17_ScoreMargin.j1 kj6 l1 l2 a3 a4 t212 t216 t217 a0_0 a0_1 a0_2 a0_3 a0_4 a0_5 a0_6 a0_7 a0_8 a0_9 a0_10 a0_11)) else (governorlaw17_ScoreMargin.j1 kj6 l1 l2 a3 a4 t212 t216 false a0_0 a0_1 a0_2 a0_3 a0_4 a0_5 a0_6 a0_7 a0_8 a0_9 a0_10 a0_11)) else (governorlaw17_ScoreMargin.j1 kj6 l1 l2 a3 a4 t212 t216 false a0_0 a0_1 a0_2 a0_3 a0_4 a0_5 a0_6 a0_7 a0_8 a0_9 a0_10 a0_11))) = some r := by rw [if_neg (show ¬ (false = true) by decide)] at H; exact H
        clear H
        have H := H1
        clear H1
        replace H := Option.bind_eq_some_iff.mp H
        obtain ⟨t216, A220, H⟩ := H
        replace H : (if a0_8 > 0 then (if t216 = true then ((score_Better.f a0_0 a0_1 a0_2 a0_3 a0_4 a0_5 a0_6 a0_7 a0_8 a0_9 a0_10 a0_11 l2 l1).bind fun t217 => (governorlaw17_ScoreMargin.j1 kj6 l1 l2 a3 a4 t212 t216 t217 a0_0 a0_1 a0_2 a0_3 a0_4 a0_5 a0_6 a0_7 a0_8 a0_9 a0_10 a0_11)) else (governorlaw17_ScoreMargin.j1 kj6 l1 l2 a3 a4 t212 t216 false a0_0 a0_1 a0_2 a0_3 a0_4 a0_5 a0_6 a0_7 a0_8 a0_9 a0_10 a0_11)) else (governorlaw17_ScoreMargin.j1 kj6 l1 l2 a3 a4 t212 t216 false a0_0 a0_1 a0_2 a0_3 a0_4 a0_5 a0_6 a0_7 a0_8 a0_9 a0_10 a0_11)) = some r := H
        have A22 := Aside0.mk A220
        clear A220
        have HC23 := Aside0.mk H
        clear H
        have hcz24_0 : wc.cell? ⟨gb211, 0, none⟩ = some (.int .i64 a0_0) := (blk_cell BK211.out 0).trans rfl
        have hcz24_1 : wc.cell? ⟨gb211, 1, none⟩ = some (.int .i64 a0_1) := (blk_cell BK211.out 1).trans rfl
        have hcz24_2 : wc.cell? ⟨gb211, 2, none⟩ = some (.int .i64 a0_2) := (blk_cell BK211.out 2).trans rfl
        have hcz24_3 : wc.cell? ⟨gb211, 3, none⟩ = some (.int .i64 a0_3) := (blk_cell BK211.out 3).trans rfl
        have hcz24_4 : wc.cell? ⟨gb211, 4, none⟩ = some (.int .i64 a0_4) := (blk_cell BK211.out 4).trans rfl
        have hcz24_5 : wc.cell? ⟨gb211, 5, none⟩ = some (.int .i64 a0_5) := (blk_cell BK211.out 5).trans rfl
        have hcz24_6 : wc.cell? ⟨gb211, 6, none⟩ = some (.int .i64 a0_6) := (blk_cell BK211.out 6).trans rfl
        have hcz24_7 : wc.cell? ⟨gb211, 7, none⟩ = some (.int .i64 a0_7) := (blk_cell BK211.out 7).trans rfl
        have hcz24_8 : wc.cell? ⟨gb211, 8, none⟩ = some (.int .i64 a0_8) := (blk_cell BK211.out 8).trans rfl
        have hcz24_9 : wc.cell? ⟨gb211, 9, none⟩ = some (.int .i64 a0_9) := (blk_cell BK211.out 9).trans rfl
        have hcz24_10 : wc.cell? ⟨gb211, 10, none⟩ = some (.int .i64 a0_10) := (blk_cell BK211.out 10).trans rfl
        have hcz24_11 : wc.cell? ⟨gb211, 11, none⟩ = some (.int .i64 a0_11) := (blk_cell BK211.out 11).trans rfl
        have hfz24_0 := blk_frozen BK211.out 0
        have hfz24_1 := blk_frozen BK211.out 1
        have hfz24_2 := blk_frozen BK211.out 2
        have hfz24_3 := blk_frozen BK211.out 3
        have hfz24_4 := blk_frozen BK211.out 4
        have hfz24_5 := blk_frozen BK211.out 5
        have hfz24_6 := blk_frozen BK211.out 6
        have hfz24_7 := blk_frozen BK211.out 7
        have hfz24_8 := blk_frozen BK211.out 8
        have hfz24_9 := blk_frozen BK211.out 9
        have hfz24_10 := blk_frozen BK211.out 10
        have hfz24_11 := blk_frozen BK211.out 11
        go_upto_region 5 with (first | ((with_reducible refine gate_callee (f := 14) rfl ?_); refine goesL_ (some 34) rfl rfl Try.func14 (by kernel_rfl) rfl #[.agg #[.int .i64 a0_0, .int .i64 a0_1, .int .i64 a0_2, .int .i64 a0_3, .int .i64 a0_4, .int .i64 a0_5, .int .i64 a0_6, .int .i64 a0_7, .int .i64 a0_8, .int .i64 a0_9, .int .i64 a0_10, .int .i64 a0_11], .slice A1 l1.length c1, .slice A2 l2.length c2] rfl (by (try simp only [List.map_toArray, List.map_cons, List.map_nil]); first | done | rfl | (simp only [List.length_drop, List.length_take]; rfl)) ?_; (with_reducible refine (score_Better.calls a0_0 a0_1 a0_2 a0_3 a0_4 a0_5 a0_6 a0_7 a0_8 a0_9 a0_10 a0_11 _ _ l1 _ _ l2 t216 _ ?side1 ?side2 ?side3 ?side4 A22.out).mono ?_); (case side1 => repeat (first | exact (Kd.C_below HR1.out HB.out) | (with_reducible refine Kd.C_alloc ?_ _) | (with_reducible refine Kd.C_drewN ?_ _) | (with_reducible refine Kd.C_drew ?_))); (case side2 => exact HC1.out); (case side3 => repeat (first | exact (Kd.C_below HR2.out HB.out) | (with_reducible refine Kd.C_alloc ?_ _) | (with_reducible refine Kd.C_drewN ?_ _) | (with_reducible refine Kd.C_drew ?_))); (case side4 => exact HC2.out); rintro e w25 ⟨rfl, hb⟩; refine ⟨_, rfl, ?_⟩; have n0_ := Aside0.mk (blk_below (g := gb211) (o := .cells #[.int .i64 a0_0, .int .i64 a0_1, .int .i64 a0_2, .int .i64 a0_3, .int .i64 a0_4, .int .i64 a0_5, .int .i64 a0_6, .int .i64 a0_7, .int .i64 a0_8, .int .i64 a0_9, .int .i64 a0_10, .int .i64 a0_11] 33 (0, 0)) (by (with_reducible repeat (first | refine blk_drewN ?_ _ | refine blk_drew ?_ | refine blk_alloc ?_ _)); exact BK211.out) hb); have n1_ := Aside0.mk (below_step (by repeat (first | (with_reducible first | exact HB.out | apply below_alloc | apply pw_below_drewN | apply below_drew1 | refine below_set ?_ GE211.out) | exact HB.out)) hb); clear BK211; clear HB; have BK211 := n0_; have HB := n1_; clear n0_ n1_; (try clear hb); (try clear hb2); (try clear hk); (try clear hi)))
        (try simp only [Act.put, List.setIfInBounds_toArray, List.set_cons_zero, List.set_cons_succ])
        go_cut [46] (fun v46 wc => ∃ (kq : Nat) (x46_22 : Bool), v46 = .bool x46_22 ∧ Aside0 (governorlaw17_ScoreMargin.j1 kq l1 l2 a3 a4 t212 t216 x46_22 a0_0 a0_1 a0_2 a0_3 a0_4 a0_5 a0_6 a0_7 a0_8 a0_9 a0_10 a0_11 = some r) ∧ Aside0 (kq ≤ kj6) ∧ Aside0 (wc.heap[gb211]? = some (.cells #[.int .i64 a0_0, .int .i64 a0_1, .int .i64 a0_2, .int .i64 a0_3, .int .i64 a0_4, .int .i64 a0_5, .int .i64 a0_6, .int .i64 a0_7, .int .i64 a0_8, .int .i64 a0_9, .int .i64 a0_10, .int .i64 a0_11] 33 (0, 0))) ∧ Aside0 (Below w.heap.size w wc))
        case first =>
          have H := HC23.out
          clear HC23
          by_cases c26 : a0_8 > 0
          · rw [if_pos c26] at H
            have c26b0 : decide (0 < a0_8) = true := decide_eq_true c26
            clear c26
            (first | rw [c26b0] | (simp only [i64_w, i32_w]; rw [c26b0]) | skip)
            by_cases c27 : t216 = true
            · subst c27
              have H1 : ((score_Better.f a0_0 a0_1 a0_2 a0_3 a0_4 a0_5 a0_6 a0_7 a0_8 a0_9 a0_10 a0_11 l2 l1).bind fun t217 => (governorlaw17_ScoreMargin.j1 kj6 l1 l2 a3 a4 t212 true t217 a0_0 a0_1 a0_2 a0_3 a0_4 a0_5 a0_6 a0_7 a0_8 a0_9 a0_10 a0_11)) = some r := by rw [if_pos rfl] at H; exact H
              clear H
              have H := H1
              clear H1
              replace H := Option.bind_eq_some_iff.mp H
              obtain ⟨t217, A280, H⟩ := H
              replace H : (governorlaw17_ScoreMargin.j1 kj6 l1 l2 a3 a4 t212 true t217 a0_0 a0_1 a0_2 a0_3 a0_4 a0_5 a0_6 a0_7 a0_8 a0_9 a0_10 a0_11) = some r := H
              have A28 := Aside0.mk A280
              clear A280
              have H' := Aside0.mk H
              clear H
              have hcz29_0 : w25.cell? ⟨gb211, 0, none⟩ = some (.int .i64 a0_0) := (blk_cell BK211.out 0).trans rfl
              have hcz29_1 : w25.cell? ⟨gb211, 1, none⟩ = some (.int .i64 a0_1) := (blk_cell BK211.out 1).trans rfl
              have hcz29_2 : w25.cell? ⟨gb211, 2, none⟩ = some (.int .i64 a0_2) := (blk_cell BK211.out 2).trans rfl
              have hcz29_3 : w25.cell? ⟨gb211, 3, none⟩ = some (.int .i64 a0_3) := (blk_cell BK211.out 3).trans rfl
              have hcz29_4 : w25.cell? ⟨gb211, 4, none⟩ = some (.int .i64 a0_4) := (blk_cell BK211.out 4).trans rfl
              have hcz29_5 : w25.cell? ⟨gb211, 5, none⟩ = some (.int .i64 a0_5) := (blk_cell BK211.out 5).trans rfl
              have hcz29_6 : w25.cell? ⟨gb211, 6, none⟩ = some (.int .i64 a0_6) := (blk_cell BK211.out 6).trans rfl
              have hcz29_7 : w25.cell? ⟨gb211, 7, none⟩ = some (.int .i64 a0_7) := (blk_cell BK211.out 7).trans rfl
              have hcz29_8 : w25.cell? ⟨gb211, 8, none⟩ = some (.int .i64 a0_8) := (blk_cell BK211.out 8).trans rfl
              have hcz29_9 : w25.cell? ⟨gb211, 9, none⟩ = some (.int .i64 a0_9) := (blk_cell BK211.out 9).trans rfl
              have hcz29_10 : w25.cell? ⟨gb211, 10, none⟩ = some (.int .i64 a0_10) := (blk_cell BK211.out 10).trans rfl
              have hcz29_11 : w25.cell? ⟨gb211, 11, none⟩ = some (.int .i64 a0_11) := (blk_cell BK211.out 11).trans rfl
              have hfz29_0 := blk_frozen BK211.out 0
              have hfz29_1 := blk_frozen BK211.out 1
              have hfz29_2 := blk_frozen BK211.out 2
              have hfz29_3 := blk_frozen BK211.out 3
              have hfz29_4 := blk_frozen BK211.out 4
              have hfz29_5 := blk_frozen BK211.out 5
              have hfz29_6 := blk_frozen BK211.out 6
              have hfz29_7 := blk_frozen BK211.out 7
              have hfz29_8 := blk_frozen BK211.out 8
              have hfz29_9 := blk_frozen BK211.out 9
              have hfz29_10 := blk_frozen BK211.out 10
              have hfz29_11 := blk_frozen BK211.out 11
              go_wp2_with (first | (go_at_call 14; (with_reducible refine (score_Better.calls a0_0 a0_1 a0_2 a0_3 a0_4 a0_5 a0_6 a0_7 a0_8 a0_9 a0_10 a0_11 _ _ l2 _ _ l1 t217 _ ?side1 ?side2 ?side3 ?side4 A28.out).mono ?_); (case side1 => repeat (first | exact (Kd.C_below HR2.out HB.out) | (with_reducible refine Kd.C_alloc ?_ _) | (with_reducible refine Kd.C_drewN ?_ _) | (with_reducible refine Kd.C_drew ?_))); (case side2 => exact HC2.out); (case side3 => repeat (first | exact (Kd.C_below HR1.out HB.out) | (with_reducible refine Kd.C_alloc ?_ _) | (with_reducible refine Kd.C_drewN ?_ _) | (with_reducible refine Kd.C_drew ?_))); (case side4 => exact HC1.out); rintro e w30 ⟨rfl, hb⟩; have n0_ := Aside0.mk (blk_below (g := gb211) (o := .cells #[.int .i64 a0_0, .int .i64 a0_1, .int .i64 a0_2, .int .i64 a0_3, .int .i64 a0_4, .int .i64 a0_5, .int .i64 a0_6, .int .i64 a0_7, .int .i64 a0_8, .int .i64 a0_9, .int .i64 a0_10, .int .i64 a0_11] 33 (0, 0)) (by (with_reducible repeat (first | refine blk_drewN ?_ _ | refine blk_drew ?_ | refine blk_alloc ?_ _)); exact BK211.out) hb); have n1_ := Aside0.mk (below_step (by repeat (first | (with_reducible first | exact HB.out | apply below_alloc | apply pw_below_drewN | apply below_drew1 | refine below_set ?_ GE211.out) | exact HB.out)) hb); clear BK211; clear HB; have BK211 := n0_; have HB := n1_; clear n0_ n1_; (try clear hb); (try clear hb2); (try clear hk); (try clear hi)))
              go_meet
              case rel => exact ⟨_, (t217), (by first | rfl | (simp; done) | (simp [*]; done)), H', ⟨by have := HJ6.out; first | omega | exact Nat.le_refl _⟩, ⟨by (with_reducible repeat (first | refine blk_drewN ?_ _ | refine blk_drew ?_ | refine blk_alloc ?_ _)); exact BK211.out⟩, ⟨by repeat (first | (with_reducible first | exact HB.out | apply below_alloc | apply pw_below_drewN | apply below_drew1 | refine below_set ?_ GE211.out) | exact HB.out)⟩⟩
            · replace c27 := Bool.eq_false_iff.mpr c27
              subst c27
              have H1 : (governorlaw17_ScoreMargin.j1 kj6 l1 l2 a3 a4 t212 false false a0_0 a0_1 a0_2 a0_3 a0_4 a0_5 a0_6 a0_7 a0_8 a0_9 a0_10 a0_11) = some r := by rw [if_neg (show ¬ (false = true) by decide)] at H; exact H
              clear H
              have H := H1
              clear H1
              have H' := Aside0.mk H
              clear H
              have hcz31_0 : w25.cell? ⟨gb211, 0, none⟩ = some (.int .i64 a0_0) := (blk_cell BK211.out 0).trans rfl
              have hcz31_1 : w25.cell? ⟨gb211, 1, none⟩ = some (.int .i64 a0_1) := (blk_cell BK211.out 1).trans rfl
              have hcz31_2 : w25.cell? ⟨gb211, 2, none⟩ = some (.int .i64 a0_2) := (blk_cell BK211.out 2).trans rfl
              have hcz31_3 : w25.cell? ⟨gb211, 3, none⟩ = some (.int .i64 a0_3) := (blk_cell BK211.out 3).trans rfl
              have hcz31_4 : w25.cell? ⟨gb211, 4, none⟩ = some (.int .i64 a0_4) := (blk_cell BK211.out 4).trans rfl
              have hcz31_5 : w25.cell? ⟨gb211, 5, none⟩ = some (.int .i64 a0_5) := (blk_cell BK211.out 5).trans rfl
              have hcz31_6 : w25.cell? ⟨gb211, 6, none⟩ = some (.int .i64 a0_6) := (blk_cell BK211.out 6).trans rfl
              have hcz31_7 : w25.cell? ⟨gb211, 7, none⟩ = some (.int .i64 a0_7) := (blk_cell BK211.out 7).trans rfl
              have hcz31_8 : w25.cell? ⟨gb211, 8, none⟩ = some (.int .i64 a0_8) := (blk_cell BK211.out 8).trans rfl
              have hcz31_9 : w25.cell? ⟨gb211, 9, none⟩ = some (.int .i64 a0_9) := (blk_cell BK211.out 9).trans rfl
              have hcz31_10 : w25.cell? ⟨gb211, 10, none⟩ = some (.int .i64 a0_10) := (blk_cell BK211.out 10).trans rfl
              have hcz31_11 : w25.cell? ⟨gb211, 11, none⟩ = some (.int .i64 a0_11) := (blk_cell BK211.out 11).trans rfl
              have hfz31_0 := blk_frozen BK211.out 0
              have hfz31_1 := blk_frozen BK211.out 1
              have hfz31_2 := blk_frozen BK211.out 2
              have hfz31_3 := blk_frozen BK211.out 3
              have hfz31_4 := blk_frozen BK211.out 4
              have hfz31_5 := blk_frozen BK211.out 5
              have hfz31_6 := blk_frozen BK211.out 6
              have hfz31_7 := blk_frozen BK211.out 7
              have hfz31_8 := blk_frozen BK211.out 8
              have hfz31_9 := blk_frozen BK211.out 9
              have hfz31_10 := blk_frozen BK211.out 10
              have hfz31_11 := blk_frozen BK211.out 11
              go_wp2
              go_meet
              case rel => exact ⟨_, (false), (by first | rfl | (simp; done) | (simp [*]; done)), H', ⟨by have := HJ6.out; first | omega | exact Nat.le_refl _⟩, ⟨by (with_reducible repeat (first | refine blk_drewN ?_ _ | refine blk_drew ?_ | refine blk_alloc ?_ _)); exact BK211.out⟩, ⟨by repeat (first | (with_reducible first | exact HB.out | apply below_alloc | apply pw_below_drewN | apply below_drew1 | refine below_set ?_ GE211.out) | exact HB.out)⟩⟩
          · rw [if_neg c26] at H
            have c26b0 : decide (0 < a0_8) = false := decide_eq_false c26
            clear c26
            (first | rw [c26b0] | (simp only [i64_w, i32_w]; rw [c26b0]) | skip)
            have H' := Aside0.mk H
            clear H
            have hcz32_0 : w25.cell? ⟨gb211, 0, none⟩ = some (.int .i64 a0_0) := (blk_cell BK211.out 0).trans rfl
            have hcz32_1 : w25.cell? ⟨gb211, 1, none⟩ = some (.int .i64 a0_1) := (blk_cell BK211.out 1).trans rfl
            have hcz32_2 : w25.cell? ⟨gb211, 2, none⟩ = some (.int .i64 a0_2) := (blk_cell BK211.out 2).trans rfl
            have hcz32_3 : w25.cell? ⟨gb211, 3, none⟩ = some (.int .i64 a0_3) := (blk_cell BK211.out 3).trans rfl
            have hcz32_4 : w25.cell? ⟨gb211, 4, none⟩ = some (.int .i64 a0_4) := (blk_cell BK211.out 4).trans rfl
            have hcz32_5 : w25.cell? ⟨gb211, 5, none⟩ = some (.int .i64 a0_5) := (blk_cell BK211.out 5).trans rfl
            have hcz32_6 : w25.cell? ⟨gb211, 6, none⟩ = some (.int .i64 a0_6) := (blk_cell BK211.out 6).trans rfl
            have hcz32_7 : w25.cell? ⟨gb211, 7, none⟩ = some (.int .i64 a0_7) := (blk_cell BK211.out 7).trans rfl
            have hcz32_8 : w25.cell? ⟨gb211, 8, none⟩ = some (.int .i64 a0_8) := (blk_cell BK211.out 8).trans rfl
            have hcz32_9 : w25.cell? ⟨gb211, 9, none⟩ = some (.int .i64 a0_9) := (blk_cell BK211.out 9).trans rfl
            have hcz32_10 : w25.cell? ⟨gb211, 10, none⟩ = some (.int .i64 a0_10) := (blk_cell BK211.out 10).trans rfl
            have hcz32_11 : w25.cell? ⟨gb211, 11, none⟩ = some (.int .i64 a0_11) := (blk_cell BK211.out 11).trans rfl
            have hfz32_0 := blk_frozen BK211.out 0
            have hfz32_1 := blk_frozen BK211.out 1
            have hfz32_2 := blk_frozen BK211.out 2
            have hfz32_3 := blk_frozen BK211.out 3
            have hfz32_4 := blk_frozen BK211.out 4
            have hfz32_5 := blk_frozen BK211.out 5
            have hfz32_6 := blk_frozen BK211.out 6
            have hfz32_7 := blk_frozen BK211.out 7
            have hfz32_8 := blk_frozen BK211.out 8
            have hfz32_9 := blk_frozen BK211.out 9
            have hfz32_10 := blk_frozen BK211.out 10
            have hfz32_11 := blk_frozen BK211.out 11
            go_wp2
            go_meet
            case rel => exact ⟨_, (false), (by first | rfl | (simp; done) | (simp [*]; done)), H', ⟨by have := HJ6.out; first | omega | exact Nat.le_refl _⟩, ⟨by (with_reducible repeat (first | refine blk_drewN ?_ _ | refine blk_drew ?_ | refine blk_alloc ?_ _)); exact BK211.out⟩, ⟨by repeat (first | (with_reducible first | exact HB.out | apply below_alloc | apply pw_below_drewN | apply below_drew1 | refine below_set ?_ GE211.out) | exact HB.out)⟩⟩
        case rest =>
          clear HC23
          try clear c1
          try clear c2
          try clear p2
          try clear c5
          try clear c7
          try clear c11
          try clear c13
          try clear c14
          try clear c21
          try clear c26
          try clear c26b0
          try clear c27
          try clear hcz15_0
          try clear hcz15_1
          try clear hcz15_10
          try clear hcz15_11
          try clear hcz15_2
          try clear hcz15_3
          try clear hcz15_4
          try clear hcz15_5
          try clear hcz15_6
          try clear hcz15_7
          try clear hcz15_8
          try clear hcz15_9
          try clear hcz17_0
          try clear hcz17_1
          try clear hcz17_10
          try clear hcz17_11
          try clear hcz17_2
          try clear hcz17_3
          try clear hcz17_4
          try clear hcz17_5
          try clear hcz17_6
          try clear hcz17_7
          try clear hcz17_8
          try clear hcz17_9
          try clear hcz19_0
          try clear hcz19_1
          try clear hcz19_10
          try clear hcz19_11
          try clear hcz19_2
          try clear hcz19_3
          try clear hcz19_4
          try clear hcz19_5
          try clear hcz19_6
          try clear hcz19_7
          try clear hcz19_8
          try clear hcz19_9
          try clear hcz24_0
          try clear hcz24_1
          try clear hcz24_10
          try clear hcz24_11
          try clear hcz24_2
          try clear hcz24_3
          try clear hcz24_4
          try clear hcz24_5
          try clear hcz24_6
          try clear hcz24_7
          try clear hcz24_8
          try clear hcz24_9
          try clear hcz29_0
          try clear hcz29_1
          try clear hcz29_10
          try clear hcz29_11
          try clear hcz29_2
          try clear hcz29_3
          try clear hcz29_4
          try clear hcz29_5
          try clear hcz29_6
          try clear hcz29_7
          try clear hcz29_8
          try clear hcz29_9
          try clear hcz31_0
          try clear hcz31_1
          try clear hcz31_10
          try clear hcz31_11
          try clear hcz31_2
          try clear hcz31_3
          try clear hcz31_4
          try clear hcz31_5
          try clear hcz31_6
          try clear hcz31_7
          try clear hcz31_8
          try clear hcz31_9
          try clear hcz32_0
          try clear hcz32_1
          try clear hcz32_10
          try clear hcz32_11
          try clear hcz32_2
          try clear hcz32_3
          try clear hcz32_4
          try clear hcz32_5
          try clear hcz32_6
          try clear hcz32_7
          try clear hcz32_8
          try clear hcz32_9
          try clear hfz15_0
          try clear hfz15_1
          try clear hfz15_10
          try clear hfz15_11
          try clear hfz15_2
          try clear hfz15_3
          try clear hfz15_4
          try clear hfz15_5
          try clear hfz15_6
          try clear hfz15_7
          try clear hfz15_8
          try clear hfz15_9
          try clear hfz17_0
          try clear hfz17_1
          try clear hfz17_10
          try clear hfz17_11
          try clear hfz17_2
          try clear hfz17_3
          try clear hfz17_4
          try clear hfz17_5
          try clear hfz17_6
          try clear hfz17_7
          try clear hfz17_8
          try clear hfz17_9
          try clear hfz19_0
          try clear hfz19_1
          try clear hfz19_10
          try clear hfz19_11
          try clear hfz19_2
          try clear hfz19_3
          try clear hfz19_4
          try clear hfz19_5
          try clear hfz19_6
          try clear hfz19_7
          try clear hfz19_8
          try clear hfz19_9
          try clear hfz24_0
          try clear hfz24_1
          try clear hfz24_10
          try clear hfz24_11
          try clear hfz24_2
          try clear hfz24_3
          try clear hfz24_4
          try clear hfz24_5
          try clear hfz24_6
          try clear hfz24_7
          try clear hfz24_8
          try clear hfz24_9
          try clear hfz29_0
          try clear hfz29_1
          try clear hfz29_10
          try clear hfz29_11
          try clear hfz29_2
          try clear hfz29_3
          try clear hfz29_4
          try clear hfz29_5
          try clear hfz29_6
          try clear hfz29_7
          try clear hfz29_8
          try clear hfz29_9
          try clear hfz31_0
          try clear hfz31_1
          try clear hfz31_10
          try clear hfz31_11
          try clear hfz31_2
          try clear hfz31_3
          try clear hfz31_4
          try clear hfz31_5
          try clear hfz31_6
          try clear hfz31_7
          try clear hfz31_8
          try clear hfz31_9
          try clear hfz32_0
          try clear hfz32_1
          try clear hfz32_10
          try clear hfz32_11
          try clear hfz32_2
          try clear hfz32_3
          try clear hfz32_4
          try clear hfz32_5
          try clear hfz32_6
          try clear hfz32_7
          try clear hfz32_8
          try clear hfz32_9
          try clear p2
          obtain ⟨kq, x46_22, rfl, HA, HJ22, BK211, HB⟩ := hcut
          cases kq with
          | zero => exact absurd HA.out (by simp [governorlaw17_ScoreMargin.j1])
          | succ kj22 =>
            have H := HA.out
            clear HA
            simp only [governorlaw17_ScoreMargin.j1] at H
            by_cases c33 : x46_22 = true
            · subst c33
              have H1 : (some false) = some r := by rw [if_pos rfl] at H; exact H
              clear H
              have H := H1
              clear H1
              obtain rfl := Option.some.inj H
              go_wp2
              go_ret
              exact ⟨by first | rfl | (simp [errW_none, errW_some] <;> rfl) | (simp [*, errW_none, errW_some] <;> rfl), by repeat (first | (with_reducible first | exact HB.out | apply below_alloc | apply pw_below_drewN | apply below_drew1 | refine below_set ?_ GE211.out) | exact HB.out)⟩
            · replace c33 := Bool.eq_false_iff.mpr c33
              subst c33
              have H1 : (if t216 = true then ((some (([] : List (S27)) : List (S27))).bind fun y218 => (if y218.length + l2.length < 8796093022208 then ((some (y218 ++ l2 : List (S27))).bind fun y221 => (if (y221.length : Int) = 0 then (none) else (if 0 ≤ (Int.tmod (wrap64 (a3)) (y221.length : Int)) then (if (Int.tmod (wrap64 (a3)) (y221.length : Int)) < (y221.length : Int) then ((some (([] : List (S27)) : List (S27))).bind fun y226 => (if y226.length + l1.length < 8796093022208 then ((some (y226 ++ l1 : List (S27))).bind fun y229 => (if (Int.tmod (wrap64 (a3)) (y221.length : Int)) < (y229.length : Int) then (if t212 = true then ((score_Better.f a0_0 a0_1 a0_2 a0_3 a0_4 a0_5 a0_6 a0_7 a0_8 a0_9 a0_10 a0_11 l1 (y221.set ((Int.tmod (wrap64 (a3)) (y221.length : Int)) : Int).toNat (⟨mx 0 (wrap64 (((rd_T27 y221 (Int.tmod (wrap64 (a3)) (y221.length : Int))).f0) - (wrap64 (a4)))), false⟩ : S27))).bind fun t234 => (if t234 = true then ((score_Better.f a0_0 a0_1 a0_2 a0_3 a0_4 a0_5 a0_6 a0_7 a0_8 a0_9 a0_10 a0_11 (y229.set ((Int.tmod (wrap64 (a3)) (y221.length : Int)) : Int).toNat (⟨mn 1000000000 (wrap64 (((rd_T27 y229 (Int.tmod (wrap64 (a3)) (y221.length : Int))).f0) + (wrap64 (a4)))), (rd_T27 y229 (Int.tmod (wrap64 (a3)) (y221.length : Int))).f1⟩ : S27)) l2).bind fun t235 => (some t235)) else (some false))) else (some false)) else (none))) else (none))) else (none)) else (none)))) else (none))) else (some t212)) = some r := by rw [if_neg (show ¬ (false = true) by decide)] at H; exact H
              clear H
              have H := H1
              clear H1
              by_cases c34 : t216 = true
              · subst c34
                have H1 : ((some (([] : List (S27)) : List (S27))).bind fun y218 => (if y218.length + l2.length < 8796093022208 then ((some (y218 ++ l2 : List (S27))).bind fun y221 => (if (y221.length : Int) = 0 then (none) else (if 0 ≤ (Int.tmod (wrap64 (a3)) (y221.length : Int)) then (if (Int.tmod (wrap64 (a3)) (y221.length : Int)) < (y221.length : Int) then ((some (([] : List (S27)) : List (S27))).bind fun y226 => (if y226.length + l1.length < 8796093022208 then ((some (y226 ++ l1 : List (S27))).bind fun y229 => (if (Int.tmod (wrap64 (a3)) (y221.length : Int)) < (y229.length : Int) then (if t212 = true then ((score_Better.f a0_0 a0_1 a0_2 a0_3 a0_4 a0_5 a0_6 a0_7 a0_8 a0_9 a0_10 a0_11 l1 (y221.set ((Int.tmod (wrap64 (a3)) (y221.length : Int)) : Int).toNat (⟨mx 0 (wrap64 (((rd_T27 y221 (Int.tmod (wrap64 (a3)) (y221.length : Int))).f0) - (wrap64 (a4)))), false⟩ : S27))).bind fun t234 => (if t234 = true then ((score_Better.f a0_0 a0_1 a0_2 a0_3 a0_4 a0_5 a0_6 a0_7 a0_8 a0_9 a0_10 a0_11 (y229.set ((Int.tmod (wrap64 (a3)) (y221.length : Int)) : Int).toNat (⟨mn 1000000000 (wrap64 (((rd_T27 y229 (Int.tmod (wrap64 (a3)) (y221.length : Int))).f0) + (wrap64 (a4)))), (rd_T27 y229 (Int.tmod (wrap64 (a3)) (y221.length : Int))).f1⟩ : S27)) l2).bind fun t235 => (some t235)) else (some false))) else (some false)) else (none))) else (none))) else (none)) else (none)))) else (none))) = some r := by rw [if_pos rfl] at H; exact H
                clear H
                have H := H1
                clear H1
                obtain ⟨y218, hy218⟩ : ∃ y_ : List (S27), y_ = (([] : List (S27))) := ⟨_, rfl⟩
                replace H : (if y218.length + l2.length < 8796093022208 then ((some (y218 ++ l2 : List (S27))).bind fun y221 => (if (y221.length : Int) = 0 then (none) else (if 0 ≤ (Int.tmod (wrap64 (a3)) (y221.length : Int)) then (if (Int.tmod (wrap64 (a3)) (y221.length : Int)) < (y221.length : Int) then ((some (([] : List (S27)) : List (S27))).bind fun y226 => (if y226.length + l1.length < 8796093022208 then ((some (y226 ++ l1 : List (S27))).bind fun y229 => (if (Int.tmod (wrap64 (a3)) (y221.length : Int)) < (y229.length : Int) then (if t212 = true then ((score_Better.f a0_0 a0_1 a0_2 a0_3 a0_4 a0_5 a0_6 a0_7 a0_8 a0_9 a0_10 a0_11 l1 (y221.set ((Int.tmod (wrap64 (a3)) (y221.length : Int)) : Int).toNat (⟨mx 0 (wrap64 (((rd_T27 y221 (Int.tmod (wrap64 (a3)) (y221.length : Int))).f0) - (wrap64 (a4)))), false⟩ : S27))).bind fun t234 => (if t234 = true then ((score_Better.f a0_0 a0_1 a0_2 a0_3 a0_4 a0_5 a0_6 a0_7 a0_8 a0_9 a0_10 a0_11 (y229.set ((Int.tmod (wrap64 (a3)) (y221.length : Int)) : Int).toNat (⟨mn 1000000000 (wrap64 (((rd_T27 y229 (Int.tmod (wrap64 (a3)) (y221.length : Int))).f0) + (wrap64 (a4)))), (rd_T27 y229 (Int.tmod (wrap64 (a3)) (y221.length : Int))).f1⟩ : S27)) l2).bind fun t235 => (some t235)) else (some false))) else (some false)) else (none))) else (none))) else (none)) else (none)))) else (none)) = some r := by first | (rw [hy218]; with_reducible exact H) | (have H2_ := (Option.bind_some _ _).symm.trans H; rw [hy218]; with_reducible exact H2_) | (have H2_ := (Option.bind_some _ _).symm.trans H; with_reducible exact H2_) | with_reducible exact H | (rw [hy218]; exact H) | exact H
                have Ny218 := Aside0.mk hy218
                clear hy218
                by_cases c35 : y218.length + l2.length < 8796093022208
                · rw [if_pos c35] at H
                  have LMc35 := Aside0.mk c35
                  clear c35
                  obtain ⟨y221, hy221⟩ : ∃ y_ : List (S27), y_ = (y218 ++ l2) := ⟨_, rfl⟩
                  replace H : (if (y221.length : Int) = 0 then (none) else (if 0 ≤ (Int.tmod (wrap64 (a3)) (y221.length : Int)) then (if (Int.tmod (wrap64 (a3)) (y221.length : Int)) < (y221.length : Int) then ((some (([] : List (S27)) : List (S27))).bind fun y226 => (if y226.length + l1.length < 8796093022208 then ((some (y226 ++ l1 : List (S27))).bind fun y229 => (if (Int.tmod (wrap64 (a3)) (y221.length : Int)) < (y229.length : Int) then (if t212 = true then ((score_Better.f a0_0 a0_1 a0_2 a0_3 a0_4 a0_5 a0_6 a0_7 a0_8 a0_9 a0_10 a0_11 l1 (y221.set ((Int.tmod (wrap64 (a3)) (y221.length : Int)) : Int).toNat (⟨mx 0 (wrap64 (((rd_T27 y221 (Int.tmod (wrap64 (a3)) (y221.length : Int))).f0) - (wrap64 (a4)))), false⟩ : S27))).bind fun t234 => (if t234 = true then ((score_Better.f a0_0 a0_1 a0_2 a0_3 a0_4 a0_5 a0_6 a0_7 a0_8 a0_9 a0_10 a0_11 (y229.set ((Int.tmod (wrap64 (a3)) (y221.length : Int)) : Int).toNat (⟨mn 1000000000 (wrap64 (((rd_T27 y229 (Int.tmod (wrap64 (a3)) (y221.length : Int))).f0) + (wrap64 (a4)))), (rd_T27 y229 (Int.tmod (wrap64 (a3)) (y221.length : Int))).f1⟩ : S27)) l2).bind fun t235 => (some t235)) else (some false))) else (some false)) else (none))) else (none))) else (none)) else (none))) = some r := by first | (rw [hy221]; with_reducible exact H) | (have H2_ := (Option.bind_some _ _).symm.trans H; rw [hy221]; with_reducible exact H2_) | (have H2_ := (Option.bind_some _ _).symm.trans H; with_reducible exact H2_) | with_reducible exact H | (rw [hy221]; exact H) | exact H
                  have Ny221 := Aside0.mk hy221
                  clear hy221
                  by_cases c36 : (y221.length : Int) = 0
                  · rw [if_pos c36] at H
                    exact absurd H (by simp)
                  · rw [if_neg c36] at H
                    have c36b0 : ((y221.length : Int) == 0) = false := beq_eq_false_iff_ne.mpr c36
                    have c36b1 : ((y221.length : Int) != 0) = true := bne_iff_ne.mpr c36
                    have c36b2 : ¬ (y221 = []) := fun h_ => c36 (by rw [h_]; rfl)
                    obtain ⟨ji37, hji37⟩ : ∃ j_ : Int, (Int.tmod (wrap64 (a3)) (y221.length : Int)) = j_ := ⟨_, rfl⟩
                    replace H : (if 0 ≤ (ji37) then (if (ji37) < (y221.length : Int) then ((some (([] : List (S27)) : List (S27))).bind fun y226 => (if y226.length + l1.length < 8796093022208 then ((some (y226 ++ l1 : List (S27))).bind fun y229 => (if (ji37) < (y229.length : Int) then (if t212 = true then ((score_Better.f a0_0 a0_1 a0_2 a0_3 a0_4 a0_5 a0_6 a0_7 a0_8 a0_9 a0_10 a0_11 l1 (y221.set ((ji37) : Int).toNat (⟨mx 0 (wrap64 (((rd_T27 y221 (ji37)).f0) - (wrap64 (a4)))), false⟩ : S27))).bind fun t234 => (if t234 = true then ((score_Better.f a0_0 a0_1 a0_2 a0_3 a0_4 a0_5 a0_6 a0_7 a0_8 a0_9 a0_10 a0_11 (y229.set ((ji37) : Int).toNat (⟨mn 1000000000 (wrap64 (((rd_T27 y229 (ji37)).f0) + (wrap64 (a4)))), (rd_T27 y229 (ji37)).f1⟩ : S27)) l2).bind fun t235 => (some t235)) else (some false))) else (some false)) else (none))) else (none))) else (none)) else (none)) = some r := by first | (rw [hji37] at H; exact H) | (simp only [hji37] at H ⊢; exact H)
                    by_cases c38 : 0 ≤ (ji37)
                    · rw [if_pos c38] at H
                      have c38b0 : decide (0 ≤ (ji37)) = true := decide_eq_true c38
                      clear c38
                      by_cases c39 : (ji37) < (y221.length : Int)
                      · rw [if_pos c39] at H
                        have c39b0 : decide ((ji37) < (y221.length : Int)) = true := decide_eq_true c39
                        clear c39
                        obtain ⟨ji40, hji40⟩ : ∃ j_ : Int, (mx 0 (wrap64 (((rd_T27 y221 (ji37)).f0) - (wrap64 (a4))))) = j_ := ⟨_, rfl⟩
                        replace H : ((some (([] : List (S27)) : List (S27))).bind fun y226 => (if y226.length + l1.length < 8796093022208 then ((some (y226 ++ l1 : List (S27))).bind fun y229 => (if (ji37) < (y229.length : Int) then (if t212 = true then ((score_Better.f a0_0 a0_1 a0_2 a0_3 a0_4 a0_5 a0_6 a0_7 a0_8 a0_9 a0_10 a0_11 l1 (y221.set ((ji37) : Int).toNat (⟨ji40, false⟩ : S27))).bind fun t234 => (if t234 = true then ((score_Better.f a0_0 a0_1 a0_2 a0_3 a0_4 a0_5 a0_6 a0_7 a0_8 a0_9 a0_10 a0_11 (y229.set ((ji37) : Int).toNat (⟨mn 1000000000 (wrap64 (((rd_T27 y229 (ji37)).f0) + (wrap64 (a4)))), (rd_T27 y229 (ji37)).f1⟩ : S27)) l2).bind fun t235 => (some t235)) else (some false))) else (some false)) else (none))) else (none))) = some r := by first | (rw [hji40] at H; exact H) | (simp only [hji40] at H ⊢; exact H)
                        have hji40_ : (if 0 < (wrap64 (((rd_T27 y221 (ji37)).f0) - (wrap64 (a4)))) then (wrap64 (((rd_T27 y221 (ji37)).f0) - (wrap64 (a4)))) else 0) = ji40 := hji40
                        obtain ⟨y225, hy225⟩ : ∃ y_ : List (S27), y_ = (y221.set ((ji37) : Int).toNat (⟨ji40, false⟩ : S27)) := ⟨_, rfl⟩
                        replace H : ((some (([] : List (S27)) : List (S27))).bind fun y226 => (if y226.length + l1.length < 8796093022208 then ((some (y226 ++ l1 : List (S27))).bind fun y229 => (if (ji37) < (y229.length : Int) then (if t212 = true then ((score_Better.f a0_0 a0_1 a0_2 a0_3 a0_4 a0_5 a0_6 a0_7 a0_8 a0_9 a0_10 a0_11 l1 y225).bind fun t234 => (if t234 = true then ((score_Better.f a0_0 a0_1 a0_2 a0_3 a0_4 a0_5 a0_6 a0_7 a0_8 a0_9 a0_10 a0_11 (y229.set ((ji37) : Int).toNat (⟨mn 1000000000 (wrap64 (((rd_T27 y229 (ji37)).f0) + (wrap64 (a4)))), (rd_T27 y229 (ji37)).f1⟩ : S27)) l2).bind fun t235 => (some t235)) else (some false))) else (some false)) else (none))) else (none))) = some r := by first | (rw [hy225]; with_reducible exact H) | (have H2_ := (Option.bind_some _ _).symm.trans H; rw [hy225]; with_reducible exact H2_) | (have H2_ := (Option.bind_some _ _).symm.trans H; with_reducible exact H2_) | with_reducible exact H | (rw [hy225]; exact H) | exact H
                        have Ny225 := Aside0.mk hy225
                        clear hy225
                        obtain ⟨y226, hy226⟩ : ∃ y_ : List (S27), y_ = (([] : List (S27))) := ⟨_, rfl⟩
                        replace H : (if y226.length + l1.length < 8796093022208 then ((some (y226 ++ l1 : List (S27))).bind fun y229 => (if (ji37) < (y229.length : Int) then (if t212 = true then ((score_Better.f a0_0 a0_1 a0_2 a0_3 a0_4 a0_5 a0_6 a0_7 a0_8 a0_9 a0_10 a0_11 l1 y225).bind fun t234 => (if t234 = true then ((score_Better.f a0_0 a0_1 a0_2 a0_3 a0_4 a0_5 a0_6 a0_7 a0_8 a0_9 a0_10 a0_11 (y229.set ((ji37) : Int).toNat (⟨mn 1000000000 (wrap64 (((rd_T27 y229 (ji37)).f0) + (wrap64 (a4)))), (rd_T27 y229 (ji37)).f1⟩ : S27)) l2).bind fun t235 => (some t235)) else (some false))) else (some false)) else (none))) else (none)) = some r := by first | (rw [hy226]; with_reducible exact H) | (have H2_ := (Option.bind_some _ _).symm.trans H; rw [hy226]; with_reducible exact H2_) | (have H2_ := (Option.bind_some _ _).symm.trans H; with_reducible exact H2_) | with_reducible exact H | (rw [hy226]; exact H) | exact H
                        have Ny226 := Aside0.mk hy226
                        clear hy226
                        by_cases c42 : y226.length + l1.length < 8796093022208
                        · rw [if_pos c42] at H
                          have LMc42 := Aside0.mk c42
                          clear c42
                          obtain ⟨y229, hy229⟩ : ∃ y_ : List (S27), y_ = (y226 ++ l1) := ⟨_, rfl⟩
                          replace H : (if (ji37) < (y229.length : Int) then (if t212 = true then ((score_Better.f a0_0 a0_1 a0_2 a0_3 a0_4 a0_5 a0_6 a0_7 a0_8 a0_9 a0_10 a0_11 l1 y225).bind fun t234 => (if t234 = true then ((score_Better.f a0_0 a0_1 a0_2 a0_3 a0_4 a0_5 a0_6 a0_7 a0_8 a0_9 a0_10 a0_11 (y229.set ((ji37) : Int).toNat (⟨mn 1000000000 (wrap64 (((rd_T27 y229 (ji37)).f0) + (wrap64 (a4)))), (rd_T27 y229 (ji37)).f1⟩ : S27)) l2).bind fun t235 => (some t235)) else (some false))) else (some false)) else (none)) = some r := by first | (rw [hy229]; with_reducible exact H) | (have H2_ := (Option.bind_some _ _).symm.trans H; rw [hy229]; with_reducible exact H2_) | (have H2_ := (Option.bind_some _ _).symm.trans H; with_reducible exact H2_) | with_reducible exact H | (rw [hy229]; exact H) | exact H
                          have Ny229 := Aside0.mk hy229
                          clear hy229
                          by_cases c43 : (ji37) < (y229.length : Int)
                          · rw [if_pos c43] at H
                            have c43b0 : decide ((ji37) < (y229.length : Int)) = true := decide_eq_true c43
                            clear c43
                            obtain ⟨ji44, hji44⟩ : ∃ j_ : Int, (mn 1000000000 (wrap64 (((rd_T27 y229 (ji37)).f0) + (wrap64 (a4))))) = j_ := ⟨_, rfl⟩
                            replace H : (if t212 = true then ((score_Better.f a0_0 a0_1 a0_2 a0_3 a0_4 a0_5 a0_6 a0_7 a0_8 a0_9 a0_10 a0_11 l1 y225).bind fun t234 => (if t234 = true then ((score_Better.f a0_0 a0_1 a0_2 a0_3 a0_4 a0_5 a0_6 a0_7 a0_8 a0_9 a0_10 a0_11 (y229.set ((ji37) : Int).toNat (⟨ji44, (rd_T27 y229 (ji37)).f1⟩ : S27)) l2).bind fun t235 => (some t235)) else (some false))) else (some false)) = some r := by first | (rw [hji44] at H; exact H) | (simp only [hji44] at H ⊢; exact H)
                            have hji44_ : (if (wrap64 (((rd_T27 y229 (ji37)).f0) + (wrap64 (a4)))) < 1000000000 then (wrap64 (((rd_T27 y229 (ji37)).f0) + (wrap64 (a4)))) else 1000000000) = ji44 := hji44
                            obtain ⟨y233, hy233⟩ : ∃ y_ : List (S27), y_ = (y229.set ((ji37) : Int).toNat (⟨ji44, (rd_T27 y229 (ji37)).f1⟩ : S27)) := ⟨_, rfl⟩
                            replace H : (if t212 = true then ((score_Better.f a0_0 a0_1 a0_2 a0_3 a0_4 a0_5 a0_6 a0_7 a0_8 a0_9 a0_10 a0_11 l1 y225).bind fun t234 => (if t234 = true then ((score_Better.f a0_0 a0_1 a0_2 a0_3 a0_4 a0_5 a0_6 a0_7 a0_8 a0_9 a0_10 a0_11 y233 l2).bind fun t235 => (some t235)) else (some false))) else (some false)) = some r := by first | (rw [hy233]; with_reducible exact H) | (have H2_ := (Option.bind_some _ _).symm.trans H; rw [hy233]; with_reducible exact H2_) | (have H2_ := (Option.bind_some _ _).symm.trans H; with_reducible exact H2_) | with_reducible exact H | (rw [hy233]; exact H) | exact H
                            have Ny233 := Aside0.mk hy233
                            clear hy233
                            by_cases c46 : t212 = true
                            · subst c46
                              have H1 : ((score_Better.f a0_0 a0_1 a0_2 a0_3 a0_4 a0_5 a0_6 a0_7 a0_8 a0_9 a0_10 a0_11 l1 y225).bind fun t234 => (if t234 = true then ((score_Better.f a0_0 a0_1 a0_2 a0_3 a0_4 a0_5 a0_6 a0_7 a0_8 a0_9 a0_10 a0_11 y233 l2).bind fun t235 => (some t235)) else (some false))) = some r := by rw [if_pos rfl] at H; exact H
                              clear H
                              have H := H1
                              clear H1
                              replace H := Option.bind_eq_some_iff.mp H
                              obtain ⟨t234, A470, H⟩ := H
                              replace H : (if t234 = true then ((score_Better.f a0_0 a0_1 a0_2 a0_3 a0_4 a0_5 a0_6 a0_7 a0_8 a0_9 a0_10 a0_11 y233 l2).bind fun t235 => (some t235)) else (some false)) = some r := H
                              have A47 := Aside0.mk A470
                              clear A470
                              by_cases c48 : t234 = true
                              · subst c48
                                have H1 : ((score_Better.f a0_0 a0_1 a0_2 a0_3 a0_4 a0_5 a0_6 a0_7 a0_8 a0_9 a0_10 a0_11 y233 l2).bind fun t235 => (some t235)) = some r := by rw [if_pos rfl] at H; exact H
                                clear H
                                have H := H1
                                clear H1
                                replace H := Option.bind_eq_some_iff.mp H
                                obtain ⟨t235, A490, H⟩ := H
                                replace H : (some t235) = some r := H
                                have A49 := Aside0.mk A490
                                clear A490
                                obtain rfl := Option.some.inj H
                                go_wp2_with (first | ((with_reducible refine gate_dst (N := 50) rfl ?_); refine Kd.R_lit k27 _ 27 ?hg (N := 50) ?hd (xs := ([] : List (S27))) (inner := []) (ok := fun _ => True) (okp := fun _ => True) ?hr ?hp (fun _ hk => hk) trivial (Below.refl _ _) (Nat.le_refl _) (by simp) ?_; (case hd => rfl); (case hg => rfl); (case hr => first | (go_simp; done) | (go_simp; rfl)); (case hp => exact (Reps.none _ _)); intro v219 w50 ho51 hb hg_ hnew_; clear hg_ hnew_; (first | rw [← Ny218.out] at ho51 | (simp only [Int.reduceToNat] at ho51; rw [← Ny218.out] at ho51)); have n0_ := Aside0.mk (Kd.R_lower ho51 (below_size (by repeat (first | (with_reducible first | exact HB.out | apply below_alloc | apply pw_below_drewN | apply below_drew1 | refine below_set ?_ GE211.out) | exact HB.out)))); have n1_ := Aside0.mk (blk_below (g := gb211) (o := .cells #[.int .i64 a0_0, .int .i64 a0_1, .int .i64 a0_2, .int .i64 a0_3, .int .i64 a0_4, .int .i64 a0_5, .int .i64 a0_6, .int .i64 a0_7, .int .i64 a0_8, .int .i64 a0_9, .int .i64 a0_10, .int .i64 a0_11] 33 (0, 0)) (by (with_reducible repeat (first | refine blk_drewN ?_ _ | refine blk_drew ?_ | refine blk_alloc ?_ _)); exact BK211.out) hb); have n2_ := Aside0.mk (below_step (by repeat (first | (with_reducible first | exact HB.out | apply below_alloc | apply pw_below_drewN | apply below_drew1 | refine below_set ?_ GE211.out) | exact HB.out)) hb); clear BK211; clear HB; have HO220 := n0_; have BK211 := n1_; have HB := n2_; clear n0_ n1_ n2_; clear hb ho51) | ((with_reducible refine gate_builtin (b := .append) (xs := #[.tmp 50, .tmp 51]) rfl ?_); at_builtin; refine Kd.R_append_rows k27 (w0 := w) w.heap.size rfl (.tmp 50) (.tmp 51) 22 27 (.agg #[(.int .i64 0), (.bool false)]) 16 rfl Try.underlying22 info27 rfl (by decide) (by omega) v219 y218 l2 _ _ _ (fun _ => True) (fun _ => False) rfl rfl ?aO ?aR (fun _ _ h => h) (fun _ h => h.elim) ?aF ?aB ?aS ?aL ?_; (case aR => repeat (first | exact (Kd.C_below HR2.out HB.out) | (with_reducible refine Kd.C_alloc ?_ _) | (with_reducible refine Kd.C_drewN ?_ _) | (with_reducible refine Kd.C_drew ?_))); (case aB => exact (by repeat (first | (with_reducible first | exact HB.out | apply below_alloc | apply pw_below_drewN | apply below_drew1 | refine below_set ?_ GE211.out) | exact HB.out))); (case aF => exact (fun _ _ => trivial)); (case aO => exact (by (with_reducible repeat (first | apply Kd.R_alloc | apply Kd.R_drewN | apply Kd.R_drew)); exact HO220.out)); (case aS => exact (below_size (by repeat (first | (with_reducible first | exact HB.out | apply below_alloc | apply pw_below_drewN | apply below_drew1 | refine below_set ?_ GE211.out) | exact HB.out)))); (case aL => have := LMc35.out; omega); intro v222 w52 ho hb hg hat; rw [← Ny221.out] at ho; have n0_ := Aside0.mk (blk_grown (g := gb211) (o := .cells #[.int .i64 a0_0, .int .i64 a0_1, .int .i64 a0_2, .int .i64 a0_3, .int .i64 a0_4, .int .i64 a0_5, .int .i64 a0_6, .int .i64 a0_7, .int .i64 a0_8, .int .i64 a0_9, .int .i64 a0_10, .int .i64 a0_11] 33 (0, 0)) (by (with_reducible repeat (first | refine blk_drewN ?_ _ | refine blk_drew ?_ | refine blk_alloc ?_ _)); exact BK211.out) hg (Kd.R_ne HO220.out BK211.out (by decide))); have n1_ := Aside0.mk (hb); have n2_ := Aside0.mk (ho); clear BK211; clear HB; clear HO220; have BK211 := n0_; have HB := n1_; have HO223 := n2_; clear n0_ n1_ n2_; clear ho hb hg hat; obtain ⟨Ao53, co53, eo53⟩ := Kd.R_slice HO223.out; subst eo53; have p224 : 0 ≤ ((ji37) : Int) := of_decide_eq_true (by first | (with_reducible assumption) | assumption); have q224 : (ji37) < (y221.length : Int) := of_decide_eq_true (by first | (with_reducible assumption) | assumption); obtain ⟨ad224, e224, hx224_0, hx224_1⟩ := at_T27 (Kd.R_reads' HO223.out).2.2 (ji37) p224 q224; cases e224; replace p224 := eq_true p224; replace q224 := eq_true q224; have p41 : 0 ≤ ((ji37) : Int) := of_decide_eq_true (by first | (with_reducible assumption) | assumption); have q41 : ((ji37) : Int) < ((y221.length : Int) : Int) := of_decide_eq_true (by first | (with_reducible assumption) | assumption); obtain ⟨go41, co41, eo41, gb41, gl41, cl41, HG41⟩ := Kd.R_form HO223.out (by omega); (first | cases eo41 | (injection eo41 with ea_ en_ ec_; (first | subst ea_ | (injection ea_ with ea_; subst ea_)); subst ec_; clear en_)); have GB41 := Aside0.mk gb41; have GG41 := Aside0.mk HG41; clear gb41 gl41 HG41; (first | simp only [add_plain] at hx224_0 | skip); (first | simp only [add_plain] at hx224_1 | skip); obtain ⟨ce41, hcl41, hM41, hcc41, hfr41⟩ := Kd.R_elem HO223.out z27 ((ji37) : Int) p41 q41; obtain rfl := k27_openM hM41; have hx41_0 : w52.cell? ⟨go41, ((ji37) : Int).toNat * 2, none⟩ = some (.int .i64 ((rd_T27 y221 (ji37)).f0)) := hcc41 0 _ rfl; have hx41_1 : w52.cell? ⟨go41, ((ji37) : Int).toNat * 2 + 1, none⟩ = some (.bool ((rd_T27 y221 (ji37)).f1)) := hcc41 1 _ rfl; have hf41_0 : w52.frozen? ⟨go41, ((ji37) : Int).toNat * 2, none⟩ = false := hfr41 0; have hf41_1 : w52.frozen? ⟨go41, ((ji37) : Int).toNat * 2 + 1, none⟩ = false := hfr41 1; clear hcl41 hcc41 hfr41 hM41; replace p41 := eq_true p41; replace q41 := eq_true q41; have HX54 := Aside0.mk (show Kd.R k27 27 w52 w.heap.size (fun _ => True) (.slice (some ⟨go41, 0, none⟩) y221.length co53) y221 from (by (with_reducible repeat (first | apply Kd.R_alloc | apply Kd.R_drewN | apply Kd.R_drew)); exact HO223.out)); obtain ⟨ce54, hcl54, hM54, hcc54, hfr54⟩ := Kd.R_elem HX54.out z27 ((ji37) : Int) (of_decide_eq_true (by first | (with_reducible assumption) | assumption)) (by have h_ : ((ji37) : Int) < ((y221.length : Int) : Int) := of_decide_eq_true (by first | (with_reducible assumption) | assumption); first | exact h_ | (have e_ := (Kd.R_reads' HO223.out).1; omega) | simpa using h_); obtain rfl := k27_openM hM54; have HP54 := Kd.R_seg HX54.out ((ji37) : Int) (of_decide_eq_true (by first | (with_reducible assumption) | assumption)) (by have h_ : ((ji37) : Int) < ((y221.length : Int) : Int) := of_decide_eq_true (by first | (with_reducible assumption) | assumption); first | exact h_ | (have e_ := (Kd.R_reads' HO223.out).1; omega) | simpa using h_) (seg := [.int .i64 ji40, .bool false]) (j := 0) hcl54 hcc54 (show 2 ≤ 2 from by decide) (x' := (⟨ji40, false⟩ : S27)) (k27_mkM _ _ _ (⟨ji40, false⟩ : S27) ) (fun _ hk => hk); have hx54_0 := hcc54 0 _ rfl; (try simp only [show (k27).sz = 2 from rfl, Nat.mul_one, Nat.add_zero] at hx54_0); have hf54_0 := hfr54 0; (try simp only [show (k27).sz = 2 from rfl, Nat.mul_one, Nat.add_zero] at hf54_0); have hx54_1 := hcc54 1 _ rfl; (try simp only [show (k27).sz = 2 from rfl, Nat.mul_one, Nat.add_zero] at hx54_1); have hf54_1 := hfr54 1; (try simp only [show (k27).sz = 2 from rfl, Nat.mul_one, Nat.add_zero] at hf54_1); clear hcl54 hcc54 hfr54 hM54) | ((with_reducible refine gate_store (t := 27) (p := 70) rfl ?_); refine store_event (t := 27) (p := 70) (v := ?vo_w55) (w1 := ((w52.setCell ⟨go41, ((ji37) : Int).toNat * 2, none⟩ (.int .i64 ji40)).setCell ⟨go41, ((ji37) : Int).toNat * 2 + 1, none⟩ (.bool false))) ?hg ?ho ?hn ?hr ?_; (case ho => rfl); (case hg => rfl); (case hn => rfl); (case hr => first | (go_simp; done) | (go_simp; rfl)); intro w55 hw; have hg : w52.grownBy w55 (some go41) := (by rw [hw]; exact HP54.2); have hp_ : Kd.R k27 27 w55 w.heap.size (fun _ => True) (.slice (some ⟨go41, 0, none⟩) y221.length co53) y225 := (by rw [hw, Ny225.out]; exact HP54.1); clear HP54; have n0_ := Aside0.mk (blk_grown (g := gb211) (o := .cells #[.int .i64 a0_0, .int .i64 a0_1, .int .i64 a0_2, .int .i64 a0_3, .int .i64 a0_4, .int .i64 a0_5, .int .i64 a0_6, .int .i64 a0_7, .int .i64 a0_8, .int .i64 a0_9, .int .i64 a0_10, .int .i64 a0_11] 33 (0, 0)) (by (with_reducible repeat (first | refine blk_drewN ?_ _ | refine blk_drew ?_ | refine blk_alloc ?_ _)); exact BK211.out) hg (Kd.R_ne HO223.out BK211.out (by decide))); have n1_ := Aside0.mk (hp_); have n2_ := Aside0.mk ((by rw [hw]; exact below_set (below_set (HB.out) GB41.out) GB41.out : Below w.heap.size w w55)); clear BK211; clear HO223; clear HB; have BK211 := n0_; have HO223 := n1_; have HB := n2_; clear n0_ n1_ n2_; clear hg hw hp_) | ((with_reducible refine gate_dst (N := 71) rfl ?_); refine Kd.R_lit k27 _ 27 ?hg (N := 71) ?hd (xs := ([] : List (S27))) (inner := []) (ok := fun _ => True) (okp := fun _ => True) ?hr ?hp (fun _ hk => hk) trivial (Below.refl _ _) (Nat.le_refl _) (by simp) ?_; (case hd => rfl); (case hg => rfl); (case hr => first | (go_simp; done) | (go_simp; rfl)); (case hp => exact (Reps.none _ _)); intro v227 w56 ho57 hb hg_ hnew_; clear hg_ hnew_; (first | rw [← Ny226.out] at ho57 | (simp only [Int.reduceToNat] at ho57; rw [← Ny226.out] at ho57)); have n0_ := Aside0.mk (Kd.R_elder' (by (with_reducible repeat (first | apply Kd.R_alloc | apply Kd.R_drewN | apply Kd.R_drew)); exact HO223.out) (Kd.R_base ho57) hb); have n1_ := Aside0.mk (Kd.R_lower (Kd.R_new' ho57 (Kd.R_lt (by (with_reducible repeat (first | apply Kd.R_alloc | apply Kd.R_drewN | apply Kd.R_drew)); exact HO223.out))) (below_size (by repeat (first | (with_reducible first | exact HB.out | apply below_alloc | apply pw_below_drewN | apply below_drew1 | refine below_set ?_ GE211.out) | exact HB.out)))); have n2_ := Aside0.mk (blk_below (g := gb211) (o := .cells #[.int .i64 a0_0, .int .i64 a0_1, .int .i64 a0_2, .int .i64 a0_3, .int .i64 a0_4, .int .i64 a0_5, .int .i64 a0_6, .int .i64 a0_7, .int .i64 a0_8, .int .i64 a0_9, .int .i64 a0_10, .int .i64 a0_11] 33 (0, 0)) (by (with_reducible repeat (first | refine blk_drewN ?_ _ | refine blk_drew ?_ | refine blk_alloc ?_ _)); exact BK211.out) hb); have n3_ := Aside0.mk (below_step (by repeat (first | (with_reducible first | exact HB.out | apply below_alloc | apply pw_below_drewN | apply below_drew1 | refine below_set ?_ GE211.out) | exact HB.out)) hb); clear HO223; clear BK211; clear HB; have HO223 := n0_; have HO228 := n1_; have BK211 := n2_; have HB := n3_; clear n0_ n1_ n2_ n3_; clear hb ho57) | ((with_reducible refine gate_builtin (b := .append) (xs := #[.tmp 71, .tmp 72]) rfl ?_); at_builtin; refine Kd.R_append_rows k27 (w0 := w) w.heap.size rfl (.tmp 71) (.tmp 72) 22 27 (.agg #[(.int .i64 0), (.bool false)]) 16 rfl Try.underlying22 info27 rfl (by decide) (by omega) v227 y226 l1 _ _ _ (fun k_ => some k_ ≠ (.slice (some ⟨go41, 0, none⟩) y221.length co53 : Value).ownBlock) (fun _ => False) rfl rfl ?aO ?aR (fun _ _ h => h) (fun _ h => h.elim) ?aF ?aB ?aS ?aL ?_; (case aR => repeat (first | exact (Kd.C_below HR1.out HB.out) | (with_reducible refine Kd.C_alloc ?_ _) | (with_reducible refine Kd.C_drewN ?_ _) | (with_reducible refine Kd.C_drew ?_))); (case aB => exact (by repeat (first | (with_reducible first | exact HB.out | apply below_alloc | apply pw_below_drewN | apply below_drew1 | refine below_set ?_ GE211.out) | exact HB.out))); (case aF => exact (fun k_ hk => Kd.fresh' (Kd.R_lt (by (with_reducible repeat (first | apply Kd.R_alloc | apply Kd.R_drewN | apply Kd.R_drew)); exact HO223.out)) k_ hk)); (case aO => exact (by (with_reducible repeat (first | apply Kd.R_alloc | apply Kd.R_drewN | apply Kd.R_drew)); exact Kd.R_mono HO228.out (fun _ hk => hk.2))); (case aS => exact (below_size (by repeat (first | (with_reducible first | exact HB.out | apply below_alloc | apply pw_below_drewN | apply below_drew1 | refine below_set ?_ GE211.out) | exact HB.out)))); (case aL => have := LMc42.out; omega); intro v230 w58 ho hb hg hat; rw [← Ny229.out] at ho; have n0_ := Aside0.mk (blk_grown (g := gb211) (o := .cells #[.int .i64 a0_0, .int .i64 a0_1, .int .i64 a0_2, .int .i64 a0_3, .int .i64 a0_4, .int .i64 a0_5, .int .i64 a0_6, .int .i64 a0_7, .int .i64 a0_8, .int .i64 a0_9, .int .i64 a0_10, .int .i64 a0_11] 33 (0, 0)) (by (with_reducible repeat (first | refine blk_drewN ?_ _ | refine blk_drew ?_ | refine blk_alloc ?_ _)); exact BK211.out) hg (Kd.R_ne HO228.out BK211.out (by decide))); have n1_ := Aside0.mk (Kd.R_after (ok := (fun _ => True)) (by (with_reducible repeat (first | apply Kd.R_alloc | apply Kd.R_drewN | apply Kd.R_drew)); exact HO223.out) hg hat); have n2_ := Aside0.mk (hb); have n3_ := Aside0.mk (ho); clear BK211; clear HO223; clear HB; clear HO228; have BK211 := n0_; have HO223 := n1_; have HB := n2_; have HO231 := n3_; clear n0_ n1_ n2_ n3_; clear ho hb hg hat; obtain ⟨Ao59, co59, eo59⟩ := Kd.R_slice HO231.out; subst eo59; have p232 : 0 ≤ ((ji37) : Int) := of_decide_eq_true (by first | (with_reducible assumption) | assumption); have q232 : (ji37) < (y229.length : Int) := of_decide_eq_true (by first | (with_reducible assumption) | assumption); obtain ⟨ad232, e232, hx232_0, hx232_1⟩ := at_T27 (Kd.R_reads' HO231.out).2.2 (ji37) p232 q232; cases e232; replace p232 := eq_true p232; replace q232 := eq_true q232; have p45 : 0 ≤ ((ji37) : Int) := of_decide_eq_true (by first | (with_reducible assumption) | assumption); have q45 : ((ji37) : Int) < ((y229.length : Int) : Int) := of_decide_eq_true (by first | (with_reducible assumption) | assumption); obtain ⟨go45, co45, eo45, gb45, gl45, cl45, HG45⟩ := Kd.R_form HO231.out (by omega); (first | cases eo45 | (injection eo45 with ea_ en_ ec_; (first | subst ea_ | (injection ea_ with ea_; subst ea_)); subst ec_; clear en_)); have GB45 := Aside0.mk gb45; have GG45 := Aside0.mk HG45; clear gb45 gl45 HG45; (first | simp only [add_plain] at hx232_0 | skip); (first | simp only [add_plain] at hx232_1 | skip); obtain ⟨ce45, hcl45, hM45, hcc45, hfr45⟩ := Kd.R_elem HO231.out z27 ((ji37) : Int) p45 q45; obtain rfl := k27_openM hM45; have hx45_0 : w58.cell? ⟨go45, ((ji37) : Int).toNat * 2, none⟩ = some (.int .i64 ((rd_T27 y229 (ji37)).f0)) := hcc45 0 _ rfl; have hx45_1 : w58.cell? ⟨go45, ((ji37) : Int).toNat * 2 + 1, none⟩ = some (.bool ((rd_T27 y229 (ji37)).f1)) := hcc45 1 _ rfl; have hf45_0 : w58.frozen? ⟨go45, ((ji37) : Int).toNat * 2, none⟩ = false := hfr45 0; have hf45_1 : w58.frozen? ⟨go45, ((ji37) : Int).toNat * 2 + 1, none⟩ = false := hfr45 1; clear hcl45 hcc45 hfr45 hM45; replace p45 := eq_true p45; replace q45 := eq_true q45; have HX60 := Aside0.mk (show Kd.R k27 27 w58 w.heap.size (fun k_ => some k_ ≠ (.slice (some ⟨go41, 0, none⟩) y221.length co53 : Value).ownBlock) (.slice (some ⟨go45, 0, none⟩) y229.length co59) y229 from (by (with_reducible repeat (first | apply Kd.R_alloc | apply Kd.R_drewN | apply Kd.R_drew)); exact HO231.out)); obtain ⟨ce60, hcl60, hM60, hcc60, hfr60⟩ := Kd.R_elem HX60.out z27 ((ji37) : Int) (of_decide_eq_true (by first | (with_reducible assumption) | assumption)) (by have h_ : ((ji37) : Int) < ((y229.length : Int) : Int) := of_decide_eq_true (by first | (with_reducible assumption) | assumption); first | exact h_ | (have e_ := (Kd.R_reads' HO231.out).1; omega) | simpa using h_); obtain rfl := k27_openM hM60; have HP60 := Kd.R_seg HX60.out ((ji37) : Int) (of_decide_eq_true (by first | (with_reducible assumption) | assumption)) (by have h_ : ((ji37) : Int) < ((y229.length : Int) : Int) := of_decide_eq_true (by first | (with_reducible assumption) | assumption); first | exact h_ | (have e_ := (Kd.R_reads' HO231.out).1; omega) | simpa using h_) (seg := [.int .i64 ji44]) (j := 0) hcl60 hcc60 (show 1 ≤ 2 from by decide) (x' := (⟨ji44, (rd_T27 y229 (ji37)).f1⟩ : S27)) (k27_mkM _ _ _ (⟨ji44, (rd_T27 y229 (ji37)).f1⟩ : S27) ) (fun _ hk => hk); have hx60_0 := hcc60 0 _ rfl; (try simp only [show (k27).sz = 2 from rfl, Nat.mul_one, Nat.add_zero] at hx60_0); have hf60_0 := hfr60 0; (try simp only [show (k27).sz = 2 from rfl, Nat.mul_one, Nat.add_zero] at hf60_0); clear hcl60 hcc60 hfr60 hM60) | ((with_reducible refine gate_store (t := 2) (p := 86) rfl ?_); refine store_event (t := 2) (p := 86) (v := ?vo_w61) (w1 := (w58.setCell ⟨go45, ((ji37) : Int).toNat * 2, none⟩ (.int .i64 ji44))) ?hg ?ho ?hn ?hr ?_; (case ho => rfl); (case hg => rfl); (case hn => rfl); (case hr => first | (go_simp; done) | (go_simp; rfl)); intro w61 hw; have hg : w58.grownBy w61 (some go45) := (by rw [hw]; exact HP60.2); have hp_ : Kd.R k27 27 w61 w.heap.size (fun k_ => some k_ ≠ (.slice (some ⟨go41, 0, none⟩) y221.length co53 : Value).ownBlock) (.slice (some ⟨go45, 0, none⟩) y229.length co59) y233 := (by rw [hw, Ny233.out]; exact HP60.1); clear HP60; have n0_ := Aside0.mk (blk_grown (g := gb211) (o := .cells #[.int .i64 a0_0, .int .i64 a0_1, .int .i64 a0_2, .int .i64 a0_3, .int .i64 a0_4, .int .i64 a0_5, .int .i64 a0_6, .int .i64 a0_7, .int .i64 a0_8, .int .i64 a0_9, .int .i64 a0_10, .int .i64 a0_11] 33 (0, 0)) (by (with_reducible repeat (first | refine blk_drewN ?_ _ | refine blk_drew ?_ | refine blk_alloc ?_ _)); exact BK211.out) hg (Kd.R_ne HO231.out BK211.out (by decide))); have n1_ := Aside0.mk (Kd.R_after (v := (.slice (some ⟨go45, 0, none⟩) y229.length co59)) (v1 := (.slice (some ⟨go45, 0, none⟩) y229.length co59)) (ok := (fun _ => True)) (by (with_reducible repeat (first | apply Kd.R_alloc | apply Kd.R_drewN | apply Kd.R_drew)); exact HO223.out) hg (.inl rfl)); have n2_ := Aside0.mk (hp_); have n3_ := Aside0.mk ((by rw [hw]; exact below_set (HB.out) GB45.out : Below w.heap.size w w61)); clear BK211; clear HO223; clear HO231; clear HB; have BK211 := n0_; have HO223 := n1_; have HO231 := n2_; have HB := n3_; clear n0_ n1_ n2_ n3_; clear hg hw hp_; have hcz62_0 : w61.cell? ⟨gb211, 0, none⟩ = some (.int .i64 a0_0) := (blk_cell BK211.out 0).trans rfl; have hcz62_1 : w61.cell? ⟨gb211, 1, none⟩ = some (.int .i64 a0_1) := (blk_cell BK211.out 1).trans rfl; have hcz62_2 : w61.cell? ⟨gb211, 2, none⟩ = some (.int .i64 a0_2) := (blk_cell BK211.out 2).trans rfl; have hcz62_3 : w61.cell? ⟨gb211, 3, none⟩ = some (.int .i64 a0_3) := (blk_cell BK211.out 3).trans rfl; have hcz62_4 : w61.cell? ⟨gb211, 4, none⟩ = some (.int .i64 a0_4) := (blk_cell BK211.out 4).trans rfl; have hcz62_5 : w61.cell? ⟨gb211, 5, none⟩ = some (.int .i64 a0_5) := (blk_cell BK211.out 5).trans rfl; have hcz62_6 : w61.cell? ⟨gb211, 6, none⟩ = some (.int .i64 a0_6) := (blk_cell BK211.out 6).trans rfl; have hcz62_7 : w61.cell? ⟨gb211, 7, none⟩ = some (.int .i64 a0_7) := (blk_cell BK211.out 7).trans rfl; have hcz62_8 : w61.cell? ⟨gb211, 8, none⟩ = some (.int .i64 a0_8) := (blk_cell BK211.out 8).trans rfl; have hcz62_9 : w61.cell? ⟨gb211, 9, none⟩ = some (.int .i64 a0_9) := (blk_cell BK211.out 9).trans rfl; have hcz62_10 : w61.cell? ⟨gb211, 10, none⟩ = some (.int .i64 a0_10) := (blk_cell BK211.out 10).trans rfl; have hcz62_11 : w61.cell? ⟨gb211, 11, none⟩ = some (.int .i64 a0_11) := (blk_cell BK211.out 11).trans rfl; have hfz62_0 := blk_frozen BK211.out 0; have hfz62_1 := blk_frozen BK211.out 1; have hfz62_2 := blk_frozen BK211.out 2; have hfz62_3 := blk_frozen BK211.out 3; have hfz62_4 := blk_frozen BK211.out 4; have hfz62_5 := blk_frozen BK211.out 5; have hfz62_6 := blk_frozen BK211.out 6; have hfz62_7 := blk_frozen BK211.out 7; have hfz62_8 := blk_frozen BK211.out 8; have hfz62_9 := blk_frozen BK211.out 9; have hfz62_10 := blk_frozen BK211.out 10; have hfz62_11 := blk_frozen BK211.out 11) | (go_at_call 14; refine calls_of_args (args' := #[.agg #[.int .i64 a0_0, .int .i64 a0_1, .int .i64 a0_2, .int .i64 a0_3, .int .i64 a0_4, .int .i64 a0_5, .int .i64 a0_6, .int .i64 a0_7, .int .i64 a0_8, .int .i64 a0_9, .int .i64 a0_10, .int .i64 a0_11], .slice A1 l1.length c1, .slice (some ⟨go41, 0, none⟩) y225.length co53]) (by first | (rw [show y225.length = y221.length from (Kd.R_reads' HO223.out).1.symm] <;> rfl) | rfl) ?_; (with_reducible refine (score_Better.calls a0_0 a0_1 a0_2 a0_3 a0_4 a0_5 a0_6 a0_7 a0_8 a0_9 a0_10 a0_11 _ _ l1 _ _ y225 true _ ?side1 ?side2 ?side3 ?side4 A47.out).mono ?_); (case side1 => repeat (first | exact (Kd.C_below HR1.out HB.out) | (with_reducible refine Kd.C_alloc ?_ _) | (with_reducible refine Kd.C_drewN ?_ _) | (with_reducible refine Kd.C_drew ?_))); (case side2 => exact HC1.out); (case side3 => repeat (first | exact (Kd.R_reads' HO223.out).2.2 | (with_reducible refine Kd.C_alloc ?_ _) | (with_reducible refine Kd.C_drewN ?_ _) | (with_reducible refine Kd.C_drew ?_))); (case side4 => rw [show y225.length = y221.length from (Kd.R_reads' HO223.out).1.symm]; exact (Kd.R_reads' HO223.out).2.1); rintro e w63 ⟨rfl, hb⟩; have n0_ := Aside0.mk (Kd.R_below (by (with_reducible repeat (first | apply Kd.R_alloc | apply Kd.R_drewN | apply Kd.R_drew)); exact HO223.out) hb); have n1_ := Aside0.mk (Kd.R_below (by (with_reducible repeat (first | apply Kd.R_alloc | apply Kd.R_drewN | apply Kd.R_drew)); exact HO231.out) hb); have n2_ := Aside0.mk (blk_below (g := gb211) (o := .cells #[.int .i64 a0_0, .int .i64 a0_1, .int .i64 a0_2, .int .i64 a0_3, .int .i64 a0_4, .int .i64 a0_5, .int .i64 a0_6, .int .i64 a0_7, .int .i64 a0_8, .int .i64 a0_9, .int .i64 a0_10, .int .i64 a0_11] 33 (0, 0)) (by (with_reducible repeat (first | refine blk_drewN ?_ _ | refine blk_drew ?_ | refine blk_alloc ?_ _)); exact BK211.out) hb); have n3_ := Aside0.mk (below_step (by repeat (first | (with_reducible first | exact HB.out | apply below_alloc | apply pw_below_drewN | apply below_drew1 | refine below_set ?_ GE211.out) | exact HB.out)) hb); clear HO223; clear HO231; clear BK211; clear HB; have HO223 := n0_; have HO231 := n1_; have BK211 := n2_; have HB := n3_; clear n0_ n1_ n2_ n3_; (try clear hb); (try clear hb2); (try clear hk); (try clear hi); have hcz64_0 : w63.cell? ⟨gb211, 0, none⟩ = some (.int .i64 a0_0) := (blk_cell BK211.out 0).trans rfl; have hcz64_1 : w63.cell? ⟨gb211, 1, none⟩ = some (.int .i64 a0_1) := (blk_cell BK211.out 1).trans rfl; have hcz64_2 : w63.cell? ⟨gb211, 2, none⟩ = some (.int .i64 a0_2) := (blk_cell BK211.out 2).trans rfl; have hcz64_3 : w63.cell? ⟨gb211, 3, none⟩ = some (.int .i64 a0_3) := (blk_cell BK211.out 3).trans rfl; have hcz64_4 : w63.cell? ⟨gb211, 4, none⟩ = some (.int .i64 a0_4) := (blk_cell BK211.out 4).trans rfl; have hcz64_5 : w63.cell? ⟨gb211, 5, none⟩ = some (.int .i64 a0_5) := (blk_cell BK211.out 5).trans rfl; have hcz64_6 : w63.cell? ⟨gb211, 6, none⟩ = some (.int .i64 a0_6) := (blk_cell BK211.out 6).trans rfl; have hcz64_7 : w63.cell? ⟨gb211, 7, none⟩ = some (.int .i64 a0_7) := (blk_cell BK211.out 7).trans rfl; have hcz64_8 : w63.cell? ⟨gb211, 8, none⟩ = some (.int .i64 a0_8) := (blk_cell BK211.out 8).trans rfl; have hcz64_9 : w63.cell? ⟨gb211, 9, none⟩ = some (.int .i64 a0_9) := (blk_cell BK211.out 9).trans rfl; have hcz64_10 : w63.cell? ⟨gb211, 10, none⟩ = some (.int .i64 a0_10) := (blk_cell BK211.out 10).trans rfl; have hcz64_11 : w63.cell? ⟨gb211, 11, none⟩ = some (.int .i64 a0_11) := (blk_cell BK211.out 11).trans rfl; have hfz64_0 := blk_frozen BK211.out 0; have hfz64_1 := blk_frozen BK211.out 1; have hfz64_2 := blk_frozen BK211.out 2; have hfz64_3 := blk_frozen BK211.out 3; have hfz64_4 := blk_frozen BK211.out 4; have hfz64_5 := blk_frozen BK211.out 5; have hfz64_6 := blk_frozen BK211.out 6; have hfz64_7 := blk_frozen BK211.out 7; have hfz64_8 := blk_frozen BK211.out 8; have hfz64_9 := blk_frozen BK211.out 9; have hfz64_10 := blk_frozen BK211.out 10; have hfz64_11 := blk_frozen BK211.out 11) | (go_at_call 14; refine calls_of_args (args' := #[.agg #[.int .i64 a0_0, .int .i64 a0_1, .int .i64 a0_2, .int .i64 a0_3, .int .i64 a0_4, .int .i64 a0_5, .int .i64 a0_6, .int .i64 a0_7, .int .i64 a0_8, .int .i64 a0_9, .int .i64 a0_10, .int .i64 a0_11], .slice (some ⟨go45, 0, none⟩) y233.length co59, .slice A2 l2.length c2]) (by first | (rw [show y233.length = y229.length from (Kd.R_reads' HO231.out).1.symm] <;> rfl) | rfl) ?_; (with_reducible refine (score_Better.calls a0_0 a0_1 a0_2 a0_3 a0_4 a0_5 a0_6 a0_7 a0_8 a0_9 a0_10 a0_11 _ _ y233 _ _ l2 t235 _ ?side1 ?side2 ?side3 ?side4 A49.out).mono ?_); (case side1 => repeat (first | exact (Kd.R_reads' HO231.out).2.2 | (with_reducible refine Kd.C_alloc ?_ _) | (with_reducible refine Kd.C_drewN ?_ _) | (with_reducible refine Kd.C_drew ?_))); (case side2 => rw [show y233.length = y229.length from (Kd.R_reads' HO231.out).1.symm]; exact (Kd.R_reads' HO231.out).2.1); (case side3 => repeat (first | exact (Kd.C_below HR2.out HB.out) | (with_reducible refine Kd.C_alloc ?_ _) | (with_reducible refine Kd.C_drewN ?_ _) | (with_reducible refine Kd.C_drew ?_))); (case side4 => exact HC2.out); rintro e w65 ⟨rfl, hb⟩; have n0_ := Aside0.mk (Kd.R_below (by (with_reducible repeat (first | apply Kd.R_alloc | apply Kd.R_drewN | apply Kd.R_drew)); exact HO223.out) hb); have n1_ := Aside0.mk (Kd.R_below (by (with_reducible repeat (first | apply Kd.R_alloc | apply Kd.R_drewN | apply Kd.R_drew)); exact HO231.out) hb); have n2_ := Aside0.mk (blk_below (g := gb211) (o := .cells #[.int .i64 a0_0, .int .i64 a0_1, .int .i64 a0_2, .int .i64 a0_3, .int .i64 a0_4, .int .i64 a0_5, .int .i64 a0_6, .int .i64 a0_7, .int .i64 a0_8, .int .i64 a0_9, .int .i64 a0_10, .int .i64 a0_11] 33 (0, 0)) (by (with_reducible repeat (first | refine blk_drewN ?_ _ | refine blk_drew ?_ | refine blk_alloc ?_ _)); exact BK211.out) hb); have n3_ := Aside0.mk (below_step (by repeat (first | (with_reducible first | exact HB.out | apply below_alloc | apply pw_below_drewN | apply below_drew1 | refine below_set ?_ GE211.out) | exact HB.out)) hb); clear HO223; clear HO231; clear BK211; clear HB; have HO223 := n0_; have HO231 := n1_; have BK211 := n2_; have HB := n3_; clear n0_ n1_ n2_ n3_; (try clear hb); (try clear hb2); (try clear hk); (try clear hi)))
                                go_ret
                                exact ⟨by first | rfl | (simp [errW_none, errW_some] <;> rfl) | (simp only [← hji37, ← hji40, ← hji44]; first | rfl | (simp [errW_none, errW_some] <;> rfl)) | (simp [*, errW_none, errW_some] <;> rfl), by repeat (first | (with_reducible first | exact HB.out | apply below_alloc | apply pw_below_drewN | apply below_drew1 | refine below_set ?_ GE211.out) | exact HB.out)⟩
                              · replace c48 := Bool.eq_false_iff.mpr c48
                                subst c48
                                have H1 : (some false) = some r := by rw [if_neg (show ¬ (false = true) by decide)] at H; exact H
                                clear H
                                have H := H1
                                clear H1
                                obtain rfl := Option.some.inj H
                                go_wp2_with (first | ((with_reducible refine gate_dst (N := 50) rfl ?_); refine Kd.R_lit k27 _ 27 ?hg (N := 50) ?hd (xs := ([] : List (S27))) (inner := []) (ok := fun _ => True) (okp := fun _ => True) ?hr ?hp (fun _ hk => hk) trivial (Below.refl _ _) (Nat.le_refl _) (by simp) ?_; (case hd => rfl); (case hg => rfl); (case hr => first | (go_simp; done) | (go_simp; rfl)); (case hp => exact (Reps.none _ _)); intro v219 w66 ho67 hb hg_ hnew_; clear hg_ hnew_; (first | rw [← Ny218.out] at ho67 | (simp only [Int.reduceToNat] at ho67; rw [← Ny218.out] at ho67)); have n0_ := Aside0.mk (Kd.R_lower ho67 (below_size (by repeat (first | (with_reducible first | exact HB.out | apply below_alloc | apply pw_below_drewN | apply below_drew1 | refine below_set ?_ GE211.out) | exact HB.out)))); have n1_ := Aside0.mk (blk_below (g := gb211) (o := .cells #[.int .i64 a0_0, .int .i64 a0_1, .int .i64 a0_2, .int .i64 a0_3, .int .i64 a0_4, .int .i64 a0_5, .int .i64 a0_6, .int .i64 a0_7, .int .i64 a0_8, .int .i64 a0_9, .int .i64 a0_10, .int .i64 a0_11] 33 (0, 0)) (by (with_reducible repeat (first | refine blk_drewN ?_ _ | refine blk_drew ?_ | refine blk_alloc ?_ _)); exact BK211.out) hb); have n2_ := Aside0.mk (below_step (by repeat (first | (with_reducible first | exact HB.out | apply below_alloc | apply pw_below_drewN | apply below_drew1 | refine below_set ?_ GE211.out) | exact HB.out)) hb); clear BK211; clear HB; have HO220 := n0_; have BK211 := n1_; have HB := n2_; clear n0_ n1_ n2_; clear hb ho67) | ((with_reducible refine gate_builtin (b := .append) (xs := #[.tmp 50, .tmp 51]) rfl ?_); at_builtin; refine Kd.R_append_rows k27 (w0 := w) w.heap.size rfl (.tmp 50) (.tmp 51) 22 27 (.agg #[(.int .i64 0), (.bool false)]) 16 rfl Try.underlying22 info27 rfl (by decide) (by omega) v219 y218 l2 _ _ _ (fun _ => True) (fun _ => False) rfl rfl ?aO ?aR (fun _ _ h => h) (fun _ h => h.elim) ?aF ?aB ?aS ?aL ?_; (case aR => repeat (first | exact (Kd.C_below HR2.out HB.out) | (with_reducible refine Kd.C_alloc ?_ _) | (with_reducible refine Kd.C_drewN ?_ _) | (with_reducible refine Kd.C_drew ?_))); (case aB => exact (by repeat (first | (with_reducible first | exact HB.out | apply below_alloc | apply pw_below_drewN | apply below_drew1 | refine below_set ?_ GE211.out) | exact HB.out))); (case aF => exact (fun _ _ => trivial)); (case aO => exact (by (with_reducible repeat (first | apply Kd.R_alloc | apply Kd.R_drewN | apply Kd.R_drew)); exact HO220.out)); (case aS => exact (below_size (by repeat (first | (with_reducible first | exact HB.out | apply below_alloc | apply pw_below_drewN | apply below_drew1 | refine below_set ?_ GE211.out) | exact HB.out)))); (case aL => have := LMc35.out; omega); intro v222 w68 ho hb hg hat; rw [← Ny221.out] at ho; have n0_ := Aside0.mk (blk_grown (g := gb211) (o := .cells #[.int .i64 a0_0, .int .i64 a0_1, .int .i64 a0_2, .int .i64 a0_3, .int .i64 a0_4, .int .i64 a0_5, .int .i64 a0_6, .int .i64 a0_7, .int .i64 a0_8, .int .i64 a0_9, .int .i64 a0_10, .int .i64 a0_11] 33 (0, 0)) (by (with_reducible repeat (first | refine blk_drewN ?_ _ | refine blk_drew ?_ | refine blk_alloc ?_ _)); exact BK211.out) hg (Kd.R_ne HO220.out BK211.out (by decide))); have n1_ := Aside0.mk (hb); have n2_ := Aside0.mk (ho); clear BK211; clear HB; clear HO220; have BK211 := n0_; have HB := n1_; have HO223 := n2_; clear n0_ n1_ n2_; clear ho hb hg hat; obtain ⟨Ao69, co69, eo69⟩ := Kd.R_slice HO223.out; subst eo69; have p224 : 0 ≤ ((ji37) : Int) := of_decide_eq_true (by first | (with_reducible assumption) | assumption); have q224 : (ji37) < (y221.length : Int) := of_decide_eq_true (by first | (with_reducible assumption) | assumption); obtain ⟨ad224, e224, hx224_0, hx224_1⟩ := at_T27 (Kd.R_reads' HO223.out).2.2 (ji37) p224 q224; cases e224; replace p224 := eq_true p224; replace q224 := eq_true q224; have p41 : 0 ≤ ((ji37) : Int) := of_decide_eq_true (by first | (with_reducible assumption) | assumption); have q41 : ((ji37) : Int) < ((y221.length : Int) : Int) := of_decide_eq_true (by first | (with_reducible assumption) | assumption); obtain ⟨go41, co41, eo41, gb41, gl41, cl41, HG41⟩ := Kd.R_form HO223.out (by omega); (first | cases eo41 | (injection eo41 with ea_ en_ ec_; (first | subst ea_ | (injection ea_ with ea_; subst ea_)); subst ec_; clear en_)); have GB41 := Aside0.mk gb41; have GG41 := Aside0.mk HG41; clear gb41 gl41 HG41; (first | simp only [add_plain] at hx224_0 | skip); (first | simp only [add_plain] at hx224_1 | skip); obtain ⟨ce41, hcl41, hM41, hcc41, hfr41⟩ := Kd.R_elem HO223.out z27 ((ji37) : Int) p41 q41; obtain rfl := k27_openM hM41; have hx41_0 : w68.cell? ⟨go41, ((ji37) : Int).toNat * 2, none⟩ = some (.int .i64 ((rd_T27 y221 (ji37)).f0)) := hcc41 0 _ rfl; have hx41_1 : w68.cell? ⟨go41, ((ji37) : Int).toNat * 2 + 1, none⟩ = some (.bool ((rd_T27 y221 (ji37)).f1)) := hcc41 1 _ rfl; have hf41_0 : w68.frozen? ⟨go41, ((ji37) : Int).toNat * 2, none⟩ = false := hfr41 0; have hf41_1 : w68.frozen? ⟨go41, ((ji37) : Int).toNat * 2 + 1, none⟩ = false := hfr41 1; clear hcl41 hcc41 hfr41 hM41; replace p41 := eq_true p41; replace q41 := eq_true q41; have HX70 := Aside0.mk (show Kd.R k27 27 w68 w.heap.size (fun _ => True) (.slice (some ⟨go41, 0, none⟩) y221.length co69) y221 from (by (with_reducible repeat (first | apply Kd.R_alloc | apply Kd.R_drewN | apply Kd.R_drew)); exact HO223.out)); obtain ⟨ce70, hcl70, hM70, hcc70, hfr70⟩ := Kd.R_elem HX70.out z27 ((ji37) : Int) (of_decide_eq_true (by first | (with_reducible assumption) | assumption)) (by have h_ : ((ji37) : Int) < ((y221.length : Int) : Int) := of_decide_eq_true (by first | (with_reducible assumption) | assumption); first | exact h_ | (have e_ := (Kd.R_reads' HO223.out).1; omega) | simpa using h_); obtain rfl := k27_openM hM70; have HP70 := Kd.R_seg HX70.out ((ji37) : Int) (of_decide_eq_true (by first | (with_reducible assumption) | assumption)) (by have h_ : ((ji37) : Int) < ((y221.length : Int) : Int) := of_decide_eq_true (by first | (with_reducible assumption) | assumption); first | exact h_ | (have e_ := (Kd.R_reads' HO223.out).1; omega) | simpa using h_) (seg := [.int .i64 ji40, .bool false]) (j := 0) hcl70 hcc70 (show 2 ≤ 2 from by decide) (x' := (⟨ji40, false⟩ : S27)) (k27_mkM _ _ _ (⟨ji40, false⟩ : S27) ) (fun _ hk => hk); have hx70_0 := hcc70 0 _ rfl; (try simp only [show (k27).sz = 2 from rfl, Nat.mul_one, Nat.add_zero] at hx70_0); have hf70_0 := hfr70 0; (try simp only [show (k27).sz = 2 from rfl, Nat.mul_one, Nat.add_zero] at hf70_0); have hx70_1 := hcc70 1 _ rfl; (try simp only [show (k27).sz = 2 from rfl, Nat.mul_one, Nat.add_zero] at hx70_1); have hf70_1 := hfr70 1; (try simp only [show (k27).sz = 2 from rfl, Nat.mul_one, Nat.add_zero] at hf70_1); clear hcl70 hcc70 hfr70 hM70) | ((with_reducible refine gate_store (t := 27) (p := 70) rfl ?_); refine store_event (t := 27) (p := 70) (v := ?vo_w71) (w1 := ((w68.setCell ⟨go41, ((ji37) : Int).toNat * 2, none⟩ (.int .i64 ji40)).setCell ⟨go41, ((ji37) : Int).toNat * 2 + 1, none⟩ (.bool false))) ?hg ?ho ?hn ?hr ?_; (case ho => rfl); (case hg => rfl); (case hn => rfl); (case hr => first | (go_simp; done) | (go_simp; rfl)); intro w71 hw; have hg : w68.grownBy w71 (some go41) := (by rw [hw]; exact HP70.2); have hp_ : Kd.R k27 27 w71 w.heap.size (fun _ => True) (.slice (some ⟨go41, 0, none⟩) y221.length co69) y225 := (by rw [hw, Ny225.out]; exact HP70.1); clear HP70; have n0_ := Aside0.mk (blk_grown (g := gb211) (o := .cells #[.int .i64 a0_0, .int .i64 a0_1, .int .i64 a0_2, .int .i64 a0_3, .int .i64 a0_4, .int .i64 a0_5, .int .i64 a0_6, .int .i64 a0_7, .int .i64 a0_8, .int .i64 a0_9, .int .i64 a0_10, .int .i64 a0_11] 33 (0, 0)) (by (with_reducible repeat (first | refine blk_drewN ?_ _ | refine blk_drew ?_ | refine blk_alloc ?_ _)); exact BK211.out) hg (Kd.R_ne HO223.out BK211.out (by decide))); have n1_ := Aside0.mk (hp_); have n2_ := Aside0.mk ((by rw [hw]; exact below_set (below_set (HB.out) GB41.out) GB41.out : Below w.heap.size w w71)); clear BK211; clear HO223; clear HB; have BK211 := n0_; have HO223 := n1_; have HB := n2_; clear n0_ n1_ n2_; clear hg hw hp_) | ((with_reducible refine gate_dst (N := 71) rfl ?_); refine Kd.R_lit k27 _ 27 ?hg (N := 71) ?hd (xs := ([] : List (S27))) (inner := []) (ok := fun _ => True) (okp := fun _ => True) ?hr ?hp (fun _ hk => hk) trivial (Below.refl _ _) (Nat.le_refl _) (by simp) ?_; (case hd => rfl); (case hg => rfl); (case hr => first | (go_simp; done) | (go_simp; rfl)); (case hp => exact (Reps.none _ _)); intro v227 w72 ho73 hb hg_ hnew_; clear hg_ hnew_; (first | rw [← Ny226.out] at ho73 | (simp only [Int.reduceToNat] at ho73; rw [← Ny226.out] at ho73)); have n0_ := Aside0.mk (Kd.R_elder' (by (with_reducible repeat (first | apply Kd.R_alloc | apply Kd.R_drewN | apply Kd.R_drew)); exact HO223.out) (Kd.R_base ho73) hb); have n1_ := Aside0.mk (Kd.R_lower (Kd.R_new' ho73 (Kd.R_lt (by (with_reducible repeat (first | apply Kd.R_alloc | apply Kd.R_drewN | apply Kd.R_drew)); exact HO223.out))) (below_size (by repeat (first | (with_reducible first | exact HB.out | apply below_alloc | apply pw_below_drewN | apply below_drew1 | refine below_set ?_ GE211.out) | exact HB.out)))); have n2_ := Aside0.mk (blk_below (g := gb211) (o := .cells #[.int .i64 a0_0, .int .i64 a0_1, .int .i64 a0_2, .int .i64 a0_3, .int .i64 a0_4, .int .i64 a0_5, .int .i64 a0_6, .int .i64 a0_7, .int .i64 a0_8, .int .i64 a0_9, .int .i64 a0_10, .int .i64 a0_11] 33 (0, 0)) (by (with_reducible repeat (first | refine blk_drewN ?_ _ | refine blk_drew ?_ | refine blk_alloc ?_ _)); exact BK211.out) hb); have n3_ := Aside0.mk (below_step (by repeat (first | (with_reducible first | exact HB.out | apply below_alloc | apply pw_below_drewN | apply below_drew1 | refine below_set ?_ GE211.out) | exact HB.out)) hb); clear HO223; clear BK211; clear HB; have HO223 := n0_; have HO228 := n1_; have BK211 := n2_; have HB := n3_; clear n0_ n1_ n2_ n3_; clear hb ho73) | ((with_reducible refine gate_builtin (b := .append) (xs := #[.tmp 71, .tmp 72]) rfl ?_); at_builtin; refine Kd.R_append_rows k27 (w0 := w) w.heap.size rfl (.tmp 71) (.tmp 72) 22 27 (.agg #[(.int .i64 0), (.bool false)]) 16 rfl Try.underlying22 info27 rfl (by decide) (by omega) v227 y226 l1 _ _ _ (fun k_ => some k_ ≠ (.slice (some ⟨go41, 0, none⟩) y221.length co69 : Value).ownBlock) (fun _ => False) rfl rfl ?aO ?aR (fun _ _ h => h) (fun _ h => h.elim) ?aF ?aB ?aS ?aL ?_; (case aR => repeat (first | exact (Kd.C_below HR1.out HB.out) | (with_reducible refine Kd.C_alloc ?_ _) | (with_reducible refine Kd.C_drewN ?_ _) | (with_reducible refine Kd.C_drew ?_))); (case aB => exact (by repeat (first | (with_reducible first | exact HB.out | apply below_alloc | apply pw_below_drewN | apply below_drew1 | refine below_set ?_ GE211.out) | exact HB.out))); (case aF => exact (fun k_ hk => Kd.fresh' (Kd.R_lt (by (with_reducible repeat (first | apply Kd.R_alloc | apply Kd.R_drewN | apply Kd.R_drew)); exact HO223.out)) k_ hk)); (case aO => exact (by (with_reducible repeat (first | apply Kd.R_alloc | apply Kd.R_drewN | apply Kd.R_drew)); exact Kd.R_mono HO228.out (fun _ hk => hk.2))); (case aS => exact (below_size (by repeat (first | (with_reducible first | exact HB.out | apply below_alloc | apply pw_below_drewN | apply below_drew1 | refine below_set ?_ GE211.out) | exact HB.out)))); (case aL => have := LMc42.out; omega); intro v230 w74 ho hb hg hat; rw [← Ny229.out] at ho; have n0_ := Aside0.mk (blk_grown (g := gb211) (o := .cells #[.int .i64 a0_0, .int .i64 a0_1, .int .i64 a0_2, .int .i64 a0_3, .int .i64 a0_4, .int .i64 a0_5, .int .i64 a0_6, .int .i64 a0_7, .int .i64 a0_8, .int .i64 a0_9, .int .i64 a0_10, .int .i64 a0_11] 33 (0, 0)) (by (with_reducible repeat (first | refine blk_drewN ?_ _ | refine blk_drew ?_ | refine blk_alloc ?_ _)); exact BK211.out) hg (Kd.R_ne HO228.out BK211.out (by decide))); have n1_ := Aside0.mk (Kd.R_after (ok := (fun _ => True)) (by (with_reducible repeat (first | apply Kd.R_alloc | apply Kd.R_drewN | apply Kd.R_drew)); exact HO223.out) hg hat); have n2_ := Aside0.mk (hb); have n3_ := Aside0.mk (ho); clear BK211; clear HO223; clear HB; clear HO228; have BK211 := n0_; have HO223 := n1_; have HB := n2_; have HO231 := n3_; clear n0_ n1_ n2_ n3_; clear ho hb hg hat; obtain ⟨Ao75, co75, eo75⟩ := Kd.R_slice HO231.out; subst eo75; have p232 : 0 ≤ ((ji37) : Int) := of_decide_eq_true (by first | (with_reducible assumption) | assumption); have q232 : (ji37) < (y229.length : Int) := of_decide_eq_true (by first | (with_reducible assumption) | assumption); obtain ⟨ad232, e232, hx232_0, hx232_1⟩ := at_T27 (Kd.R_reads' HO231.out).2.2 (ji37) p232 q232; cases e232; replace p232 := eq_true p232; replace q232 := eq_true q232; have p45 : 0 ≤ ((ji37) : Int) := of_decide_eq_true (by first | (with_reducible assumption) | assumption); have q45 : ((ji37) : Int) < ((y229.length : Int) : Int) := of_decide_eq_true (by first | (with_reducible assumption) | assumption); obtain ⟨go45, co45, eo45, gb45, gl45, cl45, HG45⟩ := Kd.R_form HO231.out (by omega); (first | cases eo45 | (injection eo45 with ea_ en_ ec_; (first | subst ea_ | (injection ea_ with ea_; subst ea_)); subst ec_; clear en_)); have GB45 := Aside0.mk gb45; have GG45 := Aside0.mk HG45; clear gb45 gl45 HG45; (first | simp only [add_plain] at hx232_0 | skip); (first | simp only [add_plain] at hx232_1 | skip); obtain ⟨ce45, hcl45, hM45, hcc45, hfr45⟩ := Kd.R_elem HO231.out z27 ((ji37) : Int) p45 q45; obtain rfl := k27_openM hM45; have hx45_0 : w74.cell? ⟨go45, ((ji37) : Int).toNat * 2, none⟩ = some (.int .i64 ((rd_T27 y229 (ji37)).f0)) := hcc45 0 _ rfl; have hx45_1 : w74.cell? ⟨go45, ((ji37) : Int).toNat * 2 + 1, none⟩ = some (.bool ((rd_T27 y229 (ji37)).f1)) := hcc45 1 _ rfl; have hf45_0 : w74.frozen? ⟨go45, ((ji37) : Int).toNat * 2, none⟩ = false := hfr45 0; have hf45_1 : w74.frozen? ⟨go45, ((ji37) : Int).toNat * 2 + 1, none⟩ = false := hfr45 1; clear hcl45 hcc45 hfr45 hM45; replace p45 := eq_true p45; replace q45 := eq_true q45; have HX76 := Aside0.mk (show Kd.R k27 27 w74 w.heap.size (fun k_ => some k_ ≠ (.slice (some ⟨go41, 0, none⟩) y221.length co69 : Value).ownBlock) (.slice (some ⟨go45, 0, none⟩) y229.length co75) y229 from (by (with_reducible repeat (first | apply Kd.R_alloc | apply Kd.R_drewN | apply Kd.R_drew)); exact HO231.out)); obtain ⟨ce76, hcl76, hM76, hcc76, hfr76⟩ := Kd.R_elem HX76.out z27 ((ji37) : Int) (of_decide_eq_true (by first | (with_reducible assumption) | assumption)) (by have h_ : ((ji37) : Int) < ((y229.length : Int) : Int) := of_decide_eq_true (by first | (with_reducible assumption) | assumption); first | exact h_ | (have e_ := (Kd.R_reads' HO231.out).1; omega) | simpa using h_); obtain rfl := k27_openM hM76; have HP76 := Kd.R_seg HX76.out ((ji37) : Int) (of_decide_eq_true (by first | (with_reducible assumption) | assumption)) (by have h_ : ((ji37) : Int) < ((y229.length : Int) : Int) := of_decide_eq_true (by first | (with_reducible assumption) | assumption); first | exact h_ | (have e_ := (Kd.R_reads' HO231.out).1; omega) | simpa using h_) (seg := [.int .i64 ji44]) (j := 0) hcl76 hcc76 (show 1 ≤ 2 from by decide) (x' := (⟨ji44, (rd_T27 y229 (ji37)).f1⟩ : S27)) (k27_mkM _ _ _ (⟨ji44, (rd_T27 y229 (ji37)).f1⟩ : S27) ) (fun _ hk => hk); have hx76_0 := hcc76 0 _ rfl; (try simp only [show (k27).sz = 2 from rfl, Nat.mul_one, Nat.add_zero] at hx76_0); have hf76_0 := hfr76 0; (try simp only [show (k27).sz = 2 from rfl, Nat.mul_one, Nat.add_zero] at hf76_0); clear hcl76 hcc76 hfr76 hM76) | ((with_reducible refine gate_store (t := 2) (p := 86) rfl ?_); refine store_event (t := 2) (p := 86) (v := ?vo_w77) (w1 := (w74.setCell ⟨go45, ((ji37) : Int).toNat * 2, none⟩ (.int .i64 ji44))) ?hg ?ho ?hn ?hr ?_; (case ho => rfl); (case hg => rfl); (case hn => rfl); (case hr => first | (go_simp; done) | (go_simp; rfl)); intro w77 hw; have hg : w74.grownBy w77 (some go45) := (by rw [hw]; exact HP76.2); have hp_ : Kd.R k27 27 w77 w.heap.size (fun k_ => some k_ ≠ (.slice (some ⟨go41, 0, none⟩) y221.length co69 : Value).ownBlock) (.slice (some ⟨go45, 0, none⟩) y229.length co75) y233 := (by rw [hw, Ny233.out]; exact HP76.1); clear HP76; have n0_ := Aside0.mk (blk_grown (g := gb211) (o := .cells #[.int .i64 a0_0, .int .i64 a0_1, .int .i64 a0_2, .int .i64 a0_3, .int .i64 a0_4, .int .i64 a0_5, .int .i64 a0_6, .int .i64 a0_7, .int .i64 a0_8, .int .i64 a0_9, .int .i64 a0_10, .int .i64 a0_11] 33 (0, 0)) (by (with_reducible repeat (first | refine blk_drewN ?_ _ | refine blk_drew ?_ | refine blk_alloc ?_ _)); exact BK211.out) hg (Kd.R_ne HO231.out BK211.out (by decide))); have n1_ := Aside0.mk (Kd.R_after (v := (.slice (some ⟨go45, 0, none⟩) y229.length co75)) (v1 := (.slice (some ⟨go45, 0, none⟩) y229.length co75)) (ok := (fun _ => True)) (by (with_reducible repeat (first | apply Kd.R_alloc | apply Kd.R_drewN | apply Kd.R_drew)); exact HO223.out) hg (.inl rfl)); have n2_ := Aside0.mk (hp_); have n3_ := Aside0.mk ((by rw [hw]; exact below_set (HB.out) GB45.out : Below w.heap.size w w77)); clear BK211; clear HO223; clear HO231; clear HB; have BK211 := n0_; have HO223 := n1_; have HO231 := n2_; have HB := n3_; clear n0_ n1_ n2_ n3_; clear hg hw hp_; have hcz78_0 : w77.cell? ⟨gb211, 0, none⟩ = some (.int .i64 a0_0) := (blk_cell BK211.out 0).trans rfl; have hcz78_1 : w77.cell? ⟨gb211, 1, none⟩ = some (.int .i64 a0_1) := (blk_cell BK211.out 1).trans rfl; have hcz78_2 : w77.cell? ⟨gb211, 2, none⟩ = some (.int .i64 a0_2) := (blk_cell BK211.out 2).trans rfl; have hcz78_3 : w77.cell? ⟨gb211, 3, none⟩ = some (.int .i64 a0_3) := (blk_cell BK211.out 3).trans rfl; have hcz78_4 : w77.cell? ⟨gb211, 4, none⟩ = some (.int .i64 a0_4) := (blk_cell BK211.out 4).trans rfl; have hcz78_5 : w77.cell? ⟨gb211, 5, none⟩ = some (.int .i64 a0_5) := (blk_cell BK211.out 5).trans rfl; have hcz78_6 : w77.cell? ⟨gb211, 6, none⟩ = some (.int .i64 a0_6) := (blk_cell BK211.out 6).trans rfl; have hcz78_7 : w77.cell? ⟨gb211, 7, none⟩ = some (.int .i64 a0_7) := (blk_cell BK211.out 7).trans rfl; have hcz78_8 : w77.cell? ⟨gb211, 8, none⟩ = some (.int .i64 a0_8) := (blk_cell BK211.out 8).trans rfl; have hcz78_9 : w77.cell? ⟨gb211, 9, none⟩ = some (.int .i64 a0_9) := (blk_cell BK211.out 9).trans rfl; have hcz78_10 : w77.cell? ⟨gb211, 10, none⟩ = some (.int .i64 a0_10) := (blk_cell BK211.out 10).trans rfl; have hcz78_11 : w77.cell? ⟨gb211, 11, none⟩ = some (.int .i64 a0_11) := (blk_cell BK211.out 11).trans rfl; have hfz78_0 := blk_frozen BK211.out 0; have hfz78_1 := blk_frozen BK211.out 1; have hfz78_2 := blk_frozen BK211.out 2; have hfz78_3 := blk_frozen BK211.out 3; have hfz78_4 := blk_frozen BK211.out 4; have hfz78_5 := blk_frozen BK211.out 5; have hfz78_6 := blk_frozen BK211.out 6; have hfz78_7 := blk_frozen BK211.out 7; have hfz78_8 := blk_frozen BK211.out 8; have hfz78_9 := blk_frozen BK211.out 9; have hfz78_10 := blk_frozen BK211.out 10; have hfz78_11 := blk_frozen BK211.out 11) | (go_at_call 14; refine calls_of_args (args' := #[.agg #[.int .i64 a0_0, .int .i64 a0_1, .int .i64 a0_2, .int .i64 a0_3, .int .i64 a0_4, .int .i64 a0_5, .int .i64 a0_6, .int .i64 a0_7, .int .i64 a0_8, .int .i64 a0_9, .int .i64 a0_10, .int .i64 a0_11], .slice A1 l1.length c1, .slice (some ⟨go41, 0, none⟩) y225.length co69]) (by first | (rw [show y225.length = y221.length from (Kd.R_reads' HO223.out).1.symm] <;> rfl) | rfl) ?_; (with_reducible refine (score_Better.calls a0_0 a0_1 a0_2 a0_3 a0_4 a0_5 a0_6 a0_7 a0_8 a0_9 a0_10 a0_11 _ _ l1 _ _ y225 false _ ?side1 ?side2 ?side3 ?side4 A47.out).mono ?_); (case side1 => repeat (first | exact (Kd.C_below HR1.out HB.out) | (with_reducible refine Kd.C_alloc ?_ _) | (with_reducible refine Kd.C_drewN ?_ _) | (with_reducible refine Kd.C_drew ?_))); (case side2 => exact HC1.out); (case side3 => repeat (first | exact (Kd.R_reads' HO223.out).2.2 | (with_reducible refine Kd.C_alloc ?_ _) | (with_reducible refine Kd.C_drewN ?_ _) | (with_reducible refine Kd.C_drew ?_))); (case side4 => rw [show y225.length = y221.length from (Kd.R_reads' HO223.out).1.symm]; exact (Kd.R_reads' HO223.out).2.1); rintro e w79 ⟨rfl, hb⟩; have n0_ := Aside0.mk (Kd.R_below (by (with_reducible repeat (first | apply Kd.R_alloc | apply Kd.R_drewN | apply Kd.R_drew)); exact HO223.out) hb); have n1_ := Aside0.mk (Kd.R_below (by (with_reducible repeat (first | apply Kd.R_alloc | apply Kd.R_drewN | apply Kd.R_drew)); exact HO231.out) hb); have n2_ := Aside0.mk (blk_below (g := gb211) (o := .cells #[.int .i64 a0_0, .int .i64 a0_1, .int .i64 a0_2, .int .i64 a0_3, .int .i64 a0_4, .int .i64 a0_5, .int .i64 a0_6, .int .i64 a0_7, .int .i64 a0_8, .int .i64 a0_9, .int .i64 a0_10, .int .i64 a0_11] 33 (0, 0)) (by (with_reducible repeat (first | refine blk_drewN ?_ _ | refine blk_drew ?_ | refine blk_alloc ?_ _)); exact BK211.out) hb); have n3_ := Aside0.mk (below_step (by repeat (first | (with_reducible first | exact HB.out | apply below_alloc | apply pw_below_drewN | apply below_drew1 | refine below_set ?_ GE211.out) | exact HB.out)) hb); clear HO223; clear HO231; clear BK211; clear HB; have HO223 := n0_; have HO231 := n1_; have BK211 := n2_; have HB := n3_; clear n0_ n1_ n2_ n3_; (try clear hb); (try clear hb2); (try clear hk); (try clear hi)))
                                go_ret
                                exact ⟨by first | rfl | (simp [errW_none, errW_some] <;> rfl) | (simp only [← hji37, ← hji40, ← hji44]; first | rfl | (simp [errW_none, errW_some] <;> rfl)) | (simp [*, errW_none, errW_some] <;> rfl), by repeat (first | (with_reducible first | exact HB.out | apply below_alloc | apply pw_below_drewN | apply below_drew1 | refine below_set ?_ GE211.out) | exact HB.out)⟩
                            · replace c46 := Bool.eq_false_iff.mpr c46
                              subst c46
                              have H1 : (some false) = some r := by rw [if_neg (show ¬ (false = true) by decide)] at H; exact H
                              clear H
                              have H := H1
                              clear H1
                              obtain rfl := Option.some.inj H
                              go_wp2_with (first | ((with_reducible refine gate_dst (N := 50) rfl ?_); refine Kd.R_lit k27 _ 27 ?hg (N := 50) ?hd (xs := ([] : List (S27))) (inner := []) (ok := fun _ => True) (okp := fun _ => True) ?hr ?hp (fun _ hk => hk) trivial (Below.refl _ _) (Nat.le_refl _) (by simp) ?_; (case hd => rfl); (case hg => rfl); (case hr => first | (go_simp; done) | (go_simp; rfl)); (case hp => exact (Reps.none _ _)); intro v219 w80 ho81 hb hg_ hnew_; clear hg_ hnew_; (first | rw [← Ny218.out] at ho81 | (simp only [Int.reduceToNat] at ho81; rw [← Ny218.out] at ho81)); have n0_ := Aside0.mk (Kd.R_lower ho81 (below_size (by repeat (first | (with_reducible first | exact HB.out | apply below_alloc | apply pw_below_drewN | apply below_drew1 | refine below_set ?_ GE211.out) | exact HB.out)))); have n1_ := Aside0.mk (blk_below (g := gb211) (o := .cells #[.int .i64 a0_0, .int .i64 a0_1, .int .i64 a0_2, .int .i64 a0_3, .int .i64 a0_4, .int .i64 a0_5, .int .i64 a0_6, .int .i64 a0_7, .int .i64 a0_8, .int .i64 a0_9, .int .i64 a0_10, .int .i64 a0_11] 33 (0, 0)) (by (with_reducible repeat (first | refine blk_drewN ?_ _ | refine blk_drew ?_ | refine blk_alloc ?_ _)); exact BK211.out) hb); have n2_ := Aside0.mk (below_step (by repeat (first | (with_reducible first | exact HB.out | apply below_alloc | apply pw_below_drewN | apply below_drew1 | refine below_set ?_ GE211.out) | exact HB.out)) hb); clear BK211; clear HB; have HO220 := n0_; have BK211 := n1_; have HB := n2_; clear n0_ n1_ n2_; clear hb ho81) | ((with_reducible refine gate_builtin (b := .append) (xs := #[.tmp 50, .tmp 51]) rfl ?_); at_builtin; refine Kd.R_append_rows k27 (w0 := w) w.heap.size rfl (.tmp 50) (.tmp 51) 22 27 (.agg #[(.int .i64 0), (.bool false)]) 16 rfl Try.underlying22 info27 rfl (by decide) (by omega) v219 y218 l2 _ _ _ (fun _ => True) (fun _ => False) rfl rfl ?aO ?aR (fun _ _ h => h) (fun _ h => h.elim) ?aF ?aB ?aS ?aL ?_; (case aR => repeat (first | exact (Kd.C_below HR2.out HB.out) | (with_reducible refine Kd.C_alloc ?_ _) | (with_reducible refine Kd.C_drewN ?_ _) | (with_reducible refine Kd.C_drew ?_))); (case aB => exact (by repeat (first | (with_reducible first | exact HB.out | apply below_alloc | apply pw_below_drewN | apply below_drew1 | refine below_set ?_ GE211.out) | exact HB.out))); (case aF => exact (fun _ _ => trivial)); (case aO => exact (by (with_reducible repeat (first | apply Kd.R_alloc | apply Kd.R_drewN | apply Kd.R_drew)); exact HO220.out)); (case aS => exact (below_size (by repeat (first | (with_reducible first | exact HB.out | apply below_alloc | apply pw_below_drewN | apply below_drew1 | refine below_set ?_ GE211.out) | exact HB.out)))); (case aL => have := LMc35.out; omega); intro v222 w82 ho hb hg hat; rw [← Ny221.out] at ho; have n0_ := Aside0.mk (blk_grown (g := gb211) (o := .cells #[.int .i64 a0_0, .int .i64 a0_1, .int .i64 a0_2, .int .i64 a0_3, .int .i64 a0_4, .int .i64 a0_5, .int .i64 a0_6, .int .i64 a0_7, .int .i64 a0_8, .int .i64 a0_9, .int .i64 a0_10, .int .i64 a0_11] 33 (0, 0)) (by (with_reducible repeat (first | refine blk_drewN ?_ _ | refine blk_drew ?_ | refine blk_alloc ?_ _)); exact BK211.out) hg (Kd.R_ne HO220.out BK211.out (by decide))); have n1_ := Aside0.mk (hb); have n2_ := Aside0.mk (ho); clear BK211; clear HB; clear HO220; have BK211 := n0_; have HB := n1_; have HO223 := n2_; clear n0_ n1_ n2_; clear ho hb hg hat; obtain ⟨Ao83, co83, eo83⟩ := Kd.R_slice HO223.out; subst eo83; have p224 : 0 ≤ ((ji37) : Int) := of_decide_eq_true (by first | (with_reducible assumption) | assumption); have q224 : (ji37) < (y221.length : Int) := of_decide_eq_true (by first | (with_reducible assumption) | assumption); obtain ⟨ad224, e224, hx224_0, hx224_1⟩ := at_T27 (Kd.R_reads' HO223.out).2.2 (ji37) p224 q224; cases e224; replace p224 := eq_true p224; replace q224 := eq_true q224; have p41 : 0 ≤ ((ji37) : Int) := of_decide_eq_true (by first | (with_reducible assumption) | assumption); have q41 : ((ji37) : Int) < ((y221.length : Int) : Int) := of_decide_eq_true (by first | (with_reducible assumption) | assumption); obtain ⟨go41, co41, eo41, gb41, gl41, cl41, HG41⟩ := Kd.R_form HO223.out (by omega); (first | cases eo41 | (injection eo41 with ea_ en_ ec_; (first | subst ea_ | (injection ea_ with ea_; subst ea_)); subst ec_; clear en_)); have GB41 := Aside0.mk gb41; have GG41 := Aside0.mk HG41; clear gb41 gl41 HG41; (first | simp only [add_plain] at hx224_0 | skip); (first | simp only [add_plain] at hx224_1 | skip); obtain ⟨ce41, hcl41, hM41, hcc41, hfr41⟩ := Kd.R_elem HO223.out z27 ((ji37) : Int) p41 q41; obtain rfl := k27_openM hM41; have hx41_0 : w82.cell? ⟨go41, ((ji37) : Int).toNat * 2, none⟩ = some (.int .i64 ((rd_T27 y221 (ji37)).f0)) := hcc41 0 _ rfl; have hx41_1 : w82.cell? ⟨go41, ((ji37) : Int).toNat * 2 + 1, none⟩ = some (.bool ((rd_T27 y221 (ji37)).f1)) := hcc41 1 _ rfl; have hf41_0 : w82.frozen? ⟨go41, ((ji37) : Int).toNat * 2, none⟩ = false := hfr41 0; have hf41_1 : w82.frozen? ⟨go41, ((ji37) : Int).toNat * 2 + 1, none⟩ = false := hfr41 1; clear hcl41 hcc41 hfr41 hM41; replace p41 := eq_true p41; replace q41 := eq_true q41; have HX84 := Aside0.mk (show Kd.R k27 27 w82 w.heap.size (fun _ => True) (.slice (some ⟨go41, 0, none⟩) y221.length co83) y221 from (by (with_reducible repeat (first | apply Kd.R_alloc | apply Kd.R_drewN | apply Kd.R_drew)); exact HO223.out)); obtain ⟨ce84, hcl84, hM84, hcc84, hfr84⟩ := Kd.R_elem HX84.out z27 ((ji37) : Int) (of_decide_eq_true (by first | (with_reducible assumption) | assumption)) (by have h_ : ((ji37) : Int) < ((y221.length : Int) : Int) := of_decide_eq_true (by first | (with_reducible assumption) | assumption); first | exact h_ | (have e_ := (Kd.R_reads' HO223.out).1; omega) | simpa using h_); obtain rfl := k27_openM hM84; have HP84 := Kd.R_seg HX84.out ((ji37) : Int) (of_decide_eq_true (by first | (with_reducible assumption) | assumption)) (by have h_ : ((ji37) : Int) < ((y221.length : Int) : Int) := of_decide_eq_true (by first | (with_reducible assumption) | assumption); first | exact h_ | (have e_ := (Kd.R_reads' HO223.out).1; omega) | simpa using h_) (seg := [.int .i64 ji40, .bool false]) (j := 0) hcl84 hcc84 (show 2 ≤ 2 from by decide) (x' := (⟨ji40, false⟩ : S27)) (k27_mkM _ _ _ (⟨ji40, false⟩ : S27) ) (fun _ hk => hk); have hx84_0 := hcc84 0 _ rfl; (try simp only [show (k27).sz = 2 from rfl, Nat.mul_one, Nat.add_zero] at hx84_0); have hf84_0 := hfr84 0; (try simp only [show (k27).sz = 2 from rfl, Nat.mul_one, Nat.add_zero] at hf84_0); have hx84_1 := hcc84 1 _ rfl; (try simp only [show (k27).sz = 2 from rfl, Nat.mul_one, Nat.add_zero] at hx84_1); have hf84_1 := hfr84 1; (try simp only [show (k27).sz = 2 from rfl, Nat.mul_one, Nat.add_zero] at hf84_1); clear hcl84 hcc84 hfr84 hM84) | ((with_reducible refine gate_store (t := 27) (p := 70) rfl ?_); refine store_event (t := 27) (p := 70) (v := ?vo_w85) (w1 := ((w82.setCell ⟨go41, ((ji37) : Int).toNat * 2, none⟩ (.int .i64 ji40)).setCell ⟨go41, ((ji37) : Int).toNat * 2 + 1, none⟩ (.bool false))) ?hg ?ho ?hn ?hr ?_; (case ho => rfl); (case hg => rfl); (case hn => rfl); (case hr => first | (go_simp; done) | (go_simp; rfl)); intro w85 hw; have hg : w82.grownBy w85 (some go41) := (by rw [hw]; exact HP84.2); have hp_ : Kd.R k27 27 w85 w.heap.size (fun _ => True) (.slice (some ⟨go41, 0, none⟩) y221.length co83) y225 := (by rw [hw, Ny225.out]; exact HP84.1); clear HP84; have n0_ := Aside0.mk (blk_grown (g := gb211) (o := .cells #[.int .i64 a0_0, .int .i64 a0_1, .int .i64 a0_2, .int .i64 a0_3, .int .i64 a0_4, .int .i64 a0_5, .int .i64 a0_6, .int .i64 a0_7, .int .i64 a0_8, .int .i64 a0_9, .int .i64 a0_10, .int .i64 a0_11] 33 (0, 0)) (by (with_reducible repeat (first | refine blk_drewN ?_ _ | refine blk_drew ?_ | refine blk_alloc ?_ _)); exact BK211.out) hg (Kd.R_ne HO223.out BK211.out (by decide))); have n1_ := Aside0.mk (hp_); have n2_ := Aside0.mk ((by rw [hw]; exact below_set (below_set (HB.out) GB41.out) GB41.out : Below w.heap.size w w85)); clear BK211; clear HO223; clear HB; have BK211 := n0_; have HO223 := n1_; have HB := n2_; clear n0_ n1_ n2_; clear hg hw hp_) | ((with_reducible refine gate_dst (N := 71) rfl ?_); refine Kd.R_lit k27 _ 27 ?hg (N := 71) ?hd (xs := ([] : List (S27))) (inner := []) (ok := fun _ => True) (okp := fun _ => True) ?hr ?hp (fun _ hk => hk) trivial (Below.refl _ _) (Nat.le_refl _) (by simp) ?_; (case hd => rfl); (case hg => rfl); (case hr => first | (go_simp; done) | (go_simp; rfl)); (case hp => exact (Reps.none _ _)); intro v227 w86 ho87 hb hg_ hnew_; clear hg_ hnew_; (first | rw [← Ny226.out] at ho87 | (simp only [Int.reduceToNat] at ho87; rw [← Ny226.out] at ho87)); have n0_ := Aside0.mk (Kd.R_elder' (by (with_reducible repeat (first | apply Kd.R_alloc | apply Kd.R_drewN | apply Kd.R_drew)); exact HO223.out) (Kd.R_base ho87) hb); have n1_ := Aside0.mk (Kd.R_lower (Kd.R_new' ho87 (Kd.R_lt (by (with_reducible repeat (first | apply Kd.R_alloc | apply Kd.R_drewN | apply Kd.R_drew)); exact HO223.out))) (below_size (by repeat (first | (with_reducible first | exact HB.out | apply below_alloc | apply pw_below_drewN | apply below_drew1 | refine below_set ?_ GE211.out) | exact HB.out)))); have n2_ := Aside0.mk (blk_below (g := gb211) (o := .cells #[.int .i64 a0_0, .int .i64 a0_1, .int .i64 a0_2, .int .i64 a0_3, .int .i64 a0_4, .int .i64 a0_5, .int .i64 a0_6, .int .i64 a0_7, .int .i64 a0_8, .int .i64 a0_9, .int .i64 a0_10, .int .i64 a0_11] 33 (0, 0)) (by (with_reducible repeat (first | refine blk_drewN ?_ _ | refine blk_drew ?_ | refine blk_alloc ?_ _)); exact BK211.out) hb); have n3_ := Aside0.mk (below_step (by repeat (first | (with_reducible first | exact HB.out | apply below_alloc | apply pw_below_drewN | apply below_drew1 | refine below_set ?_ GE211.out) | exact HB.out)) hb); clear HO223; clear BK211; clear HB; have HO223 := n0_; have HO228 := n1_; have BK211 := n2_; have HB := n3_; clear n0_ n1_ n2_ n3_; clear hb ho87) | ((with_reducible refine gate_builtin (b := .append) (xs := #[.tmp 71, .tmp 72]) rfl ?_); at_builtin; refine Kd.R_append_rows k27 (w0 := w) w.heap.size rfl (.tmp 71) (.tmp 72) 22 27 (.agg #[(.int .i64 0), (.bool false)]) 16 rfl Try.underlying22 info27 rfl (by decide) (by omega) v227 y226 l1 _ _ _ (fun k_ => some k_ ≠ (.slice (some ⟨go41, 0, none⟩) y221.length co83 : Value).ownBlock) (fun _ => False) rfl rfl ?aO ?aR (fun _ _ h => h) (fun _ h => h.elim) ?aF ?aB ?aS ?aL ?_; (case aR => repeat (first | exact (Kd.C_below HR1.out HB.out) | (with_reducible refine Kd.C_alloc ?_ _) | (with_reducible refine Kd.C_drewN ?_ _) | (with_reducible refine Kd.C_drew ?_))); (case aB => exact (by repeat (first | (with_reducible first | exact HB.out | apply below_alloc | apply pw_below_drewN | apply below_drew1 | refine below_set ?_ GE211.out) | exact HB.out))); (case aF => exact (fun k_ hk => Kd.fresh' (Kd.R_lt (by (with_reducible repeat (first | apply Kd.R_alloc | apply Kd.R_drewN | apply Kd.R_drew)); exact HO223.out)) k_ hk)); (case aO => exact (by (with_reducible repeat (first | apply Kd.R_alloc | apply Kd.R_drewN | apply Kd.R_drew)); exact Kd.R_mono HO228.out (fun _ hk => hk.2))); (case aS => exact (below_size (by repeat (first | (with_reducible first | exact HB.out | apply below_alloc | apply pw_below_drewN | apply below_drew1 | refine below_set ?_ GE211.out) | exact HB.out)))); (case aL => have := LMc42.out; omega); intro v230 w88 ho hb hg hat; rw [← Ny229.out] at ho; have n0_ := Aside0.mk (blk_grown (g := gb211) (o := .cells #[.int .i64 a0_0, .int .i64 a0_1, .int .i64 a0_2, .int .i64 a0_3, .int .i64 a0_4, .int .i64 a0_5, .int .i64 a0_6, .int .i64 a0_7, .int .i64 a0_8, .int .i64 a0_9, .int .i64 a0_10, .int .i64 a0_11] 33 (0, 0)) (by (with_reducible repeat (first | refine blk_drewN ?_ _ | refine blk_drew ?_ | refine blk_alloc ?_ _)); exact BK211.out) hg (Kd.R_ne HO228.out BK211.out (by decide))); have n1_ := Aside0.mk (Kd.R_after (ok := (fun _ => True)) (by (with_reducible repeat (first | apply Kd.R_alloc | apply Kd.R_drewN | apply Kd.R_drew)); exact HO223.out) hg hat); have n2_ := Aside0.mk (hb); have n3_ := Aside0.mk (ho); clear BK211; clear HO223; clear HB; clear HO228; have BK211 := n0_; have HO223 := n1_; have HB := n2_; have HO231 := n3_; clear n0_ n1_ n2_ n3_; clear ho hb hg hat; obtain ⟨Ao89, co89, eo89⟩ := Kd.R_slice HO231.out; subst eo89; have p232 : 0 ≤ ((ji37) : Int) := of_decide_eq_true (by first | (with_reducible assumption) | assumption); have q232 : (ji37) < (y229.length : Int) := of_decide_eq_true (by first | (with_reducible assumption) | assumption); obtain ⟨ad232, e232, hx232_0, hx232_1⟩ := at_T27 (Kd.R_reads' HO231.out).2.2 (ji37) p232 q232; cases e232; replace p232 := eq_true p232; replace q232 := eq_true q232; have p45 : 0 ≤ ((ji37) : Int) := of_decide_eq_true (by first | (with_reducible assumption) | assumption); have q45 : ((ji37) : Int) < ((y229.length : Int) : Int) := of_decide_eq_true (by first | (with_reducible assumption) | assumption); obtain ⟨go45, co45, eo45, gb45, gl45, cl45, HG45⟩ := Kd.R_form HO231.out (by omega); (first | cases eo45 | (injection eo45 with ea_ en_ ec_; (first | subst ea_ | (injection ea_ with ea_; subst ea_)); subst ec_; clear en_)); have GB45 := Aside0.mk gb45; have GG45 := Aside0.mk HG45; clear gb45 gl45 HG45; (first | simp only [add_plain] at hx232_0 | skip); (first | simp only [add_plain] at hx232_1 | skip); obtain ⟨ce45, hcl45, hM45, hcc45, hfr45⟩ := Kd.R_elem HO231.out z27 ((ji37) : Int) p45 q45; obtain rfl := k27_openM hM45; have hx45_0 : w88.cell? ⟨go45, ((ji37) : Int).toNat * 2, none⟩ = some (.int .i64 ((rd_T27 y229 (ji37)).f0)) := hcc45 0 _ rfl; have hx45_1 : w88.cell? ⟨go45, ((ji37) : Int).toNat * 2 + 1, none⟩ = some (.bool ((rd_T27 y229 (ji37)).f1)) := hcc45 1 _ rfl; have hf45_0 : w88.frozen? ⟨go45, ((ji37) : Int).toNat * 2, none⟩ = false := hfr45 0; have hf45_1 : w88.frozen? ⟨go45, ((ji37) : Int).toNat * 2 + 1, none⟩ = false := hfr45 1; clear hcl45 hcc45 hfr45 hM45; replace p45 := eq_true p45; replace q45 := eq_true q45; have HX90 := Aside0.mk (show Kd.R k27 27 w88 w.heap.size (fun k_ => some k_ ≠ (.slice (some ⟨go41, 0, none⟩) y221.length co83 : Value).ownBlock) (.slice (some ⟨go45, 0, none⟩) y229.length co89) y229 from (by (with_reducible repeat (first | apply Kd.R_alloc | apply Kd.R_drewN | apply Kd.R_drew)); exact HO231.out)); obtain ⟨ce90, hcl90, hM90, hcc90, hfr90⟩ := Kd.R_elem HX90.out z27 ((ji37) : Int) (of_decide_eq_true (by first | (with_reducible assumption) | assumption)) (by have h_ : ((ji37) : Int) < ((y229.length : Int) : Int) := of_decide_eq_true (by first | (with_reducible assumption) | assumption); first | exact h_ | (have e_ := (Kd.R_reads' HO231.out).1; omega) | simpa using h_); obtain rfl := k27_openM hM90; have HP90 := Kd.R_seg HX90.out ((ji37) : Int) (of_decide_eq_true (by first | (with_reducible assumption) | assumption)) (by have h_ : ((ji37) : Int) < ((y229.length : Int) : Int) := of_decide_eq_true (by first | (with_reducible assumption) | assumption); first | exact h_ | (have e_ := (Kd.R_reads' HO231.out).1; omega) | simpa using h_) (seg := [.int .i64 ji44]) (j := 0) hcl90 hcc90 (show 1 ≤ 2 from by decide) (x' := (⟨ji44, (rd_T27 y229 (ji37)).f1⟩ : S27)) (k27_mkM _ _ _ (⟨ji44, (rd_T27 y229 (ji37)).f1⟩ : S27) ) (fun _ hk => hk); have hx90_0 := hcc90 0 _ rfl; (try simp only [show (k27).sz = 2 from rfl, Nat.mul_one, Nat.add_zero] at hx90_0); have hf90_0 := hfr90 0; (try simp only [show (k27).sz = 2 from rfl, Nat.mul_one, Nat.add_zero] at hf90_0); clear hcl90 hcc90 hfr90 hM90) | ((with_reducible refine gate_store (t := 2) (p := 86) rfl ?_); refine store_event (t := 2) (p := 86) (v := ?vo_w91) (w1 := (w88.setCell ⟨go45, ((ji37) : Int).toNat * 2, none⟩ (.int .i64 ji44))) ?hg ?ho ?hn ?hr ?_; (case ho => rfl); (case hg => rfl); (case hn => rfl); (case hr => first | (go_simp; done) | (go_simp; rfl)); intro w91 hw; have hg : w88.grownBy w91 (some go45) := (by rw [hw]; exact HP90.2); have hp_ : Kd.R k27 27 w91 w.heap.size (fun k_ => some k_ ≠ (.slice (some ⟨go41, 0, none⟩) y221.length co83 : Value).ownBlock) (.slice (some ⟨go45, 0, none⟩) y229.length co89) y233 := (by rw [hw, Ny233.out]; exact HP90.1); clear HP90; have n0_ := Aside0.mk (blk_grown (g := gb211) (o := .cells #[.int .i64 a0_0, .int .i64 a0_1, .int .i64 a0_2, .int .i64 a0_3, .int .i64 a0_4, .int .i64 a0_5, .int .i64 a0_6, .int .i64 a0_7, .int .i64 a0_8, .int .i64 a0_9, .int .i64 a0_10, .int .i64 a0_11] 33 (0, 0)) (by (with_reducible repeat (first | refine blk_drewN ?_ _ | refine blk_drew ?_ | refine blk_alloc ?_ _)); exact BK211.out) hg (Kd.R_ne HO231.out BK211.out (by decide))); have n1_ := Aside0.mk (Kd.R_after (v := (.slice (some ⟨go45, 0, none⟩) y229.length co89)) (v1 := (.slice (some ⟨go45, 0, none⟩) y229.length co89)) (ok := (fun _ => True)) (by (with_reducible repeat (first | apply Kd.R_alloc | apply Kd.R_drewN | apply Kd.R_drew)); exact HO223.out) hg (.inl rfl)); have n2_ := Aside0.mk (hp_); have n3_ := Aside0.mk ((by rw [hw]; exact below_set (HB.out) GB45.out : Below w.heap.size w w91)); clear BK211; clear HO223; clear HO231; clear HB; have BK211 := n0_; have HO223 := n1_; have HO231 := n2_; have HB := n3_; clear n0_ n1_ n2_ n3_; clear hg hw hp_))
                              go_ret
                              exact ⟨by first | rfl | (simp [errW_none, errW_some] <;> rfl) | (simp only [← hji37, ← hji40, ← hji44]; first | rfl | (simp [errW_none, errW_some] <;> rfl)) | (simp [*, errW_none, errW_some] <;> rfl), by repeat (first | (with_reducible first | exact HB.out | apply below_alloc | apply pw_below_drewN | apply below_drew1 | refine below_set ?_ GE211.out) | exact HB.out)⟩
                          · rw [if_neg c43] at H
                            exact absurd H (by simp)
                        · rw [if_neg c42] at H
                          exact absurd H (by simp)
                      · rw [if_neg c39] at H
                        exact absurd H (by simp)
                    · rw [if_neg c38] at H
                      exact absurd H (by simp)
                · rw [if_neg c35] at H
                  exact absurd H (by simp)
              · replace c34 := Bool.eq_false_iff.mpr c34
                subst c34
                have H1 : (some t212) = some r := by rw [if_neg (show ¬ (false = true) by decide)] at H; exact H
                clear H
                have H := H1
                clear H1
                obtain rfl := Option.some.inj H
                go_wp2
                go_ret
                exact ⟨by first | rfl | (simp [errW_none, errW_some] <;> rfl) | (simp [*, errW_none, errW_some] <;> rfl), by repeat (first | (with_reducible first | exact HB.out | apply below_alloc | apply pw_below_drewN | apply below_drew1 | refine below_set ?_ GE211.out) | exact HB.out)⟩

end Go.Proofs.Ytjekpfaldbeocaa.Print
