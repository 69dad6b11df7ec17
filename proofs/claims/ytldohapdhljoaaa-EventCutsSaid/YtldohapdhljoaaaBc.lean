/- Several texts of this claim, one behind the other. -/
import Derived.Test.YtldohapdhljoaaaBb
namespace Go.Proofs.Ytldohapdhljoaaa.Print
open Go.RowKit Go.Proofs.YtldohapdhljoaaaW.PrintWords Go.Proofs.YtldohapdhljoaaaW.PrintLast Go.Proofs.YtldohapdhljoaaaW.PrintMore
attribute [local go_sem] max2_int min2_int max_two min_two max_three min_three max_four min_four
set_option linter.unusedVariables false
set_option linter.unusedSimpArgs false
attribute [local go_sem high] eqA46 eqA48
mutual
def governorref09_SamePolicy.j0 : Nat → Bool → Int → Int → List (S46) → Int → Int → Int → Int → List (S48) → Int → Int → List (S46) → Int → Int → Int → Int → List (S48) → Option (Bool)
  | 0, _, _, _, _, _, _, _, _, _, _, _, _, _, _, _, _, _ => none
  | k + 1, x64, x137000, x137001, x137002, x137003, x137004, x137005, x137006, x137007, x138000, x138001, x138002, x138003, x138004, x138005, x138006, x138007 => if x64 = true then (some false) else (governorref09_SamePolicy.l0 k 0 x137000 x137001 x137002 x137003 x137004 x137005 x137006 x137007 x138000 x138001 x138002 x138003 x138004 x138005 x138006 x138007)
def governorref09_SamePolicy.l0 : Nat → Int → Int → Int → List (S46) → Int → Int → Int → Int → List (S48) → Int → Int → List (S46) → Int → Int → Int → Int → List (S48) → Option (Bool)
  | 0, _, _, _, _, _, _, _, _, _, _, _, _, _, _, _, _, _ => none
  | k + 1, x5, x137000, x137001, x137002, x137003, x137004, x137005, x137006, x137007, x138000, x138001, x138002, x138003, x138004, x138005, x138006, x138007 => if x5 < (x137002.length : Int) then (if 0 ≤ x5 then (if x5 < (x138002.length : Int) then (if (!(((rd_T46 x137002 x5).f0) == ((rd_T46 x138002 x5).f0)) || (!(((rd_T46 x137002 x5).f1) == ((rd_T46 x138002 x5).f1)))) = true then (some false) else (governorref09_SamePolicy.l0 k (wrap64 (x5 + 1)) x137000 x137001 x137002 x137003 x137004 x137005 x137006 x137007 x138000 x138001 x138002 x138003 x138004 x138005 x138006 x138007)) else (none)) else (none)) else (governorref09_SamePolicy.l1 k 0 x137000 x137001 x137002 x137003 x137004 x137005 x137006 x137007 x138000 x138001 x138002 x138003 x138004 x138005 x138006 x138007)
def governorref09_SamePolicy.l1 : Nat → Int → Int → Int → List (S46) → Int → Int → Int → Int → List (S48) → Int → Int → List (S46) → Int → Int → Int → Int → List (S48) → Option (Bool)
  | 0, _, _, _, _, _, _, _, _, _, _, _, _, _, _, _, _, _ => none
  | k + 1, x6, x137000, x137001, x137002, x137003, x137004, x137005, x137006, x137007, x138000, x138001, x138002, x138003, x138004, x138005, x138006, x138007 => if x6 < (x137007.length : Int) then (if 0 ≤ x6 then (if x6 < (x138007.length : Int) then (if (!(((rd_T48 x137007 x6).f0) == ((rd_T48 x138007 x6).f0)) || (!(((rd_T48 x137007 x6).f1) == ((rd_T48 x138007 x6).f1)))) = true then (some false) else (governorref09_SamePolicy.l1 k (wrap64 (x6 + 1)) x137000 x137001 x137002 x137003 x137004 x137005 x137006 x137007 x138000 x138001 x138002 x138003 x138004 x138005 x138006 x138007)) else (none)) else (none)) else (some true)
end
def governorref09_SamePolicy.f (k : Nat) (a0_0 : Int) (a0_1 : Int) (l0_2 : List (S46)) (a0_3 : Int) (a0_4 : Int) (a0_5 : Int) (a0_6 : Int) (l0_7 : List (S48)) (a1_0 : Int) (a1_1 : Int) (l1_2 : List (S46)) (a1_3 : Int) (a1_4 : Int) (a1_5 : Int) (a1_6 : Int) (l1_7 : List (S48)) : Option (Bool) := if a0_0 = a1_0 then (if a0_1 = a1_1 then (if a0_3 = a1_3 then (if a0_4 = a1_4 then (if a0_5 = a1_5 then (if a0_6 = a1_6 then (if (l0_2.length : Int) = (l1_2.length : Int) then (governorref09_SamePolicy.j0 k ((l0_7.length : Int) != (l1_7.length : Int)) a0_0 a0_1 l0_2 a0_3 a0_4 a0_5 a0_6 l0_7 a1_0 a1_1 l1_2 a1_3 a1_4 a1_5 a1_6 l1_7) else (governorref09_SamePolicy.j0 k true a0_0 a0_1 l0_2 a0_3 a0_4 a0_5 a0_6 l0_7 a1_0 a1_1 l1_2 a1_3 a1_4 a1_5 a1_6 l1_7)) else (governorref09_SamePolicy.j0 k true a0_0 a0_1 l0_2 a0_3 a0_4 a0_5 a0_6 l0_7 a1_0 a1_1 l1_2 a1_3 a1_4 a1_5 a1_6 l1_7)) else (governorref09_SamePolicy.j0 k true a0_0 a0_1 l0_2 a0_3 a0_4 a0_5 a0_6 l0_7 a1_0 a1_1 l1_2 a1_3 a1_4 a1_5 a1_6 l1_7)) else (governorref09_SamePolicy.j0 k true a0_0 a0_1 l0_2 a0_3 a0_4 a0_5 a0_6 l0_7 a1_0 a1_1 l1_2 a1_3 a1_4 a1_5 a1_6 l1_7)) else (governorref09_SamePolicy.j0 k true a0_0 a0_1 l0_2 a0_3 a0_4 a0_5 a0_6 l0_7 a1_0 a1_1 l1_2 a1_3 a1_4 a1_5 a1_6 l1_7)) else (governorref09_SamePolicy.j0 k true a0_0 a0_1 l0_2 a0_3 a0_4 a0_5 a0_6 l0_7 a1_0 a1_1 l1_2 a1_3 a1_4 a1_5 a1_6 l1_7)) else (governorref09_SamePolicy.j0 k true a0_0 a0_1 l0_2 a0_3 a0_4 a0_5 a0_6 l0_7 a1_0 a1_1 l1_2 a1_3 a1_4 a1_5 a1_6 l1_7)
theorem governorref09_SamePolicy.mono_l : ∀ k, (∀ y0 y1 y2 y3 y4 y5 y6 y7 y8 y9 y10 y11 y12 y13 y14 y15 y16, LeO (governorref09_SamePolicy.j0 k y0 y1 y2 y3 y4 y5 y6 y7 y8 y9 y10 y11 y12 y13 y14 y15 y16) (governorref09_SamePolicy.j0 (k + 1) y0 y1 y2 y3 y4 y5 y6 y7 y8 y9 y10 y11 y12 y13 y14 y15 y16)) ∧ (∀ y0 y1 y2 y3 y4 y5 y6 y7 y8 y9 y10 y11 y12 y13 y14 y15 y16, LeO (governorref09_SamePolicy.l0 k y0 y1 y2 y3 y4 y5 y6 y7 y8 y9 y10 y11 y12 y13 y14 y15 y16) (governorref09_SamePolicy.l0 (k + 1) y0 y1 y2 y3 y4 y5 y6 y7 y8 y9 y10 y11 y12 y13 y14 y15 y16)) ∧ (∀ y0 y1 y2 y3 y4 y5 y6 y7 y8 y9 y10 y11 y12 y13 y14 y15 y16, LeO (governorref09_SamePolicy.l1 k y0 y1 y2 y3 y4 y5 y6 y7 y8 y9 y10 y11 y12 y13 y14 y15 y16) (governorref09_SamePolicy.l1 (k + 1) y0 y1 y2 y3 y4 y5 y6 y7 y8 y9 y10 y11 y12 y13 y14 y15 y16))
  | 0 => ⟨fun _ _ _ _ _ _ _ _ _ _ _ _ _ _ _ _ _ r h => by simp [governorref09_SamePolicy.j0] at h, fun _ _ _ _ _ _ _ _ _ _ _ _ _ _ _ _ _ r h => by simp [governorref09_SamePolicy.l0] at h, fun _ _ _ _ _ _ _ _ _ _ _ _ _ _ _ _ _ r h => by simp [governorref09_SamePolicy.l1] at h⟩
  | k + 1 => by
    obtain ⟨ih0, ih1, ih2⟩ := governorref09_SamePolicy.mono_l k
    refine ⟨?_, ?_, ?_⟩
    · intro y0 y1 y2 y3 y4 y5 y6 y7 y8 y9 y10 y11 y12 y13 y14 y15 y16
      unfold governorref09_SamePolicy.j0
      repeat' first
      | (with_reducible exact ih0 _ _ _ _ _ _ _ _ _ _ _ _ _ _ _ _ _)
      | (with_reducible exact ih1 _ _ _ _ _ _ _ _ _ _ _ _ _ _ _ _ _)
      | (with_reducible exact ih2 _ _ _ _ _ _ _ _ _ _ _ _ _ _ _ _ _)
      | (with_reducible exact LeO.refl _)
      | (with_reducible exact LeO.none _)
      | (with_reducible refine LeO.ite ?_ ?_)
      | (with_reducible refine LeO.bind ?_ (fun _ => ?_))
      | exact ih0 _ _ _ _ _ _ _ _ _ _ _ _ _ _ _ _ _
      | exact ih1 _ _ _ _ _ _ _ _ _ _ _ _ _ _ _ _ _
      | exact ih2 _ _ _ _ _ _ _ _ _ _ _ _ _ _ _ _ _
      | exact LeO.none _
      | refine LeO.ite ?_ ?_
      | refine LeO.bind ?_ (fun _ => ?_)
    · intro y0 y1 y2 y3 y4 y5 y6 y7 y8 y9 y10 y11 y12 y13 y14 y15 y16
      unfold governorref09_SamePolicy.l0
      repeat' first
      | (with_reducible exact ih0 _ _ _ _ _ _ _ _ _ _ _ _ _ _ _ _ _)
      | (with_reducible exact ih1 _ _ _ _ _ _ _ _ _ _ _ _ _ _ _ _ _)
      | (with_reducible exact ih2 _ _ _ _ _ _ _ _ _ _ _ _ _ _ _ _ _)
      | (with_reducible exact LeO.refl _)
      | (with_reducible exact LeO.none _)
      | (with_reducible refine LeO.ite ?_ ?_)
      | (with_reducible refine LeO.bind ?_ (fun _ => ?_))
      | exact ih0 _ _ _ _ _ _ _ _ _ _ _ _ _ _ _ _ _
      | exact ih1 _ _ _ _ _ _ _ _ _ _ _ _ _ _ _ _ _
      | exact ih2 _ _ _ _ _ _ _ _ _ _ _ _ _ _ _ _ _
      | exact LeO.none _
      | refine LeO.ite ?_ ?_
      | refine LeO.bind ?_ (fun _ => ?_)
    · intro y0 y1 y2 y3 y4 y5 y6 y7 y8 y9 y10 y11 y12 y13 y14 y15 y16
      unfold governorref09_SamePolicy.l1
      repeat' first
      | (with_reducible exact ih0 _ _ _ _ _ _ _ _ _ _ _ _ _ _ _ _ _)
      | (with_reducible exact ih1 _ _ _ _ _ _ _ _ _ _ _ _ _ _ _ _ _)
      | (with_reducible exact ih2 _ _ _ _ _ _ _ _ _ _ _ _ _ _ _ _ _)
      | (with_reducible exact LeO.refl _)
      | (with_reducible exact LeO.none _)
      | (with_reducible refine LeO.ite ?_ ?_)
      | (with_reducible refine LeO.bind ?_ (fun _ => ?_))
      | exact ih0 _ _ _ _ _ _ _ _ _ _ _ _ _ _ _ _ _
      | exact ih1 _ _ _ _ _ _ _ _ _ _ _ _ _ _ _ _ _
      | exact ih2 _ _ _ _ _ _ _ _ _ _ _ _ _ _ _ _ _
      | exact LeO.none _
      | refine LeO.ite ?_ ?_
      | refine LeO.bind ?_ (fun _ => ?_)
theorem governorref09_SamePolicy.mono : ∀ a0 a1 a2 a3 a4 a5 a6 a7 a8 a9 a10 a11 a12 a13 a14 a15 k, LeO (governorref09_SamePolicy.f k a0 a1 a2 a3 a4 a5 a6 a7 a8 a9 a10 a11 a12 a13 a14 a15) (governorref09_SamePolicy.f (k + 1) a0 a1 a2 a3 a4 a5 a6 a7 a8 a9 a10 a11 a12 a13 a14 a15) := by
  intro a0 a1 a2 a3 a4 a5 a6 a7 a8 a9 a10 a11 a12 a13 a14 a15 k
  obtain ⟨ih0, ih1, ih2⟩ := governorref09_SamePolicy.mono_l k
  unfold governorref09_SamePolicy.f
  repeat' first
      | (with_reducible exact ih0 _ _ _ _ _ _ _ _ _ _ _ _ _ _ _ _ _)
      | (with_reducible exact ih1 _ _ _ _ _ _ _ _ _ _ _ _ _ _ _ _ _)
      | (with_reducible exact ih2 _ _ _ _ _ _ _ _ _ _ _ _ _ _ _ _ _)
      | (with_reducible exact LeO.refl _)
      | (with_reducible exact LeO.none _)
      | (with_reducible refine LeO.ite ?_ ?_)
      | (with_reducible refine LeO.bind ?_ (fun _ => ?_))
      | exact ih0 _ _ _ _ _ _ _ _ _ _ _ _ _ _ _ _ _
      | exact ih1 _ _ _ _ _ _ _ _ _ _ _ _ _ _ _ _ _
      | exact ih2 _ _ _ _ _ _ _ _ _ _ _ _ _ _ _ _ _
      | exact LeO.none _
      | refine LeO.ite ?_ ?_
      | refine LeO.bind ?_ (fun _ => ?_)
set_option maxHeartbeats 8000000 in
set_option maxRecDepth 100000 in
theorem governorref09_SamePolicy.calls (k : Nat) (a0_0 : Int) (a0_1 : Int) (A0_2 : Option Addr) (c0_2 : Nat) (l0_2 : List (S46)) (a0_3 : Int) (a0_4 : Int) (a0_5 : Int) (a0_6 : Int) (A0_7 : Option Addr) (c0_7 : Nat) (l0_7 : List (S48)) (a1_0 : Int) (a1_1 : Int) (A1_2 : Option Addr) (c1_2 : Nat) (l1_2 : List (S46)) (a1_3 : Int) (a1_4 : Int) (a1_5 : Int) (a1_6 : Int) (A1_7 : Option Addr) (c1_7 : Nat) (l1_7 : List (S48)) (r : Bool) (w : World) (hr0_2 : Kd.C k46 w A0_2 l0_2.length l0_2) (hc0_2 : l0_2.length ≤ c0_2) (hr0_7 : Kd.C k48 w A0_7 l0_7.length l0_7) (hc0_7 : l0_7.length ≤ c0_7) (hr1_2 : Kd.C k46 w A1_2 l1_2.length l1_2) (hc1_2 : l1_2.length ≤ c1_2) (hr1_7 : Kd.C k48 w A1_7 l1_7.length l1_7) (hc1_7 : l1_7.length ≤ c1_7) (h : governorref09_SamePolicy.f k a0_0 a0_1 l0_2 a0_3 a0_4 a0_5 a0_6 l0_7 a1_0 a1_1 l1_2 a1_3 a1_4 a1_5 a1_6 l1_7 = some r) :
    Calls Try.prog 23 #[.agg #[.int .i64 a0_0, .int .i64 a0_1, .slice A0_2 l0_2.length c0_2, .int .i64 a0_3, .int .i64 a0_4, .int .i64 a0_5, .int .i64 a0_6, .slice A0_7 l0_7.length c0_7], .agg #[.int .i64 a1_0, .int .i64 a1_1, .slice A1_2 l1_2.length c1_2, .int .i64 a1_3, .int .i64 a1_4, .int .i64 a1_5, .int .i64 a1_6, .slice A1_7 l1_7.length c1_7]] w fun e w' => e = .returned (.bool r) ∧ Below w.heap.size w w' := by
  have hu25 := Try.underlying25
  have hu46 := Try.underlying46
  have hu48 := Try.underlying48
  have HR0_2 := Aside0.mk hr0_2
  have HC0_2 := Aside0.mk hc0_2
  clear hr0_2 hc0_2
  have HR0_7 := Aside0.mk hr0_7
  have HC0_7 := Aside0.mk hc0_7
  clear hr0_7 hc0_7
  have HR1_2 := Aside0.mk hr1_2
  have HC1_2 := Aside0.mk hc1_2
  clear hr1_2 hc1_2
  have HR1_7 := Aside0.mk hr1_7
  have HC1_7 := Aside0.mk hc1_7
  clear hr1_7 hc1_7
  have HB := Aside0.mk (Below.refl w.heap.size w)
  have H : (if a0_0 = a1_0 then (if a0_1 = a1_1 then (if a0_3 = a1_3 then (if a0_4 = a1_4 then (if a0_5 = a1_5 then (if a0_6 = a1_6 then (if (l0_2.length : Int) = (l1_2.length : Int) then (governorref09_SamePolicy.j0 k ((l0_7.length : Int) != (l1_7.length : Int)) a0_0 a0_1 l0_2 a0_3 a0_4 a0_5 a0_6 l0_7 a1_0 a1_1 l1_2 a1_3 a1_4 a1_5 a1_6 l1_7) else (governorref09_SamePolicy.j0 k true a0_0 a0_1 l0_2 a0_3 a0_4 a0_5 a0_6 l0_7 a1_0 a1_1 l1_2 a1_3 a1_4 a1_5 a1_6 l1_7)) else (governorref09_SamePolicy.j0 k true a0_0 a0_1 l0_2 a0_3 a0_4 a0_5 a0_6 l0_7 a1_0 a1_1 l1_2 a1_3 a1_4 a1_5 a1_6 l1_7)) else (governorref09_SamePolicy.j0 k true a0_0 a0_1 l0_2 a0_3 a0_4 a0_5 a0_6 l0_7 a1_0 a1_1 l1_2 a1_3 a1_4 a1_5 a1_6 l1_7)) else (governorref09_SamePolicy.j0 k true a0_0 a0_1 l0_2 a0_3 a0_4 a0_5 a0_6 l0_7 a1_0 a1_1 l1_2 a1_3 a1_4 a1_5 a1_6 l1_7)) else (governorref09_SamePolicy.j0 k true a0_0 a0_1 l0_2 a0_3 a0_4 a0_5 a0_6 l0_7 a1_0 a1_1 l1_2 a1_3 a1_4 a1_5 a1_6 l1_7)) else (governorref09_SamePolicy.j0 k true a0_0 a0_1 l0_2 a0_3 a0_4 a0_5 a0_6 l0_7 a1_0 a1_1 l1_2 a1_3 a1_4 a1_5 a1_6 l1_7)) else (governorref09_SamePolicy.j0 k true a0_0 a0_1 l0_2 a0_3 a0_4 a0_5 a0_6 l0_7 a1_0 a1_1 l1_2 a1_3 a1_4 a1_5 a1_6 l1_7)) = some r := h
  clear h
  have HC3 := Aside0.mk H
  clear H
  go_enter Try.func23, Try.ntmps23
  go_upto_region 1 with (first | ((with_reducible refine gate_dst (N := 2) rfl ?_); (try (refine gate_guard (by rfl) ?_; dsimp only)); refine box_event ?hg (N := 2) ?hd (cs := #[.int .i64 a0_0, .int .i64 a0_1, .slice A0_2 l0_2.length c0_2, .int .i64 a0_3, .int .i64 a0_4, .int .i64 a0_5, .int .i64 a0_6, .slice A0_7 l0_7.length c0_7]) (t := 25) ?hr ?_; (case hd => rfl); (case hg => rfl); (case hr => first | (go_simp; done) | (go_simp; rfl)); intro gb136 hg w4 hbox hb; have n0_ := Aside0.mk (below_step (by repeat (first | (with_reducible first | exact HB.out | apply below_alloc | apply pw_below_drewN | apply below_drew1) | exact HB.out)) hb); have n1_ := Aside0.mk (hbox); have n2_ := Aside0.mk ((by rw [hg]; exact (below_size (by repeat (first | (with_reducible first | exact HB.out | apply below_alloc | apply pw_below_drewN | apply below_drew1) | exact HB.out))) : w.heap.size ≤ gb136)); have n3_ := Aside0.mk ((by rw [hg]; exact (below_size (by repeat (first | (with_reducible first | exact HB.out | apply below_alloc | apply pw_below_drewN | apply below_drew1) | exact HB.out))) : w.heap.size ≤ gb136)); clear HB; have HB := n0_; have BK136 := n1_; have GW136 := n2_; have GE136 := n3_; clear n0_ n1_ n2_ n3_; clear hb hbox hg) | ((with_reducible refine gate_dst (N := 3) rfl ?_); (try (refine gate_guard (by rfl) ?_; dsimp only)); refine box_event ?hg (N := 3) ?hd (cs := #[.int .i64 a1_0, .int .i64 a1_1, .slice A1_2 l1_2.length c1_2, .int .i64 a1_3, .int .i64 a1_4, .int .i64 a1_5, .int .i64 a1_6, .slice A1_7 l1_7.length c1_7]) (t := 25) ?hr ?_; (case hd => rfl); (case hg => rfl); (case hr => first | (go_simp; done) | (go_simp; rfl)); intro gb137 hg w5 hbox hb; have n0_ := Aside0.mk (blk_below (g := gb136) (o := .cells #[.int .i64 a0_0, .int .i64 a0_1, .slice A0_2 l0_2.length c0_2, .int .i64 a0_3, .int .i64 a0_4, .int .i64 a0_5, .int .i64 a0_6, .slice A0_7 l0_7.length c0_7] 25 (0, 0)) (by (with_reducible repeat (first | refine blk_drewN ?_ _ | refine blk_drew ?_ | refine blk_alloc ?_ _)); exact BK136.out) hb); have n1_ := Aside0.mk (below_step (by repeat (first | (with_reducible first | exact HB.out | apply below_alloc | apply pw_below_drewN | apply below_drew1 | refine below_set ?_ GE136.out) | exact HB.out)) hb); have n2_ := Aside0.mk (hbox); have n3_ := Aside0.mk ((by rw [hg]; exact (below_size (by repeat (first | (with_reducible first | exact HB.out | apply below_alloc | apply pw_below_drewN | apply below_drew1 | refine below_set ?_ GE136.out) | exact HB.out))) : w.heap.size ≤ gb137)); have n4_ := Aside0.mk ((by rw [hg]; exact (below_size (by repeat (first | (with_reducible first | exact HB.out | apply below_alloc | apply pw_below_drewN | apply below_drew1 | refine below_set ?_ GE136.out) | exact HB.out))) : w.heap.size ≤ gb137)); have n5_ := Aside0.mk ((by rw [hg]; exact Nat.ne_of_lt (blk_lt (g := gb136) (o := .cells #[.int .i64 a0_0, .int .i64 a0_1, .slice A0_2 l0_2.length c0_2, .int .i64 a0_3, .int .i64 a0_4, .int .i64 a0_5, .int .i64 a0_6, .slice A0_7 l0_7.length c0_7] 25 (0, 0)) (by (with_reducible repeat (first | refine blk_drewN ?_ _ | refine blk_drew ?_ | refine blk_alloc ?_ _)); exact BK136.out)) : gb136 ≠ gb137)); have n6_ := Aside0.mk ((by rw [hg]; exact Nat.ne_of_gt (blk_lt (g := gb136) (o := .cells #[.int .i64 a0_0, .int .i64 a0_1, .slice A0_2 l0_2.length c0_2, .int .i64 a0_3, .int .i64 a0_4, .int .i64 a0_5, .int .i64 a0_6, .slice A0_7 l0_7.length c0_7] 25 (0, 0)) (by (with_reducible repeat (first | refine blk_drewN ?_ _ | refine blk_drew ?_ | refine blk_alloc ?_ _)); exact BK136.out)) : gb137 ≠ gb136)); clear BK136; clear HB; have BK136 := n0_; have HB := n1_; have BK137 := n2_; have GW137 := n3_; have GE137 := n4_; have NB136_137 := n5_; have NB137_136 := n6_; clear n0_ n1_ n2_ n3_ n4_ n5_ n6_; clear hb hbox hg))
  repeat (go_quiet (first | ((with_reducible refine gate_dst (N := 2) rfl ?_); (try (refine gate_guard (by rfl) ?_; dsimp only)); refine box_event ?hg (N := 2) ?hd (cs := #[.int .i64 a0_0, .int .i64 a0_1, .slice A0_2 l0_2.length c0_2, .int .i64 a0_3, .int .i64 a0_4, .int .i64 a0_5, .int .i64 a0_6, .slice A0_7 l0_7.length c0_7]) (t := 25) ?hr ?_; (case hd => rfl); (case hg => rfl); (case hr => first | (go_simp; done) | (go_simp; rfl)); intro gb136 hg w4 hbox hb; have n0_ := Aside0.mk (below_step (by repeat (first | (with_reducible first | exact HB.out | apply below_alloc | apply pw_below_drewN | apply below_drew1) | exact HB.out)) hb); have n1_ := Aside0.mk (hbox); have n2_ := Aside0.mk ((by rw [hg]; exact (below_size (by repeat (first | (with_reducible first | exact HB.out | apply below_alloc | apply pw_below_drewN | apply below_drew1) | exact HB.out))) : w.heap.size ≤ gb136)); have n3_ := Aside0.mk ((by rw [hg]; exact (below_size (by repeat (first | (with_reducible first | exact HB.out | apply below_alloc | apply pw_below_drewN | apply below_drew1) | exact HB.out))) : w.heap.size ≤ gb136)); clear HB; have HB := n0_; have BK136 := n1_; have GW136 := n2_; have GE136 := n3_; clear n0_ n1_ n2_ n3_; clear hb hbox hg) | ((with_reducible refine gate_dst (N := 3) rfl ?_); (try (refine gate_guard (by rfl) ?_; dsimp only)); refine box_event ?hg (N := 3) ?hd (cs := #[.int .i64 a1_0, .int .i64 a1_1, .slice A1_2 l1_2.length c1_2, .int .i64 a1_3, .int .i64 a1_4, .int .i64 a1_5, .int .i64 a1_6, .slice A1_7 l1_7.length c1_7]) (t := 25) ?hr ?_; (case hd => rfl); (case hg => rfl); (case hr => first | (go_simp; done) | (go_simp; rfl)); intro gb137 hg w5 hbox hb; have n0_ := Aside0.mk (blk_below (g := gb136) (o := .cells #[.int .i64 a0_0, .int .i64 a0_1, .slice A0_2 l0_2.length c0_2, .int .i64 a0_3, .int .i64 a0_4, .int .i64 a0_5, .int .i64 a0_6, .slice A0_7 l0_7.length c0_7] 25 (0, 0)) (by (with_reducible repeat (first | refine blk_drewN ?_ _ | refine blk_drew ?_ | refine blk_alloc ?_ _)); exact BK136.out) hb); have n1_ := Aside0.mk (below_step (by repeat (first | (with_reducible first | exact HB.out | apply below_alloc | apply pw_below_drewN | apply below_drew1 | refine below_set ?_ GE136.out) | exact HB.out)) hb); have n2_ := Aside0.mk (hbox); have n3_ := Aside0.mk ((by rw [hg]; exact (below_size (by repeat (first | (with_reducible first | exact HB.out | apply below_alloc | apply pw_below_drewN | apply below_drew1 | refine below_set ?_ GE136.out) | exact HB.out))) : w.heap.size ≤ gb137)); have n4_ := Aside0.mk ((by rw [hg]; exact (below_size (by repeat (first | (with_reducible first | exact HB.out | apply below_alloc | apply pw_below_drewN | apply below_drew1 | refine below_set ?_ GE136.out) | exact HB.out))) : w.heap.size ≤ gb137)); have n5_ := Aside0.mk ((by rw [hg]; exact Nat.ne_of_lt (blk_lt (g := gb136) (o := .cells #[.int .i64 a0_0, .int .i64 a0_1, .slice A0_2 l0_2.length c0_2, .int .i64 a0_3, .int .i64 a0_4, .int .i64 a0_5, .int .i64 a0_6, .slice A0_7 l0_7.length c0_7] 25 (0, 0)) (by (with_reducible repeat (first | refine blk_drewN ?_ _ | refine blk_drew ?_ | refine blk_alloc ?_ _)); exact BK136.out)) : gb136 ≠ gb137)); have n6_ := Aside0.mk ((by rw [hg]; exact Nat.ne_of_gt (blk_lt (g := gb136) (o := .cells #[.int .i64 a0_0, .int .i64 a0_1, .slice A0_2 l0_2.length c0_2, .int .i64 a0_3, .int .i64 a0_4, .int .i64 a0_5, .int .i64 a0_6, .slice A0_7 l0_7.length c0_7] 25 (0, 0)) (by (with_reducible repeat (first | refine blk_drewN ?_ _ | refine blk_drew ?_ | refine blk_alloc ?_ _)); exact BK136.out)) : gb137 ≠ gb136)); clear BK136; clear HB; have BK136 := n0_; have HB := n1_; have BK137 := n2_; have GW137 := n3_; have GE137 := n4_; have NB136_137 := n5_; have NB137_136 := n6_; clear n0_ n1_ n2_ n3_ n4_ n5_ n6_; clear hb hbox hg)); go_upto_region 1 with (first | ((with_reducible refine gate_dst (N := 2) rfl ?_); (try (refine gate_guard (by rfl) ?_; dsimp only)); refine box_event ?hg (N := 2) ?hd (cs := #[.int .i64 a0_0, .int .i64 a0_1, .slice A0_2 l0_2.length c0_2, .int .i64 a0_3, .int .i64 a0_4, .int .i64 a0_5, .int .i64 a0_6, .slice A0_7 l0_7.length c0_7]) (t := 25) ?hr ?_; (case hd => rfl); (case hg => rfl); (case hr => first | (go_simp; done) | (go_simp; rfl)); intro gb136 hg w4 hbox hb; have n0_ := Aside0.mk (below_step (by repeat (first | (with_reducible first | exact HB.out | apply below_alloc | apply pw_below_drewN | apply below_drew1) | exact HB.out)) hb); have n1_ := Aside0.mk (hbox); have n2_ := Aside0.mk ((by rw [hg]; exact (below_size (by repeat (first | (with_reducible first | exact HB.out | apply below_alloc | apply pw_below_drewN | apply below_drew1) | exact HB.out))) : w.heap.size ≤ gb136)); have n3_ := Aside0.mk ((by rw [hg]; exact (below_size (by repeat (first | (with_reducible first | exact HB.out | apply below_alloc | apply pw_below_drewN | apply below_drew1) | exact HB.out))) : w.heap.size ≤ gb136)); clear HB; have HB := n0_; have BK136 := n1_; have GW136 := n2_; have GE136 := n3_; clear n0_ n1_ n2_ n3_; clear hb hbox hg) | ((with_reducible refine gate_dst (N := 3) rfl ?_); (try (refine gate_guard (by rfl) ?_; dsimp only)); refine box_event ?hg (N := 3) ?hd (cs := #[.int .i64 a1_0, .int .i64 a1_1, .slice A1_2 l1_2.length c1_2, .int .i64 a1_3, .int .i64 a1_4, .int .i64 a1_5, .int .i64 a1_6, .slice A1_7 l1_7.length c1_7]) (t := 25) ?hr ?_; (case hd => rfl); (case hg => rfl); (case hr => first | (go_simp; done) | (go_simp; rfl)); intro gb137 hg w5 hbox hb; have n0_ := Aside0.mk (blk_below (g := gb136) (o := .cells #[.int .i64 a0_0, .int .i64 a0_1, .slice A0_2 l0_2.length c0_2, .int .i64 a0_3, .int .i64 a0_4, .int .i64 a0_5, .int .i64 a0_6, .slice A0_7 l0_7.length c0_7] 25 (0, 0)) (by (with_reducible repeat (first | refine blk_drewN ?_ _ | refine blk_drew ?_ | refine blk_alloc ?_ _)); exact BK136.out) hb); have n1_ := Aside0.mk (below_step (by repeat (first | (with_reducible first | exact HB.out | apply below_alloc | apply pw_below_drewN | apply below_drew1 | refine below_set ?_ GE136.out) | exact HB.out)) hb); have n2_ := Aside0.mk (hbox); have n3_ := Aside0.mk ((by rw [hg]; exact (below_size (by repeat (first | (with_reducible first | exact HB.out | apply below_alloc | apply pw_below_drewN | apply below_drew1 | refine below_set ?_ GE136.out) | exact HB.out))) : w.heap.size ≤ gb137)); have n4_ := Aside0.mk ((by rw [hg]; exact (below_size (by repeat (first | (with_reducible first | exact HB.out | apply below_alloc | apply pw_below_drewN | apply below_drew1 | refine below_set ?_ GE136.out) | exact HB.out))) : w.heap.size ≤ gb137)); have n5_ := Aside0.mk ((by rw [hg]; exact Nat.ne_of_lt (blk_lt (g := gb136) (o := .cells #[.int .i64 a0_0, .int .i64 a0_1, .slice A0_2 l0_2.length c0_2, .int .i64 a0_3, .int .i64 a0_4, .int .i64 a0_5, .int .i64 a0_6, .slice A0_7 l0_7.length c0_7] 25 (0, 0)) (by (with_reducible repeat (first | refine blk_drewN ?_ _ | refine blk_drew ?_ | refine blk_alloc ?_ _)); exact BK136.out)) : gb136 ≠ gb137)); have n6_ := Aside0.mk ((by rw [hg]; exact Nat.ne_of_gt (blk_lt (g := gb136) (o := .cells #[.int .i64 a0_0, .int .i64 a0_1, .slice A0_2 l0_2.length c0_2, .int .i64 a0_3, .int .i64 a0_4, .int .i64 a0_5, .int .i64 a0_6, .slice A0_7 l0_7.length c0_7] 25 (0, 0)) (by (with_reducible repeat (first | refine blk_drewN ?_ _ | refine blk_drew ?_ | refine blk_alloc ?_ _)); exact BK136.out)) : gb137 ≠ gb136)); clear BK136; clear HB; have BK136 := n0_; have HB := n1_; have BK137 := n2_; have GW137 := n3_; have GE137 := n4_; have NB136_137 := n5_; have NB137_136 := n6_; clear n0_ n1_ n2_ n3_ n4_ n5_ n6_; clear hb hbox hg)))
  (try simp only [Act.put, List.setIfInBounds_toArray, List.set_cons_zero, List.set_cons_succ])
  go_cut [64] (fun v64 wc => ∃ (kq : Nat) (x64_2 : Bool), v64 = .bool x64_2 ∧ Aside0 (governorref09_SamePolicy.j0 kq x64_2 a0_0 a0_1 l0_2 a0_3 a0_4 a0_5 a0_6 l0_7 a1_0 a1_1 l1_2 a1_3 a1_4 a1_5 a1_6 l1_7 = some r) ∧ Aside0 (kq ≤ k) ∧ Aside0 (wc.heap[gb136]? = some (.cells #[.int .i64 a0_0, .int .i64 a0_1, (.slice A0_2 l0_2.length c0_2), .int .i64 a0_3, .int .i64 a0_4, .int .i64 a0_5, .int .i64 a0_6, (.slice A0_7 l0_7.length c0_7)] 25 (0, 0))) ∧ Aside0 (wc.heap[gb137]? = some (.cells #[.int .i64 a1_0, .int .i64 a1_1, (.slice A1_2 l1_2.length c1_2), .int .i64 a1_3, .int .i64 a1_4, .int .i64 a1_5, .int .i64 a1_6, (.slice A1_7 l1_7.length c1_7)] 25 (0, 0))) ∧ Aside0 (Below w.heap.size w wc))
  case first =>
    have H := HC3.out
    clear HC3
    by_cases c6 : a0_0 = a1_0
    · rw [if_pos c6] at H
      have c6b0 : (a0_0 == a1_0) = true := beq_iff_eq.mpr c6
      have c6b1 : (a0_0 != a1_0) = false := bne_eq_false_iff_eq.mpr c6
      clear c6
      (first | rw [c6b0] | (simp only [i64_w, i32_w]; rw [c6b0]) | skip)
      by_cases c7 : a0_1 = a1_1
      · rw [if_pos c7] at H
        have c7b0 : (a0_1 == a1_1) = true := beq_iff_eq.mpr c7
        have c7b1 : (a0_1 != a1_1) = false := bne_eq_false_iff_eq.mpr c7
        clear c7
        by_cases c8 : a0_3 = a1_3
        · rw [if_pos c8] at H
          have c8b0 : (a0_3 == a1_3) = true := beq_iff_eq.mpr c8
          have c8b1 : (a0_3 != a1_3) = false := bne_eq_false_iff_eq.mpr c8
          clear c8
          by_cases c9 : a0_4 = a1_4
          · rw [if_pos c9] at H
            have c9b0 : (a0_4 == a1_4) = true := beq_iff_eq.mpr c9
            have c9b1 : (a0_4 != a1_4) = false := bne_eq_false_iff_eq.mpr c9
            clear c9
            by_cases c10 : a0_5 = a1_5
            · rw [if_pos c10] at H
              have c10b0 : (a0_5 == a1_5) = true := beq_iff_eq.mpr c10
              have c10b1 : (a0_5 != a1_5) = false := bne_eq_false_iff_eq.mpr c10
              clear c10
              by_cases c11 : a0_6 = a1_6
              · rw [if_pos c11] at H
                have c11b0 : (a0_6 == a1_6) = true := beq_iff_eq.mpr c11
                have c11b1 : (a0_6 != a1_6) = false := bne_eq_false_iff_eq.mpr c11
                clear c11
                by_cases c12 : (l0_2.length : Int) = (l1_2.length : Int)
                · rw [if_pos c12] at H
                  have c12b0 : ((l0_2.length : Int) == (l1_2.length : Int)) = true := beq_iff_eq.mpr c12
                  have c12b1 : ((l0_2.length : Int) != (l1_2.length : Int)) = false := bne_eq_false_iff_eq.mpr c12
                  have c12b2 : (l0_2.length == l1_2.length) = true := by first | simpa using c12 | (simp at c12 ⊢; omega)
                  clear c12
                  have H' := Aside0.mk H
                  clear H
                  have hnb13 := NB136_137.out
                  have hnc13 := NB137_136.out
                  have hcz14_0 : w5.cell? ⟨gb136, 0, none⟩ = some (.int .i64 a0_0) := (blk_cell BK136.out 0).trans rfl
                  have hcz14_1 : w5.cell? ⟨gb136, 1, none⟩ = some (.int .i64 a0_1) := (blk_cell BK136.out 1).trans rfl
                  have hcz14_2 : w5.cell? ⟨gb136, 2, none⟩ = some (.slice A0_2 l0_2.length c0_2) := (blk_cell BK136.out 2).trans rfl
                  have hcz14_3 : w5.cell? ⟨gb136, 3, none⟩ = some (.int .i64 a0_3) := (blk_cell BK136.out 3).trans rfl
                  have hcz14_4 : w5.cell? ⟨gb136, 4, none⟩ = some (.int .i64 a0_4) := (blk_cell BK136.out 4).trans rfl
                  have hcz14_5 : w5.cell? ⟨gb136, 5, none⟩ = some (.int .i64 a0_5) := (blk_cell BK136.out 5).trans rfl
                  have hcz14_6 : w5.cell? ⟨gb136, 6, none⟩ = some (.int .i64 a0_6) := (blk_cell BK136.out 6).trans rfl
                  have hcz14_7 : w5.cell? ⟨gb136, 7, none⟩ = some (.slice A0_7 l0_7.length c0_7) := (blk_cell BK136.out 7).trans rfl
                  have hfz14_0 := blk_frozen BK136.out 0
                  have hfz14_1 := blk_frozen BK136.out 1
                  have hfz14_2 := blk_frozen BK136.out 2
                  have hfz14_3 := blk_frozen BK136.out 3
                  have hfz14_4 := blk_frozen BK136.out 4
                  have hfz14_5 := blk_frozen BK136.out 5
                  have hfz14_6 := blk_frozen BK136.out 6
                  have hfz14_7 := blk_frozen BK136.out 7
                  have hcz15_0 : w5.cell? ⟨gb137, 0, none⟩ = some (.int .i64 a1_0) := (blk_cell BK137.out 0).trans rfl
                  have hcz15_1 : w5.cell? ⟨gb137, 1, none⟩ = some (.int .i64 a1_1) := (blk_cell BK137.out 1).trans rfl
                  have hcz15_2 : w5.cell? ⟨gb137, 2, none⟩ = some (.slice A1_2 l1_2.length c1_2) := (blk_cell BK137.out 2).trans rfl
                  have hcz15_3 : w5.cell? ⟨gb137, 3, none⟩ = some (.int .i64 a1_3) := (blk_cell BK137.out 3).trans rfl
                  have hcz15_4 : w5.cell? ⟨gb137, 4, none⟩ = some (.int .i64 a1_4) := (blk_cell BK137.out 4).trans rfl
                  have hcz15_5 : w5.cell? ⟨gb137, 5, none⟩ = some (.int .i64 a1_5) := (blk_cell BK137.out 5).trans rfl
                  have hcz15_6 : w5.cell? ⟨gb137, 6, none⟩ = some (.int .i64 a1_6) := (blk_cell BK137.out 6).trans rfl
                  have hcz15_7 : w5.cell? ⟨gb137, 7, none⟩ = some (.slice A1_7 l1_7.length c1_7) := (blk_cell BK137.out 7).trans rfl
                  have hfz15_0 := blk_frozen BK137.out 0
                  have hfz15_1 := blk_frozen BK137.out 1
                  have hfz15_2 := blk_frozen BK137.out 2
                  have hfz15_3 := blk_frozen BK137.out 3
                  have hfz15_4 := blk_frozen BK137.out 4
                  have hfz15_5 := blk_frozen BK137.out 5
                  have hfz15_6 := blk_frozen BK137.out 6
                  have hfz15_7 := blk_frozen BK137.out 7
                  go_wp2
                  repeat (go_quiet (fail); try go_wp2)
                  go_meet
                  case rel => exact ⟨_, (((l0_7.length : Int) != (l1_7.length : Int))), (by first | rfl | (simp; done) | (simp [*]; done)), H', ⟨by first | omega | exact Nat.le_refl _⟩, ⟨by (with_reducible repeat (first | refine blk_drewN ?_ _ | refine blk_drew ?_ | refine blk_alloc ?_ _)); exact BK136.out⟩, ⟨by (with_reducible repeat (first | refine blk_drewN ?_ _ | refine blk_drew ?_ | refine blk_alloc ?_ _)); exact BK137.out⟩, ⟨by repeat (first | (with_reducible first | exact HB.out | apply below_alloc | apply pw_below_drewN | apply below_drew1 | refine below_set ?_ GE136.out | refine below_set ?_ GE137.out) | exact HB.out)⟩⟩
                · rw [if_neg c12] at H
                  have c12b0 : ((l0_2.length : Int) == (l1_2.length : Int)) = false := beq_eq_false_iff_ne.mpr c12
                  have c12b1 : ((l0_2.length : Int) != (l1_2.length : Int)) = true := bne_iff_ne.mpr c12
                  have c12b2 : (l0_2.length == l1_2.length) = false := by first | simpa using c12 | (simp at c12 ⊢; omega)
                  have H' := Aside0.mk H
                  clear H
                  have hnb16 := NB136_137.out
                  have hnc16 := NB137_136.out
                  have hcz17_0 : w5.cell? ⟨gb136, 0, none⟩ = some (.int .i64 a0_0) := (blk_cell BK136.out 0).trans rfl
                  have hcz17_1 : w5.cell? ⟨gb136, 1, none⟩ = some (.int .i64 a0_1) := (blk_cell BK136.out 1).trans rfl
                  have hcz17_2 : w5.cell? ⟨gb136, 2, none⟩ = some (.slice A0_2 l0_2.length c0_2) := (blk_cell BK136.out 2).trans rfl
                  have hcz17_3 : w5.cell? ⟨gb136, 3, none⟩ = some (.int .i64 a0_3) := (blk_cell BK136.out 3).trans rfl
                  have hcz17_4 : w5.cell? ⟨gb136, 4, none⟩ = some (.int .i64 a0_4) := (blk_cell BK136.out 4).trans rfl
                  have hcz17_5 : w5.cell? ⟨gb136, 5, none⟩ = some (.int .i64 a0_5) := (blk_cell BK136.out 5).trans rfl
                  have hcz17_6 : w5.cell? ⟨gb136, 6, none⟩ = some (.int .i64 a0_6) := (blk_cell BK136.out 6).trans rfl
                  have hcz17_7 : w5.cell? ⟨gb136, 7, none⟩ = some (.slice A0_7 l0_7.length c0_7) := (blk_cell BK136.out 7).trans rfl
                  have hfz17_0 := blk_frozen BK136.out 0
                  have hfz17_1 := blk_frozen BK136.out 1
                  have hfz17_2 := blk_frozen BK136.out 2
                  have hfz17_3 := blk_frozen BK136.out 3
                  have hfz17_4 := blk_frozen BK136.out 4
                  have hfz17_5 := blk_frozen BK136.out 5
                  have hfz17_6 := blk_frozen BK136.out 6
                  have hfz17_7 := blk_frozen BK136.out 7
                  have hcz18_0 : w5.cell? ⟨gb137, 0, none⟩ = some (.int .i64 a1_0) := (blk_cell BK137.out 0).trans rfl
                  have hcz18_1 : w5.cell? ⟨gb137, 1, none⟩ = some (.int .i64 a1_1) := (blk_cell BK137.out 1).trans rfl
                  have hcz18_2 : w5.cell? ⟨gb137, 2, none⟩ = some (.slice A1_2 l1_2.length c1_2) := (blk_cell BK137.out 2).trans rfl
                  have hcz18_3 : w5.cell? ⟨gb137, 3, none⟩ = some (.int .i64 a1_3) := (blk_cell BK137.out 3).trans rfl
                  have hcz18_4 : w5.cell? ⟨gb137, 4, none⟩ = some (.int .i64 a1_4) := (blk_cell BK137.out 4).trans rfl
                  have hcz18_5 : w5.cell? ⟨gb137, 5, none⟩ = some (.int .i64 a1_5) := (blk_cell BK137.out 5).trans rfl
                  have hcz18_6 : w5.cell? ⟨gb137, 6, none⟩ = some (.int .i64 a1_6) := (blk_cell BK137.out 6).trans rfl
                  have hcz18_7 : w5.cell? ⟨gb137, 7, none⟩ = some (.slice A1_7 l1_7.length c1_7) := (blk_cell BK137.out 7).trans rfl
                  have hfz18_0 := blk_frozen BK137.out 0
                  have hfz18_1 := blk_frozen BK137.out 1
                  have hfz18_2 := blk_frozen BK137.out 2
                  have hfz18_3 := blk_frozen BK137.out 3
                  have hfz18_4 := blk_frozen BK137.out 4
                  have hfz18_5 := blk_frozen BK137.out 5
                  have hfz18_6 := blk_frozen BK137.out 6
                  have hfz18_7 := blk_frozen BK137.out 7
                  go_wp2
                  repeat (go_quiet (fail); try go_wp2)
                  go_meet
                  case rel => exact ⟨_, (true), (by first | rfl | (simp; done) | (simp [*]; done)), H', ⟨by first | omega | exact Nat.le_refl _⟩, ⟨by (with_reducible repeat (first | refine blk_drewN ?_ _ | refine blk_drew ?_ | refine blk_alloc ?_ _)); exact BK136.out⟩, ⟨by (with_reducible repeat (first | refine blk_drewN ?_ _ | refine blk_drew ?_ | refine blk_alloc ?_ _)); exact BK137.out⟩, ⟨by repeat (first | (with_reducible first | exact HB.out | apply below_alloc | apply pw_below_drewN | apply below_drew1 | refine below_set ?_ GE136.out | refine below_set ?_ GE137.out) | exact HB.out)⟩⟩
              · rw [if_neg c11] at H
                have c11b0 : (a0_6 == a1_6) = false := beq_eq_false_iff_ne.mpr c11
                have c11b1 : (a0_6 != a1_6) = true := bne_iff_ne.mpr c11
                have H' := Aside0.mk H
                clear H
                have hnb19 := NB136_137.out
                have hnc19 := NB137_136.out
                have hcz20_0 : w5.cell? ⟨gb136, 0, none⟩ = some (.int .i64 a0_0) := (blk_cell BK136.out 0).trans rfl
                have hcz20_1 : w5.cell? ⟨gb136, 1, none⟩ = some (.int .i64 a0_1) := (blk_cell BK136.out 1).trans rfl
                have hcz20_2 : w5.cell? ⟨gb136, 2, none⟩ = some (.slice A0_2 l0_2.length c0_2) := (blk_cell BK136.out 2).trans rfl
                have hcz20_3 : w5.cell? ⟨gb136, 3, none⟩ = some (.int .i64 a0_3) := (blk_cell BK136.out 3).trans rfl
                have hcz20_4 : w5.cell? ⟨gb136, 4, none⟩ = some (.int .i64 a0_4) := (blk_cell BK136.out 4).trans rfl
                have hcz20_5 : w5.cell? ⟨gb136, 5, none⟩ = some (.int .i64 a0_5) := (blk_cell BK136.out 5).trans rfl
                have hcz20_6 : w5.cell? ⟨gb136, 6, none⟩ = some (.int .i64 a0_6) := (blk_cell BK136.out 6).trans rfl
                have hcz20_7 : w5.cell? ⟨gb136, 7, none⟩ = some (.slice A0_7 l0_7.length c0_7) := (blk_cell BK136.out 7).trans rfl
                have hfz20_0 := blk_frozen BK136.out 0
                have hfz20_1 := blk_frozen BK136.out 1
                have hfz20_2 := blk_frozen BK136.out 2
                have hfz20_3 := blk_frozen BK136.out 3
                have hfz20_4 := blk_frozen BK136.out 4
                have hfz20_5 := blk_frozen BK136.out 5
                have hfz20_6 := blk_frozen BK136.out 6
                have hfz20_7 := blk_frozen BK136.out 7
                have hcz21_0 : w5.cell? ⟨gb137, 0, none⟩ = some (.int .i64 a1_0) := (blk_cell BK137.out 0).trans rfl
                have hcz21_1 : w5.cell? ⟨gb137, 1, none⟩ = some (.int .i64 a1_1) := (blk_cell BK137.out 1).trans rfl
                have hcz21_2 : w5.cell? ⟨gb137, 2, none⟩ = some (.slice A1_2 l1_2.length c1_2) := (blk_cell BK137.out 2).trans rfl
                have hcz21_3 : w5.cell? ⟨gb137, 3, none⟩ = some (.int .i64 a1_3) := (blk_cell BK137.out 3).trans rfl
                have hcz21_4 : w5.cell? ⟨gb137, 4, none⟩ = some (.int .i64 a1_4) := (blk_cell BK137.out 4).trans rfl
                have hcz21_5 : w5.cell? ⟨gb137, 5, none⟩ = some (.int .i64 a1_5) := (blk_cell BK137.out 5).trans rfl
                have hcz21_6 : w5.cell? ⟨gb137, 6, none⟩ = some (.int .i64 a1_6) := (blk_cell BK137.out 6).trans rfl
                have hcz21_7 : w5.cell? ⟨gb137, 7, none⟩ = some (.slice A1_7 l1_7.length c1_7) := (blk_cell BK137.out 7).trans rfl
                have hfz21_0 := blk_frozen BK137.out 0
                have hfz21_1 := blk_frozen BK137.out 1
                have hfz21_2 := blk_frozen BK137.out 2
                have hfz21_3 := blk_frozen BK137.out 3
                have hfz21_4 := blk_frozen BK137.out 4
                have hfz21_5 := blk_frozen BK137.out 5
                have hfz21_6 := blk_frozen BK137.out 6
                have hfz21_7 := blk_frozen BK137.out 7
                go_wp2
                repeat (go_quiet (fail); try go_wp2)
                go_meet
                case rel => exact ⟨_, (true), (by first | rfl | (simp; done) | (simp [*]; done)), H', ⟨by first | omega | exact Nat.le_refl _⟩, ⟨by (with_reducible repeat (first | refine blk_drewN ?_ _ | refine blk_drew ?_ | refine blk_alloc ?_ _)); exact BK136.out⟩, ⟨by (with_reducible repeat (first | refine blk_drewN ?_ _ | refine blk_drew ?_ | refine blk_alloc ?_ _)); exact BK137.out⟩, ⟨by repeat (first | (with_reducible first | exact HB.out | apply below_alloc | apply pw_below_drewN | apply below_drew1 | refine below_set ?_ GE136.out | refine below_set ?_ GE137.out) | exact HB.out)⟩⟩
            · rw [if_neg c10] at H
              have c10b0 : (a0_5 == a1_5) = false := beq_eq_false_iff_ne.mpr c10
              have c10b1 : (a0_5 != a1_5) = true := bne_iff_ne.mpr c10
              have H' := Aside0.mk H
              clear H
              have hnb22 := NB136_137.out
              have hnc22 := NB137_136.out
              have hcz23_0 : w5.cell? ⟨gb136, 0, none⟩ = some (.int .i64 a0_0) := (blk_cell BK136.out 0).trans rfl
              have hcz23_1 : w5.cell? ⟨gb136, 1, none⟩ = some (.int .i64 a0_1) := (blk_cell BK136.out 1).trans rfl
              have hcz23_2 : w5.cell? ⟨gb136, 2, none⟩ = some (.slice A0_2 l0_2.length c0_2) := (blk_cell BK136.out 2).trans rfl
              have hcz23_3 : w5.cell? ⟨gb136, 3, none⟩ = some (.int .i64 a0_3) := (blk_cell BK136.out 3).trans rfl
              have hcz23_4 : w5.cell? ⟨gb136, 4, none⟩ = some (.int .i64 a0_4) := (blk_cell BK136.out 4).trans rfl
              have hcz23_5 : w5.cell? ⟨gb136, 5, none⟩ = some (.int .i64 a0_5) := (blk_cell BK136.out 5).trans rfl
              have hcz23_6 : w5.cell? ⟨gb136, 6, none⟩ = some (.int .i64 a0_6) := (blk_cell BK136.out 6).trans rfl
              have hcz23_7 : w5.cell? ⟨gb136, 7, none⟩ = some (.slice A0_7 l0_7.length c0_7) := (blk_cell BK136.out 7).trans rfl
              have hfz23_0 := blk_frozen BK136.out 0
              have hfz23_1 := blk_frozen BK136.out 1
              have hfz23_2 := blk_frozen BK136.out 2
              have hfz23_3 := blk_frozen BK136.out 3
              have hfz23_4 := blk_frozen BK136.out 4
              have hfz23_5 := blk_frozen BK136.out 5
              have hfz23_6 := blk_frozen BK136.out 6
              have hfz23_7 := blk_frozen BK136.out 7
              have hcz24_0 : w5.cell? ⟨gb137, 0, none⟩ = some (.int .i64 a1_0) := (blk_cell BK137.out 0).trans rfl
              have hcz24_1 : w5.cell? ⟨gb137, 1, none⟩ = some (.int .i64 a1_1) := (blk_cell BK137.out 1).trans rfl
              have hcz24_2 : w5.cell? ⟨gb137, 2, none⟩ = some (.slice A1_2 l1_2.length c1_2) := (blk_cell BK137.out 2).trans rfl
              have hcz24_3 : w5.cell? ⟨gb137, 3, none⟩ = some (.int .i64 a1_3) := (blk_cell BK137.out 3).trans rfl
              have hcz24_4 : w5.cell? ⟨gb137, 4, none⟩ = some (.int .i64 a1_4) := (blk_cell BK137.out 4).trans rfl
              have hcz24_5 : w5.cell? ⟨gb137, 5, none⟩ = some (.int .i64 a1_5) := (blk_cell BK137.out 5).trans rfl
              have hcz24_6 : w5.cell? ⟨gb137, 6, none⟩ = some (.int .i64 a1_6) := (blk_cell BK137.out 6).trans rfl
              have hcz24_7 : w5.cell? ⟨gb137, 7, none⟩ = some (.slice A1_7 l1_7.length c1_7) := (blk_cell BK137.out 7).trans rfl
              have hfz24_0 := blk_frozen BK137.out 0
              have hfz24_1 := blk_frozen BK137.out 1
              have hfz24_2 := blk_frozen BK137.out 2
              have hfz24_3 := blk_frozen BK137.out 3
              have hfz24_4 := blk_frozen BK137.out 4
              have hfz24_5 := blk_frozen BK137.out 5
              have hfz24_6 := blk_frozen BK137.out 6
              have hfz24_7 := blk_frozen BK137.out 7
              go_wp2
              repeat (go_quiet (fail); try go_wp2)
              go_meet
              case rel => exact ⟨_, (true), (by first | rfl | (simp; done) | (simp [*]; done)), H', ⟨by first | omega | exact Nat.le_refl _⟩, ⟨by (with_reducible repeat (first | refine blk_drewN ?_ _ | refine blk_drew ?_ | refine blk_alloc ?_ _)); exact BK136.out⟩, ⟨by (with_reducible repeat (first | refine blk_drewN ?_ _ | refine blk_drew ?_ | refine blk_alloc ?_ _)); exact BK137.out⟩, ⟨by repeat (first | (with_reducible first | exact HB.out | apply below_alloc | apply pw_below_drewN | apply below_drew1 | refine below_set ?_ GE136.out | refine below_set ?_ GE137.out) | exact HB.out)⟩⟩
          · rw [if_neg c9] at H
            have c9b0 : (a0_4 == a1_4) = false := beq_eq_false_iff_ne.mpr c9
            have c9b1 : (a0_4 != a1_4) = true := bne_iff_ne.mpr c9
            have H' := Aside0.mk H
            clear H
            have hnb25 := NB136_137.out
            have hnc25 := NB137_136.out
            have hcz26_0 : w5.cell? ⟨gb136, 0, none⟩ = some (.int .i64 a0_0) := (blk_cell BK136.out 0).trans rfl
            have hcz26_1 : w5.cell? ⟨gb136, 1, none⟩ = some (.int .i64 a0_1) := (blk_cell BK136.out 1).trans rfl
            have hcz26_2 : w5.cell? ⟨gb136, 2, none⟩ = some (.slice A0_2 l0_2.length c0_2) := (blk_cell BK136.out 2).trans rfl
            have hcz26_3 : w5.cell? ⟨gb136, 3, none⟩ = some (.int .i64 a0_3) := (blk_cell BK136.out 3).trans rfl
            have hcz26_4 : w5.cell? ⟨gb136, 4, none⟩ = some (.int .i64 a0_4) := (blk_cell BK136.out 4).trans rfl
            have hcz26_5 : w5.cell? ⟨gb136, 5, none⟩ = some (.int .i64 a0_5) := (blk_cell BK136.out 5).trans rfl
            have hcz26_6 : w5.cell? ⟨gb136, 6, none⟩ = some (.int .i64 a0_6) := (blk_cell BK136.out 6).trans rfl
            have hcz26_7 : w5.cell? ⟨gb136, 7, none⟩ = some (.slice A0_7 l0_7.length c0_7) := (blk_cell BK136.out 7).trans rfl
            have hfz26_0 := blk_frozen BK136.out 0
            have hfz26_1 := blk_frozen BK136.out 1
            have hfz26_2 := blk_frozen BK136.out 2
            have hfz26_3 := blk_frozen BK136.out 3
            have hfz26_4 := blk_frozen BK136.out 4
            have hfz26_5 := blk_frozen BK136.out 5
            have hfz26_6 := blk_frozen BK136.out 6
            have hfz26_7 := blk_frozen BK136.out 7
            have hcz27_0 : w5.cell? ⟨gb137, 0, none⟩ = some (.int .i64 a1_0) := (blk_cell BK137.out 0).trans rfl
            have hcz27_1 : w5.cell? ⟨gb137, 1, none⟩ = some (.int .i64 a1_1) := (blk_cell BK137.out 1).trans rfl
            have hcz27_2 : w5.cell? ⟨gb137, 2, none⟩ = some (.slice A1_2 l1_2.length c1_2) := (blk_cell BK137.out 2).trans rfl
            have hcz27_3 : w5.cell? ⟨gb137, 3, none⟩ = some (.int .i64 a1_3) := (blk_cell BK137.out 3).trans rfl
            have hcz27_4 : w5.cell? ⟨gb137, 4, none⟩ = some (.int .i64 a1_4) := (blk_cell BK137.out 4).trans rfl
            have hcz27_5 : w5.cell? ⟨gb137, 5, none⟩ = some (.int .i64 a1_5) := (blk_cell BK137.out 5).trans rfl
            have hcz27_6 : w5.cell? ⟨gb137, 6, none⟩ = some (.int .i64 a1_6) := (blk_cell BK137.out 6).trans rfl
            have hcz27_7 : w5.cell? ⟨gb137, 7, none⟩ = some (.slice A1_7 l1_7.length c1_7) := (blk_cell BK137.out 7).trans rfl
            have hfz27_0 := blk_frozen BK137.out 0
            have hfz27_1 := blk_frozen BK137.out 1
            have hfz27_2 := blk_frozen BK137.out 2
            have hfz27_3 := blk_frozen BK137.out 3
            have hfz27_4 := blk_frozen BK137.out 4
            have hfz27_5 := blk_frozen BK137.out 5
            have hfz27_6 := blk_frozen BK137.out 6
            have hfz27_7 := blk_frozen BK137.out 7
            go_wp2
            repeat (go_quiet (fail); try go_wp2)
            go_meet
            case rel => exact ⟨_, (true), (by first | rfl | (simp; done) | (simp [*]; done)), H', ⟨by first | omega | exact Nat.le_refl _⟩, ⟨by (with_reducible repeat (first | refine blk_drewN ?_ _ | refine blk_drew ?_ | refine blk_alloc ?_ _)); exact BK136.out⟩, ⟨by (with_reducible repeat (first | refine blk_drewN ?_ _ | refine blk_drew ?_ | refine blk_alloc ?_ _)); exact BK137.out⟩, ⟨by repeat (first | (with_reducible first | exact HB.out | apply below_alloc | apply pw_below_drewN | apply below_drew1 | refine below_set ?_ GE136.out | refine below_set ?_ GE137.out) | exact HB.out)⟩⟩
        · rw [if_neg c8] at H
          have c8b0 : (a0_3 == a1_3) = false := beq_eq_false_iff_ne.mpr c8
          have c8b1 : (a0_3 != a1_3) = true := bne_iff_ne.mpr c8
          have H' := Aside0.mk H
          clear H
          have hnb28 := NB136_137.out
          have hnc28 := NB137_136.out
          have hcz29_0 : w5.cell? ⟨gb136, 0, none⟩ = some (.int .i64 a0_0) := (blk_cell BK136.out 0).trans rfl
          have hcz29_1 : w5.cell? ⟨gb136, 1, none⟩ = some (.int .i64 a0_1) := (blk_cell BK136.out 1).trans rfl
          have hcz29_2 : w5.cell? ⟨gb136, 2, none⟩ = some (.slice A0_2 l0_2.length c0_2) := (blk_cell BK136.out 2).trans rfl
          have hcz29_3 : w5.cell? ⟨gb136, 3, none⟩ = some (.int .i64 a0_3) := (blk_cell BK136.out 3).trans rfl
          have hcz29_4 : w5.cell? ⟨gb136, 4, none⟩ = some (.int .i64 a0_4) := (blk_cell BK136.out 4).trans rfl
          have hcz29_5 : w5.cell? ⟨gb136, 5, none⟩ = some (.int .i64 a0_5) := (blk_cell BK136.out 5).trans rfl
          have hcz29_6 : w5.cell? ⟨gb136, 6, none⟩ = some (.int .i64 a0_6) := (blk_cell BK136.out 6).trans rfl
          have hcz29_7 : w5.cell? ⟨gb136, 7, none⟩ = some (.slice A0_7 l0_7.length c0_7) := (blk_cell BK136.out 7).trans rfl
          have hfz29_0 := blk_frozen BK136.out 0
          have hfz29_1 := blk_frozen BK136.out 1
          have hfz29_2 := blk_frozen BK136.out 2
          have hfz29_3 := blk_frozen BK136.out 3
          have hfz29_4 := blk_frozen BK136.out 4
          have hfz29_5 := blk_frozen BK136.out 5
          have hfz29_6 := blk_frozen BK136.out 6
          have hfz29_7 := blk_frozen BK136.out 7
          have hcz30_0 : w5.cell? ⟨gb137, 0, none⟩ = some (.int .i64 a1_0) := (blk_cell BK137.out 0).trans rfl
          have hcz30_1 : w5.cell? ⟨gb137, 1, none⟩ = some (.int .i64 a1_1) := (blk_cell BK137.out 1).trans rfl
          have hcz30_2 : w5.cell? ⟨gb137, 2, none⟩ = some (.slice A1_2 l1_2.length c1_2) := (blk_cell BK137.out 2).trans rfl
          have hcz30_3 : w5.cell? ⟨gb137, 3, none⟩ = some (.int .i64 a1_3) := (blk_cell BK137.out 3).trans rfl
          have hcz30_4 : w5.cell? ⟨gb137, 4, none⟩ = some (.int .i64 a1_4) := (blk_cell BK137.out 4).trans rfl
          have hcz30_5 : w5.cell? ⟨gb137, 5, none⟩ = some (.int .i64 a1_5) := (blk_cell BK137.out 5).trans rfl
          have hcz30_6 : w5.cell? ⟨gb137, 6, none⟩ = some (.int .i64 a1_6) := (blk_cell BK137.out 6).trans rfl
          have hcz30_7 : w5.cell? ⟨gb137, 7, none⟩ = some (.slice A1_7 l1_7.length c1_7) := (blk_cell BK137.out 7).trans rfl
          have hfz30_0 := blk_frozen BK137.out 0
          have hfz30_1 := blk_frozen BK137.out 1
          have hfz30_2 := blk_frozen BK137.out 2
          have hfz30_3 := blk_frozen BK137.out 3
          have hfz30_4 := blk_frozen BK137.out 4
          have hfz30_5 := blk_frozen BK137.out 5
          have hfz30_6 := blk_frozen BK137.out 6
          have hfz30_7 := blk_frozen BK137.out 7
          go_wp2
          repeat (go_quiet (fail); try go_wp2)
          go_meet
          case rel => exact ⟨_, (true), (by first | rfl | (simp; done) | (simp [*]; done)), H', ⟨by first | omega | exact Nat.le_refl _⟩, ⟨by (with_reducible repeat (first | refine blk_drewN ?_ _ | refine blk_drew ?_ | refine blk_alloc ?_ _)); exact BK136.out⟩, ⟨by (with_reducible repeat (first | refine blk_drewN ?_ _ | refine blk_drew ?_ | refine blk_alloc ?_ _)); exact BK137.out⟩, ⟨by repeat (first | (with_reducible first | exact HB.out | apply below_alloc | apply pw_below_drewN | apply below_drew1 | refine below_set ?_ GE136.out | refine below_set ?_ GE137.out) | exact HB.out)⟩⟩
      · rw [if_neg c7] at H
        have c7b0 : (a0_1 == a1_1) = false := beq_eq_false_iff_ne.mpr c7
        have c7b1 : (a0_1 != a1_1) = true := bne_iff_ne.mpr c7
        have H' := Aside0.mk H
        clear H
        have hnb31 := NB136_137.out
        have hnc31 := NB137_136.out
        have hcz32_0 : w5.cell? ⟨gb136, 0, none⟩ = some (.int .i64 a0_0) := (blk_cell BK136.out 0).trans rfl
        have hcz32_1 : w5.cell? ⟨gb136, 1, none⟩ = some (.int .i64 a0_1) := (blk_cell BK136.out 1).trans rfl
        have hcz32_2 : w5.cell? ⟨gb136, 2, none⟩ = some (.slice A0_2 l0_2.length c0_2) := (blk_cell BK136.out 2).trans rfl
        have hcz32_3 : w5.cell? ⟨gb136, 3, none⟩ = some (.int .i64 a0_3) := (blk_cell BK136.out 3).trans rfl
        have hcz32_4 : w5.cell? ⟨gb136, 4, none⟩ = some (.int .i64 a0_4) := (blk_cell BK136.out 4).trans rfl
        have hcz32_5 : w5.cell? ⟨gb136, 5, none⟩ = some (.int .i64 a0_5) := (blk_cell BK136.out 5).trans rfl
        have hcz32_6 : w5.cell? ⟨gb136, 6, none⟩ = some (.int .i64 a0_6) := (blk_cell BK136.out 6).trans rfl
        have hcz32_7 : w5.cell? ⟨gb136, 7, none⟩ = some (.slice A0_7 l0_7.length c0_7) := (blk_cell BK136.out 7).trans rfl
        have hfz32_0 := blk_frozen BK136.out 0
        have hfz32_1 := blk_frozen BK136.out 1
        have hfz32_2 := blk_frozen BK136.out 2
        have hfz32_3 := blk_frozen BK136.out 3
        have hfz32_4 := blk_frozen BK136.out 4
        have hfz32_5 := blk_frozen BK136.out 5
        have hfz32_6 := blk_frozen BK136.out 6
        have hfz32_7 := blk_frozen BK136.out 7
        have hcz33_0 : w5.cell? ⟨gb137, 0, none⟩ = some (.int .i64 a1_0) := (blk_cell BK137.out 0).trans rfl
        have hcz33_1 : w5.cell? ⟨gb137, 1, none⟩ = some (.int .i64 a1_1) := (blk_cell BK137.out 1).trans rfl
        have hcz33_2 : w5.cell? ⟨gb137, 2, none⟩ = some (.slice A1_2 l1_2.length c1_2) := (blk_cell BK137.out 2).trans rfl
        have hcz33_3 : w5.cell? ⟨gb137, 3, none⟩ = some (.int .i64 a1_3) := (blk_cell BK137.out 3).trans rfl
        have hcz33_4 : w5.cell? ⟨gb137, 4, none⟩ = some (.int .i64 a1_4) := (blk_cell BK137.out 4).trans rfl
        have hcz33_5 : w5.cell? ⟨gb137, 5, none⟩ = some (.int .i64 a1_5) := (blk_cell BK137.out 5).trans rfl
        have hcz33_6 : w5.cell? ⟨gb137, 6, none⟩ = some (.int .i64 a1_6) := (blk_cell BK137.out 6).trans rfl
        have hcz33_7 : w5.cell? ⟨gb137, 7, none⟩ = some (.slice A1_7 l1_7.length c1_7) := (blk_cell BK137.out 7).trans rfl
        have hfz33_0 := blk_frozen BK137.out 0
        have hfz33_1 := blk_frozen BK137.out 1
        have hfz33_2 := blk_frozen BK137.out 2
        have hfz33_3 := blk_frozen BK137.out 3
        have hfz33_4 := blk_frozen BK137.out 4
        have hfz33_5 := blk_frozen BK137.out 5
        have hfz33_6 := blk_frozen BK137.out 6
        have hfz33_7 := blk_frozen BK137.out 7
        go_wp2
        repeat (go_quiet (fail); try go_wp2)
        go_meet
        case rel => exact ⟨_, (true), (by first | rfl | (simp; done) | (simp [*]; done)), H', ⟨by first | omega | exact Nat.le_refl _⟩, ⟨by (with_reducible repeat (first | refine blk_drewN ?_ _ | refine blk_drew ?_ | refine blk_alloc ?_ _)); exact BK136.out⟩, ⟨by (with_reducible repeat (first | refine blk_drewN ?_ _ | refine blk_drew ?_ | refine blk_alloc ?_ _)); exact BK137.out⟩, ⟨by repeat (first | (with_reducible first | exact HB.out | apply below_alloc | apply pw_below_drewN | apply below_drew1 | refine below_set ?_ GE136.out | refine below_set ?_ GE137.out) | exact HB.out)⟩⟩
    · rw [if_neg c6] at H
      have c6b0 : (a0_0 == a1_0) = false := beq_eq_false_iff_ne.mpr c6
      have c6b1 : (a0_0 != a1_0) = true := bne_iff_ne.mpr c6
      (first | rw [c6b0] | (simp only [i64_w, i32_w]; rw [c6b0]) | skip)
      have H' := Aside0.mk H
      clear H
      have hnb34 := NB136_137.out
      have hnc34 := NB137_136.out
      have hcz35_0 : w5.cell? ⟨gb136, 0, none⟩ = some (.int .i64 a0_0) := (blk_cell BK136.out 0).trans rfl
      have hcz35_1 : w5.cell? ⟨gb136, 1, none⟩ = some (.int .i64 a0_1) := (blk_cell BK136.out 1).trans rfl
      have hcz35_2 : w5.cell? ⟨gb136, 2, none⟩ = some (.slice A0_2 l0_2.length c0_2) := (blk_cell BK136.out 2).trans rfl
      have hcz35_3 : w5.cell? ⟨gb136, 3, none⟩ = some (.int .i64 a0_3) := (blk_cell BK136.out 3).trans rfl
      have hcz35_4 : w5.cell? ⟨gb136, 4, none⟩ = some (.int .i64 a0_4) := (blk_cell BK136.out 4).trans rfl
      have hcz35_5 : w5.cell? ⟨gb136, 5, none⟩ = some (.int .i64 a0_5) := (blk_cell BK136.out 5).trans rfl
      have hcz35_6 : w5.cell? ⟨gb136, 6, none⟩ = some (.int .i64 a0_6) := (blk_cell BK136.out 6).trans rfl
      have hcz35_7 : w5.cell? ⟨gb136, 7, none⟩ = some (.slice A0_7 l0_7.length c0_7) := (blk_cell BK136.out 7).trans rfl
      have hfz35_0 := blk_frozen BK136.out 0
      have hfz35_1 := blk_frozen BK136.out 1
      have hfz35_2 := blk_frozen BK136.out 2
      have hfz35_3 := blk_frozen BK136.out 3
      have hfz35_4 := blk_frozen BK136.out 4
      have hfz35_5 := blk_frozen BK136.out 5
      have hfz35_6 := blk_frozen BK136.out 6
      have hfz35_7 := blk_frozen BK136.out 7
      have hcz36_0 : w5.cell? ⟨gb137, 0, none⟩ = some (.int .i64 a1_0) := (blk_cell BK137.out 0).trans rfl
      have hcz36_1 : w5.cell? ⟨gb137, 1, none⟩ = some (.int .i64 a1_1) := (blk_cell BK137.out 1).trans rfl
      have hcz36_2 : w5.cell? ⟨gb137, 2, none⟩ = some (.slice A1_2 l1_2.length c1_2) := (blk_cell BK137.out 2).trans rfl
      have hcz36_3 : w5.cell? ⟨gb137, 3, none⟩ = some (.int .i64 a1_3) := (blk_cell BK137.out 3).trans rfl
      have hcz36_4 : w5.cell? ⟨gb137, 4, none⟩ = some (.int .i64 a1_4) := (blk_cell BK137.out 4).trans rfl
      have hcz36_5 : w5.cell? ⟨gb137, 5, none⟩ = some (.int .i64 a1_5) := (blk_cell BK137.out 5).trans rfl
      have hcz36_6 : w5.cell? ⟨gb137, 6, none⟩ = some (.int .i64 a1_6) := (blk_cell BK137.out 6).trans rfl
      have hcz36_7 : w5.cell? ⟨gb137, 7, none⟩ = some (.slice A1_7 l1_7.length c1_7) := (blk_cell BK137.out 7).trans rfl
      have hfz36_0 := blk_frozen BK137.out 0
      have hfz36_1 := blk_frozen BK137.out 1
      have hfz36_2 := blk_frozen BK137.out 2
      have hfz36_3 := blk_frozen BK137.out 3
      have hfz36_4 := blk_frozen BK137.out 4
      have hfz36_5 := blk_frozen BK137.out 5
      have hfz36_6 := blk_frozen BK137.out 6
      have hfz36_7 := blk_frozen BK137.out 7
      go_wp2
      repeat (go_quiet (fail); try go_wp2)
      go_meet
      case rel => exact ⟨_, (true), (by first | rfl | (simp; done) | (simp [*]; done)), H', ⟨by first | omega | exact Nat.le_refl _⟩, ⟨by (with_reducible repeat (first | refine blk_drewN ?_ _ | refine blk_drew ?_ | refine blk_alloc ?_ _)); exact BK136.out⟩, ⟨by (with_reducible repeat (first | refine blk_drewN ?_ _ | refine blk_drew ?_ | refine blk_alloc ?_ _)); exact BK137.out⟩, ⟨by repeat (first | (with_reducible first | exact HB.out | apply below_alloc | apply pw_below_drewN | apply below_drew1 | refine below_set ?_ GE136.out | refine below_set ?_ GE137.out) | exact HB.out)⟩⟩
  case rest =>
    clear HC3
    try clear c1
    try clear c2
    try clear p2
    try clear c3
    try clear c6
    try clear c6b0
    try clear c6b1
    try clear c7
    try clear c7b0
    try clear c7b1
    try clear c8
    try clear c8b0
    try clear c8b1
    try clear c9
    try clear c9b0
    try clear c9b1
    try clear c10
    try clear c10b0
    try clear c10b1
    try clear c11
    try clear c11b0
    try clear c11b1
    try clear c12
    try clear c12b0
    try clear c12b1
    try clear c12b2
    try clear c13
    try clear c16
    try clear c19
    try clear c22
    try clear c23
    try clear c25
    try clear c28
    try clear c31
    try clear c34
    try clear hcz14_0
    try clear hcz14_1
    try clear hcz14_2
    try clear hcz14_3
    try clear hcz14_4
    try clear hcz14_5
    try clear hcz14_6
    try clear hcz14_7
    try clear hcz15_0
    try clear hcz15_1
    try clear hcz15_2
    try clear hcz15_3
    try clear hcz15_4
    try clear hcz15_5
    try clear hcz15_6
    try clear hcz15_7
    try clear hcz17_0
    try clear hcz17_1
    try clear hcz17_2
    try clear hcz17_3
    try clear hcz17_4
    try clear hcz17_5
    try clear hcz17_6
    try clear hcz17_7
    try clear hcz18_0
    try clear hcz18_1
    try clear hcz18_2
    try clear hcz18_3
    try clear hcz18_4
    try clear hcz18_5
    try clear hcz18_6
    try clear hcz18_7
    try clear hcz20_0
    try clear hcz20_1
    try clear hcz20_2
    try clear hcz20_3
    try clear hcz20_4
    try clear hcz20_5
    try clear hcz20_6
    try clear hcz20_7
    try clear hcz21_0
    try clear hcz21_1
    try clear hcz21_2
    try clear hcz21_3
    try clear hcz21_4
    try clear hcz21_5
    try clear hcz21_6
    try clear hcz21_7
    try clear hcz23_0
    try clear hcz23_1
    try clear hcz23_2
    try clear hcz23_3
    try clear hcz23_4
    try clear hcz23_5
    try clear hcz23_6
    try clear hcz23_7
    try clear hcz24_0
    try clear hcz24_1
    try clear hcz24_2
    try clear hcz24_3
    try clear hcz24_4
    try clear hcz24_5
    try clear hcz24_6
    try clear hcz24_7
    try clear hcz26_0
    try clear hcz26_1
    try clear hcz26_2
    try clear hcz26_3
    try clear hcz26_4
    try clear hcz26_5
    try clear hcz26_6
    try clear hcz26_7
    try clear hcz27_0
    try clear hcz27_1
    try clear hcz27_2
    try clear hcz27_3
    try clear hcz27_4
    try clear hcz27_5
    try clear hcz27_6
    try clear hcz27_7
    try clear hcz29_0
    try clear hcz29_1
    try clear hcz29_2
    try clear hcz29_3
    try clear hcz29_4
    try clear hcz29_5
    try clear hcz29_6
    try clear hcz29_7
    try clear hcz30_0
    try clear hcz30_1
    try clear hcz30_2
    try clear hcz30_3
    try clear hcz30_4
    try clear hcz30_5
    try clear hcz30_6
    try clear hcz30_7
    try clear hcz32_0
    try clear hcz32_1
    try clear hcz32_2
    try clear hcz32_3
    try clear hcz32_4
    try clear hcz32_5
    try clear hcz32_6
    try clear hcz32_7
    try clear hcz33_0
    try clear hcz33_1
    try clear hcz33_2
    try clear hcz33_3
    try clear hcz33_4
    try clear hcz33_5
    try clear hcz33_6
    try clear hcz33_7
    try clear hcz35_0
    try clear hcz35_1
    try clear hcz35_2
    try clear hcz35_3
    try clear hcz35_4
    try clear hcz35_5
    try clear hcz35_6
    try clear hcz35_7
    try clear hcz36_0
    try clear hcz36_1
    try clear hcz36_2
    try clear hcz36_3
    try clear hcz36_4
    try clear hcz36_5
    try clear hcz36_6
    try clear hcz36_7
    try clear hfz14_0
    try clear hfz14_1
    try clear hfz14_2
    try clear hfz14_3
    try clear hfz14_4
    try clear hfz14_5
    try clear hfz14_6
    try clear hfz14_7
    try clear hfz15_0
    try clear hfz15_1
    try clear hfz15_2
    try clear hfz15_3
    try clear hfz15_4
    try clear hfz15_5
    try clear hfz15_6
    try clear hfz15_7
    try clear hfz17_0
    try clear hfz17_1
    try clear hfz17_2
    try clear hfz17_3
    try clear hfz17_4
    try clear hfz17_5
    try clear hfz17_6
    try clear hfz17_7
    try clear hfz18_0
    try clear hfz18_1
    try clear hfz18_2
    try clear hfz18_3
    try clear hfz18_4
    try clear hfz18_5
    try clear hfz18_6
    try clear hfz18_7
    try clear hfz20_0
    try clear hfz20_1
    try clear hfz20_2
    try clear hfz20_3
    try clear hfz20_4
    try clear hfz20_5
    try clear hfz20_6
    try clear hfz20_7
    try clear hfz21_0
    try clear hfz21_1
    try clear hfz21_2
    try clear hfz21_3
    try clear hfz21_4
    try clear hfz21_5
    try clear hfz21_6
    try clear hfz21_7
    try clear hfz23_0
    try clear hfz23_1
    try clear hfz23_2
    try clear hfz23_3
    try clear hfz23_4
    try clear hfz23_5
    try clear hfz23_6
    try clear hfz23_7
    try clear hfz24_0
    try clear hfz24_1
    try clear hfz24_2
    try clear hfz24_3
    try clear hfz24_4
    try clear hfz24_5
    try clear hfz24_6
    try clear hfz24_7
    try clear hfz26_0
    try clear hfz26_1
    try clear hfz26_2
    try clear hfz26_3
    try clear hfz26_4
    try clear hfz26_5
    try clear hfz26_6
    try clear hfz26_7
    try clear hfz27_0
    try clear hfz27_1
    try clear hfz27_2
    try clear hfz27_3
    try clear hfz27_4
    try clear hfz27_5
    try clear hfz27_6
    try clear hfz27_7
    try clear hfz29_0
    try clear hfz29_1
    try clear hfz29_2
    try clear hfz29_3
    try clear hfz29_4
    try clear hfz29_5
    try clear hfz29_6
    try clear hfz29_7
    try clear hfz30_0
    try clear hfz30_1
    try clear hfz30_2
    try clear hfz30_3
    try clear hfz30_4
    try clear hfz30_5
    try clear hfz30_6
    try clear hfz30_7
    try clear hfz32_0
    try clear hfz32_1
    try clear hfz32_2
    try clear hfz32_3
    try clear hfz32_4
    try clear hfz32_5
    try clear hfz32_6
    try clear hfz32_7
    try clear hfz33_0
    try clear hfz33_1
    try clear hfz33_2
    try clear hfz33_3
    try clear hfz33_4
    try clear hfz33_5
    try clear hfz33_6
    try clear hfz33_7
    try clear hfz35_0
    try clear hfz35_1
    try clear hfz35_2
    try clear hfz35_3
    try clear hfz35_4
    try clear hfz35_5
    try clear hfz35_6
    try clear hfz35_7
    try clear hfz36_0
    try clear hfz36_1
    try clear hfz36_2
    try clear hfz36_3
    try clear hfz36_4
    try clear hfz36_5
    try clear hfz36_6
    try clear hfz36_7
    obtain ⟨kq, x64_2, rfl, HA, HJ2, BK136, BK137, HB⟩ := hcut
    cases kq with
    | zero => exact absurd HA.out (by simp [governorref09_SamePolicy.j0])
    | succ kj2 =>
      have H := HA.out
      clear HA
      simp only [governorref09_SamePolicy.j0] at H
      by_cases c37 : x64_2 = true
      · subst c37
        have H1 : (some false) = some r := by rw [if_pos rfl] at H; exact H
        clear H
        have H := H1
        clear H1
        obtain rfl := Option.some.inj H
        go_wp2
        repeat (go_quiet (fail); try go_wp2)
        go_ret
        exact ⟨by first | rfl | (simp [errW_none, errW_some] <;> rfl) | (simp [*, errW_none, errW_some] <;> rfl), by repeat (first | (with_reducible first | exact HB.out | apply below_alloc | apply pw_below_drewN | apply below_drew1 | refine below_set ?_ GE136.out | refine below_set ?_ GE137.out) | exact HB.out)⟩
      · replace c37 := Bool.eq_false_iff.mpr c37
        subst c37
        have H1 : (governorref09_SamePolicy.l0 kj2 0 a0_0 a0_1 l0_2 a0_3 a0_4 a0_5 a0_6 l0_7 a1_0 a1_1 l1_2 a1_3 a1_4 a1_5 a1_6 l1_7) = some r := by rw [if_neg (show ¬ (false = true) by decide)] at H; exact H
        clear H
        have H := H1
        clear H1
        have H' := Aside0.mk H
        clear H
        go_wp2
        repeat (go_quiet (fail); try go_wp2)
        go_loopg [5] kj2 (fun kq v5 w' => ∃ (x5_2 : Int), v5 = .int .i64 x5_2 ∧ Aside0 (governorref09_SamePolicy.l0 kq x5_2 a0_0 a0_1 l0_2 a0_3 a0_4 a0_5 a0_6 l0_7 a1_0 a1_1 l1_2 a1_3 a1_4 a1_5 a1_6 l1_7 = some r) ∧ Aside0 (kq ≤ kj2) ∧ Aside0 (w'.heap[gb136]? = some (.cells #[.int .i64 a0_0, .int .i64 a0_1, (.slice A0_2 l0_2.length c0_2), .int .i64 a0_3, .int .i64 a0_4, .int .i64 a0_5, .int .i64 a0_6, (.slice A0_7 l0_7.length c0_7)] 25 (0, 0))) ∧ Aside0 (w'.heap[gb137]? = some (.cells #[.int .i64 a1_0, .int .i64 a1_1, (.slice A1_2 l1_2.length c1_2), .int .i64 a1_3, .int .i64 a1_4, .int .i64 a1_5, .int .i64 a1_6, (.slice A1_7 l1_7.length c1_7)] 25 (0, 0))) ∧ Aside0 (Below w.heap.size w w'))
        case atStart => exact ⟨(0), (by first | rfl | (simp; done) | (simp [*]; done)), H', ⟨Nat.le_refl _⟩, ⟨by (with_reducible repeat (first | refine blk_drewN ?_ _ | refine blk_drew ?_ | refine blk_alloc ?_ _)); exact BK136.out⟩, ⟨by (with_reducible repeat (first | refine blk_drewN ?_ _ | refine blk_drew ?_ | refine blk_alloc ?_ _)); exact BK137.out⟩, ⟨by repeat (first | (with_reducible first | exact HB.out | apply below_alloc | apply pw_below_drewN | apply below_drew1 | refine below_set ?_ GE136.out | refine below_set ?_ GE137.out) | exact HB.out)⟩⟩
        case round =>
          clear H'
          try clear c1
          try clear c2
          try clear p2
          try clear c3
          try clear c6
          try clear c6b0
          try clear c6b1
          try clear c7
          try clear c7b0
          try clear c7b1
          try clear c8
          try clear c8b0
          try clear c8b1
          try clear c9
          try clear c9b0
          try clear c9b1
          try clear c10
          try clear c10b0
          try clear c10b1
          try clear c11
          try clear c11b0
          try clear c11b1
          try clear c12
          try clear c12b0
          try clear c12b1
          try clear c12b2
          try clear c13
          try clear c16
          try clear c19
          try clear c22
          try clear c23
          try clear c25
          try clear c28
          try clear c31
          try clear c34
          try clear c37
          try clear hcz14_0
          try clear hcz14_1
          try clear hcz14_2
          try clear hcz14_3
          try clear hcz14_4
          try clear hcz14_5
          try clear hcz14_6
          try clear hcz14_7
          try clear hcz15_0
          try clear hcz15_1
          try clear hcz15_2
          try clear hcz15_3
          try clear hcz15_4
          try clear hcz15_5
          try clear hcz15_6
          try clear hcz15_7
          try clear hcz17_0
          try clear hcz17_1
          try clear hcz17_2
          try clear hcz17_3
          try clear hcz17_4
          try clear hcz17_5
          try clear hcz17_6
          try clear hcz17_7
          try clear hcz18_0
          try clear hcz18_1
          try clear hcz18_2
          try clear hcz18_3
          try clear hcz18_4
          try clear hcz18_5
          try clear hcz18_6
          try clear hcz18_7
          try clear hcz20_0
          try clear hcz20_1
          try clear hcz20_2
          try clear hcz20_3
          try clear hcz20_4
          try clear hcz20_5
          try clear hcz20_6
          try clear hcz20_7
          try clear hcz21_0
          try clear hcz21_1
          try clear hcz21_2
          try clear hcz21_3
          try clear hcz21_4
          try clear hcz21_5
          try clear hcz21_6
          try clear hcz21_7
          try clear hcz23_0
          try clear hcz23_1
          try clear hcz23_2
          try clear hcz23_3
          try clear hcz23_4
          try clear hcz23_5
          try clear hcz23_6
          try clear hcz23_7
          try clear hcz24_0
          try clear hcz24_1
          try clear hcz24_2
          try clear hcz24_3
          try clear hcz24_4
          try clear hcz24_5
          try clear hcz24_6
          try clear hcz24_7
          try clear hcz26_0
          try clear hcz26_1
          try clear hcz26_2
          try clear hcz26_3
          try clear hcz26_4
          try clear hcz26_5
          try clear hcz26_6
          try clear hcz26_7
          try clear hcz27_0
          try clear hcz27_1
          try clear hcz27_2
          try clear hcz27_3
          try clear hcz27_4
          try clear hcz27_5
          try clear hcz27_6
          try clear hcz27_7
          try clear hcz29_0
          try clear hcz29_1
          try clear hcz29_2
          try clear hcz29_3
          try clear hcz29_4
          try clear hcz29_5
          try clear hcz29_6
          try clear hcz29_7
          try clear hcz30_0
          try clear hcz30_1
          try clear hcz30_2
          try clear hcz30_3
          try clear hcz30_4
          try clear hcz30_5
          try clear hcz30_6
          try clear hcz30_7
          try clear hcz32_0
          try clear hcz32_1
          try clear hcz32_2
          try clear hcz32_3
          try clear hcz32_4
          try clear hcz32_5
          try clear hcz32_6
          try clear hcz32_7
          try clear hcz33_0
          try clear hcz33_1
          try clear hcz33_2
          try clear hcz33_3
          try clear hcz33_4
          try clear hcz33_5
          try clear hcz33_6
          try clear hcz33_7
          try clear hcz35_0
          try clear hcz35_1
          try clear hcz35_2
          try clear hcz35_3
          try clear hcz35_4
          try clear hcz35_5
          try clear hcz35_6
          try clear hcz35_7
          try clear hcz36_0
          try clear hcz36_1
          try clear hcz36_2
          try clear hcz36_3
          try clear hcz36_4
          try clear hcz36_5
          try clear hcz36_6
          try clear hcz36_7
          try clear hfz14_0
          try clear hfz14_1
          try clear hfz14_2
          try clear hfz14_3
          try clear hfz14_4
          try clear hfz14_5
          try clear hfz14_6
          try clear hfz14_7
          try clear hfz15_0
          try clear hfz15_1
          try clear hfz15_2
          try clear hfz15_3
          try clear hfz15_4
          try clear hfz15_5
          try clear hfz15_6
          try clear hfz15_7
          try clear hfz17_0
          try clear hfz17_1
          try clear hfz17_2
          try clear hfz17_3
          try clear hfz17_4
          try clear hfz17_5
          try clear hfz17_6
          try clear hfz17_7
          try clear hfz18_0
          try clear hfz18_1
          try clear hfz18_2
          try clear hfz18_3
          try clear hfz18_4
          try clear hfz18_5
          try clear hfz18_6
          try clear hfz18_7
          try clear hfz20_0
          try clear hfz20_1
          try clear hfz20_2
          try clear hfz20_3
          try clear hfz20_4
          try clear hfz20_5
          try clear hfz20_6
          try clear hfz20_7
          try clear hfz21_0
          try clear hfz21_1
          try clear hfz21_2
          try clear hfz21_3
          try clear hfz21_4
          try clear hfz21_5
          try clear hfz21_6
          try clear hfz21_7
          try clear hfz23_0
          try clear hfz23_1
          try clear hfz23_2
          try clear hfz23_3
          try clear hfz23_4
          try clear hfz23_5
          try clear hfz23_6
          try clear hfz23_7
          try clear hfz24_0
          try clear hfz24_1
          try clear hfz24_2
          try clear hfz24_3
          try clear hfz24_4
          try clear hfz24_5
          try clear hfz24_6
          try clear hfz24_7
          try clear hfz26_0
          try clear hfz26_1
          try clear hfz26_2
          try clear hfz26_3
          try clear hfz26_4
          try clear hfz26_5
          try clear hfz26_6
          try clear hfz26_7
          try clear hfz27_0
          try clear hfz27_1
          try clear hfz27_2
          try clear hfz27_3
          try clear hfz27_4
          try clear hfz27_5
          try clear hfz27_6
          try clear hfz27_7
          try clear hfz29_0
          try clear hfz29_1
          try clear hfz29_2
          try clear hfz29_3
          try clear hfz29_4
          try clear hfz29_5
          try clear hfz29_6
          try clear hfz29_7
          try clear hfz30_0
          try clear hfz30_1
          try clear hfz30_2
          try clear hfz30_3
          try clear hfz30_4
          try clear hfz30_5
          try clear hfz30_6
          try clear hfz30_7
          try clear hfz32_0
          try clear hfz32_1
          try clear hfz32_2
          try clear hfz32_3
          try clear hfz32_4
          try clear hfz32_5
          try clear hfz32_6
          try clear hfz32_7
          try clear hfz33_0
          try clear hfz33_1
          try clear hfz33_2
          try clear hfz33_3
          try clear hfz33_4
          try clear hfz33_5
          try clear hfz33_6
          try clear hfz33_7
          try clear hfz35_0
          try clear hfz35_1
          try clear hfz35_2
          try clear hfz35_3
          try clear hfz35_4
          try clear hfz35_5
          try clear hfz35_6
          try clear hfz35_7
          try clear hfz36_0
          try clear hfz36_1
          try clear hfz36_2
          try clear hfz36_3
          try clear hfz36_4
          try clear hfz36_5
          try clear hfz36_6
          try clear hfz36_7
          try clear p2
          obtain ⟨x5_2, rfl, HA, HK2, BK136, BK137, HB⟩ := hrel
          cases gk with
          | zero => exact absurd HA.out (by simp [governorref09_SamePolicy.l0])
          | succ k2 =>
            have H := HA.out
            clear HA
            simp only [governorref09_SamePolicy.l0] at H
            by_cases c38 : x5_2 < (l0_2.length : Int)
            · rw [if_pos c38] at H
              have c38b0 : decide (x5_2 < (l0_2.length : Int)) = true := decide_eq_true c38
              clear c38
              by_cases c39 : 0 ≤ x5_2
              · rw [if_pos c39] at H
                have c39b0 : decide (0 ≤ x5_2) = true := decide_eq_true c39
                clear c39
                by_cases c40 : x5_2 < (l1_2.length : Int)
                · rw [if_pos c40] at H
                  have c40b0 : decide (x5_2 < (l1_2.length : Int)) = true := decide_eq_true c40
                  clear c40
                  by_cases c41 : (!(((rd_T46 l0_2 x5_2).f0) == ((rd_T46 l1_2 x5_2).f0)) || (!(((rd_T46 l0_2 x5_2).f1) == ((rd_T46 l1_2 x5_2).f1)))) = true
                  · rw [if_pos c41] at H
                    have c41b0 : (!(((rd_T46 l0_2 x5_2).f0) == ((rd_T46 l1_2 x5_2).f0)) || (!(((rd_T46 l0_2 x5_2).f1) == ((rd_T46 l1_2 x5_2).f1)))) = true := c41
                    clear c41
                    obtain rfl := Option.some.inj H
                    have hnb42 := NB136_137.out
                    have hnc42 := NB137_136.out
                    have hcz43_0 : wr.cell? ⟨gb136, 0, none⟩ = some (.int .i64 a0_0) := (blk_cell BK136.out 0).trans rfl
                    have hcz43_1 : wr.cell? ⟨gb136, 1, none⟩ = some (.int .i64 a0_1) := (blk_cell BK136.out 1).trans rfl
                    have hcz43_2 : wr.cell? ⟨gb136, 2, none⟩ = some (.slice A0_2 l0_2.length c0_2) := (blk_cell BK136.out 2).trans rfl
                    have hcz43_3 : wr.cell? ⟨gb136, 3, none⟩ = some (.int .i64 a0_3) := (blk_cell BK136.out 3).trans rfl
                    have hcz43_4 : wr.cell? ⟨gb136, 4, none⟩ = some (.int .i64 a0_4) := (blk_cell BK136.out 4).trans rfl
                    have hcz43_5 : wr.cell? ⟨gb136, 5, none⟩ = some (.int .i64 a0_5) := (blk_cell BK136.out 5).trans rfl
                    have hcz43_6 : wr.cell? ⟨gb136, 6, none⟩ = some (.int .i64 a0_6) := (blk_cell BK136.out 6).trans rfl
                    have hcz43_7 : wr.cell? ⟨gb136, 7, none⟩ = some (.slice A0_7 l0_7.length c0_7) := (blk_cell BK136.out 7).trans rfl
                    have hfz43_0 := blk_frozen BK136.out 0
                    have hfz43_1 := blk_frozen BK136.out 1
                    have hfz43_2 := blk_frozen BK136.out 2
                    have hfz43_3 := blk_frozen BK136.out 3
                    have hfz43_4 := blk_frozen BK136.out 4
                    have hfz43_5 := blk_frozen BK136.out 5
                    have hfz43_6 := blk_frozen BK136.out 6
                    have hfz43_7 := blk_frozen BK136.out 7
                    have p138 : 0 ≤ (x5_2 : Int) := of_decide_eq_true (by first | (with_reducible assumption) | assumption)
                    have q138 : x5_2 < (l0_2.length : Int) := of_decide_eq_true (by first | (with_reducible assumption) | assumption)
                    obtain ⟨ad138, e138, hx138_0, hx138_1⟩ := at_T46 HR0_2.out x5_2 p138 q138
                    cases e138
                    replace hx138_0 := (HB.out.cell (World.block_lt_of_cell? w _ hx138_0)).trans hx138_0
                    replace hx138_1 := (HB.out.cell (World.block_lt_of_cell? w _ hx138_1)).trans hx138_1
                    replace p138 := eq_true p138
                    replace q138 := eq_true q138
                    have hcz44_0 : wr.cell? ⟨gb137, 0, none⟩ = some (.int .i64 a1_0) := (blk_cell BK137.out 0).trans rfl
                    have hcz44_1 : wr.cell? ⟨gb137, 1, none⟩ = some (.int .i64 a1_1) := (blk_cell BK137.out 1).trans rfl
                    have hcz44_2 : wr.cell? ⟨gb137, 2, none⟩ = some (.slice A1_2 l1_2.length c1_2) := (blk_cell BK137.out 2).trans rfl
                    have hcz44_3 : wr.cell? ⟨gb137, 3, none⟩ = some (.int .i64 a1_3) := (blk_cell BK137.out 3).trans rfl
                    have hcz44_4 : wr.cell? ⟨gb137, 4, none⟩ = some (.int .i64 a1_4) := (blk_cell BK137.out 4).trans rfl
                    have hcz44_5 : wr.cell? ⟨gb137, 5, none⟩ = some (.int .i64 a1_5) := (blk_cell BK137.out 5).trans rfl
                    have hcz44_6 : wr.cell? ⟨gb137, 6, none⟩ = some (.int .i64 a1_6) := (blk_cell BK137.out 6).trans rfl
                    have hcz44_7 : wr.cell? ⟨gb137, 7, none⟩ = some (.slice A1_7 l1_7.length c1_7) := (blk_cell BK137.out 7).trans rfl
                    have hfz44_0 := blk_frozen BK137.out 0
                    have hfz44_1 := blk_frozen BK137.out 1
                    have hfz44_2 := blk_frozen BK137.out 2
                    have hfz44_3 := blk_frozen BK137.out 3
                    have hfz44_4 := blk_frozen BK137.out 4
                    have hfz44_5 := blk_frozen BK137.out 5
                    have hfz44_6 := blk_frozen BK137.out 6
                    have hfz44_7 := blk_frozen BK137.out 7
                    have p139 : 0 ≤ (x5_2 : Int) := of_decide_eq_true (by first | (with_reducible assumption) | assumption)
                    have q139 : x5_2 < (l1_2.length : Int) := of_decide_eq_true (by first | (with_reducible assumption) | assumption)
                    obtain ⟨ad139, e139, hx139_0, hx139_1⟩ := at_T46 HR1_2.out x5_2 p139 q139
                    cases e139
                    replace hx139_0 := (HB.out.cell (World.block_lt_of_cell? w _ hx139_0)).trans hx139_0
                    replace hx139_1 := (HB.out.cell (World.block_lt_of_cell? w _ hx139_1)).trans hx139_1
                    replace p139 := eq_true p139
                    replace q139 := eq_true q139
                    go_wp2
                    repeat (go_quiet (fail); try go_wp2)
                    go_ret
                    exact ⟨by first | rfl | (simp [errW_none, errW_some] <;> rfl) | (simp [*, errW_none, errW_some] <;> rfl), by repeat (first | (with_reducible first | exact HB.out | apply below_alloc | apply pw_below_drewN | apply below_drew1 | refine below_set ?_ GE136.out | refine below_set ?_ GE137.out) | exact HB.out)⟩
                  · rw [if_neg c41] at H
                    have c41b0 : (!(((rd_T46 l0_2 x5_2).f0) == ((rd_T46 l1_2 x5_2).f0)) || (!(((rd_T46 l0_2 x5_2).f1) == ((rd_T46 l1_2 x5_2).f1)))) = false := by simpa using c41
                    clear c41
                    have H' := Aside0.mk H
                    clear H
                    have hnb45 := NB136_137.out
                    have hnc45 := NB137_136.out
                    have hcz46_0 : wr.cell? ⟨gb136, 0, none⟩ = some (.int .i64 a0_0) := (blk_cell BK136.out 0).trans rfl
                    have hcz46_1 : wr.cell? ⟨gb136, 1, none⟩ = some (.int .i64 a0_1) := (blk_cell BK136.out 1).trans rfl
                    have hcz46_2 : wr.cell? ⟨gb136, 2, none⟩ = some (.slice A0_2 l0_2.length c0_2) := (blk_cell BK136.out 2).trans rfl
                    have hcz46_3 : wr.cell? ⟨gb136, 3, none⟩ = some (.int .i64 a0_3) := (blk_cell BK136.out 3).trans rfl
                    have hcz46_4 : wr.cell? ⟨gb136, 4, none⟩ = some (.int .i64 a0_4) := (blk_cell BK136.out 4).trans rfl
                    have hcz46_5 : wr.cell? ⟨gb136, 5, none⟩ = some (.int .i64 a0_5) := (blk_cell BK136.out 5).trans rfl
                    have hcz46_6 : wr.cell? ⟨gb136, 6, none⟩ = some (.int .i64 a0_6) := (blk_cell BK136.out 6).trans rfl
                    have hcz46_7 : wr.cell? ⟨gb136, 7, none⟩ = some (.slice A0_7 l0_7.length c0_7) := (blk_cell BK136.out 7).trans rfl
                    have hfz46_0 := blk_frozen BK136.out 0
                    have hfz46_1 := blk_frozen BK136.out 1
                    have hfz46_2 := blk_frozen BK136.out 2
                    have hfz46_3 := blk_frozen BK136.out 3
                    have hfz46_4 := blk_frozen BK136.out 4
                    have hfz46_5 := blk_frozen BK136.out 5
                    have hfz46_6 := blk_frozen BK136.out 6
                    have hfz46_7 := blk_frozen BK136.out 7
                    have p138 : 0 ≤ (x5_2 : Int) := of_decide_eq_true (by first | (with_reducible assumption) | assumption)
                    have q138 : x5_2 < (l0_2.length : Int) := of_decide_eq_true (by first | (with_reducible assumption) | assumption)
                    obtain ⟨ad138, e138, hx138_0, hx138_1⟩ := at_T46 HR0_2.out x5_2 p138 q138
                    cases e138
                    replace hx138_0 := (HB.out.cell (World.block_lt_of_cell? w _ hx138_0)).trans hx138_0
                    replace hx138_1 := (HB.out.cell (World.block_lt_of_cell? w _ hx138_1)).trans hx138_1
                    replace p138 := eq_true p138
                    replace q138 := eq_true q138
                    have hcz47_0 : wr.cell? ⟨gb137, 0, none⟩ = some (.int .i64 a1_0) := (blk_cell BK137.out 0).trans rfl
                    have hcz47_1 : wr.cell? ⟨gb137, 1, none⟩ = some (.int .i64 a1_1) := (blk_cell BK137.out 1).trans rfl
                    have hcz47_2 : wr.cell? ⟨gb137, 2, none⟩ = some (.slice A1_2 l1_2.length c1_2) := (blk_cell BK137.out 2).trans rfl
                    have hcz47_3 : wr.cell? ⟨gb137, 3, none⟩ = some (.int .i64 a1_3) := (blk_cell BK137.out 3).trans rfl
                    have hcz47_4 : wr.cell? ⟨gb137, 4, none⟩ = some (.int .i64 a1_4) := (blk_cell BK137.out 4).trans rfl
                    have hcz47_5 : wr.cell? ⟨gb137, 5, none⟩ = some (.int .i64 a1_5) := (blk_cell BK137.out 5).trans rfl
                    have hcz47_6 : wr.cell? ⟨gb137, 6, none⟩ = some (.int .i64 a1_6) := (blk_cell BK137.out 6).trans rfl
                    have hcz47_7 : wr.cell? ⟨gb137, 7, none⟩ = some (.slice A1_7 l1_7.length c1_7) := (blk_cell BK137.out 7).trans rfl
                    have hfz47_0 := blk_frozen BK137.out 0
                    have hfz47_1 := blk_frozen BK137.out 1
                    have hfz47_2 := blk_frozen BK137.out 2
                    have hfz47_3 := blk_frozen BK137.out 3
                    have hfz47_4 := blk_frozen BK137.out 4
                    have hfz47_5 := blk_frozen BK137.out 5
                    have hfz47_6 := blk_frozen BK137.out 6
                    have hfz47_7 := blk_frozen BK137.out 7
                    have p139 : 0 ≤ (x5_2 : Int) := of_decide_eq_true (by first | (with_reducible assumption) | assumption)
                    have q139 : x5_2 < (l1_2.length : Int) := of_decide_eq_true (by first | (with_reducible assumption) | assumption)
                    obtain ⟨ad139, e139, hx139_0, hx139_1⟩ := at_T46 HR1_2.out x5_2 p139 q139
                    cases e139
                    replace hx139_0 := (HB.out.cell (World.block_lt_of_cell? w _ hx139_0)).trans hx139_0
                    replace hx139_1 := (HB.out.cell (World.block_lt_of_cell? w _ hx139_1)).trans hx139_1
                    replace p139 := eq_true p139
                    replace q139 := eq_true q139
                    go_wp2
                    repeat (go_quiet (fail); try go_wp2)
                    go_roundg k2
                    case measure => have := HJ2.out; have := HK2.out; omega
                    case rel => exact ⟨(wrap64 (x5_2 + 1)), (by first | rfl | (simp; done) | (simp [*]; done)), H', ⟨by have := HJ2.out; have := HK2.out; omega⟩, ⟨by (with_reducible repeat (first | refine blk_drewN ?_ _ | refine blk_drew ?_ | refine blk_alloc ?_ _)); exact BK136.out⟩, ⟨by (with_reducible repeat (first | refine blk_drewN ?_ _ | refine blk_drew ?_ | refine blk_alloc ?_ _)); exact BK137.out⟩, ⟨by repeat (first | (with_reducible first | exact HB.out | apply below_alloc | apply pw_below_drewN | apply below_drew1 | refine below_set ?_ GE136.out | refine below_set ?_ GE137.out) | exact HB.out)⟩⟩
                · rw [if_neg c40] at H
                  exact absurd H (by simp)
              · rw [if_neg c39] at H
                exact absurd H (by simp)
            · rw [if_neg c38] at H
              have c38b0 : decide (x5_2 < (l0_2.length : Int)) = false := decide_eq_false c38
              clear c38
              have H' := Aside0.mk H
              clear H
              have hnb48 := NB136_137.out
              have hnc48 := NB137_136.out
              have hcz49_0 : wr.cell? ⟨gb136, 0, none⟩ = some (.int .i64 a0_0) := (blk_cell BK136.out 0).trans rfl
              have hcz49_1 : wr.cell? ⟨gb136, 1, none⟩ = some (.int .i64 a0_1) := (blk_cell BK136.out 1).trans rfl
              have hcz49_2 : wr.cell? ⟨gb136, 2, none⟩ = some (.slice A0_2 l0_2.length c0_2) := (blk_cell BK136.out 2).trans rfl
              have hcz49_3 : wr.cell? ⟨gb136, 3, none⟩ = some (.int .i64 a0_3) := (blk_cell BK136.out 3).trans rfl
              have hcz49_4 : wr.cell? ⟨gb136, 4, none⟩ = some (.int .i64 a0_4) := (blk_cell BK136.out 4).trans rfl
              have hcz49_5 : wr.cell? ⟨gb136, 5, none⟩ = some (.int .i64 a0_5) := (blk_cell BK136.out 5).trans rfl
              have hcz49_6 : wr.cell? ⟨gb136, 6, none⟩ = some (.int .i64 a0_6) := (blk_cell BK136.out 6).trans rfl
              have hcz49_7 : wr.cell? ⟨gb136, 7, none⟩ = some (.slice A0_7 l0_7.length c0_7) := (blk_cell BK136.out 7).trans rfl
              have hfz49_0 := blk_frozen BK136.out 0
              have hfz49_1 := blk_frozen BK136.out 1
              have hfz49_2 := blk_frozen BK136.out 2
              have hfz49_3 := blk_frozen BK136.out 3
              have hfz49_4 := blk_frozen BK136.out 4
              have hfz49_5 := blk_frozen BK136.out 5
              have hfz49_6 := blk_frozen BK136.out 6
              have hfz49_7 := blk_frozen BK136.out 7
              go_wp2
              repeat (go_quiet (fail); try go_wp2)
              go_loopg [6] k2 (fun kq v6 w' => ∃ (x6_3 : Int), v6 = .int .i64 x6_3 ∧ Aside0 (governorref09_SamePolicy.l1 kq x6_3 a0_0 a0_1 l0_2 a0_3 a0_4 a0_5 a0_6 l0_7 a1_0 a1_1 l1_2 a1_3 a1_4 a1_5 a1_6 l1_7 = some r) ∧ Aside0 (kq ≤ k2) ∧ Aside0 (w'.heap[gb136]? = some (.cells #[.int .i64 a0_0, .int .i64 a0_1, (.slice A0_2 l0_2.length c0_2), .int .i64 a0_3, .int .i64 a0_4, .int .i64 a0_5, .int .i64 a0_6, (.slice A0_7 l0_7.length c0_7)] 25 (0, 0))) ∧ Aside0 (w'.heap[gb137]? = some (.cells #[.int .i64 a1_0, .int .i64 a1_1, (.slice A1_2 l1_2.length c1_2), .int .i64 a1_3, .int .i64 a1_4, .int .i64 a1_5, .int .i64 a1_6, (.slice A1_7 l1_7.length c1_7)] 25 (0, 0))) ∧ Aside0 (Below w.heap.size w w'))
              case atStart => exact ⟨(0), (by first | rfl | (simp; done) | (simp [*]; done)), H', ⟨Nat.le_refl _⟩, ⟨by (with_reducible repeat (first | refine blk_drewN ?_ _ | refine blk_drew ?_ | refine blk_alloc ?_ _)); exact BK136.out⟩, ⟨by (with_reducible repeat (first | refine blk_drewN ?_ _ | refine blk_drew ?_ | refine blk_alloc ?_ _)); exact BK137.out⟩, ⟨by repeat (first | (with_reducible first | exact HB.out | apply below_alloc | apply pw_below_drewN | apply below_drew1 | refine below_set ?_ GE136.out | refine below_set ?_ GE137.out) | exact HB.out)⟩⟩
              case round =>
                clear H'
                try clear c1
                try clear p1
                try clear q1
                try clear hx1
                try clear c2
                try clear p2
                try clear c3
                try clear c4
                try clear c6
                try clear c6b0
                try clear c6b1
                try clear p6
                try clear c7
                try clear c7b0
                try clear c7b1
                try clear c8
                try clear c8b0
                try clear c8b1
                try clear c9
                try clear c9b0
                try clear c9b1
                try clear c10
                try clear c10b0
                try clear c10b1
                try clear c11
                try clear c11b0
                try clear c11b1
                try clear c12
                try clear c12b0
                try clear c12b1
                try clear c12b2
                try clear c13
                try clear p13
                try clear q13
                try clear hx13
                try clear c16
                try clear c19
                try clear c22
                try clear c23
                try clear c25
                try clear c28
                try clear c31
                try clear c34
                try clear c37
                try clear c38
                try clear c38b0
                try clear c39
                try clear c39b0
                try clear c40
                try clear c40b0
                try clear c41
                try clear c41b0
                try clear c42
                try clear c45
                try clear c48
                try clear hcz14_0
                try clear hcz14_1
                try clear hcz14_2
                try clear hcz14_3
                try clear hcz14_4
                try clear hcz14_5
                try clear hcz14_6
                try clear hcz14_7
                try clear hcz15_0
                try clear hcz15_1
                try clear hcz15_2
                try clear hcz15_3
                try clear hcz15_4
                try clear hcz15_5
                try clear hcz15_6
                try clear hcz15_7
                try clear hcz17_0
                try clear hcz17_1
                try clear hcz17_2
                try clear hcz17_3
                try clear hcz17_4
                try clear hcz17_5
                try clear hcz17_6
                try clear hcz17_7
                try clear hcz18_0
                try clear hcz18_1
                try clear hcz18_2
                try clear hcz18_3
                try clear hcz18_4
                try clear hcz18_5
                try clear hcz18_6
                try clear hcz18_7
                try clear hcz20_0
                try clear hcz20_1
                try clear hcz20_2
                try clear hcz20_3
                try clear hcz20_4
                try clear hcz20_5
                try clear hcz20_6
                try clear hcz20_7
                try clear hcz21_0
                try clear hcz21_1
                try clear hcz21_2
                try clear hcz21_3
                try clear hcz21_4
                try clear hcz21_5
                try clear hcz21_6
                try clear hcz21_7
                try clear hcz23_0
                try clear hcz23_1
                try clear hcz23_2
                try clear hcz23_3
                try clear hcz23_4
                try clear hcz23_5
                try clear hcz23_6
                try clear hcz23_7
                try clear hcz24_0
                try clear hcz24_1
                try clear hcz24_2
                try clear hcz24_3
                try clear hcz24_4
                try clear hcz24_5
                try clear hcz24_6
                try clear hcz24_7
                try clear hcz26_0
                try clear hcz26_1
                try clear hcz26_2
                try clear hcz26_3
                try clear hcz26_4
                try clear hcz26_5
                try clear hcz26_6
                try clear hcz26_7
                try clear hcz27_0
                try clear hcz27_1
                try clear hcz27_2
                try clear hcz27_3
                try clear hcz27_4
                try clear hcz27_5
                try clear hcz27_6
                try clear hcz27_7
                try clear hcz29_0
                try clear hcz29_1
                try clear hcz29_2
                try clear hcz29_3
                try clear hcz29_4
                try clear hcz29_5
                try clear hcz29_6
                try clear hcz29_7
                try clear hcz30_0
                try clear hcz30_1
                try clear hcz30_2
                try clear hcz30_3
                try clear hcz30_4
                try clear hcz30_5
                try clear hcz30_6
                try clear hcz30_7
                try clear hcz32_0
                try clear hcz32_1
                try clear hcz32_2
                try clear hcz32_3
                try clear hcz32_4
                try clear hcz32_5
                try clear hcz32_6
                try clear hcz32_7
                try clear hcz33_0
                try clear hcz33_1
                try clear hcz33_2
                try clear hcz33_3
                try clear hcz33_4
                try clear hcz33_5
                try clear hcz33_6
                try clear hcz33_7
                try clear hcz35_0
                try clear hcz35_1
                try clear hcz35_2
                try clear hcz35_3
                try clear hcz35_4
                try clear hcz35_5
                try clear hcz35_6
                try clear hcz35_7
                try clear hcz36_0
                try clear hcz36_1
                try clear hcz36_2
                try clear hcz36_3
                try clear hcz36_4
                try clear hcz36_5
                try clear hcz36_6
                try clear hcz36_7
                try clear hcz43_0
                try clear hcz43_1
                try clear hcz43_2
                try clear hcz43_3
                try clear hcz43_4
                try clear hcz43_5
                try clear hcz43_6
                try clear hcz43_7
                try clear hcz44_0
                try clear hcz44_1
                try clear hcz44_2
                try clear hcz44_3
                try clear hcz44_4
                try clear hcz44_5
                try clear hcz44_6
                try clear hcz44_7
                try clear hcz46_0
                try clear hcz46_1
                try clear hcz46_2
                try clear hcz46_3
                try clear hcz46_4
                try clear hcz46_5
                try clear hcz46_6
                try clear hcz46_7
                try clear hcz47_0
                try clear hcz47_1
                try clear hcz47_2
                try clear hcz47_3
                try clear hcz47_4
                try clear hcz47_5
                try clear hcz47_6
                try clear hcz47_7
                try clear hcz49_0
                try clear hcz49_1
                try clear hcz49_2
                try clear hcz49_3
                try clear hcz49_4
                try clear hcz49_5
                try clear hcz49_6
                try clear hcz49_7
                try clear hfz14_0
                try clear hfz14_1
                try clear hfz14_2
                try clear hfz14_3
                try clear hfz14_4
                try clear hfz14_5
                try clear hfz14_6
                try clear hfz14_7
                try clear hfz15_0
                try clear hfz15_1
                try clear hfz15_2
                try clear hfz15_3
                try clear hfz15_4
                try clear hfz15_5
                try clear hfz15_6
                try clear hfz15_7
                try clear hfz17_0
                try clear hfz17_1
                try clear hfz17_2
                try clear hfz17_3
                try clear hfz17_4
                try clear hfz17_5
                try clear hfz17_6
                try clear hfz17_7
                try clear hfz18_0
                try clear hfz18_1
                try clear hfz18_2
                try clear hfz18_3
                try clear hfz18_4
                try clear hfz18_5
                try clear hfz18_6
                try clear hfz18_7
                try clear hfz20_0
                try clear hfz20_1
                try clear hfz20_2
                try clear hfz20_3
                try clear hfz20_4
                try clear hfz20_5
                try clear hfz20_6
                try clear hfz20_7
                try clear hfz21_0
                try clear hfz21_1
                try clear hfz21_2
                try clear hfz21_3
                try clear hfz21_4
                try clear hfz21_5
                try clear hfz21_6
                try clear hfz21_7
                try clear hfz23_0
                try clear hfz23_1
                try clear hfz23_2
                try clear hfz23_3
                try clear hfz23_4
                try clear hfz23_5
                try clear hfz23_6
                try clear hfz23_7
                try clear hfz24_0
                try clear hfz24_1
                try clear hfz24_2
                try clear hfz24_3
                try clear hfz24_4
                try clear hfz24_5
                try clear hfz24_6
                try clear hfz24_7
                try clear hfz26_0
                try clear hfz26_1
                try clear hfz26_2
                try clear hfz26_3
                try clear hfz26_4
                try clear hfz26_5
                try clear hfz26_6
                try clear hfz26_7
                try clear hfz27_0
                try clear hfz27_1
                try clear hfz27_2
                try clear hfz27_3
                try clear hfz27_4
                try clear hfz27_5
                try clear hfz27_6
                try clear hfz27_7
                try clear hfz29_0
                try clear hfz29_1
                try clear hfz29_2
                try clear hfz29_3
                try clear hfz29_4
                try clear hfz29_5
                try clear hfz29_6
                try clear hfz29_7
                try clear hfz30_0
                try clear hfz30_1
                try clear hfz30_2
                try clear hfz30_3
                try clear hfz30_4
                try clear hfz30_5
                try clear hfz30_6
                try clear hfz30_7
                try clear hfz32_0
                try clear hfz32_1
                try clear hfz32_2
                try clear hfz32_3
                try clear hfz32_4
                try clear hfz32_5
                try clear hfz32_6
                try clear hfz32_7
                try clear hfz33_0
                try clear hfz33_1
                try clear hfz33_2
                try clear hfz33_3
                try clear hfz33_4
                try clear hfz33_5
                try clear hfz33_6
                try clear hfz33_7
                try clear hfz35_0
                try clear hfz35_1
                try clear hfz35_2
                try clear hfz35_3
                try clear hfz35_4
                try clear hfz35_5
                try clear hfz35_6
                try clear hfz35_7
                try clear hfz36_0
                try clear hfz36_1
                try clear hfz36_2
                try clear hfz36_3
                try clear hfz36_4
                try clear hfz36_5
                try clear hfz36_6
                try clear hfz36_7
                try clear hfz43_0
                try clear hfz43_1
                try clear hfz43_2
                try clear hfz43_3
                try clear hfz43_4
                try clear hfz43_5
                try clear hfz43_6
                try clear hfz43_7
                try clear hfz44_0
                try clear hfz44_1
                try clear hfz44_2
                try clear hfz44_3
                try clear hfz44_4
                try clear hfz44_5
                try clear hfz44_6
                try clear hfz44_7
                try clear hfz46_0
                try clear hfz46_1
                try clear hfz46_2
                try clear hfz46_3
                try clear hfz46_4
                try clear hfz46_5
                try clear hfz46_6
                try clear hfz46_7
                try clear hfz47_0
                try clear hfz47_1
                try clear hfz47_2
                try clear hfz47_3
                try clear hfz47_4
                try clear hfz47_5
                try clear hfz47_6
                try clear hfz47_7
                try clear hfz49_0
                try clear hfz49_1
                try clear hfz49_2
                try clear hfz49_3
                try clear hfz49_4
                try clear hfz49_5
                try clear hfz49_6
                try clear hfz49_7
                try clear hx138_0
                try clear hx138_1
                try clear hx139_0
                try clear hx139_1
                try clear p138
                try clear p139
                try clear p2
                try clear q138
                try clear q139
                obtain ⟨x6_3, rfl, HA, HK3, BK136, BK137, HB⟩ := hrel
                cases gk with
                | zero => exact absurd HA.out (by simp [governorref09_SamePolicy.l1])
                | succ k3 =>
                  have H := HA.out
                  clear HA
                  simp only [governorref09_SamePolicy.l1] at H
                  by_cases c50 : x6_3 < (l0_7.length : Int)
                  · rw [if_pos c50] at H
                    have c50b0 : decide (x6_3 < (l0_7.length : Int)) = true := decide_eq_true c50
                    clear c50
                    by_cases c51 : 0 ≤ x6_3
                    · rw [if_pos c51] at H
                      have c51b0 : decide (0 ≤ x6_3) = true := decide_eq_true c51
                      clear c51
                      by_cases c52 : x6_3 < (l1_7.length : Int)
                      · rw [if_pos c52] at H
                        have c52b0 : decide (x6_3 < (l1_7.length : Int)) = true := decide_eq_true c52
                        clear c52
                        by_cases c53 : (!(((rd_T48 l0_7 x6_3).f0) == ((rd_T48 l1_7 x6_3).f0)) || (!(((rd_T48 l0_7 x6_3).f1) == ((rd_T48 l1_7 x6_3).f1)))) = true
                        · rw [if_pos c53] at H
                          have c53b0 : (!(((rd_T48 l0_7 x6_3).f0) == ((rd_T48 l1_7 x6_3).f0)) || (!(((rd_T48 l0_7 x6_3).f1) == ((rd_T48 l1_7 x6_3).f1)))) = true := c53
                          clear c53
                          obtain rfl := Option.some.inj H
                          have hnb54 := NB136_137.out
                          have hnc54 := NB137_136.out
                          have hcz55_0 : wr.cell? ⟨gb136, 0, none⟩ = some (.int .i64 a0_0) := (blk_cell BK136.out 0).trans rfl
                          have hcz55_1 : wr.cell? ⟨gb136, 1, none⟩ = some (.int .i64 a0_1) := (blk_cell BK136.out 1).trans rfl
                          have hcz55_2 : wr.cell? ⟨gb136, 2, none⟩ = some (.slice A0_2 l0_2.length c0_2) := (blk_cell BK136.out 2).trans rfl
                          have hcz55_3 : wr.cell? ⟨gb136, 3, none⟩ = some (.int .i64 a0_3) := (blk_cell BK136.out 3).trans rfl
                          have hcz55_4 : wr.cell? ⟨gb136, 4, none⟩ = some (.int .i64 a0_4) := (blk_cell BK136.out 4).trans rfl
                          have hcz55_5 : wr.cell? ⟨gb136, 5, none⟩ = some (.int .i64 a0_5) := (blk_cell BK136.out 5).trans rfl
                          have hcz55_6 : wr.cell? ⟨gb136, 6, none⟩ = some (.int .i64 a0_6) := (blk_cell BK136.out 6).trans rfl
                          have hcz55_7 : wr.cell? ⟨gb136, 7, none⟩ = some (.slice A0_7 l0_7.length c0_7) := (blk_cell BK136.out 7).trans rfl
                          have hfz55_0 := blk_frozen BK136.out 0
                          have hfz55_1 := blk_frozen BK136.out 1
                          have hfz55_2 := blk_frozen BK136.out 2
                          have hfz55_3 := blk_frozen BK136.out 3
                          have hfz55_4 := blk_frozen BK136.out 4
                          have hfz55_5 := blk_frozen BK136.out 5
                          have hfz55_6 := blk_frozen BK136.out 6
                          have hfz55_7 := blk_frozen BK136.out 7
                          have p140 : 0 ≤ (x6_3 : Int) := of_decide_eq_true (by first | (with_reducible assumption) | assumption)
                          have q140 : x6_3 < (l0_7.length : Int) := of_decide_eq_true (by first | (with_reducible assumption) | assumption)
                          obtain ⟨ad140, e140, hx140_0, hx140_1⟩ := at_T48 HR0_7.out x6_3 p140 q140
                          cases e140
                          replace hx140_0 := (HB.out.cell (World.block_lt_of_cell? w _ hx140_0)).trans hx140_0
                          replace hx140_1 := (HB.out.cell (World.block_lt_of_cell? w _ hx140_1)).trans hx140_1
                          replace p140 := eq_true p140
                          replace q140 := eq_true q140
                          have hcz56_0 : wr.cell? ⟨gb137, 0, none⟩ = some (.int .i64 a1_0) := (blk_cell BK137.out 0).trans rfl
                          have hcz56_1 : wr.cell? ⟨gb137, 1, none⟩ = some (.int .i64 a1_1) := (blk_cell BK137.out 1).trans rfl
                          have hcz56_2 : wr.cell? ⟨gb137, 2, none⟩ = some (.slice A1_2 l1_2.length c1_2) := (blk_cell BK137.out 2).trans rfl
                          have hcz56_3 : wr.cell? ⟨gb137, 3, none⟩ = some (.int .i64 a1_3) := (blk_cell BK137.out 3).trans rfl
                          have hcz56_4 : wr.cell? ⟨gb137, 4, none⟩ = some (.int .i64 a1_4) := (blk_cell BK137.out 4).trans rfl
                          have hcz56_5 : wr.cell? ⟨gb137, 5, none⟩ = some (.int .i64 a1_5) := (blk_cell BK137.out 5).trans rfl
                          have hcz56_6 : wr.cell? ⟨gb137, 6, none⟩ = some (.int .i64 a1_6) := (blk_cell BK137.out 6).trans rfl
                          have hcz56_7 : wr.cell? ⟨gb137, 7, none⟩ = some (.slice A1_7 l1_7.length c1_7) := (blk_cell BK137.out 7).trans rfl
                          have hfz56_0 := blk_frozen BK137.out 0
                          have hfz56_1 := blk_frozen BK137.out 1
                          have hfz56_2 := blk_frozen BK137.out 2
                          have hfz56_3 := blk_frozen BK137.out 3
                          have hfz56_4 := blk_frozen BK137.out 4
                          have hfz56_5 := blk_frozen BK137.out 5
                          have hfz56_6 := blk_frozen BK137.out 6
                          have hfz56_7 := blk_frozen BK137.out 7
                          have p141 : 0 ≤ (x6_3 : Int) := of_decide_eq_true (by first | (with_reducible assumption) | assumption)
                          have q141 : x6_3 < (l1_7.length : Int) := of_decide_eq_true (by first | (with_reducible assumption) | assumption)
                          obtain ⟨ad141, e141, hx141_0, hx141_1⟩ := at_T48 HR1_7.out x6_3 p141 q141
                          cases e141
                          replace hx141_0 := (HB.out.cell (World.block_lt_of_cell? w _ hx141_0)).trans hx141_0
                          replace hx141_1 := (HB.out.cell (World.block_lt_of_cell? w _ hx141_1)).trans hx141_1
                          replace p141 := eq_true p141
                          replace q141 := eq_true q141
                          go_wp2
                          repeat (go_quiet (fail); try go_wp2)
                          go_ret
                          exact ⟨by first | rfl | (simp [errW_none, errW_some] <;> rfl) | (simp [*, errW_none, errW_some] <;> rfl), by repeat (first | (with_reducible first | exact HB.out | apply below_alloc | apply pw_below_drewN | apply below_drew1 | refine below_set ?_ GE136.out | refine below_set ?_ GE137.out) | exact HB.out)⟩
                        · rw [if_neg c53] at H
                          have c53b0 : (!(((rd_T48 l0_7 x6_3).f0) == ((rd_T48 l1_7 x6_3).f0)) || (!(((rd_T48 l0_7 x6_3).f1) == ((rd_T48 l1_7 x6_3).f1)))) = false := by simpa using c53
                          clear c53
                          have H' := Aside0.mk H
                          clear H
                          have hnb57 := NB136_137.out
                          have hnc57 := NB137_136.out
                          have hcz58_0 : wr.cell? ⟨gb136, 0, none⟩ = some (.int .i64 a0_0) := (blk_cell BK136.out 0).trans rfl
                          have hcz58_1 : wr.cell? ⟨gb136, 1, none⟩ = some (.int .i64 a0_1) := (blk_cell BK136.out 1).trans rfl
                          have hcz58_2 : wr.cell? ⟨gb136, 2, none⟩ = some (.slice A0_2 l0_2.length c0_2) := (blk_cell BK136.out 2).trans rfl
                          have hcz58_3 : wr.cell? ⟨gb136, 3, none⟩ = some (.int .i64 a0_3) := (blk_cell BK136.out 3).trans rfl
                          have hcz58_4 : wr.cell? ⟨gb136, 4, none⟩ = some (.int .i64 a0_4) := (blk_cell BK136.out 4).trans rfl
                          have hcz58_5 : wr.cell? ⟨gb136, 5, none⟩ = some (.int .i64 a0_5) := (blk_cell BK136.out 5).trans rfl
                          have hcz58_6 : wr.cell? ⟨gb136, 6, none⟩ = some (.int .i64 a0_6) := (blk_cell BK136.out 6).trans rfl
                          have hcz58_7 : wr.cell? ⟨gb136, 7, none⟩ = some (.slice A0_7 l0_7.length c0_7) := (blk_cell BK136.out 7).trans rfl
                          have hfz58_0 := blk_frozen BK136.out 0
                          have hfz58_1 := blk_frozen BK136.out 1
                          have hfz58_2 := blk_frozen BK136.out 2
                          have hfz58_3 := blk_frozen BK136.out 3
                          have hfz58_4 := blk_frozen BK136.out 4
                          have hfz58_5 := blk_frozen BK136.out 5
                          have hfz58_6 := blk_frozen BK136.out 6
                          have hfz58_7 := blk_frozen BK136.out 7
                          have p140 : 0 ≤ (x6_3 : Int) := of_decide_eq_true (by first | (with_reducible assumption) | assumption)
                          have q140 : x6_3 < (l0_7.length : Int) := of_decide_eq_true (by first | (with_reducible assumption) | assumption)
                          obtain ⟨ad140, e140, hx140_0, hx140_1⟩ := at_T48 HR0_7.out x6_3 p140 q140
                          cases e140
                          replace hx140_0 := (HB.out.cell (World.block_lt_of_cell? w _ hx140_0)).trans hx140_0
                          replace hx140_1 := (HB.out.cell (World.block_lt_of_cell? w _ hx140_1)).trans hx140_1
                          replace p140 := eq_true p140
                          replace q140 := eq_true q140
                          have hcz59_0 : wr.cell? ⟨gb137, 0, none⟩ = some (.int .i64 a1_0) := (blk_cell BK137.out 0).trans rfl
                          have hcz59_1 : wr.cell? ⟨gb137, 1, none⟩ = some (.int .i64 a1_1) := (blk_cell BK137.out 1).trans rfl
                          have hcz59_2 : wr.cell? ⟨gb137, 2, none⟩ = some (.slice A1_2 l1_2.length c1_2) := (blk_cell BK137.out 2).trans rfl
                          have hcz59_3 : wr.cell? ⟨gb137, 3, none⟩ = some (.int .i64 a1_3) := (blk_cell BK137.out 3).trans rfl
                          have hcz59_4 : wr.cell? ⟨gb137, 4, none⟩ = some (.int .i64 a1_4) := (blk_cell BK137.out 4).trans rfl
                          have hcz59_5 : wr.cell? ⟨gb137, 5, none⟩ = some (.int .i64 a1_5) := (blk_cell BK137.out 5).trans rfl
                          have hcz59_6 : wr.cell? ⟨gb137, 6, none⟩ = some (.int .i64 a1_6) := (blk_cell BK137.out 6).trans rfl
                          have hcz59_7 : wr.cell? ⟨gb137, 7, none⟩ = some (.slice A1_7 l1_7.length c1_7) := (blk_cell BK137.out 7).trans rfl
                          have hfz59_0 := blk_frozen BK137.out 0
                          have hfz59_1 := blk_frozen BK137.out 1
                          have hfz59_2 := blk_frozen BK137.out 2
                          have hfz59_3 := blk_frozen BK137.out 3
                          have hfz59_4 := blk_frozen BK137.out 4
                          have hfz59_5 := blk_frozen BK137.out 5
                          have hfz59_6 := blk_frozen BK137.out 6
                          have hfz59_7 := blk_frozen BK137.out 7
                          have p141 : 0 ≤ (x6_3 : Int) := of_decide_eq_true (by first | (with_reducible assumption) | assumption)
                          have q141 : x6_3 < (l1_7.length : Int) := of_decide_eq_true (by first | (with_reducible assumption) | assumption)
                          obtain ⟨ad141, e141, hx141_0, hx141_1⟩ := at_T48 HR1_7.out x6_3 p141 q141
                          cases e141
                          replace hx141_0 := (HB.out.cell (World.block_lt_of_cell? w _ hx141_0)).trans hx141_0
                          replace hx141_1 := (HB.out.cell (World.block_lt_of_cell? w _ hx141_1)).trans hx141_1
                          replace p141 := eq_true p141
                          replace q141 := eq_true q141
                          go_wp2
                          repeat (go_quiet (fail); try go_wp2)
                          go_roundg k3
                          case measure => have := HJ2.out; have := HK2.out; have := HK3.out; omega
                          case rel => exact ⟨(wrap64 (x6_3 + 1)), (by first | rfl | (simp; done) | (simp [*]; done)), H', ⟨by have := HJ2.out; have := HK2.out; have := HK3.out; omega⟩, ⟨by (with_reducible repeat (first | refine blk_drewN ?_ _ | refine blk_drew ?_ | refine blk_alloc ?_ _)); exact BK136.out⟩, ⟨by (with_reducible repeat (first | refine blk_drewN ?_ _ | refine blk_drew ?_ | refine blk_alloc ?_ _)); exact BK137.out⟩, ⟨by repeat (first | (with_reducible first | exact HB.out | apply below_alloc | apply pw_below_drewN | apply below_drew1 | refine below_set ?_ GE136.out | refine below_set ?_ GE137.out) | exact HB.out)⟩⟩
                      · rw [if_neg c52] at H
                        exact absurd H (by simp)
                    · rw [if_neg c51] at H
                      exact absurd H (by simp)
                  · rw [if_neg c50] at H
                    have c50b0 : decide (x6_3 < (l0_7.length : Int)) = false := decide_eq_false c50
                    clear c50
                    obtain rfl := Option.some.inj H
                    have hnb60 := NB136_137.out
                    have hnc60 := NB137_136.out
                    have hcz61_0 : wr.cell? ⟨gb136, 0, none⟩ = some (.int .i64 a0_0) := (blk_cell BK136.out 0).trans rfl
                    have hcz61_1 : wr.cell? ⟨gb136, 1, none⟩ = some (.int .i64 a0_1) := (blk_cell BK136.out 1).trans rfl
                    have hcz61_2 : wr.cell? ⟨gb136, 2, none⟩ = some (.slice A0_2 l0_2.length c0_2) := (blk_cell BK136.out 2).trans rfl
                    have hcz61_3 : wr.cell? ⟨gb136, 3, none⟩ = some (.int .i64 a0_3) := (blk_cell BK136.out 3).trans rfl
                    have hcz61_4 : wr.cell? ⟨gb136, 4, none⟩ = some (.int .i64 a0_4) := (blk_cell BK136.out 4).trans rfl
                    have hcz61_5 : wr.cell? ⟨gb136, 5, none⟩ = some (.int .i64 a0_5) := (blk_cell BK136.out 5).trans rfl
                    have hcz61_6 : wr.cell? ⟨gb136, 6, none⟩ = some (.int .i64 a0_6) := (blk_cell BK136.out 6).trans rfl
                    have hcz61_7 : wr.cell? ⟨gb136, 7, none⟩ = some (.slice A0_7 l0_7.length c0_7) := (blk_cell BK136.out 7).trans rfl
                    have hfz61_0 := blk_frozen BK136.out 0
                    have hfz61_1 := blk_frozen BK136.out 1
                    have hfz61_2 := blk_frozen BK136.out 2
                    have hfz61_3 := blk_frozen BK136.out 3
                    have hfz61_4 := blk_frozen BK136.out 4
                    have hfz61_5 := blk_frozen BK136.out 5
                    have hfz61_6 := blk_frozen BK136.out 6
                    have hfz61_7 := blk_frozen BK136.out 7
                    go_wp2
                    repeat (go_quiet (fail); try go_wp2)
                    go_ret
                    exact ⟨by first | rfl | (simp [errW_none, errW_some] <;> rfl) | (simp [*, errW_none, errW_some] <;> rfl), by repeat (first | (with_reducible first | exact HB.out | apply below_alloc | apply pw_below_drewN | apply below_drew1 | refine below_set ?_ GE136.out | refine below_set ?_ GE137.out) | exact HB.out)⟩
end Go.Proofs.Ytldohapdhljoaaa.Print
