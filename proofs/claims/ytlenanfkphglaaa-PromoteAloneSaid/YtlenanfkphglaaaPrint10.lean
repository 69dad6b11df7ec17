/- Functions of the program as Lean functions, and that its calls come to them; written by a program of this claim over the kit print; Lean checks it. -/
import Derived.Test.YtlenanfkphglaaaPrint0
import Derived.Test.YtlenanfkphglaaaPrint4
import Derived.Test.YtlenanfkphglaaaPrint5
import Derived.Test.YtlenanfkphglaaaPrint8
import Derived.Test.YtlenanfkphglaaaPrint9
namespace Go.Proofs.Ytlenanfkphglaaa.Print
open Go.RowKit Go.Proofs.YtlenanfkphglaaaW.PrintWords Go.Proofs.YtlenanfkphglaaaW.PrintLast Go.Proofs.YtlenanfkphglaaaW.PrintMore
attribute [local go_sem] max2_int min2_int max_two min_two max_three min_three max_four min_four   -- for this text's walks alone
set_option linter.unusedVariables false
set_option linter.unusedSimpArgs false

/-! ### governorlaw19_right: function 11 -/
/-- May each of these sims be so. -/
def simOk (x : S37) : Bool := simB x.f0.f0 x.f0.f1 x.f0.f2 x.f0.f3 x.f0.f4 x.f0.f5 x.f0.f6 x.f0.f7 x.f1.f0 x.f1.f1 x.f1.f2 x.f2.f0 x.f2.f1 x.f2.f2 x.f3.f0 x.f3.f1 x.f3.f2 x.f3.f3 x.f4
def governorlaw19_right.f (l0 : List (S37)) : Option (Bool) := some ((l0.take 20).all simOk && decide ((l0.length : Int) < 20))
theorem right_take {l : List S37} {j : Nat} (h : j < l.length) (h2 : j < 20) : (l.take 20).drop j = rd_T37 l j :: (l.take 20).drop (j + 1) := by
  have hl : j < (l.take 20).length := by rw [List.length_take]; omega
  rw [List.drop_eq_getElem_cons hl]
  congr 1
  rw [List.getElem_take]
  unfold rd_T37
  rw [Int.toNat_natCast, List.getD_eq_getElem?_getD, List.getElem?_eq_getElem h]
  rfl
set_option maxHeartbeats 4000000 in
set_option maxRecDepth 100000 in
theorem governorlaw19_right.calls (A0 : Option Addr) (c0 : Nat) (l0 : List (S37)) (r : Bool) (w : World) (hr0 : Kd.C k37 w A0 l0.length l0) (hc0 : l0.length ≤ c0) (h : governorlaw19_right.f l0 = some r) :
    Calls Try.prog 11 #[.slice A0 l0.length c0] w fun e w' => e = .returned (.bool r) ∧ Below w.heap.size w w' := by
  have hu37 := Try.underlying37
  have hu38 := Try.underlying38
  have hi37 : (Try.prog.info? 37).map (·.size) = some 19 := by kernel_rfl
  have hl := hr0.2.1
  have HR := Aside0.mk hr0
  have H0 := Aside0.mk (show (((l0.take 20).drop 0).all simOk && decide ((l0.length : Int) < 20)) = r from Option.some.inj h)
  clear hr0 h
  go_enter Try.func11, Try.ntmps11
  go_wp2
  go_loopw [3] (fun i wr => ∃ j : Nat, j ≤ l0.length ∧ j ≤ 20 ∧ i = .int .i64 j ∧ Aside0 ((((l0.take 20).drop j).all simOk && decide ((l0.length : Int) < 20)) = r) ∧ Aside0 (Below w.heap.size w wr)) (fun i _ => 20 - (intOf i).toNat)
  case atStart => exact ⟨0, Nat.zero_le _, by omega, rfl, H0, ⟨Below.refl _ w⟩⟩
  case round =>
    clear H0
    obtain ⟨j, hj, hj2, rfl, HH, HB⟩ := hrel
    by_cases hlt : j < l0.length
    · by_cases h20 : j < 20
      · have hh := HH.out
        rw [right_take hlt h20, List.all_cons] at hh
        obtain ⟨ad, cs, rfl, _, hK, hcs⟩ := Kd.C_get (Kd.C_below HR.out HB.out) z37 (j : Int) (by omega) (by omega)
        obtain ⟨A2_, c2_, A7_, c7_, A15_, c15_, A18_, c18_, rfl, l2_, g2_, l7_, g7_, l15_, g15_, l18_, g18_⟩ := k37_open hK
        clear hK
        simp only [show l0.getD (j : Int).toNat z37 = rd_T37 l0 j from rfl] at hcs l2_ g2_ l7_ g7_ l15_ g15_ l18_ g18_
        generalize rd_T37 l0 j = x at *
        have hrng : ∀ i v, ([.int .i64 x.f0.f0, .int .i64 x.f0.f1, .slice A2_ x.f0.f2.length c2_, .int .i64 x.f0.f3, .int .i64 x.f0.f4, .int .i64 x.f0.f5, .int .i64 x.f0.f6, .slice A7_ x.f0.f7.length c7_, .int .i64 x.f1.f0, .int .i64 x.f1.f1, .bool x.f1.f2, .int .i64 x.f2.f0, .int .i64 x.f2.f1, .bool x.f2.f2, .int .i64 x.f3.f0, .slice A15_ x.f3.f1.length c15_, .int .i64 x.f3.f2, .int .i64 x.f3.f3, .slice A18_ x.f4.length c18_] : List Value)[i]? = some v → wr.cell? ((ad.add ((j : Int).toNat * 19)).add i) = some v := fun i v hi => (pick_addadd wr ad _ i).trans (hcs i v hi)
        have HRNG := Aside0.mk hrng
        clear hrng hcs
        have G2 := Aside0.mk g2_
        have G7 := Aside0.mk g7_
        have G15 := Aside0.mk g15_
        have G18 := Aside0.mk g18_
        have M2 := Aside0.mk l2_
        have M7 := Aside0.mk l7_
        have M15 := Aside0.mk l15_
        have M18 := Aside0.mk l18_
        clear g2_ g7_ g15_ g18_ l2_ l7_ l15_ l18_
        cases hb0 : simOk x
        · have HX := Aside0.mk (show false = r by rw [hb0] at hh; simpa using hh)
          have HF := Aside0.mk (show governorref18_Right.f x.f0.f0 x.f0.f1 x.f0.f2 x.f0.f3 x.f0.f4 x.f0.f5 x.f0.f6 x.f0.f7 x.f1.f0 x.f1.f1 x.f1.f2 x.f2.f0 x.f2.f1 x.f2.f2 x.f3.f0 x.f3.f1 x.f3.f2 x.f3.f3 x.f4 = some false from congrArg some hb0)
          clear hh hb0
          go_wp2_with (first
            | (with_reducible refine hd_gate 17 rfl ?_); refine hd_run rfl (v := .agg (#[.int .i64 x.f0.f0, .int .i64 x.f0.f1, .slice A2_ x.f0.f2.length c2_, .int .i64 x.f0.f3, .int .i64 x.f0.f4, .int .i64 x.f0.f5, .int .i64 x.f0.f6, .slice A7_ x.f0.f7.length c7_, .int .i64 x.f1.f0, .int .i64 x.f1.f1, .bool x.f1.f2, .int .i64 x.f2.f0, .int .i64 x.f2.f1, .bool x.f2.f2, .int .i64 x.f3.f0, .slice A15_ x.f3.f1.length c15_, .int .i64 x.f3.f2, .int .i64 x.f3.f3, .slice A18_ x.f4.length c18_])) (w1 := wr) ?hr ?_; (case hr => exact pick_load rfl rfl (pick_loadAt wr _ 37 ([.int .i64 x.f0.f0, .int .i64 x.f0.f1, .slice A2_ x.f0.f2.length c2_, .int .i64 x.f0.f3, .int .i64 x.f0.f4, .int .i64 x.f0.f5, .int .i64 x.f0.f6, .slice A7_ x.f0.f7.length c7_, .int .i64 x.f1.f0, .int .i64 x.f1.f1, .bool x.f1.f2, .int .i64 x.f2.f0, .int .i64 x.f2.f1, .bool x.f2.f2, .int .i64 x.f3.f0, .slice A15_ x.f3.f1.length c15_, .int .i64 x.f3.f2, .int .i64 x.f3.f3, .slice A18_ x.f4.length c18_]) _ HRNG.out hu37 rfl hi37))
            | (with_reducible refine hd_gate 18 rfl ?_); refine hd_call rfl (by kernel_rfl) (governorref18_Right.calls x.f0.f0 x.f0.f1 A2_ c2_ x.f0.f2 x.f0.f3 x.f0.f4 x.f0.f5 x.f0.f6 A7_ c7_ x.f0.f7 x.f1.f0 x.f1.f1 x.f1.f2 x.f2.f0 x.f2.f1 x.f2.f2 x.f3.f0 A15_ c15_ x.f3.f1 x.f3.f2 x.f3.f3 A18_ c18_ x.f4 false wr G2.out M2.out G7.out M7.out G15.out M15.out G18.out M18.out HF.out) ?_; rintro e w1 ⟨rfl, hb⟩; refine ⟨_, rfl, ?_⟩; have HB1 := Aside0.mk (below_step HB.out hb); clear hb)
          go_ret
          exact ⟨by rw [HX.out]; rfl, HB1.out⟩
        · have HX := Aside0.mk (show (((l0.take 20).drop (j + 1)).all simOk && decide ((l0.length : Int) < 20)) = r by rw [hb0, Bool.true_and] at hh; exact hh)
          have HF := Aside0.mk (show governorref18_Right.f x.f0.f0 x.f0.f1 x.f0.f2 x.f0.f3 x.f0.f4 x.f0.f5 x.f0.f6 x.f0.f7 x.f1.f0 x.f1.f1 x.f1.f2 x.f2.f0 x.f2.f1 x.f2.f2 x.f3.f0 x.f3.f1 x.f3.f2 x.f3.f3 x.f4 = some true from congrArg some hb0)
          clear hh hb0
          go_wp2_with (first
            | (with_reducible refine hd_gate 17 rfl ?_); refine hd_run rfl (v := .agg (#[.int .i64 x.f0.f0, .int .i64 x.f0.f1, .slice A2_ x.f0.f2.length c2_, .int .i64 x.f0.f3, .int .i64 x.f0.f4, .int .i64 x.f0.f5, .int .i64 x.f0.f6, .slice A7_ x.f0.f7.length c7_, .int .i64 x.f1.f0, .int .i64 x.f1.f1, .bool x.f1.f2, .int .i64 x.f2.f0, .int .i64 x.f2.f1, .bool x.f2.f2, .int .i64 x.f3.f0, .slice A15_ x.f3.f1.length c15_, .int .i64 x.f3.f2, .int .i64 x.f3.f3, .slice A18_ x.f4.length c18_])) (w1 := wr) ?hr ?_; (case hr => exact pick_load rfl rfl (pick_loadAt wr _ 37 ([.int .i64 x.f0.f0, .int .i64 x.f0.f1, .slice A2_ x.f0.f2.length c2_, .int .i64 x.f0.f3, .int .i64 x.f0.f4, .int .i64 x.f0.f5, .int .i64 x.f0.f6, .slice A7_ x.f0.f7.length c7_, .int .i64 x.f1.f0, .int .i64 x.f1.f1, .bool x.f1.f2, .int .i64 x.f2.f0, .int .i64 x.f2.f1, .bool x.f2.f2, .int .i64 x.f3.f0, .slice A15_ x.f3.f1.length c15_, .int .i64 x.f3.f2, .int .i64 x.f3.f3, .slice A18_ x.f4.length c18_]) _ HRNG.out hu37 rfl hi37))
            | (with_reducible refine hd_gate 18 rfl ?_); refine hd_call rfl (by kernel_rfl) (governorref18_Right.calls x.f0.f0 x.f0.f1 A2_ c2_ x.f0.f2 x.f0.f3 x.f0.f4 x.f0.f5 x.f0.f6 A7_ c7_ x.f0.f7 x.f1.f0 x.f1.f1 x.f1.f2 x.f2.f0 x.f2.f1 x.f2.f2 x.f3.f0 A15_ c15_ x.f3.f1 x.f3.f2 x.f3.f3 A18_ c18_ x.f4 true wr G2.out M2.out G7.out M7.out G15.out M15.out G18.out M18.out HF.out) ?_; rintro e w1 ⟨rfl, hb⟩; refine ⟨_, rfl, ?_⟩; have HB1 := Aside0.mk (below_step HB.out hb); clear hb)
          go_roundw
          case rel => exact ⟨j + 1, by omega, by omega, by simp, HX, HB1⟩
          case measure => simp [intOf]; omega
      · obtain rfl : j = 20 := by omega
        have hh := HH.out
        rw [List.drop_eq_nil_of_le (by rw [List.length_take]; omega)] at hh
        have HX := Aside0.mk (show (true && decide ((l0.length : Int) < 20)) = r from hh)
        clear hh
        go_wp2
        go_ret
        exact ⟨by rw [← HX.out, Bool.true_and]; rfl, HB.out⟩
    · obtain rfl : j = l0.length := by omega
      have hh := HH.out
      rw [List.drop_eq_nil_of_le (by rw [List.length_take]; omega)] at hh
      have HX := Aside0.mk (show (true && decide ((l0.length : Int) < 20)) = r from hh)
      clear hh
      go_wp2
      go_ret
      exact ⟨by rw [← HX.out, Bool.true_and]; rfl, HB.out⟩
def cells37 (x : S37) (A2 A7 A15 A18 : Option Addr) (c2 c7 c15 c18 : Nat) : List Value := [.int .i64 x.f0.f0, .int .i64 x.f0.f1, .slice A2 x.f0.f2.length c2, .int .i64 x.f0.f3, .int .i64 x.f0.f4, .int .i64 x.f0.f5, .int .i64 x.f0.f6, .slice A7 x.f0.f7.length c7, .int .i64 x.f1.f0, .int .i64 x.f1.f1, .bool x.f1.f2, .int .i64 x.f2.f0, .int .i64 x.f2.f1, .bool x.f2.f2, .int .i64 x.f3.f0, .slice A15 x.f3.f1.length c15, .int .i64 x.f3.f2, .int .i64 x.f3.f3, .slice A18 x.f4.length c18]
/-- What a law of promote's is asked, and where it lies. -/
structure LP where
  (x0 : S23) (x1 : S37) (A2 A7 A15 A18 : Option Addr) (c2 c7 c15 c18 : Nat) (A : Option Addr) (c : Nat) (l : List S37) (w : World)
def LP.C0 (p : LP) : Array Value := #[.int .i64 p.x0.f0, .int .i64 p.x0.f1, .int .i64 p.x0.f2, .int .i64 p.x0.f3, .int .i64 p.x0.f4, .int .i64 p.x0.f5, .int .i64 p.x0.f6, .int .i64 p.x0.f7, .int .i64 p.x0.f8, .int .i64 p.x0.f9, .int .i64 p.x0.f10, .int .i64 p.x0.f11]
def LP.C1 (p : LP) : Array Value := (cells37 p.x1 p.A2 p.A7 p.A15 p.A18 p.c2 p.c7 p.c15 p.c18).toArray
structure LAt (p : LP) (W : World) : Prop where
  b0 : W.heap[p.w.heap.size]? = some (.cells p.C0 23 (0, 0))
  b1 : W.heap[p.w.heap.size + 1]? = some (.cells p.C1 37 (0, 0))
  r2 : Kd.C k72 W p.A2 p.x1.f0.f2.length p.x1.f0.f2
  m2 : p.x1.f0.f2.length ≤ p.c2
  r7 : Kd.C k74 W p.A7 p.x1.f0.f7.length p.x1.f0.f7
  m7 : p.x1.f0.f7.length ≤ p.c7
  r15 : Kd.C (Kd.int .i64) W p.A15 p.x1.f3.f1.length p.x1.f3.f1
  m15 : p.x1.f3.f1.length ≤ p.c15
  r18 : Kd.C k64 W p.A18 p.x1.f4.length p.x1.f4
  m18 : p.x1.f4.length ≤ p.c18
  rl : Kd.C k37 W p.A p.l.length p.l
  ml : p.l.length ≤ p.c
  below : Below p.w.heap.size p.w W
theorem LAt.later {p : LP} {W W' : World} (h : LAt p W) (hb : Below W.heap.size W W') : LAt p W' :=
  ⟨hd_later h.b0 hb, hd_later h.b1 hb, Kd.C_below h.r2 hb, h.m2, Kd.C_below h.r7 hb, h.m7, Kd.C_below h.r15 hb, h.m15, Kd.C_below h.r18 hb, h.m18, Kd.C_below h.rl hb, h.ml, below_step h.below hb⟩
theorem LAt.alloc {p : LP} {W : World} (h : LAt p W) (o : Obj) : LAt p (W.alloc o) := h.later (below_alloc (Below.refl _ _) o)
theorem LAt.begin (p : LP) (hr2 : Kd.C k72 p.w p.A2 p.x1.f0.f2.length p.x1.f0.f2) (hc2 : p.x1.f0.f2.length ≤ p.c2) (hr7 : Kd.C k74 p.w p.A7 p.x1.f0.f7.length p.x1.f0.f7) (hc7 : p.x1.f0.f7.length ≤ p.c7) (hr15 : Kd.C (Kd.int .i64) p.w p.A15 p.x1.f3.f1.length p.x1.f3.f1) (hc15 : p.x1.f3.f1.length ≤ p.c15) (hr18 : Kd.C k64 p.w p.A18 p.x1.f4.length p.x1.f4) (hc18 : p.x1.f4.length ≤ p.c18) (hrl : Kd.C k37 p.w p.A p.l.length p.l) (hcl : p.l.length ≤ p.c) :
    LAt p ((p.w.alloc (.cells p.C0 23)).alloc (.cells p.C1 37)) := by
  have e0 := pick_new p.w (.cells p.C0 23)
  have e1 := pick_new (p.w.alloc (.cells p.C0 23)) (.cells p.C1 37)
  simp only [World.size_alloc] at e1
  have hb : Below p.w.heap.size p.w ((p.w.alloc (.cells p.C0 23)).alloc (.cells p.C1 37)) := below_alloc (below_alloc (Below.refl _ _) _) _
  refine ⟨?_, e1, Kd.C_below hr2 hb, hc2, Kd.C_below hr7 hb, hc7, Kd.C_below hr15 hb, hc15, Kd.C_below hr18 hb, hc18, Kd.C_below hrl hb, hcl, hb⟩
  rw [Below.heap_alloc _ _ _ (by simp)]; exact e0
def LP.conf (p : LP) : Bool := W.confB p.x0.f0 p.x0.f1 p.x0.f2 p.x0.f3 p.x0.f4 p.x0.f5 p.x0.f6 p.x0.f7 p.x0.f8 p.x0.f9 p.x0.f10 p.x0.f11
def LP.live (p : LP) : Bool := simOk p.x1
def LP.all (p : LP) : Bool := (p.l.take 20).all simOk && decide ((p.l.length : Int) < 20)
theorem lk_head {p : LP} {W : World} (h : LAt p W) : Calls Try.prog 8 #[] W fun e W' => e = .returned (.bool true) ∧ LAt p W' :=
  (governorlaw19_head.calls true W rfl).mono fun _ _ q => ⟨q.1, h.later q.2⟩
theorem lk_conf {p : LP} {W : World} (h : LAt p W) : Calls Try.prog 9 #[.agg p.C0] W fun e W' => e = .returned (.bool p.conf) ∧ LAt p W' :=
  (governorref09_Conf.calls p.x0.f0 p.x0.f1 p.x0.f2 p.x0.f3 p.x0.f4 p.x0.f5 p.x0.f6 p.x0.f7 p.x0.f8 p.x0.f9 p.x0.f10 p.x0.f11 p.conf W rfl).mono fun _ _ q => ⟨q.1, h.later q.2⟩
theorem lk_live {p : LP} {W : World} (h : LAt p W) : Calls Try.prog 10 #[.agg p.C1] W fun e W' => e = .returned (.bool p.live) ∧ LAt p W' :=
  (governorref18_Right.calls p.x1.f0.f0 p.x1.f0.f1 p.A2 p.c2 p.x1.f0.f2 p.x1.f0.f3 p.x1.f0.f4 p.x1.f0.f5 p.x1.f0.f6 p.A7 p.c7 p.x1.f0.f7 p.x1.f1.f0 p.x1.f1.f1 p.x1.f1.f2 p.x1.f2.f0 p.x1.f2.f1 p.x1.f2.f2 p.x1.f3.f0 p.A15 p.c15 p.x1.f3.f1 p.x1.f3.f2 p.x1.f3.f3 p.A18 p.c18 p.x1.f4 p.live W h.r2 h.m2 h.r7 h.m7 h.r15 h.m15 h.r18 h.m18 rfl).mono fun _ _ q => ⟨q.1, h.later q.2⟩
theorem lk_all {p : LP} {W : World} (h : LAt p W) : Calls Try.prog 11 #[.slice p.A p.l.length p.c] W fun e W' => e = .returned (.bool p.all) ∧ LAt p W' :=
  (governorlaw19_right.calls p.A p.c p.l p.all W h.rl h.ml rfl).mono fun _ _ q => ⟨q.1, h.later q.2⟩
theorem lk_pick {p : LP} {W : World} (h : LAt p W) (A : Option Addr) (c : Nat) (l : List S37) (n : Nat) (hn : n = l.length) (hr : Kd.C k37 W A n l) (hc : n ≤ c) :
    Calls Try.prog 12 #[.agg p.C0, .agg p.C1, .slice A n c] W fun e W' => e = .returned (.tuple #[.int .i64 (pickF p.x0.f7 p.x0.f8 p.x0.f9 p.x1.f4 l), .bool (decide (0 < pickF p.x0.f7 p.x0.f8 p.x0.f9 p.x1.f4 l))]) ∧ LAt p W' ∧ Below W.heap.size W W' := by
  subst hn
  exact (promote_Pick.calls p.x0.f0 p.x0.f1 p.x0.f2 p.x0.f3 p.x0.f4 p.x0.f5 p.x0.f6 p.x0.f7 p.x0.f8 p.x0.f9 p.x0.f10 p.x0.f11 p.x1.f0.f0 p.x1.f0.f1 p.A2 p.c2 p.x1.f0.f2 p.x1.f0.f3 p.x1.f0.f4 p.x1.f0.f5 p.x1.f0.f6 p.A7 p.c7 p.x1.f0.f7 p.x1.f1.f0 p.x1.f1.f1 p.x1.f1.f2 p.x1.f2.f0 p.x1.f2.f1 p.x1.f2.f2 p.x1.f3.f0 p.A15 p.c15 p.x1.f3.f1 p.x1.f3.f2 p.x1.f3.f3 p.A18 p.c18 p.x1.f4 A c l _ _ W h.r2 h.m2 h.r7 h.m7 h.r15 h.m15 h.r18 h.m18 hr hc rfl).mono fun _ _ q => ⟨q.1, h.later q.2, q.2⟩
/-- An element of the row, opened in a world. -/
structure EAt (p : LP) (W : World) (i : Nat) (ad : Addr) (A2 A7 A15 A18 : Option Addr) (c2 c7 c15 c18 : Nat) : Prop where
  hA : p.A = some ad
  cells : ∀ j v, (cells37 (rd_T37 p.l i) A2 A7 A15 A18 c2 c7 c15 c18)[j]? = some v → W.cell? ((ad.add (i * 19)).add j) = some v
  r2 : Kd.C k72 W A2 (rd_T37 p.l i).f0.f2.length (rd_T37 p.l i).f0.f2
  m2 : (rd_T37 p.l i).f0.f2.length ≤ c2
  r7 : Kd.C k74 W A7 (rd_T37 p.l i).f0.f7.length (rd_T37 p.l i).f0.f7
  m7 : (rd_T37 p.l i).f0.f7.length ≤ c7
  r15 : Kd.C (Kd.int .i64) W A15 (rd_T37 p.l i).f3.f1.length (rd_T37 p.l i).f3.f1
  m15 : (rd_T37 p.l i).f3.f1.length ≤ c15
  r18 : Kd.C k64 W A18 (rd_T37 p.l i).f4.length (rd_T37 p.l i).f4
  m18 : (rd_T37 p.l i).f4.length ≤ c18
theorem EAt.later {p : LP} {W W' : World} {i : Nat} {ad : Addr} {A2 A7 A15 A18 : Option Addr} {c2 c7 c15 c18 : Nat} (h : EAt p W i ad A2 A7 A15 A18 c2 c7 c15 c18) (hb : Below W.heap.size W W') : EAt p W' i ad A2 A7 A15 A18 c2 c7 c15 c18 :=
  ⟨h.hA, fun j v e => (hb.cell (World.block_lt_of_cell? W _ (h.cells j v e))).trans (h.cells j v e), Kd.C_below h.r2 hb, h.m2, Kd.C_below h.r7 hb, h.m7, Kd.C_below h.r15 hb, h.m15, Kd.C_below h.r18 hb, h.m18⟩
theorem LAt.elt {p : LP} {W : World} (h : LAt p W) (i : Nat) (hi : i < p.l.length) : ∃ ad A2 A7 A15 A18 c2 c7 c15 c18, EAt p W i ad A2 A7 A15 A18 c2 c7 c15 c18 := by
  obtain ⟨ad, cs, e, _, hK, hcs⟩ := Kd.C_get h.rl z37 (i : Int) (by omega) (by omega)
  obtain ⟨A2_, c2_, A7_, c7_, A15_, c15_, A18_, c18_, rfl, l2_, g2_, l7_, g7_, l15_, g15_, l18_, g18_⟩ := k37_open hK
  simp only [show p.l.getD (i : Int).toNat z37 = rd_T37 p.l i from rfl] at hcs l2_ g2_ l7_ g7_ l15_ g15_ l18_ g18_
  rw [Int.toNat_natCast] at hcs
  exact ⟨ad, A2_, A7_, A15_, A18_, c2_, c7_, c15_, c18_, e, fun j v hj => (pick_addadd W ad _ j).trans (hcs j v hj), g2_, l2_, g7_, l7_, g15_, l15_, g18_, l18_⟩
theorem EAt.at {p : LP} {W : World} {i : Nat} {ad : Addr} {A2 A7 A15 A18 : Option Addr} {c2 c7 c15 c18 : Nat} (h : EAt p W i ad A2 A7 A15 A18 c2 c7 c15 c18) (j : Nat) (v : Value) (hj : (cells37 (rd_T37 p.l i) A2 A7 A15 A18 c2 c7 c15 c18)[j]? = some v) (h0 : 0 < j) : W.cell? ⟨(ad.add (i * 19)).block, (ad.add (i * 19)).off + j, none⟩ = some v := by
  rw [← add_field _ _ j h0, ← pick_addadd]
  exact (h.cells j v hj)
theorem EAt.at0 {p : LP} {W : World} {i : Nat} {ad : Addr} {A2 A7 A15 A18 : Option Addr} {c2 c7 c15 c18 : Nat} (h : EAt p W i ad A2 A7 A15 A18 c2 c7 c15 c18) : W.cell? (ad.add (i * 19)) = some (.int .i64 (rd_T37 p.l i).f0.f0) := by
  have := h.cells 0 _ rfl
  rwa [pick_addadd, Nat.add_zero] at this


/-! ### governorlaw19_PromoteAlone: function 5 -/
theorem fold_inv (l : List S37) (b : Nat → Bool) : ∀ k : Nat, k ≤ l.length → (pickFold l (plc b l.length k) = 0 ∧ ∀ i, i < k → b i = false) ∨ ∃ j : Nat, pickFold l (plc b l.length k) = (j : Int) + 1 ∧ j < k ∧ b j = true ∧ ∀ i : Nat, i < k → b i = true → costF (rd_T37 l j).f4 ≤ costF (rd_T37 l i).f4 ∧ (i < j → costF (rd_T37 l j).f4 < costF (rd_T37 l i).f4)
  | 0, _ => .inl ⟨rfl, fun i hi => absurd hi (by omega)⟩
  | k + 1, hk => by
    have ih := fold_inv l b k (by omega)
    cases hb : b k
    · rw [plc_no hb]
      rcases ih with ⟨h1, h2⟩ | ⟨j, h1, h2, h3, h4⟩
      · refine .inl ⟨h1, fun i hi => ?_⟩
        rcases Nat.lt_or_ge i k with h | h
        · exact h2 i h
        · obtain rfl : i = k := by omega
          exact hb
      · refine .inr ⟨j, h1, by omega, h3, fun i hi hbi => ?_⟩
        rcases Nat.lt_or_ge i k with h | h
        · exact h4 i h hbi
        · obtain rfl : i = k := by omega
          rw [hb] at hbi
          cases hbi
    · rw [plc_yes (by omega) hb, pickFold_snoc]
      unfold pickStep
      rcases ih with ⟨h1, h2⟩ | ⟨j, h1, h2, h3, h4⟩
      · rw [h1, if_pos rfl]
        refine .inr ⟨k, rfl, by omega, hb, fun i hi hbi => ?_⟩
        rcases Nat.lt_or_ge i k with h | h
        · rw [h2 i h] at hbi
          cases hbi
        · obtain rfl : i = k := by omega
          exact ⟨Int.le_refl _, fun h => absurd h (by omega)⟩
      · rw [h1, if_neg (by omega)]
        simp only [show (k : Int) + 1 - 1 = (k : Int) by omega, show (j : Int) + 1 - 1 = (j : Int) by omega]
        split
        · rename_i hc
          refine .inr ⟨k, rfl, by omega, hb, fun i hi hbi => ?_⟩
          rcases Nat.lt_or_ge i k with h | h
          · have := h4 i h hbi
            exact ⟨by omega, fun _ => by omega⟩
          · obtain rfl : i = k := by omega
            exact ⟨Int.le_refl _, fun h => absurd h (by omega)⟩
        · rename_i hc
          refine .inr ⟨j, rfl, by omega, h3, fun i hi hbi => ?_⟩
          rcases Nat.lt_or_ge i k with h | h
          · exact h4 i h hbi
          · obtain rfl : i = k := by omega
            exact ⟨by omega, fun h => absurd h (by omega)⟩
def skipIx (k i : Nat) : Nat := if i < k then i else i + 1
theorem rd_less {l : List S37} {k i : Nat} (hk : k < l.length) (hi : i + 1 < l.length) : rd_T37 (([] ++ l.take k) ++ l.drop (k + 1)) (i : Int) = rd_T37 l ((skipIx k i : Nat) : Int) := by
  unfold rd_T37 skipIx
  rw [Int.toNat_natCast, Int.toNat_natCast, List.nil_append, List.getD_eq_getElem?_getD, List.getD_eq_getElem?_getD]
  congr 1
  split
  · rw [List.getElem?_append_left (by rw [List.length_take]; omega), List.getElem?_take, if_pos (by omega)]
  · rw [List.getElem?_append_right (by rw [List.length_take]; omega), List.length_take, List.getElem?_drop]
    congr 1
    omega
theorem less_length {l : List S37} {k : Nat} (hk : k < l.length) : (([] ++ l.take k) ++ l.drop (k + 1)).length + 1 = l.length := by
  rw [List.nil_append, List.length_append, List.length_take, List.length_drop]
  omega
theorem alone_plain (c7 c8 c9 : Int) (live : List S64) (l : List S37) (k : Nat) (hk : k < l.length) (hne : pickF c7 c8 c9 live l ≠ (k : Int) + 1) :
    pickF c7 c8 c9 live (([] ++ l.take k) ++ l.drop (k + 1)) = if (k : Int) + 1 < pickF c7 c8 c9 live l then pickF c7 c8 c9 live l - 1 else pickF c7 c8 c9 live l := by
  have hlen := less_length hk
  have hr : ∀ i, i + 1 < l.length → rd_T37 (([] ++ l.take k) ++ l.drop (k + 1)) (i : Int) = rd_T37 l ((skipIx k i : Nat) : Int) := fun i hi => rd_less hk hi
  generalize ([] ++ l.take k) ++ l.drop (k + 1) = L at *
  have hb : ∀ i, i + 1 < l.length → beats c7 c8 c9 live L i = beats c7 c8 c9 live l (skipIx k i) := fun i hi => by unfold beats; rw [hr i hi]
  have h := fold_inv l (beats c7 c8 c9 live l) l.length (Nat.le_refl _)
  have h' := fold_inv L (beats c7 c8 c9 live L) L.length (Nat.le_refl _)
  rw [show pickFold l (plc (beats c7 c8 c9 live l) l.length l.length) = pickF c7 c8 c9 live l from rfl] at h
  rw [show pickFold L (plc (beats c7 c8 c9 live L) L.length L.length) = pickF c7 c8 c9 live L from rfl] at h'
  generalize pickF c7 c8 c9 live L = P' at *
  generalize pickF c7 c8 c9 live l = P at *
  generalize beats c7 c8 c9 live L = b' at *
  generalize beats c7 c8 c9 live l = b at *
  have hsk : ∀ i, i + 1 < l.length → skipIx k i < l.length := fun i hi => by unfold skipIx; split <;> omega
  rcases h with ⟨h1, h2⟩ | ⟨j, h1, h2, h3, h4⟩
  · rw [h1, if_neg (by omega)]
    rcases h' with ⟨g1, g2⟩ | ⟨j', g1, g2, g3, g4⟩
    · exact g1
    · rw [hb j' (by omega), h2 _ (hsk j' (by omega))] at g3
      cases g3
  · have hjk : j ≠ k := fun e => hne (by rw [h1, e])
    have he : ∃ e, e + 1 < l.length ∧ skipIx k e = j ∧ e = (if k < j then j - 1 else j) := by
      refine ⟨if k < j then j - 1 else j, ?_, ?_, rfl⟩
      · split <;> omega
      · unfold skipIx
        split
        · rw [if_neg (by omega)]; omega
        · rw [if_pos (by omega)]
    obtain ⟨e, e1, e2, e3⟩ := he
    have hbe : b' e = true := by rw [hb e e1, e2]; exact h3
    rcases h' with ⟨g1, g2⟩ | ⟨j', g1, g2, g3, g4⟩
    · rw [g2 e (by omega)] at hbe
      cases hbe
    · obtain ⟨q1, q2⟩ := g4 e (by omega) hbe
      have hj' : j' + 1 < l.length := by omega
      obtain ⟨r1, r2⟩ := h4 (skipIx k j') (hsk j' hj') (by rw [← hb j' hj']; exact g3)
      rw [hr j' hj', hr e e1, e2] at q1 q2
      have hej : e = j' := by
        rcases Nat.lt_trichotomy e j' with h | h | h
        · have := q2 h
          omega
        · exact h
        · have : skipIx k j' < j := by
            rw [← e2]
            unfold skipIx
            split <;> split <;> omega
          have := r2 this
          omega
      rw [g1, h1, ← hej, e3]
      split
      · rw [if_pos (by omega)]; omega
      · rw [if_neg (by omega)]
theorem info37z : (Try.prog.info? 37).map (fun i => (i.zero, i.size, i.bytes)) = some (some (.agg #[.int .i64 0, .int .i64 0, .slice none 0 0, .int .i64 0, .int .i64 0, .int .i64 0, .int .i64 0, .slice none 0 0, .int .i64 0, .int .i64 0, .bool false, .int .i64 0, .int .i64 0, .bool false, .int .i64 0, .slice none 0 0, .int .i64 0, .int .i64 0, .slice none 0 0]), 19, 216) := by kernel_rfl
theorem heap37 : Kd.Heap k37 := by
  unfold k37 k27 k29 k31 k34 k72 k74 k64
  repeat (first | exact Kd.heap_int _ | exact Kd.heap_bool | refine Kd.heap_iso _ ?_ | refine Kd.heap_pair ?_ ?_ | refine Kd.heap_slice _ ?_)
theorem n_empty {W : World} {base g : Nat} (h : W.heap[g]? = some (.cells #[] 37 (0, 0))) (hb : base ≤ g) : Kd.N k37 37 W base (fun _ => True) (.slice (some ⟨g, 0, none⟩) 0 0) [] :=
  Kd.R_N ⟨fun _ _ => trivial, [], ⟨by simp, .inr ⟨g, 0, #[], rfl, hb, h, by simp, by unfold maxLen; omega, by simp, by simp⟩⟩, Reps.none _ _⟩
theorem cut37_to {A : Option Addr} {n c k : Nat} (hk : k ≤ n) (hc : n ≤ c) : ∀ W : World, (Instr.slice 38 (.slice A n c) none (some (.int .i64 (k : Int))) none).run Try.prog W = .ok (.slice A k c) W := by
  obtain ⟨i, hi, _⟩ := Option.map_eq_some_iff.1 info37z
  have h := cut_to (P := Try.prog) 38 37 .i64 Try.underlying38 hi A n c (k : Int) (by omega) (by omega) hc
  simpa only [Int.toNat_natCast] using h
theorem cut37_from {W0 : World} {ok : Nat → Prop} {A : Option Addr} {c : Nat} {l : List S37} {k : Nat} (hk : k ≤ l.length) (hc : l.length ≤ c) (hF : Kd.F k37 W0 ok A l.length l) :
    ∃ A' c', (∀ W : World, (Instr.slice 38 (.slice A l.length c) (some (.int .i64 (k : Int))) none none).run Try.prog W = .ok (.slice A' (l.length - k) c') W) ∧ Kd.F k37 W0 ok A' (l.length - k) (l.drop k) := by
  obtain ⟨i, hi, hs⟩ := Option.map_eq_some_iff.1 info37z
  have h := cut_from (P := Try.prog) 38 37 .i64 Try.underlying38 hi 19 (by injection hs with _ hs; injection hs) A l.length c (k : Int) (by omega) (by omega)
  simp only [Int.toNat_natCast] at h
  refine ⟨_, _, h, Kd.F_imp hF (fun W' hC => ?_)⟩
  have h2 := Kd.C_drop (m := k) (c := c) hC hk hc
  rwa [List.length_drop] at h2
theorem ok_own {base : Nat} {W : World} {v : Value} {xs : List S37} {ok : Nat → Prop} (h : Kd.N k37 37 W base ok v xs) (k : Nat) (hk : k < base) : some k ≠ v.ownBlock := fun e => by have := Kd.N_base h k e.symm; omega
theorem all_lt {p : LP} (h : p.all = true) : p.l.length < 20 := by
  unfold LP.all at h
  have := (Bool.and_eq_true _ _ ▸ h).2
  have := of_decide_eq_true this
  omega
set_option maxRecDepth 100000 in
set_option maxHeartbeats 16000000 in
theorem alone_walk (p : LP) (A : Option Addr) (HA : Aside0 (p.A = A)) (HB : Aside0 (LAt p ((p.w.alloc (.cells p.C0 23)).alloc (.cells p.C1 37)))) (dr : Int) (hdr : 0 ≤ dr ∧ dr < 256) :
    Calls Try.prog 5 #[.agg p.C0, .agg p.C1, .slice A p.l.length p.c, .int .u8 dr] p.w fun e w' => e = .returned (.bool true) ∧ Below p.w.heap.size p.w w' := by
  have hu23 := Try.underlying23
  have hu37 := Try.underlying37
  have hu38 := Try.underlying38
  have hm : Try.prog.follows .mixedOrders = true := by kernel_rfl
  have hi23 : (Try.prog.info? 23).map (·.size) = some 12 := by kernel_rfl
  have hi37 : (Try.prog.info? 37).map (·.size) = some 19 := by kernel_rfl
  go_enter Try.func5, Try.ntmps5
  go_wp2_with fail
  refine (lk_head HB.out).mono ?_
  rintro e w1 ⟨rfl, h1⟩
  have H1 := Aside0.mk h1
  clear h1 HB
  go_wp2_with (first
    | (with_reducible refine hd_gate 18 rfl ?_); refine hd_run rfl (v := .agg p.C0) (w1 := w1) (pick_loadRow rfl p.w.heap.size rfl 23 _ (0, 0) _ H1.out.b0 hu23 rfl hi23) ?_)
  refine (lk_conf H1.out).mono ?_
  rintro e w2 ⟨rfl, h2⟩
  have H2 := Aside0.mk h2
  clear h2 H1
  cases hc : p.conf
  · go_wp2_with fail
    go_ret
    exact ⟨rfl, H2.out.below⟩
  have HC := Aside0.mk hc
  clear hc
  go_wp2_with (first
    | (with_reducible refine hd_gate 22 rfl ?_); refine hd_run rfl (v := .agg p.C1) (w1 := w2) (pick_loadRow rfl (p.w.heap.size + 1) rfl 37 _ (0, 0) _ H2.out.b1 hu37 rfl hi37) ?_)
  refine (lk_live H2.out).mono ?_
  rintro e w3 ⟨rfl, h3⟩
  have H3 := Aside0.mk h3
  clear h3 H2
  cases hc : p.live
  · go_wp2_with fail
    go_ret
    exact ⟨rfl, H3.out.below⟩
  have HL0 := Aside0.mk hc
  clear hc
  go_wp2_with fail
  refine (show Calls Try.prog 11 #[.slice A p.l.length p.c] w3 _ from HA.out ▸ lk_all H3.out).mono ?_
  rintro e w4 ⟨rfl, h4⟩
  have H4 := Aside0.mk h4
  clear h4 H3
  cases hc : p.all
  · go_wp2_with fail
    go_ret
    exact ⟨rfl, H4.out.below⟩
  have hl20 : p.l.length < 20 := all_lt hc
  clear hc HC HL0
  have hmax : p.l.length ≤ 9223372036854775807 := H4.out.rl.2.1
  by_cases hz : p.l.length = 0
  · have z1 : ((p.l.length : Int) == 0) = true := by simp [hz]
    go_wp2_with fail
    go_ret
    exact ⟨rfl, H4.out.below⟩
  have z1 : ((p.l.length : Int) == 0) = false := by simp [hz]
  go_wp2_with (first
    | (with_reducible refine hd_gate 38 rfl ?_); refine hd_run rfl (v := .agg p.C0) (w1 := w4) (pick_loadRow rfl p.w.heap.size rfl 23 _ (0, 0) _ H4.out.b0 hu23 rfl hi23) ?_
    | (with_reducible refine hd_gate 39 rfl ?_); refine hd_run rfl (v := .agg p.C1) (w1 := w4) (pick_loadRow rfl (p.w.heap.size + 1) rfl 37 _ (0, 0) _ H4.out.b1 hu37 rfl hi37) ?_)
  refine (lk_pick H4.out A p.c p.l _ rfl (HA.out ▸ H4.out.rl) H4.out.ml).mono ?_
  rintro e w5 ⟨rfl, h5, _⟩
  have H5 := Aside0.mk h5
  clear h5 H4
  have hin : 0 ≤ pickF p.x0.f7 p.x0.f8 p.x0.f9 p.x1.f4 p.l ∧ pickF p.x0.f7 p.x0.f8 p.x0.f9 p.x1.f4 p.l ≤ p.l.length := pickFold_in _ _
  generalize hat : pickF p.x0.f7 p.x0.f8 p.x0.f9 p.x1.f4 p.l = at_ at *
  have HAT := Aside0.mk hat
  clear hat
  obtain ⟨hin0, hin1⟩ := hin
  obtain ⟨kk, hkk, hkn⟩ : ∃ kk : Nat, Int.tmod dr (p.l.length : Int) = (kk : Int) ∧ kk < p.l.length := by
    obtain ⟨d, rfl⟩ := Int.eq_ofNat_of_zero_le hdr.1
    refine ⟨d % p.l.length, ?_, Nat.mod_lt _ (by omega)⟩
    rw [Int.ofNat_tmod]
  have hn0 : (p.l.length : Int) ≠ 0 := by omega
  have wd : IntKind.i64.wrap dr = dr := by rw [IntKind.wrap_i64] <;> omega
  have wk : IntKind.i64.wrap (kk : Int) = (kk : Int) := by rw [IntKind.wrap_i64] <;> omega
  have wk1 : IntKind.i64.wrap ((kk : Int) + 1) = (kk : Int) + 1 := by rw [IntKind.wrap_i64] <;> omega
  by_cases h0 : at_ = 0
  · rw [show decide (0 < at_) = false from decide_eq_false (by omega)]
    go_wp2_with fail
    have hC5 := H5.out.rl
    have HF := Aside0.mk (Kd.C_F heap37 (HA.out ▸ hC5))
    clear hC5
    have ct := cut37_to (A := A) (n := p.l.length) (c := p.c) (k := kk) (by omega) H5.out.ml
    obtain ⟨Ad, cd, cf, hFd⟩ := cut37_from (k := kk + 1) (c := p.c) (by omega) H5.out.ml HF.out
    have HFd := Aside0.mk hFd
    have HFt := Aside0.mk (Kd.F_take (m := kk) HF.out (by omega))
    clear hFd
    rw [show ((kk + 1 : Nat) : Int) = (kk : Int) + 1 by omega] at cf
    refine wp_region_noPanic ?_
    refine wp_region_held_drew (S := fun _ => True) (by kernel_rfl) trivial (fun hHeld => ?_)
    refine wpAnyH_take (i := 1) (oi := ({ dst := some 58, op := Op.move (Operand.tmp 2), type := 38, pos := "law.go:89", after := #[], guard := none } : Oper)) (v := ?_) rfl (by kernel_rfl) (by kernel_rfl) (by kernel_rfl) (fun _ _ _ h => h) (Or.inl ⟨by rfl, ?hyA1⟩) (by assumption) ?rsA1
    case hyA1 => (intro w8' hSw; (try dsimp only at hSw); go_simp; (first | done | with_reducible rfl))
    (try simp only [Act.put, List.setIfInBounds_toArray, List.set_cons_zero, List.set_cons_succ])
    refine wpAnyH_take (i := 2) (oi := ({ dst := some 59, op := Op.move (Operand.tmp 12), type := 3, pos := "law.go:89", after := #[], guard := none } : Oper)) (v := ?_) rfl (by kernel_rfl) (by kernel_rfl) (by kernel_rfl) (fun _ _ _ h => h) (Or.inl ⟨by rfl, ?hyA2⟩) (by assumption) ?rsA2
    case hyA2 => (intro w8' hSw; (try dsimp only at hSw); go_simp; (first | done | with_reducible rfl))
    (try simp only [Act.put, List.setIfInBounds_toArray, List.set_cons_zero, List.set_cons_succ])
    refine wpAnyH_take (i := 3) (oi := ({ dst := some 60, op := Op.slice 38 (Operand.tmp 58) none (some (Operand.tmp 59)) none, type := 38, pos := "law.go:89", after := #[{ on := 1, ground := Ground.data }, { on := 2, ground := Ground.data }], guard := none } : Oper)) (v := ?_) rfl (by kernel_rfl) (by kernel_rfl) (by kernel_rfl) (fun _ _ _ h => h) (Or.inl ⟨by rfl, ?hyA3⟩) (by assumption) ?rsA3
    case hyA3 => (intro w8' hSw; (try dsimp only at hSw); go_simp; (first | done | with_reducible rfl))
    (try simp only [Act.put, List.setIfInBounds_toArray, List.set_cons_zero, List.set_cons_succ])
    refine wpAnyH_take (i := 5) (oi := ({ dst := some 62, op := Op.move (Operand.tmp 2), type := 38, pos := "law.go:89", after := #[], guard := none } : Oper)) (v := ?_) rfl (by kernel_rfl) (by kernel_rfl) (by kernel_rfl) (fun _ _ _ h => h) (Or.inl ⟨by rfl, ?hyA5⟩) (by assumption) ?rsA5
    case hyA5 => (intro w8' hSw; (try dsimp only at hSw); go_simp; (first | done | with_reducible rfl))
    (try simp only [Act.put, List.setIfInBounds_toArray, List.set_cons_zero, List.set_cons_succ])
    refine wpAnyH_take (i := 6) (oi := ({ dst := some 63, op := Op.move (Operand.tmp 12), type := 3, pos := "law.go:89", after := #[], guard := none } : Oper)) (v := ?_) rfl (by kernel_rfl) (by kernel_rfl) (by kernel_rfl) (fun _ _ _ h => h) (Or.inl ⟨by rfl, ?hyA6⟩) (by assumption) ?rsA6
    case hyA6 => (intro w8' hSw; (try dsimp only at hSw); go_simp; (first | done | with_reducible rfl))
    (try simp only [Act.put, List.setIfInBounds_toArray, List.set_cons_zero, List.set_cons_succ])
    refine wpAnyH_take (i := 7) (oi := ({ dst := some 64, op := Op.binOp BinOp.add 3 (Operand.tmp 63) (Operand.const (Value.int IntKind.i64 1)) 3, type := 3, pos := "law.go:89", after := #[{ on := 6, ground := Ground.data }], guard := none } : Oper)) (v := ?_) rfl (by kernel_rfl) (by kernel_rfl) (by kernel_rfl) (fun _ _ _ h => h) (Or.inl ⟨by rfl, ?hyA7⟩) (by assumption) ?rsA7
    case hyA7 => (intro w8' hSw; (try dsimp only at hSw); go_simp; (first | done | with_reducible rfl))
    (try simp only [Act.put, List.setIfInBounds_toArray, List.set_cons_zero, List.set_cons_succ])
    refine wpAnyH_take (i := 8) (oi := ({ dst := some 65, op := Op.slice 38 (Operand.tmp 62) (some (Operand.tmp 64)) none none, type := 38, pos := "law.go:89", after := #[{ on := 5, ground := Ground.data }, { on := 7, ground := Ground.data }], guard := none } : Oper)) (v := ?_) rfl (by kernel_rfl) (by kernel_rfl) (by kernel_rfl) (fun _ _ _ h => h) (Or.inl ⟨by rfl, ?hyA8⟩) (by assumption) ?rsA8
    case hyA8 => (intro w8' hSw; (try dsimp only at hSw); go_simp; (first | done | with_reducible rfl))
    (try simp only [Act.put, List.setIfInBounds_toArray, List.set_cons_zero, List.set_cons_succ])
    have Hd := Aside0.mk (show Below w5.heap.size w5 w5.drew from below_drew (Below.refl _ _))
    generalize w5.drew = wd at *
    refine wpAnyH_ready (rs := [0]) (by kernel_rfl) (by simp) ?_
    refine AllReadyH.cons (o := ({ dst := some 57, op := Op.buildSlice 38 0 #[], type := 38, pos := "law.go:89", after := #[], guard := none } : Oper)) rfl (fun K hK => ?_) AllReadyH.nil
    rw [if_pos (by rfl)]
    go_simp
    refine hK.out _ _ trivial (fun hHeld => ?_)
    clear hK
    (try simp only [Act.put, List.setIfInBounds_toArray, List.set_cons_zero, List.set_cons_succ])
    have hn := n_empty (base := w5.heap.size) (pick_new wd (.cells #[] 37)) Hd.out.size
    have HN := Aside0.mk hn
    have HB57 := Aside0.mk (below_alloc Hd.out (.cells #[] 37))
    clear hn
    refine wpAnyH_ready (rs := [4]) (by kernel_rfl) (by simp) ?_
    refine AllReadyH.cons (o := ({ dst := some 61, op := Op.call { callee := Callee.builtin Builtin.append, args := #[Operand.tmp 57, Operand.tmp 60], argTypes := #[38, 38] }, type := 38, pos := "law.go:89", after := #[{ on := 0, ground := Ground.data }, { on := 3, ground := Ground.data }], guard := none } : Oper)) rfl (fun K hK => ?_) AllReadyH.nil
    refine Kd.N_append_rows_step k37 (w0 := w5) w5.heap.size (by kernel_rfl) (.tmp 57) (.tmp 60) 38 37 (.agg #[.int .i64 0, .int .i64 0, .slice none 0 0, .int .i64 0, .int .i64 0, .int .i64 0, .int .i64 0, .slice none 0 0, .int .i64 0, .int .i64 0, .bool false, .int .i64 0, .int .i64 0, .bool false, .int .i64 0, .slice none 0 0, .int .i64 0, .int .i64 0, .slice none 0 0]) 216 rfl Try.underlying38 info37z rfl (by decide) (by omega) _ [] (p.l.take kk) A kk p.c (fun _ => True) (fun k => k < w5.heap.size) rfl rfl HN.out ?hF1 ?hok1 (fun _ _ => trivial) HB57.out HB57.out.size ?hl1 ?nx1
    case hF1 => have := HFt.out; rw [List.length_take, Nat.min_eq_left (by omega)] at this; exact Kd.F_step this (fun k hk _ => HB57.out.block k hk)
    case hok1 => exact fun k hk => ⟨trivial, ok_own HN.out k hk⟩
    case hl1 => simp; omega
    intro v61 W61 hN61 hB61 hG61 _
    have HN61 := Aside0.mk hN61
    have HB61 := Aside0.mk hB61
    clear hN61 hB61 hG61
    refine hK.out _ _ trivial (fun hHeld => ?_)
    clear hK
    (try simp only [Act.put, List.setIfInBounds_toArray, List.set_cons_zero, List.set_cons_succ])
    refine wpAnyH_ready (rs := [9]) (by kernel_rfl) (by simp) ?_
    refine AllReadyH.cons (o := ({ dst := some 66, op := Op.call { callee := Callee.builtin Builtin.append, args := #[Operand.tmp 61, Operand.tmp 65], argTypes := #[38, 38] }, type := 38, pos := "law.go:89", after := #[{ on := 4, ground := Ground.data }, { on := 8, ground := Ground.data }, { on := 4, ground := Ground.chain }], guard := none } : Oper)) rfl (fun K hK => ?_) AllReadyH.nil
    refine Kd.N_append_rows_step k37 (w0 := w5) w5.heap.size (by kernel_rfl) (.tmp 61) (.tmp 65) 38 37 (.agg #[.int .i64 0, .int .i64 0, .slice none 0 0, .int .i64 0, .int .i64 0, .int .i64 0, .int .i64 0, .slice none 0 0, .int .i64 0, .int .i64 0, .bool false, .int .i64 0, .int .i64 0, .bool false, .int .i64 0, .slice none 0 0, .int .i64 0, .int .i64 0, .slice none 0 0]) 216 rfl Try.underlying38 info37z rfl (by decide) (by omega) _ ([] ++ p.l.take kk) (p.l.drop (kk + 1)) Ad (p.l.length - (kk + 1)) cd (fun _ => True) (fun k => k < w5.heap.size) rfl rfl HN61.out ?hF2 ?hok2 (fun _ _ => trivial) HB61.out HB61.out.size ?hl2 ?nx2
    case hF2 => exact Kd.F_step HFd.out (fun k hk _ => HB61.out.block k hk)
    case hok2 => exact fun k hk => ⟨trivial, ok_own HN61.out k hk⟩
    case hl2 => simp; omega
    intro v66 W66 hN66 hB66 hG66 _
    have HN66 := Aside0.mk hN66
    have HB66 := Aside0.mk hB66
    clear hN66 hB66 hG66
    refine hK.out _ _ trivial (fun hHeld => ?_)
    clear hK
    (try simp only [Act.put, List.setIfInBounds_toArray, List.set_cons_zero, List.set_cons_succ])
    refine wpAnyH_take (i := 10) (oi := ({ dst := some 13, op := Op.assign (Operand.tmp 66), type := 38, pos := "law.go:89", after := #[{ on := 9, ground := Ground.data }, { on := 9, ground := Ground.chain }, { on := 0, ground := Ground.phase }, { on := 1, ground := Ground.phase }, { on := 2, ground := Ground.phase }, { on := 3, ground := Ground.phase }, { on := 4, ground := Ground.phase }, { on := 5, ground := Ground.phase }, { on := 6, ground := Ground.phase }, { on := 7, ground := Ground.phase }, { on := 8, ground := Ground.phase }, { on := 9, ground := Ground.phase }], guard := none } : Oper)) (v := ?_) rfl (by kernel_rfl) (by kernel_rfl) (by kernel_rfl) (fun _ _ _ h => h) (Or.inl ⟨by rfl, ?hyB10⟩) (by assumption) ?rsB10
    case hyB10 => (intro w8' hSw; (try dsimp only at hSw); go_simp; (first | done | with_reducible rfl))
    (try simp only [Act.put, List.setIfInBounds_toArray, List.set_cons_zero, List.set_cons_succ])
    refine wpAnyH_done (by kernel_rfl) ?_ _
    refine NoPanic.normal ?_
    obtain ⟨Av, cv, rfl, hlv, hCv⟩ := Kd.N_reads HN66.out
    generalize hnl : (([] ++ p.l.take kk) ++ p.l.drop (kk + 1)).length = nl at hlv hCv ⊢
    have HNL := Aside0.mk hnl
    clear hnl HN66
    have H66 := Aside0.mk (H5.out.later HB66.out)
    have HCv := Aside0.mk hCv
    have HLv := Aside0.mk hlv
    clear hCv hlv
    go_wp2_with (first
      | (with_reducible refine hd_gate 68 rfl ?_); refine hd_run rfl (v := .agg p.C0) (w1 := W66) (pick_loadRow rfl p.w.heap.size rfl 23 _ (0, 0) _ H66.out.b0 hu23 rfl hi23) ?_
      | (with_reducible refine hd_gate 69 rfl ?_); refine hd_run rfl (v := .agg p.C1) (w1 := W66) (pick_loadRow rfl (p.w.heap.size + 1) rfl 37 _ (0, 0) _ H66.out.b1 hu37 rfl hi37) ?_)
    refine (lk_pick H66.out Av cv (([] ++ p.l.take kk) ++ p.l.drop (kk + 1)) nl HNL.out.symm HCv.out HLv.out).mono ?_
    rw [alone_plain p.x0.f7 p.x0.f8 p.x0.f9 p.x1.f4 p.l kk (by omega) (by rw [HAT.out]; omega), HAT.out]
    rw [if_neg (by omega)]
    rintro e w9 ⟨rfl, h9, _⟩
    have H9 := Aside0.mk h9
    clear h9
    go_wp2_with fail
    go_ret
    exact ⟨rfl, H9.out.below⟩
  by_cases he : (kk : Int) + 1 = at_
  · have e1 : ((kk : Int) + 1 == at_) = true := beq_iff_eq.2 he
    rw [show decide (0 < at_) = true from decide_eq_true (by omega)]
    go_wp2_with fail
    go_ret
    exact ⟨rfl, H5.out.below⟩
  have e1 : ((kk : Int) + 1 == at_) = false := beq_eq_false_iff_ne.2 he
  rw [show decide (0 < at_) = true from decide_eq_true (by omega)]
  go_wp2_with fail
  have hC5 := H5.out.rl
  have HF := Aside0.mk (Kd.C_F heap37 (HA.out ▸ hC5))
  clear hC5
  have ct := cut37_to (A := A) (n := p.l.length) (c := p.c) (k := kk) (by omega) H5.out.ml
  obtain ⟨Ad, cd, cf, hFd⟩ := cut37_from (k := kk + 1) (c := p.c) (by omega) H5.out.ml HF.out
  have HFd := Aside0.mk hFd
  have HFt := Aside0.mk (Kd.F_take (m := kk) HF.out (by omega))
  clear hFd
  rw [show ((kk + 1 : Nat) : Int) = (kk : Int) + 1 by omega] at cf
  refine wp_region_noPanic ?_
  refine wp_region_held_drew (S := fun _ => True) (by kernel_rfl) trivial (fun hHeld => ?_)
  refine wpAnyH_take (i := 1) (oi := ({ dst := some 58, op := Op.move (Operand.tmp 2), type := 38, pos := "law.go:89", after := #[], guard := none } : Oper)) (v := ?_) rfl (by kernel_rfl) (by kernel_rfl) (by kernel_rfl) (fun _ _ _ h => h) (Or.inl ⟨by rfl, ?hyAx1⟩) (by assumption) ?rsAx1
  case hyAx1 => (intro w8' hSw; (try dsimp only at hSw); go_simp; (first | done | with_reducible rfl))
  (try simp only [Act.put, List.setIfInBounds_toArray, List.set_cons_zero, List.set_cons_succ])
  refine wpAnyH_take (i := 2) (oi := ({ dst := some 59, op := Op.move (Operand.tmp 12), type := 3, pos := "law.go:89", after := #[], guard := none } : Oper)) (v := ?_) rfl (by kernel_rfl) (by kernel_rfl) (by kernel_rfl) (fun _ _ _ h => h) (Or.inl ⟨by rfl, ?hyAx2⟩) (by assumption) ?rsAx2
  case hyAx2 => (intro w8' hSw; (try dsimp only at hSw); go_simp; (first | done | with_reducible rfl))
  (try simp only [Act.put, List.setIfInBounds_toArray, List.set_cons_zero, List.set_cons_succ])
  refine wpAnyH_take (i := 3) (oi := ({ dst := some 60, op := Op.slice 38 (Operand.tmp 58) none (some (Operand.tmp 59)) none, type := 38, pos := "law.go:89", after := #[{ on := 1, ground := Ground.data }, { on := 2, ground := Ground.data }], guard := none } : Oper)) (v := ?_) rfl (by kernel_rfl) (by kernel_rfl) (by kernel_rfl) (fun _ _ _ h => h) (Or.inl ⟨by rfl, ?hyAx3⟩) (by assumption) ?rsAx3
  case hyAx3 => (intro w8' hSw; (try dsimp only at hSw); go_simp; (first | done | with_reducible rfl))
  (try simp only [Act.put, List.setIfInBounds_toArray, List.set_cons_zero, List.set_cons_succ])
  refine wpAnyH_take (i := 5) (oi := ({ dst := some 62, op := Op.move (Operand.tmp 2), type := 38, pos := "law.go:89", after := #[], guard := none } : Oper)) (v := ?_) rfl (by kernel_rfl) (by kernel_rfl) (by kernel_rfl) (fun _ _ _ h => h) (Or.inl ⟨by rfl, ?hyAx5⟩) (by assumption) ?rsAx5
  case hyAx5 => (intro w8' hSw; (try dsimp only at hSw); go_simp; (first | done | with_reducible rfl))
  (try simp only [Act.put, List.setIfInBounds_toArray, List.set_cons_zero, List.set_cons_succ])
  refine wpAnyH_take (i := 6) (oi := ({ dst := some 63, op := Op.move (Operand.tmp 12), type := 3, pos := "law.go:89", after := #[], guard := none } : Oper)) (v := ?_) rfl (by kernel_rfl) (by kernel_rfl) (by kernel_rfl) (fun _ _ _ h => h) (Or.inl ⟨by rfl, ?hyAx6⟩) (by assumption) ?rsAx6
  case hyAx6 => (intro w8' hSw; (try dsimp only at hSw); go_simp; (first | done | with_reducible rfl))
  (try simp only [Act.put, List.setIfInBounds_toArray, List.set_cons_zero, List.set_cons_succ])
  refine wpAnyH_take (i := 7) (oi := ({ dst := some 64, op := Op.binOp BinOp.add 3 (Operand.tmp 63) (Operand.const (Value.int IntKind.i64 1)) 3, type := 3, pos := "law.go:89", after := #[{ on := 6, ground := Ground.data }], guard := none } : Oper)) (v := ?_) rfl (by kernel_rfl) (by kernel_rfl) (by kernel_rfl) (fun _ _ _ h => h) (Or.inl ⟨by rfl, ?hyAx7⟩) (by assumption) ?rsAx7
  case hyAx7 => (intro w8' hSw; (try dsimp only at hSw); go_simp; (first | done | with_reducible rfl))
  (try simp only [Act.put, List.setIfInBounds_toArray, List.set_cons_zero, List.set_cons_succ])
  refine wpAnyH_take (i := 8) (oi := ({ dst := some 65, op := Op.slice 38 (Operand.tmp 62) (some (Operand.tmp 64)) none none, type := 38, pos := "law.go:89", after := #[{ on := 5, ground := Ground.data }, { on := 7, ground := Ground.data }], guard := none } : Oper)) (v := ?_) rfl (by kernel_rfl) (by kernel_rfl) (by kernel_rfl) (fun _ _ _ h => h) (Or.inl ⟨by rfl, ?hyAx8⟩) (by assumption) ?rsAx8
  case hyAx8 => (intro w8' hSw; (try dsimp only at hSw); go_simp; (first | done | with_reducible rfl))
  (try simp only [Act.put, List.setIfInBounds_toArray, List.set_cons_zero, List.set_cons_succ])
  have Hd := Aside0.mk (show Below w5.heap.size w5 w5.drew from below_drew (Below.refl _ _))
  generalize w5.drew = wd at *
  refine wpAnyH_ready (rs := [0]) (by kernel_rfl) (by simp) ?_
  refine AllReadyH.cons (o := ({ dst := some 57, op := Op.buildSlice 38 0 #[], type := 38, pos := "law.go:89", after := #[], guard := none } : Oper)) rfl (fun K hK => ?_) AllReadyH.nil
  rw [if_pos (by rfl)]
  go_simp
  refine hK.out _ _ trivial (fun hHeld => ?_)
  clear hK
  (try simp only [Act.put, List.setIfInBounds_toArray, List.set_cons_zero, List.set_cons_succ])
  have hn := n_empty (base := w5.heap.size) (pick_new wd (.cells #[] 37)) Hd.out.size
  have HN := Aside0.mk hn
  have HB57 := Aside0.mk (below_alloc Hd.out (.cells #[] 37))
  clear hn
  refine wpAnyH_ready (rs := [4]) (by kernel_rfl) (by simp) ?_
  refine AllReadyH.cons (o := ({ dst := some 61, op := Op.call { callee := Callee.builtin Builtin.append, args := #[Operand.tmp 57, Operand.tmp 60], argTypes := #[38, 38] }, type := 38, pos := "law.go:89", after := #[{ on := 0, ground := Ground.data }, { on := 3, ground := Ground.data }], guard := none } : Oper)) rfl (fun K hK => ?_) AllReadyH.nil
  refine Kd.N_append_rows_step k37 (w0 := w5) w5.heap.size (by kernel_rfl) (.tmp 57) (.tmp 60) 38 37 (.agg #[.int .i64 0, .int .i64 0, .slice none 0 0, .int .i64 0, .int .i64 0, .int .i64 0, .int .i64 0, .slice none 0 0, .int .i64 0, .int .i64 0, .bool false, .int .i64 0, .int .i64 0, .bool false, .int .i64 0, .slice none 0 0, .int .i64 0, .int .i64 0, .slice none 0 0]) 216 rfl Try.underlying38 info37z rfl (by decide) (by omega) _ [] (p.l.take kk) A kk p.c (fun _ => True) (fun k => k < w5.heap.size) rfl rfl HN.out ?hF1x ?hok1x (fun _ _ => trivial) HB57.out HB57.out.size ?hl1x ?nx1x
  case hF1x => have := HFt.out; rw [List.length_take, Nat.min_eq_left (by omega)] at this; exact Kd.F_step this (fun k hk _ => HB57.out.block k hk)
  case hok1x => exact fun k hk => ⟨trivial, ok_own HN.out k hk⟩
  case hl1x => simp; omega
  intro v61 W61 hN61 hB61 hG61 _
  have HN61 := Aside0.mk hN61
  have HB61 := Aside0.mk hB61
  clear hN61 hB61 hG61
  refine hK.out _ _ trivial (fun hHeld => ?_)
  clear hK
  (try simp only [Act.put, List.setIfInBounds_toArray, List.set_cons_zero, List.set_cons_succ])
  refine wpAnyH_ready (rs := [9]) (by kernel_rfl) (by simp) ?_
  refine AllReadyH.cons (o := ({ dst := some 66, op := Op.call { callee := Callee.builtin Builtin.append, args := #[Operand.tmp 61, Operand.tmp 65], argTypes := #[38, 38] }, type := 38, pos := "law.go:89", after := #[{ on := 4, ground := Ground.data }, { on := 8, ground := Ground.data }, { on := 4, ground := Ground.chain }], guard := none } : Oper)) rfl (fun K hK => ?_) AllReadyH.nil
  refine Kd.N_append_rows_step k37 (w0 := w5) w5.heap.size (by kernel_rfl) (.tmp 61) (.tmp 65) 38 37 (.agg #[.int .i64 0, .int .i64 0, .slice none 0 0, .int .i64 0, .int .i64 0, .int .i64 0, .int .i64 0, .slice none 0 0, .int .i64 0, .int .i64 0, .bool false, .int .i64 0, .int .i64 0, .bool false, .int .i64 0, .slice none 0 0, .int .i64 0, .int .i64 0, .slice none 0 0]) 216 rfl Try.underlying38 info37z rfl (by decide) (by omega) _ ([] ++ p.l.take kk) (p.l.drop (kk + 1)) Ad (p.l.length - (kk + 1)) cd (fun _ => True) (fun k => k < w5.heap.size) rfl rfl HN61.out ?hF2x ?hok2x (fun _ _ => trivial) HB61.out HB61.out.size ?hl2x ?nx2x
  case hF2x => exact Kd.F_step HFd.out (fun k hk _ => HB61.out.block k hk)
  case hok2x => exact fun k hk => ⟨trivial, ok_own HN61.out k hk⟩
  case hl2x => simp; omega
  intro v66 W66 hN66 hB66 hG66 _
  have HN66 := Aside0.mk hN66
  have HB66 := Aside0.mk hB66
  clear hN66 hB66 hG66
  refine hK.out _ _ trivial (fun hHeld => ?_)
  clear hK
  (try simp only [Act.put, List.setIfInBounds_toArray, List.set_cons_zero, List.set_cons_succ])
  refine wpAnyH_take (i := 10) (oi := ({ dst := some 13, op := Op.assign (Operand.tmp 66), type := 38, pos := "law.go:89", after := #[{ on := 9, ground := Ground.data }, { on := 9, ground := Ground.chain }, { on := 0, ground := Ground.phase }, { on := 1, ground := Ground.phase }, { on := 2, ground := Ground.phase }, { on := 3, ground := Ground.phase }, { on := 4, ground := Ground.phase }, { on := 5, ground := Ground.phase }, { on := 6, ground := Ground.phase }, { on := 7, ground := Ground.phase }, { on := 8, ground := Ground.phase }, { on := 9, ground := Ground.phase }], guard := none } : Oper)) (v := ?_) rfl (by kernel_rfl) (by kernel_rfl) (by kernel_rfl) (fun _ _ _ h => h) (Or.inl ⟨by rfl, ?hyBx10⟩) (by assumption) ?rsBx10
  case hyBx10 => (intro w8' hSw; (try dsimp only at hSw); go_simp; (first | done | with_reducible rfl))
  (try simp only [Act.put, List.setIfInBounds_toArray, List.set_cons_zero, List.set_cons_succ])
  refine wpAnyH_done (by kernel_rfl) ?_ _
  refine NoPanic.normal ?_
  by_cases hlt : (kk : Int) + 1 < at_
  · obtain ⟨Av, cv, rfl, hlv, hCv⟩ := Kd.N_reads HN66.out
    generalize hnl : (([] ++ p.l.take kk) ++ p.l.drop (kk + 1)).length = nl at hlv hCv ⊢
    have HNL := Aside0.mk hnl
    clear hnl HN66
    have H66 := Aside0.mk (H5.out.later HB66.out)
    have HCv := Aside0.mk hCv
    have HLv := Aside0.mk hlv
    clear hCv hlv
    go_wp2_with (first
      | (with_reducible refine hd_gate 68 rfl ?_); refine hd_run rfl (v := .agg p.C0) (w1 := W66) (pick_loadRow rfl p.w.heap.size rfl 23 _ (0, 0) _ H66.out.b0 hu23 rfl hi23) ?_
      | (with_reducible refine hd_gate 69 rfl ?_); refine hd_run rfl (v := .agg p.C1) (w1 := W66) (pick_loadRow rfl (p.w.heap.size + 1) rfl 37 _ (0, 0) _ H66.out.b1 hu37 rfl hi37) ?_)
    refine (lk_pick H66.out Av cv (([] ++ p.l.take kk) ++ p.l.drop (kk + 1)) nl HNL.out.symm HCv.out HLv.out).mono ?_
    rw [alone_plain p.x0.f7 p.x0.f8 p.x0.f9 p.x1.f4 p.l kk (by omega) (by rw [HAT.out]; omega), HAT.out]
    rw [if_pos hlt, show decide (0 < at_ - 1) = true from decide_eq_true (by omega)]
    have wm : IntKind.i64.wrap (at_ - 1) = at_ - 1 := by rw [IntKind.wrap_i64] <;> omega
    have e2 : decide ((kk : Int) + 1 < at_) = true := decide_eq_true hlt
    rintro e w9 ⟨rfl, h9, _⟩
    have H9 := Aside0.mk h9
    clear h9
    go_wp2_with fail
    go_ret
    exact ⟨rfl, H9.out.below⟩
  · obtain ⟨Av, cv, rfl, hlv, hCv⟩ := Kd.N_reads HN66.out
    generalize hnl : (([] ++ p.l.take kk) ++ p.l.drop (kk + 1)).length = nl at hlv hCv ⊢
    have HNL := Aside0.mk hnl
    clear hnl HN66
    have H66 := Aside0.mk (H5.out.later HB66.out)
    have HCv := Aside0.mk hCv
    have HLv := Aside0.mk hlv
    clear hCv hlv
    go_wp2_with (first
      | (with_reducible refine hd_gate 68 rfl ?_); refine hd_run rfl (v := .agg p.C0) (w1 := W66) (pick_loadRow rfl p.w.heap.size rfl 23 _ (0, 0) _ H66.out.b0 hu23 rfl hi23) ?_
      | (with_reducible refine hd_gate 69 rfl ?_); refine hd_run rfl (v := .agg p.C1) (w1 := W66) (pick_loadRow rfl (p.w.heap.size + 1) rfl 37 _ (0, 0) _ H66.out.b1 hu37 rfl hi37) ?_)
    refine (lk_pick H66.out Av cv (([] ++ p.l.take kk) ++ p.l.drop (kk + 1)) nl HNL.out.symm HCv.out HLv.out).mono ?_
    rw [alone_plain p.x0.f7 p.x0.f8 p.x0.f9 p.x1.f4 p.l kk (by omega) (by rw [HAT.out]; omega), HAT.out]
    rw [if_neg (by omega), show decide (0 < at_) = true from decide_eq_true (by omega)]
    have e2 : decide ((kk : Int) + 1 < at_) = false := decide_eq_false (by omega)
    rintro e w9 ⟨rfl, h9, _⟩
    have H9 := Aside0.mk h9
    clear h9
    go_wp2_with fail
    go_ret
    exact ⟨rfl, H9.out.below⟩
def governorlaw19_PromoteAlone.f (a0_0 : Int) (a0_1 : Int) (a0_2 : Int) (a0_3 : Int) (a0_4 : Int) (a0_5 : Int) (a0_6 : Int) (a0_7 : Int) (a0_8 : Int) (a0_9 : Int) (a0_10 : Int) (a0_11 : Int) (a1_0 : Int) (a1_1 : Int) (l1_2 : List (S72)) (a1_3 : Int) (a1_4 : Int) (a1_5 : Int) (a1_6 : Int) (l1_7 : List (S74)) (a1_8 : Int) (a1_9 : Int) (a1_10 : Bool) (a1_11 : Int) (a1_12 : Int) (a1_13 : Bool) (a1_14 : Int) (l1_15 : List Int) (a1_16 : Int) (a1_17 : Int) (l1_18 : List (S64)) (l2 : List (S37)) (a3 : Int) : Option (Bool) := if 0 ≤ a3 ∧ a3 < 256 then some true else none
set_option maxRecDepth 100000 in
theorem governorlaw19_PromoteAlone.calls (a0_0 : Int) (a0_1 : Int) (a0_2 : Int) (a0_3 : Int) (a0_4 : Int) (a0_5 : Int) (a0_6 : Int) (a0_7 : Int) (a0_8 : Int) (a0_9 : Int) (a0_10 : Int) (a0_11 : Int) (a1_0 : Int) (a1_1 : Int) (A1_2 : Option Addr) (c1_2 : Nat) (l1_2 : List (S72)) (a1_3 : Int) (a1_4 : Int) (a1_5 : Int) (a1_6 : Int) (A1_7 : Option Addr) (c1_7 : Nat) (l1_7 : List (S74)) (a1_8 : Int) (a1_9 : Int) (a1_10 : Bool) (a1_11 : Int) (a1_12 : Int) (a1_13 : Bool) (a1_14 : Int) (A1_15 : Option Addr) (c1_15 : Nat) (l1_15 : List Int) (a1_16 : Int) (a1_17 : Int) (A1_18 : Option Addr) (c1_18 : Nat) (l1_18 : List (S64)) (A2 : Option Addr) (c2 : Nat) (l2 : List (S37)) (a3 : Int) (r : Bool) (w : World) (hr1_2 : Kd.C k72 w A1_2 l1_2.length l1_2) (hc1_2 : l1_2.length ≤ c1_2) (hr1_7 : Kd.C k74 w A1_7 l1_7.length l1_7) (hc1_7 : l1_7.length ≤ c1_7) (hr1_15 : Kd.C (Kd.int .i64) w A1_15 l1_15.length l1_15) (hc1_15 : l1_15.length ≤ c1_15) (hr1_18 : Kd.C k64 w A1_18 l1_18.length l1_18) (hc1_18 : l1_18.length ≤ c1_18) (hr2 : Kd.C k37 w A2 l2.length l2) (hc2 : l2.length ≤ c2) (h : governorlaw19_PromoteAlone.f a0_0 a0_1 a0_2 a0_3 a0_4 a0_5 a0_6 a0_7 a0_8 a0_9 a0_10 a0_11 a1_0 a1_1 l1_2 a1_3 a1_4 a1_5 a1_6 l1_7 a1_8 a1_9 a1_10 a1_11 a1_12 a1_13 a1_14 l1_15 a1_16 a1_17 l1_18 l2 a3 = some r) :
    Calls Try.prog 5 #[.agg #[.int .i64 a0_0, .int .i64 a0_1, .int .i64 a0_2, .int .i64 a0_3, .int .i64 a0_4, .int .i64 a0_5, .int .i64 a0_6, .int .i64 a0_7, .int .i64 a0_8, .int .i64 a0_9, .int .i64 a0_10, .int .i64 a0_11], .agg #[.int .i64 a1_0, .int .i64 a1_1, .slice A1_2 l1_2.length c1_2, .int .i64 a1_3, .int .i64 a1_4, .int .i64 a1_5, .int .i64 a1_6, .slice A1_7 l1_7.length c1_7, .int .i64 a1_8, .int .i64 a1_9, .bool a1_10, .int .i64 a1_11, .int .i64 a1_12, .bool a1_13, .int .i64 a1_14, .slice A1_15 l1_15.length c1_15, .int .i64 a1_16, .int .i64 a1_17, .slice A1_18 l1_18.length c1_18], .slice A2 l2.length c2, .int .u8 a3] w fun e w' => e = .returned (.bool r) ∧ Below w.heap.size w w' := by
  unfold governorlaw19_PromoteAlone.f at h
  split at h
  case isFalse => cases h
  rename_i hcond
  obtain rfl : true = r := Option.some.inj h
  exact alone_walk ⟨⟨a0_0, a0_1, a0_2, a0_3, a0_4, a0_5, a0_6, a0_7, a0_8, a0_9, a0_10, a0_11⟩, ⟨⟨a1_0, a1_1, l1_2, a1_3, a1_4, a1_5, a1_6, l1_7⟩, ⟨a1_8, a1_9, a1_10⟩, ⟨a1_11, a1_12, a1_13⟩, ⟨a1_14, l1_15, a1_16, a1_17⟩, l1_18⟩, A1_2, A1_7, A1_15, A1_18, c1_2, c1_7, c1_15, c1_18, A2, c2, l2, w⟩ A2 ⟨rfl⟩ ⟨LAt.begin ⟨⟨a0_0, a0_1, a0_2, a0_3, a0_4, a0_5, a0_6, a0_7, a0_8, a0_9, a0_10, a0_11⟩, ⟨⟨a1_0, a1_1, l1_2, a1_3, a1_4, a1_5, a1_6, l1_7⟩, ⟨a1_8, a1_9, a1_10⟩, ⟨a1_11, a1_12, a1_13⟩, ⟨a1_14, l1_15, a1_16, a1_17⟩, l1_18⟩, A1_2, A1_7, A1_15, A1_18, c1_2, c1_7, c1_15, c1_18, A2, c2, l2, w⟩ hr1_2 hc1_2 hr1_7 hc1_7 hr1_15 hc1_15 hr1_18 hc1_18 hr2 hc2⟩ a3 hcond


end Go.Proofs.Ytlenanfkphglaaa.Print
