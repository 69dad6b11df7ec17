/- Functions of the program as Lean functions, and that its calls come to them; written by a program of this claim over the kit print; Lean checks it. -/
import Derived.Test.YtlenanfkphglaaaPrint0
import Derived.Test.YtlenanfkphglaaaPrint4
import Derived.Test.YtlenanfkphglaaaPrint5
import Derived.Test.YtlenanfkphglaaaPrint8
import Derived.Test.YtlenanfkphglaaaPrint9
namespace Go.Proofs.Ytlenanfkphglaaa.Print
open Go.RowKit Go.Proofs.YtlenanfkphglaaaW.PrintWords Go.Proofs.YtlenanfkphglaaaW.PrintLast Go.Proofs.YtlenanfkphglaaaW.PrintMore
attribute [local go_sem] max2_int min2_int max_two min_two max_three min_three max_four min_four   -- for this text's walks alone
set_option linter.unusedVariables false
set_option linter.unusedSimpArgs false

/-! ### governorlaw19_right: function 11 -/
/-- May each of these sims be so. -/
def simOk (x : S37) : Bool := simB x.f0.f0 x.f0.f1 x.f0.f2 x.f0.f3 x.f0.f4 x.f0.f5 x.f0.f6 x.f0.f7 x.f1.f0 x.f1.f1 x.f1.f2 x.f2.f0 x.f2.f1 x.f2.f2 x.f3.f0 x.f3.f1 x.f3.f2 x.f3.f3 x.f4
def governorlaw19_right.f (l0 : List (S37)) : Option (Bool) := some ((l0.take 20).all simOk && decide ((l0.length : Int) < 20))
theorem right_take {l : List S37} {j : Nat} (h : j < l.length) (h2 : j < 20) : (l.take 20).drop j = rd_T37 l j :: (l.take 20).drop (j + 1) := by
  have hl : j < (l.take 20).length := by rw [List.length_take]; omega
  rw [List.drop_eq_getElem_cons hl]
  congr 1
  rw [List.getElem_take]
  unfold rd_T37
  rw [Int.toNat_natCast, List.getD_eq_getElem?_getD, List.getElem?_eq_getElem h]
  rfl
set_option maxHeartbeats 4000000 in
set_option maxRecDepth 100000 in
theorem governorlaw19_right.calls (A0 : Option Addr) (c0 : Nat) (l0 : List (S37)) (r : Bool) (w : World) (hr0 : Kd.C k37 w A0 l0.length l0) (hc0 : l0.length ≤ c0) (h : governorlaw19_right.f l0 = some r) :
    Calls Try.prog 11 #[.slice A0 l0.length c0] w fun e w' => e = .returned (.bool r) ∧ Below w.heap.size w w' := by
  have hu37 := Try.underlying37
  have hu38 := Try.underlying38
  have hi37 : (Try.prog.info? 37).map (·.size) = some 19 := by kernel_rfl
  have hl := hr0.2.1
  have HR := Aside0.mk hr0
  have H0 := Aside0.mk (show (((l0.take 20).drop 0).all simOk && decide ((l0.length : Int) < 20)) = r from Option.some.inj h)
  clear hr0 h
  go_enter Try.func11, Try.ntmps11
  go_wp2
  go_loopw [3] (fun i wr => ∃ j : Nat, j ≤ l0.length ∧ j ≤ 20 ∧ i = .int .i64 j ∧ Aside0 ((((l0.take 20).drop j).all simOk && decide ((l0.length : Int) < 20)) = r) ∧ Aside0 (Below w.heap.size w wr)) (fun i _ => 20 - (intOf i).toNat)
  case atStart => exact ⟨0, Nat.zero_le _, by omega, rfl, H0, ⟨Below.refl _ w⟩⟩
  case round =>
    clear H0
    obtain ⟨j, hj, hj2, rfl, HH, HB⟩ := hrel
    by_cases hlt : j < l0.length
    · by_cases h20 : j < 20
      · have hh := HH.out
        rw [right_take hlt h20, List.all_cons] at hh
        obtain ⟨ad, cs, rfl, _, hK, hcs⟩ := Kd.C_get (Kd.C_below HR.out HB.out) z37 (j : Int) (by omega) (by omega)
        obtain ⟨A2_, c2_, A7_, c7_, A15_, c15_, A18_, c18_, rfl, l2_, g2_, l7_, g7_, l15_, g15_, l18_, g18_⟩ := k37_open hK
        clear hK
        simp only [show l0.getD (j : Int).toNat z37 = rd_T37 l0 j from rfl] at hcs l2_ g2_ l7_ g7_ l15_ g15_ l18_ g18_
        generalize rd_T37 l0 j = x at *
        have hrng : ∀ i v, ([.int .i64 x.f0.f0, .int .i64 x.f0.f1, .slice A2_ x.f0.f2.length c2_, .int .i64 x.f0.f3, .int .i64 x.f0.f4, .int .i64 x.f0.f5, .int .i64 x.f0.f6, .slice A7_ x.f0.f7.length c7_, .int .i64 x.f1.f0, .int .i64 x.f1.f1, .bool x.f1.f2, .int .i64 x.f2.f0, .int .i64 x.f2.f1, .bool x.f2.f2, .int .i64 x.f3.f0, .slice A15_ x.f3.f1.length c15_, .int .i64 x.f3.f2, .int .i64 x.f3.f3, .slice A18_ x.f4.length c18_] : List Value)[i]? = some v → wr.cell? ((ad.add ((j : Int).toNat * 19)).add i) = some v := fun i v hi => (pick_addadd wr ad _ i).trans (hcs i v hi)
        have HRNG := Aside0.mk hrng
        clear hrng hcs
        have G2 := Aside0.mk g2_
        have G7 := Aside0.mk g7_
        have G15 := Aside0.mk g15_
        have G18 := Aside0.mk g18_
        have M2 := Aside0.mk l2_
        have M7 := Aside0.mk l7_
        have M15 := Aside0.mk l15_
        have M18 := Aside0.mk l18_
        clear g2_ g7_ g15_ g18_ l2_ l7_ l15_ l18_
        cases hb0 : simOk x
        · have HX := Aside0.mk (show false = r by rw [hb0] at hh; simpa using hh)
          have HF := Aside0.mk (show governorref18_Right.f x.f0.f0 x.f0.f1 x.f0.f2 x.f0.f3 x.f0.f4 x.f0.f5 x.f0.f6 x.f0.f7 x.f1.f0 x.f1.f1 x.f1.f2 x.f2.f0 x.f2.f1 x.f2.f2 x.f3.f0 x.f3.f1 x.f3.f2 x.f3.f3 x.f4 = some false from congrArg some hb0)
          clear hh hb0
          go_wp2_with (first
            | (with_reducible refine hd_gate 17 rfl ?_); refine hd_run rfl (v := .agg (#[.int .i64 x.f0.f0, .int .i64 x.f0.f1, .slice A2_ x.f0.f2.length c2_, .int .i64 x.f0.f3, .int .i64 x.f0.f4, .int .i64 x.f0.f5, .int .i64 x.f0.f6, .slice A7_ x.f0.f7.length c7_, .int .i64 x.f1.f0, .int .i64 x.f1.f1, .bool x.f1.f2, .int .i64 x.f2.f0, .int .i64 x.f2.f1, .bool x.f2.f2, .int .i64 x.f3.f0, .slice A15_ x.f3.f1.length c15_, .int .i64 x.f3.f2, .int .i64 x.f3.f3, .slice A18_ x.f4.length c18_])) (w1 := wr) ?hr ?_; (case hr => exact pick_load rfl rfl (pick_loadAt wr _ 37 ([.int .i64 x.f0.f0, .int .i64 x.f0.f1, .slice A2_ x.f0.f2.length c2_, .int .i64 x.f0.f3, .int .i64 x.f0.f4, .int .i64 x.f0.f5, .int .i64 x.f0.f6, .slice A7_ x.f0.f7.length c7_, .int .i64 x.f1.f0, .int .i64 x.f1.f1, .bool x.f1.f2, .int .i64 x.f2.f0, .int .i64 x.f2.f1, .bool x.f2.f2, .int .i64 x.f3.f0, .slice A15_ x.f3.f1.length c15_, .int .i64 x.f3.f2, .int .i64 x.f3.f3, .slice A18_ x.f4.length c18_]) _ HRNG.out hu37 rfl hi37))
            | (with_reducible refine hd_gate 18 rfl ?_); refine hd_call rfl (by kernel_rfl) (governorref18_Right.calls x.f0.f0 x.f0.f1 A2_ c2_ x.f0.f2 x.f0.f3 x.f0.f4 x.f0.f5 x.f0.f6 A7_ c7_ x.f0.f7 x.f1.f0 x.f1.f1 x.f1.f2 x.f2.f0 x.f2.f1 x.f2.f2 x.f3.f0 A15_ c15_ x.f3.f1 x.f3.f2 x.f3.f3 A18_ c18_ x.f4 false wr G2.out M2.out G7.out M7.out G15.out M15.out G18.out M18.out HF.out) ?_; rintro e w1 ⟨rfl, hb⟩; refine ⟨_, rfl, ?_⟩; have HB1 := Aside0.mk (below_step HB.out hb); clear hb)
          go_ret
          exact ⟨by rw [HX.out]; rfl, HB1.out⟩
        · have HX := Aside0.mk (show (((l0.take 20).drop (j + 1)).all simOk && decide ((l0.length : Int) < 20)) = r by rw [hb0, Bool.true_and] at hh; exact hh)
          have HF := Aside0.mk (show governorref18_Right.f x.f0.f0 x.f0.f1 x.f0.f2 x.f0.f3 x.f0.f4 x.f0.f5 x.f0.f6 x.f0.f7 x.f1.f0 x.f1.f1 x.f1.f2 x.f2.f0 x.f2.f1 x.f2.f2 x.f3.f0 x.f3.f1 x.f3.f2 x.f3.f3 x.f4 = some true from congrArg some hb0)
          clear hh hb0
          go_wp2_with (first
            | (with_reducible refine hd_gate 17 rfl ?_); refine hd_run rfl (v := .agg (#[.int .i64 x.f0.f0, .int .i64 x.f0.f1, .slice A2_ x.f0.f2.length c2_, .int .i64 x.f0.f3, .int .i64 x.f0.f4, .int .i64 x.f0.f5, .int .i64 x.f0.f6, .slice A7_ x.f0.f7.length c7_, .int .i64 x.f1.f0, .int .i64 x.f1.f1, .bool x.f1.f2, .int .i64 x.f2.f0, .int .i64 x.f2.f1, .bool x.f2.f2, .int .i64 x.f3.f0, .slice A15_ x.f3.f1.length c15_, .int .i64 x.f3.f2, .int .i64 x.f3.f3, .slice A18_ x.f4.length c18_])) (w1 := wr) ?hr ?_; (case hr => exact pick_load rfl rfl (pick_loadAt wr _ 37 ([.int .i64 x.f0.f0, .int .i64 x.f0.f1, .slice A2_ x.f0.f2.length c2_, .int .i64 x.f0.f3, .int .i64 x.f0.f4, .int .i64 x.f0.f5, .int .i64 x.f0.f6, .slice A7_ x.f0.f7.length c7_, .int .i64 x.f1.f0, .int .i64 x.f1.f1, .bool x.f1.f2, .int .i64 x.f2.f0, .int .i64 x.f2.f1, .bool x.f2.f2, .int .i64 x.f3.f0, .slice A15_ x.f3.f1.length c15_, .int .i64 x.f3.f2, .int .i64 x.f3.f3, .slice A18_ x.f4.length c18_]) _ HRNG.out hu37 rfl hi37))
            | (with_reducible refine hd_gate 18 rfl ?_); refine hd_call rfl (by kernel_rfl) (governorref18_Right.calls x.f0.f0 x.f0.f1 A2_ c2_ x.f0.f2 x.f0.f3 x.f0.f4 x.f0.f5 x.f0.f6 A7_ c7_ x.f0.f7 x.f1.f0 x.f1.f1 x.f1.f2 x.f2.f0 x.f2.f1 x.f2.f2 x.f3.f0 A15_ c15_ x.f3.f1 x.f3.f2 x.f3.f3 A18_ c18_ x.f4 true wr G2.out M2.out G7.out M7.out G15.out M15.out G18.out M18.out HF.out) ?_; rintro e w1 ⟨rfl, hb⟩; refine ⟨_, rfl, ?_⟩; have HB1 := Aside0.mk (below_step HB.out hb); clear hb)
          go_roundw
          case rel => exact ⟨j + 1, by omega, by omega, by simp, HX, HB1⟩
          case measure => simp [intOf]; omega
      · obtain rfl : j = 20 := by omega
        have hh := HH.out
        rw [List.drop_eq_nil_of_le (by rw [List.length_take]; omega)] at hh
        have HX := Aside0.mk (show (true && decide ((l0.length : Int) < 20)) = r from hh)
        clear hh
        go_wp2
        go_ret
        exact ⟨by rw [← HX.out, Bool.true_and]; rfl, HB.out⟩
    · obtain rfl : j = l0.length := by omega
      have hh := HH.out
      rw [List.drop_eq_nil_of_le (by rw [List.length_take]; omega)] at hh
      have HX := Aside0.mk (show (true && decide ((l0.length : Int) < 20)) = r from hh)
      clear hh
      go_wp2
      go_ret
      exact ⟨by rw [← HX.out, Bool.true_and]; rfl, HB.out⟩
def cells37 (x : S37) (A2 A7 A15 A18 : Option Addr) (c2 c7 c15 c18 : Nat) : List Value := [.int .i64 x.f0.f0, .int .i64 x.f0.f1, .slice A2 x.f0.f2.length c2, .int .i64 x.f0.f3, .int .i64 x.f0.f4, .int .i64 x.f0.f5, .int .i64 x.f0.f6, .slice A7 x.f0.f7.length c7, .int .i64 x.f1.f0, .int .i64 x.f1.f1, .bool x.f1.f2, .int .i64 x.f2.f0, .int .i64 x.f2.f1, .bool x.f2.f2, .int .i64 x.f3.f0, .slice A15 x.f3.f1.length c15, .int .i64 x.f3.f2, .int .i64 x.f3.f3, .slice A18 x.f4.length c18]
/-- What a law of promote's is asked, and where it lies. -/
structure LP where
  (x0 : S23) (x1 : S37) (A2 A7 A15 A18 : Option Addr) (c2 c7 c15 c18 : Nat) (A : Option Addr) (c : Nat) (l : List S37) (w : World)
def LP.C0 (p : LP) : Array Value := #[.int .i64 p.x0.f0, .int .i64 p.x0.f1, .int .i64 p.x0.f2, .int .i64 p.x0.f3, .int .i64 p.x0.f4, .int .i64 p.x0.f5, .int .i64 p.x0.f6, .int .i64 p.x0.f7, .int .i64 p.x0.f8, .int .i64 p.x0.f9, .int .i64 p.x0.f10, .int .i64 p.x0.f11]
def LP.C1 (p : LP) : Array Value := (cells37 p.x1 p.A2 p.A7 p.A15 p.A18 p.c2 p.c7 p.c15 p.c18).toArray
structure LAt (p : LP) (W : World) : Prop where
  b0 : W.heap[p.w.heap.size]? = some (.cells p.C0 23 (0, 0))
  b1 : W.heap[p.w.heap.size + 1]? = some (.cells p.C1 37 (0, 0))
  r2 : Kd.C k72 W p.A2 p.x1.f0.f2.length p.x1.f0.f2
  m2 : p.x1.f0.f2.length ≤ p.c2
  r7 : Kd.C k74 W p.A7 p.x1.f0.f7.length p.x1.f0.f7
  m7 : p.x1.f0.f7.length ≤ p.c7
  r15 : Kd.C (Kd.int .i64) W p.A15 p.x1.f3.f1.length p.x1.f3.f1
  m15 : p.x1.f3.f1.length ≤ p.c15
  r18 : Kd.C k64 W p.A18 p.x1.f4.length p.x1.f4
  m18 : p.x1.f4.length ≤ p.c18
  rl : Kd.C k37 W p.A p.l.length p.l
  ml : p.l.length ≤ p.c
  below : Below p.w.heap.size p.w W
theorem LAt.later {p : LP} {W W' : World} (h : LAt p W) (hb : Below W.heap.size W W') : LAt p W' :=
  ⟨hd_later h.b0 hb, hd_later h.b1 hb, Kd.C_below h.r2 hb, h.m2, Kd.C_below h.r7 hb, h.m7, Kd.C_below h.r15 hb, h.m15, Kd.C_below h.r18 hb, h.m18, Kd.C_below h.rl hb, h.ml, below_step h.below hb⟩
theorem LAt.alloc {p : LP} {W : World} (h : LAt p W) (o : Obj) : LAt p (W.alloc o) := h.later (below_alloc (Below.refl _ _) o)
theorem LAt.begin (p : LP) (hr2 : Kd.C k72 p.w p.A2 p.x1.f0.f2.length p.x1.f0.f2) (hc2 : p.x1.f0.f2.length ≤ p.c2) (hr7 : Kd.C k74 p.w p.A7 p.x1.f0.f7.length p.x1.f0.f7) (hc7 : p.x1.f0.f7.length ≤ p.c7) (hr15 : Kd.C (Kd.int .i64) p.w p.A15 p.x1.f3.f1.length p.x1.f3.f1) (hc15 : p.x1.f3.f1.length ≤ p.c15) (hr18 : Kd.C k64 p.w p.A18 p.x1.f4.length p.x1.f4) (hc18 : p.x1.f4.length ≤ p.c18) (hrl : Kd.C k37 p.w p.A p.l.length p.l) (hcl : p.l.length ≤ p.c) :
    LAt p ((p.w.alloc (.cells p.C0 23)).alloc (.cells p.C1 37)) := by
  have e0 := pick_new p.w (.cells p.C0 23)
  have e1 := pick_new (p.w.alloc (.cells p.C0 23)) (.cells p.C1 37)
  simp only [World.size_alloc] at e1
  have hb : Below p.w.heap.size p.w ((p.w.alloc (.cells p.C0 23)).alloc (.cells p.C1 37)) := below_alloc (below_alloc (Below.refl _ _) _) _
  refine ⟨?_, e1, Kd.C_below hr2 hb, hc2, Kd.C_below hr7 hb, hc7, Kd.C_below hr15 hb, hc15, Kd.C_below hr18 hb, hc18, Kd.C_below hrl hb, hcl, hb⟩
  rw [Below.heap_alloc _ _ _ (by simp)]; exact e0
def LP.conf (p : LP) : Bool := W.confB p.x0.f0 p.x0.f1 p.x0.f2 p.x0.f3 p.x0.f4 p.x0.f5 p.x0.f6 p.x0.f7 p.x0.f8 p.x0.f9 p.x0.f10 p.x0.f11
def LP.live (p : LP) : Bool := simOk p.x1
def LP.all (p : LP) : Bool := (p.l.take 20).all simOk && decide ((p.l.length : Int) < 20)
theorem lk_head {p : LP} {W : World} (h : LAt p W) : Calls Try.prog 8 #[] W fun e W' => e = .returned (.bool true) ∧ LAt p W' :=
  (governorlaw19_head.calls true W rfl).mono fun _ _ q => ⟨q.1, h.later q.2⟩
theorem lk_conf {p : LP} {W : World} (h : LAt p W) : Calls Try.prog 9 #[.agg p.C0] W fun e W' => e = .returned (.bool p.conf) ∧ LAt p W' :=
  (governorref09_Conf.calls p.x0.f0 p.x0.f1 p.x0.f2 p.x0.f3 p.x0.f4 p.x0.f5 p.x0.f6 p.x0.f7 p.x0.f8 p.x0.f9 p.x0.f10 p.x0.f11 p.conf W rfl).mono fun _ _ q => ⟨q.1, h.later q.2⟩
theorem lk_live {p : LP} {W : World} (h : LAt p W) : Calls Try.prog 10 #[.agg p.C1] W fun e W' => e = .returned (.bool p.live) ∧ LAt p W' :=
  (governorref18_Right.calls p.x1.f0.f0 p.x1.f0.f1 p.A2 p.c2 p.x1.f0.f2 p.x1.f0.f3 p.x1.f0.f4 p.x1.f0.f5 p.x1.f0.f6 p.A7 p.c7 p.x1.f0.f7 p.x1.f1.f0 p.x1.f1.f1 p.x1.f1.f2 p.x1.f2.f0 p.x1.f2.f1 p.x1.f2.f2 p.x1.f3.f0 p.A15 p.c15 p.x1.f3.f1 p.x1.f3.f2 p.x1.f3.f3 p.A18 p.c18 p.x1.f4 p.live W h.r2 h.m2 h.r7 h.m7 h.r15 h.m15 h.r18 h.m18 rfl).mono fun _ _ q => ⟨q.1, h.later q.2⟩
theorem lk_all {p : LP} {W : World} (h : LAt p W) : Calls Try.prog 11 #[.slice p.A p.l.length p.c] W fun e W' => e = .returned (.bool p.all) ∧ LAt p W' :=
  (governorlaw19_right.calls p.A p.c p.l p.all W h.rl h.ml rfl).mono fun _ _ q => ⟨q.1, h.later q.2⟩
theorem lk_pick {p : LP} {W : World} (h : LAt p W) (A : Option Addr) (c : Nat) (l : List S37) (n : Nat) (hn : n = l.length) (hr : Kd.C k37 W A n l) (hc : n ≤ c) :
    Calls Try.prog 12 #[.agg p.C0, .agg p.C1, .slice A n c] W fun e W' => e = .returned (.tuple #[.int .i64 (pickF p.x0.f7 p.x0.f8 p.x0.f9 p.x1.f4 l), .bool (decide (0 < pickF p.x0.f7 p.x0.f8 p.x0.f9 p.x1.f4 l))]) ∧ LAt p W' ∧ Below W.heap.size W W' := by
  subst hn
  exact (promote_Pick.calls p.x0.f0 p.x0.f1 p.x0.f2 p.x0.f3 p.x0.f4 p.x0.f5 p.x0.f6 p.x0.f7 p.x0.f8 p.x0.f9 p.x0.f10 p.x0.f11 p.x1.f0.f0 p.x1.f0.f1 p.A2 p.c2 p.x1.f0.f2 p.x1.f0.f3 p.x1.f0.f4 p.x1.f0.f5 p.x1.f0.f6 p.A7 p.c7 p.x1.f0.f7 p.x1.f1.f0 p.x1.f1.f1 p.x1.f1.f2 p.x1.f2.f0 p.x1.f2.f1 p.x1.f2.f2 p.x1.f3.f0 p.A15 p.c15 p.x1.f3.f1 p.x1.f3.f2 p.x1.f3.f3 p.A18 p.c18 p.x1.f4 A c l _ _ W h.r2 h.m2 h.r7 h.m7 h.r15 h.m15 h.r18 h.m18 hr hc rfl).mono fun _ _ q => ⟨q.1, h.later q.2, q.2⟩
/-- An element of the row, opened in a world. -/
structure EAt (p : LP) (W : World) (i : Nat) (ad : Addr) (A2 A7 A15 A18 : Option Addr) (c2 c7 c15 c18 : Nat) : Prop where
  hA : p.A = some ad
  cells : ∀ j v, (cells37 (rd_T37 p.l i) A2 A7 A15 A18 c2 c7 c15 c18)[j]? = some v → W.cell? ((ad.add (i * 19)).add j) = some v
  r2 : Kd.C k72 W A2 (rd_T37 p.l i).f0.f2.length (rd_T37 p.l i).f0.f2
  m2 : (rd_T37 p.l i).f0.f2.length ≤ c2
  r7 : Kd.C k74 W A7 (rd_T37 p.l i).f0.f7.length (rd_T37 p.l i).f0.f7
  m7 : (rd_T37 p.l i).f0.f7.length ≤ c7
  r15 : Kd.C (Kd.int .i64) W A15 (rd_T37 p.l i).f3.f1.length (rd_T37 p.l i).f3.f1
  m15 : (rd_T37 p.l i).f3.f1.length ≤ c15
  r18 : Kd.C k64 W A18 (rd_T37 p.l i).f4.length (rd_T37 p.l i).f4
  m18 : (rd_T37 p.l i).f4.length ≤ c18
theorem EAt.later {p : LP} {W W' : World} {i : Nat} {ad : Addr} {A2 A7 A15 A18 : Option Addr} {c2 c7 c15 c18 : Nat} (h : EAt p W i ad A2 A7 A15 A18 c2 c7 c15 c18) (hb : Below W.heap.size W W') : EAt p W' i ad A2 A7 A15 A18 c2 c7 c15 c18 :=
  ⟨h.hA, fun j v e => (hb.cell (World.block_lt_of_cell? W _ (h.cells j v e))).trans (h.cells j v e), Kd.C_below h.r2 hb, h.m2, Kd.C_below h.r7 hb, h.m7, Kd.C_below h.r15 hb, h.m15, Kd.C_below h.r18 hb, h.m18⟩
theorem LAt.elt {p : LP} {W : World} (h : LAt p W) (i : Nat) (hi : i < p.l.length) : ∃ ad A2 A7 A15 A18 c2 c7 c15 c18, EAt p W i ad A2 A7 A15 A18 c2 c7 c15 c18 := by
  obtain ⟨ad, cs, e, _, hK, hcs⟩ := Kd.C_get h.rl z37 (i : Int) (by omega) (by omega)
  obtain ⟨A2_, c2_, A7_, c7_, A15_, c15_, A18_, c18_, rfl, l2_, g2_, l7_, g7_, l15_, g15_, l18_, g18_⟩ := k37_open hK
  simp only [show p.l.getD (i : Int).toNat z37 = rd_T37 p.l i from rfl] at hcs l2_ g2_ l7_ g7_ l15_ g15_ l18_ g18_
  rw [Int.toNat_natCast] at hcs
  exact ⟨ad, A2_, A7_, A15_, A18_, c2_, c7_, c15_, c18_, e, fun j v hj => (pick_addadd W ad _ j).trans (hcs j v hj), g2_, l2_, g7_, l7_, g15_, l15_, g18_, l18_⟩
theorem EAt.at {p : LP} {W : World} {i : Nat} {ad : Addr} {A2 A7 A15 A18 : Option Addr} {c2 c7 c15 c18 : Nat} (h : EAt p W i ad A2 A7 A15 A18 c2 c7 c15 c18) (j : Nat) (v : Value) (hj : (cells37 (rd_T37 p.l i) A2 A7 A15 A18 c2 c7 c15 c18)[j]? = some v) (h0 : 0 < j) : W.cell? ⟨(ad.add (i * 19)).block, (ad.add (i * 19)).off + j, none⟩ = some v := by
  rw [← add_field _ _ j h0, ← pick_addadd]
  exact (h.cells j v hj)
theorem EAt.at0 {p : LP} {W : World} {i : Nat} {ad : Addr} {A2 A7 A15 A18 : Option Addr} {c2 c7 c15 c18 : Nat} (h : EAt p W i ad A2 A7 A15 A18 c2 c7 c15 c18) : W.cell? (ad.add (i * 19)) = some (.int .i64 (rd_T37 p.l i).f0.f0) := by
  have := h.cells 0 _ rfl
  rwa [pick_addadd, Nat.add_zero] at this


/-! ### governorref17_Bad: function 14 -/
theorem badF_wrap (l : List S64) : wrap64 (badF l) = badF l := by
  rcases List.eq_nil_or_concat l with rfl | ⟨l, x, rfl⟩
  · show wrap64 0 = 0
    unfold wrap64; omega
  · rw [List.concat_eq_append, badF_snoc]; generalize badF l + _ = z; unfold wrap64; omega
def governorref17_Bad.f (l0 : List (S64)) : Option (Int) := some (badF l0)
set_option maxHeartbeats 1000000 in
theorem governorref17_Bad.calls (A0 : Option Addr) (c0 : Nat) (l0 : List (S64)) (r : Int) (w : World) (hr0 : Kd.C k64 w A0 l0.length l0) (hc0 : l0.length ≤ c0) (h : governorref17_Bad.f l0 = some r) :
    Calls Try.prog 14 #[.slice A0 l0.length c0] w fun e w' => e = .returned (.int .i64 r) ∧ Drawn0 w w' := by
  obtain rfl := Option.some.inj h
  have hu := Try.underlying64
  have hl := hr0.2.1
  have HR := Aside0.mk hr0
  clear hr0 h
  go_enter Try.func14, Try.ntmps14
  go_wp2
  go_loopw [3, 4] (fun s i wr => ∃ k : Nat, k ≤ l0.length ∧ i = .int .i64 k ∧ s = .int .i64 (badF (l0.take k)) ∧ wr = w) (fun _ i _ => l0.length - (intOf i).toNat)
  case atStart => exact ⟨0, Nat.zero_le _, rfl, rfl, rfl⟩
  case round =>
    obtain ⟨k, hk, rfl, rfl, rfl⟩ := hrel
    by_cases hlt : k < l0.length
    · obtain ⟨ad, rfl, hc1, hc2⟩ := at_T64 HR.out (k : Int) (by omega) (by omega)
      have HS := Aside0.mk (badF_snoc (l0.take k) (rd_T64 l0 k))
      have HT := Aside0.mk (take_rd64 l0 k hlt)
      rw [Int.toNat_natCast] at hc1 hc2
      have HW := Aside0.mk (badF_wrap (l0.take k))
      generalize rd_T64 l0 k = x at *
      generalize badF (l0.take k) = s at *
      cases hx : x.f1
      · rw [hx] at hc2
        go_wp2
        go_roundw
        case rel => exact ⟨k + 1, by omega, by go_num, by rw [HT.out, HS.out, hx, if_neg (by simp), Int.add_zero, HW.out], by first | rfl | trivial⟩
        case measure => simp [intOf]; omega
      · rw [hx] at hc2
        go_wp2
        go_roundw
        case rel => exact ⟨k + 1, by omega, by go_num, by rw [HT.out, HS.out, hx, if_pos rfl], by first | rfl | trivial⟩
        case measure => simp [intOf]; omega
    · have HT := Aside0.mk (show l0.take k = l0 from List.take_of_length_le (by omega))
      go_wp2
      go_ret
      exact ⟨by rw [HT.out]; rfl, Drawn0.refl _⟩


/-! ### governorref17_Cost: function 15 -/
def governorref17_Cost.f (l0 : List (S64)) : Option (Int) := some (costF l0)
set_option maxHeartbeats 1000000 in
theorem governorref17_Cost.calls (A0 : Option Addr) (c0 : Nat) (l0 : List (S64)) (r : Int) (w : World) (hr0 : Kd.C k64 w A0 l0.length l0) (hc0 : l0.length ≤ c0) (h : governorref17_Cost.f l0 = some r) :
    Calls Try.prog 15 #[.slice A0 l0.length c0] w fun e w' => e = .returned (.int .i64 r) ∧ Drawn0 w w' := by
  obtain rfl := Option.some.inj h
  have hu := Try.underlying64
  have hl := hr0.2.1
  have HR := Aside0.mk hr0
  clear hr0 h
  go_enter Try.func15, Try.ntmps15
  go_wp2
  go_loopw [3, 4] (fun s i wr => ∃ k : Nat, k ≤ l0.length ∧ i = .int .i64 k ∧ s = .int .i64 (costF (l0.take k)) ∧ wr = w) (fun _ i _ => l0.length - (intOf i).toNat)
  case atStart => exact ⟨0, Nat.zero_le _, rfl, rfl, rfl⟩
  case round =>
    obtain ⟨k, hk, rfl, rfl, rfl⟩ := hrel
    by_cases hlt : k < l0.length
    · obtain ⟨ad, rfl, hc1, hc2⟩ := at_T64 HR.out (k : Int) (by omega) (by omega)
      have HS := Aside0.mk (costF_snoc (l0.take k) (rd_T64 l0 k))
      have HT := Aside0.mk (take_rd64 l0 k hlt)
      rw [Int.toNat_natCast] at hc1 hc2
      generalize rd_T64 l0 k = x at *
      generalize costF (l0.take k) = s at *
      go_wp2
      go_roundw
      case rel => exact ⟨k + 1, by omega, by go_num, by rw [HT.out, HS.out], by first | rfl | trivial⟩
      case measure => simp [intOf]; omega
    · have HT := Aside0.mk (show l0.take k = l0 from List.take_of_length_le (by omega))
      go_wp2
      go_ret
      exact ⟨by rw [HT.out]; rfl, Drawn0.refl _⟩


/-! ### governorlaw19_PromoteGuard: function 4 -/
theorem lq_cost {A : Option Addr} {c : Nat} {l : List S64} {W : World} (hr : Kd.C k64 W A l.length l) (hc : l.length ≤ c) (n : Nat) : Calls Try.prog 15 #[.slice A l.length c] (W.drewN n) fun e W' => e = .returned (.int .i64 (costF l)) ∧ ∃ m, W' = W.drewN m :=
  Calls.quiet_of ((governorref17_Cost.calls A c l _ _ (Kd.C_drewN hr n) hc rfl).mono fun _ _ q => ⟨q.1, q.2.out⟩)
theorem lq_bad {A : Option Addr} {c : Nat} {l : List S64} {W : World} (hr : Kd.C k64 W A l.length l) (hc : l.length ≤ c) (n : Nat) : Calls Try.prog 14 #[.slice A l.length c] (W.drewN n) fun e W' => e = .returned (.int .i64 (badF l)) ∧ ∃ m, W' = W.drewN m :=
  Calls.quiet_of ((governorref17_Bad.calls A c l _ _ (Kd.C_drewN hr n) hc rfl).mono fun _ _ q => ⟨q.1, q.2.out⟩)
theorem lq_below {W : World} (n : Nat) : Below W.heap.size W (W.drewN n) := pw_below_drewN (Below.refl _ _) n
theorem wrapEq19 (x : Int) : IntKind.i64.wrap x = wrap64 x := by rw [IntKind.wrap_i64, wrap64]
def LP.at_ (p : LP) : Int := pickF p.x0.f7 p.x0.f8 p.x0.f9 p.x1.f4 p.l
def LP.may (p : LP) (i : Nat) : Bool := beats p.x0.f7 p.x0.f8 p.x0.f9 p.x1.f4 p.l i
def GuardOK (p : LP) : Prop := ∀ i, i < p.l.length → (p.may i = false → (i : Int) + 1 ≠ p.at_) ∧ (p.may i = true → 0 < p.at_ ∧ costF (rd_T37 p.l (p.at_ - 1)).f4 ≤ costF (rd_T37 p.l i).f4 ∧ ((i : Int) + 1 < p.at_ → costF (rd_T37 p.l i).f4 ≠ costF (rd_T37 p.l (p.at_ - 1)).f4))
set_option maxRecDepth 100000 in
set_option maxHeartbeats 16000000 in
theorem guard_walk (p : LP) (A : Option Addr) (HA : Aside0 (p.A = A)) (HB : Aside0 (LAt p ((p.w.alloc (.cells p.C0 23)).alloc (.cells p.C1 37)))) (HG : Aside0 (p.conf = true → p.live = true → p.all = true → GuardOK p)) :
    Calls Try.prog 4 #[.agg p.C0, .agg p.C1, .slice A p.l.length p.c] p.w fun e w' => e = .returned (.bool true) ∧ Below p.w.heap.size p.w w' := by
  have hu23 := Try.underlying23
  have hu37 := Try.underlying37
  have hu38 := Try.underlying38
  have hm : Try.prog.follows .mixedOrders = true := by kernel_rfl
  have hi23 : (Try.prog.info? 23).map (·.size) = some 12 := by kernel_rfl
  have hi37 : (Try.prog.info? 37).map (·.size) = some 19 := by kernel_rfl
  go_enter Try.func4, Try.ntmps4
  go_wp2_with fail
  refine (lk_head HB.out).mono ?_
  rintro e w1 ⟨rfl, h1⟩
  have H1 := Aside0.mk h1
  clear h1 HB
  go_wp2_with (first
    | (with_reducible refine hd_gate 14 rfl ?_); refine hd_run rfl (v := .agg p.C0) (w1 := w1) (pick_loadRow rfl p.w.heap.size rfl 23 _ (0, 0) _ H1.out.b0 hu23 rfl hi23) ?_)
  refine (lk_conf H1.out).mono ?_
  rintro e w2 ⟨rfl, h2⟩
  have H2 := Aside0.mk h2
  clear h2 H1
  cases hc : p.conf
  · go_wp2_with fail
    go_ret
    exact ⟨rfl, H2.out.below⟩
  have HC := Aside0.mk hc
  clear hc
  go_wp2_with (first
    | (with_reducible refine hd_gate 18 rfl ?_); refine hd_run rfl (v := .agg p.C1) (w1 := w2) (pick_loadRow rfl (p.w.heap.size + 1) rfl 37 _ (0, 0) _ H2.out.b1 hu37 rfl hi37) ?_)
  refine (lk_live H2.out).mono ?_
  rintro e w3 ⟨rfl, h3⟩
  have H3 := Aside0.mk h3
  clear h3 H2
  cases hc : p.live
  · go_wp2_with fail
    go_ret
    exact ⟨rfl, H3.out.below⟩
  have HL0 := Aside0.mk hc
  clear hc
  go_wp2_with fail
  refine (show Calls Try.prog 11 #[.slice A p.l.length p.c] w3 _ from HA.out ▸ lk_all H3.out).mono ?_
  rintro e w4 ⟨rfl, h4⟩
  have H4 := Aside0.mk h4
  clear h4 H3
  cases hc : p.all
  · go_wp2_with fail
    go_ret
    exact ⟨rfl, H4.out.below⟩
  replace HG := Aside0.mk (HG.out HC.out HL0.out hc)
  clear hc HC HL0
  go_wp2_with (first
    | (with_reducible refine hd_gate 29 rfl ?_); refine hd_run rfl (v := .agg p.C0) (w1 := w4) (pick_loadRow rfl p.w.heap.size rfl 23 _ (0, 0) _ H4.out.b0 hu23 rfl hi23) ?_
    | (with_reducible refine hd_gate 30 rfl ?_); refine hd_run rfl (v := .agg p.C1) (w1 := w4) (pick_loadRow rfl (p.w.heap.size + 1) rfl 37 _ (0, 0) _ H4.out.b1 hu37 rfl hi37) ?_)
  refine (lk_pick H4.out A p.c p.l _ rfl (HA.out ▸ H4.out.rl) H4.out.ml).mono ?_
  rintro e w5 ⟨rfl, h5, _⟩
  have H5 := Aside0.mk h5
  clear h5 H4
  have hin : 0 ≤ p.at_ ∧ p.at_ ≤ p.l.length := pickFold_in _ _
  rw [show pickF p.x0.f7 p.x0.f8 p.x0.f9 p.x1.f4 p.l = p.at_ from rfl]
  have hmax : p.l.length ≤ 9223372036854775807 := H5.out.rl.2.1
  generalize hat : p.at_ = at_ at *
  have HAT := Aside0.mk hat
  clear hat
  generalize his : decide (0 < at_) = is_ at *
  have HIS := Aside0.mk his
  clear his
  go_upto_region 5 with fail
  go_cut [53] from 35 to 53 (fun v53 wc => v53 = .bool false ∧ wc = w5)
  case first =>
    by_cases hz : at_ = 0
    · subst hz
      obtain rfl : false = is_ := by rw [← HIS.out]; rfl
      go_wp2_with fail
      go_meet
      case rel => exact ⟨rfl, rfl⟩
    · obtain rfl : true = is_ := by rw [← HIS.out]; exact (decide_eq_true (by omega)).symm
      have b2 : decide (at_ < 1) = false := decide_eq_false (by omega)
      have b3 : decide ((p.l.length : Int) < at_) = false := decide_eq_false (by omega)
      go_wp2_with fail
      go_meet
      case rel => exact ⟨rfl, rfl⟩
  obtain ⟨rfl, rfl⟩ := hcut
  go_wp2_with fail
  go_loopw [10] (fun i wr => ∃ k : Nat, k ≤ p.l.length ∧ i = .int .i64 k ∧ Aside0 (LAt p wr)) (fun i _ => p.l.length - (intOf i).toNat)
  case atStart => exact ⟨0, Nat.zero_le _, rfl, H5⟩
  case round =>
    clear H5
    obtain ⟨k, hk, rfl, HL⟩ := hrel
    by_cases hlt : k < p.l.length
    · obtain ⟨ad, A2, A7, A15, A18, c2, c7', c15, c18, hE⟩ := HL.out.elt k hlt
      obtain rfl : some ad = A := hE.hA.symm.trans HA.out
      have HE := Aside0.mk hE
      have dm := hE.at 18 _ rfl (by decide)
      have ck := hE.at0
      have c7 : wr.cell? ⟨p.w.heap.size, 7, none⟩ = some (.int .i64 p.x0.f7) := pick_cell HL.out.b0 7 rfl
      have c8 : wr.cell? ⟨p.w.heap.size, 8, none⟩ = some (.int .i64 p.x0.f8) := pick_cell HL.out.b0 8 rfl
      have c9 : wr.cell? ⟨p.w.heap.size, 9, none⟩ = some (.int .i64 p.x0.f9) := pick_cell HL.out.b0 9 rfl
      have cl : wr.cell? ⟨p.w.heap.size + 1, 18, none⟩ = some (.slice p.A18 p.x1.f4.length p.c18) := pick_cell HL.out.b1 18 rfl
      clear hE
      have wk : IntKind.i64.wrap ((k : Int) + 1) = (k : Int) + 1 := by rw [IntKind.wrap_i64] <;> omega
      have wk' : wrap64 ((k : Int) + 1) = (k : Int) + 1 := by rw [← wrapEq19]; exact wk
      go_upto_region 11 with fail
      go_cut [12] from 54 to 150 (fun v12 wc => v12 = .bool (p.may k) ∧ Aside0 (Below wr.heap.size wr wc))
      case first =>
        by_cases q0 : (rd_T37 p.l k).f0.f0 = 0
        · have f0 : ((rd_T37 p.l k).f0.f0 != 0) = false := by simp [q0]
          have hmay : p.may k = false := by unfold LP.may beats betterF; simp [q0]
          have HM := Aside0.mk hmay
          clear hmay q0
          go_quiet (first | with_reducible exact lq_bad HE.out.r18 HE.out.m18 _ | with_reducible exact lq_cost HE.out.r18 HE.out.m18 _ | with_reducible exact lq_cost HL.out.r18 HL.out.m18 _)
          go_wp2_with fail
          go_meet
          case rel => exact ⟨by rw [HM.out], ⟨lq_below _⟩⟩
        by_cases q1 : (p.x1.f4.length : Int) = p.x0.f7
        rotate_left
        · have f0 : ((rd_T37 p.l k).f0.f0 != 0) = true := by simp [q0]
          have f1 : ((p.x1.f4.length : Int) == p.x0.f7) = false := by simp [q1]
          have hmay : p.may k = false := by unfold LP.may beats betterF; simp [q0, q1]
          have HM := Aside0.mk hmay
          clear hmay q0 q1
          go_quiet (first | with_reducible exact lq_bad HE.out.r18 HE.out.m18 _ | with_reducible exact lq_cost HE.out.r18 HE.out.m18 _ | with_reducible exact lq_cost HL.out.r18 HL.out.m18 _)
          go_wp2_with fail
          go_meet
          case rel => exact ⟨by rw [HM.out], ⟨lq_below _⟩⟩
        by_cases q2 : ((rd_T37 p.l k).f4.length : Int) = p.x0.f7
        rotate_left
        · have f0 : ((rd_T37 p.l k).f0.f0 != 0) = true := by simp [q0]
          have f1 : ((p.x1.f4.length : Int) == p.x0.f7) = true := by simp [q1]
          have f2 : (((rd_T37 p.l k).f4.length : Int) == p.x0.f7) = false := by simp [q2]
          have hmay : p.may k = false := by unfold LP.may beats betterF; simp [q0, q1, q2]
          have HM := Aside0.mk hmay
          clear hmay q0 q1 q2
          go_quiet (first | with_reducible exact lq_bad HE.out.r18 HE.out.m18 _ | with_reducible exact lq_cost HE.out.r18 HE.out.m18 _ | with_reducible exact lq_cost HL.out.r18 HL.out.m18 _)
          go_wp2_with fail
          go_meet
          case rel => exact ⟨by rw [HM.out], ⟨lq_below _⟩⟩
        by_cases q3 : badF (rd_T37 p.l k).f4 ≤ p.x0.f9
        rotate_left
        · have f0 : ((rd_T37 p.l k).f0.f0 != 0) = true := by simp [q0]
          have f1 : ((p.x1.f4.length : Int) == p.x0.f7) = true := by simp [q1]
          have f2 : (((rd_T37 p.l k).f4.length : Int) == p.x0.f7) = true := by simp [q2]
          have f3 : decide (badF (rd_T37 p.l k).f4 ≤ p.x0.f9) = false := by simp [q3]
          have hmay : p.may k = false := by unfold LP.may beats betterF; simp [q0, q1, q2, q3]
          have HM := Aside0.mk hmay
          clear hmay q0 q1 q2 q3
          go_quiet (first | with_reducible exact lq_bad HE.out.r18 HE.out.m18 _ | with_reducible exact lq_cost HE.out.r18 HE.out.m18 _ | with_reducible exact lq_cost HL.out.r18 HL.out.m18 _)
          go_wp2_with fail
          go_meet
          case rel => exact ⟨by rw [HM.out], ⟨lq_below _⟩⟩
        by_cases q4 : wrap64 (costF (rd_T37 p.l k).f4 + p.x0.f8) ≤ costF p.x1.f4
        rotate_left
        · have f0 : ((rd_T37 p.l k).f0.f0 != 0) = true := by simp [q0]
          have f1 : ((p.x1.f4.length : Int) == p.x0.f7) = true := by simp [q1]
          have f2 : (((rd_T37 p.l k).f4.length : Int) == p.x0.f7) = true := by simp [q2]
          have f3 : decide (badF (rd_T37 p.l k).f4 ≤ p.x0.f9) = true := by simp [q3]
          have f4 : decide (wrap64 (costF (rd_T37 p.l k).f4 + p.x0.f8) ≤ costF p.x1.f4) = false := decide_eq_false q4
          have hmay : p.may k = false := by unfold LP.may beats betterF; simp [q0, q1, q2, q3, q4]
          have HM := Aside0.mk hmay
          clear hmay q0 q1 q2 q3 q4
          go_quiet (first | with_reducible exact lq_bad HE.out.r18 HE.out.m18 _ | with_reducible exact lq_cost HE.out.r18 HE.out.m18 _ | with_reducible exact lq_cost HL.out.r18 HL.out.m18 _)
          go_wp2_with fail
          go_meet
          case rel => exact ⟨by rw [HM.out], ⟨lq_below _⟩⟩
        have f0 : ((rd_T37 p.l k).f0.f0 != 0) = true := by simp [q0]
        have f1 : ((p.x1.f4.length : Int) == p.x0.f7) = true := by simp [q1]
        have f2 : (((rd_T37 p.l k).f4.length : Int) == p.x0.f7) = true := by simp [q2]
        have f3 : decide (badF (rd_T37 p.l k).f4 ≤ p.x0.f9) = true := by simp [q3]
        have f4 : decide (wrap64 (costF (rd_T37 p.l k).f4 + p.x0.f8) ≤ costF p.x1.f4) = true := decide_eq_true q4
        have hmay : p.may k = true := by unfold LP.may beats betterF; simp [q0, q1, q2, q3, q4]
        have HM := Aside0.mk hmay
        clear hmay q0 q1 q2 q3 q4
        go_quiet (first | with_reducible exact lq_bad HE.out.r18 HE.out.m18 _ | with_reducible exact lq_cost HE.out.r18 HE.out.m18 _ | with_reducible exact lq_cost HL.out.r18 HL.out.m18 _)
        go_wp2_with fail
        go_meet
        case rel => exact ⟨by rw [HM.out], ⟨lq_below _⟩⟩
      clear dm ck c7 c8 c9 cl
      obtain ⟨rfl, HB⟩ := hcut
      have HL5 := Aside0.mk (HL.out.later HB.out)
      have HE5 := Aside0.mk (HE.out.later HB.out)
      clear HL HE HB
      cases hmay : p.may k
      · have e1 : ((k : Int) + 1 == at_) = false := beq_eq_false_iff_ne.2 (by rw [← HAT.out]; exact (HG.out k hlt).1 hmay)
        clear hmay
        go_wp2_with fail
        go_quiet (fail)
        go_wp2_with fail
        go_roundw
        case rel => exact ⟨k + 1, by omega, by simp, Aside0.mk (HL5.out.later (lq_below _))⟩
        case measure => simp [intOf]; omega
      · obtain ⟨g1, g2, g3⟩ := (HG.out k hlt).2 hmay
        clear hmay
        rw [HAT.out] at g1 g2 g3
        obtain ⟨j, rfl⟩ : ∃ j : Nat, at_ = (j : Int) + 1 := ⟨(at_ - 1).toNat, by omega⟩
        obtain rfl : true = is_ := by rw [← HIS.out]; exact (decide_eq_true (by omega)).symm
        rw [show (j : Int) + 1 - 1 = (j : Int) from by omega] at g2 g3
        have l1 : decide (costF (rd_T37 p.l k).f4 < costF (rd_T37 p.l j).f4) = false := decide_eq_false (by omega)
        have wj : IntKind.i64.wrap ((j : Int) + 1 - 1) = (j : Int) := by rw [IntKind.wrap_i64] <;> omega
        have wj2 : IntKind.i64.wrap (j : Int) = (j : Int) := by rw [IntKind.wrap_i64] <;> omega
        have wj3 : wrap64 (j : Int) = (j : Int) := by rw [← wrapEq19]; exact wj2
        have wj' : wrap64 ((j : Int) + 1 - 1) = (j : Int) := by rw [← wrapEq19]; exact wj
        obtain ⟨ad', B2, B7, B15, B18, d2, d7, d15, d18, hJ⟩ := HL5.out.elt j (by omega)
        obtain rfl : ad = ad' := Option.some.inj (HA.out.symm.trans hJ.hA)
        have dj := hJ.at 18 _ rfl (by decide)
        have hjl : (j : Int) < (p.l.length : Int) := by omega
        have hjl' : j < p.l.length := by omega
        have hj0 : (0 : Int) ≤ (j : Int) := by omega
        have HJ := Aside0.mk hJ
        clear hJ g1 g2
        by_cases ht : (k : Int) + 1 < (j : Int) + 1
        · have l2 : decide ((k : Int) + 1 < (j : Int) + 1) = true := decide_eq_true ht
          have l3 : (costF (rd_T37 p.l k).f4 == costF (rd_T37 p.l j).f4) = false := beq_eq_false_iff_ne.2 (g3 ht)
          have e1 : ((k : Int) + 1 == (j : Int) + 1) = false := beq_eq_false_iff_ne.2 (by omega)
          clear g3
          go_wp2_with fail
          go_quiet (first | with_reducible exact lq_cost HE5.out.r18 HE5.out.m18 _ | with_reducible exact lq_cost HJ.out.r18 HJ.out.m18 _)
          go_wp2_with fail
          go_roundw
          case rel => exact ⟨k + 1, by omega, by simp, Aside0.mk (HL5.out.later (lq_below _))⟩
          case measure => simp [intOf]; omega
        · have l2 : decide ((k : Int) + 1 < (j : Int) + 1) = false := decide_eq_false ht
          have ht' : (j : Int) ≤ (k : Int) := by omega
          have l4 : decide ((k : Int) < (j : Int)) = false := decide_eq_false (by omega)
          have l5 : decide (k < j) = false := decide_eq_false (by omega)
          clear g3 ht
          by_cases he : (k : Int) + 1 = (j : Int) + 1
          · have e1 : ((k : Int) + 1 == (j : Int) + 1) = true := beq_iff_eq.2 he
            clear he
            go_wp2_with fail
            go_quiet (first | with_reducible exact lq_cost HE5.out.r18 HE5.out.m18 _ | with_reducible exact lq_cost HJ.out.r18 HJ.out.m18 _)
            go_wp2_with fail
            go_roundw
            case rel => exact ⟨k + 1, by omega, by simp, Aside0.mk (HL5.out.later (lq_below _))⟩
            case measure => simp [intOf]; omega
          · have e1 : ((k : Int) + 1 == (j : Int) + 1) = false := beq_eq_false_iff_ne.2 he
            clear he
            go_wp2_with fail
            go_quiet (first | with_reducible exact lq_cost HE5.out.r18 HE5.out.m18 _ | with_reducible exact lq_cost HJ.out.r18 HJ.out.m18 _)
            go_wp2_with fail
            go_roundw
            case rel => exact ⟨k + 1, by omega, by simp, Aside0.mk (HL5.out.later (lq_below _))⟩
            case measure => simp [intOf]; omega
    · obtain rfl : k = p.l.length := by omega
      go_wp2_with fail
      go_ret
      exact ⟨rfl, HL.out.below⟩
theorem fold_inv (l : List S37) (b : Nat → Bool) : ∀ k : Nat, k ≤ l.length → (pickFold l (plc b l.length k) = 0 ∧ ∀ i, i < k → b i = false) ∨ ∃ j : Nat, pickFold l (plc b l.length k) = (j : Int) + 1 ∧ j < k ∧ b j = true ∧ ∀ i : Nat, i < k → b i = true → costF (rd_T37 l j).f4 ≤ costF (rd_T37 l i).f4 ∧ (i < j → costF (rd_T37 l j).f4 < costF (rd_T37 l i).f4)
  | 0, _ => .inl ⟨rfl, fun i hi => absurd hi (by omega)⟩
  | k + 1, hk => by
    have ih := fold_inv l b k (by omega)
    cases hb : b k
    · rw [plc_no hb]
      rcases ih with ⟨h1, h2⟩ | ⟨j, h1, h2, h3, h4⟩
      · refine .inl ⟨h1, fun i hi => ?_⟩
        rcases Nat.lt_or_ge i k with h | h
        · exact h2 i h
        · obtain rfl : i = k := by omega
          exact hb
      · refine .inr ⟨j, h1, by omega, h3, fun i hi hbi => ?_⟩
        rcases Nat.lt_or_ge i k with h | h
        · exact h4 i h hbi
        · obtain rfl : i = k := by omega
          rw [hb] at hbi
          cases hbi
    · rw [plc_yes (by omega) hb, pickFold_snoc]
      unfold pickStep
      rcases ih with ⟨h1, h2⟩ | ⟨j, h1, h2, h3, h4⟩
      · rw [h1, if_pos rfl]
        refine .inr ⟨k, rfl, by omega, hb, fun i hi hbi => ?_⟩
        rcases Nat.lt_or_ge i k with h | h
        · rw [h2 i h] at hbi
          cases hbi
        · obtain rfl : i = k := by omega
          exact ⟨Int.le_refl _, fun h => absurd h (by omega)⟩
      · rw [h1, if_neg (by omega)]
        simp only [show (k : Int) + 1 - 1 = (k : Int) by omega, show (j : Int) + 1 - 1 = (j : Int) by omega]
        split
        · rename_i hc
          refine .inr ⟨k, rfl, by omega, hb, fun i hi hbi => ?_⟩
          rcases Nat.lt_or_ge i k with h | h
          · have := h4 i h hbi
            exact ⟨by omega, fun _ => by omega⟩
          · obtain rfl : i = k := by omega
            exact ⟨Int.le_refl _, fun h => absurd h (by omega)⟩
        · rename_i hc
          refine .inr ⟨j, rfl, by omega, h3, fun i hi hbi => ?_⟩
          rcases Nat.lt_or_ge i k with h | h
          · exact h4 i h hbi
          · obtain rfl : i = k := by omega
            exact ⟨by omega, fun h => absurd h (by omega)⟩
theorem guard_ok (p : LP) : GuardOK p := by
  intro i hi
  have h := fold_inv p.l (fun i => p.may i) p.l.length (Nat.le_refl _)
  rw [show pickFold p.l (plc (fun i => p.may i) p.l.length p.l.length) = p.at_ from rfl] at h
  rcases h with ⟨h1, h2⟩ | ⟨j, h1, h2, h3, h4⟩
  · have := h2 i hi
    refine ⟨fun _ => by omega, fun h => ?_⟩
    rw [this] at h
    cases h
  · rw [h1]
    refine ⟨fun h e => ?_, fun h => ?_⟩
    · obtain rfl : i = j := by omega
      rw [h] at h3
      cases h3
    · obtain ⟨g1, g2⟩ := h4 i hi h
      simp only [show (j : Int) + 1 - 1 = (j : Int) by omega]
      exact ⟨by omega, g1, fun h => by have := g2 (by omega); omega⟩
def governorlaw19_PromoteGuard.f (a0_0 : Int) (a0_1 : Int) (a0_2 : Int) (a0_3 : Int) (a0_4 : Int) (a0_5 : Int) (a0_6 : Int) (a0_7 : Int) (a0_8 : Int) (a0_9 : Int) (a0_10 : Int) (a0_11 : Int) (a1_0 : Int) (a1_1 : Int) (l1_2 : List (S72)) (a1_3 : Int) (a1_4 : Int) (a1_5 : Int) (a1_6 : Int) (l1_7 : List (S74)) (a1_8 : Int) (a1_9 : Int) (a1_10 : Bool) (a1_11 : Int) (a1_12 : Int) (a1_13 : Bool) (a1_14 : Int) (l1_15 : List Int) (a1_16 : Int) (a1_17 : Int) (l1_18 : List (S64)) (l2 : List (S37)) : Option (Bool) := some true
set_option maxRecDepth 100000 in
theorem governorlaw19_PromoteGuard.calls (a0_0 : Int) (a0_1 : Int) (a0_2 : Int) (a0_3 : Int) (a0_4 : Int) (a0_5 : Int) (a0_6 : Int) (a0_7 : Int) (a0_8 : Int) (a0_9 : Int) (a0_10 : Int) (a0_11 : Int) (a1_0 : Int) (a1_1 : Int) (A1_2 : Option Addr) (c1_2 : Nat) (l1_2 : List (S72)) (a1_3 : Int) (a1_4 : Int) (a1_5 : Int) (a1_6 : Int) (A1_7 : Option Addr) (c1_7 : Nat) (l1_7 : List (S74)) (a1_8 : Int) (a1_9 : Int) (a1_10 : Bool) (a1_11 : Int) (a1_12 : Int) (a1_13 : Bool) (a1_14 : Int) (A1_15 : Option Addr) (c1_15 : Nat) (l1_15 : List Int) (a1_16 : Int) (a1_17 : Int) (A1_18 : Option Addr) (c1_18 : Nat) (l1_18 : List (S64)) (A2 : Option Addr) (c2 : Nat) (l2 : List (S37)) (r : Bool) (w : World) (hr1_2 : Kd.C k72 w A1_2 l1_2.length l1_2) (hc1_2 : l1_2.length ≤ c1_2) (hr1_7 : Kd.C k74 w A1_7 l1_7.length l1_7) (hc1_7 : l1_7.length ≤ c1_7) (hr1_15 : Kd.C (Kd.int .i64) w A1_15 l1_15.length l1_15) (hc1_15 : l1_15.length ≤ c1_15) (hr1_18 : Kd.C k64 w A1_18 l1_18.length l1_18) (hc1_18 : l1_18.length ≤ c1_18) (hr2 : Kd.C k37 w A2 l2.length l2) (hc2 : l2.length ≤ c2) (h : governorlaw19_PromoteGuard.f a0_0 a0_1 a0_2 a0_3 a0_4 a0_5 a0_6 a0_7 a0_8 a0_9 a0_10 a0_11 a1_0 a1_1 l1_2 a1_3 a1_4 a1_5 a1_6 l1_7 a1_8 a1_9 a1_10 a1_11 a1_12 a1_13 a1_14 l1_15 a1_16 a1_17 l1_18 l2 = some r) :
    Calls Try.prog 4 #[.agg #[.int .i64 a0_0, .int .i64 a0_1, .int .i64 a0_2, .int .i64 a0_3, .int .i64 a0_4, .int .i64 a0_5, .int .i64 a0_6, .int .i64 a0_7, .int .i64 a0_8, .int .i64 a0_9, .int .i64 a0_10, .int .i64 a0_11], .agg #[.int .i64 a1_0, .int .i64 a1_1, .slice A1_2 l1_2.length c1_2, .int .i64 a1_3, .int .i64 a1_4, .int .i64 a1_5, .int .i64 a1_6, .slice A1_7 l1_7.length c1_7, .int .i64 a1_8, .int .i64 a1_9, .bool a1_10, .int .i64 a1_11, .int .i64 a1_12, .bool a1_13, .int .i64 a1_14, .slice A1_15 l1_15.length c1_15, .int .i64 a1_16, .int .i64 a1_17, .slice A1_18 l1_18.length c1_18], .slice A2 l2.length c2] w fun e w' => e = .returned (.bool r) ∧ Below w.heap.size w w' := by
  obtain rfl : true = r := Option.some.inj h
  exact guard_walk ⟨⟨a0_0, a0_1, a0_2, a0_3, a0_4, a0_5, a0_6, a0_7, a0_8, a0_9, a0_10, a0_11⟩, ⟨⟨a1_0, a1_1, l1_2, a1_3, a1_4, a1_5, a1_6, l1_7⟩, ⟨a1_8, a1_9, a1_10⟩, ⟨a1_11, a1_12, a1_13⟩, ⟨a1_14, l1_15, a1_16, a1_17⟩, l1_18⟩, A1_2, A1_7, A1_15, A1_18, c1_2, c1_7, c1_15, c1_18, A2, c2, l2, w⟩ A2 ⟨rfl⟩ ⟨LAt.begin ⟨⟨a0_0, a0_1, a0_2, a0_3, a0_4, a0_5, a0_6, a0_7, a0_8, a0_9, a0_10, a0_11⟩, ⟨⟨a1_0, a1_1, l1_2, a1_3, a1_4, a1_5, a1_6, l1_7⟩, ⟨a1_8, a1_9, a1_10⟩, ⟨a1_11, a1_12, a1_13⟩, ⟨a1_14, l1_15, a1_16, a1_17⟩, l1_18⟩, A1_2, A1_7, A1_15, A1_18, c1_2, c1_7, c1_15, c1_18, A2, c2, l2, w⟩ hr1_2 hc1_2 hr1_7 hc1_7 hr1_15 hc1_15 hr1_18 hc1_18 hr2 hc2⟩ ⟨fun _ _ _ => guard_ok _⟩


end Go.Proofs.Ytlenanfkphglaaa.Print
