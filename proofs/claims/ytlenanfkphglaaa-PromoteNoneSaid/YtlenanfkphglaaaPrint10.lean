/- Functions of the program as Lean functions, and that its calls come to them; written by a program of this claim over the kit print; Lean checks it. -/
import Derived.Test.YtlenanfkphglaaaPrint0
import Derived.Test.YtlenanfkphglaaaPrint4
import Derived.Test.YtlenanfkphglaaaPrint5
import Derived.Test.YtlenanfkphglaaaPrint8
import Derived.Test.YtlenanfkphglaaaPrint9
namespace Go.Proofs.Ytlenanfkphglaaa.Print
open Go.RowKit Go.Proofs.YtlenanfkphglaaaW.PrintWords Go.Proofs.YtlenanfkphglaaaW.PrintLast Go.Proofs.YtlenanfkphglaaaW.PrintMore
attribute [local go_sem] max2_int min2_int max_two min_two max_three min_three max_four min_four   -- for this text's walks alone
set_option linter.unusedVariables false
set_option linter.unusedSimpArgs false

/-! ### governorlaw19_right: function 11 -/
/-- May each of these sims be so. -/
def simOk (x : S37) : Bool := simB x.f0.f0 x.f0.f1 x.f0.f2 x.f0.f3 x.f0.f4 x.f0.f5 x.f0.f6 x.f0.f7 x.f1.f0 x.f1.f1 x.f1.f2 x.f2.f0 x.f2.f1 x.f2.f2 x.f3.f0 x.f3.f1 x.f3.f2 x.f3.f3 x.f4
def governorlaw19_right.f (l0 : List (S37)) : Option (Bool) := some ((l0.take 20).all simOk && decide ((l0.length : Int) < 20))
theorem right_take {l : List S37} {j : Nat} (h : j < l.length) (h2 : j < 20) : (l.take 20).drop j = rd_T37 l j :: (l.take 20).drop (j + 1) := by
  have hl : j < (l.take 20).length := by rw [List.length_take]; omega
  rw [List.drop_eq_getElem_cons hl]
  congr 1
  rw [List.getElem_take]
  unfold rd_T37
  rw [Int.toNat_natCast, List.getD_eq_getElem?_getD, List.getElem?_eq_getElem h]
  rfl
set_option maxHeartbeats 4000000 in
set_option maxRecDepth 100000 in
theorem governorlaw19_right.calls (A0 : Option Addr) (c0 : Nat) (l0 : List (S37)) (r : Bool) (w : World) (hr0 : Kd.C k37 w A0 l0.length l0) (hc0 : l0.length ≤ c0) (h : governorlaw19_right.f l0 = some r) :
    Calls Try.prog 11 #[.slice A0 l0.length c0] w fun e w' => e = .returned (.bool r) ∧ Below w.heap.size w w' := by
  have hu37 := Try.underlying37
  have hu38 := Try.underlying38
  have hi37 : (Try.prog.info? 37).map (·.size) = some 19 := by kernel_rfl
  have hl := hr0.2.1
  have HR := Aside0.mk hr0
  have H0 := Aside0.mk (show (((l0.take 20).drop 0).all simOk && decide ((l0.length : Int) < 20)) = r from Option.some.inj h)
  clear hr0 h
  go_enter Try.func11, Try.ntmps11
  go_wp2
  go_loopw [3] (fun i wr => ∃ j : Nat, j ≤ l0.length ∧ j ≤ 20 ∧ i = .int .i64 j ∧ Aside0 ((((l0.take 20).drop j).all simOk && decide ((l0.length : Int) < 20)) = r) ∧ Aside0 (Below w.heap.size w wr)) (fun i _ => 20 - (intOf i).toNat)
  case atStart => exact ⟨0, Nat.zero_le _, by omega, rfl, H0, ⟨Below.refl _ w⟩⟩
  case round =>
    clear H0
    obtain ⟨j, hj, hj2, rfl, HH, HB⟩ := hrel
    by_cases hlt : j < l0.length
    · by_cases h20 : j < 20
      · have hh := HH.out
        rw [right_take hlt h20, List.all_cons] at hh
        obtain ⟨ad, cs, rfl, _, hK, hcs⟩ := Kd.C_get (Kd.C_below HR.out HB.out) z37 (j : Int) (by omega) (by omega)
        obtain ⟨A2_, c2_, A7_, c7_, A15_, c15_, A18_, c18_, rfl, l2_, g2_, l7_, g7_, l15_, g15_, l18_, g18_⟩ := k37_open hK
        clear hK
        simp only [show l0.getD (j : Int).toNat z37 = rd_T37 l0 j from rfl] at hcs l2_ g2_ l7_ g7_ l15_ g15_ l18_ g18_
        generalize rd_T37 l0 j = x at *
        have hrng : ∀ i v, ([.int .i64 x.f0.f0, .int .i64 x.f0.f1, .slice A2_ x.f0.f2.length c2_, .int .i64 x.f0.f3, .int .i64 x.f0.f4, .int .i64 x.f0.f5, .int .i64 x.f0.f6, .slice A7_ x.f0.f7.length c7_, .int .i64 x.f1.f0, .int .i64 x.f1.f1, .bool x.f1.f2, .int .i64 x.f2.f0, .int .i64 x.f2.f1, .bool x.f2.f2, .int .i64 x.f3.f0, .slice A15_ x.f3.f1.length c15_, .int .i64 x.f3.f2, .int .i64 x.f3.f3, .slice A18_ x.f4.length c18_] : List Value)[i]? = some v → wr.cell? ((ad.add ((j : Int).toNat * 19)).add i) = some v := fun i v hi => (pick_addadd wr ad _ i).trans (hcs i v hi)
        have HRNG := Aside0.mk hrng
        clear hrng hcs
        have G2 := Aside0.mk g2_
        have G7 := Aside0.mk g7_
        have G15 := Aside0.mk g15_
        have G18 := Aside0.mk g18_
        have M2 := Aside0.mk l2_
        have M7 := Aside0.mk l7_
        have M15 := Aside0.mk l15_
        have M18 := Aside0.mk l18_
        clear g2_ g7_ g15_ g18_ l2_ l7_ l15_ l18_
        cases hb0 : simOk x
        · have HX := Aside0.mk (show false = r by rw [hb0] at hh; simpa using hh)
          have HF := Aside0.mk (show governorref18_Right.f x.f0.f0 x.f0.f1 x.f0.f2 x.f0.f3 x.f0.f4 x.f0.f5 x.f0.f6 x.f0.f7 x.f1.f0 x.f1.f1 x.f1.f2 x.f2.f0 x.f2.f1 x.f2.f2 x.f3.f0 x.f3.f1 x.f3.f2 x.f3.f3 x.f4 = some false from congrArg some hb0)
          clear hh hb0
          go_wp2_with (first
            | (with_reducible refine hd_gate 17 rfl ?_); refine hd_run rfl (v := .agg (#[.int .i64 x.f0.f0, .int .i64 x.f0.f1, .slice A2_ x.f0.f2.length c2_, .int .i64 x.f0.f3, .int .i64 x.f0.f4, .int .i64 x.f0.f5, .int .i64 x.f0.f6, .slice A7_ x.f0.f7.length c7_, .int .i64 x.f1.f0, .int .i64 x.f1.f1, .bool x.f1.f2, .int .i64 x.f2.f0, .int .i64 x.f2.f1, .bool x.f2.f2, .int .i64 x.f3.f0, .slice A15_ x.f3.f1.length c15_, .int .i64 x.f3.f2, .int .i64 x.f3.f3, .slice A18_ x.f4.length c18_])) (w1 := wr) ?hr ?_; (case hr => exact pick_load rfl rfl (pick_loadAt wr _ 37 ([.int .i64 x.f0.f0, .int .i64 x.f0.f1, .slice A2_ x.f0.f2.length c2_, .int .i64 x.f0.f3, .int .i64 x.f0.f4, .int .i64 x.f0.f5, .int .i64 x.f0.f6, .slice A7_ x.f0.f7.length c7_, .int .i64 x.f1.f0, .int .i64 x.f1.f1, .bool x.f1.f2, .int .i64 x.f2.f0, .int .i64 x.f2.f1, .bool x.f2.f2, .int .i64 x.f3.f0, .slice A15_ x.f3.f1.length c15_, .int .i64 x.f3.f2, .int .i64 x.f3.f3, .slice A18_ x.f4.length c18_]) _ HRNG.out hu37 rfl hi37))
            | (with_reducible refine hd_gate 18 rfl ?_); refine hd_call rfl (by kernel_rfl) (governorref18_Right.calls x.f0.f0 x.f0.f1 A2_ c2_ x.f0.f2 x.f0.f3 x.f0.f4 x.f0.f5 x.f0.f6 A7_ c7_ x.f0.f7 x.f1.f0 x.f1.f1 x.f1.f2 x.f2.f0 x.f2.f1 x.f2.f2 x.f3.f0 A15_ c15_ x.f3.f1 x.f3.f2 x.f3.f3 A18_ c18_ x.f4 false wr G2.out M2.out G7.out M7.out G15.out M15.out G18.out M18.out HF.out) ?_; rintro e w1 ⟨rfl, hb⟩; refine ⟨_, rfl, ?_⟩; have HB1 := Aside0.mk (below_step HB.out hb); clear hb)
          go_ret
          exact ⟨by rw [HX.out]; rfl, HB1.out⟩
        · have HX := Aside0.mk (show (((l0.take 20).drop (j + 1)).all simOk && decide ((l0.length : Int) < 20)) = r by rw [hb0, Bool.true_and] at hh; exact hh)
          have HF := Aside0.mk (show governorref18_Right.f x.f0.f0 x.f0.f1 x.f0.f2 x.f0.f3 x.f0.f4 x.f0.f5 x.f0.f6 x.f0.f7 x.f1.f0 x.f1.f1 x.f1.f2 x.f2.f0 x.f2.f1 x.f2.f2 x.f3.f0 x.f3.f1 x.f3.f2 x.f3.f3 x.f4 = some true from congrArg some hb0)
          clear hh hb0
          go_wp2_with (first
            | (with_reducible refine hd_gate 17 rfl ?_); refine hd_run rfl (v := .agg (#[.int .i64 x.f0.f0, .int .i64 x.f0.f1, .slice A2_ x.f0.f2.length c2_, .int .i64 x.f0.f3, .int .i64 x.f0.f4, .int .i64 x.f0.f5, .int .i64 x.f0.f6, .slice A7_ x.f0.f7.length c7_, .int .i64 x.f1.f0, .int .i64 x.f1.f1, .bool x.f1.f2, .int .i64 x.f2.f0, .int .i64 x.f2.f1, .bool x.f2.f2, .int .i64 x.f3.f0, .slice A15_ x.f3.f1.length c15_, .int .i64 x.f3.f2, .int .i64 x.f3.f3, .slice A18_ x.f4.length c18_])) (w1 := wr) ?hr ?_; (case hr => exact pick_load rfl rfl (pick_loadAt wr _ 37 ([.int .i64 x.f0.f0, .int .i64 x.f0.f1, .slice A2_ x.f0.f2.length c2_, .int .i64 x.f0.f3, .int .i64 x.f0.f4, .int .i64 x.f0.f5, .int .i64 x.f0.f6, .slice A7_ x.f0.f7.length c7_, .int .i64 x.f1.f0, .int .i64 x.f1.f1, .bool x.f1.f2, .int .i64 x.f2.f0, .int .i64 x.f2.f1, .bool x.f2.f2, .int .i64 x.f3.f0, .slice A15_ x.f3.f1.length c15_, .int .i64 x.f3.f2, .int .i64 x.f3.f3, .slice A18_ x.f4.length c18_]) _ HRNG.out hu37 rfl hi37))
            | (with_reducible refine hd_gate 18 rfl ?_); refine hd_call rfl (by kernel_rfl) (governorref18_Right.calls x.f0.f0 x.f0.f1 A2_ c2_ x.f0.f2 x.f0.f3 x.f0.f4 x.f0.f5 x.f0.f6 A7_ c7_ x.f0.f7 x.f1.f0 x.f1.f1 x.f1.f2 x.f2.f0 x.f2.f1 x.f2.f2 x.f3.f0 A15_ c15_ x.f3.f1 x.f3.f2 x.f3.f3 A18_ c18_ x.f4 true wr G2.out M2.out G7.out M7.out G15.out M15.out G18.out M18.out HF.out) ?_; rintro e w1 ⟨rfl, hb⟩; refine ⟨_, rfl, ?_⟩; have HB1 := Aside0.mk (below_step HB.out hb); clear hb)
          go_roundw
          case rel => exact ⟨j + 1, by omega, by omega, by simp, HX, HB1⟩
          case measure => simp [intOf]; omega
      · obtain rfl : j = 20 := by omega
        have hh := HH.out
        rw [List.drop_eq_nil_of_le (by rw [List.length_take]; omega)] at hh
        have HX := Aside0.mk (show (true && decide ((l0.length : Int) < 20)) = r from hh)
        clear hh
        go_wp2
        go_ret
        exact ⟨by rw [← HX.out, Bool.true_and]; rfl, HB.out⟩
    · obtain rfl : j = l0.length := by omega
      have hh := HH.out
      rw [List.drop_eq_nil_of_le (by rw [List.length_take]; omega)] at hh
      have HX := Aside0.mk (show (true && decide ((l0.length : Int) < 20)) = r from hh)
      clear hh
      go_wp2
      go_ret
      exact ⟨by rw [← HX.out, Bool.true_and]; rfl, HB.out⟩
def cells37 (x : S37) (A2 A7 A15 A18 : Option Addr) (c2 c7 c15 c18 : Nat) : List Value := [.int .i64 x.f0.f0, .int .i64 x.f0.f1, .slice A2 x.f0.f2.length c2, .int .i64 x.f0.f3, .int .i64 x.f0.f4, .int .i64 x.f0.f5, .int .i64 x.f0.f6, .slice A7 x.f0.f7.length c7, .int .i64 x.f1.f0, .int .i64 x.f1.f1, .bool x.f1.f2, .int .i64 x.f2.f0, .int .i64 x.f2.f1, .bool x.f2.f2, .int .i64 x.f3.f0, .slice A15 x.f3.f1.length c15, .int .i64 x.f3.f2, .int .i64 x.f3.f3, .slice A18 x.f4.length c18]
/-- What a law of promote's is asked, and where it lies. -/
structure LP where
  (x0 : S23) (x1 : S37) (A2 A7 A15 A18 : Option Addr) (c2 c7 c15 c18 : Nat) (A : Option Addr) (c : Nat) (l : List S37) (w : World)
def LP.C0 (p : LP) : Array Value := #[.int .i64 p.x0.f0, .int .i64 p.x0.f1, .int .i64 p.x0.f2, .int .i64 p.x0.f3, .int .i64 p.x0.f4, .int .i64 p.x0.f5, .int .i64 p.x0.f6, .int .i64 p.x0.f7, .int .i64 p.x0.f8, .int .i64 p.x0.f9, .int .i64 p.x0.f10, .int .i64 p.x0.f11]
def LP.C1 (p : LP) : Array Value := (cells37 p.x1 p.A2 p.A7 p.A15 p.A18 p.c2 p.c7 p.c15 p.c18).toArray
structure LAt (p : LP) (W : World) : Prop where
  b0 : W.heap[p.w.heap.size]? = some (.cells p.C0 23 (0, 0))
  b1 : W.heap[p.w.heap.size + 1]? = some (.cells p.C1 37 (0, 0))
  r2 : Kd.C k72 W p.A2 p.x1.f0.f2.length p.x1.f0.f2
  m2 : p.x1.f0.f2.length ≤ p.c2
  r7 : Kd.C k74 W p.A7 p.x1.f0.f7.length p.x1.f0.f7
  m7 : p.x1.f0.f7.length ≤ p.c7
  r15 : Kd.C (Kd.int .i64) W p.A15 p.x1.f3.f1.length p.x1.f3.f1
  m15 : p.x1.f3.f1.length ≤ p.c15
  r18 : Kd.C k64 W p.A18 p.x1.f4.length p.x1.f4
  m18 : p.x1.f4.length ≤ p.c18
  rl : Kd.C k37 W p.A p.l.length p.l
  ml : p.l.length ≤ p.c
  below : Below p.w.heap.size p.w W
theorem LAt.later {p : LP} {W W' : World} (h : LAt p W) (hb : Below W.heap.size W W') : LAt p W' :=
  ⟨hd_later h.b0 hb, hd_later h.b1 hb, Kd.C_below h.r2 hb, h.m2, Kd.C_below h.r7 hb, h.m7, Kd.C_below h.r15 hb, h.m15, Kd.C_below h.r18 hb, h.m18, Kd.C_below h.rl hb, h.ml, below_step h.below hb⟩
theorem LAt.alloc {p : LP} {W : World} (h : LAt p W) (o : Obj) : LAt p (W.alloc o) := h.later (below_alloc (Below.refl _ _) o)
theorem LAt.begin (p : LP) (hr2 : Kd.C k72 p.w p.A2 p.x1.f0.f2.length p.x1.f0.f2) (hc2 : p.x1.f0.f2.length ≤ p.c2) (hr7 : Kd.C k74 p.w p.A7 p.x1.f0.f7.length p.x1.f0.f7) (hc7 : p.x1.f0.f7.length ≤ p.c7) (hr15 : Kd.C (Kd.int .i64) p.w p.A15 p.x1.f3.f1.length p.x1.f3.f1) (hc15 : p.x1.f3.f1.length ≤ p.c15) (hr18 : Kd.C k64 p.w p.A18 p.x1.f4.length p.x1.f4) (hc18 : p.x1.f4.length ≤ p.c18) (hrl : Kd.C k37 p.w p.A p.l.length p.l) (hcl : p.l.length ≤ p.c) :
    LAt p ((p.w.alloc (.cells p.C0 23)).alloc (.cells p.C1 37)) := by
  have e0 := pick_new p.w (.cells p.C0 23)
  have e1 := pick_new (p.w.alloc (.cells p.C0 23)) (.cells p.C1 37)
  simp only [World.size_alloc] at e1
  have hb : Below p.w.heap.size p.w ((p.w.alloc (.cells p.C0 23)).alloc (.cells p.C1 37)) := below_alloc (below_alloc (Below.refl _ _) _) _
  refine ⟨?_, e1, Kd.C_below hr2 hb, hc2, Kd.C_below hr7 hb, hc7, Kd.C_below hr15 hb, hc15, Kd.C_below hr18 hb, hc18, Kd.C_below hrl hb, hcl, hb⟩
  rw [Below.heap_alloc _ _ _ (by simp)]; exact e0
def LP.conf (p : LP) : Bool := W.confB p.x0.f0 p.x0.f1 p.x0.f2 p.x0.f3 p.x0.f4 p.x0.f5 p.x0.f6 p.x0.f7 p.x0.f8 p.x0.f9 p.x0.f10 p.x0.f11
def LP.live (p : LP) : Bool := simOk p.x1
def LP.all (p : LP) : Bool := (p.l.take 20).all simOk && decide ((p.l.length : Int) < 20)
theorem lk_head {p : LP} {W : World} (h : LAt p W) : Calls Try.prog 8 #[] W fun e W' => e = .returned (.bool true) ∧ LAt p W' :=
  (governorlaw19_head.calls true W rfl).mono fun _ _ q => ⟨q.1, h.later q.2⟩
theorem lk_conf {p : LP} {W : World} (h : LAt p W) : Calls Try.prog 9 #[.agg p.C0] W fun e W' => e = .returned (.bool p.conf) ∧ LAt p W' :=
  (governorref09_Conf.calls p.x0.f0 p.x0.f1 p.x0.f2 p.x0.f3 p.x0.f4 p.x0.f5 p.x0.f6 p.x0.f7 p.x0.f8 p.x0.f9 p.x0.f10 p.x0.f11 p.conf W rfl).mono fun _ _ q => ⟨q.1, h.later q.2⟩
theorem lk_live {p : LP} {W : World} (h : LAt p W) : Calls Try.prog 10 #[.agg p.C1] W fun e W' => e = .returned (.bool p.live) ∧ LAt p W' :=
  (governorref18_Right.calls p.x1.f0.f0 p.x1.f0.f1 p.A2 p.c2 p.x1.f0.f2 p.x1.f0.f3 p.x1.f0.f4 p.x1.f0.f5 p.x1.f0.f6 p.A7 p.c7 p.x1.f0.f7 p.x1.f1.f0 p.x1.f1.f1 p.x1.f1.f2 p.x1.f2.f0 p.x1.f2.f1 p.x1.f2.f2 p.x1.f3.f0 p.A15 p.c15 p.x1.f3.f1 p.x1.f3.f2 p.x1.f3.f3 p.A18 p.c18 p.x1.f4 p.live W h.r2 h.m2 h.r7 h.m7 h.r15 h.m15 h.r18 h.m18 rfl).mono fun _ _ q => ⟨q.1, h.later q.2⟩
theorem lk_all {p : LP} {W : World} (h : LAt p W) : Calls Try.prog 11 #[.slice p.A p.l.length p.c] W fun e W' => e = .returned (.bool p.all) ∧ LAt p W' :=
  (governorlaw19_right.calls p.A p.c p.l p.all W h.rl h.ml rfl).mono fun _ _ q => ⟨q.1, h.later q.2⟩
theorem lk_pick {p : LP} {W : World} (h : LAt p W) (A : Option Addr) (c : Nat) (l : List S37) (n : Nat) (hn : n = l.length) (hr : Kd.C k37 W A n l) (hc : n ≤ c) :
    Calls Try.prog 12 #[.agg p.C0, .agg p.C1, .slice A n c] W fun e W' => e = .returned (.tuple #[.int .i64 (pickF p.x0.f7 p.x0.f8 p.x0.f9 p.x1.f4 l), .bool (decide (0 < pickF p.x0.f7 p.x0.f8 p.x0.f9 p.x1.f4 l))]) ∧ LAt p W' ∧ Below W.heap.size W W' := by
  subst hn
  exact (promote_Pick.calls p.x0.f0 p.x0.f1 p.x0.f2 p.x0.f3 p.x0.f4 p.x0.f5 p.x0.f6 p.x0.f7 p.x0.f8 p.x0.f9 p.x0.f10 p.x0.f11 p.x1.f0.f0 p.x1.f0.f1 p.A2 p.c2 p.x1.f0.f2 p.x1.f0.f3 p.x1.f0.f4 p.x1.f0.f5 p.x1.f0.f6 p.A7 p.c7 p.x1.f0.f7 p.x1.f1.f0 p.x1.f1.f1 p.x1.f1.f2 p.x1.f2.f0 p.x1.f2.f1 p.x1.f2.f2 p.x1.f3.f0 p.A15 p.c15 p.x1.f3.f1 p.x1.f3.f2 p.x1.f3.f3 p.A18 p.c18 p.x1.f4 A c l _ _ W h.r2 h.m2 h.r7 h.m7 h.r15 h.m15 h.r18 h.m18 hr hc rfl).mono fun _ _ q => ⟨q.1, h.later q.2, q.2⟩
/-- An element of the row, opened in a world. -/
structure EAt (p : LP) (W : World) (i : Nat) (ad : Addr) (A2 A7 A15 A18 : Option Addr) (c2 c7 c15 c18 : Nat) : Prop where
  hA : p.A = some ad
  cells : ∀ j v, (cells37 (rd_T37 p.l i) A2 A7 A15 A18 c2 c7 c15 c18)[j]? = some v → W.cell? ((ad.add (i * 19)).add j) = some v
  r2 : Kd.C k72 W A2 (rd_T37 p.l i).f0.f2.length (rd_T37 p.l i).f0.f2
  m2 : (rd_T37 p.l i).f0.f2.length ≤ c2
  r7 : Kd.C k74 W A7 (rd_T37 p.l i).f0.f7.length (rd_T37 p.l i).f0.f7
  m7 : (rd_T37 p.l i).f0.f7.length ≤ c7
  r15 : Kd.C (Kd.int .i64) W A15 (rd_T37 p.l i).f3.f1.length (rd_T37 p.l i).f3.f1
  m15 : (rd_T37 p.l i).f3.f1.length ≤ c15
  r18 : Kd.C k64 W A18 (rd_T37 p.l i).f4.length (rd_T37 p.l i).f4
  m18 : (rd_T37 p.l i).f4.length ≤ c18
theorem EAt.later {p : LP} {W W' : World} {i : Nat} {ad : Addr} {A2 A7 A15 A18 : Option Addr} {c2 c7 c15 c18 : Nat} (h : EAt p W i ad A2 A7 A15 A18 c2 c7 c15 c18) (hb : Below W.heap.size W W') : EAt p W' i ad A2 A7 A15 A18 c2 c7 c15 c18 :=
  ⟨h.hA, fun j v e => (hb.cell (World.block_lt_of_cell? W _ (h.cells j v e))).trans (h.cells j v e), Kd.C_below h.r2 hb, h.m2, Kd.C_below h.r7 hb, h.m7, Kd.C_below h.r15 hb, h.m15, Kd.C_below h.r18 hb, h.m18⟩
theorem LAt.elt {p : LP} {W : World} (h : LAt p W) (i : Nat) (hi : i < p.l.length) : ∃ ad A2 A7 A15 A18 c2 c7 c15 c18, EAt p W i ad A2 A7 A15 A18 c2 c7 c15 c18 := by
  obtain ⟨ad, cs, e, _, hK, hcs⟩ := Kd.C_get h.rl z37 (i : Int) (by omega) (by omega)
  obtain ⟨A2_, c2_, A7_, c7_, A15_, c15_, A18_, c18_, rfl, l2_, g2_, l7_, g7_, l15_, g15_, l18_, g18_⟩ := k37_open hK
  simp only [show p.l.getD (i : Int).toNat z37 = rd_T37 p.l i from rfl] at hcs l2_ g2_ l7_ g7_ l15_ g15_ l18_ g18_
  rw [Int.toNat_natCast] at hcs
  exact ⟨ad, A2_, A7_, A15_, A18_, c2_, c7_, c15_, c18_, e, fun j v hj => (pick_addadd W ad _ j).trans (hcs j v hj), g2_, l2_, g7_, l7_, g15_, l15_, g18_, l18_⟩
theorem EAt.at {p : LP} {W : World} {i : Nat} {ad : Addr} {A2 A7 A15 A18 : Option Addr} {c2 c7 c15 c18 : Nat} (h : EAt p W i ad A2 A7 A15 A18 c2 c7 c15 c18) (j : Nat) (v : Value) (hj : (cells37 (rd_T37 p.l i) A2 A7 A15 A18 c2 c7 c15 c18)[j]? = some v) (h0 : 0 < j) : W.cell? ⟨(ad.add (i * 19)).block, (ad.add (i * 19)).off + j, none⟩ = some v := by
  rw [← add_field _ _ j h0, ← pick_addadd]
  exact (h.cells j v hj)
theorem EAt.at0 {p : LP} {W : World} {i : Nat} {ad : Addr} {A2 A7 A15 A18 : Option Addr} {c2 c7 c15 c18 : Nat} (h : EAt p W i ad A2 A7 A15 A18 c2 c7 c15 c18) : W.cell? (ad.add (i * 19)) = some (.int .i64 (rd_T37 p.l i).f0.f0) := by
  have := h.cells 0 _ rfl
  rwa [pick_addadd, Nat.add_zero] at this


/-! ### governorref17_Cost: function 15 -/
def governorref17_Cost.f (l0 : List (S64)) : Option (Int) := some (costF l0)
set_option maxHeartbeats 1000000 in
theorem governorref17_Cost.calls (A0 : Option Addr) (c0 : Nat) (l0 : List (S64)) (r : Int) (w : World) (hr0 : Kd.C k64 w A0 l0.length l0) (hc0 : l0.length ≤ c0) (h : governorref17_Cost.f l0 = some r) :
    Calls Try.prog 15 #[.slice A0 l0.length c0] w fun e w' => e = .returned (.int .i64 r) ∧ Drawn0 w w' := by
  obtain rfl := Option.some.inj h
  have hu := Try.underlying64
  have hl := hr0.2.1
  have HR := Aside0.mk hr0
  clear hr0 h
  go_enter Try.func15, Try.ntmps15
  go_wp2
  go_loopw [3, 4] (fun s i wr => ∃ k : Nat, k ≤ l0.length ∧ i = .int .i64 k ∧ s = .int .i64 (costF (l0.take k)) ∧ wr = w) (fun _ i _ => l0.length - (intOf i).toNat)
  case atStart => exact ⟨0, Nat.zero_le _, rfl, rfl, rfl⟩
  case round =>
    obtain ⟨k, hk, rfl, rfl, rfl⟩ := hrel
    by_cases hlt : k < l0.length
    · obtain ⟨ad, rfl, hc1, hc2⟩ := at_T64 HR.out (k : Int) (by omega) (by omega)
      have HS := Aside0.mk (costF_snoc (l0.take k) (rd_T64 l0 k))
      have HT := Aside0.mk (take_rd64 l0 k hlt)
      rw [Int.toNat_natCast] at hc1 hc2
      generalize rd_T64 l0 k = x at *
      generalize costF (l0.take k) = s at *
      go_wp2
      go_roundw
      case rel => exact ⟨k + 1, by omega, by go_num, by rw [HT.out, HS.out], by first | rfl | trivial⟩
      case measure => simp [intOf]; omega
    · have HT := Aside0.mk (show l0.take k = l0 from List.take_of_length_le (by omega))
      go_wp2
      go_ret
      exact ⟨by rw [HT.out]; rfl, Drawn0.refl _⟩


/-! ### governorlaw19_PromoteNone: function 7 -/
theorem fold_inv (l : List S37) (b : Nat → Bool) : ∀ k : Nat, k ≤ l.length → (pickFold l (plc b l.length k) = 0 ∧ ∀ i, i < k → b i = false) ∨ ∃ j : Nat, pickFold l (plc b l.length k) = (j : Int) + 1 ∧ j < k ∧ b j = true ∧ ∀ i : Nat, i < k → b i = true → costF (rd_T37 l j).f4 ≤ costF (rd_T37 l i).f4 ∧ (i < j → costF (rd_T37 l j).f4 < costF (rd_T37 l i).f4)
  | 0, _ => .inl ⟨rfl, fun i hi => absurd hi (by omega)⟩
  | k + 1, hk => by
    have ih := fold_inv l b k (by omega)
    cases hb : b k
    · rw [plc_no hb]
      rcases ih with ⟨h1, h2⟩ | ⟨j, h1, h2, h3, h4⟩
      · refine .inl ⟨h1, fun i hi => ?_⟩
        rcases Nat.lt_or_ge i k with h | h
        · exact h2 i h
        · obtain rfl : i = k := by omega
          exact hb
      · refine .inr ⟨j, h1, by omega, h3, fun i hi hbi => ?_⟩
        rcases Nat.lt_or_ge i k with h | h
        · exact h4 i h hbi
        · obtain rfl : i = k := by omega
          rw [hb] at hbi
          cases hbi
    · rw [plc_yes (by omega) hb, pickFold_snoc]
      unfold pickStep
      rcases ih with ⟨h1, h2⟩ | ⟨j, h1, h2, h3, h4⟩
      · rw [h1, if_pos rfl]
        refine .inr ⟨k, rfl, by omega, hb, fun i hi hbi => ?_⟩
        rcases Nat.lt_or_ge i k with h | h
        · rw [h2 i h] at hbi
          cases hbi
        · obtain rfl : i = k := by omega
          exact ⟨Int.le_refl _, fun h => absurd h (by omega)⟩
      · rw [h1, if_neg (by omega)]
        simp only [show (k : Int) + 1 - 1 = (k : Int) by omega, show (j : Int) + 1 - 1 = (j : Int) by omega]
        split
        · rename_i hc
          refine .inr ⟨k, rfl, by omega, hb, fun i hi hbi => ?_⟩
          rcases Nat.lt_or_ge i k with h | h
          · have := h4 i h hbi
            exact ⟨by omega, fun _ => by omega⟩
          · obtain rfl : i = k := by omega
            exact ⟨Int.le_refl _, fun h => absurd h (by omega)⟩
        · rename_i hc
          refine .inr ⟨j, rfl, by omega, h3, fun i hi hbi => ?_⟩
          rcases Nat.lt_or_ge i k with h | h
          · exact h4 i h hbi
          · obtain rfl : i = k := by omega
            exact ⟨by omega, fun h => absurd h (by omega)⟩
theorem info37z : (Try.prog.info? 37).map (fun i => (i.zero, i.size, i.bytes)) = some (some (.agg #[.int .i64 0, .int .i64 0, .slice none 0 0, .int .i64 0, .int .i64 0, .int .i64 0, .int .i64 0, .slice none 0 0, .int .i64 0, .int .i64 0, .bool false, .int .i64 0, .int .i64 0, .bool false, .int .i64 0, .slice none 0 0, .int .i64 0, .int .i64 0, .slice none 0 0]), 19, 216) := by kernel_rfl
theorem heap37 : Kd.Heap k37 := by
  unfold k37 k27 k29 k31 k34 k72 k74 k64
  repeat (first | exact Kd.heap_int _ | exact Kd.heap_bool | refine Kd.heap_iso _ ?_ | refine Kd.heap_pair ?_ ?_ | refine Kd.heap_slice _ ?_)
theorem n_empty {W : World} {base g : Nat} (h : W.heap[g]? = some (.cells #[] 37 (0, 0))) (hb : base ≤ g) : Kd.N k37 37 W base (fun _ => True) (.slice (some ⟨g, 0, none⟩) 0 0) [] :=
  Kd.R_N ⟨fun _ _ => trivial, [], ⟨by simp, .inr ⟨g, 0, #[], rfl, hb, h, by simp, by unfold maxLen; omega, by simp, by simp⟩⟩, Reps.none _ _⟩
theorem cut37_to {A : Option Addr} {n c k : Nat} (hk : k ≤ n) (hc : n ≤ c) : ∀ W : World, (Instr.slice 38 (.slice A n c) none (some (.int .i64 (k : Int))) none).run Try.prog W = .ok (.slice A k c) W := by
  obtain ⟨i, hi, _⟩ := Option.map_eq_some_iff.1 info37z
  have h := cut_to (P := Try.prog) 38 37 .i64 Try.underlying38 hi A n c (k : Int) (by omega) (by omega) hc
  simpa only [Int.toNat_natCast] using h
theorem cut37_from {W0 : World} {ok : Nat → Prop} {A : Option Addr} {c : Nat} {l : List S37} {k : Nat} (hk : k ≤ l.length) (hc : l.length ≤ c) (hF : Kd.F k37 W0 ok A l.length l) :
    ∃ A' c', (∀ W : World, (Instr.slice 38 (.slice A l.length c) (some (.int .i64 (k : Int))) none none).run Try.prog W = .ok (.slice A' (l.length - k) c') W) ∧ Kd.F k37 W0 ok A' (l.length - k) (l.drop k) := by
  obtain ⟨i, hi, hs⟩ := Option.map_eq_some_iff.1 info37z
  have h := cut_from (P := Try.prog) 38 37 .i64 Try.underlying38 hi 19 (by injection hs with _ hs; injection hs) A l.length c (k : Int) (by omega) (by omega)
  simp only [Int.toNat_natCast] at h
  refine ⟨_, _, h, Kd.F_imp hF (fun W' hC => ?_)⟩
  have h2 := Kd.C_drop (m := k) (c := c) hC hk hc
  rwa [List.length_drop] at h2
theorem ok_own {base : Nat} {W : World} {v : Value} {xs : List S37} {ok : Nat → Prop} (h : Kd.N k37 37 W base ok v xs) (k : Nat) (hk : k < base) : some k ≠ v.ownBlock := fun e => by have := Kd.N_base h k e.symm; omega
theorem lq_cost {A : Option Addr} {c : Nat} {l : List S64} {W : World} (hr : Kd.C k64 W A l.length l) (hc : l.length ≤ c) (n : Nat) : Calls Try.prog 15 #[.slice A l.length c] (W.drewN n) fun e W' => e = .returned (.int .i64 (costF l)) ∧ ∃ m, W' = W.drewN m :=
  Calls.quiet_of ((governorref17_Cost.calls A c l _ _ (Kd.C_drewN hr n) hc rfl).mono fun _ _ q => ⟨q.1, q.2.out⟩)
theorem lq_below {W : World} (n : Nat) : Below W.heap.size W (W.drewN n) := pw_below_drewN (Below.refl _ _) n
theorem info37k : (Try.prog.info? 37).map (fun i => (i.zero, i.size, i.bytes)) = some (some (.agg #[.int .i64 0, .int .i64 0, .slice none 0 0, .int .i64 0, .int .i64 0, .int .i64 0, .int .i64 0, .slice none 0 0, .int .i64 0, .int .i64 0, .bool false, .int .i64 0, .int .i64 0, .bool false, .int .i64 0, .slice none 0 0, .int .i64 0, .int .i64 0, .slice none 0 0]), k37.sz, 216) := info37z
def zeroed (x : S37) : S37 := ⟨z27, z29, z31, z34, x.f4⟩
def zc37 (n : Nat) (A18 : Option Addr) (c18 : Nat) : List Value := [.int .i64 0, .int .i64 0, .slice none 0 0, .int .i64 0, .int .i64 0, .int .i64 0, .int .i64 0, .slice none 0 0, .int .i64 0, .int .i64 0, .bool false, .int .i64 0, .int .i64 0, .bool false, .int .i64 0, .slice none 0 0, .int .i64 0, .int .i64 0, .slice A18 n c18]
theorem zero_FK {W : World} {ok : Nat → Prop} {x : S37} {A2 A7 A15 A18 : Option Addr} {c2 c7 c15 c18 : Nat} (h : Kd.FK k37 W ok x (cells37 x A2 A7 A15 A18 c2 c7 c15 c18)) : Kd.FK k37 W ok (zeroed x) (zc37 x.f4.length A18 c18) := fun W' hW => by
  obtain ⟨B2, d2, B7, d7, B15, d15, B18, d18, e, l2, g2, l7, g7, l15, g15, l18, g18⟩ := k37_open (h W' hW)
  have e1 := congrArg (fun l : List Value => l[18]?) e
  simp only [cells37, List.getElem?_cons_succ, List.getElem?_cons_zero, Option.some.injEq] at e1
  injection e1 with e2 _ e3
  subst e2 e3
  exact k37_mk W' (zeroed x) (Nat.le_refl 0) (nil_C _ _ _) (Nat.le_refl 0) (nil_C _ _ _) (Nat.le_refl 0) (nil_C _ _ _) l18 g18
theorem LAt.eltF {p : LP} {W : World} {ok : Nat → Prop} (h : LAt p W) (hF : Kd.F k37 W ok p.A p.l.length p.l) (i : Nat) (hi : i < p.l.length) : ∃ ad A2 A7 A15 A18 c2 c7 c15 c18, EAt p W i ad A2 A7 A15 A18 c2 c7 c15 c18 ∧ Kd.FK k37 W ok (rd_T37 p.l i) (cells37 (rd_T37 p.l i) A2 A7 A15 A18 c2 c7 c15 c18) := by
  obtain ⟨ad, cs, e, _, hK, hcs, _⟩ := Kd.F_get hF z37 (i : Int) (by omega) (by omega)
  obtain ⟨A2_, c2_, A7_, c7_, A15_, c15_, A18_, c18_, rfl, l2_, g2_, l7_, g7_, l15_, g15_, l18_, g18_⟩ := k37_open (Kd.FK_now hK)
  simp only [show p.l.getD (i : Int).toNat z37 = rd_T37 p.l i from rfl] at hcs l2_ g2_ l7_ g7_ l15_ g15_ l18_ g18_ hK
  rw [Int.toNat_natCast] at hcs
  exact ⟨ad, A2_, A7_, A15_, A18_, c2_, c7_, c15_, c18_, ⟨e, fun j v hj => (pick_addadd W ad _ j).trans (hcs j v hj), g2_, l2_, g7_, l7_, g15_, l15_, g18_, l18_⟩, hK⟩
def dearer (p : LP) (x : S37) : Bool := decide (costF p.x1.f4 < costF x.f4)
def zs (p : LP) (k : Nat) : List S37 := (p.l.take k).map zeroed
def ms (p : LP) (k : Nat) : List S37 := (p.l.take k).filter (dearer p)
theorem rd_mem {l : List S37} {k : Nat} (hk : k < l.length) : rd_T37 l k ∈ l := by
  unfold rd_T37
  rw [Int.toNat_natCast, List.getD_eq_getElem?_getD, List.getElem?_eq_getElem hk]
  exact List.getElem_mem hk
theorem rd_take {l : List S37} {k : Nat} (hk : k < l.length) : l.take (k + 1) = l.take k ++ [rd_T37 l k] := by
  rw [List.take_succ_eq_append_getElem hk]
  unfold rd_T37
  rw [Int.toNat_natCast, List.getD_eq_getElem?_getD, List.getElem?_eq_getElem hk]
  rfl
theorem zs_snoc {p : LP} {k : Nat} (hk : k < p.l.length) : zs p k ++ [zeroed (rd_T37 p.l k)] = zs p (k + 1) := by unfold zs; rw [rd_take hk, List.map_append]; rfl
theorem ms_yes {p : LP} {k : Nat} (hk : k < p.l.length) (h : dearer p (rd_T37 p.l k) = true) : ms p k ++ [rd_T37 p.l k] = ms p (k + 1) := by unfold ms; rw [rd_take hk, List.filter_append]; simp [h]
theorem ms_no {p : LP} {k : Nat} (hk : k < p.l.length) (h : dearer p (rd_T37 p.l k) = false) : ms p k = ms p (k + 1) := by unfold ms; rw [rd_take hk, List.filter_append]; simp [h]
theorem zs_len (p : LP) (k : Nat) : (zs p k).length ≤ k := by unfold zs; rw [List.length_map, List.length_take]; omega
theorem ms_len (p : LP) (k : Nat) : (ms p k).length ≤ k := by unfold ms; have := List.length_filter_le (dearer p) (p.l.take k); rw [List.length_take] at this; omega
theorem pick_none {c7 c8 c9 : Int} {live : List S64} {l : List S37} (h : ∀ i, i < l.length → beats c7 c8 c9 live l i = false) : pickF c7 c8 c9 live l = 0 := by
  have h' := fold_inv l (beats c7 c8 c9 live l) l.length (Nat.le_refl _)
  rcases h' with ⟨h1, _⟩ | ⟨j, _, h2, h3, _⟩
  · exact h1
  · rw [h j h2] at h3
    cases h3
theorem none_zero (p : LP) (k : Nat) : pickF p.x0.f7 p.x0.f8 p.x0.f9 p.x1.f4 (zs p k) = 0 := pick_none fun i hi => by
  have hm := rd_mem hi
  obtain ⟨x, _, hx⟩ := List.mem_map.1 hm
  unfold beats
  rw [← hx]
  rfl
theorem cost_in : ∀ (l : List S64) (a : Int), l.all markOk = true → 0 ≤ a → a + 1000000000 * (l.length : Int) ≤ 100000000000 → 0 ≤ l.foldl (fun a m => wrap64 (a + m.f0)) a ∧ l.foldl (fun a m => wrap64 (a + m.f0)) a ≤ a + 1000000000 * (l.length : Int)
  | [], a, _, h0, _ => ⟨h0, by simp⟩
  | m :: l, a, h, h0, h1 => by
    rw [List.all_cons, Bool.and_eq_true] at h
    obtain ⟨hm, hl⟩ := h
    have hb : 0 ≤ m.f0 ∧ m.f0 ≤ 1000000000 := by
      unfold markOk at hm
      simp at hm
      omega
    rw [List.length_cons] at h1 ⊢
    have e : wrap64 (a + m.f0) = a + m.f0 := by unfold wrap64; omega
    have ih := cost_in l (a + m.f0) hl (by omega) (by omega)
    rw [List.foldl_cons, e]
    omega
theorem sim_cost {x : S37} (h : simOk x = true) : 0 ≤ costF x.f4 ∧ costF x.f4 ≤ 32000000000 := by
  unfold simOk simB at h
  simp only [Bool.and_eq_true, Bool.not_eq_true', decide_eq_false_iff_not] at h
  have h1 : x.f4.length ≤ 32 := by omega
  have h2 : x.f4.all markOk = true := h.1.2
  have := cost_in x.f4 0 h2 (by omega) (by omega)
  unfold costF
  omega
def MarginIn (p : LP) : Prop := 0 ≤ p.x0.f8 ∧ p.x0.f8 ≤ 1000000000
theorem margin_in {p : LP} (h : p.conf = true) : MarginIn p := by
  unfold LP.conf W.confB W.sizeB W.plantB W.judgeB W.inB at h
  unfold MarginIn
  simp only [Bool.and_eq_true, decide_eq_true_eq] at h
  omega
theorem all_mem {p : LP} (h : p.all = true) : p.l.length < 20 ∧ ∀ x ∈ p.l, simOk x = true := by
  unfold LP.all at h
  rw [Bool.and_eq_true] at h
  obtain ⟨h1, h2⟩ := h
  have h2 := of_decide_eq_true h2
  rw [List.take_of_length_le (by omega)] at h1
  exact ⟨by omega, fun x hx => List.all_eq_true.1 h1 x hx⟩
theorem none_more {p : LP} (hc : MarginIn p) (ha : ∀ x ∈ p.l, simOk x = true) (k : Nat) : pickF p.x0.f7 p.x0.f8 p.x0.f9 p.x1.f4 (ms p k) = 0 := pick_none fun i hi => by
  have hm := rd_mem hi
  obtain ⟨h1, h2⟩ := List.mem_filter.1 hm
  have hs := sim_cost (ha _ (List.mem_of_mem_take h1))
  have hd := of_decide_eq_true h2
  obtain ⟨hc0, hc1⟩ := hc
  unfold beats betterF
  have e : wrap64 (costF (rd_T37 (ms p k) i).f4 + p.x0.f8) = costF (rd_T37 (ms p k) i).f4 + p.x0.f8 := by unfold wrap64; omega
  rw [e]
  have hf : decide (costF (rd_T37 (ms p k) i).f4 + p.x0.f8 ≤ costF p.x1.f4) = false := decide_eq_false (by omega)
  rw [hf]
  simp
set_option maxRecDepth 100000 in
set_option maxHeartbeats 16000000 in
theorem none_walk (p : LP) (A : Option Addr) (HA : Aside0 (p.A = A)) (HB : Aside0 (LAt p ((p.w.alloc (.cells p.C0 23)).alloc (.cells p.C1 37)))) :
    Calls Try.prog 7 #[.agg p.C0, .agg p.C1, .slice A p.l.length p.c] p.w fun e w' => e = .returned (.bool true) ∧ Below p.w.heap.size p.w w' := by
  have hu23 := Try.underlying23
  have hu37 := Try.underlying37
  have hu38 := Try.underlying38
  have hm : Try.prog.follows .mixedOrders = true := by kernel_rfl
  have hi23 : (Try.prog.info? 23).map (·.size) = some 12 := by kernel_rfl
  have hi37 : (Try.prog.info? 37).map (·.size) = some 19 := by kernel_rfl
  go_enter Try.func7, Try.ntmps7
  go_wp2_with fail
  refine (lk_head HB.out).mono ?_
  rintro e w1 ⟨rfl, h1⟩
  have H1 := Aside0.mk h1
  clear h1 HB
  go_wp2_with (first
    | (with_reducible refine hd_gate 16 rfl ?_); refine hd_run rfl (v := .agg p.C0) (w1 := w1) (pick_loadRow rfl p.w.heap.size rfl 23 _ (0, 0) _ H1.out.b0 hu23 rfl hi23) ?_)
  refine (lk_conf H1.out).mono ?_
  rintro e w2 ⟨rfl, h2⟩
  have H2 := Aside0.mk h2
  clear h2 H1
  cases hc : p.conf
  · go_wp2_with fail
    go_ret
    exact ⟨rfl, H2.out.below⟩
  have HC := Aside0.mk hc
  clear hc
  go_wp2_with (first
    | (with_reducible refine hd_gate 20 rfl ?_); refine hd_run rfl (v := .agg p.C1) (w1 := w2) (pick_loadRow rfl (p.w.heap.size + 1) rfl 37 _ (0, 0) _ H2.out.b1 hu37 rfl hi37) ?_)
  refine (lk_live H2.out).mono ?_
  rintro e w3 ⟨rfl, h3⟩
  have H3 := Aside0.mk h3
  clear h3 H2
  cases hc : p.live
  · go_wp2_with fail
    go_ret
    exact ⟨rfl, H3.out.below⟩
  have HL0 := Aside0.mk hc
  clear hc
  go_wp2_with fail
  refine (show Calls Try.prog 11 #[.slice A p.l.length p.c] w3 _ from HA.out ▸ lk_all H3.out).mono ?_
  rintro e w4 ⟨rfl, h4⟩
  have H4 := Aside0.mk h4
  clear h4 H3
  cases hc : p.all
  · go_wp2_with fail
    go_ret
    exact ⟨rfl, H4.out.below⟩
  obtain ⟨hl20, hall⟩ := all_mem hc
  have HALL := Aside0.mk hall
  have HMG := Aside0.mk (margin_in HC.out)
  clear hall hc HC HL0
  have HF := Aside0.mk (Kd.C_F heap37 H4.out.rl)
  have hmax : p.l.length ≤ 9223372036854775807 := by omega
  go_wp2_with fail
  go_loopw [8, 9, 10] (fun v8 v9 i wr => ∃ (k : Nat) (vz vm : Value), k ≤ p.l.length ∧ vz = v8 ∧ vm = v9 ∧ i = .int .i64 k ∧ Aside0 (Below w4.heap.size w4 wr) ∧ Aside0 (Kd.N k37 37 wr w4.heap.size (fun j => True ∧ some j ≠ vm.ownBlock) vz (zs p k)) ∧ Aside0 (Kd.N k37 37 wr w4.heap.size (fun j => True ∧ some j ≠ vz.ownBlock) vm (ms p k))) (fun _ _ i _ => p.l.length - (intOf i).toNat)
  case atStart => exact ⟨0, _, _, Nat.zero_le _, rfl, rfl, rfl, ⟨Below.refl _ _⟩, ⟨Kd.N_mono (Kd.N_nil k37 37 w4 w4.heap.size (fun _ => True)) (fun j _ => ⟨trivial, by simp [Value.ownBlock]⟩)⟩, ⟨Kd.N_mono (Kd.N_nil k37 37 w4 w4.heap.size (fun _ => True)) (fun j _ => ⟨trivial, by simp [Value.ownBlock]⟩)⟩⟩
  case round =>
    obtain ⟨k, vz, vm, hk, rfl, rfl, rfl, HB, HZ, HM⟩ := hrel
    by_cases hlt : k < p.l.length
    · have HL := Aside0.mk (H4.out.later HB.out)
      obtain ⟨ad, A2, A7, A15, A18, c2, c7, c15, c18, hE, hFK⟩ := HL.out.eltF (Kd.F_below HF.out HB.out) k hlt
      obtain rfl : some ad = A := hE.hA.symm.trans HA.out
      have HFK := Aside0.mk hFK
      have dm := hE.at 18 _ rfl (by decide)
      have hlen := zs_len p k
      have hlen2 := ms_len p k
      clear hE hFK
      have wk : IntKind.i64.wrap ((k : Int) + 1) = (k : Int) + 1 := by rw [IntKind.wrap_i64] <;> omega
      have wk' : wrap64 ((k : Int) + 1) = (k : Int) + 1 := by unfold wrap64; omega
      go_upto_region 10 with (first
        | (at_builtin; (with_reducible refine Kd.N_append k37 (w0 := w4) w4.heap.size rfl (.tmp 36) (.tmp 43) 38 37 (.agg #[.int .i64 0, .int .i64 0, .slice none 0 0, .int .i64 0, .int .i64 0, .int .i64 0, .int .i64 0, .slice none 0 0, .int .i64 0, .int .i64 0, .bool false, .int .i64 0, .int .i64 0, .bool false, .int .i64 0, .slice none 0 0, .int .i64 0, .int .i64 0, .slice none 0 0]) 216 rfl Try.underlying38 info37k rfl (by decide) (by omega) vz (zs p k) (zeroed (rd_T37 p.l k)) ([.int .i64 0, .int .i64 0, .slice none 0 0, .int .i64 0, .int .i64 0, .int .i64 0, .int .i64 0, .slice none 0 0, .int .i64 0, .int .i64 0, .bool false, .int .i64 0, .int .i64 0, .bool false, .int .i64 0, .slice none 0 0, .int .i64 0, .int .i64 0, .slice A18 (rd_T37 p.l k).f4.length c18]) (fun j => True ∧ some j ≠ vm.ownBlock) (fun j => j < w4.heap.size) rfl rfl ?hp ?hok ?hfr HZ.out HB.out HB.out.size ?hl ?nx); (case hp => exact zero_FK HFK.out); (case hok => exact fun j hj => ⟨⟨trivial, ok_own HM.out j hj⟩, ok_own HZ.out j hj⟩); (case hfr => exact fun j hj => ⟨trivial, fun e => by have := Kd.N_lt HM.out j e.symm; omega⟩); (case hl => omega); intro v1 w1 hN1 hB1 hG1 hat1; rw [zs_snoc hlt] at hN1; have HZ1 := Aside0.mk hN1; have HM1 := Aside0.mk (Kd.N_after HM.out hG1 hat1); have HB1 := Aside0.mk hB1; clear hN1 hB1 hG1 hat1 HZ HM HFK))
      have HL1 := Aside0.mk (H4.out.later HB1.out)
      clear dm HB HL
      obtain ⟨ad', B2, B7, B15, B18, d2, d7, d15, d18, hE, hFK⟩ := HL1.out.eltF (Kd.F_below HF.out HB1.out) k hlt
      obtain rfl : ad = ad' := Option.some.inj (HA.out.symm.trans hE.hA)
      have dm := hE.at 18 _ rfl (by decide)
      have cl : w1.cell? ⟨p.w.heap.size + 1, 18, none⟩ = some (.slice p.A18 p.x1.f4.length p.c18) := pick_cell HL1.out.b1 18 rfl
      have HE1 := Aside0.mk hE
      have HFK1 := Aside0.mk hFK
      clear hE hFK
      cases hd : dearer p (rd_T37 p.l k)
      · have f1 : decide (costF p.x1.f4 < costF (rd_T37 p.l k).f4) = false := hd
        have em := ms_no hlt hd
        have HMn := Aside0.mk (em ▸ HM1.out)
        clear hd em
        go_quiet (first | with_reducible exact lq_cost HE1.out.r18 HE1.out.m18 _ | with_reducible exact lq_cost HL1.out.r18 HL1.out.m18 _)
        go_wp2_with fail
        go_roundw
        case rel => exact ⟨k + 1, _, _, by omega, rfl, rfl, by simp, ⟨pw_below_drewN HB1.out _⟩, ⟨Kd.N_drewN HZ1.out _⟩, ⟨Kd.N_drewN HMn.out _⟩⟩
        case measure => simp [intOf]; omega
      · have f1 : decide (costF p.x1.f4 < costF (rd_T37 p.l k).f4) = true := hd
        have em := Aside0.mk (ms_yes hlt hd)
        clear hd
        go_quiet (first | with_reducible exact lq_cost HE1.out.r18 HE1.out.m18 _ | with_reducible exact lq_cost HL1.out.r18 HL1.out.m18 _)
        have HB2 := Aside0.mk (show Below w4.heap.size w4 (w1.drewN nq) from pw_below_drewN HB1.out nq)
        have HZ2 := Aside0.mk (Kd.N_drewN HZ1.out nq)
        have HM2 := Aside0.mk (Kd.N_drewN HM1.out nq)
        have HE2 := Aside0.mk (HE1.out.later (lq_below nq))
        have HFK2 := Aside0.mk (Kd.FK_step HFK1.out (fun j _ hj => (lq_below nq).block j hj))
        generalize w1.drewN nq = w2 at *
        clear dm cl HB1 HZ1 HM1 HE1 HFK1 HL1
        go_wp2_with (first
          | (with_reducible refine hd_gate 59 rfl ?_); refine hd_run rfl (v := .agg #[.int .i64 (rd_T37 p.l k).f0.f0, .int .i64 (rd_T37 p.l k).f0.f1, .slice B2 (rd_T37 p.l k).f0.f2.length d2, .int .i64 (rd_T37 p.l k).f0.f3, .int .i64 (rd_T37 p.l k).f0.f4, .int .i64 (rd_T37 p.l k).f0.f5, .int .i64 (rd_T37 p.l k).f0.f6, .slice B7 (rd_T37 p.l k).f0.f7.length d7, .int .i64 (rd_T37 p.l k).f1.f0, .int .i64 (rd_T37 p.l k).f1.f1, .bool (rd_T37 p.l k).f1.f2, .int .i64 (rd_T37 p.l k).f2.f0, .int .i64 (rd_T37 p.l k).f2.f1, .bool (rd_T37 p.l k).f2.f2, .int .i64 (rd_T37 p.l k).f3.f0, .slice B15 (rd_T37 p.l k).f3.f1.length d15, .int .i64 (rd_T37 p.l k).f3.f2, .int .i64 (rd_T37 p.l k).f3.f3, .slice B18 (rd_T37 p.l k).f4.length d18]) (w1 := w2) (pick_load rfl rfl (pick_loadAt w2 _ 37 [.int .i64 (rd_T37 p.l k).f0.f0, .int .i64 (rd_T37 p.l k).f0.f1, .slice B2 (rd_T37 p.l k).f0.f2.length d2, .int .i64 (rd_T37 p.l k).f0.f3, .int .i64 (rd_T37 p.l k).f0.f4, .int .i64 (rd_T37 p.l k).f0.f5, .int .i64 (rd_T37 p.l k).f0.f6, .slice B7 (rd_T37 p.l k).f0.f7.length d7, .int .i64 (rd_T37 p.l k).f1.f0, .int .i64 (rd_T37 p.l k).f1.f1, .bool (rd_T37 p.l k).f1.f2, .int .i64 (rd_T37 p.l k).f2.f0, .int .i64 (rd_T37 p.l k).f2.f1, .bool (rd_T37 p.l k).f2.f2, .int .i64 (rd_T37 p.l k).f3.f0, .slice B15 (rd_T37 p.l k).f3.f1.length d15, .int .i64 (rd_T37 p.l k).f3.f2, .int .i64 (rd_T37 p.l k).f3.f3, .slice B18 (rd_T37 p.l k).f4.length d18] _ HE2.out.cells hu37 rfl hi37)) ?_
          | (at_builtin; (with_reducible refine Kd.N_append k37 (w0 := w4) w4.heap.size rfl (.tmp 55) (.tmp 60) 38 37 (.agg #[.int .i64 0, .int .i64 0, .slice none 0 0, .int .i64 0, .int .i64 0, .int .i64 0, .int .i64 0, .slice none 0 0, .int .i64 0, .int .i64 0, .bool false, .int .i64 0, .int .i64 0, .bool false, .int .i64 0, .slice none 0 0, .int .i64 0, .int .i64 0, .slice none 0 0]) 216 rfl Try.underlying38 info37k rfl (by decide) (by omega) vm (ms p k) (rd_T37 p.l k) ([.int .i64 (rd_T37 p.l k).f0.f0, .int .i64 (rd_T37 p.l k).f0.f1, .slice B2 (rd_T37 p.l k).f0.f2.length d2, .int .i64 (rd_T37 p.l k).f0.f3, .int .i64 (rd_T37 p.l k).f0.f4, .int .i64 (rd_T37 p.l k).f0.f5, .int .i64 (rd_T37 p.l k).f0.f6, .slice B7 (rd_T37 p.l k).f0.f7.length d7, .int .i64 (rd_T37 p.l k).f1.f0, .int .i64 (rd_T37 p.l k).f1.f1, .bool (rd_T37 p.l k).f1.f2, .int .i64 (rd_T37 p.l k).f2.f0, .int .i64 (rd_T37 p.l k).f2.f1, .bool (rd_T37 p.l k).f2.f2, .int .i64 (rd_T37 p.l k).f3.f0, .slice B15 (rd_T37 p.l k).f3.f1.length d15, .int .i64 (rd_T37 p.l k).f3.f2, .int .i64 (rd_T37 p.l k).f3.f3, .slice B18 (rd_T37 p.l k).f4.length d18]) (fun j => True ∧ some j ≠ v1.ownBlock) (fun j => j < w4.heap.size) rfl rfl ?hp2 ?hok2 ?hfr2 HM2.out HB2.out HB2.out.size ?hl2 ?nx2); (case hp2 => exact HFK2.out); (case hok2 => exact fun j hj => ⟨⟨trivial, ok_own HZ2.out j hj⟩, ok_own HM2.out j hj⟩); (case hfr2 => exact fun j hj => ⟨trivial, fun e => by have := Kd.N_lt HZ2.out j e.symm; omega⟩); (case hl2 => omega); intro v3 w3 hN3 hB3 hG3 hat3; rw [em.out] at hN3; have HM3 := Aside0.mk hN3; have HZ3 := Aside0.mk (Kd.N_after HZ2.out hG3 hat3); have HB3 := Aside0.mk hB3; clear hN3 hB3 hG3 hat3 HZ2 HM2 HFK2 HE2 HB2))
        go_roundw
        case rel => exact ⟨k + 1, _, _, by omega, rfl, rfl, by simp, HB3, HZ3, HM3⟩
        case measure => simp [intOf]; omega
    · have HL := Aside0.mk (H4.out.later HB.out)
      obtain ⟨Az, cz, rfl, hlz, hCz⟩ := Kd.N_reads HZ.out
      obtain ⟨Am, cm, rfl, hlm, hCm⟩ := Kd.N_reads HM.out
      generalize hnz : (zs p k).length = nz at hlz hCz ⊢
      generalize hnm : (ms p k).length = nm at hlm hCm ⊢
      have HNZ := Aside0.mk hnz
      have HNM := Aside0.mk hnm
      have HCZ := Aside0.mk hCz
      have HCM := Aside0.mk hCm
      have HLZ := Aside0.mk hlz
      have HLM := Aside0.mk hlm
      clear hnz hnm hCz hCm hlz hlm HZ HM
      go_wp2_with (first
        | (with_reducible refine hd_gate 63 rfl ?_); refine hd_run rfl (v := .agg p.C0) (w1 := wr) (pick_loadRow rfl p.w.heap.size rfl 23 _ (0, 0) _ HL.out.b0 hu23 rfl hi23) ?_
        | (with_reducible refine hd_gate 64 rfl ?_); refine hd_run rfl (v := .agg p.C1) (w1 := wr) (pick_loadRow rfl (p.w.heap.size + 1) rfl 37 _ (0, 0) _ HL.out.b1 hu37 rfl hi37) ?_)
      refine (lk_pick HL.out Az cz (zs p k) nz HNZ.out.symm HCZ.out HLZ.out).mono ?_
      rw [none_zero]
      rintro e w6 ⟨rfl, h6, hb6⟩
      have H6 := Aside0.mk h6
      have HCM6 := Aside0.mk (Kd.C_below HCM.out hb6)
      clear h6 hb6 HCM HL
      go_wp2_with (first
        | (with_reducible refine hd_gate 70 rfl ?_); refine hd_run rfl (v := .agg p.C0) (w1 := w6) (pick_loadRow rfl p.w.heap.size rfl 23 _ (0, 0) _ H6.out.b0 hu23 rfl hi23) ?_
        | (with_reducible refine hd_gate 71 rfl ?_); refine hd_run rfl (v := .agg p.C1) (w1 := w6) (pick_loadRow rfl (p.w.heap.size + 1) rfl 37 _ (0, 0) _ H6.out.b1 hu37 rfl hi37) ?_)
      refine (lk_pick H6.out Am cm (ms p k) nm HNM.out.symm HCM6.out HLM.out).mono ?_
      rw [none_more HMG.out HALL.out]
      rintro e w7 ⟨rfl, h7, _⟩
      have H7 := Aside0.mk h7
      clear h7
      go_wp2_with fail
      go_ret
      exact ⟨rfl, H7.out.below⟩
def governorlaw19_PromoteNone.f (a0_0 : Int) (a0_1 : Int) (a0_2 : Int) (a0_3 : Int) (a0_4 : Int) (a0_5 : Int) (a0_6 : Int) (a0_7 : Int) (a0_8 : Int) (a0_9 : Int) (a0_10 : Int) (a0_11 : Int) (a1_0 : Int) (a1_1 : Int) (l1_2 : List (S72)) (a1_3 : Int) (a1_4 : Int) (a1_5 : Int) (a1_6 : Int) (l1_7 : List (S74)) (a1_8 : Int) (a1_9 : Int) (a1_10 : Bool) (a1_11 : Int) (a1_12 : Int) (a1_13 : Bool) (a1_14 : Int) (l1_15 : List Int) (a1_16 : Int) (a1_17 : Int) (l1_18 : List (S64)) (l2 : List (S37)) : Option (Bool) := some true
set_option maxRecDepth 100000 in
theorem governorlaw19_PromoteNone.calls (a0_0 : Int) (a0_1 : Int) (a0_2 : Int) (a0_3 : Int) (a0_4 : Int) (a0_5 : Int) (a0_6 : Int) (a0_7 : Int) (a0_8 : Int) (a0_9 : Int) (a0_10 : Int) (a0_11 : Int) (a1_0 : Int) (a1_1 : Int) (A1_2 : Option Addr) (c1_2 : Nat) (l1_2 : List (S72)) (a1_3 : Int) (a1_4 : Int) (a1_5 : Int) (a1_6 : Int) (A1_7 : Option Addr) (c1_7 : Nat) (l1_7 : List (S74)) (a1_8 : Int) (a1_9 : Int) (a1_10 : Bool) (a1_11 : Int) (a1_12 : Int) (a1_13 : Bool) (a1_14 : Int) (A1_15 : Option Addr) (c1_15 : Nat) (l1_15 : List Int) (a1_16 : Int) (a1_17 : Int) (A1_18 : Option Addr) (c1_18 : Nat) (l1_18 : List (S64)) (A2 : Option Addr) (c2 : Nat) (l2 : List (S37)) (r : Bool) (w : World) (hr1_2 : Kd.C k72 w A1_2 l1_2.length l1_2) (hc1_2 : l1_2.length ≤ c1_2) (hr1_7 : Kd.C k74 w A1_7 l1_7.length l1_7) (hc1_7 : l1_7.length ≤ c1_7) (hr1_15 : Kd.C (Kd.int .i64) w A1_15 l1_15.length l1_15) (hc1_15 : l1_15.length ≤ c1_15) (hr1_18 : Kd.C k64 w A1_18 l1_18.length l1_18) (hc1_18 : l1_18.length ≤ c1_18) (hr2 : Kd.C k37 w A2 l2.length l2) (hc2 : l2.length ≤ c2) (h : governorlaw19_PromoteNone.f a0_0 a0_1 a0_2 a0_3 a0_4 a0_5 a0_6 a0_7 a0_8 a0_9 a0_10 a0_11 a1_0 a1_1 l1_2 a1_3 a1_4 a1_5 a1_6 l1_7 a1_8 a1_9 a1_10 a1_11 a1_12 a1_13 a1_14 l1_15 a1_16 a1_17 l1_18 l2 = some r) :
    Calls Try.prog 7 #[.agg #[.int .i64 a0_0, .int .i64 a0_1, .int .i64 a0_2, .int .i64 a0_3, .int .i64 a0_4, .int .i64 a0_5, .int .i64 a0_6, .int .i64 a0_7, .int .i64 a0_8, .int .i64 a0_9, .int .i64 a0_10, .int .i64 a0_11], .agg #[.int .i64 a1_0, .int .i64 a1_1, .slice A1_2 l1_2.length c1_2, .int .i64 a1_3, .int .i64 a1_4, .int .i64 a1_5, .int .i64 a1_6, .slice A1_7 l1_7.length c1_7, .int .i64 a1_8, .int .i64 a1_9, .bool a1_10, .int .i64 a1_11, .int .i64 a1_12, .bool a1_13, .int .i64 a1_14, .slice A1_15 l1_15.length c1_15, .int .i64 a1_16, .int .i64 a1_17, .slice A1_18 l1_18.length c1_18], .slice A2 l2.length c2] w fun e w' => e = .returned (.bool r) ∧ Below w.heap.size w w' := by
  obtain rfl : true = r := Option.some.inj h
  exact none_walk ⟨⟨a0_0, a0_1, a0_2, a0_3, a0_4, a0_5, a0_6, a0_7, a0_8, a0_9, a0_10, a0_11⟩, ⟨⟨a1_0, a1_1, l1_2, a1_3, a1_4, a1_5, a1_6, l1_7⟩, ⟨a1_8, a1_9, a1_10⟩, ⟨a1_11, a1_12, a1_13⟩, ⟨a1_14, l1_15, a1_16, a1_17⟩, l1_18⟩, A1_2, A1_7, A1_15, A1_18, c1_2, c1_7, c1_15, c1_18, A2, c2, l2, w⟩ A2 ⟨rfl⟩ ⟨LAt.begin ⟨⟨a0_0, a0_1, a0_2, a0_3, a0_4, a0_5, a0_6, a0_7, a0_8, a0_9, a0_10, a0_11⟩, ⟨⟨a1_0, a1_1, l1_2, a1_3, a1_4, a1_5, a1_6, l1_7⟩, ⟨a1_8, a1_9, a1_10⟩, ⟨a1_11, a1_12, a1_13⟩, ⟨a1_14, l1_15, a1_16, a1_17⟩, l1_18⟩, A1_2, A1_7, A1_15, A1_18, c1_2, c1_7, c1_15, c1_18, A2, c2, l2, w⟩ hr1_2 hc1_2 hr1_7 hc1_7 hr1_15 hc1_15 hr1_18 hc1_18 hr2 hc2⟩


end Go.Proofs.Ytlenanfkphglaaa.Print
