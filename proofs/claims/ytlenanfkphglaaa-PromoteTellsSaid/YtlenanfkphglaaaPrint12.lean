/- Pruned: a text of this claim's: words and walks that the claim's theorem uses. -/
import Derived.Test.YtlenanfkphglaaaPrint0
import Derived.Test.YtlenanfkphglaaaPrint5
import Derived.Test.YtlenanfkphglaaaPrint10
import Derived.Test.YtlenanfkphglaaaPrint11
namespace Go.Proofs.Ytlenanfkphglaaa.Print
open Go.RowKit Go.Proofs.YtlenanfkphglaaaW.PrintWords Go.Proofs.YtlenanfkphglaaaW.PrintLast Go.Proofs.YtlenanfkphglaaaW.PrintMore
attribute [local go_sem] max2_int min2_int max_two min_two max_three min_three max_four min_four
set_option linter.unusedVariables false
set_option linter.unusedSimpArgs false
theorem betterR_f (a0_0 a0_1 a0_2 a0_3 a0_4 a0_5 a0_6 a0_7 a0_8 a0_9 a0_10 a0_11 : Int) (live l : List S64) : governorref17_Better.f a0_0 a0_1 a0_2 a0_3 a0_4 a0_5 a0_6 a0_7 a0_8 a0_9 a0_10 a0_11 live l = some (betterF a0_7 a0_8 a0_9 live l) := by
  unfold governorref17_Better.f betterF
  simp only [governorref17_Bad.f, governorref17_Cost.f, Option.bind_some]
  split <;> (try rfl) <;> split <;> (try rfl) <;> split <;> rfl
theorem zeroR_f (a b : Int) (l : List S72) (c d e f : Int) (m : List S74) : governorref14_Zero.f a b l c d e f m = some (a == 0) := by
  unfold governorref14_Zero.f
  first | rfl | (congr 1; done) | (simp; done)
theorem ref_w (x : Int) (h0 : -9223372036854775808 ≤ x) (h1 : x ≤ 9223372036854775807) : wrap64 x = x := by
  first | exact wrap64_id h0 h1 | (unfold wrap64; omega) | (rw [wrap64, IntKind.wrap_i64] <;> omega)
theorem ref_l0 (a0_0 a0_1 a0_2 a0_3 a0_4 a0_5 a0_6 a0_7 a0_8 a0_9 a0_10 a0_11 a1_0 a1_1 : Int) (l1_2 : List S72) (a1_3 a1_4 a1_5 a1_6 : Int) (l1_7 : List S74) (a1_8 a1_9 : Int) (a1_10 : Bool) (a1_11 a1_12 : Int) (a1_13 : Bool) (a1_14 : Int) (l1_15 : List Int) (a1_16 a1_17 : Int) (l1_18 : List S64) (l2 : List S37) (hm : l2.length ≤ 9223372036854775807) : ∀ (d k : Nat), k + d = l2.length →
    governorref19_Pick.l0 (2 * d + 1) l2 (pickFold l2 (plc (beats a0_7 a0_8 a0_9 l1_18 l2) l2.length k)) (k : Int) a0_0 a0_1 a0_2 a0_3 a0_4 a0_5 a0_6 a0_7 a0_8 a0_9 a0_10 a0_11 a1_0 a1_1 l1_2 a1_3 a1_4 a1_5 a1_6 l1_7 a1_8 a1_9 a1_10 a1_11 a1_12 a1_13 a1_14 l1_15 a1_16 a1_17 l1_18 = some (pickF a0_7 a0_8 a0_9 l1_18 l2, decide (0 < pickF a0_7 a0_8 a0_9 l1_18 l2))
  | 0, k, h => by
    obtain rfl : k = l2.length := by omega
    unfold governorref19_Pick.l0
    rw [if_neg (by omega)]
    rfl
  | d + 1, k, h => by
    have hk : k < l2.length := by omega
    have ih := ref_l0 a0_0 a0_1 a0_2 a0_3 a0_4 a0_5 a0_6 a0_7 a0_8 a0_9 a0_10 a0_11 a1_0 a1_1 l1_2 a1_3 a1_4 a1_5 a1_6 l1_7 a1_8 a1_9 a1_10 a1_11 a1_12 a1_13 a1_14 l1_15 a1_16 a1_17 l1_18 l2 hm d (k + 1) (by omega)
    have hin := pickFold_in l2 (plc (beats a0_7 a0_8 a0_9 l1_18 l2) l2.length k)
    have wk : wrap64 ((k : Int) + 1) = ((k + 1 : Nat) : Int) := by rw [ref_w _ (by omega) (by omega)]; omega
    rw [show 2 * (d + 1) + 1 = (2 * d + 1 + 1) + 1 by omega]
    unfold governorref19_Pick.l0
    rw [if_pos (by omega), if_pos (by omega), zeroR_f, Option.bind_some]
    have hno : (beats a0_7 a0_8 a0_9 l1_18 l2) k = false → governorref19_Pick.j1 (2 * d + 1 + 1) l2 (pickFold l2 (plc (beats a0_7 a0_8 a0_9 l1_18 l2) l2.length k)) (k : Int) false a0_0 a0_1 a0_2 a0_3 a0_4 a0_5 a0_6 a0_7 a0_8 a0_9 a0_10 a0_11 a1_0 a1_1 l1_2 a1_3 a1_4 a1_5 a1_6 l1_7 a1_8 a1_9 a1_10 a1_11 a1_12 a1_13 a1_14 l1_15 a1_16 a1_17 l1_18 = some (pickF a0_7 a0_8 a0_9 l1_18 l2, decide (0 < pickF a0_7 a0_8 a0_9 l1_18 l2)) := fun hb => by
      unfold governorref19_Pick.j1
      rw [if_neg (by decide), wk]
      rwa [plc_no hb] at ih
    cases hz : ((rd_T37 l2 k).f0.f0 == 0)
    · rw [if_neg (by decide), betterR_f, Option.bind_some]
      have hb : (beats a0_7 a0_8 a0_9 l1_18 l2) k = betterF a0_7 a0_8 a0_9 l1_18 (rd_T37 l2 k).f4 := by unfold beats; rw [hz]; rfl
      cases hbt : betterF a0_7 a0_8 a0_9 l1_18 (rd_T37 l2 k).f4
      · exact hno (hb.trans hbt)
      · rw [hbt] at hb
        rw [plc_yes hk hb, pickFold_snoc] at ih
        unfold governorref19_Pick.j1
        rw [if_pos rfl]
        unfold pickStep at ih
        generalize pickFold l2 (plc (beats a0_7 a0_8 a0_9 l1_18 l2) l2.length k) = s at ih hin ⊢
        by_cases h0 : s = 0
        · rw [if_pos h0] at ih ⊢
          rw [wk]
          exact ih
        · rw [if_neg h0] at ih ⊢
          rw [if_pos (by omega), if_pos (by omega), governorref17_Cost.f, Option.bind_some, ref_w (s - 1) (by omega) (by omega), if_pos (by omega), if_pos (by omega), governorref17_Cost.f, Option.bind_some, wk]
          simp only [show (k : Int) + 1 - 1 = (k : Int) by omega] at ih
          split
          · rename_i hc
            rw [if_pos hc] at ih
            exact ih
          · rename_i hc
            rw [if_neg hc] at ih
            exact ih
    · rw [if_pos rfl]
      exact hno (by unfold beats; rw [hz]; rfl)
theorem ref_pick (a0_0 a0_1 a0_2 a0_3 a0_4 a0_5 a0_6 a0_7 a0_8 a0_9 a0_10 a0_11 a1_0 a1_1 : Int) (l1_2 : List S72) (a1_3 a1_4 a1_5 a1_6 : Int) (l1_7 : List S74) (a1_8 a1_9 : Int) (a1_10 : Bool) (a1_11 a1_12 : Int) (a1_13 : Bool) (a1_14 : Int) (l1_15 : List Int) (a1_16 a1_17 : Int) (l1_18 : List S64) (l2 : List S37) (hm : l2.length ≤ 9223372036854775807) : governorref19_Pick.f (2 * l2.length + 1) a0_0 a0_1 a0_2 a0_3 a0_4 a0_5 a0_6 a0_7 a0_8 a0_9 a0_10 a0_11 a1_0 a1_1 l1_2 a1_3 a1_4 a1_5 a1_6 l1_7 a1_8 a1_9 a1_10 a1_11 a1_12 a1_13 a1_14 l1_15 a1_16 a1_17 l1_18 l2 = some (pickF a0_7 a0_8 a0_9 l1_18 l2, decide (0 < pickF a0_7 a0_8 a0_9 l1_18 l2)) :=
  ref_l0 a0_0 a0_1 a0_2 a0_3 a0_4 a0_5 a0_6 a0_7 a0_8 a0_9 a0_10 a0_11 a1_0 a1_1 l1_2 a1_3 a1_4 a1_5 a1_6 l1_7 a1_8 a1_9 a1_10 a1_11 a1_12 a1_13 a1_14 l1_15 a1_16 a1_17 l1_18 l2 hm l2.length 0 (by omega)
theorem lk_ref {p : LP} {W : World} (h : LAt p W) : Calls Try.prog 13 #[.agg p.C0, .agg p.C1, .slice p.A p.l.length p.c] W fun e W' => e = .returned (.tuple #[.int .i64 (pickF p.x0.f7 p.x0.f8 p.x0.f9 p.x1.f4 p.l), .bool (decide (0 < pickF p.x0.f7 p.x0.f8 p.x0.f9 p.x1.f4 p.l))]) ∧ LAt p W' :=
  (governorref19_Pick.calls (2 * p.l.length + 1) p.x0.f0 p.x0.f1 p.x0.f2 p.x0.f3 p.x0.f4 p.x0.f5 p.x0.f6 p.x0.f7 p.x0.f8 p.x0.f9 p.x0.f10 p.x0.f11 p.x1.f0.f0 p.x1.f0.f1 p.A2 p.c2 p.x1.f0.f2 p.x1.f0.f3 p.x1.f0.f4 p.x1.f0.f5 p.x1.f0.f6 p.A7 p.c7 p.x1.f0.f7 p.x1.f1.f0 p.x1.f1.f1 p.x1.f1.f2 p.x1.f2.f0 p.x1.f2.f1 p.x1.f2.f2 p.x1.f3.f0 p.A15 p.c15 p.x1.f3.f1 p.x1.f3.f2 p.x1.f3.f3 p.A18 p.c18 p.x1.f4 p.A p.c p.l _ _ W h.r2 h.m2 h.r7 h.m7 h.r15 h.m15 h.r18 h.m18 h.rl h.ml (ref_pick p.x0.f0 p.x0.f1 p.x0.f2 p.x0.f3 p.x0.f4 p.x0.f5 p.x0.f6 p.x0.f7 p.x0.f8 p.x0.f9 p.x0.f10 p.x0.f11 p.x1.f0.f0 p.x1.f0.f1 p.x1.f0.f2 p.x1.f0.f3 p.x1.f0.f4 p.x1.f0.f5 p.x1.f0.f6 p.x1.f0.f7 p.x1.f1.f0 p.x1.f1.f1 p.x1.f1.f2 p.x1.f2.f0 p.x1.f2.f1 p.x1.f2.f2 p.x1.f3.f0 p.x1.f3.f1 p.x1.f3.f2 p.x1.f3.f3 p.x1.f4 p.l h.rl.2.1)).mono fun _ _ q => ⟨q.1, h.later q.2⟩
set_option maxRecDepth 100000 in
set_option maxHeartbeats 16000000 in
theorem tells_walk (p : LP) (A : Option Addr) (HA : Aside0 (p.A = A)) (HB : Aside0 (LAt p ((p.w.alloc (.cells p.C0 23)).alloc (.cells p.C1 37)))) :
    Calls Try.prog 3 #[.agg p.C0, .agg p.C1, .slice A p.l.length p.c] p.w fun e w' => e = .returned (.bool true) ∧ Below p.w.heap.size p.w w' := by
  have hu23 := Try.underlying23
  have hu37 := Try.underlying37
  have hu38 := Try.underlying38
  have hm : Try.prog.follows .mixedOrders = true := by kernel_rfl
  have hi23 : (Try.prog.info? 23).map (·.size) = some 12 := by kernel_rfl
  have hi37 : (Try.prog.info? 37).map (·.size) = some 19 := by kernel_rfl
  go_enter Try.func3, Try.ntmps3
  go_wp2_with fail
  refine (lk_head HB.out).mono ?_
  rintro e w1 ⟨rfl, h1⟩
  have H1 := Aside0.mk h1
  clear h1 HB
  go_wp2_with (first
    | (with_reducible refine hd_gate 13 rfl ?_); refine hd_run rfl (v := .agg p.C0) (w1 := w1) (pick_loadRow rfl p.w.heap.size rfl 23 _ (0, 0) _ H1.out.b0 hu23 rfl hi23) ?_)
  refine (lk_conf H1.out).mono ?_
  rintro e w2 ⟨rfl, h2⟩
  have H2 := Aside0.mk h2
  clear h2 H1
  cases hc : p.conf
  · go_wp2_with fail
    go_ret
    exact ⟨rfl, H2.out.below⟩
  have HC := Aside0.mk hc
  clear hc
  go_wp2_with (first
    | (with_reducible refine hd_gate 17 rfl ?_); refine hd_run rfl (v := .agg p.C1) (w1 := w2) (pick_loadRow rfl (p.w.heap.size + 1) rfl 37 _ (0, 0) _ H2.out.b1 hu37 rfl hi37) ?_)
  refine (lk_live H2.out).mono ?_
  rintro e w3 ⟨rfl, h3⟩
  have H3 := Aside0.mk h3
  clear h3 H2
  cases hc : p.live
  · go_wp2_with fail
    go_ret
    exact ⟨rfl, H3.out.below⟩
  have HL0 := Aside0.mk hc
  clear hc
  go_wp2_with fail
  refine (show Calls Try.prog 11 #[.slice A p.l.length p.c] w3 _ from HA.out ▸ lk_all H3.out).mono ?_
  rintro e w4 ⟨rfl, h4⟩
  have H4 := Aside0.mk h4
  clear h4 H3
  cases hc : p.all
  · go_wp2_with fail
    go_ret
    exact ⟨rfl, H4.out.below⟩
  clear hc
  go_wp2_with (first
    | (with_reducible refine hd_gate 28 rfl ?_); refine hd_run rfl (v := .agg p.C0) (w1 := w4) (pick_loadRow rfl p.w.heap.size rfl 23 _ (0, 0) _ H4.out.b0 hu23 rfl hi23) ?_
    | (with_reducible refine hd_gate 29 rfl ?_); refine hd_run rfl (v := .agg p.C1) (w1 := w4) (pick_loadRow rfl (p.w.heap.size + 1) rfl 37 _ (0, 0) _ H4.out.b1 hu37 rfl hi37) ?_)
  refine (lk_pick H4.out A p.c p.l _ rfl (HA.out ▸ H4.out.rl) H4.out.ml).mono ?_
  rintro e w5 ⟨rfl, h5, _⟩
  have H5 := Aside0.mk h5
  clear h5 H4
  generalize hat : pickF p.x0.f7 p.x0.f8 p.x0.f9 p.x1.f4 p.l = at_
  generalize his : decide (0 < at_) = is_
  have HAT := Aside0.mk hat
  have HIS := Aside0.mk his
  clear hat his
  go_wp2_with (first
    | (with_reducible refine hd_gate 35 rfl ?_); refine hd_run rfl (v := .agg p.C0) (w1 := w5) (pick_loadRow rfl p.w.heap.size rfl 23 _ (0, 0) _ H5.out.b0 hu23 rfl hi23) ?_
    | (with_reducible refine hd_gate 36 rfl ?_); refine hd_run rfl (v := .agg p.C1) (w1 := w5) (pick_loadRow rfl (p.w.heap.size + 1) rfl 37 _ (0, 0) _ H5.out.b1 hu37 rfl hi37) ?_)
  refine (show Calls Try.prog 13 #[.agg p.C0, .agg p.C1, .slice A p.l.length p.c] w5 (fun e W' => e = .returned (.tuple #[.int .i64 at_, .bool is_]) ∧ LAt p W') from HIS.out ▸ HAT.out ▸ HA.out ▸ lk_ref H5.out).mono ?_
  rintro e w6 ⟨rfl, h6⟩
  have H6 := Aside0.mk h6
  clear h6 H5
  go_wp2_with fail
  go_ret
  exact ⟨rfl, H6.out.below⟩
def governorlaw19_PromoteTells.f (a0_0 : Int) (a0_1 : Int) (a0_2 : Int) (a0_3 : Int) (a0_4 : Int) (a0_5 : Int) (a0_6 : Int) (a0_7 : Int) (a0_8 : Int) (a0_9 : Int) (a0_10 : Int) (a0_11 : Int) (a1_0 : Int) (a1_1 : Int) (l1_2 : List (S72)) (a1_3 : Int) (a1_4 : Int) (a1_5 : Int) (a1_6 : Int) (l1_7 : List (S74)) (a1_8 : Int) (a1_9 : Int) (a1_10 : Bool) (a1_11 : Int) (a1_12 : Int) (a1_13 : Bool) (a1_14 : Int) (l1_15 : List Int) (a1_16 : Int) (a1_17 : Int) (l1_18 : List (S64)) (l2 : List (S37)) : Option (Bool) := some true
set_option maxRecDepth 100000 in
theorem governorlaw19_PromoteTells.calls (a0_0 : Int) (a0_1 : Int) (a0_2 : Int) (a0_3 : Int) (a0_4 : Int) (a0_5 : Int) (a0_6 : Int) (a0_7 : Int) (a0_8 : Int) (a0_9 : Int) (a0_10 : Int) (a0_11 : Int) (a1_0 : Int) (a1_1 : Int) (A1_2 : Option Addr) (c1_2 : Nat) (l1_2 : List (S72)) (a1_3 : Int) (a1_4 : Int) (a1_5 : Int) (a1_6 : Int) (A1_7 : Option Addr) (c1_7 : Nat) (l1_7 : List (S74)) (a1_8 : Int) (a1_9 : Int) (a1_10 : Bool) (a1_11 : Int) (a1_12 : Int) (a1_13 : Bool) (a1_14 : Int) (A1_15 : Option Addr) (c1_15 : Nat) (l1_15 : List Int) (a1_16 : Int) (a1_17 : Int) (A1_18 : Option Addr) (c1_18 : Nat) (l1_18 : List (S64)) (A2 : Option Addr) (c2 : Nat) (l2 : List (S37)) (r : Bool) (w : World) (hr1_2 : Kd.C k72 w A1_2 l1_2.length l1_2) (hc1_2 : l1_2.length ≤ c1_2) (hr1_7 : Kd.C k74 w A1_7 l1_7.length l1_7) (hc1_7 : l1_7.length ≤ c1_7) (hr1_15 : Kd.C (Kd.int .i64) w A1_15 l1_15.length l1_15) (hc1_15 : l1_15.length ≤ c1_15) (hr1_18 : Kd.C k64 w A1_18 l1_18.length l1_18) (hc1_18 : l1_18.length ≤ c1_18) (hr2 : Kd.C k37 w A2 l2.length l2) (hc2 : l2.length ≤ c2) (h : governorlaw19_PromoteTells.f a0_0 a0_1 a0_2 a0_3 a0_4 a0_5 a0_6 a0_7 a0_8 a0_9 a0_10 a0_11 a1_0 a1_1 l1_2 a1_3 a1_4 a1_5 a1_6 l1_7 a1_8 a1_9 a1_10 a1_11 a1_12 a1_13 a1_14 l1_15 a1_16 a1_17 l1_18 l2 = some r) :
    Calls Try.prog 3 #[.agg #[.int .i64 a0_0, .int .i64 a0_1, .int .i64 a0_2, .int .i64 a0_3, .int .i64 a0_4, .int .i64 a0_5, .int .i64 a0_6, .int .i64 a0_7, .int .i64 a0_8, .int .i64 a0_9, .int .i64 a0_10, .int .i64 a0_11], .agg #[.int .i64 a1_0, .int .i64 a1_1, .slice A1_2 l1_2.length c1_2, .int .i64 a1_3, .int .i64 a1_4, .int .i64 a1_5, .int .i64 a1_6, .slice A1_7 l1_7.length c1_7, .int .i64 a1_8, .int .i64 a1_9, .bool a1_10, .int .i64 a1_11, .int .i64 a1_12, .bool a1_13, .int .i64 a1_14, .slice A1_15 l1_15.length c1_15, .int .i64 a1_16, .int .i64 a1_17, .slice A1_18 l1_18.length c1_18], .slice A2 l2.length c2] w fun e w' => e = .returned (.bool r) ∧ Below w.heap.size w w' := by
  obtain rfl : true = r := Option.some.inj h
  exact tells_walk ⟨⟨a0_0, a0_1, a0_2, a0_3, a0_4, a0_5, a0_6, a0_7, a0_8, a0_9, a0_10, a0_11⟩, ⟨⟨a1_0, a1_1, l1_2, a1_3, a1_4, a1_5, a1_6, l1_7⟩, ⟨a1_8, a1_9, a1_10⟩, ⟨a1_11, a1_12, a1_13⟩, ⟨a1_14, l1_15, a1_16, a1_17⟩, l1_18⟩, A1_2, A1_7, A1_15, A1_18, c1_2, c1_7, c1_15, c1_18, A2, c2, l2, w⟩ A2 ⟨rfl⟩ ⟨LAt.begin ⟨⟨a0_0, a0_1, a0_2, a0_3, a0_4, a0_5, a0_6, a0_7, a0_8, a0_9, a0_10, a0_11⟩, ⟨⟨a1_0, a1_1, l1_2, a1_3, a1_4, a1_5, a1_6, l1_7⟩, ⟨a1_8, a1_9, a1_10⟩, ⟨a1_11, a1_12, a1_13⟩, ⟨a1_14, l1_15, a1_16, a1_17⟩, l1_18⟩, A1_2, A1_7, A1_15, A1_18, c1_2, c1_7, c1_15, c1_18, A2, c2, l2, w⟩ hr1_2 hc1_2 hr1_7 hc1_7 hr1_15 hc1_15 hr1_18 hc1_18 hr2 hc2⟩
end Go.Proofs.Ytlenanfkphglaaa.Print
