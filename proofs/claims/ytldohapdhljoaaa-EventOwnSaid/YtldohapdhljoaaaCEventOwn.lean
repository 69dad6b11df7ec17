/- The law's own texts. -/
import Derived.Test.YtldohapdhljoaaaBh
import Derived.Test.YtldohapdhljoaaaBb
namespace Go.Proofs.Ytldohapdhljoaaa.Wire
open Go.RowKit Go.Proofs.YtldohapdhljoaaaW.PrintWords Go.Proofs.Ytldohapdhljoaaa.Obj Go.Proofs.Ytldohapdhljoaaa.Print
set_option linter.unusedVariables false
set_option linter.unusedSimpArgs false
set_option maxRecDepth 100000
def plainC : Cnf := ⟨1, 20, 4, 3, 100, 1, 50, 4, 2, 1, 3, 1⟩
set_option maxHeartbeats 8000000 in
theorem own_u (e : Ev) (h : rightF e = true) : rightF { e with u := 1 } = (e.k == 1) := by
  revert h
  unfold rightF leftEv restF
  dsimp only
  repeat' split
  all_goals simp_all
set_option maxHeartbeats 8000000 in
theorem own_T (e : Ev) (h : rightF e = true) : rightF { e with T := 1 } = (e.k == 2 || e.k == 5) := by
  revert h
  unfold rightF leftEv restF
  dsimp only
  repeat' split
  all_goals simp_all [inR]
set_option maxHeartbeats 8000000 in
theorem own_n (e : Ev) (h : rightF e = true) : rightF { e with n := 1 } = (e.k == 5) := by
  revert h
  unfold rightF leftEv restF
  dsimp only
  repeat' split
  all_goals simp_all [inR]
set_option maxHeartbeats 8000000 in
theorem own_c (e : Ev) (h : rightF e = true) : rightF { e with c := plainC } = (e.k == 4) := by
  have h1 : cnfOK plainC = true := by decide
  have h2 : cnfZ plainC = false := by decide
  revert h
  unfold rightF leftEv restF
  dsimp only
  repeat' split
  all_goals simp_all
set_option maxHeartbeats 8000000 in
theorem own_b (e : Ev) (h : rightF e = true) : rightF { e with body := [1] } = (e.k == 8) := by
  revert h
  unfold rightF leftEv restF
  dsimp only
  repeat' split
  all_goals simp_all
  intros
  omega
set_option maxHeartbeats 8000000 in
theorem own_id (e : Ev) (h : rightF e = true) : rightF { e with id := 1 } = (e.k == 3 || (e.k == 6 || e.k == 7)) := by
  revert h
  unfold rightF leftEv restF
  dsimp only
  repeat' split
  all_goals simp_all [inR]
  intro _ _ h _ _ _ _ _ _ _
  exact h.imp id (fun x => x.2)
theorem putC (e : Ev) (A2 A7 A8 : Option Addr) (c2 c7 c8 : Nat) : putAll (evC e A2 A7 A8 c2 c7 c8).toArray 14 [.int .i64 1, .int .i64 20, .int .i64 4, .int .i64 3, .int .i64 100, .int .i64 1, .int .i64 50, .int .i64 4, .int .i64 2, .int .i64 1, .int .i64 3, .int .i64 1] = (evC { e with c := plainC } A2 A7 A8 c2 c7 c8).toArray := by
  simp [putAll, evC, plainC]
theorem own_mod (a : Int) (ha : 0 ≤ a ∧ a < 256) : a % 6 = 0 ∨ a % 6 = 1 ∨ a % 6 = 2 ∨ a % 6 = 3 ∨ a % 6 = 4 ∨ a % 6 = 5 := by omega
set_option maxHeartbeats 8000000 in
theorem own_calls (e : Ev) (a : Int) (W : World) (A2 A7 A8 : Option Addr) (c2 c7 c8 : Nat) (h : EvAt e W A2 A7 A8 c2 c7 c8) (ha : 0 ≤ a ∧ a < 256) :
    Calls Try.prog 6 #[.agg (evC e A2 A7 A8 c2 c7 c8).toArray, .int .u8 a] W fun q W' => q = .returned (.bool true) ∧ Below W.heap.size W W' := by
  have hu30 := Try.underlying30
  have hi30 : (Try.prog.info? 30).map (·.size) = some 27 := by kernel_rfl
  obtain ⟨Z, hZ, hz30⟩ : ∃ Z, Z = evZ 0 ∧ ∀ W, (zeroValue 30).run Try.prog W = .ok (.agg Z) W := ⟨evZ 0, rfl, zero30⟩
  have sz : Z.size = 27 := by rw [hZ]; rfl
  have hne : ¬ (Z = #[]) := fun h => by rw [h] at sz; cases sz
  clear hZ
  have H0 := Aside0.mk h
  clear h
  go_enter Try.func6, Try.ntmps6
  go_upto_region 1 with fail
  have B1 := Aside0.mk (below_alloc (Below.refl W.heap.size W) (.cells (evC e A2 A7 A8 c2 c7 c8).toArray 30))
  have X1 := Aside0.mk (pick_new W (.cells (evC e A2 A7 A8 c2 c7 c8).toArray 30))
  have H1 := Aside0.mk (H0.out.later (below_alloc (Below.refl W.heap.size W) (.cells (evC e A2 A7 A8 c2 c7 c8).toArray 30)))
  generalize W.alloc (.cells (evC e A2 A7 A8 c2 c7 c8).toArray 30) = W1 at *
  go_wp2_with fail
  refine (head_holds W1).mono ?_
  rintro q W2 ⟨rfl, hb2⟩
  have B2 := Aside0.mk (B1.out.trans (hb2.mono B1.out.size))
  have X2 := Aside0.mk (hd_later X1.out hb2)
  have H2 := Aside0.mk (H1.out.later hb2)
  clear hb2 B1 X1 H1
  go_wp2_with (first
    | (with_reducible refine hd_gate 9 rfl ?_); refine hd_run (by rfl) (v := .agg (evC e A2 A7 A8 c2 c7 c8).toArray) (w1 := W2) (pick_loadRow rfl W.heap.size rfl 30 _ (0, 0) _ X2.out hu30 rfl hi30) ?_)
  refine (great_ev e W2 _ A2 A7 A8 c2 c7 c8 rfl H2.out).mono ?_
  rintro q W3 ⟨rfl, hb3⟩
  have B3 := Aside0.mk (B2.out.trans (hb3.mono B2.out.size))
  have X3 := Aside0.mk (hd_later X2.out hb3)
  have H3 := Aside0.mk (H2.out.later hb3)
  clear hb3 B2 X2 H2
  cases hgr : greatE e
  case true =>
    clear hgr
    go_wp2_with fail
    go_ret
    exact ⟨rfl, B3.out⟩
  clear hgr
  go_wp2_with (first
    | (with_reducible refine hd_gate 12 rfl ?_); refine hd_run (by rfl) (v := .agg (evC e A2 A7 A8 c2 c7 c8).toArray) (w1 := W3) (pick_loadRow rfl W.heap.size rfl 30 _ (0, 0) _ X3.out hu30 rfl hi30) ?_)
  refine (right_calls e W3 A2 A7 A8 c2 c7 c8 H3.out).mono ?_
  rintro q W4 ⟨rfl, hb4⟩
  have B4 := Aside0.mk (B3.out.trans (hb4.mono B3.out.size))
  have X4 := Aside0.mk (hd_later X3.out hb4)
  have H4 := Aside0.mk (H3.out.later hb4)
  clear hb4 B3 X3 H3
  cases hr : rightF e
  case false =>
    clear hr
    go_wp2_with fail
    go_ret
    exact ⟨rfl, B4.out⟩
  have HR := Aside0.mk hr
  clear hr
  go_upto_region 5 with (first
    | (with_reducible refine hd_gate 17 rfl ?_); refine hd_run (by rfl) (v := .agg (evC e A2 A7 A8 c2 c7 c8).toArray) (w1 := W4) (pick_loadRow rfl W.heap.size rfl 30 _ (0, 0) _ X4.out hu30 rfl hi30) ?_
    | (with_reducible refine hd_gateS 6 _ _ rfl ?_); refine hd_runS rfl (w1 := (W4.alloc (.cells Z 30)).setRow W4.heap.size (evC e A2 A7 A8 c2 c7 c8).toArray) (pick_store rfl W4.heap.size (evC e A2 A7 A8 c2 c7 c8).toArray rfl rfl 30 Z (pick_new W4 _) hi30 (by rw [sz]; rfl) (by simp [evC, Value.oneCell'])) ?_)
  rw [World.setRow_alloc_new]
  have B5 := Aside0.mk (below_alloc B4.out (.cells (evC e A2 A7 A8 c2 c7 c8).toArray 30))
  have X5 := Aside0.mk (hd_later X4.out (below_alloc (Below.refl _ _) (.cells (evC e A2 A7 A8 c2 c7 c8).toArray 30)))
  have Y5 := Aside0.mk (pick_new W4 (.cells (evC e A2 A7 A8 c2 c7 c8).toArray 30))
  have H5 := Aside0.mk (H4.out.later (below_alloc (Below.refl _ _) (.cells (evC e A2 A7 A8 c2 c7 c8).toArray 30)))
  have HG := Aside0.mk (show W.heap.size ≤ W4.heap.size from B4.out.size)
  have HGN := Aside0.mk (show W.heap.size ≠ W4.heap.size from by have := (Array.getElem?_eq_some_iff.1 X4.out).1; omega)
  generalize W4.alloc (.cells (evC e A2 A7 A8 c2 c7 c8).toArray 30) = W5 at *
  generalize W4.heap.size = g6 at *
  clear B4 X4 H4
  have ck : W5.cell? ⟨W.heap.size, 0, none⟩ = some (.int .i64 e.k) := evC_at X5.out 0 rfl
  rcases own_mod a ha with hm | hm | hm | hm | hm | hm
  · have b0 : (a % 6 == 0) = true := beq_iff_eq.2 hm
    have cs5 : W5.cell? ⟨g6, 1, none⟩ = some (.int .i64 e.u) := evC_at Y5.out 1 rfl
    have cf5 : W5.frozen? ⟨g6, 1, none⟩ = false := nf_box Y5.out
    go_upto_region 11 with fail
    have B6 := Aside0.mk (below_set (j := 1) (v := .int .i64 1) B5.out HG.out)
    have X6 := Aside0.mk ((Below.heap_setCell W5 ⟨g6, 1, none⟩ (.int .i64 1) W.heap.size HGN.out).trans X5.out)
    have Y6 : Aside0 ((W5.setCell ⟨g6, 1, none⟩ (.int .i64 1)).heap[g6]? = some (.cells (evC { e with u := 1 } A2 A7 A8 c2 c7 c8).toArray 30 (0, 0))) := ⟨setCell_box (off := 1) (.int .i64 1) Y5.out⟩
    generalize W5.setCell ⟨g6, 1, none⟩ (.int .i64 1) = W6 at *
    have H6 := Aside0.mk (H0.out.later B6.out)
    clear cs5 cf5 ck X5 Y5 B5 H5
    have ck6 : W6.cell? ⟨W.heap.size, 0, none⟩ = some (.int .i64 e.k) := evC_at X6.out 0 rfl
    have hc := right_calls { e with u := 1 } W6 A2 A7 A8 c2 c7 c8 ⟨H6.out.pol, H6.out.r8, H6.out.m8⟩
    rw [own_u e HR.out] at hc
    cases h1 : (e.k == 1)
    case true =>
      rw [h1] at hc
      have HC := Aside0.mk hc
      clear hc
      (try simp only [Bool.or_true, Bool.true_or] at HC)
      go_wp2_with (first
        | (with_reducible refine hd_gate 73 rfl ?_); refine hd_run (by rfl) (v := .agg (evC { e with u := 1 } A2 A7 A8 c2 c7 c8).toArray) (w1 := W6) (pick_loadRow rfl g6 rfl 30 _ (0, 0) _ Y6.out hu30 rfl hi30) ?_)
      refine HC.out.mono ?_
      rintro q W7 ⟨rfl, hb7⟩
      go_wp2_with fail
      go_ret
      exact ⟨rfl, B6.out.trans (hb7.mono B6.out.size)⟩
    rw [h1] at hc
    (try simp only [Bool.false_or, Bool.or_false] at hc)
    have HC := Aside0.mk hc
    clear hc
    go_wp2_with (first
      | (with_reducible refine hd_gate 73 rfl ?_); refine hd_run (by rfl) (v := .agg (evC { e with u := 1 } A2 A7 A8 c2 c7 c8).toArray) (w1 := W6) (pick_loadRow rfl g6 rfl 30 _ (0, 0) _ Y6.out hu30 rfl hi30) ?_)
    refine HC.out.mono ?_
    rintro q W7 ⟨rfl, hb7⟩
    go_wp2_with fail
    go_ret
    exact ⟨rfl, B6.out.trans (hb7.mono B6.out.size)⟩
  · have b0 : (a % 6 == 0) = false := beq_eq_false_iff_ne.2 (by omega)
    have b1 : (a % 6 == 1) = true := beq_iff_eq.2 hm
    have cs5 : W5.cell? ⟨g6, 3, none⟩ = some (.int .i64 e.T) := evC_at Y5.out 3 rfl
    have cf5 : W5.frozen? ⟨g6, 3, none⟩ = false := nf_box Y5.out
    go_upto_region 14 with fail
    have B6 := Aside0.mk (below_set (j := 3) (v := .int .i64 1) B5.out HG.out)
    have X6 := Aside0.mk ((Below.heap_setCell W5 ⟨g6, 3, none⟩ (.int .i64 1) W.heap.size HGN.out).trans X5.out)
    have Y6 : Aside0 ((W5.setCell ⟨g6, 3, none⟩ (.int .i64 1)).heap[g6]? = some (.cells (evC { e with T := 1 } A2 A7 A8 c2 c7 c8).toArray 30 (0, 0))) := ⟨setCell_box (off := 3) (.int .i64 1) Y5.out⟩
    generalize W5.setCell ⟨g6, 3, none⟩ (.int .i64 1) = W6 at *
    have H6 := Aside0.mk (H0.out.later B6.out)
    clear cs5 cf5 ck X5 Y5 B5 H5
    have ck6 : W6.cell? ⟨W.heap.size, 0, none⟩ = some (.int .i64 e.k) := evC_at X6.out 0 rfl
    have hc := right_calls { e with T := 1 } W6 A2 A7 A8 c2 c7 c8 ⟨H6.out.pol, H6.out.r8, H6.out.m8⟩
    rw [own_T e HR.out] at hc
    cases h2 : (e.k == 2)
    case true =>
      rw [h2] at hc
      have HC := Aside0.mk hc
      clear hc
      (try simp only [Bool.or_true, Bool.true_or] at HC)
      go_wp2_with (first
        | (with_reducible refine hd_gate 73 rfl ?_); refine hd_run (by rfl) (v := .agg (evC { e with T := 1 } A2 A7 A8 c2 c7 c8).toArray) (w1 := W6) (pick_loadRow rfl g6 rfl 30 _ (0, 0) _ Y6.out hu30 rfl hi30) ?_)
      refine HC.out.mono ?_
      rintro q W7 ⟨rfl, hb7⟩
      go_wp2_with fail
      go_ret
      exact ⟨rfl, B6.out.trans (hb7.mono B6.out.size)⟩
    rw [h2] at hc
    (try simp only [Bool.false_or, Bool.or_false] at hc)
    cases h5 : (e.k == 5)
    case true =>
      rw [h5] at hc
      have HC := Aside0.mk hc
      clear hc
      (try simp only [Bool.or_true, Bool.true_or] at HC)
      go_wp2_with (first
        | (with_reducible refine hd_gate 73 rfl ?_); refine hd_run (by rfl) (v := .agg (evC { e with T := 1 } A2 A7 A8 c2 c7 c8).toArray) (w1 := W6) (pick_loadRow rfl g6 rfl 30 _ (0, 0) _ Y6.out hu30 rfl hi30) ?_)
      refine HC.out.mono ?_
      rintro q W7 ⟨rfl, hb7⟩
      go_wp2_with fail
      go_ret
      exact ⟨rfl, B6.out.trans (hb7.mono B6.out.size)⟩
    rw [h5] at hc
    (try simp only [Bool.false_or, Bool.or_false] at hc)
    have HC := Aside0.mk hc
    clear hc
    go_wp2_with (first
      | (with_reducible refine hd_gate 73 rfl ?_); refine hd_run (by rfl) (v := .agg (evC { e with T := 1 } A2 A7 A8 c2 c7 c8).toArray) (w1 := W6) (pick_loadRow rfl g6 rfl 30 _ (0, 0) _ Y6.out hu30 rfl hi30) ?_)
    refine HC.out.mono ?_
    rintro q W7 ⟨rfl, hb7⟩
    go_wp2_with fail
    go_ret
    exact ⟨rfl, B6.out.trans (hb7.mono B6.out.size)⟩
  · have b0 : (a % 6 == 0) = false := beq_eq_false_iff_ne.2 (by omega)
    have b1 : (a % 6 == 1) = false := beq_eq_false_iff_ne.2 (by omega)
    have b2 : (a % 6 == 2) = true := beq_iff_eq.2 hm
    have cs5 : W5.cell? ⟨g6, 5, none⟩ = some (.int .i64 e.n) := evC_at Y5.out 5 rfl
    have cf5 : W5.frozen? ⟨g6, 5, none⟩ = false := nf_box Y5.out
    go_upto_region 17 with fail
    have B6 := Aside0.mk (below_set (j := 5) (v := .int .i64 1) B5.out HG.out)
    have X6 := Aside0.mk ((Below.heap_setCell W5 ⟨g6, 5, none⟩ (.int .i64 1) W.heap.size HGN.out).trans X5.out)
    have Y6 : Aside0 ((W5.setCell ⟨g6, 5, none⟩ (.int .i64 1)).heap[g6]? = some (.cells (evC { e with n := 1 } A2 A7 A8 c2 c7 c8).toArray 30 (0, 0))) := ⟨setCell_box (off := 5) (.int .i64 1) Y5.out⟩
    generalize W5.setCell ⟨g6, 5, none⟩ (.int .i64 1) = W6 at *
    have H6 := Aside0.mk (H0.out.later B6.out)
    clear cs5 cf5 ck X5 Y5 B5 H5
    have ck6 : W6.cell? ⟨W.heap.size, 0, none⟩ = some (.int .i64 e.k) := evC_at X6.out 0 rfl
    have hc := right_calls { e with n := 1 } W6 A2 A7 A8 c2 c7 c8 ⟨H6.out.pol, H6.out.r8, H6.out.m8⟩
    rw [own_n e HR.out] at hc
    cases h5 : (e.k == 5)
    case true =>
      rw [h5] at hc
      have HC := Aside0.mk hc
      clear hc
      (try simp only [Bool.or_true, Bool.true_or] at HC)
      go_wp2_with (first
        | (with_reducible refine hd_gate 73 rfl ?_); refine hd_run (by rfl) (v := .agg (evC { e with n := 1 } A2 A7 A8 c2 c7 c8).toArray) (w1 := W6) (pick_loadRow rfl g6 rfl 30 _ (0, 0) _ Y6.out hu30 rfl hi30) ?_)
      refine HC.out.mono ?_
      rintro q W7 ⟨rfl, hb7⟩
      go_wp2_with fail
      go_ret
      exact ⟨rfl, B6.out.trans (hb7.mono B6.out.size)⟩
    rw [h5] at hc
    (try simp only [Bool.false_or, Bool.or_false] at hc)
    have HC := Aside0.mk hc
    clear hc
    go_wp2_with (first
      | (with_reducible refine hd_gate 73 rfl ?_); refine hd_run (by rfl) (v := .agg (evC { e with n := 1 } A2 A7 A8 c2 c7 c8).toArray) (w1 := W6) (pick_loadRow rfl g6 rfl 30 _ (0, 0) _ Y6.out hu30 rfl hi30) ?_)
    refine HC.out.mono ?_
    rintro q W7 ⟨rfl, hb7⟩
    go_wp2_with fail
    go_ret
    exact ⟨rfl, B6.out.trans (hb7.mono B6.out.size)⟩
  · have b0 : (a % 6 == 0) = false := beq_eq_false_iff_ne.2 (by omega)
    have b1 : (a % 6 == 1) = false := beq_eq_false_iff_ne.2 (by omega)
    have b2 : (a % 6 == 2) = false := beq_eq_false_iff_ne.2 (by omega)
    have b3 : (a % 6 == 3) = true := beq_iff_eq.2 hm
    go_wp2_with fail
    refine (governorlaw09_Plain.calls 1 20 4 3 100 1 50 4 2 1 3 1 W5 rfl).mono ?_
    rintro q W5b ⟨rfl, hb5⟩
    have B5b := Aside0.mk (B5.out.trans (hb5.mono B5.out.size))
    have X5b := Aside0.mk (hd_later X5.out hb5)
    have Y5b := Aside0.mk (hd_later Y5.out hb5)
    have hi27 : (Try.prog.info? 27).map (·.size) = some 12 := by kernel_rfl
    clear hb5 ck X5 Y5 B5 H5
    go_upto_region 20 with (first
      | (with_reducible refine hd_gateS 60 _ _ rfl ?_); refine wpList_store_mid rfl 27 _ _ rfl g6 14 #[.int .i64 1, .int .i64 20, .int .i64 4, .int .i64 3, .int .i64 100, .int .i64 1, .int .i64 50, .int .i64 4, .int .i64 2, .int .i64 1, .int .i64 3, .int .i64 1] rfl rfl (there_of Y5b.out 14 12 (by simp [evC])) hi27 (by simp [Value.oneCell']) ?_)
    have B6 := Aside0.mk (setCells_below HG.out [.int .i64 1, .int .i64 20, .int .i64 4, .int .i64 3, .int .i64 100, .int .i64 1, .int .i64 50, .int .i64 4, .int .i64 2, .int .i64 1, .int .i64 3, .int .i64 1] 14 W5b B5b.out)
    have X6 := Aside0.mk ((setCells_other HGN.out [.int .i64 1, .int .i64 20, .int .i64 4, .int .i64 3, .int .i64 100, .int .i64 1, .int .i64 50, .int .i64 4, .int .i64 2, .int .i64 1, .int .i64 3, .int .i64 1] 14 W5b).trans X5b.out)
    have Y6 := Aside0.mk (setCells_heap [.int .i64 1, .int .i64 20, .int .i64 4, .int .i64 3, .int .i64 100, .int .i64 1, .int .i64 50, .int .i64 4, .int .i64 2, .int .i64 1, .int .i64 3, .int .i64 1] 14 W5b _ _ (putC e A2 A7 A8 c2 c7 c8) Y5b.out)
    generalize W5b.setCells g6 14 [.int .i64 1, .int .i64 20, .int .i64 4, .int .i64 3, .int .i64 100, .int .i64 1, .int .i64 50, .int .i64 4, .int .i64 2, .int .i64 1, .int .i64 3, .int .i64 1] = W6 at *
    have H6 := Aside0.mk (H0.out.later B6.out)
    clear X5b Y5b B5b hi27
    have ck6 : W6.cell? ⟨W.heap.size, 0, none⟩ = some (.int .i64 e.k) := evC_at X6.out 0 rfl
    have hc := right_calls { e with c := plainC } W6 A2 A7 A8 c2 c7 c8 ⟨H6.out.pol, H6.out.r8, H6.out.m8⟩
    rw [own_c e HR.out] at hc
    cases h4 : (e.k == 4)
    case true =>
      rw [h4] at hc
      have HC := Aside0.mk hc
      clear hc
      (try simp only [Bool.or_true, Bool.true_or] at HC)
      go_wp2_with (first
        | (with_reducible refine hd_gate 73 rfl ?_); refine hd_run (by rfl) (v := .agg (evC { e with c := plainC } A2 A7 A8 c2 c7 c8).toArray) (w1 := W6) (pick_loadRow rfl g6 rfl 30 _ (0, 0) _ Y6.out hu30 rfl hi30) ?_)
      refine HC.out.mono ?_
      rintro q W7 ⟨rfl, hb7⟩
      go_wp2_with fail
      go_ret
      exact ⟨rfl, B6.out.trans (hb7.mono B6.out.size)⟩
    rw [h4] at hc
    (try simp only [Bool.false_or, Bool.or_false] at hc)
    have HC := Aside0.mk hc
    clear hc
    go_wp2_with (first
      | (with_reducible refine hd_gate 73 rfl ?_); refine hd_run (by rfl) (v := .agg (evC { e with c := plainC } A2 A7 A8 c2 c7 c8).toArray) (w1 := W6) (pick_loadRow rfl g6 rfl 30 _ (0, 0) _ Y6.out hu30 rfl hi30) ?_)
    refine HC.out.mono ?_
    rintro q W7 ⟨rfl, hb7⟩
    go_wp2_with fail
    go_ret
    exact ⟨rfl, B6.out.trans (hb7.mono B6.out.size)⟩
  · have b0 : (a % 6 == 0) = false := beq_eq_false_iff_ne.2 (by omega)
    have b1 : (a % 6 == 1) = false := beq_eq_false_iff_ne.2 (by omega)
    have b2 : (a % 6 == 2) = false := beq_eq_false_iff_ne.2 (by omega)
    have b3 : (a % 6 == 3) = false := beq_eq_false_iff_ne.2 (by omega)
    have b4 : (a % 6 == 4) = true := beq_iff_eq.2 hm
    go_upto_region 22 with fail
    have cs5 : (W5.alloc (.cells #[.int .u8 1] 5)).cell? ⟨g6, 26, none⟩ = some (.slice A8 e.body.length c8) := evC_at (hd_later Y5.out (below_alloc (Below.refl _ _) _)) 26 rfl
    have cf5 : (W5.alloc (.cells #[.int .u8 1] 5)).frozen? ⟨g6, 26, none⟩ = false := nf_box (hd_later Y5.out (below_alloc (Below.refl _ _) _))
    go_upto_region 23 with fail
    have hB := below_alloc B5.out (.cells #[.int .u8 1] 5)
    have hX := hd_later X5.out (below_alloc (Below.refl _ _) (.cells #[.int .u8 1] 5))
    have hY := hd_later Y5.out (below_alloc (Below.refl _ _) (.cells #[.int .u8 1] 5))
    have hC := C_lit W5 [1] (0, 0) (by decide)
    have hCn := pick_new W5 (.cells #[.int .u8 1] 5)
    have hgb : W5.heap.size ≠ g6 := by have := (Array.getElem?_eq_some_iff.1 Y5.out).1; omega
    have hR : ReadsInt ((W5.alloc (.cells #[.int .u8 1] 5)).setCell ⟨g6, 26, none⟩ (.slice (some ⟨W5.heap.size, 0, none⟩) 1 1)) .u8 (some ⟨W5.heap.size, 0, none⟩) 1 [1] := ⟨rfl, by decide, fun _ => ⟨_, rfl, fun j hj => by
      obtain rfl : j = 0 := by omega
      rw [show (⟨W5.heap.size, 0, none⟩ : Addr).add 0 = ⟨W5.heap.size, 0, none⟩ from add_plain _ _]
      exact pick_cellE ((Below.heap_setCell _ ⟨g6, 26, none⟩ _ W5.heap.size hgb).trans hCn) 0 rfl⟩⟩
    have B6 := Aside0.mk (below_set (j := 26) (v := .slice (some ⟨W5.heap.size, 0, none⟩) 1 1) hB HG.out)
    have X6 := Aside0.mk ((Below.heap_setCell _ ⟨g6, 26, none⟩ (.slice (some ⟨W5.heap.size, 0, none⟩) 1 1) W.heap.size HGN.out).trans hX)
    have Y6 : Aside0 (((W5.alloc (.cells #[.int .u8 1] 5)).setCell ⟨g6, 26, none⟩ (.slice (some ⟨W5.heap.size, 0, none⟩) 1 1)).heap[g6]? = some (.cells (evC { e with body := [1] } A2 A7 (some ⟨W5.heap.size, 0, none⟩) c2 c7 1).toArray 30 (0, 0))) := ⟨setCell_box (off := 26) _ hY⟩
    have R6 := Aside0.mk (C_of_ints hR)
    clear hR hCn hC hX hY hB
    generalize (W5.alloc (.cells #[.int .u8 1] 5)).setCell ⟨g6, 26, none⟩ (.slice (some ⟨W5.heap.size, 0, none⟩) 1 1) = W6 at *
    generalize W5.heap.size = gb at *
    have H6 := Aside0.mk (H0.out.later B6.out)
    clear cs5 cf5 ck X5 Y5 B5 H5 hgb
    have ck6 : W6.cell? ⟨W.heap.size, 0, none⟩ = some (.int .i64 e.k) := evC_at X6.out 0 rfl
    have hc := right_calls { e with body := [1] } W6 A2 A7 (some ⟨gb, 0, none⟩) c2 c7 1 ⟨H6.out.pol, R6.out, Nat.le_refl _⟩
    rw [own_b e HR.out] at hc
    cases h8 : (e.k == 8)
    case true =>
      rw [h8] at hc
      have HC := Aside0.mk hc
      clear hc
      (try simp only [Bool.or_true, Bool.true_or] at HC)
      go_wp2_with (first
        | (with_reducible refine hd_gate 73 rfl ?_); refine hd_run (by rfl) (v := .agg (evC { e with body := [1] } A2 A7 (some ⟨gb, 0, none⟩) c2 c7 1).toArray) (w1 := W6) (pick_loadRow rfl g6 rfl 30 _ (0, 0) _ Y6.out hu30 rfl hi30) ?_)
      refine HC.out.mono ?_
      rintro q W7 ⟨rfl, hb7⟩
      go_wp2_with fail
      go_ret
      exact ⟨rfl, B6.out.trans (hb7.mono B6.out.size)⟩
    rw [h8] at hc
    (try simp only [Bool.false_or, Bool.or_false] at hc)
    have HC := Aside0.mk hc
    clear hc
    go_wp2_with (first
      | (with_reducible refine hd_gate 73 rfl ?_); refine hd_run (by rfl) (v := .agg (evC { e with body := [1] } A2 A7 (some ⟨gb, 0, none⟩) c2 c7 1).toArray) (w1 := W6) (pick_loadRow rfl g6 rfl 30 _ (0, 0) _ Y6.out hu30 rfl hi30) ?_)
    refine HC.out.mono ?_
    rintro q W7 ⟨rfl, hb7⟩
    go_wp2_with fail
    go_ret
    exact ⟨rfl, B6.out.trans (hb7.mono B6.out.size)⟩
  · have b0 : (a % 6 == 0) = false := beq_eq_false_iff_ne.2 (by omega)
    have b1 : (a % 6 == 1) = false := beq_eq_false_iff_ne.2 (by omega)
    have b2 : (a % 6 == 2) = false := beq_eq_false_iff_ne.2 (by omega)
    have b3 : (a % 6 == 3) = false := beq_eq_false_iff_ne.2 (by omega)
    have b4 : (a % 6 == 4) = false := beq_eq_false_iff_ne.2 (by omega)
    have cs5 : W5.cell? ⟨g6, 4, none⟩ = some (.int .i64 e.id) := evC_at Y5.out 4 rfl
    have cf5 : W5.frozen? ⟨g6, 4, none⟩ = false := nf_box Y5.out
    go_upto_region 8 with fail
    have B6 := Aside0.mk (below_set (j := 4) (v := .int .i64 1) B5.out HG.out)
    have X6 := Aside0.mk ((Below.heap_setCell W5 ⟨g6, 4, none⟩ (.int .i64 1) W.heap.size HGN.out).trans X5.out)
    have Y6 : Aside0 ((W5.setCell ⟨g6, 4, none⟩ (.int .i64 1)).heap[g6]? = some (.cells (evC { e with id := 1 } A2 A7 A8 c2 c7 c8).toArray 30 (0, 0))) := ⟨setCell_box (off := 4) (.int .i64 1) Y5.out⟩
    generalize W5.setCell ⟨g6, 4, none⟩ (.int .i64 1) = W6 at *
    have H6 := Aside0.mk (H0.out.later B6.out)
    clear cs5 cf5 ck X5 Y5 B5 H5
    have ck6 : W6.cell? ⟨W.heap.size, 0, none⟩ = some (.int .i64 e.k) := evC_at X6.out 0 rfl
    have hc := right_calls { e with id := 1 } W6 A2 A7 A8 c2 c7 c8 ⟨H6.out.pol, H6.out.r8, H6.out.m8⟩
    rw [own_id e HR.out] at hc
    cases h3 : (e.k == 3)
    case true =>
      rw [h3] at hc
      have HC := Aside0.mk hc
      clear hc
      (try simp only [Bool.or_true, Bool.true_or] at HC)
      go_wp2_with (first
        | (with_reducible refine hd_gate 73 rfl ?_); refine hd_run (by rfl) (v := .agg (evC { e with id := 1 } A2 A7 A8 c2 c7 c8).toArray) (w1 := W6) (pick_loadRow rfl g6 rfl 30 _ (0, 0) _ Y6.out hu30 rfl hi30) ?_)
      refine HC.out.mono ?_
      rintro q W7 ⟨rfl, hb7⟩
      go_wp2_with fail
      go_ret
      exact ⟨rfl, B6.out.trans (hb7.mono B6.out.size)⟩
    rw [h3] at hc
    (try simp only [Bool.false_or, Bool.or_false] at hc)
    cases h6 : (e.k == 6)
    case true =>
      rw [h6] at hc
      have HC := Aside0.mk hc
      clear hc
      (try simp only [Bool.or_true, Bool.true_or] at HC)
      go_wp2_with (first
        | (with_reducible refine hd_gate 73 rfl ?_); refine hd_run (by rfl) (v := .agg (evC { e with id := 1 } A2 A7 A8 c2 c7 c8).toArray) (w1 := W6) (pick_loadRow rfl g6 rfl 30 _ (0, 0) _ Y6.out hu30 rfl hi30) ?_)
      refine HC.out.mono ?_
      rintro q W7 ⟨rfl, hb7⟩
      go_wp2_with fail
      go_ret
      exact ⟨rfl, B6.out.trans (hb7.mono B6.out.size)⟩
    rw [h6] at hc
    (try simp only [Bool.false_or, Bool.or_false] at hc)
    cases h7 : (e.k == 7)
    case true =>
      rw [h7] at hc
      have HC := Aside0.mk hc
      clear hc
      (try simp only [Bool.or_true, Bool.true_or] at HC)
      go_wp2_with (first
        | (with_reducible refine hd_gate 73 rfl ?_); refine hd_run (by rfl) (v := .agg (evC { e with id := 1 } A2 A7 A8 c2 c7 c8).toArray) (w1 := W6) (pick_loadRow rfl g6 rfl 30 _ (0, 0) _ Y6.out hu30 rfl hi30) ?_)
      refine HC.out.mono ?_
      rintro q W7 ⟨rfl, hb7⟩
      go_wp2_with fail
      go_ret
      exact ⟨rfl, B6.out.trans (hb7.mono B6.out.size)⟩
    rw [h7] at hc
    (try simp only [Bool.false_or, Bool.or_false] at hc)
    have HC := Aside0.mk hc
    clear hc
    go_wp2_with (first
      | (with_reducible refine hd_gate 73 rfl ?_); refine hd_run (by rfl) (v := .agg (evC { e with id := 1 } A2 A7 A8 c2 c7 c8).toArray) (w1 := W6) (pick_loadRow rfl g6 rfl 30 _ (0, 0) _ Y6.out hu30 rfl hi30) ?_)
    refine HC.out.mono ?_
    rintro q W7 ⟨rfl, hb7⟩
    go_wp2_with fail
    go_ret
    exact ⟨rfl, B6.out.trans (hb7.mono B6.out.size)⟩
end Go.Proofs.Ytldohapdhljoaaa.Wire

/- What a call of the law comes to. -/
namespace Go.Proofs.Ytldohapdhljoaaa.Print
open Go.RowKit Go.Proofs.YtldohapdhljoaaaW.PrintWords Go.Proofs.YtldohapdhljoaaaW.PrintLast
set_option linter.unusedVariables false
/-! ### governorlaw09_EventOwn: function 6 -/
def governorlaw09_EventOwn.f (a0_0 : Int) (a0_1 : Int) (a0_2 : Int) (a0_3 : Int) (a0_4 : Int) (a0_5 : Int) (a0_6 : Int) (a0_7 : Int) (l0_8 : List (S46)) (a0_9 : Int) (a0_10 : Int) (a0_11 : Int) (a0_12 : Int) (l0_13 : List (S48)) (a0_14 : Int) (a0_15 : Int) (a0_16 : Int) (a0_17 : Int) (a0_18 : Int) (a0_19 : Int) (a0_20 : Int) (a0_21 : Int) (a0_22 : Int) (a0_23 : Int) (a0_24 : Int) (a0_25 : Int) (l0_26 : List Int) (a1 : Int) : Option (Bool) := if 0 ≤ a1 ∧ a1 < 256 then some true else none
theorem governorlaw09_EventOwn.calls (a0_0 : Int) (a0_1 : Int) (a0_2 : Int) (a0_3 : Int) (a0_4 : Int) (a0_5 : Int) (a0_6 : Int) (a0_7 : Int) (A0_8 : Option Addr) (c0_8 : Nat) (l0_8 : List (S46)) (a0_9 : Int) (a0_10 : Int) (a0_11 : Int) (a0_12 : Int) (A0_13 : Option Addr) (c0_13 : Nat) (l0_13 : List (S48)) (a0_14 : Int) (a0_15 : Int) (a0_16 : Int) (a0_17 : Int) (a0_18 : Int) (a0_19 : Int) (a0_20 : Int) (a0_21 : Int) (a0_22 : Int) (a0_23 : Int) (a0_24 : Int) (a0_25 : Int) (A0_26 : Option Addr) (c0_26 : Nat) (l0_26 : List Int) (a1 : Int) (r : Bool) (w : World) (hr0_8 : Kd.C k46 w A0_8 l0_8.length l0_8) (hc0_8 : l0_8.length ≤ c0_8) (hr0_13 : Kd.C k48 w A0_13 l0_13.length l0_13) (hc0_13 : l0_13.length ≤ c0_13) (hr0_26 : Kd.C (Kd.int .u8) w A0_26 l0_26.length l0_26) (hc0_26 : l0_26.length ≤ c0_26) (h : governorlaw09_EventOwn.f a0_0 a0_1 a0_2 a0_3 a0_4 a0_5 a0_6 a0_7 l0_8 a0_9 a0_10 a0_11 a0_12 l0_13 a0_14 a0_15 a0_16 a0_17 a0_18 a0_19 a0_20 a0_21 a0_22 a0_23 a0_24 a0_25 l0_26 a1 = some r) :
    Calls Try.prog 6 #[.agg #[.int .i64 a0_0, .int .i64 a0_1, .int .i64 a0_2, .int .i64 a0_3, .int .i64 a0_4, .int .i64 a0_5, .int .i64 a0_6, .int .i64 a0_7, .slice A0_8 l0_8.length c0_8, .int .i64 a0_9, .int .i64 a0_10, .int .i64 a0_11, .int .i64 a0_12, .slice A0_13 l0_13.length c0_13, .int .i64 a0_14, .int .i64 a0_15, .int .i64 a0_16, .int .i64 a0_17, .int .i64 a0_18, .int .i64 a0_19, .int .i64 a0_20, .int .i64 a0_21, .int .i64 a0_22, .int .i64 a0_23, .int .i64 a0_24, .int .i64 a0_25, .slice A0_26 l0_26.length c0_26], .int .u8 a1] w fun e w' => e = .returned (.bool r) ∧ Below w.heap.size w w' := by
  unfold governorlaw09_EventOwn.f at h
  by_cases ha : 0 ≤ a1 ∧ a1 < 256
  · rw [if_pos ha] at h
    obtain rfl := Option.some.inj h
    exact Go.Proofs.Ytldohapdhljoaaa.Wire.own_calls ⟨a0_0, a0_1, a0_2, a0_3, a0_4, a0_5, ⟨a0_6, a0_7, l0_8, a0_9, a0_10, a0_11, a0_12, l0_13⟩, ⟨a0_14, a0_15, a0_16, a0_17, a0_18, a0_19, a0_20, a0_21, a0_22, a0_23, a0_24, a0_25⟩, l0_26⟩ a1 w A0_8 A0_13 A0_26 c0_8 c0_13 c0_26 ⟨⟨hr0_8, hc0_8, hr0_13, hc0_13⟩, hr0_26, hc0_26⟩ ha
  · rw [if_neg ha] at h
    cases h


end Go.Proofs.Ytldohapdhljoaaa.Print

/- What is to be shown of governorlaw09_EventOwn in plain Lean. -/
namespace Go.Proofs.Ytldohapdhljoaaa.Print
open Go.RowKit Go.Proofs.YtldohapdhljoaaaW.PrintWords
def governorlaw09_EventOwn.Pure : Prop := ∀ (x0 : S30) (a1 : Int), wf30 x0 → (Lit.int .u8 a1).wf = true → governorlaw09_EventOwn.f x0.f0 x0.f1 x0.f2 x0.f3 x0.f4 x0.f5 x0.f6.f0 x0.f6.f1 x0.f6.f2 x0.f6.f3 x0.f6.f4 x0.f6.f5 x0.f6.f6 x0.f6.f7 x0.f7.f0 x0.f7.f1 x0.f7.f2 x0.f7.f3 x0.f7.f4 x0.f7.f5 x0.f7.f6 x0.f7.f7 x0.f7.f8 x0.f7.f9 x0.f7.f10 x0.f7.f11 x0.f8 a1 = some true
end Go.Proofs.Ytldohapdhljoaaa.Print

/- The law EventOwn in plain Lean: a number that is read as a byte is one. -/
namespace Go.Proofs.Ytldohapdhljoaaa.Pure
open Go.RowKit Go.Proofs.Ytldohapdhljoaaa.Print Go.Proofs.YtldohapdhljoaaaW.PrintWords Go.Proofs.YtldohapdhljoaaaW.PrintLast

theorem EventOwn : governorlaw09_EventOwn.Pure := by
  intro x0 a1 _ h
  unfold governorlaw09_EventOwn.f
  rw [if_pos (Go.Proofs.Ytldohapdhljoaaa.Wire.wf_u8 h)]

end Go.Proofs.Ytldohapdhljoaaa.Pure
