/- The law's own texts. -/
import Derived.Test.YtldohapdhljoaaaBj
import Derived.Test.YtldohapdhljoaaaBb
namespace Go.Proofs.Ytldohapdhljoaaa.Wire
open Go.RowKit Go.Proofs.YtldohapdhljoaaaW.PrintWords Go.Proofs.Ytldohapdhljoaaa.Obj Go.Proofs.Ytldohapdhljoaaa.Print
set_option linter.unusedVariables false
set_option linter.unusedSimpArgs false
set_option maxRecDepth 100000
theorem wpAnyH_monoT {P : Program} {md : Region.Mode} {ops : Array Oper} {Q : Exit → Act → World → Prop} {S S' : World → Prop} (h : ∀ w, S' w → S w) : ∀ (fuel : Nat) (listed : Array Bool) (a : Act) (w : World), wpAnyH P md ops Q S' fuel listed a w → wpAnyH P md ops Q S fuel listed a w
  | 0, _, _, _, k => k
  | n + 1, _, _, _, k => ⟨k.1, fun i hi => wpOp_mono (fun a' w' q => ⟨h _ q.1, wpAnyH_monoT h n _ a' w' q.2⟩) (k.2 i hi)⟩
set_option maxHeartbeats 8000000 in
theorem back_calls (e : Ev) (k : Int) (b : List Int) (W : World) (A2 A7 A8 Ab : Option Addr) (c2 c7 c8 cb : Nat) (h : EvB e W A2 A7 A8 c2 c7 c8) (hx : EvIn e) (hb : Byt e.body) (hC : Kd.C (Kd.int .u8) W Ab b.length b) (hbb : Byt b) :
    Calls Try.prog 4 #[.agg (evC e A2 A7 A8 c2 c7 c8).toArray, .int .i64 k, .slice Ab b.length cb] W fun q W' => q = .returned (.bool true) ∧ Below W.heap.size W W' := by
  have hu30 := Try.underlying30
  have hi30 : (Try.prog.info? 30).map (·.size) = some 27 := by kernel_rfl
  obtain ⟨Z, hZ, hz30⟩ : ∃ Z, Z = evZ 0 ∧ ∀ W, (zeroValue 30).run Try.prog W = .ok (.agg Z) W := ⟨evZ 0, rfl, zero30⟩
  have sz : Z.size = 27 := by rw [hZ]; rfl
  have hne : ¬ (Z = #[]) := fun h => by rw [h] at sz; cases sz
  have HZ := Aside0.mk hZ
  clear hZ
  have H0 := Aside0.mk h
  have HX := Aside0.mk hx
  have HBY := Aside0.mk hb
  clear h hx hb
  have D0 := Aside0.mk hC
  have HBB := Aside0.mk hbb
  clear hC hbb
  go_enter Try.func4, Try.ntmps4
  go_upto_region 1 with fail
  have B1 := Aside0.mk (below_alloc (Below.refl W.heap.size W) (.cells (evC e A2 A7 A8 c2 c7 c8).toArray 30))
  have X1 := Aside0.mk (pick_new W (.cells (evC e A2 A7 A8 c2 c7 c8).toArray 30))
  have H1 := Aside0.mk (H0.out.later (below_alloc (Below.refl W.heap.size W) (.cells (evC e A2 A7 A8 c2 c7 c8).toArray 30)))
  generalize W.alloc (.cells (evC e A2 A7 A8 c2 c7 c8).toArray 30) = W1 at *
  go_wp2_with fail
  refine (head_holds W1).mono ?_
  rintro q W2 ⟨rfl, hb2⟩
  have B2 := Aside0.mk (B1.out.trans ((hb2).mono B1.out.size))
  have X2 := Aside0.mk (hd_later X1.out (hb2))
  have H2 := Aside0.mk (H1.out.later (hb2))
  clear B1 X1 H1 hb2
  go_wp2_with (first
    | (with_reducible refine hd_gate 14 rfl ?_); refine hd_run (by rfl) (v := .agg (evC e A2 A7 A8 c2 c7 c8).toArray) (w1 := W2) (pick_loadRow rfl W.heap.size rfl 30 _ (0, 0) _ X2.out hu30 rfl hi30) ?_)
  refine (great_ev e W2 _ A2 A7 A8 c2 c7 c8 rfl H2.out.1).mono ?_
  rintro q W3 ⟨rfl, hb3⟩
  have B3 := Aside0.mk (B2.out.trans ((hb3).mono B2.out.size))
  have X3 := Aside0.mk (hd_later X2.out (hb3))
  have H3 := Aside0.mk (H2.out.later (hb3))
  clear B2 X2 H2 hb3
  cases hgr : greatE e
  case true =>
    clear hgr
    go_wp2_with fail
    go_ret
    exact ⟨rfl, B3.out⟩
  have HG := Aside0.mk hgr
  clear hgr
  have D3 := Aside0.mk (Kd.C_below D0.out B3.out)
  by_cases h3k : (b.length : Int) > 3000
  · have q3 : decide ((b.length : Int) > 3000) = true := decide_eq_true h3k
    go_wp2_with fail
    go_ret
    exact ⟨rfl, B3.out⟩
  have q3 : decide ((b.length : Int) > 3000) = false := decide_eq_false h3k
  have HBL := Aside0.mk (show b.length ≤ 3000 by omega)
  clear h3k
  obtain ⟨p, hp⟩ : ∃ p, putE e = p := ⟨_, rfl⟩
  have HP := Aside0.mk hp
  clear hp
  go_wp2_with (first
    | (with_reducible refine hd_gate 22 rfl ?_); refine hd_run (by rfl) (v := .agg (evC e A2 A7 A8 c2 c7 c8).toArray) (w1 := W3) (pick_loadRow rfl W.heap.size rfl 30 _ (0, 0) _ X3.out hu30 rfl hi30) ?_)
  refine (put_B e p W3 A2 A7 A8 c2 c7 c8 H3.out HX.out HG.out HP.out).mono ?_
  rintro q W4 ⟨Ap, cp, rfl, hcp, hC, hb4⟩
  have C4 := Aside0.mk hC
  have B4 := Aside0.mk (B3.out.trans ((hb4).mono B3.out.size))
  have X4 := Aside0.mk (hd_later X3.out (hb4))
  have H4 := Aside0.mk (H3.out.later (hb4))
  have D4 := Aside0.mk (Kd.C_below D3.out hb4)
  clear B3 X3 H3 D3 hb4 hC
  clear q3
  have hlp : p.length ≤ 1800 := by have := put_len HX.out HG.out; rw [HP.out] at this; exact this
  have hbp : Byt p := by have := byt_put HX.out HG.out HBY.out; rw [HP.out] at this; exact this
  have HBP := Aside0.mk hbp
  clear hbp
  go_wp2_with (first
    | (with_reducible refine hd_gate 24 rfl ?_); refine hd_run (by rfl) (v := .agg (evC e A2 A7 A8 c2 c7 c8).toArray) (w1 := W4) (pick_loadRow rfl W.heap.size rfl 30 _ (0, 0) _ X4.out hu30 rfl hi30) ?_)
  refine (right_calls e W4 A2 A7 A8 c2 c7 c8 H4.out.1).mono ?_
  rintro q W5 ⟨rfl, hb5⟩
  have B5 := Aside0.mk (B4.out.trans ((hb5).mono B4.out.size))
  have X5 := Aside0.mk (hd_later X4.out (hb5))
  have H5 := Aside0.mk (H4.out.later (hb5))
  have C5 := Aside0.mk (Kd.C_below C4.out (hb5))
  have D5 := Aside0.mk (Kd.C_below D4.out (hb5))
  clear B4 X4 H4 C4 D4 hb5
  cases hr : rightF e
  · have h0 := put_wrong hr
    rw [HP.out] at h0
    subst h0
    clear hr HP hlp HBP
    rcases get_conv k b HBB.out with (h12 | h13) | ⟨y, hy0, hyr, hyk, hyp, hyi, hy1, hy2, hy3⟩
    · have hg := Aside0.mk h12
      clear h12
      go_wp2_with fail
      refine (get_sl k b _ W5 Ab cb rfl D5.out HBB.out (by have := HBL.out; omega) (ev0 0) 12 (hg.out)).mono ?_
      rintro q W6 ⟨K2, K7, K8, k8c, rfl, hO6, hb6⟩
      have Q6 := Aside0.mk hO6
      have B6 := Aside0.mk (B5.out.trans ((hb6).mono B5.out.size))
      have D6 := Aside0.mk (Kd.C_below D5.out (hb6))
      clear B5 D5 hb6 hO6
      go_upto_region 12 with (first
        | (with_reducible refine hd_gateS 11 _ _ rfl ?_); refine hd_runS rfl (w1 := (W6.alloc (.cells Z 30)).setRow W6.heap.size (Ev27 (ev0 0) K2 K7 K8 k8c)) (pick_store rfl W6.heap.size (Ev27 (ev0 0) K2 K7 K8 k8c) rfl rfl 30 Z (pick_new W6 _) (ev27_size _ _ _ _ _) (by rw [sz]; rfl) (ev27_one _ _ _ _ _)) ?_)
      rw [World.setRow_alloc_new]
      have B7 := Aside0.mk (below_alloc B6.out (.cells (Ev27 (ev0 0) K2 K7 K8 k8c) 30))
      have D7 := Aside0.mk (Kd.C_below D6.out (below_alloc (Below.refl _ _) (.cells (Ev27 (ev0 0) K2 K7 K8 k8c) 30)))
      have Q7 := Aside0.mk (Q6.out.later (below_alloc (Below.refl _ _) (.cells (Ev27 (ev0 0) K2 K7 K8 k8c) 30)))
      have Y7 := Aside0.mk (pick_new W6 (.cells (Ev27 (ev0 0) K2 K7 K8 k8c) 30))
      generalize W6.alloc (.cells (Ev27 (ev0 0) K2 K7 K8 k8c) 30) = W7 at *
      generalize W6.heap.size = g11 at *
      clear B6 D6 Q6 
      go_wp2_with (first
        | (with_reducible refine hd_gate 59 rfl ?_); refine hd_run (by rfl) (v := .agg (Ev27 (ev0 0) K2 K7 K8 k8c)) (w1 := W7) (pick_loadRow rfl g11 rfl 30 _ (0, 0) _ Y7.out hu30 rfl (ev27_size _ _ _ _ _)) ?_)
      refine (same_self (ev0 0) _ _ K2 K7 K8 none none none _ _ k8c 0 0 0 W7 rfl (by rw [HZ.out]; rfl) Q7.out.1 (z_own (ev0 0) W7 0 0 0 rfl rfl rfl).1 (by decide) (by decide)).mono ?_
      rintro q W90 ⟨rfl, hb90⟩
      go_wp2_with fail
      go_ret
      exact ⟨rfl, B7.out.trans (hb90.mono B7.out.size)⟩
    · have hg := Aside0.mk h13
      clear h13
      go_wp2_with fail
      refine (get_sl k b _ W5 Ab cb rfl D5.out HBB.out (by have := HBL.out; omega) (ev0 0) 13 (hg.out)).mono ?_
      rintro q W6 ⟨K2, K7, K8, k8c, rfl, hO6, hb6⟩
      have Q6 := Aside0.mk hO6
      have B6 := Aside0.mk (B5.out.trans ((hb6).mono B5.out.size))
      have D6 := Aside0.mk (Kd.C_below D5.out (hb6))
      clear B5 D5 hb6 hO6
      go_upto_region 12 with (first
        | (with_reducible refine hd_gateS 11 _ _ rfl ?_); refine hd_runS rfl (w1 := (W6.alloc (.cells Z 30)).setRow W6.heap.size (Ev27 (ev0 0) K2 K7 K8 k8c)) (pick_store rfl W6.heap.size (Ev27 (ev0 0) K2 K7 K8 k8c) rfl rfl 30 Z (pick_new W6 _) (ev27_size _ _ _ _ _) (by rw [sz]; rfl) (ev27_one _ _ _ _ _)) ?_)
      rw [World.setRow_alloc_new]
      have B7 := Aside0.mk (below_alloc B6.out (.cells (Ev27 (ev0 0) K2 K7 K8 k8c) 30))
      have D7 := Aside0.mk (Kd.C_below D6.out (below_alloc (Below.refl _ _) (.cells (Ev27 (ev0 0) K2 K7 K8 k8c) 30)))
      have Q7 := Aside0.mk (Q6.out.later (below_alloc (Below.refl _ _) (.cells (Ev27 (ev0 0) K2 K7 K8 k8c) 30)))
      have Y7 := Aside0.mk (pick_new W6 (.cells (Ev27 (ev0 0) K2 K7 K8 k8c) 30))
      generalize W6.alloc (.cells (Ev27 (ev0 0) K2 K7 K8 k8c) 30) = W7 at *
      generalize W6.heap.size = g11 at *
      clear B6 D6 Q6 
      go_wp2_with (first
        | (with_reducible refine hd_gate 59 rfl ?_); refine hd_run (by rfl) (v := .agg (Ev27 (ev0 0) K2 K7 K8 k8c)) (w1 := W7) (pick_loadRow rfl g11 rfl 30 _ (0, 0) _ Y7.out hu30 rfl (ev27_size _ _ _ _ _)) ?_)
      refine (same_self (ev0 0) _ _ K2 K7 K8 none none none _ _ k8c 0 0 0 W7 rfl (by rw [HZ.out]; rfl) Q7.out.1 (z_own (ev0 0) W7 0 0 0 rfl rfl rfl).1 (by decide) (by decide)).mono ?_
      rintro q W90 ⟨rfl, hb90⟩
      go_wp2_with fail
      go_ret
      exact ⟨rfl, B7.out.trans (hb90.mono B7.out.size)⟩
    · have HY0 := Aside0.mk hy0
      have HYR := Aside0.mk hyr
      have HYK := Aside0.mk hyk
      have HYP := Aside0.mk hyp
      have HYI := Aside0.mk hyi
      have HYG := Aside0.mk (show greatE y = false by unfold greatE; simp only [Bool.or_eq_false_iff, decide_eq_false_iff_not]; omega)
      clear hy0 hyr hyk hyp hyi hy1 hy2 hy3
      go_wp2_with fail
      refine (get_sl k b _ W5 Ab cb rfl D5.out HBB.out (by have := HBL.out; omega) (y) 0 (HY0.out)).mono ?_
      rintro q W6 ⟨K2, K7, K8, k8c, rfl, hO6, hb6⟩
      have Q6 := Aside0.mk hO6
      have B6 := Aside0.mk (B5.out.trans ((hb6).mono B5.out.size))
      have D6 := Aside0.mk (Kd.C_below D5.out (hb6))
      clear B5 D5 hb6 hO6
      go_upto_region 12 with (first
        | (with_reducible refine hd_gateS 11 _ _ rfl ?_); refine hd_runS rfl (w1 := (W6.alloc (.cells Z 30)).setRow W6.heap.size (Ev27 (y) K2 K7 K8 k8c)) (pick_store rfl W6.heap.size (Ev27 (y) K2 K7 K8 k8c) rfl rfl 30 Z (pick_new W6 _) (ev27_size _ _ _ _ _) (by rw [sz]; rfl) (ev27_one _ _ _ _ _)) ?_)
      rw [World.setRow_alloc_new]
      have B7 := Aside0.mk (below_alloc B6.out (.cells (Ev27 (y) K2 K7 K8 k8c) 30))
      have D7 := Aside0.mk (Kd.C_below D6.out (below_alloc (Below.refl _ _) (.cells (Ev27 (y) K2 K7 K8 k8c) 30)))
      have Q7 := Aside0.mk (Q6.out.later (below_alloc (Below.refl _ _) (.cells (Ev27 (y) K2 K7 K8 k8c) 30)))
      have Y7 := Aside0.mk (pick_new W6 (.cells (Ev27 (y) K2 K7 K8 k8c) 30))
      generalize W6.alloc (.cells (Ev27 (y) K2 K7 K8 k8c) 30) = W7 at *
      generalize W6.heap.size = g11 at *
      clear B6 D6 Q6 
      go_upto_region 14 with fail
      have hw0 : Below W7.heap.size W7 W7.drew := below_drew (Below.refl _ _)
      have B80 := Aside0.mk (B7.out.trans (hw0.mono B7.out.size))
      have D80 := Aside0.mk (Kd.C_below D7.out hw0)
      have Q80 := Aside0.mk (Q7.out.later hw0)
      have Y80 := Aside0.mk (hd_later Y7.out hw0)
      clear hw0
      refine wp_region_noPanic ?_
      generalize hW0 : W7.drew = w0 at *
      refine wp_region_held_drew (S := fun w' => Below w0.heap.size w0 w') (by kernel_rfl) (by rw [hW0]; exact Below.refl _ _) (fun hHeld => ?_)
      rw [hW0]
      clear hW0 hHeld
      have hrf0 : Below w0.heap.size w0 w0 := Below.refl _ _
      refine wpAnyH_take (i := 0) (oi := ({ dst := some 71, op := Op.move (Operand.tmp 7), type := 4, pos := "law.go:65", after := #[], guard := none } : Oper)) (v := ?_) rfl (by kernel_rfl) (by kernel_rfl) (by kernel_rfl) (fun _ _ _ h => h) (Or.inl ⟨by rfl, ?hyR5_0⟩) (by assumption) ?rsR5_0
      case hyR5_0 => (intro w8' hSw; (try dsimp only at hSw); go_simp; (first | done | with_reducible rfl))
      (try simp only [Act.put, List.setIfInBounds_toArray, List.set_cons_zero, List.set_cons_succ])
      refine wpAnyH_take (i := 1) (oi := ({ dst := some 72, op := Op.move (Operand.tmp 71), type := 4, pos := "law.go:65", after := #[{ on := 0, ground := Ground.data }], guard := none } : Oper)) (v := ?_) rfl (by kernel_rfl) (by kernel_rfl) (by kernel_rfl) (fun _ _ _ h => h) (Or.inl ⟨by rfl, ?hyR5_1⟩) (by assumption) ?rsR5_1
      case hyR5_1 => (intro w8' hSw; (try dsimp only at hSw); go_simp; (first | done | with_reducible rfl))
      (try simp only [Act.put, List.setIfInBounds_toArray, List.set_cons_zero, List.set_cons_succ])
      refine wpAnyH_take (i := 2) (oi := ({ dst := some 73, op := Op.load 30 (Operand.tmp 11), type := 30, pos := "law.go:65", after := #[{ on := 1, ground := Ground.guard }], guard := some (1, true) } : Oper)) (v := .agg (Ev27 (y) K2 K7 K8 k8c)) rfl (by kernel_rfl) (by kernel_rfl) (by kernel_rfl) (fun _ _ _ h => h) (Or.inl ⟨by rfl, ?hyR5_2⟩) (by assumption) ?rsR5_2
      case hyR5_2 => (intro w8' hSw; (refine pick_loadRow (x := Operand.tmp 11) ?_ g11 ?_ 30 (Ev27 (y) K2 K7 K8 k8c) (0, 0) _ (hd_later Y80.out hSw) hu30 rfl (ev27_size _ _ _ _ _) <;> rfl))
      (try simp only [Act.put, List.setIfInBounds_toArray, List.set_cons_zero, List.set_cons_succ])
      refine wpAnyH_ready (rs := [3]) (by kernel_rfl) (by simp) ?_
      refine AllReadyH.cons (o := ({ dst := some 74, op := Op.call { callee := Callee.value (Operand.func 13), args := #[Operand.tmp 73], argTypes := #[30] }, type := 4, pos := "law.go:65", after := #[{ on := 2, ground := Ground.data }, { on := 1, ground := Ground.chain }, { on := 1, ground := Ground.guard }], guard := some (1, true) } : Oper)) rfl (fun K hK => ?_) AllReadyH.nil
      rw [if_pos (by rfl)]
      go_simp
      have hcr := right_calls y w0 K2 K7 K8 y.pol.bs.length y.pol.ss.length k8c Q80.out.1
      rw [HYR.out] at hcr
      refine hcr.mono ?_
      rintro q w1 ⟨rfl, hb1⟩
      go_simp
      refine hK.out _ _ hb1 (fun hHeld => ?_)
      clear hK
      (try simp only [Act.put, List.setIfInBounds_toArray, List.set_cons_zero, List.set_cons_succ])
      refine wpAnyH_take (i := 4) (oi := ({ dst := some 75, op := Op.pick (Operand.tmp 72) (Operand.tmp 74) (Operand.const (Value.bool false)), type := 4, pos := "law.go:65", after := #[{ on := 1, ground := Ground.data }, { on := 3, ground := Ground.data }], guard := none } : Oper)) (v := ?_) rfl (by kernel_rfl) (by kernel_rfl) (by kernel_rfl) (fun _ _ _ h => h) (Or.inl ⟨by rfl, ?hyR5_4⟩) (by assumption) ?rsR5_4
      case hyR5_4 => (intro w8' hSw; (try dsimp only at hSw); go_simp; (first | done | with_reducible rfl))
      (try simp only [Act.put, List.setIfInBounds_toArray, List.set_cons_zero, List.set_cons_succ])
      refine wpAnyH_take (i := 5) (oi := ({ dst := some 76, op := Op.move (Operand.tmp 75), type := 4, pos := "law.go:65", after := #[{ on := 4, ground := Ground.data }, { on := 3, ground := Ground.chain }], guard := none } : Oper)) (v := ?_) rfl (by kernel_rfl) (by kernel_rfl) (by kernel_rfl) (fun _ _ _ h => h) (Or.inl ⟨by rfl, ?hyR5_5⟩) (by assumption) ?rsR5_5
      case hyR5_5 => (intro w8' hSw; (try dsimp only at hSw); go_simp; (first | done | with_reducible rfl))
      (try simp only [Act.put, List.setIfInBounds_toArray, List.set_cons_zero, List.set_cons_succ])
      refine wpAnyH_take (i := 6) (oi := ({ dst := some 77, op := Op.fieldAddr 30 (Operand.tmp 11) 0, type := 0, pos := "law.go:65", after := #[{ on := 5, ground := Ground.guard }], guard := some (5, true) } : Oper)) (v := ?_) rfl (by kernel_rfl) (by kernel_rfl) (by kernel_rfl) (fun _ _ _ h => h) (Or.inl ⟨by rfl, ?hyR5_6⟩) (by assumption) ?rsR5_6
      case hyR5_6 => (intro w8' hSw; (try dsimp only at hSw); go_simp; (first | done | with_reducible rfl))
      (try simp only [Act.put, List.setIfInBounds_toArray, List.set_cons_zero, List.set_cons_succ])
      refine wpAnyH_take (i := 7) (oi := ({ dst := some 78, op := Op.load 3 (Operand.tmp 77), type := 3, pos := "law.go:65", after := #[{ on := 6, ground := Ground.data }, { on := 5, ground := Ground.guard }], guard := some (5, true) } : Oper)) (v := ?_) rfl (by kernel_rfl) (by kernel_rfl) (by kernel_rfl) (fun _ _ _ h => h) (Or.inl ⟨by rfl, ?hyR5_7⟩) (by assumption) ?rsR5_7
      case hyR5_7 => (intro w8' hSw; have cy : w8'.cell? ⟨g11, 0, none⟩ = some (.int .i64 k) := by { rw [← HYK.out]; exact evC_at (hd_later Y80.out hSw) 0 rfl }; go_simp; (first | done | with_reducible rfl))
      (try simp only [Act.put, List.setIfInBounds_toArray, List.set_cons_zero, List.set_cons_succ])
      refine wpAnyH_take (i := 8) (oi := ({ dst := some 79, op := Op.move (Operand.tmp 1), type := 3, pos := "law.go:65", after := #[{ on := 5, ground := Ground.guard }], guard := some (5, true) } : Oper)) (v := ?_) rfl (by kernel_rfl) (by kernel_rfl) (by kernel_rfl) (fun _ _ _ h => h) (Or.inl ⟨by rfl, ?hyR5_8⟩) (by assumption) ?rsR5_8
      case hyR5_8 => (intro w8' hSw; (try dsimp only at hSw); go_simp; (first | done | with_reducible rfl))
      (try simp only [Act.put, List.setIfInBounds_toArray, List.set_cons_zero, List.set_cons_succ])
      refine wpAnyH_take (i := 9) (oi := ({ dst := some 80, op := Op.binOp BinOp.eql 3 (Operand.tmp 78) (Operand.tmp 79) 3, type := 4, pos := "law.go:65", after := #[{ on := 7, ground := Ground.data }, { on := 8, ground := Ground.data }, { on := 5, ground := Ground.guard }], guard := some (5, true) } : Oper)) (v := ?_) rfl (by kernel_rfl) (by kernel_rfl) (by kernel_rfl) (fun _ _ _ h => h) (Or.inl ⟨by rfl, ?hyR5_9⟩) (by assumption) ?rsR5_9
      case hyR5_9 => (intro w8' hSw; (try dsimp only at hSw); go_simp; (first | done | with_reducible rfl))
      (try simp only [Act.put, List.setIfInBounds_toArray, List.set_cons_zero, List.set_cons_succ])
      refine wpAnyH_take (i := 10) (oi := ({ dst := some 81, op := Op.pick (Operand.tmp 76) (Operand.tmp 80) (Operand.const (Value.bool false)), type := 4, pos := "law.go:65", after := #[{ on := 5, ground := Ground.data }, { on := 9, ground := Ground.data }], guard := none } : Oper)) (v := ?_) rfl (by kernel_rfl) (by kernel_rfl) (by kernel_rfl) (fun _ _ _ h => h) (Or.inl ⟨by rfl, ?hyR5_10⟩) (by assumption) ?rsR5_10
      case hyR5_10 => (intro w8' hSw; (try dsimp only at hSw); go_simp; (first | done | with_reducible rfl))
      (try simp only [Act.put, List.setIfInBounds_toArray, List.set_cons_zero, List.set_cons_succ])
      refine wpAnyH_take (i := 11) (oi := ({ dst := some 82, op := Op.move (Operand.tmp 81), type := 4, pos := "law.go:65", after := #[{ on := 10, ground := Ground.data }, { on := 5, ground := Ground.chain }], guard := none } : Oper)) (v := ?_) rfl (by kernel_rfl) (by kernel_rfl) (by kernel_rfl) (fun _ _ _ h => h) (Or.inl ⟨by rfl, ?hyR5_11⟩) (by assumption) ?rsR5_11
      case hyR5_11 => (intro w8' hSw; (try dsimp only at hSw); go_simp; (first | done | with_reducible rfl))
      (try simp only [Act.put, List.setIfInBounds_toArray, List.set_cons_zero, List.set_cons_succ])
      refine wpAnyH_take (i := 12) (oi := ({ dst := some 83, op := Op.load 30 (Operand.tmp 11), type := 30, pos := "law.go:65", after := #[{ on := 11, ground := Ground.guard }], guard := some (11, true) } : Oper)) (v := .agg (Ev27 (y) K2 K7 K8 k8c)) rfl (by kernel_rfl) (by kernel_rfl) (by kernel_rfl) (fun _ _ _ h => h) (Or.inl ⟨by rfl, ?hyR5_12⟩) (by assumption) ?rsR5_12
      case hyR5_12 => (intro w8' hSw; (refine pick_loadRow (x := Operand.tmp 11) ?_ g11 ?_ 30 (Ev27 (y) K2 K7 K8 k8c) (0, 0) _ (hd_later Y80.out hSw) hu30 rfl (ev27_size _ _ _ _ _) <;> rfl))
      (try simp only [Act.put, List.setIfInBounds_toArray, List.set_cons_zero, List.set_cons_succ])
      refine wpAnyH_take (i := 15) (oi := ({ dst := some 86, op := Op.move (Operand.tmp 2), type := 28, pos := "law.go:65", after := #[{ on := 11, ground := Ground.guard }], guard := some (11, true) } : Oper)) (v := ?_) rfl (by kernel_rfl) (by kernel_rfl) (by kernel_rfl) (fun _ _ _ h => h) (Or.inl ⟨by rfl, ?hyR5_15⟩) (by assumption) ?rsR5_15
      case hyR5_15 => (intro w8' hSw; (try dsimp only at hSw); go_simp; (first | done | with_reducible rfl))
      (try simp only [Act.put, List.setIfInBounds_toArray, List.set_cons_zero, List.set_cons_succ])
      refine wpAnyH_take (i := 16) (oi := ({ dst := some 87, op := Op.convert 28 9 (Operand.tmp 86), type := 9, pos := "law.go:65", after := #[{ on := 15, ground := Ground.data }, { on := 11, ground := Ground.guard }], guard := some (11, true) } : Oper)) (v := ?_) rfl (by kernel_rfl) (by kernel_rfl) (by kernel_rfl) (fun _ _ _ h => h) (Or.inl ⟨by rfl, ?hyR5_16⟩) (by assumption) ?rsR5_16
      case hyR5_16 => (intro w8' hSw; have hk := Kd.C_string (c := cb) Try.underlying28 Try.underlying5 Try.underlying9 (Kd.C_below D80.out hSw); go_simp; (first | done | with_reducible rfl))
      (try simp only [Act.put, List.setIfInBounds_toArray, List.set_cons_zero, List.set_cons_succ])
      refine wpAnyH_ready (rs := [13]) (by kernel_rfl) (by simp) ?_
      refine AllReadyH.cons (o := ({ dst := some 84, op := Op.call { callee := Callee.value (Operand.func 19), args := #[Operand.tmp 83], argTypes := #[30] }, type := 28, pos := "law.go:65", after := #[{ on := 12, ground := Ground.data }, { on := 11, ground := Ground.chain }, { on := 11, ground := Ground.guard }], guard := some (11, true) } : Oper)) rfl (fun K hK => ?_) AllReadyH.nil
      rw [if_pos (by rfl)]
      go_simp
      refine (put_B y b w1 K2 K7 K8 _ _ k8c ⟨(Q80.out.later hb1).1, (Q80.out.later hb1).2⟩ HYI.out HYG.out HYP.out).mono ?_
      rintro q w2 ⟨A19, c19, rfl, hc19, hC19, hb2⟩
      have E2 := Aside0.mk hC19
      go_simp
      refine hK.out _ _ (hb1.trans (hb2.mono hb1.size)) (fun _ => wpAnyH_monoT (S' := fun w' => Below w2.heap.size w2 w') (fun w' hq => (hb1.trans (hb2.mono hb1.size)).trans (hq.mono (Nat.le_trans hb1.size hb2.size))) _ _ _ _ ?_)
      clear hK
      have hrf : Below w2.heap.size w2 w2 := Below.refl _ _
      clear hC19
      (try simp only [Act.put, List.setIfInBounds_toArray, List.set_cons_zero, List.set_cons_succ])
      refine wpAnyH_take (i := 14) (oi := ({ dst := some 85, op := Op.convert 28 9 (Operand.tmp 84), type := 9, pos := "law.go:65", after := #[{ on := 13, ground := Ground.data }, { on := 11, ground := Ground.guard }], guard := some (11, true) } : Oper)) (v := ?_) rfl (by kernel_rfl) (by kernel_rfl) (by kernel_rfl) (fun _ _ _ h => h) (Or.inl ⟨by rfl, ?hyR5_14⟩) (by assumption) ?rsR5_14
      case hyR5_14 => (intro w8' hSw; have hk := Kd.C_string (c := c19) Try.underlying28 Try.underlying5 Try.underlying9 (Kd.C_below E2.out hSw); go_simp; (first | done | with_reducible rfl))
      (try simp only [Act.put, List.setIfInBounds_toArray, List.set_cons_zero, List.set_cons_succ])
      refine wpAnyH_take (i := 17) (oi := ({ dst := some 88, op := Op.binOp BinOp.eql 9 (Operand.tmp 85) (Operand.tmp 87) 9, type := 4, pos := "law.go:65", after := #[{ on := 14, ground := Ground.data }, { on := 16, ground := Ground.data }, { on := 11, ground := Ground.guard }], guard := some (11, true) } : Oper)) (v := ?_) rfl (by kernel_rfl) (by kernel_rfl) (by kernel_rfl) (fun _ _ _ h => h) (Or.inl ⟨by rfl, ?hyR5_17⟩) (by assumption) ?rsR5_17
      case hyR5_17 => (intro w8' hSw; (try dsimp only at hSw); go_simp; (first | done | with_reducible rfl))
      (try simp only [Act.put, List.setIfInBounds_toArray, List.set_cons_zero, List.set_cons_succ])
      refine wpAnyH_take (i := 18) (oi := ({ dst := some 89, op := Op.pick (Operand.tmp 82) (Operand.tmp 88) (Operand.const (Value.bool false)), type := 4, pos := "law.go:65", after := #[{ on := 11, ground := Ground.data }, { on := 17, ground := Ground.data }], guard := none } : Oper)) (v := ?_) rfl (by kernel_rfl) (by kernel_rfl) (by kernel_rfl) (fun _ _ _ h => h) (Or.inl ⟨by rfl, ?hyR5_18⟩) (by assumption) ?rsR5_18
      case hyR5_18 => (intro w8' hSw; (try dsimp only at hSw); go_simp; (first | done | with_reducible rfl))
      (try simp only [Act.put, List.setIfInBounds_toArray, List.set_cons_zero, List.set_cons_succ])
      refine wpAnyH_take (i := 19) (oi := ({ dst := some 6, op := Op.assign (Operand.tmp 89), type := 4, pos := "law.go:65", after := #[{ on := 18, ground := Ground.data }, { on := 13, ground := Ground.chain }, { on := 0, ground := Ground.phase }, { on := 1, ground := Ground.phase }, { on := 2, ground := Ground.phase }, { on := 3, ground := Ground.phase }, { on := 4, ground := Ground.phase }, { on := 5, ground := Ground.phase }, { on := 6, ground := Ground.phase }, { on := 7, ground := Ground.phase }, { on := 8, ground := Ground.phase }, { on := 9, ground := Ground.phase }, { on := 10, ground := Ground.phase }, { on := 11, ground := Ground.phase }, { on := 12, ground := Ground.phase }, { on := 13, ground := Ground.phase }, { on := 14, ground := Ground.phase }, { on := 15, ground := Ground.phase }, { on := 16, ground := Ground.phase }, { on := 17, ground := Ground.phase }, { on := 18, ground := Ground.phase }], guard := none } : Oper)) (v := ?_) rfl (by kernel_rfl) (by kernel_rfl) (by kernel_rfl) (fun _ _ _ h => h) (Or.inl ⟨by rfl, ?hyR5_19⟩) (by assumption) ?rsR5_19
      case hyR5_19 => (intro w8' hSw; (try dsimp only at hSw); go_simp; (first | done | with_reducible rfl))
      (try simp only [Act.put, List.setIfInBounds_toArray, List.set_cons_zero, List.set_cons_succ])
      refine wpAnyH_done (by kernel_rfl) ?_ _
      refine NoPanic.normal ?_
      go_wp2_with fail
      go_ret
      exact ⟨rfl, B80.out.trans ((hb1.trans (hb2.mono hb1.size)).mono B80.out.size)⟩
  have HRT := Aside0.mk hr
  have hpl : 0 < p.length := by have := put_some hr HX.out HG.out; rw [HP.out] at this; exact this
  have hpn : ¬ (p = []) := fun h => by rw [h] at hpl; cases hpl
  clear hr
  have ck5 : W5.cell? ⟨W.heap.size, 0, none⟩ = some (.int .i64 e.k) := evC_at X5.out 0 rfl
  go_wp2_with fail
  refine (get_sl e.k p _ W5 Ap cp rfl C5.out HBP.out (by omega) e 0 (by have := get_put HRT.out HX.out HG.out; rw [HP.out] at this; exact this)).mono ?_
  rintro q W6 ⟨G2, G7, G8, g8c, rfl, hO, hb6⟩
  have O6 := Aside0.mk hO
  have B6 := Aside0.mk (B5.out.trans ((hb6).mono B5.out.size))
  have X6 := Aside0.mk (hd_later X5.out (hb6))
  have H6 := Aside0.mk (H5.out.later (hb6))
  have D6 := Aside0.mk (Kd.C_below D5.out (hb6))
  clear B5 X5 H5 C5 D5 hb6 hO ck5
  go_upto_region 7 with (first
    | (with_reducible refine hd_gateS 9 _ _ rfl ?_); refine hd_runS rfl (w1 := (W6.alloc (.cells Z 30)).setRow W6.heap.size (Ev27 e G2 G7 G8 g8c)) (pick_store rfl W6.heap.size (Ev27 e G2 G7 G8 g8c) rfl rfl 30 Z (pick_new W6 _) (ev27_size _ _ _ _ _) (by rw [sz]; rfl) (ev27_one _ _ _ _ _)) ?_)
  rw [World.setRow_alloc_new]
  have B7 := Aside0.mk (below_alloc B6.out (.cells (Ev27 e G2 G7 G8 g8c) 30))
  have X7 := Aside0.mk (hd_later X6.out (below_alloc (Below.refl _ _) (.cells (Ev27 e G2 G7 G8 g8c) 30)))
  have H7 := Aside0.mk (H6.out.later (below_alloc (Below.refl _ _) (.cells (Ev27 e G2 G7 G8 g8c) 30)))
  have D7 := Aside0.mk (Kd.C_below D6.out (below_alloc (Below.refl _ _) (.cells (Ev27 e G2 G7 G8 g8c) 30)))
  have O7 := Aside0.mk (O6.out.later (below_alloc (Below.refl _ _) (.cells (Ev27 e G2 G7 G8 g8c) 30)))
  have Y7 := Aside0.mk (pick_new W6 (.cells (Ev27 e G2 G7 G8 g8c) 30))
  generalize W6.alloc (.cells (Ev27 e G2 G7 G8 g8c) 30) = W7 at *
  generalize W6.heap.size = g9 at *
  clear B6 X6 H6 D6 O6 
  have ql : decide ((p.length : Int) < 1) = false := decide_eq_false (by omega)
  go_wp2_with (first
    | (with_reducible refine hd_gate 33 rfl ?_); refine hd_run (by rfl) (v := .agg (Ev27 (e) G2 G7 G8 g8c)) (w1 := W7) (pick_loadRow rfl g9 rfl 30 _ (0, 0) _ Y7.out hu30 rfl (ev27_size _ _ _ _ _)) ?_
    | (with_reducible refine hd_gate 34 rfl ?_); refine hd_run (by rfl) (v := .agg (evC e A2 A7 A8 c2 c7 c8).toArray) (w1 := W7) (pick_loadRow rfl W.heap.size rfl 30 _ (0, 0) _ X7.out hu30 rfl hi30) ?_)
  refine (same_self e _ _ G2 G7 G8 A2 A7 A8 _ _ g8c c2 c7 c8 W7 rfl rfl O7.out.1 H7.out.1 (by have := greatE_lens HG.out; omega) (by have := greatE_lens HG.out; omega)).mono ?_
  rintro q W8 ⟨rfl, hb8⟩
  have B8 := Aside0.mk (B7.out.trans ((hb8).mono B7.out.size))
  have D8 := Aside0.mk (Kd.C_below D7.out (hb8))
  clear B7 X7 H7 D7 O7 Y7 hb8
  rcases get_conv k b HBB.out with (h12 | h13) | ⟨y, hy0, hyr, hyk, hyp, hyi, hy1, hy2, hy3⟩
  · have hg := Aside0.mk h12
    clear h12
    go_wp2_with fail
    refine (get_sl k b _ W8 Ab cb rfl D8.out HBB.out (by have := HBL.out; omega) (ev0 0) 12 (hg.out)).mono ?_
    rintro q W9 ⟨K2, K7, K8, k8c, rfl, hO9, hb9⟩
    have Q9 := Aside0.mk hO9
    have B9 := Aside0.mk (B8.out.trans ((hb9).mono B8.out.size))
    have D9 := Aside0.mk (Kd.C_below D8.out (hb9))
    clear B8 D8 hb9 hO9
    go_upto_region 12 with (first
      | (with_reducible refine hd_gateS 11 _ _ rfl ?_); refine hd_runS rfl (w1 := (W9.alloc (.cells Z 30)).setRow W9.heap.size (Ev27 (ev0 0) K2 K7 K8 k8c)) (pick_store rfl W9.heap.size (Ev27 (ev0 0) K2 K7 K8 k8c) rfl rfl 30 Z (pick_new W9 _) (ev27_size _ _ _ _ _) (by rw [sz]; rfl) (ev27_one _ _ _ _ _)) ?_)
    rw [World.setRow_alloc_new]
    have B10 := Aside0.mk (below_alloc B9.out (.cells (Ev27 (ev0 0) K2 K7 K8 k8c) 30))
    have D10 := Aside0.mk (Kd.C_below D9.out (below_alloc (Below.refl _ _) (.cells (Ev27 (ev0 0) K2 K7 K8 k8c) 30)))
    have Q10 := Aside0.mk (Q9.out.later (below_alloc (Below.refl _ _) (.cells (Ev27 (ev0 0) K2 K7 K8 k8c) 30)))
    have Y10 := Aside0.mk (pick_new W9 (.cells (Ev27 (ev0 0) K2 K7 K8 k8c) 30))
    generalize W9.alloc (.cells (Ev27 (ev0 0) K2 K7 K8 k8c) 30) = W10 at *
    generalize W9.heap.size = g11 at *
    clear B9 D9 Q9 
    go_wp2_with (first
      | (with_reducible refine hd_gate 59 rfl ?_); refine hd_run (by rfl) (v := .agg (Ev27 (ev0 0) K2 K7 K8 k8c)) (w1 := W10) (pick_loadRow rfl g11 rfl 30 _ (0, 0) _ Y10.out hu30 rfl (ev27_size _ _ _ _ _)) ?_)
    refine (same_self (ev0 0) _ _ K2 K7 K8 none none none _ _ k8c 0 0 0 W10 rfl (by rw [HZ.out]; rfl) Q10.out.1 (z_own (ev0 0) W10 0 0 0 rfl rfl rfl).1 (by decide) (by decide)).mono ?_
    rintro q W90 ⟨rfl, hb90⟩
    go_wp2_with fail
    go_ret
    exact ⟨rfl, B10.out.trans (hb90.mono B10.out.size)⟩
  · have hg := Aside0.mk h13
    clear h13
    go_wp2_with fail
    refine (get_sl k b _ W8 Ab cb rfl D8.out HBB.out (by have := HBL.out; omega) (ev0 0) 13 (hg.out)).mono ?_
    rintro q W9 ⟨K2, K7, K8, k8c, rfl, hO9, hb9⟩
    have Q9 := Aside0.mk hO9
    have B9 := Aside0.mk (B8.out.trans ((hb9).mono B8.out.size))
    have D9 := Aside0.mk (Kd.C_below D8.out (hb9))
    clear B8 D8 hb9 hO9
    go_upto_region 12 with (first
      | (with_reducible refine hd_gateS 11 _ _ rfl ?_); refine hd_runS rfl (w1 := (W9.alloc (.cells Z 30)).setRow W9.heap.size (Ev27 (ev0 0) K2 K7 K8 k8c)) (pick_store rfl W9.heap.size (Ev27 (ev0 0) K2 K7 K8 k8c) rfl rfl 30 Z (pick_new W9 _) (ev27_size _ _ _ _ _) (by rw [sz]; rfl) (ev27_one _ _ _ _ _)) ?_)
    rw [World.setRow_alloc_new]
    have B10 := Aside0.mk (below_alloc B9.out (.cells (Ev27 (ev0 0) K2 K7 K8 k8c) 30))
    have D10 := Aside0.mk (Kd.C_below D9.out (below_alloc (Below.refl _ _) (.cells (Ev27 (ev0 0) K2 K7 K8 k8c) 30)))
    have Q10 := Aside0.mk (Q9.out.later (below_alloc (Below.refl _ _) (.cells (Ev27 (ev0 0) K2 K7 K8 k8c) 30)))
    have Y10 := Aside0.mk (pick_new W9 (.cells (Ev27 (ev0 0) K2 K7 K8 k8c) 30))
    generalize W9.alloc (.cells (Ev27 (ev0 0) K2 K7 K8 k8c) 30) = W10 at *
    generalize W9.heap.size = g11 at *
    clear B9 D9 Q9 
    go_wp2_with (first
      | (with_reducible refine hd_gate 59 rfl ?_); refine hd_run (by rfl) (v := .agg (Ev27 (ev0 0) K2 K7 K8 k8c)) (w1 := W10) (pick_loadRow rfl g11 rfl 30 _ (0, 0) _ Y10.out hu30 rfl (ev27_size _ _ _ _ _)) ?_)
    refine (same_self (ev0 0) _ _ K2 K7 K8 none none none _ _ k8c 0 0 0 W10 rfl (by rw [HZ.out]; rfl) Q10.out.1 (z_own (ev0 0) W10 0 0 0 rfl rfl rfl).1 (by decide) (by decide)).mono ?_
    rintro q W90 ⟨rfl, hb90⟩
    go_wp2_with fail
    go_ret
    exact ⟨rfl, B10.out.trans (hb90.mono B10.out.size)⟩
  · have HY0 := Aside0.mk hy0
    have HYR := Aside0.mk hyr
    have HYK := Aside0.mk hyk
    have HYP := Aside0.mk hyp
    have HYI := Aside0.mk hyi
    have HYG := Aside0.mk (show greatE y = false by unfold greatE; simp only [Bool.or_eq_false_iff, decide_eq_false_iff_not]; omega)
    clear hy0 hyr hyk hyp hyi hy1 hy2 hy3
    go_wp2_with fail
    refine (get_sl k b _ W8 Ab cb rfl D8.out HBB.out (by have := HBL.out; omega) (y) 0 (HY0.out)).mono ?_
    rintro q W9 ⟨K2, K7, K8, k8c, rfl, hO9, hb9⟩
    have Q9 := Aside0.mk hO9
    have B9 := Aside0.mk (B8.out.trans ((hb9).mono B8.out.size))
    have D9 := Aside0.mk (Kd.C_below D8.out (hb9))
    clear B8 D8 hb9 hO9
    go_upto_region 12 with (first
      | (with_reducible refine hd_gateS 11 _ _ rfl ?_); refine hd_runS rfl (w1 := (W9.alloc (.cells Z 30)).setRow W9.heap.size (Ev27 (y) K2 K7 K8 k8c)) (pick_store rfl W9.heap.size (Ev27 (y) K2 K7 K8 k8c) rfl rfl 30 Z (pick_new W9 _) (ev27_size _ _ _ _ _) (by rw [sz]; rfl) (ev27_one _ _ _ _ _)) ?_)
    rw [World.setRow_alloc_new]
    have B10 := Aside0.mk (below_alloc B9.out (.cells (Ev27 (y) K2 K7 K8 k8c) 30))
    have D10 := Aside0.mk (Kd.C_below D9.out (below_alloc (Below.refl _ _) (.cells (Ev27 (y) K2 K7 K8 k8c) 30)))
    have Q10 := Aside0.mk (Q9.out.later (below_alloc (Below.refl _ _) (.cells (Ev27 (y) K2 K7 K8 k8c) 30)))
    have Y10 := Aside0.mk (pick_new W9 (.cells (Ev27 (y) K2 K7 K8 k8c) 30))
    generalize W9.alloc (.cells (Ev27 (y) K2 K7 K8 k8c) 30) = W10 at *
    generalize W9.heap.size = g11 at *
    clear B9 D9 Q9 
    go_upto_region 14 with fail
    have hw0 : Below W10.heap.size W10 W10.drew := below_drew (Below.refl _ _)
    have B80 := Aside0.mk (B10.out.trans (hw0.mono B10.out.size))
    have D80 := Aside0.mk (Kd.C_below D10.out hw0)
    have Q80 := Aside0.mk (Q10.out.later hw0)
    have Y80 := Aside0.mk (hd_later Y10.out hw0)
    clear hw0
    refine wp_region_noPanic ?_
    generalize hW0 : W10.drew = w0 at *
    refine wp_region_held_drew (S := fun w' => Below w0.heap.size w0 w') (by kernel_rfl) (by rw [hW0]; exact Below.refl _ _) (fun hHeld => ?_)
    rw [hW0]
    clear hW0 hHeld
    have hrf0 : Below w0.heap.size w0 w0 := Below.refl _ _
    refine wpAnyH_take (i := 0) (oi := ({ dst := some 71, op := Op.move (Operand.tmp 7), type := 4, pos := "law.go:65", after := #[], guard := none } : Oper)) (v := ?_) rfl (by kernel_rfl) (by kernel_rfl) (by kernel_rfl) (fun _ _ _ h => h) (Or.inl ⟨by rfl, ?hyR8_0⟩) (by assumption) ?rsR8_0
    case hyR8_0 => (intro w8' hSw; (try dsimp only at hSw); go_simp; (first | done | with_reducible rfl))
    (try simp only [Act.put, List.setIfInBounds_toArray, List.set_cons_zero, List.set_cons_succ])
    refine wpAnyH_take (i := 1) (oi := ({ dst := some 72, op := Op.move (Operand.tmp 71), type := 4, pos := "law.go:65", after := #[{ on := 0, ground := Ground.data }], guard := none } : Oper)) (v := ?_) rfl (by kernel_rfl) (by kernel_rfl) (by kernel_rfl) (fun _ _ _ h => h) (Or.inl ⟨by rfl, ?hyR8_1⟩) (by assumption) ?rsR8_1
    case hyR8_1 => (intro w8' hSw; (try dsimp only at hSw); go_simp; (first | done | with_reducible rfl))
    (try simp only [Act.put, List.setIfInBounds_toArray, List.set_cons_zero, List.set_cons_succ])
    refine wpAnyH_take (i := 2) (oi := ({ dst := some 73, op := Op.load 30 (Operand.tmp 11), type := 30, pos := "law.go:65", after := #[{ on := 1, ground := Ground.guard }], guard := some (1, true) } : Oper)) (v := .agg (Ev27 (y) K2 K7 K8 k8c)) rfl (by kernel_rfl) (by kernel_rfl) (by kernel_rfl) (fun _ _ _ h => h) (Or.inl ⟨by rfl, ?hyR8_2⟩) (by assumption) ?rsR8_2
    case hyR8_2 => (intro w8' hSw; (refine pick_loadRow (x := Operand.tmp 11) ?_ g11 ?_ 30 (Ev27 (y) K2 K7 K8 k8c) (0, 0) _ (hd_later Y80.out hSw) hu30 rfl (ev27_size _ _ _ _ _) <;> rfl))
    (try simp only [Act.put, List.setIfInBounds_toArray, List.set_cons_zero, List.set_cons_succ])
    refine wpAnyH_ready (rs := [3]) (by kernel_rfl) (by simp) ?_
    refine AllReadyH.cons (o := ({ dst := some 74, op := Op.call { callee := Callee.value (Operand.func 13), args := #[Operand.tmp 73], argTypes := #[30] }, type := 4, pos := "law.go:65", after := #[{ on := 2, ground := Ground.data }, { on := 1, ground := Ground.chain }, { on := 1, ground := Ground.guard }], guard := some (1, true) } : Oper)) rfl (fun K hK => ?_) AllReadyH.nil
    rw [if_pos (by rfl)]
    go_simp
    have hcr := right_calls y w0 K2 K7 K8 y.pol.bs.length y.pol.ss.length k8c Q80.out.1
    rw [HYR.out] at hcr
    refine hcr.mono ?_
    rintro q w1 ⟨rfl, hb1⟩
    go_simp
    refine hK.out _ _ hb1 (fun hHeld => ?_)
    clear hK
    (try simp only [Act.put, List.setIfInBounds_toArray, List.set_cons_zero, List.set_cons_succ])
    refine wpAnyH_take (i := 4) (oi := ({ dst := some 75, op := Op.pick (Operand.tmp 72) (Operand.tmp 74) (Operand.const (Value.bool false)), type := 4, pos := "law.go:65", after := #[{ on := 1, ground := Ground.data }, { on := 3, ground := Ground.data }], guard := none } : Oper)) (v := ?_) rfl (by kernel_rfl) (by kernel_rfl) (by kernel_rfl) (fun _ _ _ h => h) (Or.inl ⟨by rfl, ?hyR8_4⟩) (by assumption) ?rsR8_4
    case hyR8_4 => (intro w8' hSw; (try dsimp only at hSw); go_simp; (first | done | with_reducible rfl))
    (try simp only [Act.put, List.setIfInBounds_toArray, List.set_cons_zero, List.set_cons_succ])
    refine wpAnyH_take (i := 5) (oi := ({ dst := some 76, op := Op.move (Operand.tmp 75), type := 4, pos := "law.go:65", after := #[{ on := 4, ground := Ground.data }, { on := 3, ground := Ground.chain }], guard := none } : Oper)) (v := ?_) rfl (by kernel_rfl) (by kernel_rfl) (by kernel_rfl) (fun _ _ _ h => h) (Or.inl ⟨by rfl, ?hyR8_5⟩) (by assumption) ?rsR8_5
    case hyR8_5 => (intro w8' hSw; (try dsimp only at hSw); go_simp; (first | done | with_reducible rfl))
    (try simp only [Act.put, List.setIfInBounds_toArray, List.set_cons_zero, List.set_cons_succ])
    refine wpAnyH_take (i := 6) (oi := ({ dst := some 77, op := Op.fieldAddr 30 (Operand.tmp 11) 0, type := 0, pos := "law.go:65", after := #[{ on := 5, ground := Ground.guard }], guard := some (5, true) } : Oper)) (v := ?_) rfl (by kernel_rfl) (by kernel_rfl) (by kernel_rfl) (fun _ _ _ h => h) (Or.inl ⟨by rfl, ?hyR8_6⟩) (by assumption) ?rsR8_6
    case hyR8_6 => (intro w8' hSw; (try dsimp only at hSw); go_simp; (first | done | with_reducible rfl))
    (try simp only [Act.put, List.setIfInBounds_toArray, List.set_cons_zero, List.set_cons_succ])
    refine wpAnyH_take (i := 7) (oi := ({ dst := some 78, op := Op.load 3 (Operand.tmp 77), type := 3, pos := "law.go:65", after := #[{ on := 6, ground := Ground.data }, { on := 5, ground := Ground.guard }], guard := some (5, true) } : Oper)) (v := ?_) rfl (by kernel_rfl) (by kernel_rfl) (by kernel_rfl) (fun _ _ _ h => h) (Or.inl ⟨by rfl, ?hyR8_7⟩) (by assumption) ?rsR8_7
    case hyR8_7 => (intro w8' hSw; have cy : w8'.cell? ⟨g11, 0, none⟩ = some (.int .i64 k) := by { rw [← HYK.out]; exact evC_at (hd_later Y80.out hSw) 0 rfl }; go_simp; (first | done | with_reducible rfl))
    (try simp only [Act.put, List.setIfInBounds_toArray, List.set_cons_zero, List.set_cons_succ])
    refine wpAnyH_take (i := 8) (oi := ({ dst := some 79, op := Op.move (Operand.tmp 1), type := 3, pos := "law.go:65", after := #[{ on := 5, ground := Ground.guard }], guard := some (5, true) } : Oper)) (v := ?_) rfl (by kernel_rfl) (by kernel_rfl) (by kernel_rfl) (fun _ _ _ h => h) (Or.inl ⟨by rfl, ?hyR8_8⟩) (by assumption) ?rsR8_8
    case hyR8_8 => (intro w8' hSw; (try dsimp only at hSw); go_simp; (first | done | with_reducible rfl))
    (try simp only [Act.put, List.setIfInBounds_toArray, List.set_cons_zero, List.set_cons_succ])
    refine wpAnyH_take (i := 9) (oi := ({ dst := some 80, op := Op.binOp BinOp.eql 3 (Operand.tmp 78) (Operand.tmp 79) 3, type := 4, pos := "law.go:65", after := #[{ on := 7, ground := Ground.data }, { on := 8, ground := Ground.data }, { on := 5, ground := Ground.guard }], guard := some (5, true) } : Oper)) (v := ?_) rfl (by kernel_rfl) (by kernel_rfl) (by kernel_rfl) (fun _ _ _ h => h) (Or.inl ⟨by rfl, ?hyR8_9⟩) (by assumption) ?rsR8_9
    case hyR8_9 => (intro w8' hSw; (try dsimp only at hSw); go_simp; (first | done | with_reducible rfl))
    (try simp only [Act.put, List.setIfInBounds_toArray, List.set_cons_zero, List.set_cons_succ])
    refine wpAnyH_take (i := 10) (oi := ({ dst := some 81, op := Op.pick (Operand.tmp 76) (Operand.tmp 80) (Operand.const (Value.bool false)), type := 4, pos := "law.go:65", after := #[{ on := 5, ground := Ground.data }, { on := 9, ground := Ground.data }], guard := none } : Oper)) (v := ?_) rfl (by kernel_rfl) (by kernel_rfl) (by kernel_rfl) (fun _ _ _ h => h) (Or.inl ⟨by rfl, ?hyR8_10⟩) (by assumption) ?rsR8_10
    case hyR8_10 => (intro w8' hSw; (try dsimp only at hSw); go_simp; (first | done | with_reducible rfl))
    (try simp only [Act.put, List.setIfInBounds_toArray, List.set_cons_zero, List.set_cons_succ])
    refine wpAnyH_take (i := 11) (oi := ({ dst := some 82, op := Op.move (Operand.tmp 81), type := 4, pos := "law.go:65", after := #[{ on := 10, ground := Ground.data }, { on := 5, ground := Ground.chain }], guard := none } : Oper)) (v := ?_) rfl (by kernel_rfl) (by kernel_rfl) (by kernel_rfl) (fun _ _ _ h => h) (Or.inl ⟨by rfl, ?hyR8_11⟩) (by assumption) ?rsR8_11
    case hyR8_11 => (intro w8' hSw; (try dsimp only at hSw); go_simp; (first | done | with_reducible rfl))
    (try simp only [Act.put, List.setIfInBounds_toArray, List.set_cons_zero, List.set_cons_succ])
    refine wpAnyH_take (i := 12) (oi := ({ dst := some 83, op := Op.load 30 (Operand.tmp 11), type := 30, pos := "law.go:65", after := #[{ on := 11, ground := Ground.guard }], guard := some (11, true) } : Oper)) (v := .agg (Ev27 (y) K2 K7 K8 k8c)) rfl (by kernel_rfl) (by kernel_rfl) (by kernel_rfl) (fun _ _ _ h => h) (Or.inl ⟨by rfl, ?hyR8_12⟩) (by assumption) ?rsR8_12
    case hyR8_12 => (intro w8' hSw; (refine pick_loadRow (x := Operand.tmp 11) ?_ g11 ?_ 30 (Ev27 (y) K2 K7 K8 k8c) (0, 0) _ (hd_later Y80.out hSw) hu30 rfl (ev27_size _ _ _ _ _) <;> rfl))
    (try simp only [Act.put, List.setIfInBounds_toArray, List.set_cons_zero, List.set_cons_succ])
    refine wpAnyH_take (i := 15) (oi := ({ dst := some 86, op := Op.move (Operand.tmp 2), type := 28, pos := "law.go:65", after := #[{ on := 11, ground := Ground.guard }], guard := some (11, true) } : Oper)) (v := ?_) rfl (by kernel_rfl) (by kernel_rfl) (by kernel_rfl) (fun _ _ _ h => h) (Or.inl ⟨by rfl, ?hyR8_15⟩) (by assumption) ?rsR8_15
    case hyR8_15 => (intro w8' hSw; (try dsimp only at hSw); go_simp; (first | done | with_reducible rfl))
    (try simp only [Act.put, List.setIfInBounds_toArray, List.set_cons_zero, List.set_cons_succ])
    refine wpAnyH_take (i := 16) (oi := ({ dst := some 87, op := Op.convert 28 9 (Operand.tmp 86), type := 9, pos := "law.go:65", after := #[{ on := 15, ground := Ground.data }, { on := 11, ground := Ground.guard }], guard := some (11, true) } : Oper)) (v := ?_) rfl (by kernel_rfl) (by kernel_rfl) (by kernel_rfl) (fun _ _ _ h => h) (Or.inl ⟨by rfl, ?hyR8_16⟩) (by assumption) ?rsR8_16
    case hyR8_16 => (intro w8' hSw; have hk := Kd.C_string (c := cb) Try.underlying28 Try.underlying5 Try.underlying9 (Kd.C_below D80.out hSw); go_simp; (first | done | with_reducible rfl))
    (try simp only [Act.put, List.setIfInBounds_toArray, List.set_cons_zero, List.set_cons_succ])
    refine wpAnyH_ready (rs := [13]) (by kernel_rfl) (by simp) ?_
    refine AllReadyH.cons (o := ({ dst := some 84, op := Op.call { callee := Callee.value (Operand.func 19), args := #[Operand.tmp 83], argTypes := #[30] }, type := 28, pos := "law.go:65", after := #[{ on := 12, ground := Ground.data }, { on := 11, ground := Ground.chain }, { on := 11, ground := Ground.guard }], guard := some (11, true) } : Oper)) rfl (fun K hK => ?_) AllReadyH.nil
    rw [if_pos (by rfl)]
    go_simp
    refine (put_B y b w1 K2 K7 K8 _ _ k8c ⟨(Q80.out.later hb1).1, (Q80.out.later hb1).2⟩ HYI.out HYG.out HYP.out).mono ?_
    rintro q w2 ⟨A19, c19, rfl, hc19, hC19, hb2⟩
    have E2 := Aside0.mk hC19
    go_simp
    refine hK.out _ _ (hb1.trans (hb2.mono hb1.size)) (fun _ => wpAnyH_monoT (S' := fun w' => Below w2.heap.size w2 w') (fun w' hq => (hb1.trans (hb2.mono hb1.size)).trans (hq.mono (Nat.le_trans hb1.size hb2.size))) _ _ _ _ ?_)
    clear hK
    have hrf : Below w2.heap.size w2 w2 := Below.refl _ _
    clear hC19
    (try simp only [Act.put, List.setIfInBounds_toArray, List.set_cons_zero, List.set_cons_succ])
    refine wpAnyH_take (i := 14) (oi := ({ dst := some 85, op := Op.convert 28 9 (Operand.tmp 84), type := 9, pos := "law.go:65", after := #[{ on := 13, ground := Ground.data }, { on := 11, ground := Ground.guard }], guard := some (11, true) } : Oper)) (v := ?_) rfl (by kernel_rfl) (by kernel_rfl) (by kernel_rfl) (fun _ _ _ h => h) (Or.inl ⟨by rfl, ?hyR8_14⟩) (by assumption) ?rsR8_14
    case hyR8_14 => (intro w8' hSw; have hk := Kd.C_string (c := c19) Try.underlying28 Try.underlying5 Try.underlying9 (Kd.C_below E2.out hSw); go_simp; (first | done | with_reducible rfl))
    (try simp only [Act.put, List.setIfInBounds_toArray, List.set_cons_zero, List.set_cons_succ])
    refine wpAnyH_take (i := 17) (oi := ({ dst := some 88, op := Op.binOp BinOp.eql 9 (Operand.tmp 85) (Operand.tmp 87) 9, type := 4, pos := "law.go:65", after := #[{ on := 14, ground := Ground.data }, { on := 16, ground := Ground.data }, { on := 11, ground := Ground.guard }], guard := some (11, true) } : Oper)) (v := ?_) rfl (by kernel_rfl) (by kernel_rfl) (by kernel_rfl) (fun _ _ _ h => h) (Or.inl ⟨by rfl, ?hyR8_17⟩) (by assumption) ?rsR8_17
    case hyR8_17 => (intro w8' hSw; (try dsimp only at hSw); go_simp; (first | done | with_reducible rfl))
    (try simp only [Act.put, List.setIfInBounds_toArray, List.set_cons_zero, List.set_cons_succ])
    refine wpAnyH_take (i := 18) (oi := ({ dst := some 89, op := Op.pick (Operand.tmp 82) (Operand.tmp 88) (Operand.const (Value.bool false)), type := 4, pos := "law.go:65", after := #[{ on := 11, ground := Ground.data }, { on := 17, ground := Ground.data }], guard := none } : Oper)) (v := ?_) rfl (by kernel_rfl) (by kernel_rfl) (by kernel_rfl) (fun _ _ _ h => h) (Or.inl ⟨by rfl, ?hyR8_18⟩) (by assumption) ?rsR8_18
    case hyR8_18 => (intro w8' hSw; (try dsimp only at hSw); go_simp; (first | done | with_reducible rfl))
    (try simp only [Act.put, List.setIfInBounds_toArray, List.set_cons_zero, List.set_cons_succ])
    refine wpAnyH_take (i := 19) (oi := ({ dst := some 6, op := Op.assign (Operand.tmp 89), type := 4, pos := "law.go:65", after := #[{ on := 18, ground := Ground.data }, { on := 13, ground := Ground.chain }, { on := 0, ground := Ground.phase }, { on := 1, ground := Ground.phase }, { on := 2, ground := Ground.phase }, { on := 3, ground := Ground.phase }, { on := 4, ground := Ground.phase }, { on := 5, ground := Ground.phase }, { on := 6, ground := Ground.phase }, { on := 7, ground := Ground.phase }, { on := 8, ground := Ground.phase }, { on := 9, ground := Ground.phase }, { on := 10, ground := Ground.phase }, { on := 11, ground := Ground.phase }, { on := 12, ground := Ground.phase }, { on := 13, ground := Ground.phase }, { on := 14, ground := Ground.phase }, { on := 15, ground := Ground.phase }, { on := 16, ground := Ground.phase }, { on := 17, ground := Ground.phase }, { on := 18, ground := Ground.phase }], guard := none } : Oper)) (v := ?_) rfl (by kernel_rfl) (by kernel_rfl) (by kernel_rfl) (fun _ _ _ h => h) (Or.inl ⟨by rfl, ?hyR8_19⟩) (by assumption) ?rsR8_19
    case hyR8_19 => (intro w8' hSw; (try dsimp only at hSw); go_simp; (first | done | with_reducible rfl))
    (try simp only [Act.put, List.setIfInBounds_toArray, List.set_cons_zero, List.set_cons_succ])
    refine wpAnyH_done (by kernel_rfl) ?_ _
    refine NoPanic.normal ?_
    go_wp2_with fail
    go_ret
    exact ⟨rfl, B80.out.trans ((hb1.trans (hb2.mono hb1.size)).mono B80.out.size)⟩
end Go.Proofs.Ytldohapdhljoaaa.Wire

/- What a call of the law comes to. -/
namespace Go.Proofs.Ytldohapdhljoaaa.Print
open Go.RowKit Go.Proofs.YtldohapdhljoaaaW.PrintWords Go.Proofs.YtldohapdhljoaaaW.PrintLast
set_option linter.unusedVariables false
/-! ### governorlaw09_EventBack: function 4 -/
def governorlaw09_EventBack.f (a0_0 : Int) (a0_1 : Int) (a0_2 : Int) (a0_3 : Int) (a0_4 : Int) (a0_5 : Int) (a0_6 : Int) (a0_7 : Int) (l0_8 : List (S46)) (a0_9 : Int) (a0_10 : Int) (a0_11 : Int) (a0_12 : Int) (l0_13 : List (S48)) (a0_14 : Int) (a0_15 : Int) (a0_16 : Int) (a0_17 : Int) (a0_18 : Int) (a0_19 : Int) (a0_20 : Int) (a0_21 : Int) (a0_22 : Int) (a0_23 : Int) (a0_24 : Int) (a0_25 : Int) (l0_26 : List Int) (a1 : Int) (l2 : List Int) : Option (Bool) := some true
theorem governorlaw09_EventBack.calls (a0_0 : Int) (a0_1 : Int) (a0_2 : Int) (a0_3 : Int) (a0_4 : Int) (a0_5 : Int) (a0_6 : Int) (a0_7 : Int) (A0_8 : Option Addr) (c0_8 : Nat) (l0_8 : List (S46)) (a0_9 : Int) (a0_10 : Int) (a0_11 : Int) (a0_12 : Int) (A0_13 : Option Addr) (c0_13 : Nat) (l0_13 : List (S48)) (a0_14 : Int) (a0_15 : Int) (a0_16 : Int) (a0_17 : Int) (a0_18 : Int) (a0_19 : Int) (a0_20 : Int) (a0_21 : Int) (a0_22 : Int) (a0_23 : Int) (a0_24 : Int) (a0_25 : Int) (A0_26 : Option Addr) (c0_26 : Nat) (l0_26 : List Int) (a1 : Int) (A2 : Option Addr) (c2 : Nat) (l2 : List Int) (r : Bool) (w : World) (hr0_8 : Kd.C k46 w A0_8 l0_8.length l0_8) (hc0_8 : l0_8.length ≤ c0_8) (hr0_13 : Kd.C k48 w A0_13 l0_13.length l0_13) (hc0_13 : l0_13.length ≤ c0_13) (hr0_26 : Kd.C (Kd.int .u8) w A0_26 l0_26.length l0_26) (hc0_26 : l0_26.length ≤ c0_26) (hr2 : Kd.C (Kd.int .u8) w A2 l2.length l2) (hc2 : l2.length ≤ c2) (h : governorlaw09_EventBack.f a0_0 a0_1 a0_2 a0_3 a0_4 a0_5 a0_6 a0_7 l0_8 a0_9 a0_10 a0_11 a0_12 l0_13 a0_14 a0_15 a0_16 a0_17 a0_18 a0_19 a0_20 a0_21 a0_22 a0_23 a0_24 a0_25 l0_26 a1 l2 = some r) (hn : Go.Proofs.Ytldohapdhljoaaa.Wire.EvNF ⟨a0_0, a0_1, a0_2, a0_3, a0_4, a0_5, ⟨a0_6, a0_7, l0_8, a0_9, a0_10, a0_11, a0_12, l0_13⟩, ⟨a0_14, a0_15, a0_16, a0_17, a0_18, a0_19, a0_20, a0_21, a0_22, a0_23, a0_24, a0_25⟩, l0_26⟩ w A0_8 A0_13) (hw : (Go.Proofs.Ytldohapdhljoaaa.Wire.EvIn ⟨a0_0, a0_1, a0_2, a0_3, a0_4, a0_5, ⟨a0_6, a0_7, l0_8, a0_9, a0_10, a0_11, a0_12, l0_13⟩, ⟨a0_14, a0_15, a0_16, a0_17, a0_18, a0_19, a0_20, a0_21, a0_22, a0_23, a0_24, a0_25⟩, l0_26⟩ ∧ Go.Proofs.Ytldohapdhljoaaa.Wire.Byt l0_26) ∧ Go.Proofs.Ytldohapdhljoaaa.Wire.Byt l2) :
    Calls Try.prog 4 #[.agg #[.int .i64 a0_0, .int .i64 a0_1, .int .i64 a0_2, .int .i64 a0_3, .int .i64 a0_4, .int .i64 a0_5, .int .i64 a0_6, .int .i64 a0_7, .slice A0_8 l0_8.length c0_8, .int .i64 a0_9, .int .i64 a0_10, .int .i64 a0_11, .int .i64 a0_12, .slice A0_13 l0_13.length c0_13, .int .i64 a0_14, .int .i64 a0_15, .int .i64 a0_16, .int .i64 a0_17, .int .i64 a0_18, .int .i64 a0_19, .int .i64 a0_20, .int .i64 a0_21, .int .i64 a0_22, .int .i64 a0_23, .int .i64 a0_24, .int .i64 a0_25, .slice A0_26 l0_26.length c0_26], .int .i64 a1, .slice A2 l2.length c2] w fun e w' => e = .returned (.bool r) ∧ Below w.heap.size w w' := by
  obtain rfl := Option.some.inj h
  exact Go.Proofs.Ytldohapdhljoaaa.Wire.back_calls ⟨a0_0, a0_1, a0_2, a0_3, a0_4, a0_5, ⟨a0_6, a0_7, l0_8, a0_9, a0_10, a0_11, a0_12, l0_13⟩, ⟨a0_14, a0_15, a0_16, a0_17, a0_18, a0_19, a0_20, a0_21, a0_22, a0_23, a0_24, a0_25⟩, l0_26⟩ a1 l2 w A0_8 A0_13 A0_26 A2 c0_8 c0_13 c0_26 c2 ⟨⟨⟨hr0_8, hc0_8, hr0_13, hc0_13⟩, hr0_26, hc0_26⟩, hn⟩ hw.1.1 hw.1.2 hr2 hw.2


end Go.Proofs.Ytldohapdhljoaaa.Print

/- What is to be shown of governorlaw09_EventBack in plain Lean. -/
namespace Go.Proofs.Ytldohapdhljoaaa.Print
open Go.RowKit Go.Proofs.YtldohapdhljoaaaW.PrintWords
def governorlaw09_EventBack.Pure : Prop := ∀ (x0 : S30) (a1 : Int) (l2 : List Int), wf30 x0 → (Lit.int .i64 a1).wf = true → (l2.length ≤ 9223372036854775807 ∧ ∀ a ∈ l2, (Lit.int .u8 a).wf = true) → governorlaw09_EventBack.f x0.f0 x0.f1 x0.f2 x0.f3 x0.f4 x0.f5 x0.f6.f0 x0.f6.f1 x0.f6.f2 x0.f6.f3 x0.f6.f4 x0.f6.f5 x0.f6.f6 x0.f6.f7 x0.f7.f0 x0.f7.f1 x0.f7.f2 x0.f7.f3 x0.f7.f4 x0.f7.f5 x0.f7.f6 x0.f7.f7 x0.f7.f8 x0.f7.f9 x0.f7.f10 x0.f7.f11 x0.f8 a1 l2 = some true
end Go.Proofs.Ytldohapdhljoaaa.Print

/- The law EventBack in plain Lean: it is shown with its call. -/
namespace Go.Proofs.Ytldohapdhljoaaa.Pure
open Go.RowKit Go.Proofs.Ytldohapdhljoaaa.Print Go.Proofs.YtldohapdhljoaaaW.PrintWords Go.Proofs.YtldohapdhljoaaaW.PrintLast

theorem EventBack : governorlaw09_EventBack.Pure := by
  unfold governorlaw09_EventBack.Pure
  intros
  rfl

end Go.Proofs.Ytldohapdhljoaaa.Pure
