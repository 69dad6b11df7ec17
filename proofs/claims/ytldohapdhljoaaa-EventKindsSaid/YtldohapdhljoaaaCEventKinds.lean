/- The law's own texts. -/
import Derived.Test.YtldohapdhljoaaaBj
import Derived.Test.YtldohapdhljoaaaBb
namespace Go.Proofs.Ytldohapdhljoaaa.Wire
open Go.RowKit Go.Proofs.YtldohapdhljoaaaW.PrintWords Go.Proofs.Ytldohapdhljoaaa.Obj Go.Proofs.Ytldohapdhljoaaa.Print
set_option linter.unusedVariables false
set_option linter.unusedSimpArgs false
set_option maxRecDepth 100000
set_option maxHeartbeats 8000000 in
theorem kinds_calls (e : Ev) (a : Int) (W : World) (A2 A7 A8 : Option Addr) (c2 c7 c8 : Nat) (h : EvB e W A2 A7 A8 c2 c7 c8) (hx : EvIn e) (hb : Byt e.body) (ha : 0 ≤ a ∧ a < 256) :
    Calls Try.prog 8 #[.agg (evC e A2 A7 A8 c2 c7 c8).toArray, .int .u8 a] W fun q W' => q = .returned (.bool true) ∧ Below W.heap.size W W' := by
  have hu30 := Try.underlying30
  have hi30 : (Try.prog.info? 30).map (·.size) = some 27 := by kernel_rfl
  obtain ⟨Z, hZ, hz30⟩ : ∃ Z, Z = evZ 0 ∧ ∀ W, (zeroValue 30).run Try.prog W = .ok (.agg Z) W := ⟨evZ 0, rfl, zero30⟩
  have sz : Z.size = 27 := by rw [hZ]; rfl
  have hne : ¬ (Z = #[]) := fun h => by rw [h] at sz; cases sz
  have HZ := Aside0.mk hZ
  clear hZ
  have H0 := Aside0.mk h
  have HX := Aside0.mk hx
  have HBY := Aside0.mk hb
  clear h hx hb
  go_enter Try.func8, Try.ntmps8
  go_upto_region 1 with fail
  have B1 := Aside0.mk (below_alloc (Below.refl W.heap.size W) (.cells (evC e A2 A7 A8 c2 c7 c8).toArray 30))
  have X1 := Aside0.mk (pick_new W (.cells (evC e A2 A7 A8 c2 c7 c8).toArray 30))
  have H1 := Aside0.mk (H0.out.later (below_alloc (Below.refl W.heap.size W) (.cells (evC e A2 A7 A8 c2 c7 c8).toArray 30)))
  generalize W.alloc (.cells (evC e A2 A7 A8 c2 c7 c8).toArray 30) = W1 at *
  go_wp2_with fail
  refine (head_holds W1).mono ?_
  rintro q W2 ⟨rfl, hb2⟩
  have B2 := Aside0.mk (B1.out.trans ((hb2).mono B1.out.size))
  have X2 := Aside0.mk (hd_later X1.out (hb2))
  have H2 := Aside0.mk (H1.out.later (hb2))
  clear B1 X1 H1 hb2
  go_wp2_with (first
    | (with_reducible refine hd_gate 11 rfl ?_); refine hd_run (by rfl) (v := .agg (evC e A2 A7 A8 c2 c7 c8).toArray) (w1 := W2) (pick_loadRow rfl W.heap.size rfl 30 _ (0, 0) _ X2.out hu30 rfl hi30) ?_)
  refine (great_ev e W2 _ A2 A7 A8 c2 c7 c8 rfl H2.out.1).mono ?_
  rintro q W3 ⟨rfl, hb3⟩
  have B3 := Aside0.mk (B2.out.trans ((hb3).mono B2.out.size))
  have X3 := Aside0.mk (hd_later X2.out (hb3))
  have H3 := Aside0.mk (H2.out.later (hb3))
  clear B2 X2 H2 hb3
  cases hgr : greatE e
  case true =>
    clear hgr
    go_wp2_with fail
    go_ret
    exact ⟨rfl, B3.out⟩
  have HG := Aside0.mk hgr
  clear hgr
  obtain ⟨p, hp⟩ : ∃ p, putE e = p := ⟨_, rfl⟩
  have HP := Aside0.mk hp
  clear hp
  go_wp2_with (first
    | (with_reducible refine hd_gate 14 rfl ?_); refine hd_run (by rfl) (v := .agg (evC e A2 A7 A8 c2 c7 c8).toArray) (w1 := W3) (pick_loadRow rfl W.heap.size rfl 30 _ (0, 0) _ X3.out hu30 rfl hi30) ?_)
  refine (put_B e p W3 A2 A7 A8 c2 c7 c8 H3.out HX.out HG.out HP.out).mono ?_
  rintro q W4 ⟨Ap, cp, rfl, hcp, hC, hb4⟩
  have C4 := Aside0.mk hC
  have B4 := Aside0.mk (B3.out.trans ((hb4).mono B3.out.size))
  have X4 := Aside0.mk (hd_later X3.out (hb4))
  have H4 := Aside0.mk (H3.out.later (hb4))
  clear B3 X3 H3 hb4 hC
  have wk : IntKind.i64.wrap (a % 12) = a % 12 := by rw [IntKind.wrap_i64] <;> omega
  have wq : IntKind.i64.wrap (a % 12 - 1) = a % 12 - 1 := by rw [IntKind.wrap_i64] <;> omega
  go_upto_region 6 with fail
  generalize hkd : a % 12 - 1 = k at *
  have hbp : Byt p := by have := byt_put HX.out HG.out HBY.out; rw [HP.out] at this; exact this
  have hlp : p.length ≤ 1800 := by have := put_len HX.out HG.out; rw [HP.out] at this; exact this
  have HBP := Aside0.mk hbp
  clear wk wq hbp
  have HKD := Aside0.mk hkd
  clear hkd
  by_cases hk1 : k < 1
  · have q1 : decide (k < 1) = true := decide_eq_true hk1
    go_wp2_with fail
    refine (get_sl k p _ W4 Ap cp rfl C4.out HBP.out (by omega) (ev0 0) 12 (get_kind (by omega))).mono ?_
    rintro q W5 ⟨G2, G7, G8, g8c, rfl, hO, hb5⟩
    have O5 := Aside0.mk hO
    have B5 := Aside0.mk (B4.out.trans ((hb5).mono B4.out.size))
    have X5 := Aside0.mk (hd_later X4.out (hb5))
    have H5 := Aside0.mk (H4.out.later (hb5))
    have C5 := Aside0.mk (Kd.C_below C4.out (hb5))
    clear B4 X4 H4 C4 hb5 hO
    go_upto_region 7 with (first
      | (with_reducible refine hd_gateS 8 _ _ rfl ?_); refine hd_runS rfl (w1 := (W5.alloc (.cells Z 30)).setRow W5.heap.size (Ev27 (ev0 0) G2 G7 G8 g8c)) (pick_store rfl W5.heap.size (Ev27 (ev0 0) G2 G7 G8 g8c) rfl rfl 30 Z (pick_new W5 _) (ev27_size _ _ _ _ _) (by rw [sz]; rfl) (ev27_one _ _ _ _ _)) ?_)
    rw [World.setRow_alloc_new]
    have B6 := Aside0.mk (below_alloc B5.out (.cells (Ev27 (ev0 0) G2 G7 G8 g8c) 30))
    have X6 := Aside0.mk (hd_later X5.out (below_alloc (Below.refl _ _) (.cells (Ev27 (ev0 0) G2 G7 G8 g8c) 30)))
    have H6 := Aside0.mk (H5.out.later (below_alloc (Below.refl _ _) (.cells (Ev27 (ev0 0) G2 G7 G8 g8c) 30)))
    have C6 := Aside0.mk (Kd.C_below C5.out (below_alloc (Below.refl _ _) (.cells (Ev27 (ev0 0) G2 G7 G8 g8c) 30)))
    have O6 := Aside0.mk (O5.out.later (below_alloc (Below.refl _ _) (.cells (Ev27 (ev0 0) G2 G7 G8 g8c) 30)))
    have Y6 := Aside0.mk (pick_new W5 (.cells (Ev27 (ev0 0) G2 G7 G8 g8c) 30))
    generalize W5.alloc (.cells (Ev27 (ev0 0) G2 G7 G8 g8c) 30) = W6 at *
    generalize W5.heap.size = g8 at *
    clear B5 X5 H5 C5 O5 
    go_wp2_with (first
      | (with_reducible refine hd_gate 38 rfl ?_); refine hd_run (by rfl) (v := .agg (Ev27 (ev0 0) G2 G7 G8 g8c)) (w1 := W6) (pick_loadRow rfl g8 rfl 30 _ (0, 0) _ Y6.out hu30 rfl (ev27_size _ _ _ _ _)) ?_)
    refine (same_self (ev0 0) _ _ G2 G7 G8 none none none _ _ g8c 0 0 0 W6 rfl (by rw [HZ.out]; rfl) O6.out.1 (z_own (ev0 0) W6 0 0 0 rfl rfl rfl).1 (by decide) (by decide)).mono ?_
    rintro q W7 ⟨rfl, hb7⟩
    go_wp2_with fail
    go_ret
    exact ⟨rfl, B6.out.trans (hb7.mono B6.out.size)⟩
  have q1 : decide (k < 1) = false := decide_eq_false hk1
  by_cases hk8 : k > 8
  · have q2 : decide (k > 8) = true := decide_eq_true hk8
    go_wp2_with fail
    refine (get_sl k p _ W4 Ap cp rfl C4.out HBP.out (by omega) (ev0 0) 12 (get_kind (by omega))).mono ?_
    rintro q W5 ⟨G2, G7, G8, g8c, rfl, hO, hb5⟩
    have O5 := Aside0.mk hO
    have B5 := Aside0.mk (B4.out.trans ((hb5).mono B4.out.size))
    have X5 := Aside0.mk (hd_later X4.out (hb5))
    have H5 := Aside0.mk (H4.out.later (hb5))
    have C5 := Aside0.mk (Kd.C_below C4.out (hb5))
    clear B4 X4 H4 C4 hb5 hO
    go_upto_region 7 with (first
      | (with_reducible refine hd_gateS 8 _ _ rfl ?_); refine hd_runS rfl (w1 := (W5.alloc (.cells Z 30)).setRow W5.heap.size (Ev27 (ev0 0) G2 G7 G8 g8c)) (pick_store rfl W5.heap.size (Ev27 (ev0 0) G2 G7 G8 g8c) rfl rfl 30 Z (pick_new W5 _) (ev27_size _ _ _ _ _) (by rw [sz]; rfl) (ev27_one _ _ _ _ _)) ?_)
    rw [World.setRow_alloc_new]
    have B6 := Aside0.mk (below_alloc B5.out (.cells (Ev27 (ev0 0) G2 G7 G8 g8c) 30))
    have X6 := Aside0.mk (hd_later X5.out (below_alloc (Below.refl _ _) (.cells (Ev27 (ev0 0) G2 G7 G8 g8c) 30)))
    have H6 := Aside0.mk (H5.out.later (below_alloc (Below.refl _ _) (.cells (Ev27 (ev0 0) G2 G7 G8 g8c) 30)))
    have C6 := Aside0.mk (Kd.C_below C5.out (below_alloc (Below.refl _ _) (.cells (Ev27 (ev0 0) G2 G7 G8 g8c) 30)))
    have O6 := Aside0.mk (O5.out.later (below_alloc (Below.refl _ _) (.cells (Ev27 (ev0 0) G2 G7 G8 g8c) 30)))
    have Y6 := Aside0.mk (pick_new W5 (.cells (Ev27 (ev0 0) G2 G7 G8 g8c) 30))
    generalize W5.alloc (.cells (Ev27 (ev0 0) G2 G7 G8 g8c) 30) = W6 at *
    generalize W5.heap.size = g8 at *
    clear B5 X5 H5 C5 O5 
    go_wp2_with (first
      | (with_reducible refine hd_gate 38 rfl ?_); refine hd_run (by rfl) (v := .agg (Ev27 (ev0 0) G2 G7 G8 g8c)) (w1 := W6) (pick_loadRow rfl g8 rfl 30 _ (0, 0) _ Y6.out hu30 rfl (ev27_size _ _ _ _ _)) ?_)
    refine (same_self (ev0 0) _ _ G2 G7 G8 none none none _ _ g8c 0 0 0 W6 rfl (by rw [HZ.out]; rfl) O6.out.1 (z_own (ev0 0) W6 0 0 0 rfl rfl rfl).1 (by decide) (by decide)).mono ?_
    rintro q W7 ⟨rfl, hb7⟩
    go_wp2_with fail
    go_ret
    exact ⟨rfl, B6.out.trans (hb7.mono B6.out.size)⟩
  have q2 : decide (k > 8) = false := decide_eq_false hk8
  by_cases hB : 0 < p.length ∧ k = e.k
  · obtain ⟨hpl, hke⟩ := hB
    have hright : rightF e = true := by
      cases hr : rightF e
      · have h0 := put_wrong hr
        rw [HP.out] at h0
        rw [h0] at hpl
        cases hpl
      · rfl
    have HRT := Aside0.mk hright
    have HKE := Aside0.mk hke
    have hkk : (k == e.k) = true := beq_iff_eq.2 hke
    have ql : decide ((p.length : Int) > 0) = true := decide_eq_true (by omega)
    have hpn : ¬ (p = []) := fun h => by rw [h] at hpl; cases hpl
    clear hright hke
    go_wp2_with fail
    refine (get_sl k p _ W4 Ap cp rfl C4.out HBP.out (by omega) (e) 0 (by have := get_put HRT.out HX.out HG.out; rw [HP.out, ← HKE.out] at this; exact this)).mono ?_
    rintro q W5 ⟨G2, G7, G8, g8c, rfl, hO, hb5⟩
    have O5 := Aside0.mk hO
    have B5 := Aside0.mk (B4.out.trans ((hb5).mono B4.out.size))
    have X5 := Aside0.mk (hd_later X4.out (hb5))
    have H5 := Aside0.mk (H4.out.later (hb5))
    have C5 := Aside0.mk (Kd.C_below C4.out (hb5))
    clear B4 X4 H4 C4 hb5 hO
    go_upto_region 7 with (first
      | (with_reducible refine hd_gateS 8 _ _ rfl ?_); refine hd_runS rfl (w1 := (W5.alloc (.cells Z 30)).setRow W5.heap.size (Ev27 (e) G2 G7 G8 g8c)) (pick_store rfl W5.heap.size (Ev27 (e) G2 G7 G8 g8c) rfl rfl 30 Z (pick_new W5 _) (ev27_size _ _ _ _ _) (by rw [sz]; rfl) (ev27_one _ _ _ _ _)) ?_)
    rw [World.setRow_alloc_new]
    have B6 := Aside0.mk (below_alloc B5.out (.cells (Ev27 (e) G2 G7 G8 g8c) 30))
    have X6 := Aside0.mk (hd_later X5.out (below_alloc (Below.refl _ _) (.cells (Ev27 (e) G2 G7 G8 g8c) 30)))
    have H6 := Aside0.mk (H5.out.later (below_alloc (Below.refl _ _) (.cells (Ev27 (e) G2 G7 G8 g8c) 30)))
    have C6 := Aside0.mk (Kd.C_below C5.out (below_alloc (Below.refl _ _) (.cells (Ev27 (e) G2 G7 G8 g8c) 30)))
    have O6 := Aside0.mk (O5.out.later (below_alloc (Below.refl _ _) (.cells (Ev27 (e) G2 G7 G8 g8c) 30)))
    have Y6 := Aside0.mk (pick_new W5 (.cells (Ev27 (e) G2 G7 G8 g8c) 30))
    generalize W5.alloc (.cells (Ev27 (e) G2 G7 G8 g8c) 30) = W6 at *
    generalize W5.heap.size = g8 at *
    clear B5 X5 H5 C5 O5 
    have ck6 : W6.cell? ⟨W.heap.size, 0, none⟩ = some (.int .i64 e.k) := evC_at X6.out 0 rfl
    go_wp2_with (first
      | (with_reducible refine hd_gate 57 rfl ?_); refine hd_run (by rfl) (v := .agg (Ev27 (e) G2 G7 G8 g8c)) (w1 := W6) (pick_loadRow rfl g8 rfl 30 _ (0, 0) _ Y6.out hu30 rfl (ev27_size _ _ _ _ _)) ?_
      | (with_reducible refine hd_gate 58 rfl ?_); refine hd_run (by rfl) (v := .agg (evC e A2 A7 A8 c2 c7 c8).toArray) (w1 := W6) (pick_loadRow rfl W.heap.size rfl 30 _ (0, 0) _ X6.out hu30 rfl hi30) ?_)
    refine (same_self e _ _ G2 G7 G8 A2 A7 A8 _ _ g8c c2 c7 c8 W6 rfl rfl O6.out.1 H6.out.1 (by have := greatE_lens HG.out; omega) (by have := greatE_lens HG.out; omega)).mono ?_
    rintro q W7 ⟨rfl, hb7⟩
    go_wp2_with fail
    go_ret
    exact ⟨rfl, B6.out.trans (hb7.mono B6.out.size)⟩
  by_cases hp0 : p.length = 0
  · have ql : decide ((p.length : Int) > 0) = false := decide_eq_false (by omega)
    have hlt0 : ¬ (0 < p.length) := by omega
    clear hp0 hB
    have hcv := get_conv k p HBP.out
    rcases hcv with (h12 | h13) | ⟨y, hy0, hyr, hyk, _, _, _⟩
    · have hg := Aside0.mk h12
      clear h12
      go_wp2_with fail
      refine (get_sl k p _ W4 Ap cp rfl C4.out HBP.out (by omega) (ev0 0) 12 (hg.out)).mono ?_
      rintro q W5 ⟨G2, G7, G8, g8c, rfl, hO, hb5⟩
      have O5 := Aside0.mk hO
      have B5 := Aside0.mk (B4.out.trans ((hb5).mono B4.out.size))
      have X5 := Aside0.mk (hd_later X4.out (hb5))
      have H5 := Aside0.mk (H4.out.later (hb5))
      have C5 := Aside0.mk (Kd.C_below C4.out (hb5))
      clear B4 X4 H4 C4 hb5 hO
      go_upto_region 7 with (first
        | (with_reducible refine hd_gateS 8 _ _ rfl ?_); refine hd_runS rfl (w1 := (W5.alloc (.cells Z 30)).setRow W5.heap.size (Ev27 (ev0 0) G2 G7 G8 g8c)) (pick_store rfl W5.heap.size (Ev27 (ev0 0) G2 G7 G8 g8c) rfl rfl 30 Z (pick_new W5 _) (ev27_size _ _ _ _ _) (by rw [sz]; rfl) (ev27_one _ _ _ _ _)) ?_)
      rw [World.setRow_alloc_new]
      have B6 := Aside0.mk (below_alloc B5.out (.cells (Ev27 (ev0 0) G2 G7 G8 g8c) 30))
      have X6 := Aside0.mk (hd_later X5.out (below_alloc (Below.refl _ _) (.cells (Ev27 (ev0 0) G2 G7 G8 g8c) 30)))
      have H6 := Aside0.mk (H5.out.later (below_alloc (Below.refl _ _) (.cells (Ev27 (ev0 0) G2 G7 G8 g8c) 30)))
      have C6 := Aside0.mk (Kd.C_below C5.out (below_alloc (Below.refl _ _) (.cells (Ev27 (ev0 0) G2 G7 G8 g8c) 30)))
      have O6 := Aside0.mk (O5.out.later (below_alloc (Below.refl _ _) (.cells (Ev27 (ev0 0) G2 G7 G8 g8c) 30)))
      have Y6 := Aside0.mk (pick_new W5 (.cells (Ev27 (ev0 0) G2 G7 G8 g8c) 30))
      generalize W5.alloc (.cells (Ev27 (ev0 0) G2 G7 G8 g8c) 30) = W6 at *
      generalize W5.heap.size = g8 at *
      clear B5 X5 H5 C5 O5 
      have ck6 : W6.cell? ⟨W.heap.size, 0, none⟩ = some (.int .i64 e.k) := evC_at X6.out 0 rfl
      go_wp2_with (first
        | (with_reducible refine hd_gate 66 rfl ?_); refine hd_run (by rfl) (v := .agg (Ev27 (ev0 0) G2 G7 G8 g8c)) (w1 := W6) (pick_loadRow rfl g8 rfl 30 _ (0, 0) _ Y6.out hu30 rfl (ev27_size _ _ _ _ _)) ?_)
      refine (same_self (ev0 0) _ _ G2 G7 G8 none none none _ _ g8c 0 0 0 W6 rfl (by rw [HZ.out]; rfl) O6.out.1 (z_own (ev0 0) W6 0 0 0 rfl rfl rfl).1 (by decide) (by decide)).mono ?_
      rintro q W7 ⟨rfl, hb7⟩
      go_wp2_with fail
      go_ret
      exact ⟨rfl, B6.out.trans (hb7.mono B6.out.size)⟩
    · have hg := Aside0.mk h13
      clear h13
      go_wp2_with fail
      refine (get_sl k p _ W4 Ap cp rfl C4.out HBP.out (by omega) (ev0 0) 13 (hg.out)).mono ?_
      rintro q W5 ⟨G2, G7, G8, g8c, rfl, hO, hb5⟩
      have O5 := Aside0.mk hO
      have B5 := Aside0.mk (B4.out.trans ((hb5).mono B4.out.size))
      have X5 := Aside0.mk (hd_later X4.out (hb5))
      have H5 := Aside0.mk (H4.out.later (hb5))
      have C5 := Aside0.mk (Kd.C_below C4.out (hb5))
      clear B4 X4 H4 C4 hb5 hO
      go_upto_region 7 with (first
        | (with_reducible refine hd_gateS 8 _ _ rfl ?_); refine hd_runS rfl (w1 := (W5.alloc (.cells Z 30)).setRow W5.heap.size (Ev27 (ev0 0) G2 G7 G8 g8c)) (pick_store rfl W5.heap.size (Ev27 (ev0 0) G2 G7 G8 g8c) rfl rfl 30 Z (pick_new W5 _) (ev27_size _ _ _ _ _) (by rw [sz]; rfl) (ev27_one _ _ _ _ _)) ?_)
      rw [World.setRow_alloc_new]
      have B6 := Aside0.mk (below_alloc B5.out (.cells (Ev27 (ev0 0) G2 G7 G8 g8c) 30))
      have X6 := Aside0.mk (hd_later X5.out (below_alloc (Below.refl _ _) (.cells (Ev27 (ev0 0) G2 G7 G8 g8c) 30)))
      have H6 := Aside0.mk (H5.out.later (below_alloc (Below.refl _ _) (.cells (Ev27 (ev0 0) G2 G7 G8 g8c) 30)))
      have C6 := Aside0.mk (Kd.C_below C5.out (below_alloc (Below.refl _ _) (.cells (Ev27 (ev0 0) G2 G7 G8 g8c) 30)))
      have O6 := Aside0.mk (O5.out.later (below_alloc (Below.refl _ _) (.cells (Ev27 (ev0 0) G2 G7 G8 g8c) 30)))
      have Y6 := Aside0.mk (pick_new W5 (.cells (Ev27 (ev0 0) G2 G7 G8 g8c) 30))
      generalize W5.alloc (.cells (Ev27 (ev0 0) G2 G7 G8 g8c) 30) = W6 at *
      generalize W5.heap.size = g8 at *
      clear B5 X5 H5 C5 O5 
      have ck6 : W6.cell? ⟨W.heap.size, 0, none⟩ = some (.int .i64 e.k) := evC_at X6.out 0 rfl
      go_wp2_with (first
        | (with_reducible refine hd_gate 66 rfl ?_); refine hd_run (by rfl) (v := .agg (Ev27 (ev0 0) G2 G7 G8 g8c)) (w1 := W6) (pick_loadRow rfl g8 rfl 30 _ (0, 0) _ Y6.out hu30 rfl (ev27_size _ _ _ _ _)) ?_)
      refine (same_self (ev0 0) _ _ G2 G7 G8 none none none _ _ g8c 0 0 0 W6 rfl (by rw [HZ.out]; rfl) O6.out.1 (z_own (ev0 0) W6 0 0 0 rfl rfl rfl).1 (by decide) (by decide)).mono ?_
      rintro q W7 ⟨rfl, hb7⟩
      go_wp2_with fail
      go_ret
      exact ⟨rfl, B6.out.trans (hb7.mono B6.out.size)⟩
    · have HY0 := Aside0.mk hy0
      have HYR := Aside0.mk hyr
      have HYK := Aside0.mk hyk
      clear hy0 hyr hyk
      go_wp2_with fail
      refine (get_sl k p _ W4 Ap cp rfl C4.out HBP.out (by omega) (y) 0 (HY0.out)).mono ?_
      rintro q W5 ⟨G2, G7, G8, g8c, rfl, hO, hb5⟩
      have O5 := Aside0.mk hO
      have B5 := Aside0.mk (B4.out.trans ((hb5).mono B4.out.size))
      have X5 := Aside0.mk (hd_later X4.out (hb5))
      have H5 := Aside0.mk (H4.out.later (hb5))
      have C5 := Aside0.mk (Kd.C_below C4.out (hb5))
      clear B4 X4 H4 C4 hb5 hO
      go_upto_region 7 with (first
        | (with_reducible refine hd_gateS 8 _ _ rfl ?_); refine hd_runS rfl (w1 := (W5.alloc (.cells Z 30)).setRow W5.heap.size (Ev27 (y) G2 G7 G8 g8c)) (pick_store rfl W5.heap.size (Ev27 (y) G2 G7 G8 g8c) rfl rfl 30 Z (pick_new W5 _) (ev27_size _ _ _ _ _) (by rw [sz]; rfl) (ev27_one _ _ _ _ _)) ?_)
      rw [World.setRow_alloc_new]
      have B6 := Aside0.mk (below_alloc B5.out (.cells (Ev27 (y) G2 G7 G8 g8c) 30))
      have X6 := Aside0.mk (hd_later X5.out (below_alloc (Below.refl _ _) (.cells (Ev27 (y) G2 G7 G8 g8c) 30)))
      have H6 := Aside0.mk (H5.out.later (below_alloc (Below.refl _ _) (.cells (Ev27 (y) G2 G7 G8 g8c) 30)))
      have C6 := Aside0.mk (Kd.C_below C5.out (below_alloc (Below.refl _ _) (.cells (Ev27 (y) G2 G7 G8 g8c) 30)))
      have O6 := Aside0.mk (O5.out.later (below_alloc (Below.refl _ _) (.cells (Ev27 (y) G2 G7 G8 g8c) 30)))
      have Y6 := Aside0.mk (pick_new W5 (.cells (Ev27 (y) G2 G7 G8 g8c) 30))
      generalize W5.alloc (.cells (Ev27 (y) G2 G7 G8 g8c) 30) = W6 at *
      generalize W5.heap.size = g8 at *
      clear B5 X5 H5 C5 O5 
      have ck6 : W6.cell? ⟨W.heap.size, 0, none⟩ = some (.int .i64 e.k) := evC_at X6.out 0 rfl
      have cy6 : W6.cell? ⟨g8, 0, none⟩ = some (.int .i64 k) := by rw [← HYK.out]; exact evC_at Y6.out 0 rfl
      go_wp2_with (first
        | (with_reducible refine hd_gate 76 rfl ?_); refine hd_run (by rfl) (v := .agg (Ev27 (y) G2 G7 G8 g8c)) (w1 := W6) (pick_loadRow rfl g8 rfl 30 _ (0, 0) _ Y6.out hu30 rfl (ev27_size _ _ _ _ _)) ?_)
      have hcr := right_calls y W6 G2 G7 G8 y.pol.bs.length y.pol.ss.length g8c O6.out.1
      rw [HYR.out] at hcr
      refine hcr.mono ?_
      rintro q W7 ⟨rfl, hb7⟩
      go_wp2_with fail
      go_ret
      exact ⟨rfl, B6.out.trans (hb7.mono B6.out.size)⟩
  have hkk : (k == e.k) = false := beq_eq_false_iff_ne.2 (fun h => hB ⟨by omega, h⟩)
  have ql : decide ((p.length : Int) > 0) = true := decide_eq_true (by omega)
  have hpl : 0 < p.length := by omega
  have hpn : ¬ (p = []) := fun h => hp0 (by rw [h]; rfl)
  clear hp0 hB
  have hcv := get_conv k p HBP.out
  rcases hcv with (h12 | h13) | ⟨y, hy0, hyr, hyk, _, _, _⟩
  · have hg := Aside0.mk h12
    clear h12
    go_wp2_with fail
    refine (get_sl k p _ W4 Ap cp rfl C4.out HBP.out (by omega) (ev0 0) 12 (hg.out)).mono ?_
    rintro q W5 ⟨G2, G7, G8, g8c, rfl, hO, hb5⟩
    have O5 := Aside0.mk hO
    have B5 := Aside0.mk (B4.out.trans ((hb5).mono B4.out.size))
    have X5 := Aside0.mk (hd_later X4.out (hb5))
    have H5 := Aside0.mk (H4.out.later (hb5))
    have C5 := Aside0.mk (Kd.C_below C4.out (hb5))
    clear B4 X4 H4 C4 hb5 hO
    go_upto_region 7 with (first
      | (with_reducible refine hd_gateS 8 _ _ rfl ?_); refine hd_runS rfl (w1 := (W5.alloc (.cells Z 30)).setRow W5.heap.size (Ev27 (ev0 0) G2 G7 G8 g8c)) (pick_store rfl W5.heap.size (Ev27 (ev0 0) G2 G7 G8 g8c) rfl rfl 30 Z (pick_new W5 _) (ev27_size _ _ _ _ _) (by rw [sz]; rfl) (ev27_one _ _ _ _ _)) ?_)
    rw [World.setRow_alloc_new]
    have B6 := Aside0.mk (below_alloc B5.out (.cells (Ev27 (ev0 0) G2 G7 G8 g8c) 30))
    have X6 := Aside0.mk (hd_later X5.out (below_alloc (Below.refl _ _) (.cells (Ev27 (ev0 0) G2 G7 G8 g8c) 30)))
    have H6 := Aside0.mk (H5.out.later (below_alloc (Below.refl _ _) (.cells (Ev27 (ev0 0) G2 G7 G8 g8c) 30)))
    have C6 := Aside0.mk (Kd.C_below C5.out (below_alloc (Below.refl _ _) (.cells (Ev27 (ev0 0) G2 G7 G8 g8c) 30)))
    have O6 := Aside0.mk (O5.out.later (below_alloc (Below.refl _ _) (.cells (Ev27 (ev0 0) G2 G7 G8 g8c) 30)))
    have Y6 := Aside0.mk (pick_new W5 (.cells (Ev27 (ev0 0) G2 G7 G8 g8c) 30))
    generalize W5.alloc (.cells (Ev27 (ev0 0) G2 G7 G8 g8c) 30) = W6 at *
    generalize W5.heap.size = g8 at *
    clear B5 X5 H5 C5 O5 
    have ck6 : W6.cell? ⟨W.heap.size, 0, none⟩ = some (.int .i64 e.k) := evC_at X6.out 0 rfl
    go_wp2_with (first
      | (with_reducible refine hd_gate 66 rfl ?_); refine hd_run (by rfl) (v := .agg (Ev27 (ev0 0) G2 G7 G8 g8c)) (w1 := W6) (pick_loadRow rfl g8 rfl 30 _ (0, 0) _ Y6.out hu30 rfl (ev27_size _ _ _ _ _)) ?_)
    refine (same_self (ev0 0) _ _ G2 G7 G8 none none none _ _ g8c 0 0 0 W6 rfl (by rw [HZ.out]; rfl) O6.out.1 (z_own (ev0 0) W6 0 0 0 rfl rfl rfl).1 (by decide) (by decide)).mono ?_
    rintro q W7 ⟨rfl, hb7⟩
    go_wp2_with fail
    go_ret
    exact ⟨rfl, B6.out.trans (hb7.mono B6.out.size)⟩
  · have hg := Aside0.mk h13
    clear h13
    go_wp2_with fail
    refine (get_sl k p _ W4 Ap cp rfl C4.out HBP.out (by omega) (ev0 0) 13 (hg.out)).mono ?_
    rintro q W5 ⟨G2, G7, G8, g8c, rfl, hO, hb5⟩
    have O5 := Aside0.mk hO
    have B5 := Aside0.mk (B4.out.trans ((hb5).mono B4.out.size))
    have X5 := Aside0.mk (hd_later X4.out (hb5))
    have H5 := Aside0.mk (H4.out.later (hb5))
    have C5 := Aside0.mk (Kd.C_below C4.out (hb5))
    clear B4 X4 H4 C4 hb5 hO
    go_upto_region 7 with (first
      | (with_reducible refine hd_gateS 8 _ _ rfl ?_); refine hd_runS rfl (w1 := (W5.alloc (.cells Z 30)).setRow W5.heap.size (Ev27 (ev0 0) G2 G7 G8 g8c)) (pick_store rfl W5.heap.size (Ev27 (ev0 0) G2 G7 G8 g8c) rfl rfl 30 Z (pick_new W5 _) (ev27_size _ _ _ _ _) (by rw [sz]; rfl) (ev27_one _ _ _ _ _)) ?_)
    rw [World.setRow_alloc_new]
    have B6 := Aside0.mk (below_alloc B5.out (.cells (Ev27 (ev0 0) G2 G7 G8 g8c) 30))
    have X6 := Aside0.mk (hd_later X5.out (below_alloc (Below.refl _ _) (.cells (Ev27 (ev0 0) G2 G7 G8 g8c) 30)))
    have H6 := Aside0.mk (H5.out.later (below_alloc (Below.refl _ _) (.cells (Ev27 (ev0 0) G2 G7 G8 g8c) 30)))
    have C6 := Aside0.mk (Kd.C_below C5.out (below_alloc (Below.refl _ _) (.cells (Ev27 (ev0 0) G2 G7 G8 g8c) 30)))
    have O6 := Aside0.mk (O5.out.later (below_alloc (Below.refl _ _) (.cells (Ev27 (ev0 0) G2 G7 G8 g8c) 30)))
    have Y6 := Aside0.mk (pick_new W5 (.cells (Ev27 (ev0 0) G2 G7 G8 g8c) 30))
    generalize W5.alloc (.cells (Ev27 (ev0 0) G2 G7 G8 g8c) 30) = W6 at *
    generalize W5.heap.size = g8 at *
    clear B5 X5 H5 C5 O5 
    have ck6 : W6.cell? ⟨W.heap.size, 0, none⟩ = some (.int .i64 e.k) := evC_at X6.out 0 rfl
    go_wp2_with (first
      | (with_reducible refine hd_gate 66 rfl ?_); refine hd_run (by rfl) (v := .agg (Ev27 (ev0 0) G2 G7 G8 g8c)) (w1 := W6) (pick_loadRow rfl g8 rfl 30 _ (0, 0) _ Y6.out hu30 rfl (ev27_size _ _ _ _ _)) ?_)
    refine (same_self (ev0 0) _ _ G2 G7 G8 none none none _ _ g8c 0 0 0 W6 rfl (by rw [HZ.out]; rfl) O6.out.1 (z_own (ev0 0) W6 0 0 0 rfl rfl rfl).1 (by decide) (by decide)).mono ?_
    rintro q W7 ⟨rfl, hb7⟩
    go_wp2_with fail
    go_ret
    exact ⟨rfl, B6.out.trans (hb7.mono B6.out.size)⟩
  · have HY0 := Aside0.mk hy0
    have HYR := Aside0.mk hyr
    have HYK := Aside0.mk hyk
    clear hy0 hyr hyk
    go_wp2_with fail
    refine (get_sl k p _ W4 Ap cp rfl C4.out HBP.out (by omega) (y) 0 (HY0.out)).mono ?_
    rintro q W5 ⟨G2, G7, G8, g8c, rfl, hO, hb5⟩
    have O5 := Aside0.mk hO
    have B5 := Aside0.mk (B4.out.trans ((hb5).mono B4.out.size))
    have X5 := Aside0.mk (hd_later X4.out (hb5))
    have H5 := Aside0.mk (H4.out.later (hb5))
    have C5 := Aside0.mk (Kd.C_below C4.out (hb5))
    clear B4 X4 H4 C4 hb5 hO
    go_upto_region 7 with (first
      | (with_reducible refine hd_gateS 8 _ _ rfl ?_); refine hd_runS rfl (w1 := (W5.alloc (.cells Z 30)).setRow W5.heap.size (Ev27 (y) G2 G7 G8 g8c)) (pick_store rfl W5.heap.size (Ev27 (y) G2 G7 G8 g8c) rfl rfl 30 Z (pick_new W5 _) (ev27_size _ _ _ _ _) (by rw [sz]; rfl) (ev27_one _ _ _ _ _)) ?_)
    rw [World.setRow_alloc_new]
    have B6 := Aside0.mk (below_alloc B5.out (.cells (Ev27 (y) G2 G7 G8 g8c) 30))
    have X6 := Aside0.mk (hd_later X5.out (below_alloc (Below.refl _ _) (.cells (Ev27 (y) G2 G7 G8 g8c) 30)))
    have H6 := Aside0.mk (H5.out.later (below_alloc (Below.refl _ _) (.cells (Ev27 (y) G2 G7 G8 g8c) 30)))
    have C6 := Aside0.mk (Kd.C_below C5.out (below_alloc (Below.refl _ _) (.cells (Ev27 (y) G2 G7 G8 g8c) 30)))
    have O6 := Aside0.mk (O5.out.later (below_alloc (Below.refl _ _) (.cells (Ev27 (y) G2 G7 G8 g8c) 30)))
    have Y6 := Aside0.mk (pick_new W5 (.cells (Ev27 (y) G2 G7 G8 g8c) 30))
    generalize W5.alloc (.cells (Ev27 (y) G2 G7 G8 g8c) 30) = W6 at *
    generalize W5.heap.size = g8 at *
    clear B5 X5 H5 C5 O5 
    have ck6 : W6.cell? ⟨W.heap.size, 0, none⟩ = some (.int .i64 e.k) := evC_at X6.out 0 rfl
    have cy6 : W6.cell? ⟨g8, 0, none⟩ = some (.int .i64 k) := by rw [← HYK.out]; exact evC_at Y6.out 0 rfl
    go_wp2_with (first
      | (with_reducible refine hd_gate 76 rfl ?_); refine hd_run (by rfl) (v := .agg (Ev27 (y) G2 G7 G8 g8c)) (w1 := W6) (pick_loadRow rfl g8 rfl 30 _ (0, 0) _ Y6.out hu30 rfl (ev27_size _ _ _ _ _)) ?_)
    have hcr := right_calls y W6 G2 G7 G8 y.pol.bs.length y.pol.ss.length g8c O6.out.1
    rw [HYR.out] at hcr
    refine hcr.mono ?_
    rintro q W7 ⟨rfl, hb7⟩
    go_wp2_with fail
    go_ret
    exact ⟨rfl, B6.out.trans (hb7.mono B6.out.size)⟩
end Go.Proofs.Ytldohapdhljoaaa.Wire

/- What a call of the law comes to. -/
namespace Go.Proofs.Ytldohapdhljoaaa.Print
open Go.RowKit Go.Proofs.YtldohapdhljoaaaW.PrintWords Go.Proofs.YtldohapdhljoaaaW.PrintLast
set_option linter.unusedVariables false
/-! ### governorlaw09_EventKinds: function 8 -/
def governorlaw09_EventKinds.f (a0_0 : Int) (a0_1 : Int) (a0_2 : Int) (a0_3 : Int) (a0_4 : Int) (a0_5 : Int) (a0_6 : Int) (a0_7 : Int) (l0_8 : List (S46)) (a0_9 : Int) (a0_10 : Int) (a0_11 : Int) (a0_12 : Int) (l0_13 : List (S48)) (a0_14 : Int) (a0_15 : Int) (a0_16 : Int) (a0_17 : Int) (a0_18 : Int) (a0_19 : Int) (a0_20 : Int) (a0_21 : Int) (a0_22 : Int) (a0_23 : Int) (a0_24 : Int) (a0_25 : Int) (l0_26 : List Int) (a1 : Int) : Option (Bool) := some true
theorem governorlaw09_EventKinds.calls (a0_0 : Int) (a0_1 : Int) (a0_2 : Int) (a0_3 : Int) (a0_4 : Int) (a0_5 : Int) (a0_6 : Int) (a0_7 : Int) (A0_8 : Option Addr) (c0_8 : Nat) (l0_8 : List (S46)) (a0_9 : Int) (a0_10 : Int) (a0_11 : Int) (a0_12 : Int) (A0_13 : Option Addr) (c0_13 : Nat) (l0_13 : List (S48)) (a0_14 : Int) (a0_15 : Int) (a0_16 : Int) (a0_17 : Int) (a0_18 : Int) (a0_19 : Int) (a0_20 : Int) (a0_21 : Int) (a0_22 : Int) (a0_23 : Int) (a0_24 : Int) (a0_25 : Int) (A0_26 : Option Addr) (c0_26 : Nat) (l0_26 : List Int) (a1 : Int) (r : Bool) (w : World) (hr0_8 : Kd.C k46 w A0_8 l0_8.length l0_8) (hc0_8 : l0_8.length ≤ c0_8) (hr0_13 : Kd.C k48 w A0_13 l0_13.length l0_13) (hc0_13 : l0_13.length ≤ c0_13) (hr0_26 : Kd.C (Kd.int .u8) w A0_26 l0_26.length l0_26) (hc0_26 : l0_26.length ≤ c0_26) (h : governorlaw09_EventKinds.f a0_0 a0_1 a0_2 a0_3 a0_4 a0_5 a0_6 a0_7 l0_8 a0_9 a0_10 a0_11 a0_12 l0_13 a0_14 a0_15 a0_16 a0_17 a0_18 a0_19 a0_20 a0_21 a0_22 a0_23 a0_24 a0_25 l0_26 a1 = some r) (hn : Go.Proofs.Ytldohapdhljoaaa.Wire.EvNF ⟨a0_0, a0_1, a0_2, a0_3, a0_4, a0_5, ⟨a0_6, a0_7, l0_8, a0_9, a0_10, a0_11, a0_12, l0_13⟩, ⟨a0_14, a0_15, a0_16, a0_17, a0_18, a0_19, a0_20, a0_21, a0_22, a0_23, a0_24, a0_25⟩, l0_26⟩ w A0_8 A0_13) (hw : (Go.Proofs.Ytldohapdhljoaaa.Wire.EvIn ⟨a0_0, a0_1, a0_2, a0_3, a0_4, a0_5, ⟨a0_6, a0_7, l0_8, a0_9, a0_10, a0_11, a0_12, l0_13⟩, ⟨a0_14, a0_15, a0_16, a0_17, a0_18, a0_19, a0_20, a0_21, a0_22, a0_23, a0_24, a0_25⟩, l0_26⟩ ∧ Go.Proofs.Ytldohapdhljoaaa.Wire.Byt l0_26) ∧ 0 ≤ a1 ∧ a1 < 256) :
    Calls Try.prog 8 #[.agg #[.int .i64 a0_0, .int .i64 a0_1, .int .i64 a0_2, .int .i64 a0_3, .int .i64 a0_4, .int .i64 a0_5, .int .i64 a0_6, .int .i64 a0_7, .slice A0_8 l0_8.length c0_8, .int .i64 a0_9, .int .i64 a0_10, .int .i64 a0_11, .int .i64 a0_12, .slice A0_13 l0_13.length c0_13, .int .i64 a0_14, .int .i64 a0_15, .int .i64 a0_16, .int .i64 a0_17, .int .i64 a0_18, .int .i64 a0_19, .int .i64 a0_20, .int .i64 a0_21, .int .i64 a0_22, .int .i64 a0_23, .int .i64 a0_24, .int .i64 a0_25, .slice A0_26 l0_26.length c0_26], .int .u8 a1] w fun e w' => e = .returned (.bool r) ∧ Below w.heap.size w w' := by
  obtain rfl := Option.some.inj h
  exact Go.Proofs.Ytldohapdhljoaaa.Wire.kinds_calls ⟨a0_0, a0_1, a0_2, a0_3, a0_4, a0_5, ⟨a0_6, a0_7, l0_8, a0_9, a0_10, a0_11, a0_12, l0_13⟩, ⟨a0_14, a0_15, a0_16, a0_17, a0_18, a0_19, a0_20, a0_21, a0_22, a0_23, a0_24, a0_25⟩, l0_26⟩ a1 w A0_8 A0_13 A0_26 c0_8 c0_13 c0_26 ⟨⟨⟨hr0_8, hc0_8, hr0_13, hc0_13⟩, hr0_26, hc0_26⟩, hn⟩ hw.1.1 hw.1.2 hw.2


end Go.Proofs.Ytldohapdhljoaaa.Print

/- What is to be shown of governorlaw09_EventKinds in plain Lean. -/
namespace Go.Proofs.Ytldohapdhljoaaa.Print
open Go.RowKit Go.Proofs.YtldohapdhljoaaaW.PrintWords
def governorlaw09_EventKinds.Pure : Prop := ∀ (x0 : S30) (a1 : Int), wf30 x0 → (Lit.int .u8 a1).wf = true → governorlaw09_EventKinds.f x0.f0 x0.f1 x0.f2 x0.f3 x0.f4 x0.f5 x0.f6.f0 x0.f6.f1 x0.f6.f2 x0.f6.f3 x0.f6.f4 x0.f6.f5 x0.f6.f6 x0.f6.f7 x0.f7.f0 x0.f7.f1 x0.f7.f2 x0.f7.f3 x0.f7.f4 x0.f7.f5 x0.f7.f6 x0.f7.f7 x0.f7.f8 x0.f7.f9 x0.f7.f10 x0.f7.f11 x0.f8 a1 = some true
end Go.Proofs.Ytldohapdhljoaaa.Print

/- The law EventKinds in plain Lean: it is shown with its call. -/
namespace Go.Proofs.Ytldohapdhljoaaa.Pure
open Go.RowKit Go.Proofs.Ytldohapdhljoaaa.Print Go.Proofs.YtldohapdhljoaaaW.PrintWords Go.Proofs.YtldohapdhljoaaaW.PrintLast

theorem EventKinds : governorlaw09_EventKinds.Pure := by
  unfold governorlaw09_EventKinds.Pure
  intros
  rfl

end Go.Proofs.Ytldohapdhljoaaa.Pure
