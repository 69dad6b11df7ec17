/- The law's own texts. -/
import Derived.Test.YtldohapdhljoaaaBj
import Derived.Deep.CutRange
import Derived.Test.YtldohapdhljoaaaBb
namespace Go.Proofs.Ytldohapdhljoaaa.Wire
open Go.RowKit Go.Proofs.YtldohapdhljoaaaW.PrintWords Go.Proofs.Ytldohapdhljoaaa.Obj Go.Proofs.Ytldohapdhljoaaa.Print
set_option linter.unusedVariables false
set_option linter.unusedSimpArgs false
set_option maxRecDepth 100000
theorem op_skip {P : Program} {o : Oper} {a : Act} {w w1 : World} {K : Act → World → Prop} {Q : Exit → Act → World → Prop} (hr : (execOp a.eval o).run P w = .ok .skip w1) (h : K (a.put o.dst undef) w1) : Oper.wp P o a w K Q := by
  unfold Oper.wp
  rw [hr, Oper.upon_skip]
  exact h
theorem op_val {P : Program} {o : Oper} {a : Act} {w w1 : World} {v : Value} {K : Act → World → Prop} {Q : Exit → Act → World → Prop} (hr : (execOp a.eval o).run P w = .ok (.value v) w1) (h : K (a.put o.dst v) w1) : Oper.wp P o a w K Q := by
  unfold Oper.wp
  rw [hr, Oper.upon_value]
  exact h
theorem run_app {o : Oper} {ρ : Operand → Value} {s x : Operand} {w w1 : World} {v1 v v2 : Value} (ho : o.op = .call { callee := .builtin .append, args := #[s, x], argTypes := #[28, 28] }) (hs : ρ s = v) (hx : ρ x = v2) (hr : (Builtin.append_ #[28, 28] o.type #[v, v2]).run Try.prog w = .ok v1 w1) : (execOp ρ o).run Try.prog w = .ok (.value v1) w1 := by
  unfold execOp
  simp only [ho, resolve, invoke, builtin, Sem.run_bind, Sem.run_pure, Result.andThen_ok, List.map_toArray, List.map_cons, List.map_nil, hs, hx, hr]
theorem st_app {w0 w : World} {As : List Asr} (h : St w0 As w) (i : Nat) {v : Value} {xs : List Int} (hi : As[i]? = some (byA v xs)) {A : Option Addr} {n c : Nat} {ys : List Int} (hn : n = ys.length) (hR : ReadsInt w .u8 A ys.length ys) (hl : xs.length + ys.length ≤ 140737488351232) :
    ∃ A1 c1 w1, (Builtin.append_ #[28, 28] 28 #[v, .slice A n c]).run Try.prog w = .ok (.slice A1 (xs ++ ys).length c1) w1 ∧ St w0 (As.set i (byA (.slice A1 (xs ++ ys).length c1) (xs ++ ys))) w1 := by
  subst hn
  obtain ⟨S, s1, s2, s3, s4⟩ := h.at_ i hi
  obtain ⟨v1, w1, hr, h1, h2, h3⟩ := run_append_reads w 28 0 v xs ys A c s2.1 hR (Nat.zero_le _) (by omega)
  obtain ⟨A1, c1, rfl⟩ := own_slice h1
  refine ⟨A1, c1, w1, hr, s3 (by_put s2 s1 h2 h1 ?_)⟩
  rcases h3 with h3 | h3
  · exact .inl h3
  · exact .inr ⟨_, h3, Nat.le_refl _⟩
theorem evAt0 (w : World) (A2 A7 A8 : Option Addr) (c8 : Nat) : EvAt (ev0 0) w A2 A7 A8 (ev0 0).pol.bs.length (ev0 0).pol.ss.length c8 := ⟨⟨nilC _ _ _, Nat.le_refl _, nilC _ _ _, Nat.le_refl _⟩, nilC _ _ _, Nat.zero_le _⟩
theorem C_cutP {W : World} {A : Option Addr} {l : List Int} (h : Kd.C (Kd.int .u8) W A l.length l) (m : Nat) (hm : m ≤ l.length) : Kd.C (Kd.int .u8) W A m (l.take m) := by
  have h := Kd.C_take h hm
  rwa [List.length_take, Nat.min_eq_left hm] at h
set_option maxHeartbeats 8000000 in
theorem cuts_calls (e : Ev) (a m : Int) (W : World) (A2 A7 A8 : Option Addr) (c2 c7 c8 : Nat) (h : EvB e W A2 A7 A8 c2 c7 c8) (hx : EvIn e) (hb : Byt e.body) (ha : 0 ≤ a ∧ a ≤ 65535) (hm : 0 ≤ m ∧ m < 256) :
    Calls Try.prog 5 #[.agg (evC e A2 A7 A8 c2 c7 c8).toArray, .int .u16 a, .int .u8 m] W fun q W' => q = .returned (.bool true) ∧ Below W.heap.size W W' := by
  have hu30 := Try.underlying30
  have hi30 : (Try.prog.info? 30).map (·.size) = some 27 := by kernel_rfl
  obtain ⟨Z, hZ, hz30⟩ : ∃ Z, Z = evZ 0 ∧ ∀ W, (zeroValue 30).run Try.prog W = .ok (.agg Z) W := ⟨evZ 0, rfl, zero30⟩
  have sz : Z.size = 27 := by rw [hZ]; rfl
  have hne : ¬ (Z = #[]) := fun h => by rw [h] at sz; cases sz
  have HZ := Aside0.mk hZ
  clear hZ
  have H0 := Aside0.mk h
  have HX := Aside0.mk hx
  have HBY := Aside0.mk hb
  clear h hx hb
  go_enter Try.func5, Try.ntmps5
  go_upto_region 1 with fail
  have B1 := Aside0.mk (below_alloc (Below.refl W.heap.size W) (.cells (evC e A2 A7 A8 c2 c7 c8).toArray 30))
  have X1 := Aside0.mk (pick_new W (.cells (evC e A2 A7 A8 c2 c7 c8).toArray 30))
  have H1 := Aside0.mk (H0.out.later (below_alloc (Below.refl W.heap.size W) (.cells (evC e A2 A7 A8 c2 c7 c8).toArray 30)))
  generalize W.alloc (.cells (evC e A2 A7 A8 c2 c7 c8).toArray 30) = W1 at *
  go_wp2_with fail
  refine (head_holds W1).mono ?_
  rintro q W2 ⟨rfl, hb2⟩
  have B2 := Aside0.mk (B1.out.trans ((hb2).mono B1.out.size))
  have X2 := Aside0.mk (hd_later X1.out (hb2))
  have H2 := Aside0.mk (H1.out.later (hb2))
  clear B1 X1 H1 hb2
  go_wp2_with (first
    | (with_reducible refine hd_gate 15 rfl ?_); refine hd_run (by rfl) (v := .agg (evC e A2 A7 A8 c2 c7 c8).toArray) (w1 := W2) (pick_loadRow rfl W.heap.size rfl 30 _ (0, 0) _ X2.out hu30 rfl hi30) ?_)
  refine (great_ev e W2 _ A2 A7 A8 c2 c7 c8 rfl H2.out.1).mono ?_
  rintro q W3 ⟨rfl, hb3⟩
  have B3 := Aside0.mk (B2.out.trans ((hb3).mono B2.out.size))
  have X3 := Aside0.mk (hd_later X2.out (hb3))
  have H3 := Aside0.mk (H2.out.later (hb3))
  clear B2 X2 H2 hb3
  cases hgr : greatE e
  case true =>
    clear hgr
    go_wp2_with fail
    go_ret
    exact ⟨rfl, B3.out⟩
  have HG := Aside0.mk hgr
  clear hgr
  obtain ⟨p, hp⟩ : ∃ p, putE e = p := ⟨_, rfl⟩
  have HP := Aside0.mk hp
  clear hp
  go_wp2_with (first
    | (with_reducible refine hd_gate 18 rfl ?_); refine hd_run (by rfl) (v := .agg (evC e A2 A7 A8 c2 c7 c8).toArray) (w1 := W3) (pick_loadRow rfl W.heap.size rfl 30 _ (0, 0) _ X3.out hu30 rfl hi30) ?_)
  refine (put_B e p W3 A2 A7 A8 c2 c7 c8 H3.out HX.out HG.out HP.out).mono ?_
  rintro q W4 ⟨Ap, cp, rfl, hcp, hC, hb4⟩
  have C4 := Aside0.mk hC
  have B4 := Aside0.mk (B3.out.trans ((hb4).mono B3.out.size))
  have X4 := Aside0.mk (hd_later X3.out (hb4))
  have H4 := Aside0.mk (H3.out.later (hb4))
  clear B3 X3 H3 hb4 hC
  have hlp : p.length ≤ 1800 := by have := put_len HX.out HG.out; rw [HP.out] at this; exact this
  by_cases hp0 : p.length = 0
  · have hlt0 : ¬ (0 < p.length) := by omega
    have ql : ((p.length : Int) == 0) = true := beq_iff_eq.2 (by omega)
    have HP0 := Aside0.mk hp0
    clear hp0
    go_wp2_with fail
    go_ret
    exact ⟨rfl, B4.out⟩
  have hright : rightF e = true := by
    cases hr : rightF e
    · have h0 := put_wrong hr
      rw [HP.out] at h0
      exact absurd (by rw [h0]; rfl) hp0
    · rfl
  have hbp : Byt p := by have := byt_put HX.out HG.out HBY.out; rw [HP.out] at this; exact this
  have HBP := Aside0.mk hbp
  have HRT := Aside0.mk hright
  have ql : ((p.length : Int) == 0) = false := beq_eq_false_iff_ne.2 (by omega)
  have hpl : 0 < p.length := by omega
  have hpn : ¬ (p = []) := fun h => hp0 (by rw [h]; rfl)
  have wa : IntKind.i64.wrap a = a := by rw [IntKind.wrap_i64] <;> omega
  have hne0 : ¬ ((p.length : Int) = 0) := by omega
  clear hbp hright hp0
  go_upto_region 8 with fail
  obtain ⟨j, hj⟩ : ∃ j : Nat, a % (p.length : Int) = (j : Int) := ⟨(a % (p.length : Int)).toNat, by have := Int.emod_nonneg a hne0; omega⟩
  have hjl : j < p.length := by have := Int.emod_lt_of_pos a (show (0 : Int) < p.length by omega); omega
  rw [hj]
  have hjc : j ≤ cp := by omega
  clear hj wa
  go_cut [10, 11] from 29 to 38 (fun v10 v11 wc => ∃ g10 G2 G7 G8 g8c, v10 = .pointer (some ⟨g10, 0, none⟩) ∧ v11 = .int .i64 13 ∧ Below W.heap.size W wc ∧ Aside0 (wc.heap[g10]? = some (.cells (Ev27 (ev0 0) G2 G7 G8 g8c) 30 (0, 0))) ∧ Aside0 (wc.heap[W.heap.size]? = some (.cells (evC e A2 A7 A8 c2 c7 c8).toArray 30 (0, 0))) ∧ Aside0 (Kd.C (Kd.int .u8) wc Ap p.length p))
  case first =>
    have hw0 : Below W4.heap.size W4 W4.drew := below_drew (Below.refl _ _)
    have HQ0 := Aside0.mk ((St.start W4).below hw0)
    refine wp_region_noPanic ?_
    refine wp_region_held_drew (S := fun w' => Below W4.heap.size W4 w') (by kernel_rfl) hw0 (fun hHeld => ?_)
    generalize W4.drew = w0 at *
    have hHeld := hw0
    clear hw0
    refine wpAnyH_take (i := 0) (oi := ({ dst := some 30, op := Op.fieldAddr 30 (Operand.tmp 3) 0, type := 0, pos := "law.go:79", after := #[], guard := none } : Oper)) (v := ?_) rfl (by kernel_rfl) (by kernel_rfl) (by kernel_rfl) (fun _ _ _ h => h) (Or.inl ⟨by rfl, ?hyU1⟩) (by assumption) ?rsU1
    case hyU1 => (intro w8' hSw; (try dsimp only at hSw); go_simp; (first | done | with_reducible rfl))
    (try simp only [Act.put, List.setIfInBounds_toArray, List.set_cons_zero, List.set_cons_succ])
    refine wpAnyH_take (i := 1) (oi := ({ dst := some 31, op := Op.load 3 (Operand.tmp 30), type := 3, pos := "law.go:79", after := #[{ on := 0, ground := Ground.data }], guard := none } : Oper)) (v := ?_) rfl (by kernel_rfl) (by kernel_rfl) (by kernel_rfl) (fun _ _ _ h => h) (Or.inl ⟨by rfl, ?hyU2⟩) (by assumption) ?rsU2
    case hyU2 => (intro w8' hSw; have ck8 : w8'.cell? ⟨W.heap.size, 0, none⟩ = some (.int .i64 e.k) := evC_at (hd_later X4.out hSw) 0 rfl; go_simp; (first | done | with_reducible rfl))
    (try simp only [Act.put, List.setIfInBounds_toArray, List.set_cons_zero, List.set_cons_succ])
    refine wpAnyH_take (i := 2) (oi := ({ dst := some 32, op := Op.move (Operand.tmp 8), type := 28, pos := "law.go:79", after := #[], guard := none } : Oper)) (v := ?_) rfl (by kernel_rfl) (by kernel_rfl) (by kernel_rfl) (fun _ _ _ h => h) (Or.inl ⟨by rfl, ?hyU3⟩) (by assumption) ?rsU3
    case hyU3 => (intro w8' hSw; (try dsimp only at hSw); go_simp; (first | done | with_reducible rfl))
    (try simp only [Act.put, List.setIfInBounds_toArray, List.set_cons_zero, List.set_cons_succ])
    refine wpAnyH_take (i := 3) (oi := ({ dst := some 33, op := Op.move (Operand.tmp 9), type := 3, pos := "law.go:79", after := #[], guard := none } : Oper)) (v := ?_) rfl (by kernel_rfl) (by kernel_rfl) (by kernel_rfl) (fun _ _ _ h => h) (Or.inl ⟨by rfl, ?hyU4⟩) (by assumption) ?rsU4
    case hyU4 => (intro w8' hSw; (try dsimp only at hSw); go_simp; (first | done | with_reducible rfl))
    (try simp only [Act.put, List.setIfInBounds_toArray, List.set_cons_zero, List.set_cons_succ])
    refine wpAnyH_take (i := 4) (oi := ({ dst := some 34, op := Op.slice 28 (Operand.tmp 32) none (some (Operand.tmp 33)) none, type := 28, pos := "law.go:79", after := #[{ on := 2, ground := Ground.data }, { on := 3, ground := Ground.data }], guard := none } : Oper)) (v := ?_) rfl (by kernel_rfl) (by kernel_rfl) (by kernel_rfl) (fun _ _ _ h => h) (Or.inl ⟨by rfl, ?hyU5⟩) (by assumption) ?rsU5
    case hyU5 => (intro w8' hSw; (try dsimp only at hSw); go_simp; (first | done | with_reducible rfl))
    (try simp only [Act.put, List.setIfInBounds_toArray, List.set_cons_zero, List.set_cons_succ])
    refine wpAnyH_ready (rs := [5, 9]) (by kernel_rfl) (by simp) ?_
    refine AllReadyH.cons (o := ({ dst := some 35, op := Op.call { callee := Callee.value (Operand.func 11), args := #[Operand.tmp 31, Operand.tmp 34], argTypes := #[3, 28] }, type := 34, pos := "law.go:79", after := #[{ on := 1, ground := Ground.data }, { on := 4, ground := Ground.data }], guard := none } : Oper)) rfl (fun K hK => ?_) ?_
    · rw [if_pos (by rfl)]
      go_simp
      refine (get_sl e.k (p.take j) j w0 Ap cp (by rw [List.length_take]; omega) (C_cutP (Kd.C_below C4.out HQ0.out.2) j (by omega)) (fun x hx => HBP.out x (List.mem_of_mem_take hx)) (by rw [List.length_take]; omega) (ev0 0) 13 (by have := get_cut j HRT.out HX.out HG.out (by rw [HP.out]; omega); rw [HP.out] at this; exact this)).mono ?_
      rintro q u6 ⟨G2, G7, G8, g8c, rfl, _, hb6⟩
      have hq6 := HQ0.out.below hb6
      have HQ6 := Aside0.mk hq6
      go_simp
      refine hK.out _ _ hq6.2 (fun hHeld => ?_)
      clear hK
      (try simp only [Act.put, List.setIfInBounds_toArray, List.set_cons_zero, List.set_cons_succ])
      clear hq6 hb6
      refine wpAnyH_take (i := 6) (oi := ({ dst := some 29, op := Op.move (Operand.tmp 35), type := 34, pos := "law.go:79", after := #[{ on := 5, ground := Ground.data }], guard := none } : Oper)) (v := ?_) rfl (by kernel_rfl) (by kernel_rfl) (by kernel_rfl) (fun _ _ _ h => h) (Or.inl ⟨by rfl, ?hyU7⟩) (by assumption) ?rsU7
      case hyU7 => (intro w8' hSw; (try dsimp only at hSw); go_simp; (first | done | with_reducible rfl))
      (try simp only [Act.put, List.setIfInBounds_toArray, List.set_cons_zero, List.set_cons_succ])
      refine wpAnyH_take (i := 7) (oi := ({ dst := some 36, op := Op.extract (Operand.tmp 29) 0, type := 30, pos := "law.go:79", after := #[{ on := 6, ground := Ground.data }], guard := none } : Oper)) (v := ?_) rfl (by kernel_rfl) (by kernel_rfl) (by kernel_rfl) (fun _ _ _ h => h) (Or.inl ⟨by rfl, ?hyU8⟩) (by assumption) ?rsU8
      case hyU8 => (intro w8' hSw; (try dsimp only at hSw); go_simp; (first | done | with_reducible rfl))
      (try simp only [Act.put, List.setIfInBounds_toArray, List.set_cons_zero, List.set_cons_succ])
      refine wpAnyH_take (i := 8) (oi := ({ dst := some 37, op := Op.extract (Operand.tmp 29) 1, type := 33, pos := "law.go:79", after := #[{ on := 6, ground := Ground.data }, { on := 10, ground := Ground.gcOnly Departure.lateStores }], guard := none } : Oper)) (v := ?_) rfl (by kernel_rfl) (by kernel_rfl) (by kernel_rfl) (fun _ _ _ h => h) (Or.inl ⟨by rfl, ?hyU9⟩) (by assumption) ?rsU9
      case hyU9 => (intro w8' hSw; (try dsimp only at hSw); go_simp; (first | done | with_reducible rfl))
      (try simp only [Act.put, List.setIfInBounds_toArray, List.set_cons_zero, List.set_cons_succ])
      refine wpAnyH_ready (rs := [9]) (by kernel_rfl) (by simp) ?_
      refine AllReadyH.cons (o := ({ dst := some 10, op := Op.alloc 30, type := 0, pos := "law.go:79", after := #[], guard := none } : Oper)) rfl (fun K hK => ?_) AllReadyH.nil
      rw [if_pos (by rfl)]
      go_simp
      have hq10 := HQ6.out.push (below_alloc (Below.refl _ _) (.cells Z 30)) (boxA_new u6 30 Z)
      refine hK.out _ _ hq10.2 (fun hHeld => ?_)
      clear hK
      (try simp only [Act.put, List.setIfInBounds_toArray, List.set_cons_zero, List.set_cons_succ])
      generalize u6.alloc (.cells Z 30) = u10 at *
      generalize u6.heap.size = g10 at *
      have HQ10 : Aside0 (St W4 [boxA 30 g10 Z] u10) := ⟨hq10⟩
      clear hq10
      refine wpAnyH_ready (rs := [10]) (by kernel_rfl) (by simp) ?_
      refine AllReadyH.cons (o := ({ dst := none, op := Op.store 30 (Operand.tmp 10) (Operand.tmp 36), type := 0, pos := "law.go:79", after := #[{ on := 9, ground := Ground.data }, { on := 7, ground := Ground.data }, { on := 5, ground := Ground.chain }, { on := 0, ground := Ground.phase }, { on := 1, ground := Ground.phase }, { on := 2, ground := Ground.phase }, { on := 3, ground := Ground.phase }, { on := 4, ground := Ground.phase }, { on := 5, ground := Ground.phase }, { on := 6, ground := Ground.phase }, { on := 7, ground := Ground.phase }, { on := 8, ground := Ground.textOnly Departure.lateStores }, { on := 9, ground := Ground.phase }], guard := none } : Oper)) rfl (fun K hK => ?_) AllReadyH.nil
      rw [if_pos (by rfl)]
      have hz11 := st_box (T := 30) (cs := Z) (g := g10) HQ10.out (by simp)
      refine op_skip (pick_store (x := Operand.tmp 10) (y := Operand.tmp 36) rfl g10 (Ev27 (ev0 0) G2 G7 G8 g8c) rfl rfl 30 Z hz11 (ev27_size _ _ _ _ _) (by rw [sz]; rfl) (ev27_one _ _ _ _ _)) ?_
      have hq11 := st_setRow (Ev27 (ev0 0) G2 G7 G8 g8c) HQ10.out 0 rfl
      refine hK.out _ _ hq11.2 (fun hHeld => ?_)
      clear hK
      (try simp only [Act.put, List.setIfInBounds_toArray, List.set_cons_zero, List.set_cons_succ])
      generalize u10.setRow g10 (Ev27 (ev0 0) G2 G7 G8 g8c) = u11 at *
      have HQ11 : Aside0 (St W4 [boxA 30 g10 (Ev27 (ev0 0) G2 G7 G8 g8c)] u11) := ⟨hq11⟩
      clear hq11 hz11
      refine wpAnyH_take (i := 11) (oi := ({ dst := some 11, op := Op.assign (Operand.tmp 37), type := 33, pos := "law.go:79", after := #[{ on := 8, ground := Ground.data }, { on := 10, ground := Ground.chain }, { on := 0, ground := Ground.phase }, { on := 1, ground := Ground.phase }, { on := 2, ground := Ground.phase }, { on := 3, ground := Ground.phase }, { on := 4, ground := Ground.phase }, { on := 5, ground := Ground.phase }, { on := 6, ground := Ground.phase }, { on := 7, ground := Ground.phase }, { on := 8, ground := Ground.phase }, { on := 9, ground := Ground.phase }, { on := 10, ground := Ground.phase }], guard := none } : Oper)) (v := ?_) rfl (by kernel_rfl) (by kernel_rfl) (by kernel_rfl) (fun _ _ _ h => h) (Or.inl ⟨by rfl, ?hyU12⟩) (by assumption) ?rsU12
      case hyU12 => (intro w8' hSw; (try dsimp only at hSw); go_simp; (first | done | with_reducible rfl))
      (try simp only [Act.put, List.setIfInBounds_toArray, List.set_cons_zero, List.set_cons_succ])
      refine wpAnyH_done (by kernel_rfl) ?_ _
      refine NoPanic.normal ?_
      go_wp2_with fail
      go_meet
      exact ⟨g10, G2, G7, G8, g8c, rfl, rfl, B4.out.trans (HQ11.out.2.mono B4.out.size), ⟨st_box (T := 30) (cs := Ev27 (ev0 0) G2 G7 G8 g8c) HQ11.out (by simp)⟩, ⟨hd_later X4.out HQ11.out.2⟩, ⟨Kd.C_below C4.out HQ11.out.2⟩⟩
    refine AllReadyH.cons (o := ({ dst := some 10, op := Op.alloc 30, type := 0, pos := "law.go:79", after := #[], guard := none } : Oper)) rfl (fun K hK => ?_) AllReadyH.nil
    rw [if_pos (by rfl)]
    go_simp
    have hq13 := HQ0.out.push (below_alloc (Below.refl _ _) (.cells Z 30)) (boxA_new w0 30 Z)
    refine hK.out _ _ hq13.2 (fun hHeld => ?_)
    clear hK
    (try simp only [Act.put, List.setIfInBounds_toArray, List.set_cons_zero, List.set_cons_succ])
    generalize w0.alloc (.cells Z 30) = u13 at *
    generalize w0.heap.size = g13 at *
    have HQ13 : Aside0 (St W4 [boxA 30 g13 Z] u13) := ⟨hq13⟩
    clear hq13
    refine wpAnyH_ready (rs := [5]) (by kernel_rfl) (by simp) ?_
    refine AllReadyH.cons (o := ({ dst := some 35, op := Op.call { callee := Callee.value (Operand.func 11), args := #[Operand.tmp 31, Operand.tmp 34], argTypes := #[3, 28] }, type := 34, pos := "law.go:79", after := #[{ on := 1, ground := Ground.data }, { on := 4, ground := Ground.data }], guard := none } : Oper)) rfl (fun K hK => ?_) AllReadyH.nil
    rw [if_pos (by rfl)]
    go_simp
    refine (get_sl e.k (p.take j) j u13 Ap cp (by rw [List.length_take]; omega) (C_cutP (Kd.C_below C4.out HQ13.out.2) j (by omega)) (fun x hx => HBP.out x (List.mem_of_mem_take hx)) (by rw [List.length_take]; omega) (ev0 0) 13 (by have := get_cut j HRT.out HX.out HG.out (by rw [HP.out]; omega); rw [HP.out] at this; exact this)).mono ?_
    rintro q u14 ⟨G2, G7, G8, g8c, rfl, _, hb14⟩
    have hq14 := HQ13.out.below hb14
    have HQ14 := Aside0.mk hq14
    go_simp
    refine hK.out _ _ hq14.2 (fun hHeld => ?_)
    clear hK
    (try simp only [Act.put, List.setIfInBounds_toArray, List.set_cons_zero, List.set_cons_succ])
    clear hq14 hb14
    refine wpAnyH_take (i := 6) (oi := ({ dst := some 29, op := Op.move (Operand.tmp 35), type := 34, pos := "law.go:79", after := #[{ on := 5, ground := Ground.data }], guard := none } : Oper)) (v := ?_) rfl (by kernel_rfl) (by kernel_rfl) (by kernel_rfl) (fun _ _ _ h => h) (Or.inl ⟨by rfl, ?hyU15⟩) (by assumption) ?rsU15
    case hyU15 => (intro w8' hSw; (try dsimp only at hSw); go_simp; (first | done | with_reducible rfl))
    (try simp only [Act.put, List.setIfInBounds_toArray, List.set_cons_zero, List.set_cons_succ])
    refine wpAnyH_take (i := 7) (oi := ({ dst := some 36, op := Op.extract (Operand.tmp 29) 0, type := 30, pos := "law.go:79", after := #[{ on := 6, ground := Ground.data }], guard := none } : Oper)) (v := ?_) rfl (by kernel_rfl) (by kernel_rfl) (by kernel_rfl) (fun _ _ _ h => h) (Or.inl ⟨by rfl, ?hyU16⟩) (by assumption) ?rsU16
    case hyU16 => (intro w8' hSw; (try dsimp only at hSw); go_simp; (first | done | with_reducible rfl))
    (try simp only [Act.put, List.setIfInBounds_toArray, List.set_cons_zero, List.set_cons_succ])
    refine wpAnyH_take (i := 8) (oi := ({ dst := some 37, op := Op.extract (Operand.tmp 29) 1, type := 33, pos := "law.go:79", after := #[{ on := 6, ground := Ground.data }, { on := 10, ground := Ground.gcOnly Departure.lateStores }], guard := none } : Oper)) (v := ?_) rfl (by kernel_rfl) (by kernel_rfl) (by kernel_rfl) (fun _ _ _ h => h) (Or.inl ⟨by rfl, ?hyU17⟩) (by assumption) ?rsU17
    case hyU17 => (intro w8' hSw; (try dsimp only at hSw); go_simp; (first | done | with_reducible rfl))
    (try simp only [Act.put, List.setIfInBounds_toArray, List.set_cons_zero, List.set_cons_succ])
    refine wpAnyH_ready (rs := [10]) (by kernel_rfl) (by simp) ?_
    refine AllReadyH.cons (o := ({ dst := none, op := Op.store 30 (Operand.tmp 10) (Operand.tmp 36), type := 0, pos := "law.go:79", after := #[{ on := 9, ground := Ground.data }, { on := 7, ground := Ground.data }, { on := 5, ground := Ground.chain }, { on := 0, ground := Ground.phase }, { on := 1, ground := Ground.phase }, { on := 2, ground := Ground.phase }, { on := 3, ground := Ground.phase }, { on := 4, ground := Ground.phase }, { on := 5, ground := Ground.phase }, { on := 6, ground := Ground.phase }, { on := 7, ground := Ground.phase }, { on := 8, ground := Ground.textOnly Departure.lateStores }, { on := 9, ground := Ground.phase }], guard := none } : Oper)) rfl (fun K hK => ?_) AllReadyH.nil
    rw [if_pos (by rfl)]
    have hz18 := st_box (T := 30) (cs := Z) (g := g13) HQ14.out (by simp)
    refine op_skip (pick_store (x := Operand.tmp 10) (y := Operand.tmp 36) rfl g13 (Ev27 (ev0 0) G2 G7 G8 g8c) rfl rfl 30 Z hz18 (ev27_size _ _ _ _ _) (by rw [sz]; rfl) (ev27_one _ _ _ _ _)) ?_
    have hq18 := st_setRow (Ev27 (ev0 0) G2 G7 G8 g8c) HQ14.out 0 rfl
    refine hK.out _ _ hq18.2 (fun hHeld => ?_)
    clear hK
    (try simp only [Act.put, List.setIfInBounds_toArray, List.set_cons_zero, List.set_cons_succ])
    generalize u14.setRow g13 (Ev27 (ev0 0) G2 G7 G8 g8c) = u18 at *
    have HQ18 : Aside0 (St W4 [boxA 30 g13 (Ev27 (ev0 0) G2 G7 G8 g8c)] u18) := ⟨hq18⟩
    clear hq18 hz18
    refine wpAnyH_take (i := 11) (oi := ({ dst := some 11, op := Op.assign (Operand.tmp 37), type := 33, pos := "law.go:79", after := #[{ on := 8, ground := Ground.data }, { on := 10, ground := Ground.chain }, { on := 0, ground := Ground.phase }, { on := 1, ground := Ground.phase }, { on := 2, ground := Ground.phase }, { on := 3, ground := Ground.phase }, { on := 4, ground := Ground.phase }, { on := 5, ground := Ground.phase }, { on := 6, ground := Ground.phase }, { on := 7, ground := Ground.phase }, { on := 8, ground := Ground.phase }, { on := 9, ground := Ground.phase }, { on := 10, ground := Ground.phase }], guard := none } : Oper)) (v := ?_) rfl (by kernel_rfl) (by kernel_rfl) (by kernel_rfl) (fun _ _ _ h => h) (Or.inl ⟨by rfl, ?hyU19⟩) (by assumption) ?rsU19
    case hyU19 => (intro w8' hSw; (try dsimp only at hSw); go_simp; (first | done | with_reducible rfl))
    (try simp only [Act.put, List.setIfInBounds_toArray, List.set_cons_zero, List.set_cons_succ])
    refine wpAnyH_done (by kernel_rfl) ?_ _
    refine NoPanic.normal ?_
    go_wp2_with fail
    go_meet
    exact ⟨g13, G2, G7, G8, g8c, rfl, rfl, B4.out.trans (HQ18.out.2.mono B4.out.size), ⟨st_box (T := 30) (cs := Ev27 (ev0 0) G2 G7 G8 g8c) HQ18.out (by simp)⟩, ⟨hd_later X4.out HQ18.out.2⟩, ⟨Kd.C_below C4.out HQ18.out.2⟩⟩
  case rest =>
    obtain ⟨g10, G2, G7, G8, g8c, rfl, rfl, hBc, hYc, hXc, hDc⟩ := hcut
    clear B4 X4 C4 H4
    have BC := Aside0.mk hBc
    clear hBc
    rename_i wc
    go_upto_region 9 with fail
    go_cut [12, 13] from 38 to 50 (fun v12 v13 wd => ∃ g12 F2 F7 F8 f8c, v12 = .pointer (some ⟨g12, 0, none⟩) ∧ v13 = .int .i64 12 ∧ Below W.heap.size W wd ∧ Aside0 (wd.heap[g12]? = some (.cells (Ev27 (ev0 0) F2 F7 F8 f8c) 30 (0, 0))) ∧ Aside0 (wd.heap[g10]? = some (.cells (Ev27 (ev0 0) G2 G7 G8 g8c) 30 (0, 0))))
    case first =>
      have hw0 : Below wc.heap.size wc wc.drew := below_drew (Below.refl _ _)
      have HQ0 := Aside0.mk ((St.start wc).below hw0)
      refine wp_region_noPanic ?_
      refine wp_region_held_drew (S := fun w' => Below wc.heap.size wc w') (by kernel_rfl) hw0 (fun hHeld => ?_)
      generalize wc.drew = w0 at *
      have hHeld := hw0
      clear hw0
      refine wpAnyH_take (i := 0) (oi := ({ dst := some 39, op := Op.fieldAddr 30 (Operand.tmp 3) 0, type := 0, pos := "law.go:80", after := #[], guard := none } : Oper)) (v := ?_) rfl (by kernel_rfl) (by kernel_rfl) (by kernel_rfl) (fun _ _ _ h => h) (Or.inl ⟨by rfl, ?hyU20⟩) (by assumption) ?rsU20
      case hyU20 => (intro w8' hSw; (try dsimp only at hSw); go_simp; (first | done | with_reducible rfl))
      (try simp only [Act.put, List.setIfInBounds_toArray, List.set_cons_zero, List.set_cons_succ])
      refine wpAnyH_take (i := 1) (oi := ({ dst := some 40, op := Op.load 3 (Operand.tmp 39), type := 3, pos := "law.go:80", after := #[{ on := 0, ground := Ground.data }], guard := none } : Oper)) (v := ?_) rfl (by kernel_rfl) (by kernel_rfl) (by kernel_rfl) (fun _ _ _ h => h) (Or.inl ⟨by rfl, ?hyU21⟩) (by assumption) ?rsU21
      case hyU21 => (intro w8' hSw; have ck8 : w8'.cell? ⟨W.heap.size, 0, none⟩ = some (.int .i64 e.k) := evC_at (hd_later hXc.out hSw) 0 rfl; go_simp; (first | done | with_reducible rfl))
      (try simp only [Act.put, List.setIfInBounds_toArray, List.set_cons_zero, List.set_cons_succ])
      refine wpAnyH_take (i := 3) (oi := ({ dst := some 42, op := Op.move (Operand.tmp 8), type := 28, pos := "law.go:80", after := #[], guard := none } : Oper)) (v := ?_) rfl (by kernel_rfl) (by kernel_rfl) (by kernel_rfl) (fun _ _ _ h => h) (Or.inl ⟨by rfl, ?hyU22⟩) (by assumption) ?rsU22
      case hyU22 => (intro w8' hSw; (try dsimp only at hSw); go_simp; (first | done | with_reducible rfl))
      (try simp only [Act.put, List.setIfInBounds_toArray, List.set_cons_zero, List.set_cons_succ])
      refine wpAnyH_take (i := 5) (oi := ({ dst := some 44, op := Op.move (Operand.tmp 2), type := 5, pos := "law.go:80", after := #[], guard := none } : Oper)) (v := ?_) rfl (by kernel_rfl) (by kernel_rfl) (by kernel_rfl) (fun _ _ _ h => h) (Or.inl ⟨by rfl, ?hyU23⟩) (by assumption) ?rsU23
      case hyU23 => (intro w8' hSw; (try dsimp only at hSw); go_simp; (first | done | with_reducible rfl))
      (try simp only [Act.put, List.setIfInBounds_toArray, List.set_cons_zero, List.set_cons_succ])
      refine wpAnyH_ready (rs := [2, 6, 12]) (by kernel_rfl) (by simp) ?_
      refine AllReadyH.cons (o := ({ dst := some 41, op := Op.buildSlice 28 0 #[], type := 28, pos := "law.go:80", after := #[], guard := none } : Oper)) rfl (fun K hK => ?_) ?_
      · rw [if_pos (by rfl)]
        go_simp
        have hq24 := HQ0.out.push (below_alloc (Below.refl _ _) (.cells #[] 5)) (newB w0 [] (by decide))
        refine hK.out _ _ hq24.2 (fun hHeld => ?_)
        clear hK
        (try simp only [Act.put, List.setIfInBounds_toArray, List.set_cons_zero, List.set_cons_succ])
        generalize w0.alloc (.cells #[] 5) = u24 at *
        generalize w0.heap.size = g24 at *
        have HQ24 : Aside0 (St wc [byA (.slice (some ⟨g24, 0, none⟩) 0 0) []] u24) := ⟨hq24⟩
        clear hq24
        refine wpAnyH_ready (rs := [4, 6, 12]) (by kernel_rfl) (by simp) ?_
        refine AllReadyH.cons (o := ({ dst := some 43, op := Op.call { callee := Callee.builtin Builtin.append, args := #[Operand.tmp 41, Operand.tmp 42], argTypes := #[28, 28] }, type := 28, pos := "law.go:80", after := #[{ on := 2, ground := Ground.data }, { on := 3, ground := Ground.data }], guard := none } : Oper)) rfl (fun K hK => ?_) ?_
        · rw [if_pos (by rfl)]
          obtain ⟨A25, c25, u25, hr25, hq25⟩ := st_app HQ24.out 0 rfl (c := cp) rfl (reads_of_C (Kd.C_below hDc.out HQ24.out.2)) (by simp only [List.length_nil]; omega)
          refine op_val (run_app (s := Operand.tmp 41) (x := Operand.tmp 42) rfl rfl rfl hr25) ?_
          refine hK.out _ _ hq25.2 (fun hHeld => ?_)
          clear hK
          (try simp only [Act.put, List.setIfInBounds_toArray, List.set_cons_zero, List.set_cons_succ])
          have HQ25 : Aside0 (St wc [byA (.slice A25 ([] ++ p).length c25) ([] ++ p)] u25) := ⟨hq25⟩
          clear hq25 hr25
          refine wpAnyH_ready (rs := [6, 12]) (by kernel_rfl) (by simp) ?_
          refine AllReadyH.cons (o := ({ dst := some 45, op := Op.buildSlice 28 1 #[(0, Operand.tmp 44)], type := 28, pos := "law.go:80", after := #[{ on := 5, ground := Ground.data }], guard := none } : Oper)) rfl (fun K hK => ?_) ?_
          · rw [if_pos (by rfl)]
            go_simp
            have hq26 := HQ25.out.push (below_alloc (Below.refl _ _) (.cells #[.int .u8 m] 5)) (newB u25 [m] (by simp))
            refine hK.out _ _ hq26.2 (fun hHeld => ?_)
            clear hK
            (try simp only [Act.put, List.setIfInBounds_toArray, List.set_cons_zero, List.set_cons_succ])
            generalize u25.alloc (.cells #[.int .u8 m] 5) = u26 at *
            generalize u25.heap.size = g26 at *
            have HQ26 : Aside0 (St wc [byA (.slice A25 ([] ++ p).length c25) ([] ++ p), byA (.slice (some ⟨g26, 0, none⟩) 1 1) [m]] u26) := ⟨hq26⟩
            clear hq26
            refine wpAnyH_ready (rs := [7, 12]) (by kernel_rfl) (by simp) ?_
            refine AllReadyH.cons (o := ({ dst := some 46, op := Op.call { callee := Callee.builtin Builtin.append, args := #[Operand.tmp 43, Operand.tmp 45], argTypes := #[28, 28] }, type := 28, pos := "law.go:80", after := #[{ on := 4, ground := Ground.data }, { on := 6, ground := Ground.data }, { on := 4, ground := Ground.chain }], guard := none } : Oper)) rfl (fun K hK => ?_) ?_
            · rw [if_pos (by rfl)]
              obtain ⟨AM27, cM27, eM27, _, hrM27, _⟩ := HQ26.out.bytes 1 (v := .slice (some ⟨g26, 0, none⟩) 1 1) (xs := [m]) rfl
              obtain ⟨rfl, rfl⟩ : AM27 = some ⟨g26, 0, none⟩ ∧ cM27 = 1 := by injection eM27 with q1 _ q3; exact ⟨q1.symm, q3.symm⟩
              obtain ⟨A27, c27, u27, hr27, hq27⟩ := st_app HQ26.out 0 rfl (c := 1) rfl hrM27 (by simp only [List.length_append, List.length_nil, List.length_cons]; omega)
              refine op_val (run_app (s := Operand.tmp 43) (x := Operand.tmp 45) rfl rfl rfl hr27) ?_
              refine hK.out _ _ hq27.2 (fun hHeld => ?_)
              clear hK
              (try simp only [Act.put, List.setIfInBounds_toArray, List.set_cons_zero, List.set_cons_succ])
              have HQ27 : Aside0 (St wc [byA (.slice A27 (([] ++ p) ++ [m]).length c27) (([] ++ p) ++ [m]), byA (.slice (some ⟨g26, 0, none⟩) 1 1) [m]] u27) := ⟨hq27⟩
              clear hq27 hr27
              refine wpAnyH_ready (rs := [8, 12]) (by kernel_rfl) (by simp) ?_
              refine AllReadyH.cons (o := ({ dst := some 47, op := Op.call { callee := Callee.value (Operand.func 11), args := #[Operand.tmp 40, Operand.tmp 46], argTypes := #[3, 28] }, type := 34, pos := "law.go:80", after := #[{ on := 1, ground := Ground.data }, { on := 7, ground := Ground.data }, { on := 7, ground := Ground.chain }], guard := none } : Oper)) rfl (fun K hK => ?_) ?_
              · rw [if_pos (by rfl)]
                have hrd28 : ReadsInt u27 .u8 A27 (([] ++ p) ++ [m]).length (([] ++ p) ++ [m]) := by
                  obtain ⟨A0, c0, e0, _, hr0, _⟩ := HQ27.out.bytes 0 (v := .slice A27 (([] ++ p) ++ [m]).length c27) (xs := (([] ++ p) ++ [m])) rfl
                  injection e0 with q1 _ q3
                  rw [q1]
                  exact hr0
                have hln28 : p.length + 1 = (([] ++ p) ++ [m]).length := by simp
                have hCd28 : Kd.C (Kd.int .u8) u27 A27 (p.length + 1) (([] ++ p) ++ [m]) := by
                  have hx := C_of_ints hrd28
                  rw [← hln28] at hx
                  exact hx
                have hcall := get_sl e.k (([] ++ p) ++ [m]) (p.length + 1) u27 A27 c27 hln28 hCd28 (byt_app HBP.out (fun x hx => by rw [List.mem_singleton] at hx; subst hx; exact hm)) (by simp only [List.length_append, List.length_nil, List.length_cons]; omega) (ev0 0) 12 (by have := get_more m HRT.out HX.out HG.out; rw [HP.out] at this; exact this)
                have HCALL := Aside0.mk hcall
                clear hcall hrd28 hCd28 hln28
                go_simp
                refine (HCALL.out).mono ?_
                rintro q u29 ⟨F2, F7, F8, f8c, rfl, _, hb29⟩
                have hq29 := HQ27.out.below hb29
                have HQ29 := Aside0.mk hq29
                go_simp
                refine hK.out _ _ hq29.2 (fun hHeld => ?_)
                clear hK
                (try simp only [Act.put, List.setIfInBounds_toArray, List.set_cons_zero, List.set_cons_succ])
                clear hq29 hb29
                clear HCALL
                refine wpAnyH_take (i := 9) (oi := ({ dst := some 38, op := Op.move (Operand.tmp 47), type := 34, pos := "law.go:80", after := #[{ on := 8, ground := Ground.data }], guard := none } : Oper)) (v := ?_) rfl (by kernel_rfl) (by kernel_rfl) (by kernel_rfl) (fun _ _ _ h => h) (Or.inl ⟨by rfl, ?hyU30⟩) (by assumption) ?rsU30
                case hyU30 => (intro w8' hSw; (try dsimp only at hSw); go_simp; (first | done | with_reducible rfl))
                (try simp only [Act.put, List.setIfInBounds_toArray, List.set_cons_zero, List.set_cons_succ])
                refine wpAnyH_take (i := 10) (oi := ({ dst := some 48, op := Op.extract (Operand.tmp 38) 0, type := 30, pos := "law.go:80", after := #[{ on := 9, ground := Ground.data }], guard := none } : Oper)) (v := ?_) rfl (by kernel_rfl) (by kernel_rfl) (by kernel_rfl) (fun _ _ _ h => h) (Or.inl ⟨by rfl, ?hyU31⟩) (by assumption) ?rsU31
                case hyU31 => (intro w8' hSw; (try dsimp only at hSw); go_simp; (first | done | with_reducible rfl))
                (try simp only [Act.put, List.setIfInBounds_toArray, List.set_cons_zero, List.set_cons_succ])
                refine wpAnyH_take (i := 11) (oi := ({ dst := some 49, op := Op.extract (Operand.tmp 38) 1, type := 33, pos := "law.go:80", after := #[{ on := 9, ground := Ground.data }, { on := 13, ground := Ground.gcOnly Departure.lateStores }], guard := none } : Oper)) (v := ?_) rfl (by kernel_rfl) (by kernel_rfl) (by kernel_rfl) (fun _ _ _ h => h) (Or.inl ⟨by rfl, ?hyU32⟩) (by assumption) ?rsU32
                case hyU32 => (intro w8' hSw; (try dsimp only at hSw); go_simp; (first | done | with_reducible rfl))
                (try simp only [Act.put, List.setIfInBounds_toArray, List.set_cons_zero, List.set_cons_succ])
                refine wpAnyH_ready (rs := [12]) (by kernel_rfl) (by simp) ?_
                refine AllReadyH.cons (o := ({ dst := some 12, op := Op.alloc 30, type := 0, pos := "law.go:80", after := #[], guard := none } : Oper)) rfl (fun K hK => ?_) AllReadyH.nil
                rw [if_pos (by rfl)]
                go_simp
                have hq33 := HQ29.out.push (below_alloc (Below.refl _ _) (.cells Z 30)) (boxA_new u29 30 Z)
                refine hK.out _ _ hq33.2 (fun hHeld => ?_)
                clear hK
                (try simp only [Act.put, List.setIfInBounds_toArray, List.set_cons_zero, List.set_cons_succ])
                generalize u29.alloc (.cells Z 30) = u33 at *
                generalize u29.heap.size = g33 at *
                have HQ33 : Aside0 (St wc [byA (.slice A27 (([] ++ p) ++ [m]).length c27) (([] ++ p) ++ [m]), byA (.slice (some ⟨g26, 0, none⟩) 1 1) [m], boxA 30 g33 Z] u33) := ⟨hq33⟩
                clear hq33
                refine wpAnyH_ready (rs := [13]) (by kernel_rfl) (by simp) ?_
                refine AllReadyH.cons (o := ({ dst := none, op := Op.store 30 (Operand.tmp 12) (Operand.tmp 48), type := 0, pos := "law.go:80", after := #[{ on := 12, ground := Ground.data }, { on := 10, ground := Ground.data }, { on := 8, ground := Ground.chain }, { on := 0, ground := Ground.phase }, { on := 1, ground := Ground.phase }, { on := 2, ground := Ground.phase }, { on := 3, ground := Ground.phase }, { on := 4, ground := Ground.phase }, { on := 5, ground := Ground.phase }, { on := 6, ground := Ground.phase }, { on := 7, ground := Ground.phase }, { on := 8, ground := Ground.phase }, { on := 9, ground := Ground.phase }, { on := 10, ground := Ground.phase }, { on := 11, ground := Ground.textOnly Departure.lateStores }, { on := 12, ground := Ground.phase }], guard := none } : Oper)) rfl (fun K hK => ?_) AllReadyH.nil
                rw [if_pos (by rfl)]
                have hz34 := st_box (T := 30) (cs := Z) (g := g33) HQ33.out (by simp)
                refine op_skip (pick_store (x := Operand.tmp 12) (y := Operand.tmp 48) rfl g33 (Ev27 (ev0 0) F2 F7 F8 f8c) rfl rfl 30 Z hz34 (ev27_size _ _ _ _ _) (by rw [sz]; rfl) (ev27_one _ _ _ _ _)) ?_
                have hq34 := st_setRow (Ev27 (ev0 0) F2 F7 F8 f8c) HQ33.out 2 rfl
                refine hK.out _ _ hq34.2 (fun hHeld => ?_)
                clear hK
                (try simp only [Act.put, List.setIfInBounds_toArray, List.set_cons_zero, List.set_cons_succ])
                generalize u33.setRow g33 (Ev27 (ev0 0) F2 F7 F8 f8c) = u34 at *
                have HQ34 : Aside0 (St wc [byA (.slice A27 (([] ++ p) ++ [m]).length c27) (([] ++ p) ++ [m]), byA (.slice (some ⟨g26, 0, none⟩) 1 1) [m], boxA 30 g33 (Ev27 (ev0 0) F2 F7 F8 f8c)] u34) := ⟨hq34⟩
                clear hq34 hz34
                refine wpAnyH_take (i := 14) (oi := ({ dst := some 13, op := Op.assign (Operand.tmp 49), type := 33, pos := "law.go:80", after := #[{ on := 11, ground := Ground.data }, { on := 13, ground := Ground.chain }, { on := 0, ground := Ground.phase }, { on := 1, ground := Ground.phase }, { on := 2, ground := Ground.phase }, { on := 3, ground := Ground.phase }, { on := 4, ground := Ground.phase }, { on := 5, ground := Ground.phase }, { on := 6, ground := Ground.phase }, { on := 7, ground := Ground.phase }, { on := 8, ground := Ground.phase }, { on := 9, ground := Ground.phase }, { on := 10, ground := Ground.phase }, { on := 11, ground := Ground.phase }, { on := 12, ground := Ground.phase }, { on := 13, ground := Ground.phase }], guard := none } : Oper)) (v := ?_) rfl (by kernel_rfl) (by kernel_rfl) (by kernel_rfl) (fun _ _ _ h => h) (Or.inl ⟨by rfl, ?hyU35⟩) (by assumption) ?rsU35
                case hyU35 => (intro w8' hSw; (try dsimp only at hSw); go_simp; (first | done | with_reducible rfl))
                (try simp only [Act.put, List.setIfInBounds_toArray, List.set_cons_zero, List.set_cons_succ])
                refine wpAnyH_done (by kernel_rfl) ?_ _
                refine NoPanic.normal ?_
                go_wp2_with fail
                go_meet
                exact ⟨g33, F2, F7, F8, f8c, rfl, rfl, BC.out.trans (HQ34.out.2.mono BC.out.size), ⟨st_box (T := 30) (cs := Ev27 (ev0 0) F2 F7 F8 f8c) HQ34.out (by simp)⟩, ⟨hd_later hYc.out HQ34.out.2⟩⟩
              refine AllReadyH.cons (o := ({ dst := some 12, op := Op.alloc 30, type := 0, pos := "law.go:80", after := #[], guard := none } : Oper)) rfl (fun K hK => ?_) AllReadyH.nil
              rw [if_pos (by rfl)]
              go_simp
              have hq36 := HQ27.out.push (below_alloc (Below.refl _ _) (.cells Z 30)) (boxA_new u27 30 Z)
              refine hK.out _ _ hq36.2 (fun hHeld => ?_)
              clear hK
              (try simp only [Act.put, List.setIfInBounds_toArray, List.set_cons_zero, List.set_cons_succ])
              generalize u27.alloc (.cells Z 30) = u36 at *
              generalize u27.heap.size = g36 at *
              have HQ36 : Aside0 (St wc [byA (.slice A27 (([] ++ p) ++ [m]).length c27) (([] ++ p) ++ [m]), byA (.slice (some ⟨g26, 0, none⟩) 1 1) [m], boxA 30 g36 Z] u36) := ⟨hq36⟩
              clear hq36
              refine wpAnyH_ready (rs := [8]) (by kernel_rfl) (by simp) ?_
              refine AllReadyH.cons (o := ({ dst := some 47, op := Op.call { callee := Callee.value (Operand.func 11), args := #[Operand.tmp 40, Operand.tmp 46], argTypes := #[3, 28] }, type := 34, pos := "law.go:80", after := #[{ on := 1, ground := Ground.data }, { on := 7, ground := Ground.data }, { on := 7, ground := Ground.chain }], guard := none } : Oper)) rfl (fun K hK => ?_) AllReadyH.nil
              rw [if_pos (by rfl)]
              have hrd37 : ReadsInt u36 .u8 A27 (([] ++ p) ++ [m]).length (([] ++ p) ++ [m]) := by
                obtain ⟨A0, c0, e0, _, hr0, _⟩ := HQ36.out.bytes 0 (v := .slice A27 (([] ++ p) ++ [m]).length c27) (xs := (([] ++ p) ++ [m])) rfl
                injection e0 with q1 _ q3
                rw [q1]
                exact hr0
              have hln37 : p.length + 1 = (([] ++ p) ++ [m]).length := by simp
              have hCd37 : Kd.C (Kd.int .u8) u36 A27 (p.length + 1) (([] ++ p) ++ [m]) := by
                have hx := C_of_ints hrd37
                rw [← hln37] at hx
                exact hx
              have hcall := get_sl e.k (([] ++ p) ++ [m]) (p.length + 1) u36 A27 c27 hln37 hCd37 (byt_app HBP.out (fun x hx => by rw [List.mem_singleton] at hx; subst hx; exact hm)) (by simp only [List.length_append, List.length_nil, List.length_cons]; omega) (ev0 0) 12 (by have := get_more m HRT.out HX.out HG.out; rw [HP.out] at this; exact this)
              have HCALL := Aside0.mk hcall
              clear hcall hrd37 hCd37 hln37
              go_simp
              refine (HCALL.out).mono ?_
              rintro q u38 ⟨F2, F7, F8, f8c, rfl, _, hb38⟩
              have hq38 := HQ36.out.below hb38
              have HQ38 := Aside0.mk hq38
              go_simp
              refine hK.out _ _ hq38.2 (fun hHeld => ?_)
              clear hK
              (try simp only [Act.put, List.setIfInBounds_toArray, List.set_cons_zero, List.set_cons_succ])
              clear hq38 hb38
              clear HCALL
              refine wpAnyH_take (i := 9) (oi := ({ dst := some 38, op := Op.move (Operand.tmp 47), type := 34, pos := "law.go:80", after := #[{ on := 8, ground := Ground.data }], guard := none } : Oper)) (v := ?_) rfl (by kernel_rfl) (by kernel_rfl) (by kernel_rfl) (fun _ _ _ h => h) (Or.inl ⟨by rfl, ?hyU39⟩) (by assumption) ?rsU39
              case hyU39 => (intro w8' hSw; (try dsimp only at hSw); go_simp; (first | done | with_reducible rfl))
              (try simp only [Act.put, List.setIfInBounds_toArray, List.set_cons_zero, List.set_cons_succ])
              refine wpAnyH_take (i := 10) (oi := ({ dst := some 48, op := Op.extract (Operand.tmp 38) 0, type := 30, pos := "law.go:80", after := #[{ on := 9, ground := Ground.data }], guard := none } : Oper)) (v := ?_) rfl (by kernel_rfl) (by kernel_rfl) (by kernel_rfl) (fun _ _ _ h => h) (Or.inl ⟨by rfl, ?hyU40⟩) (by assumption) ?rsU40
              case hyU40 => (intro w8' hSw; (try dsimp only at hSw); go_simp; (first | done | with_reducible rfl))
              (try simp only [Act.put, List.setIfInBounds_toArray, List.set_cons_zero, List.set_cons_succ])
              refine wpAnyH_take (i := 11) (oi := ({ dst := some 49, op := Op.extract (Operand.tmp 38) 1, type := 33, pos := "law.go:80", after := #[{ on := 9, ground := Ground.data }, { on := 13, ground := Ground.gcOnly Departure.lateStores }], guard := none } : Oper)) (v := ?_) rfl (by kernel_rfl) (by kernel_rfl) (by kernel_rfl) (fun _ _ _ h => h) (Or.inl ⟨by rfl, ?hyU41⟩) (by assumption) ?rsU41
              case hyU41 => (intro w8' hSw; (try dsimp only at hSw); go_simp; (first | done | with_reducible rfl))
              (try simp only [Act.put, List.setIfInBounds_toArray, List.set_cons_zero, List.set_cons_succ])
              refine wpAnyH_ready (rs := [13]) (by kernel_rfl) (by simp) ?_
              refine AllReadyH.cons (o := ({ dst := none, op := Op.store 30 (Operand.tmp 12) (Operand.tmp 48), type := 0, pos := "law.go:80", after := #[{ on := 12, ground := Ground.data }, { on := 10, ground := Ground.data }, { on := 8, ground := Ground.chain }, { on := 0, ground := Ground.phase }, { on := 1, ground := Ground.phase }, { on := 2, ground := Ground.phase }, { on := 3, ground := Ground.phase }, { on := 4, ground := Ground.phase }, { on := 5, ground := Ground.phase }, { on := 6, ground := Ground.phase }, { on := 7, ground := Ground.phase }, { on := 8, ground := Ground.phase }, { on := 9, ground := Ground.phase }, { on := 10, ground := Ground.phase }, { on := 11, ground := Ground.textOnly Departure.lateStores }, { on := 12, ground := Ground.phase }], guard := none } : Oper)) rfl (fun K hK => ?_) AllReadyH.nil
              rw [if_pos (by rfl)]
              have hz42 := st_box (T := 30) (cs := Z) (g := g36) HQ38.out (by simp)
              refine op_skip (pick_store (x := Operand.tmp 12) (y := Operand.tmp 48) rfl g36 (Ev27 (ev0 0) F2 F7 F8 f8c) rfl rfl 30 Z hz42 (ev27_size _ _ _ _ _) (by rw [sz]; rfl) (ev27_one _ _ _ _ _)) ?_
              have hq42 := st_setRow (Ev27 (ev0 0) F2 F7 F8 f8c) HQ38.out 2 rfl
              refine hK.out _ _ hq42.2 (fun hHeld => ?_)
              clear hK
              (try simp only [Act.put, List.setIfInBounds_toArray, List.set_cons_zero, List.set_cons_succ])
              generalize u38.setRow g36 (Ev27 (ev0 0) F2 F7 F8 f8c) = u42 at *
              have HQ42 : Aside0 (St wc [byA (.slice A27 (([] ++ p) ++ [m]).length c27) (([] ++ p) ++ [m]), byA (.slice (some ⟨g26, 0, none⟩) 1 1) [m], boxA 30 g36 (Ev27 (ev0 0) F2 F7 F8 f8c)] u42) := ⟨hq42⟩
              clear hq42 hz42
              refine wpAnyH_take (i := 14) (oi := ({ dst := some 13, op := Op.assign (Operand.tmp 49), type := 33, pos := "law.go:80", after := #[{ on := 11, ground := Ground.data }, { on := 13, ground := Ground.chain }, { on := 0, ground := Ground.phase }, { on := 1, ground := Ground.phase }, { on := 2, ground := Ground.phase }, { on := 3, ground := Ground.phase }, { on := 4, ground := Ground.phase }, { on := 5, ground := Ground.phase }, { on := 6, ground := Ground.phase }, { on := 7, ground := Ground.phase }, { on := 8, ground := Ground.phase }, { on := 9, ground := Ground.phase }, { on := 10, ground := Ground.phase }, { on := 11, ground := Ground.phase }, { on := 12, ground := Ground.phase }, { on := 13, ground := Ground.phase }], guard := none } : Oper)) (v := ?_) rfl (by kernel_rfl) (by kernel_rfl) (by kernel_rfl) (fun _ _ _ h => h) (Or.inl ⟨by rfl, ?hyU43⟩) (by assumption) ?rsU43
              case hyU43 => (intro w8' hSw; (try dsimp only at hSw); go_simp; (first | done | with_reducible rfl))
              (try simp only [Act.put, List.setIfInBounds_toArray, List.set_cons_zero, List.set_cons_succ])
              refine wpAnyH_done (by kernel_rfl) ?_ _
              refine NoPanic.normal ?_
              go_wp2_with fail
              go_meet
              exact ⟨g36, F2, F7, F8, f8c, rfl, rfl, BC.out.trans (HQ42.out.2.mono BC.out.size), ⟨st_box (T := 30) (cs := Ev27 (ev0 0) F2 F7 F8 f8c) HQ42.out (by simp)⟩, ⟨hd_later hYc.out HQ42.out.2⟩⟩
            refine AllReadyH.cons (o := ({ dst := some 12, op := Op.alloc 30, type := 0, pos := "law.go:80", after := #[], guard := none } : Oper)) rfl (fun K hK => ?_) AllReadyH.nil
            rw [if_pos (by rfl)]
            go_simp
            have hq44 := HQ26.out.push (below_alloc (Below.refl _ _) (.cells Z 30)) (boxA_new u26 30 Z)
            refine hK.out _ _ hq44.2 (fun hHeld => ?_)
            clear hK
            (try simp only [Act.put, List.setIfInBounds_toArray, List.set_cons_zero, List.set_cons_succ])
            generalize u26.alloc (.cells Z 30) = u44 at *
            generalize u26.heap.size = g44 at *
            have HQ44 : Aside0 (St wc [byA (.slice A25 ([] ++ p).length c25) ([] ++ p), byA (.slice (some ⟨g26, 0, none⟩) 1 1) [m], boxA 30 g44 Z] u44) := ⟨hq44⟩
            clear hq44
            refine wpAnyH_ready (rs := [7]) (by kernel_rfl) (by simp) ?_
            refine AllReadyH.cons (o := ({ dst := some 46, op := Op.call { callee := Callee.builtin Builtin.append, args := #[Operand.tmp 43, Operand.tmp 45], argTypes := #[28, 28] }, type := 28, pos := "law.go:80", after := #[{ on := 4, ground := Ground.data }, { on := 6, ground := Ground.data }, { on := 4, ground := Ground.chain }], guard := none } : Oper)) rfl (fun K hK => ?_) AllReadyH.nil
            rw [if_pos (by rfl)]
            obtain ⟨AM45, cM45, eM45, _, hrM45, _⟩ := HQ44.out.bytes 1 (v := .slice (some ⟨g26, 0, none⟩) 1 1) (xs := [m]) rfl
            obtain ⟨rfl, rfl⟩ : AM45 = some ⟨g26, 0, none⟩ ∧ cM45 = 1 := by injection eM45 with q1 _ q3; exact ⟨q1.symm, q3.symm⟩
            obtain ⟨A45, c45, u45, hr45, hq45⟩ := st_app HQ44.out 0 rfl (c := 1) rfl hrM45 (by simp only [List.length_append, List.length_nil, List.length_cons]; omega)
            refine op_val (run_app (s := Operand.tmp 43) (x := Operand.tmp 45) rfl rfl rfl hr45) ?_
            refine hK.out _ _ hq45.2 (fun hHeld => ?_)
            clear hK
            (try simp only [Act.put, List.setIfInBounds_toArray, List.set_cons_zero, List.set_cons_succ])
            have HQ45 : Aside0 (St wc [byA (.slice A45 (([] ++ p) ++ [m]).length c45) (([] ++ p) ++ [m]), byA (.slice (some ⟨g26, 0, none⟩) 1 1) [m], boxA 30 g44 Z] u45) := ⟨hq45⟩
            clear hq45 hr45
            refine wpAnyH_ready (rs := [8]) (by kernel_rfl) (by simp) ?_
            refine AllReadyH.cons (o := ({ dst := some 47, op := Op.call { callee := Callee.value (Operand.func 11), args := #[Operand.tmp 40, Operand.tmp 46], argTypes := #[3, 28] }, type := 34, pos := "law.go:80", after := #[{ on := 1, ground := Ground.data }, { on := 7, ground := Ground.data }, { on := 7, ground := Ground.chain }], guard := none } : Oper)) rfl (fun K hK => ?_) AllReadyH.nil
            rw [if_pos (by rfl)]
            have hrd46 : ReadsInt u45 .u8 A45 (([] ++ p) ++ [m]).length (([] ++ p) ++ [m]) := by
              obtain ⟨A0, c0, e0, _, hr0, _⟩ := HQ45.out.bytes 0 (v := .slice A45 (([] ++ p) ++ [m]).length c45) (xs := (([] ++ p) ++ [m])) rfl
              injection e0 with q1 _ q3
              rw [q1]
              exact hr0
            have hln46 : p.length + 1 = (([] ++ p) ++ [m]).length := by simp
            have hCd46 : Kd.C (Kd.int .u8) u45 A45 (p.length + 1) (([] ++ p) ++ [m]) := by
              have hx := C_of_ints hrd46
              rw [← hln46] at hx
              exact hx
            have hcall := get_sl e.k (([] ++ p) ++ [m]) (p.length + 1) u45 A45 c45 hln46 hCd46 (byt_app HBP.out (fun x hx => by rw [List.mem_singleton] at hx; subst hx; exact hm)) (by simp only [List.length_append, List.length_nil, List.length_cons]; omega) (ev0 0) 12 (by have := get_more m HRT.out HX.out HG.out; rw [HP.out] at this; exact this)
            have HCALL := Aside0.mk hcall
            clear hcall hrd46 hCd46 hln46
            go_simp
            refine (HCALL.out).mono ?_
            rintro q u47 ⟨F2, F7, F8, f8c, rfl, _, hb47⟩
            have hq47 := HQ45.out.below hb47
            have HQ47 := Aside0.mk hq47
            go_simp
            refine hK.out _ _ hq47.2 (fun hHeld => ?_)
            clear hK
            (try simp only [Act.put, List.setIfInBounds_toArray, List.set_cons_zero, List.set_cons_succ])
            clear hq47 hb47
            clear HCALL
            refine wpAnyH_take (i := 9) (oi := ({ dst := some 38, op := Op.move (Operand.tmp 47), type := 34, pos := "law.go:80", after := #[{ on := 8, ground := Ground.data }], guard := none } : Oper)) (v := ?_) rfl (by kernel_rfl) (by kernel_rfl) (by kernel_rfl) (fun _ _ _ h => h) (Or.inl ⟨by rfl, ?hyU48⟩) (by assumption) ?rsU48
            case hyU48 => (intro w8' hSw; (try dsimp only at hSw); go_simp; (first | done | with_reducible rfl))
            (try simp only [Act.put, List.setIfInBounds_toArray, List.set_cons_zero, List.set_cons_succ])
            refine wpAnyH_take (i := 10) (oi := ({ dst := some 48, op := Op.extract (Operand.tmp 38) 0, type := 30, pos := "law.go:80", after := #[{ on := 9, ground := Ground.data }], guard := none } : Oper)) (v := ?_) rfl (by kernel_rfl) (by kernel_rfl) (by kernel_rfl) (fun _ _ _ h => h) (Or.inl ⟨by rfl, ?hyU49⟩) (by assumption) ?rsU49
            case hyU49 => (intro w8' hSw; (try dsimp only at hSw); go_simp; (first | done | with_reducible rfl))
            (try simp only [Act.put, List.setIfInBounds_toArray, List.set_cons_zero, List.set_cons_succ])
            refine wpAnyH_take (i := 11) (oi := ({ dst := some 49, op := Op.extract (Operand.tmp 38) 1, type := 33, pos := "law.go:80", after := #[{ on := 9, ground := Ground.data }, { on := 13, ground := Ground.gcOnly Departure.lateStores }], guard := none } : Oper)) (v := ?_) rfl (by kernel_rfl) (by kernel_rfl) (by kernel_rfl) (fun _ _ _ h => h) (Or.inl ⟨by rfl, ?hyU50⟩) (by assumption) ?rsU50
            case hyU50 => (intro w8' hSw; (try dsimp only at hSw); go_simp; (first | done | with_reducible rfl))
            (try simp only [Act.put, List.setIfInBounds_toArray, List.set_cons_zero, List.set_cons_succ])
            refine wpAnyH_ready (rs := [13]) (by kernel_rfl) (by simp) ?_
            refine AllReadyH.cons (o := ({ dst := none, op := Op.store 30 (Operand.tmp 12) (Operand.tmp 48), type := 0, pos := "law.go:80", after := #[{ on := 12, ground := Ground.data }, { on := 10, ground := Ground.data }, { on := 8, ground := Ground.chain }, { on := 0, ground := Ground.phase }, { on := 1, ground := Ground.phase }, { on := 2, ground := Ground.phase }, { on := 3, ground := Ground.phase }, { on := 4, ground := Ground.phase }, { on := 5, ground := Ground.phase }, { on := 6, ground := Ground.phase }, { on := 7, ground := Ground.phase }, { on := 8, ground := Ground.phase }, { on := 9, ground := Ground.phase }, { on := 10, ground := Ground.phase }, { on := 11, ground := Ground.textOnly Departure.lateStores }, { on := 12, ground := Ground.phase }], guard := none } : Oper)) rfl (fun K hK => ?_) AllReadyH.nil
            rw [if_pos (by rfl)]
            have hz51 := st_box (T := 30) (cs := Z) (g := g44) HQ47.out (by simp)
            refine op_skip (pick_store (x := Operand.tmp 12) (y := Operand.tmp 48) rfl g44 (Ev27 (ev0 0) F2 F7 F8 f8c) rfl rfl 30 Z hz51 (ev27_size _ _ _ _ _) (by rw [sz]; rfl) (ev27_one _ _ _ _ _)) ?_
            have hq51 := st_setRow (Ev27 (ev0 0) F2 F7 F8 f8c) HQ47.out 2 rfl
            refine hK.out _ _ hq51.2 (fun hHeld => ?_)
            clear hK
            (try simp only [Act.put, List.setIfInBounds_toArray, List.set_cons_zero, List.set_cons_succ])
            generalize u47.setRow g44 (Ev27 (ev0 0) F2 F7 F8 f8c) = u51 at *
            have HQ51 : Aside0 (St wc [byA (.slice A45 (([] ++ p) ++ [m]).length c45) (([] ++ p) ++ [m]), byA (.slice (some ⟨g26, 0, none⟩) 1 1) [m], boxA 30 g44 (Ev27 (ev0 0) F2 F7 F8 f8c)] u51) := ⟨hq51⟩
            clear hq51 hz51
            refine wpAnyH_take (i := 14) (oi := ({ dst := some 13, op := Op.assign (Operand.tmp 49), type := 33, pos := "law.go:80", after := #[{ on := 11, ground := Ground.data }, { on := 13, ground := Ground.chain }, { on := 0, ground := Ground.phase }, { on := 1, ground := Ground.phase }, { on := 2, ground := Ground.phase }, { on := 3, ground := Ground.phase }, { on := 4, ground := Ground.phase }, { on := 5, ground := Ground.phase }, { on := 6, ground := Ground.phase }, { on := 7, ground := Ground.phase }, { on := 8, ground := Ground.phase }, { on := 9, ground := Ground.phase }, { on := 10, ground := Ground.phase }, { on := 11, ground := Ground.phase }, { on := 12, ground := Ground.phase }, { on := 13, ground := Ground.phase }], guard := none } : Oper)) (v := ?_) rfl (by kernel_rfl) (by kernel_rfl) (by kernel_rfl) (fun _ _ _ h => h) (Or.inl ⟨by rfl, ?hyU52⟩) (by assumption) ?rsU52
            case hyU52 => (intro w8' hSw; (try dsimp only at hSw); go_simp; (first | done | with_reducible rfl))
            (try simp only [Act.put, List.setIfInBounds_toArray, List.set_cons_zero, List.set_cons_succ])
            refine wpAnyH_done (by kernel_rfl) ?_ _
            refine NoPanic.normal ?_
            go_wp2_with fail
            go_meet
            exact ⟨g44, F2, F7, F8, f8c, rfl, rfl, BC.out.trans (HQ51.out.2.mono BC.out.size), ⟨st_box (T := 30) (cs := Ev27 (ev0 0) F2 F7 F8 f8c) HQ51.out (by simp)⟩, ⟨hd_later hYc.out HQ51.out.2⟩⟩
          refine AllReadyH.cons (o := ({ dst := some 12, op := Op.alloc 30, type := 0, pos := "law.go:80", after := #[], guard := none } : Oper)) rfl (fun K hK => ?_) AllReadyH.nil
          rw [if_pos (by rfl)]
          go_simp
          have hq53 := HQ25.out.push (below_alloc (Below.refl _ _) (.cells Z 30)) (boxA_new u25 30 Z)
          refine hK.out _ _ hq53.2 (fun hHeld => ?_)
          clear hK
          (try simp only [Act.put, List.setIfInBounds_toArray, List.set_cons_zero, List.set_cons_succ])
          generalize u25.alloc (.cells Z 30) = u53 at *
          generalize u25.heap.size = g53 at *
          have HQ53 : Aside0 (St wc [byA (.slice A25 ([] ++ p).length c25) ([] ++ p), boxA 30 g53 Z] u53) := ⟨hq53⟩
          clear hq53
          refine wpAnyH_ready (rs := [6]) (by kernel_rfl) (by simp) ?_
          refine AllReadyH.cons (o := ({ dst := some 45, op := Op.buildSlice 28 1 #[(0, Operand.tmp 44)], type := 28, pos := "law.go:80", after := #[{ on := 5, ground := Ground.data }], guard := none } : Oper)) rfl (fun K hK => ?_) AllReadyH.nil
          rw [if_pos (by rfl)]
          go_simp
          have hq54 := HQ53.out.push (below_alloc (Below.refl _ _) (.cells #[.int .u8 m] 5)) (newB u53 [m] (by simp))
          refine hK.out _ _ hq54.2 (fun hHeld => ?_)
          clear hK
          (try simp only [Act.put, List.setIfInBounds_toArray, List.set_cons_zero, List.set_cons_succ])
          generalize u53.alloc (.cells #[.int .u8 m] 5) = u54 at *
          generalize u53.heap.size = g54 at *
          have HQ54 : Aside0 (St wc [byA (.slice A25 ([] ++ p).length c25) ([] ++ p), boxA 30 g53 Z, byA (.slice (some ⟨g54, 0, none⟩) 1 1) [m]] u54) := ⟨hq54⟩
          clear hq54
          refine wpAnyH_ready (rs := [7]) (by kernel_rfl) (by simp) ?_
          refine AllReadyH.cons (o := ({ dst := some 46, op := Op.call { callee := Callee.builtin Builtin.append, args := #[Operand.tmp 43, Operand.tmp 45], argTypes := #[28, 28] }, type := 28, pos := "law.go:80", after := #[{ on := 4, ground := Ground.data }, { on := 6, ground := Ground.data }, { on := 4, ground := Ground.chain }], guard := none } : Oper)) rfl (fun K hK => ?_) AllReadyH.nil
          rw [if_pos (by rfl)]
          obtain ⟨AM55, cM55, eM55, _, hrM55, _⟩ := HQ54.out.bytes 2 (v := .slice (some ⟨g54, 0, none⟩) 1 1) (xs := [m]) rfl
          obtain ⟨rfl, rfl⟩ : AM55 = some ⟨g54, 0, none⟩ ∧ cM55 = 1 := by injection eM55 with q1 _ q3; exact ⟨q1.symm, q3.symm⟩
          obtain ⟨A55, c55, u55, hr55, hq55⟩ := st_app HQ54.out 0 rfl (c := 1) rfl hrM55 (by simp only [List.length_append, List.length_nil, List.length_cons]; omega)
          refine op_val (run_app (s := Operand.tmp 43) (x := Operand.tmp 45) rfl rfl rfl hr55) ?_
          refine hK.out _ _ hq55.2 (fun hHeld => ?_)
          clear hK
          (try simp only [Act.put, List.setIfInBounds_toArray, List.set_cons_zero, List.set_cons_succ])
          have HQ55 : Aside0 (St wc [byA (.slice A55 (([] ++ p) ++ [m]).length c55) (([] ++ p) ++ [m]), boxA 30 g53 Z, byA (.slice (some ⟨g54, 0, none⟩) 1 1) [m]] u55) := ⟨hq55⟩
          clear hq55 hr55
          refine wpAnyH_ready (rs := [8]) (by kernel_rfl) (by simp) ?_
          refine AllReadyH.cons (o := ({ dst := some 47, op := Op.call { callee := Callee.value (Operand.func 11), args := #[Operand.tmp 40, Operand.tmp 46], argTypes := #[3, 28] }, type := 34, pos := "law.go:80", after := #[{ on := 1, ground := Ground.data }, { on := 7, ground := Ground.data }, { on := 7, ground := Ground.chain }], guard := none } : Oper)) rfl (fun K hK => ?_) AllReadyH.nil
          rw [if_pos (by rfl)]
          have hrd56 : ReadsInt u55 .u8 A55 (([] ++ p) ++ [m]).length (([] ++ p) ++ [m]) := by
            obtain ⟨A0, c0, e0, _, hr0, _⟩ := HQ55.out.bytes 0 (v := .slice A55 (([] ++ p) ++ [m]).length c55) (xs := (([] ++ p) ++ [m])) rfl
            injection e0 with q1 _ q3
            rw [q1]
            exact hr0
          have hln56 : p.length + 1 = (([] ++ p) ++ [m]).length := by simp
          have hCd56 : Kd.C (Kd.int .u8) u55 A55 (p.length + 1) (([] ++ p) ++ [m]) := by
            have hx := C_of_ints hrd56
            rw [← hln56] at hx
            exact hx
          have hcall := get_sl e.k (([] ++ p) ++ [m]) (p.length + 1) u55 A55 c55 hln56 hCd56 (byt_app HBP.out (fun x hx => by rw [List.mem_singleton] at hx; subst hx; exact hm)) (by simp only [List.length_append, List.length_nil, List.length_cons]; omega) (ev0 0) 12 (by have := get_more m HRT.out HX.out HG.out; rw [HP.out] at this; exact this)
          have HCALL := Aside0.mk hcall
          clear hcall hrd56 hCd56 hln56
          go_simp
          refine (HCALL.out).mono ?_
          rintro q u57 ⟨F2, F7, F8, f8c, rfl, _, hb57⟩
          have hq57 := HQ55.out.below hb57
          have HQ57 := Aside0.mk hq57
          go_simp
          refine hK.out _ _ hq57.2 (fun hHeld => ?_)
          clear hK
          (try simp only [Act.put, List.setIfInBounds_toArray, List.set_cons_zero, List.set_cons_succ])
          clear hq57 hb57
          clear HCALL
          refine wpAnyH_take (i := 9) (oi := ({ dst := some 38, op := Op.move (Operand.tmp 47), type := 34, pos := "law.go:80", after := #[{ on := 8, ground := Ground.data }], guard := none } : Oper)) (v := ?_) rfl (by kernel_rfl) (by kernel_rfl) (by kernel_rfl) (fun _ _ _ h => h) (Or.inl ⟨by rfl, ?hyU58⟩) (by assumption) ?rsU58
          case hyU58 => (intro w8' hSw; (try dsimp only at hSw); go_simp; (first | done | with_reducible rfl))
          (try simp only [Act.put, List.setIfInBounds_toArray, List.set_cons_zero, List.set_cons_succ])
          refine wpAnyH_take (i := 10) (oi := ({ dst := some 48, op := Op.extract (Operand.tmp 38) 0, type := 30, pos := "law.go:80", after := #[{ on := 9, ground := Ground.data }], guard := none } : Oper)) (v := ?_) rfl (by kernel_rfl) (by kernel_rfl) (by kernel_rfl) (fun _ _ _ h => h) (Or.inl ⟨by rfl, ?hyU59⟩) (by assumption) ?rsU59
          case hyU59 => (intro w8' hSw; (try dsimp only at hSw); go_simp; (first | done | with_reducible rfl))
          (try simp only [Act.put, List.setIfInBounds_toArray, List.set_cons_zero, List.set_cons_succ])
          refine wpAnyH_take (i := 11) (oi := ({ dst := some 49, op := Op.extract (Operand.tmp 38) 1, type := 33, pos := "law.go:80", after := #[{ on := 9, ground := Ground.data }, { on := 13, ground := Ground.gcOnly Departure.lateStores }], guard := none } : Oper)) (v := ?_) rfl (by kernel_rfl) (by kernel_rfl) (by kernel_rfl) (fun _ _ _ h => h) (Or.inl ⟨by rfl, ?hyU60⟩) (by assumption) ?rsU60
          case hyU60 => (intro w8' hSw; (try dsimp only at hSw); go_simp; (first | done | with_reducible rfl))
          (try simp only [Act.put, List.setIfInBounds_toArray, List.set_cons_zero, List.set_cons_succ])
          refine wpAnyH_ready (rs := [13]) (by kernel_rfl) (by simp) ?_
          refine AllReadyH.cons (o := ({ dst := none, op := Op.store 30 (Operand.tmp 12) (Operand.tmp 48), type := 0, pos := "law.go:80", after := #[{ on := 12, ground := Ground.data }, { on := 10, ground := Ground.data }, { on := 8, ground := Ground.chain }, { on := 0, ground := Ground.phase }, { on := 1, ground := Ground.phase }, { on := 2, ground := Ground.phase }, { on := 3, ground := Ground.phase }, { on := 4, ground := Ground.phase }, { on := 5, ground := Ground.phase }, { on := 6, ground := Ground.phase }, { on := 7, ground := Ground.phase }, { on := 8, ground := Ground.phase }, { on := 9, ground := Ground.phase }, { on := 10, ground := Ground.phase }, { on := 11, ground := Ground.textOnly Departure.lateStores }, { on := 12, ground := Ground.phase }], guard := none } : Oper)) rfl (fun K hK => ?_) AllReadyH.nil
          rw [if_pos (by rfl)]
          have hz61 := st_box (T := 30) (cs := Z) (g := g53) HQ57.out (by simp)
          refine op_skip (pick_store (x := Operand.tmp 12) (y := Operand.tmp 48) rfl g53 (Ev27 (ev0 0) F2 F7 F8 f8c) rfl rfl 30 Z hz61 (ev27_size _ _ _ _ _) (by rw [sz]; rfl) (ev27_one _ _ _ _ _)) ?_
          have hq61 := st_setRow (Ev27 (ev0 0) F2 F7 F8 f8c) HQ57.out 1 rfl
          refine hK.out _ _ hq61.2 (fun hHeld => ?_)
          clear hK
          (try simp only [Act.put, List.setIfInBounds_toArray, List.set_cons_zero, List.set_cons_succ])
          generalize u57.setRow g53 (Ev27 (ev0 0) F2 F7 F8 f8c) = u61 at *
          have HQ61 : Aside0 (St wc [byA (.slice A55 (([] ++ p) ++ [m]).length c55) (([] ++ p) ++ [m]), boxA 30 g53 (Ev27 (ev0 0) F2 F7 F8 f8c), byA (.slice (some ⟨g54, 0, none⟩) 1 1) [m]] u61) := ⟨hq61⟩
          clear hq61 hz61
          refine wpAnyH_take (i := 14) (oi := ({ dst := some 13, op := Op.assign (Operand.tmp 49), type := 33, pos := "law.go:80", after := #[{ on := 11, ground := Ground.data }, { on := 13, ground := Ground.chain }, { on := 0, ground := Ground.phase }, { on := 1, ground := Ground.phase }, { on := 2, ground := Ground.phase }, { on := 3, ground := Ground.phase }, { on := 4, ground := Ground.phase }, { on := 5, ground := Ground.phase }, { on := 6, ground := Ground.phase }, { on := 7, ground := Ground.phase }, { on := 8, ground := Ground.phase }, { on := 9, ground := Ground.phase }, { on := 10, ground := Ground.phase }, { on := 11, ground := Ground.phase }, { on := 12, ground := Ground.phase }, { on := 13, ground := Ground.phase }], guard := none } : Oper)) (v := ?_) rfl (by kernel_rfl) (by kernel_rfl) (by kernel_rfl) (fun _ _ _ h => h) (Or.inl ⟨by rfl, ?hyU62⟩) (by assumption) ?rsU62
          case hyU62 => (intro w8' hSw; (try dsimp only at hSw); go_simp; (first | done | with_reducible rfl))
          (try simp only [Act.put, List.setIfInBounds_toArray, List.set_cons_zero, List.set_cons_succ])
          refine wpAnyH_done (by kernel_rfl) ?_ _
          refine NoPanic.normal ?_
          go_wp2_with fail
          go_meet
          exact ⟨g53, F2, F7, F8, f8c, rfl, rfl, BC.out.trans (HQ61.out.2.mono BC.out.size), ⟨st_box (T := 30) (cs := Ev27 (ev0 0) F2 F7 F8 f8c) HQ61.out (by simp)⟩, ⟨hd_later hYc.out HQ61.out.2⟩⟩
        refine AllReadyH.cons (o := ({ dst := some 45, op := Op.buildSlice 28 1 #[(0, Operand.tmp 44)], type := 28, pos := "law.go:80", after := #[{ on := 5, ground := Ground.data }], guard := none } : Oper)) rfl (fun K hK => ?_) ?_
        · rw [if_pos (by rfl)]
          go_simp
          have hq63 := HQ24.out.push (below_alloc (Below.refl _ _) (.cells #[.int .u8 m] 5)) (newB u24 [m] (by simp))
          refine hK.out _ _ hq63.2 (fun hHeld => ?_)
          clear hK
          (try simp only [Act.put, List.setIfInBounds_toArray, List.set_cons_zero, List.set_cons_succ])
          generalize u24.alloc (.cells #[.int .u8 m] 5) = u63 at *
          generalize u24.heap.size = g63 at *
          have HQ63 : Aside0 (St wc [byA (.slice (some ⟨g24, 0, none⟩) 0 0) [], byA (.slice (some ⟨g63, 0, none⟩) 1 1) [m]] u63) := ⟨hq63⟩
          clear hq63
          refine wpAnyH_ready (rs := [4, 12]) (by kernel_rfl) (by simp) ?_
          refine AllReadyH.cons (o := ({ dst := some 43, op := Op.call { callee := Callee.builtin Builtin.append, args := #[Operand.tmp 41, Operand.tmp 42], argTypes := #[28, 28] }, type := 28, pos := "law.go:80", after := #[{ on := 2, ground := Ground.data }, { on := 3, ground := Ground.data }], guard := none } : Oper)) rfl (fun K hK => ?_) ?_
          · rw [if_pos (by rfl)]
            obtain ⟨A64, c64, u64, hr64, hq64⟩ := st_app HQ63.out 0 rfl (c := cp) rfl (reads_of_C (Kd.C_below hDc.out HQ63.out.2)) (by simp only [List.length_nil]; omega)
            refine op_val (run_app (s := Operand.tmp 41) (x := Operand.tmp 42) rfl rfl rfl hr64) ?_
            refine hK.out _ _ hq64.2 (fun hHeld => ?_)
            clear hK
            (try simp only [Act.put, List.setIfInBounds_toArray, List.set_cons_zero, List.set_cons_succ])
            have HQ64 : Aside0 (St wc [byA (.slice A64 ([] ++ p).length c64) ([] ++ p), byA (.slice (some ⟨g63, 0, none⟩) 1 1) [m]] u64) := ⟨hq64⟩
            clear hq64 hr64
            refine wpAnyH_ready (rs := [7, 12]) (by kernel_rfl) (by simp) ?_
            refine AllReadyH.cons (o := ({ dst := some 46, op := Op.call { callee := Callee.builtin Builtin.append, args := #[Operand.tmp 43, Operand.tmp 45], argTypes := #[28, 28] }, type := 28, pos := "law.go:80", after := #[{ on := 4, ground := Ground.data }, { on := 6, ground := Ground.data }, { on := 4, ground := Ground.chain }], guard := none } : Oper)) rfl (fun K hK => ?_) ?_
            · rw [if_pos (by rfl)]
              obtain ⟨AM65, cM65, eM65, _, hrM65, _⟩ := HQ64.out.bytes 1 (v := .slice (some ⟨g63, 0, none⟩) 1 1) (xs := [m]) rfl
              obtain ⟨rfl, rfl⟩ : AM65 = some ⟨g63, 0, none⟩ ∧ cM65 = 1 := by injection eM65 with q1 _ q3; exact ⟨q1.symm, q3.symm⟩
              obtain ⟨A65, c65, u65, hr65, hq65⟩ := st_app HQ64.out 0 rfl (c := 1) rfl hrM65 (by simp only [List.length_append, List.length_nil, List.length_cons]; omega)
              refine op_val (run_app (s := Operand.tmp 43) (x := Operand.tmp 45) rfl rfl rfl hr65) ?_
              refine hK.out _ _ hq65.2 (fun hHeld => ?_)
              clear hK
              (try simp only [Act.put, List.setIfInBounds_toArray, List.set_cons_zero, List.set_cons_succ])
              have HQ65 : Aside0 (St wc [byA (.slice A65 (([] ++ p) ++ [m]).length c65) (([] ++ p) ++ [m]), byA (.slice (some ⟨g63, 0, none⟩) 1 1) [m]] u65) := ⟨hq65⟩
              clear hq65 hr65
              refine wpAnyH_ready (rs := [8, 12]) (by kernel_rfl) (by simp) ?_
              refine AllReadyH.cons (o := ({ dst := some 47, op := Op.call { callee := Callee.value (Operand.func 11), args := #[Operand.tmp 40, Operand.tmp 46], argTypes := #[3, 28] }, type := 34, pos := "law.go:80", after := #[{ on := 1, ground := Ground.data }, { on := 7, ground := Ground.data }, { on := 7, ground := Ground.chain }], guard := none } : Oper)) rfl (fun K hK => ?_) ?_
              · rw [if_pos (by rfl)]
                have hrd66 : ReadsInt u65 .u8 A65 (([] ++ p) ++ [m]).length (([] ++ p) ++ [m]) := by
                  obtain ⟨A0, c0, e0, _, hr0, _⟩ := HQ65.out.bytes 0 (v := .slice A65 (([] ++ p) ++ [m]).length c65) (xs := (([] ++ p) ++ [m])) rfl
                  injection e0 with q1 _ q3
                  rw [q1]
                  exact hr0
                have hln66 : p.length + 1 = (([] ++ p) ++ [m]).length := by simp
                have hCd66 : Kd.C (Kd.int .u8) u65 A65 (p.length + 1) (([] ++ p) ++ [m]) := by
                  have hx := C_of_ints hrd66
                  rw [← hln66] at hx
                  exact hx
                have hcall := get_sl e.k (([] ++ p) ++ [m]) (p.length + 1) u65 A65 c65 hln66 hCd66 (byt_app HBP.out (fun x hx => by rw [List.mem_singleton] at hx; subst hx; exact hm)) (by simp only [List.length_append, List.length_nil, List.length_cons]; omega) (ev0 0) 12 (by have := get_more m HRT.out HX.out HG.out; rw [HP.out] at this; exact this)
                have HCALL := Aside0.mk hcall
                clear hcall hrd66 hCd66 hln66
                go_simp
                refine (HCALL.out).mono ?_
                rintro q u67 ⟨F2, F7, F8, f8c, rfl, _, hb67⟩
                have hq67 := HQ65.out.below hb67
                have HQ67 := Aside0.mk hq67
                go_simp
                refine hK.out _ _ hq67.2 (fun hHeld => ?_)
                clear hK
                (try simp only [Act.put, List.setIfInBounds_toArray, List.set_cons_zero, List.set_cons_succ])
                clear hq67 hb67
                clear HCALL
                refine wpAnyH_take (i := 9) (oi := ({ dst := some 38, op := Op.move (Operand.tmp 47), type := 34, pos := "law.go:80", after := #[{ on := 8, ground := Ground.data }], guard := none } : Oper)) (v := ?_) rfl (by kernel_rfl) (by kernel_rfl) (by kernel_rfl) (fun _ _ _ h => h) (Or.inl ⟨by rfl, ?hyU68⟩) (by assumption) ?rsU68
                case hyU68 => (intro w8' hSw; (try dsimp only at hSw); go_simp; (first | done | with_reducible rfl))
                (try simp only [Act.put, List.setIfInBounds_toArray, List.set_cons_zero, List.set_cons_succ])
                refine wpAnyH_take (i := 10) (oi := ({ dst := some 48, op := Op.extract (Operand.tmp 38) 0, type := 30, pos := "law.go:80", after := #[{ on := 9, ground := Ground.data }], guard := none } : Oper)) (v := ?_) rfl (by kernel_rfl) (by kernel_rfl) (by kernel_rfl) (fun _ _ _ h => h) (Or.inl ⟨by rfl, ?hyU69⟩) (by assumption) ?rsU69
                case hyU69 => (intro w8' hSw; (try dsimp only at hSw); go_simp; (first | done | with_reducible rfl))
                (try simp only [Act.put, List.setIfInBounds_toArray, List.set_cons_zero, List.set_cons_succ])
                refine wpAnyH_take (i := 11) (oi := ({ dst := some 49, op := Op.extract (Operand.tmp 38) 1, type := 33, pos := "law.go:80", after := #[{ on := 9, ground := Ground.data }, { on := 13, ground := Ground.gcOnly Departure.lateStores }], guard := none } : Oper)) (v := ?_) rfl (by kernel_rfl) (by kernel_rfl) (by kernel_rfl) (fun _ _ _ h => h) (Or.inl ⟨by rfl, ?hyU70⟩) (by assumption) ?rsU70
                case hyU70 => (intro w8' hSw; (try dsimp only at hSw); go_simp; (first | done | with_reducible rfl))
                (try simp only [Act.put, List.setIfInBounds_toArray, List.set_cons_zero, List.set_cons_succ])
                refine wpAnyH_ready (rs := [12]) (by kernel_rfl) (by simp) ?_
                refine AllReadyH.cons (o := ({ dst := some 12, op := Op.alloc 30, type := 0, pos := "law.go:80", after := #[], guard := none } : Oper)) rfl (fun K hK => ?_) AllReadyH.nil
                rw [if_pos (by rfl)]
                go_simp
                have hq71 := HQ67.out.push (below_alloc (Below.refl _ _) (.cells Z 30)) (boxA_new u67 30 Z)
                refine hK.out _ _ hq71.2 (fun hHeld => ?_)
                clear hK
                (try simp only [Act.put, List.setIfInBounds_toArray, List.set_cons_zero, List.set_cons_succ])
                generalize u67.alloc (.cells Z 30) = u71 at *
                generalize u67.heap.size = g71 at *
                have HQ71 : Aside0 (St wc [byA (.slice A65 (([] ++ p) ++ [m]).length c65) (([] ++ p) ++ [m]), byA (.slice (some ⟨g63, 0, none⟩) 1 1) [m], boxA 30 g71 Z] u71) := ⟨hq71⟩
                clear hq71
                refine wpAnyH_ready (rs := [13]) (by kernel_rfl) (by simp) ?_
                refine AllReadyH.cons (o := ({ dst := none, op := Op.store 30 (Operand.tmp 12) (Operand.tmp 48), type := 0, pos := "law.go:80", after := #[{ on := 12, ground := Ground.data }, { on := 10, ground := Ground.data }, { on := 8, ground := Ground.chain }, { on := 0, ground := Ground.phase }, { on := 1, ground := Ground.phase }, { on := 2, ground := Ground.phase }, { on := 3, ground := Ground.phase }, { on := 4, ground := Ground.phase }, { on := 5, ground := Ground.phase }, { on := 6, ground := Ground.phase }, { on := 7, ground := Ground.phase }, { on := 8, ground := Ground.phase }, { on := 9, ground := Ground.phase }, { on := 10, ground := Ground.phase }, { on := 11, ground := Ground.textOnly Departure.lateStores }, { on := 12, ground := Ground.phase }], guard := none } : Oper)) rfl (fun K hK => ?_) AllReadyH.nil
                rw [if_pos (by rfl)]
                have hz72 := st_box (T := 30) (cs := Z) (g := g71) HQ71.out (by simp)
                refine op_skip (pick_store (x := Operand.tmp 12) (y := Operand.tmp 48) rfl g71 (Ev27 (ev0 0) F2 F7 F8 f8c) rfl rfl 30 Z hz72 (ev27_size _ _ _ _ _) (by rw [sz]; rfl) (ev27_one _ _ _ _ _)) ?_
                have hq72 := st_setRow (Ev27 (ev0 0) F2 F7 F8 f8c) HQ71.out 2 rfl
                refine hK.out _ _ hq72.2 (fun hHeld => ?_)
                clear hK
                (try simp only [Act.put, List.setIfInBounds_toArray, List.set_cons_zero, List.set_cons_succ])
                generalize u71.setRow g71 (Ev27 (ev0 0) F2 F7 F8 f8c) = u72 at *
                have HQ72 : Aside0 (St wc [byA (.slice A65 (([] ++ p) ++ [m]).length c65) (([] ++ p) ++ [m]), byA (.slice (some ⟨g63, 0, none⟩) 1 1) [m], boxA 30 g71 (Ev27 (ev0 0) F2 F7 F8 f8c)] u72) := ⟨hq72⟩
                clear hq72 hz72
                refine wpAnyH_take (i := 14) (oi := ({ dst := some 13, op := Op.assign (Operand.tmp 49), type := 33, pos := "law.go:80", after := #[{ on := 11, ground := Ground.data }, { on := 13, ground := Ground.chain }, { on := 0, ground := Ground.phase }, { on := 1, ground := Ground.phase }, { on := 2, ground := Ground.phase }, { on := 3, ground := Ground.phase }, { on := 4, ground := Ground.phase }, { on := 5, ground := Ground.phase }, { on := 6, ground := Ground.phase }, { on := 7, ground := Ground.phase }, { on := 8, ground := Ground.phase }, { on := 9, ground := Ground.phase }, { on := 10, ground := Ground.phase }, { on := 11, ground := Ground.phase }, { on := 12, ground := Ground.phase }, { on := 13, ground := Ground.phase }], guard := none } : Oper)) (v := ?_) rfl (by kernel_rfl) (by kernel_rfl) (by kernel_rfl) (fun _ _ _ h => h) (Or.inl ⟨by rfl, ?hyU73⟩) (by assumption) ?rsU73
                case hyU73 => (intro w8' hSw; (try dsimp only at hSw); go_simp; (first | done | with_reducible rfl))
                (try simp only [Act.put, List.setIfInBounds_toArray, List.set_cons_zero, List.set_cons_succ])
                refine wpAnyH_done (by kernel_rfl) ?_ _
                refine NoPanic.normal ?_
                go_wp2_with fail
                go_meet
                exact ⟨g71, F2, F7, F8, f8c, rfl, rfl, BC.out.trans (HQ72.out.2.mono BC.out.size), ⟨st_box (T := 30) (cs := Ev27 (ev0 0) F2 F7 F8 f8c) HQ72.out (by simp)⟩, ⟨hd_later hYc.out HQ72.out.2⟩⟩
              refine AllReadyH.cons (o := ({ dst := some 12, op := Op.alloc 30, type := 0, pos := "law.go:80", after := #[], guard := none } : Oper)) rfl (fun K hK => ?_) AllReadyH.nil
              rw [if_pos (by rfl)]
              go_simp
              have hq74 := HQ65.out.push (below_alloc (Below.refl _ _) (.cells Z 30)) (boxA_new u65 30 Z)
              refine hK.out _ _ hq74.2 (fun hHeld => ?_)
              clear hK
              (try simp only [Act.put, List.setIfInBounds_toArray, List.set_cons_zero, List.set_cons_succ])
              generalize u65.alloc (.cells Z 30) = u74 at *
              generalize u65.heap.size = g74 at *
              have HQ74 : Aside0 (St wc [byA (.slice A65 (([] ++ p) ++ [m]).length c65) (([] ++ p) ++ [m]), byA (.slice (some ⟨g63, 0, none⟩) 1 1) [m], boxA 30 g74 Z] u74) := ⟨hq74⟩
              clear hq74
              refine wpAnyH_ready (rs := [8]) (by kernel_rfl) (by simp) ?_
              refine AllReadyH.cons (o := ({ dst := some 47, op := Op.call { callee := Callee.value (Operand.func 11), args := #[Operand.tmp 40, Operand.tmp 46], argTypes := #[3, 28] }, type := 34, pos := "law.go:80", after := #[{ on := 1, ground := Ground.data }, { on := 7, ground := Ground.data }, { on := 7, ground := Ground.chain }], guard := none } : Oper)) rfl (fun K hK => ?_) AllReadyH.nil
              rw [if_pos (by rfl)]
              have hrd75 : ReadsInt u74 .u8 A65 (([] ++ p) ++ [m]).length (([] ++ p) ++ [m]) := by
                obtain ⟨A0, c0, e0, _, hr0, _⟩ := HQ74.out.bytes 0 (v := .slice A65 (([] ++ p) ++ [m]).length c65) (xs := (([] ++ p) ++ [m])) rfl
                injection e0 with q1 _ q3
                rw [q1]
                exact hr0
              have hln75 : p.length + 1 = (([] ++ p) ++ [m]).length := by simp
              have hCd75 : Kd.C (Kd.int .u8) u74 A65 (p.length + 1) (([] ++ p) ++ [m]) := by
                have hx := C_of_ints hrd75
                rw [← hln75] at hx
                exact hx
              have hcall := get_sl e.k (([] ++ p) ++ [m]) (p.length + 1) u74 A65 c65 hln75 hCd75 (byt_app HBP.out (fun x hx => by rw [List.mem_singleton] at hx; subst hx; exact hm)) (by simp only [List.length_append, List.length_nil, List.length_cons]; omega) (ev0 0) 12 (by have := get_more m HRT.out HX.out HG.out; rw [HP.out] at this; exact this)
              have HCALL := Aside0.mk hcall
              clear hcall hrd75 hCd75 hln75
              go_simp
              refine (HCALL.out).mono ?_
              rintro q u76 ⟨F2, F7, F8, f8c, rfl, _, hb76⟩
              have hq76 := HQ74.out.below hb76
              have HQ76 := Aside0.mk hq76
              go_simp
              refine hK.out _ _ hq76.2 (fun hHeld => ?_)
              clear hK
              (try simp only [Act.put, List.setIfInBounds_toArray, List.set_cons_zero, List.set_cons_succ])
              clear hq76 hb76
              clear HCALL
              refine wpAnyH_take (i := 9) (oi := ({ dst := some 38, op := Op.move (Operand.tmp 47), type := 34, pos := "law.go:80", after := #[{ on := 8, ground := Ground.data }], guard := none } : Oper)) (v := ?_) rfl (by kernel_rfl) (by kernel_rfl) (by kernel_rfl) (fun _ _ _ h => h) (Or.inl ⟨by rfl, ?hyU77⟩) (by assumption) ?rsU77
              case hyU77 => (intro w8' hSw; (try dsimp only at hSw); go_simp; (first | done | with_reducible rfl))
              (try simp only [Act.put, List.setIfInBounds_toArray, List.set_cons_zero, List.set_cons_succ])
              refine wpAnyH_take (i := 10) (oi := ({ dst := some 48, op := Op.extract (Operand.tmp 38) 0, type := 30, pos := "law.go:80", after := #[{ on := 9, ground := Ground.data }], guard := none } : Oper)) (v := ?_) rfl (by kernel_rfl) (by kernel_rfl) (by kernel_rfl) (fun _ _ _ h => h) (Or.inl ⟨by rfl, ?hyU78⟩) (by assumption) ?rsU78
              case hyU78 => (intro w8' hSw; (try dsimp only at hSw); go_simp; (first | done | with_reducible rfl))
              (try simp only [Act.put, List.setIfInBounds_toArray, List.set_cons_zero, List.set_cons_succ])
              refine wpAnyH_take (i := 11) (oi := ({ dst := some 49, op := Op.extract (Operand.tmp 38) 1, type := 33, pos := "law.go:80", after := #[{ on := 9, ground := Ground.data }, { on := 13, ground := Ground.gcOnly Departure.lateStores }], guard := none } : Oper)) (v := ?_) rfl (by kernel_rfl) (by kernel_rfl) (by kernel_rfl) (fun _ _ _ h => h) (Or.inl ⟨by rfl, ?hyU79⟩) (by assumption) ?rsU79
              case hyU79 => (intro w8' hSw; (try dsimp only at hSw); go_simp; (first | done | with_reducible rfl))
              (try simp only [Act.put, List.setIfInBounds_toArray, List.set_cons_zero, List.set_cons_succ])
              refine wpAnyH_ready (rs := [13]) (by kernel_rfl) (by simp) ?_
              refine AllReadyH.cons (o := ({ dst := none, op := Op.store 30 (Operand.tmp 12) (Operand.tmp 48), type := 0, pos := "law.go:80", after := #[{ on := 12, ground := Ground.data }, { on := 10, ground := Ground.data }, { on := 8, ground := Ground.chain }, { on := 0, ground := Ground.phase }, { on := 1, ground := Ground.phase }, { on := 2, ground := Ground.phase }, { on := 3, ground := Ground.phase }, { on := 4, ground := Ground.phase }, { on := 5, ground := Ground.phase }, { on := 6, ground := Ground.phase }, { on := 7, ground := Ground.phase }, { on := 8, ground := Ground.phase }, { on := 9, ground := Ground.phase }, { on := 10, ground := Ground.phase }, { on := 11, ground := Ground.textOnly Departure.lateStores }, { on := 12, ground := Ground.phase }], guard := none } : Oper)) rfl (fun K hK => ?_) AllReadyH.nil
              rw [if_pos (by rfl)]
              have hz80 := st_box (T := 30) (cs := Z) (g := g74) HQ76.out (by simp)
              refine op_skip (pick_store (x := Operand.tmp 12) (y := Operand.tmp 48) rfl g74 (Ev27 (ev0 0) F2 F7 F8 f8c) rfl rfl 30 Z hz80 (ev27_size _ _ _ _ _) (by rw [sz]; rfl) (ev27_one _ _ _ _ _)) ?_
              have hq80 := st_setRow (Ev27 (ev0 0) F2 F7 F8 f8c) HQ76.out 2 rfl
              refine hK.out _ _ hq80.2 (fun hHeld => ?_)
              clear hK
              (try simp only [Act.put, List.setIfInBounds_toArray, List.set_cons_zero, List.set_cons_succ])
              generalize u76.setRow g74 (Ev27 (ev0 0) F2 F7 F8 f8c) = u80 at *
              have HQ80 : Aside0 (St wc [byA (.slice A65 (([] ++ p) ++ [m]).length c65) (([] ++ p) ++ [m]), byA (.slice (some ⟨g63, 0, none⟩) 1 1) [m], boxA 30 g74 (Ev27 (ev0 0) F2 F7 F8 f8c)] u80) := ⟨hq80⟩
              clear hq80 hz80
              refine wpAnyH_take (i := 14) (oi := ({ dst := some 13, op := Op.assign (Operand.tmp 49), type := 33, pos := "law.go:80", after := #[{ on := 11, ground := Ground.data }, { on := 13, ground := Ground.chain }, { on := 0, ground := Ground.phase }, { on := 1, ground := Ground.phase }, { on := 2, ground := Ground.phase }, { on := 3, ground := Ground.phase }, { on := 4, ground := Ground.phase }, { on := 5, ground := Ground.phase }, { on := 6, ground := Ground.phase }, { on := 7, ground := Ground.phase }, { on := 8, ground := Ground.phase }, { on := 9, ground := Ground.phase }, { on := 10, ground := Ground.phase }, { on := 11, ground := Ground.phase }, { on := 12, ground := Ground.phase }, { on := 13, ground := Ground.phase }], guard := none } : Oper)) (v := ?_) rfl (by kernel_rfl) (by kernel_rfl) (by kernel_rfl) (fun _ _ _ h => h) (Or.inl ⟨by rfl, ?hyU81⟩) (by assumption) ?rsU81
              case hyU81 => (intro w8' hSw; (try dsimp only at hSw); go_simp; (first | done | with_reducible rfl))
              (try simp only [Act.put, List.setIfInBounds_toArray, List.set_cons_zero, List.set_cons_succ])
              refine wpAnyH_done (by kernel_rfl) ?_ _
              refine NoPanic.normal ?_
              go_wp2_with fail
              go_meet
              exact ⟨g74, F2, F7, F8, f8c, rfl, rfl, BC.out.trans (HQ80.out.2.mono BC.out.size), ⟨st_box (T := 30) (cs := Ev27 (ev0 0) F2 F7 F8 f8c) HQ80.out (by simp)⟩, ⟨hd_later hYc.out HQ80.out.2⟩⟩
            refine AllReadyH.cons (o := ({ dst := some 12, op := Op.alloc 30, type := 0, pos := "law.go:80", after := #[], guard := none } : Oper)) rfl (fun K hK => ?_) AllReadyH.nil
            rw [if_pos (by rfl)]
            go_simp
            have hq82 := HQ64.out.push (below_alloc (Below.refl _ _) (.cells Z 30)) (boxA_new u64 30 Z)
            refine hK.out _ _ hq82.2 (fun hHeld => ?_)
            clear hK
            (try simp only [Act.put, List.setIfInBounds_toArray, List.set_cons_zero, List.set_cons_succ])
            generalize u64.alloc (.cells Z 30) = u82 at *
            generalize u64.heap.size = g82 at *
            have HQ82 : Aside0 (St wc [byA (.slice A64 ([] ++ p).length c64) ([] ++ p), byA (.slice (some ⟨g63, 0, none⟩) 1 1) [m], boxA 30 g82 Z] u82) := ⟨hq82⟩
            clear hq82
            refine wpAnyH_ready (rs := [7]) (by kernel_rfl) (by simp) ?_
            refine AllReadyH.cons (o := ({ dst := some 46, op := Op.call { callee := Callee.builtin Builtin.append, args := #[Operand.tmp 43, Operand.tmp 45], argTypes := #[28, 28] }, type := 28, pos := "law.go:80", after := #[{ on := 4, ground := Ground.data }, { on := 6, ground := Ground.data }, { on := 4, ground := Ground.chain }], guard := none } : Oper)) rfl (fun K hK => ?_) AllReadyH.nil
            rw [if_pos (by rfl)]
            obtain ⟨AM83, cM83, eM83, _, hrM83, _⟩ := HQ82.out.bytes 1 (v := .slice (some ⟨g63, 0, none⟩) 1 1) (xs := [m]) rfl
            obtain ⟨rfl, rfl⟩ : AM83 = some ⟨g63, 0, none⟩ ∧ cM83 = 1 := by injection eM83 with q1 _ q3; exact ⟨q1.symm, q3.symm⟩
            obtain ⟨A83, c83, u83, hr83, hq83⟩ := st_app HQ82.out 0 rfl (c := 1) rfl hrM83 (by simp only [List.length_append, List.length_nil, List.length_cons]; omega)
            refine op_val (run_app (s := Operand.tmp 43) (x := Operand.tmp 45) rfl rfl rfl hr83) ?_
            refine hK.out _ _ hq83.2 (fun hHeld => ?_)
            clear hK
            (try simp only [Act.put, List.setIfInBounds_toArray, List.set_cons_zero, List.set_cons_succ])
            have HQ83 : Aside0 (St wc [byA (.slice A83 (([] ++ p) ++ [m]).length c83) (([] ++ p) ++ [m]), byA (.slice (some ⟨g63, 0, none⟩) 1 1) [m], boxA 30 g82 Z] u83) := ⟨hq83⟩
            clear hq83 hr83
            refine wpAnyH_ready (rs := [8]) (by kernel_rfl) (by simp) ?_
            refine AllReadyH.cons (o := ({ dst := some 47, op := Op.call { callee := Callee.value (Operand.func 11), args := #[Operand.tmp 40, Operand.tmp 46], argTypes := #[3, 28] }, type := 34, pos := "law.go:80", after := #[{ on := 1, ground := Ground.data }, { on := 7, ground := Ground.data }, { on := 7, ground := Ground.chain }], guard := none } : Oper)) rfl (fun K hK => ?_) AllReadyH.nil
            rw [if_pos (by rfl)]
            have hrd84 : ReadsInt u83 .u8 A83 (([] ++ p) ++ [m]).length (([] ++ p) ++ [m]) := by
              obtain ⟨A0, c0, e0, _, hr0, _⟩ := HQ83.out.bytes 0 (v := .slice A83 (([] ++ p) ++ [m]).length c83) (xs := (([] ++ p) ++ [m])) rfl
              injection e0 with q1 _ q3
              rw [q1]
              exact hr0
            have hln84 : p.length + 1 = (([] ++ p) ++ [m]).length := by simp
            have hCd84 : Kd.C (Kd.int .u8) u83 A83 (p.length + 1) (([] ++ p) ++ [m]) := by
              have hx := C_of_ints hrd84
              rw [← hln84] at hx
              exact hx
            have hcall := get_sl e.k (([] ++ p) ++ [m]) (p.length + 1) u83 A83 c83 hln84 hCd84 (byt_app HBP.out (fun x hx => by rw [List.mem_singleton] at hx; subst hx; exact hm)) (by simp only [List.length_append, List.length_nil, List.length_cons]; omega) (ev0 0) 12 (by have := get_more m HRT.out HX.out HG.out; rw [HP.out] at this; exact this)
            have HCALL := Aside0.mk hcall
            clear hcall hrd84 hCd84 hln84
            go_simp
            refine (HCALL.out).mono ?_
            rintro q u85 ⟨F2, F7, F8, f8c, rfl, _, hb85⟩
            have hq85 := HQ83.out.below hb85
            have HQ85 := Aside0.mk hq85
            go_simp
            refine hK.out _ _ hq85.2 (fun hHeld => ?_)
            clear hK
            (try simp only [Act.put, List.setIfInBounds_toArray, List.set_cons_zero, List.set_cons_succ])
            clear hq85 hb85
            clear HCALL
            refine wpAnyH_take (i := 9) (oi := ({ dst := some 38, op := Op.move (Operand.tmp 47), type := 34, pos := "law.go:80", after := #[{ on := 8, ground := Ground.data }], guard := none } : Oper)) (v := ?_) rfl (by kernel_rfl) (by kernel_rfl) (by kernel_rfl) (fun _ _ _ h => h) (Or.inl ⟨by rfl, ?hyU86⟩) (by assumption) ?rsU86
            case hyU86 => (intro w8' hSw; (try dsimp only at hSw); go_simp; (first | done | with_reducible rfl))
            (try simp only [Act.put, List.setIfInBounds_toArray, List.set_cons_zero, List.set_cons_succ])
            refine wpAnyH_take (i := 10) (oi := ({ dst := some 48, op := Op.extract (Operand.tmp 38) 0, type := 30, pos := "law.go:80", after := #[{ on := 9, ground := Ground.data }], guard := none } : Oper)) (v := ?_) rfl (by kernel_rfl) (by kernel_rfl) (by kernel_rfl) (fun _ _ _ h => h) (Or.inl ⟨by rfl, ?hyU87⟩) (by assumption) ?rsU87
            case hyU87 => (intro w8' hSw; (try dsimp only at hSw); go_simp; (first | done | with_reducible rfl))
            (try simp only [Act.put, List.setIfInBounds_toArray, List.set_cons_zero, List.set_cons_succ])
            refine wpAnyH_take (i := 11) (oi := ({ dst := some 49, op := Op.extract (Operand.tmp 38) 1, type := 33, pos := "law.go:80", after := #[{ on := 9, ground := Ground.data }, { on := 13, ground := Ground.gcOnly Departure.lateStores }], guard := none } : Oper)) (v := ?_) rfl (by kernel_rfl) (by kernel_rfl) (by kernel_rfl) (fun _ _ _ h => h) (Or.inl ⟨by rfl, ?hyU88⟩) (by assumption) ?rsU88
            case hyU88 => (intro w8' hSw; (try dsimp only at hSw); go_simp; (first | done | with_reducible rfl))
            (try simp only [Act.put, List.setIfInBounds_toArray, List.set_cons_zero, List.set_cons_succ])
            refine wpAnyH_ready (rs := [13]) (by kernel_rfl) (by simp) ?_
            refine AllReadyH.cons (o := ({ dst := none, op := Op.store 30 (Operand.tmp 12) (Operand.tmp 48), type := 0, pos := "law.go:80", after := #[{ on := 12, ground := Ground.data }, { on := 10, ground := Ground.data }, { on := 8, ground := Ground.chain }, { on := 0, ground := Ground.phase }, { on := 1, ground := Ground.phase }, { on := 2, ground := Ground.phase }, { on := 3, ground := Ground.phase }, { on := 4, ground := Ground.phase }, { on := 5, ground := Ground.phase }, { on := 6, ground := Ground.phase }, { on := 7, ground := Ground.phase }, { on := 8, ground := Ground.phase }, { on := 9, ground := Ground.phase }, { on := 10, ground := Ground.phase }, { on := 11, ground := Ground.textOnly Departure.lateStores }, { on := 12, ground := Ground.phase }], guard := none } : Oper)) rfl (fun K hK => ?_) AllReadyH.nil
            rw [if_pos (by rfl)]
            have hz89 := st_box (T := 30) (cs := Z) (g := g82) HQ85.out (by simp)
            refine op_skip (pick_store (x := Operand.tmp 12) (y := Operand.tmp 48) rfl g82 (Ev27 (ev0 0) F2 F7 F8 f8c) rfl rfl 30 Z hz89 (ev27_size _ _ _ _ _) (by rw [sz]; rfl) (ev27_one _ _ _ _ _)) ?_
            have hq89 := st_setRow (Ev27 (ev0 0) F2 F7 F8 f8c) HQ85.out 2 rfl
            refine hK.out _ _ hq89.2 (fun hHeld => ?_)
            clear hK
            (try simp only [Act.put, List.setIfInBounds_toArray, List.set_cons_zero, List.set_cons_succ])
            generalize u85.setRow g82 (Ev27 (ev0 0) F2 F7 F8 f8c) = u89 at *
            have HQ89 : Aside0 (St wc [byA (.slice A83 (([] ++ p) ++ [m]).length c83) (([] ++ p) ++ [m]), byA (.slice (some ⟨g63, 0, none⟩) 1 1) [m], boxA 30 g82 (Ev27 (ev0 0) F2 F7 F8 f8c)] u89) := ⟨hq89⟩
            clear hq89 hz89
            refine wpAnyH_take (i := 14) (oi := ({ dst := some 13, op := Op.assign (Operand.tmp 49), type := 33, pos := "law.go:80", after := #[{ on := 11, ground := Ground.data }, { on := 13, ground := Ground.chain }, { on := 0, ground := Ground.phase }, { on := 1, ground := Ground.phase }, { on := 2, ground := Ground.phase }, { on := 3, ground := Ground.phase }, { on := 4, ground := Ground.phase }, { on := 5, ground := Ground.phase }, { on := 6, ground := Ground.phase }, { on := 7, ground := Ground.phase }, { on := 8, ground := Ground.phase }, { on := 9, ground := Ground.phase }, { on := 10, ground := Ground.phase }, { on := 11, ground := Ground.phase }, { on := 12, ground := Ground.phase }, { on := 13, ground := Ground.phase }], guard := none } : Oper)) (v := ?_) rfl (by kernel_rfl) (by kernel_rfl) (by kernel_rfl) (fun _ _ _ h => h) (Or.inl ⟨by rfl, ?hyU90⟩) (by assumption) ?rsU90
            case hyU90 => (intro w8' hSw; (try dsimp only at hSw); go_simp; (first | done | with_reducible rfl))
            (try simp only [Act.put, List.setIfInBounds_toArray, List.set_cons_zero, List.set_cons_succ])
            refine wpAnyH_done (by kernel_rfl) ?_ _
            refine NoPanic.normal ?_
            go_wp2_with fail
            go_meet
            exact ⟨g82, F2, F7, F8, f8c, rfl, rfl, BC.out.trans (HQ89.out.2.mono BC.out.size), ⟨st_box (T := 30) (cs := Ev27 (ev0 0) F2 F7 F8 f8c) HQ89.out (by simp)⟩, ⟨hd_later hYc.out HQ89.out.2⟩⟩
          refine AllReadyH.cons (o := ({ dst := some 12, op := Op.alloc 30, type := 0, pos := "law.go:80", after := #[], guard := none } : Oper)) rfl (fun K hK => ?_) AllReadyH.nil
          rw [if_pos (by rfl)]
          go_simp
          have hq91 := HQ63.out.push (below_alloc (Below.refl _ _) (.cells Z 30)) (boxA_new u63 30 Z)
          refine hK.out _ _ hq91.2 (fun hHeld => ?_)
          clear hK
          (try simp only [Act.put, List.setIfInBounds_toArray, List.set_cons_zero, List.set_cons_succ])
          generalize u63.alloc (.cells Z 30) = u91 at *
          generalize u63.heap.size = g91 at *
          have HQ91 : Aside0 (St wc [byA (.slice (some ⟨g24, 0, none⟩) 0 0) [], byA (.slice (some ⟨g63, 0, none⟩) 1 1) [m], boxA 30 g91 Z] u91) := ⟨hq91⟩
          clear hq91
          refine wpAnyH_ready (rs := [4]) (by kernel_rfl) (by simp) ?_
          refine AllReadyH.cons (o := ({ dst := some 43, op := Op.call { callee := Callee.builtin Builtin.append, args := #[Operand.tmp 41, Operand.tmp 42], argTypes := #[28, 28] }, type := 28, pos := "law.go:80", after := #[{ on := 2, ground := Ground.data }, { on := 3, ground := Ground.data }], guard := none } : Oper)) rfl (fun K hK => ?_) AllReadyH.nil
          rw [if_pos (by rfl)]
          obtain ⟨A92, c92, u92, hr92, hq92⟩ := st_app HQ91.out 0 rfl (c := cp) rfl (reads_of_C (Kd.C_below hDc.out HQ91.out.2)) (by simp only [List.length_nil]; omega)
          refine op_val (run_app (s := Operand.tmp 41) (x := Operand.tmp 42) rfl rfl rfl hr92) ?_
          refine hK.out _ _ hq92.2 (fun hHeld => ?_)
          clear hK
          (try simp only [Act.put, List.setIfInBounds_toArray, List.set_cons_zero, List.set_cons_succ])
          have HQ92 : Aside0 (St wc [byA (.slice A92 ([] ++ p).length c92) ([] ++ p), byA (.slice (some ⟨g63, 0, none⟩) 1 1) [m], boxA 30 g91 Z] u92) := ⟨hq92⟩
          clear hq92 hr92
          refine wpAnyH_ready (rs := [7]) (by kernel_rfl) (by simp) ?_
          refine AllReadyH.cons (o := ({ dst := some 46, op := Op.call { callee := Callee.builtin Builtin.append, args := #[Operand.tmp 43, Operand.tmp 45], argTypes := #[28, 28] }, type := 28, pos := "law.go:80", after := #[{ on := 4, ground := Ground.data }, { on := 6, ground := Ground.data }, { on := 4, ground := Ground.chain }], guard := none } : Oper)) rfl (fun K hK => ?_) AllReadyH.nil
          rw [if_pos (by rfl)]
          obtain ⟨AM93, cM93, eM93, _, hrM93, _⟩ := HQ92.out.bytes 1 (v := .slice (some ⟨g63, 0, none⟩) 1 1) (xs := [m]) rfl
          obtain ⟨rfl, rfl⟩ : AM93 = some ⟨g63, 0, none⟩ ∧ cM93 = 1 := by injection eM93 with q1 _ q3; exact ⟨q1.symm, q3.symm⟩
          obtain ⟨A93, c93, u93, hr93, hq93⟩ := st_app HQ92.out 0 rfl (c := 1) rfl hrM93 (by simp only [List.length_append, List.length_nil, List.length_cons]; omega)
          refine op_val (run_app (s := Operand.tmp 43) (x := Operand.tmp 45) rfl rfl rfl hr93) ?_
          refine hK.out _ _ hq93.2 (fun hHeld => ?_)
          clear hK
          (try simp only [Act.put, List.setIfInBounds_toArray, List.set_cons_zero, List.set_cons_succ])
          have HQ93 : Aside0 (St wc [byA (.slice A93 (([] ++ p) ++ [m]).length c93) (([] ++ p) ++ [m]), byA (.slice (some ⟨g63, 0, none⟩) 1 1) [m], boxA 30 g91 Z] u93) := ⟨hq93⟩
          clear hq93 hr93
          refine wpAnyH_ready (rs := [8]) (by kernel_rfl) (by simp) ?_
          refine AllReadyH.cons (o := ({ dst := some 47, op := Op.call { callee := Callee.value (Operand.func 11), args := #[Operand.tmp 40, Operand.tmp 46], argTypes := #[3, 28] }, type := 34, pos := "law.go:80", after := #[{ on := 1, ground := Ground.data }, { on := 7, ground := Ground.data }, { on := 7, ground := Ground.chain }], guard := none } : Oper)) rfl (fun K hK => ?_) AllReadyH.nil
          rw [if_pos (by rfl)]
          have hrd94 : ReadsInt u93 .u8 A93 (([] ++ p) ++ [m]).length (([] ++ p) ++ [m]) := by
            obtain ⟨A0, c0, e0, _, hr0, _⟩ := HQ93.out.bytes 0 (v := .slice A93 (([] ++ p) ++ [m]).length c93) (xs := (([] ++ p) ++ [m])) rfl
            injection e0 with q1 _ q3
            rw [q1]
            exact hr0
          have hln94 : p.length + 1 = (([] ++ p) ++ [m]).length := by simp
          have hCd94 : Kd.C (Kd.int .u8) u93 A93 (p.length + 1) (([] ++ p) ++ [m]) := by
            have hx := C_of_ints hrd94
            rw [← hln94] at hx
            exact hx
          have hcall := get_sl e.k (([] ++ p) ++ [m]) (p.length + 1) u93 A93 c93 hln94 hCd94 (byt_app HBP.out (fun x hx => by rw [List.mem_singleton] at hx; subst hx; exact hm)) (by simp only [List.length_append, List.length_nil, List.length_cons]; omega) (ev0 0) 12 (by have := get_more m HRT.out HX.out HG.out; rw [HP.out] at this; exact this)
          have HCALL := Aside0.mk hcall
          clear hcall hrd94 hCd94 hln94
          go_simp
          refine (HCALL.out).mono ?_
          rintro q u95 ⟨F2, F7, F8, f8c, rfl, _, hb95⟩
          have hq95 := HQ93.out.below hb95
          have HQ95 := Aside0.mk hq95
          go_simp
          refine hK.out _ _ hq95.2 (fun hHeld => ?_)
          clear hK
          (try simp only [Act.put, List.setIfInBounds_toArray, List.set_cons_zero, List.set_cons_succ])
          clear hq95 hb95
          clear HCALL
          refine wpAnyH_take (i := 9) (oi := ({ dst := some 38, op := Op.move (Operand.tmp 47), type := 34, pos := "law.go:80", after := #[{ on := 8, ground := Ground.data }], guard := none } : Oper)) (v := ?_) rfl (by kernel_rfl) (by kernel_rfl) (by kernel_rfl) (fun _ _ _ h => h) (Or.inl ⟨by rfl, ?hyU96⟩) (by assumption) ?rsU96
          case hyU96 => (intro w8' hSw; (try dsimp only at hSw); go_simp; (first | done | with_reducible rfl))
          (try simp only [Act.put, List.setIfInBounds_toArray, List.set_cons_zero, List.set_cons_succ])
          refine wpAnyH_take (i := 10) (oi := ({ dst := some 48, op := Op.extract (Operand.tmp 38) 0, type := 30, pos := "law.go:80", after := #[{ on := 9, ground := Ground.data }], guard := none } : Oper)) (v := ?_) rfl (by kernel_rfl) (by kernel_rfl) (by kernel_rfl) (fun _ _ _ h => h) (Or.inl ⟨by rfl, ?hyU97⟩) (by assumption) ?rsU97
          case hyU97 => (intro w8' hSw; (try dsimp only at hSw); go_simp; (first | done | with_reducible rfl))
          (try simp only [Act.put, List.setIfInBounds_toArray, List.set_cons_zero, List.set_cons_succ])
          refine wpAnyH_take (i := 11) (oi := ({ dst := some 49, op := Op.extract (Operand.tmp 38) 1, type := 33, pos := "law.go:80", after := #[{ on := 9, ground := Ground.data }, { on := 13, ground := Ground.gcOnly Departure.lateStores }], guard := none } : Oper)) (v := ?_) rfl (by kernel_rfl) (by kernel_rfl) (by kernel_rfl) (fun _ _ _ h => h) (Or.inl ⟨by rfl, ?hyU98⟩) (by assumption) ?rsU98
          case hyU98 => (intro w8' hSw; (try dsimp only at hSw); go_simp; (first | done | with_reducible rfl))
          (try simp only [Act.put, List.setIfInBounds_toArray, List.set_cons_zero, List.set_cons_succ])
          refine wpAnyH_ready (rs := [13]) (by kernel_rfl) (by simp) ?_
          refine AllReadyH.cons (o := ({ dst := none, op := Op.store 30 (Operand.tmp 12) (Operand.tmp 48), type := 0, pos := "law.go:80", after := #[{ on := 12, ground := Ground.data }, { on := 10, ground := Ground.data }, { on := 8, ground := Ground.chain }, { on := 0, ground := Ground.phase }, { on := 1, ground := Ground.phase }, { on := 2, ground := Ground.phase }, { on := 3, ground := Ground.phase }, { on := 4, ground := Ground.phase }, { on := 5, ground := Ground.phase }, { on := 6, ground := Ground.phase }, { on := 7, ground := Ground.phase }, { on := 8, ground := Ground.phase }, { on := 9, ground := Ground.phase }, { on := 10, ground := Ground.phase }, { on := 11, ground := Ground.textOnly Departure.lateStores }, { on := 12, ground := Ground.phase }], guard := none } : Oper)) rfl (fun K hK => ?_) AllReadyH.nil
          rw [if_pos (by rfl)]
          have hz99 := st_box (T := 30) (cs := Z) (g := g91) HQ95.out (by simp)
          refine op_skip (pick_store (x := Operand.tmp 12) (y := Operand.tmp 48) rfl g91 (Ev27 (ev0 0) F2 F7 F8 f8c) rfl rfl 30 Z hz99 (ev27_size _ _ _ _ _) (by rw [sz]; rfl) (ev27_one _ _ _ _ _)) ?_
          have hq99 := st_setRow (Ev27 (ev0 0) F2 F7 F8 f8c) HQ95.out 2 rfl
          refine hK.out _ _ hq99.2 (fun hHeld => ?_)
          clear hK
          (try simp only [Act.put, List.setIfInBounds_toArray, List.set_cons_zero, List.set_cons_succ])
          generalize u95.setRow g91 (Ev27 (ev0 0) F2 F7 F8 f8c) = u99 at *
          have HQ99 : Aside0 (St wc [byA (.slice A93 (([] ++ p) ++ [m]).length c93) (([] ++ p) ++ [m]), byA (.slice (some ⟨g63, 0, none⟩) 1 1) [m], boxA 30 g91 (Ev27 (ev0 0) F2 F7 F8 f8c)] u99) := ⟨hq99⟩
          clear hq99 hz99
          refine wpAnyH_take (i := 14) (oi := ({ dst := some 13, op := Op.assign (Operand.tmp 49), type := 33, pos := "law.go:80", after := #[{ on := 11, ground := Ground.data }, { on := 13, ground := Ground.chain }, { on := 0, ground := Ground.phase }, { on := 1, ground := Ground.phase }, { on := 2, ground := Ground.phase }, { on := 3, ground := Ground.phase }, { on := 4, ground := Ground.phase }, { on := 5, ground := Ground.phase }, { on := 6, ground := Ground.phase }, { on := 7, ground := Ground.phase }, { on := 8, ground := Ground.phase }, { on := 9, ground := Ground.phase }, { on := 10, ground := Ground.phase }, { on := 11, ground := Ground.phase }, { on := 12, ground := Ground.phase }, { on := 13, ground := Ground.phase }], guard := none } : Oper)) (v := ?_) rfl (by kernel_rfl) (by kernel_rfl) (by kernel_rfl) (fun _ _ _ h => h) (Or.inl ⟨by rfl, ?hyU100⟩) (by assumption) ?rsU100
          case hyU100 => (intro w8' hSw; (try dsimp only at hSw); go_simp; (first | done | with_reducible rfl))
          (try simp only [Act.put, List.setIfInBounds_toArray, List.set_cons_zero, List.set_cons_succ])
          refine wpAnyH_done (by kernel_rfl) ?_ _
          refine NoPanic.normal ?_
          go_wp2_with fail
          go_meet
          exact ⟨g91, F2, F7, F8, f8c, rfl, rfl, BC.out.trans (HQ99.out.2.mono BC.out.size), ⟨st_box (T := 30) (cs := Ev27 (ev0 0) F2 F7 F8 f8c) HQ99.out (by simp)⟩, ⟨hd_later hYc.out HQ99.out.2⟩⟩
        refine AllReadyH.cons (o := ({ dst := some 12, op := Op.alloc 30, type := 0, pos := "law.go:80", after := #[], guard := none } : Oper)) rfl (fun K hK => ?_) AllReadyH.nil
        rw [if_pos (by rfl)]
        go_simp
        have hq101 := HQ24.out.push (below_alloc (Below.refl _ _) (.cells Z 30)) (boxA_new u24 30 Z)
        refine hK.out _ _ hq101.2 (fun hHeld => ?_)
        clear hK
        (try simp only [Act.put, List.setIfInBounds_toArray, List.set_cons_zero, List.set_cons_succ])
        generalize u24.alloc (.cells Z 30) = u101 at *
        generalize u24.heap.size = g101 at *
        have HQ101 : Aside0 (St wc [byA (.slice (some ⟨g24, 0, none⟩) 0 0) [], boxA 30 g101 Z] u101) := ⟨hq101⟩
        clear hq101
        refine wpAnyH_ready (rs := [4, 6]) (by kernel_rfl) (by simp) ?_
        refine AllReadyH.cons (o := ({ dst := some 43, op := Op.call { callee := Callee.builtin Builtin.append, args := #[Operand.tmp 41, Operand.tmp 42], argTypes := #[28, 28] }, type := 28, pos := "law.go:80", after := #[{ on := 2, ground := Ground.data }, { on := 3, ground := Ground.data }], guard := none } : Oper)) rfl (fun K hK => ?_) ?_
        · rw [if_pos (by rfl)]
          obtain ⟨A102, c102, u102, hr102, hq102⟩ := st_app HQ101.out 0 rfl (c := cp) rfl (reads_of_C (Kd.C_below hDc.out HQ101.out.2)) (by simp only [List.length_nil]; omega)
          refine op_val (run_app (s := Operand.tmp 41) (x := Operand.tmp 42) rfl rfl rfl hr102) ?_
          refine hK.out _ _ hq102.2 (fun hHeld => ?_)
          clear hK
          (try simp only [Act.put, List.setIfInBounds_toArray, List.set_cons_zero, List.set_cons_succ])
          have HQ102 : Aside0 (St wc [byA (.slice A102 ([] ++ p).length c102) ([] ++ p), boxA 30 g101 Z] u102) := ⟨hq102⟩
          clear hq102 hr102
          refine wpAnyH_ready (rs := [6]) (by kernel_rfl) (by simp) ?_
          refine AllReadyH.cons (o := ({ dst := some 45, op := Op.buildSlice 28 1 #[(0, Operand.tmp 44)], type := 28, pos := "law.go:80", after := #[{ on := 5, ground := Ground.data }], guard := none } : Oper)) rfl (fun K hK => ?_) AllReadyH.nil
          rw [if_pos (by rfl)]
          go_simp
          have hq103 := HQ102.out.push (below_alloc (Below.refl _ _) (.cells #[.int .u8 m] 5)) (newB u102 [m] (by simp))
          refine hK.out _ _ hq103.2 (fun hHeld => ?_)
          clear hK
          (try simp only [Act.put, List.setIfInBounds_toArray, List.set_cons_zero, List.set_cons_succ])
          generalize u102.alloc (.cells #[.int .u8 m] 5) = u103 at *
          generalize u102.heap.size = g103 at *
          have HQ103 : Aside0 (St wc [byA (.slice A102 ([] ++ p).length c102) ([] ++ p), boxA 30 g101 Z, byA (.slice (some ⟨g103, 0, none⟩) 1 1) [m]] u103) := ⟨hq103⟩
          clear hq103
          refine wpAnyH_ready (rs := [7]) (by kernel_rfl) (by simp) ?_
          refine AllReadyH.cons (o := ({ dst := some 46, op := Op.call { callee := Callee.builtin Builtin.append, args := #[Operand.tmp 43, Operand.tmp 45], argTypes := #[28, 28] }, type := 28, pos := "law.go:80", after := #[{ on := 4, ground := Ground.data }, { on := 6, ground := Ground.data }, { on := 4, ground := Ground.chain }], guard := none } : Oper)) rfl (fun K hK => ?_) AllReadyH.nil
          rw [if_pos (by rfl)]
          obtain ⟨AM104, cM104, eM104, _, hrM104, _⟩ := HQ103.out.bytes 2 (v := .slice (some ⟨g103, 0, none⟩) 1 1) (xs := [m]) rfl
          obtain ⟨rfl, rfl⟩ : AM104 = some ⟨g103, 0, none⟩ ∧ cM104 = 1 := by injection eM104 with q1 _ q3; exact ⟨q1.symm, q3.symm⟩
          obtain ⟨A104, c104, u104, hr104, hq104⟩ := st_app HQ103.out 0 rfl (c := 1) rfl hrM104 (by simp only [List.length_append, List.length_nil, List.length_cons]; omega)
          refine op_val (run_app (s := Operand.tmp 43) (x := Operand.tmp 45) rfl rfl rfl hr104) ?_
          refine hK.out _ _ hq104.2 (fun hHeld => ?_)
          clear hK
          (try simp only [Act.put, List.setIfInBounds_toArray, List.set_cons_zero, List.set_cons_succ])
          have HQ104 : Aside0 (St wc [byA (.slice A104 (([] ++ p) ++ [m]).length c104) (([] ++ p) ++ [m]), boxA 30 g101 Z, byA (.slice (some ⟨g103, 0, none⟩) 1 1) [m]] u104) := ⟨hq104⟩
          clear hq104 hr104
          refine wpAnyH_ready (rs := [8]) (by kernel_rfl) (by simp) ?_
          refine AllReadyH.cons (o := ({ dst := some 47, op := Op.call { callee := Callee.value (Operand.func 11), args := #[Operand.tmp 40, Operand.tmp 46], argTypes := #[3, 28] }, type := 34, pos := "law.go:80", after := #[{ on := 1, ground := Ground.data }, { on := 7, ground := Ground.data }, { on := 7, ground := Ground.chain }], guard := none } : Oper)) rfl (fun K hK => ?_) AllReadyH.nil
          rw [if_pos (by rfl)]
          have hrd105 : ReadsInt u104 .u8 A104 (([] ++ p) ++ [m]).length (([] ++ p) ++ [m]) := by
            obtain ⟨A0, c0, e0, _, hr0, _⟩ := HQ104.out.bytes 0 (v := .slice A104 (([] ++ p) ++ [m]).length c104) (xs := (([] ++ p) ++ [m])) rfl
            injection e0 with q1 _ q3
            rw [q1]
            exact hr0
          have hln105 : p.length + 1 = (([] ++ p) ++ [m]).length := by simp
          have hCd105 : Kd.C (Kd.int .u8) u104 A104 (p.length + 1) (([] ++ p) ++ [m]) := by
            have hx := C_of_ints hrd105
            rw [← hln105] at hx
            exact hx
          have hcall := get_sl e.k (([] ++ p) ++ [m]) (p.length + 1) u104 A104 c104 hln105 hCd105 (byt_app HBP.out (fun x hx => by rw [List.mem_singleton] at hx; subst hx; exact hm)) (by simp only [List.length_append, List.length_nil, List.length_cons]; omega) (ev0 0) 12 (by have := get_more m HRT.out HX.out HG.out; rw [HP.out] at this; exact this)
          have HCALL := Aside0.mk hcall
          clear hcall hrd105 hCd105 hln105
          go_simp
          refine (HCALL.out).mono ?_
          rintro q u106 ⟨F2, F7, F8, f8c, rfl, _, hb106⟩
          have hq106 := HQ104.out.below hb106
          have HQ106 := Aside0.mk hq106
          go_simp
          refine hK.out _ _ hq106.2 (fun hHeld => ?_)
          clear hK
          (try simp only [Act.put, List.setIfInBounds_toArray, List.set_cons_zero, List.set_cons_succ])
          clear hq106 hb106
          clear HCALL
          refine wpAnyH_take (i := 9) (oi := ({ dst := some 38, op := Op.move (Operand.tmp 47), type := 34, pos := "law.go:80", after := #[{ on := 8, ground := Ground.data }], guard := none } : Oper)) (v := ?_) rfl (by kernel_rfl) (by kernel_rfl) (by kernel_rfl) (fun _ _ _ h => h) (Or.inl ⟨by rfl, ?hyU107⟩) (by assumption) ?rsU107
          case hyU107 => (intro w8' hSw; (try dsimp only at hSw); go_simp; (first | done | with_reducible rfl))
          (try simp only [Act.put, List.setIfInBounds_toArray, List.set_cons_zero, List.set_cons_succ])
          refine wpAnyH_take (i := 10) (oi := ({ dst := some 48, op := Op.extract (Operand.tmp 38) 0, type := 30, pos := "law.go:80", after := #[{ on := 9, ground := Ground.data }], guard := none } : Oper)) (v := ?_) rfl (by kernel_rfl) (by kernel_rfl) (by kernel_rfl) (fun _ _ _ h => h) (Or.inl ⟨by rfl, ?hyU108⟩) (by assumption) ?rsU108
          case hyU108 => (intro w8' hSw; (try dsimp only at hSw); go_simp; (first | done | with_reducible rfl))
          (try simp only [Act.put, List.setIfInBounds_toArray, List.set_cons_zero, List.set_cons_succ])
          refine wpAnyH_take (i := 11) (oi := ({ dst := some 49, op := Op.extract (Operand.tmp 38) 1, type := 33, pos := "law.go:80", after := #[{ on := 9, ground := Ground.data }, { on := 13, ground := Ground.gcOnly Departure.lateStores }], guard := none } : Oper)) (v := ?_) rfl (by kernel_rfl) (by kernel_rfl) (by kernel_rfl) (fun _ _ _ h => h) (Or.inl ⟨by rfl, ?hyU109⟩) (by assumption) ?rsU109
          case hyU109 => (intro w8' hSw; (try dsimp only at hSw); go_simp; (first | done | with_reducible rfl))
          (try simp only [Act.put, List.setIfInBounds_toArray, List.set_cons_zero, List.set_cons_succ])
          refine wpAnyH_ready (rs := [13]) (by kernel_rfl) (by simp) ?_
          refine AllReadyH.cons (o := ({ dst := none, op := Op.store 30 (Operand.tmp 12) (Operand.tmp 48), type := 0, pos := "law.go:80", after := #[{ on := 12, ground := Ground.data }, { on := 10, ground := Ground.data }, { on := 8, ground := Ground.chain }, { on := 0, ground := Ground.phase }, { on := 1, ground := Ground.phase }, { on := 2, ground := Ground.phase }, { on := 3, ground := Ground.phase }, { on := 4, ground := Ground.phase }, { on := 5, ground := Ground.phase }, { on := 6, ground := Ground.phase }, { on := 7, ground := Ground.phase }, { on := 8, ground := Ground.phase }, { on := 9, ground := Ground.phase }, { on := 10, ground := Ground.phase }, { on := 11, ground := Ground.textOnly Departure.lateStores }, { on := 12, ground := Ground.phase }], guard := none } : Oper)) rfl (fun K hK => ?_) AllReadyH.nil
          rw [if_pos (by rfl)]
          have hz110 := st_box (T := 30) (cs := Z) (g := g101) HQ106.out (by simp)
          refine op_skip (pick_store (x := Operand.tmp 12) (y := Operand.tmp 48) rfl g101 (Ev27 (ev0 0) F2 F7 F8 f8c) rfl rfl 30 Z hz110 (ev27_size _ _ _ _ _) (by rw [sz]; rfl) (ev27_one _ _ _ _ _)) ?_
          have hq110 := st_setRow (Ev27 (ev0 0) F2 F7 F8 f8c) HQ106.out 1 rfl
          refine hK.out _ _ hq110.2 (fun hHeld => ?_)
          clear hK
          (try simp only [Act.put, List.setIfInBounds_toArray, List.set_cons_zero, List.set_cons_succ])
          generalize u106.setRow g101 (Ev27 (ev0 0) F2 F7 F8 f8c) = u110 at *
          have HQ110 : Aside0 (St wc [byA (.slice A104 (([] ++ p) ++ [m]).length c104) (([] ++ p) ++ [m]), boxA 30 g101 (Ev27 (ev0 0) F2 F7 F8 f8c), byA (.slice (some ⟨g103, 0, none⟩) 1 1) [m]] u110) := ⟨hq110⟩
          clear hq110 hz110
          refine wpAnyH_take (i := 14) (oi := ({ dst := some 13, op := Op.assign (Operand.tmp 49), type := 33, pos := "law.go:80", after := #[{ on := 11, ground := Ground.data }, { on := 13, ground := Ground.chain }, { on := 0, ground := Ground.phase }, { on := 1, ground := Ground.phase }, { on := 2, ground := Ground.phase }, { on := 3, ground := Ground.phase }, { on := 4, ground := Ground.phase }, { on := 5, ground := Ground.phase }, { on := 6, ground := Ground.phase }, { on := 7, ground := Ground.phase }, { on := 8, ground := Ground.phase }, { on := 9, ground := Ground.phase }, { on := 10, ground := Ground.phase }, { on := 11, ground := Ground.phase }, { on := 12, ground := Ground.phase }, { on := 13, ground := Ground.phase }], guard := none } : Oper)) (v := ?_) rfl (by kernel_rfl) (by kernel_rfl) (by kernel_rfl) (fun _ _ _ h => h) (Or.inl ⟨by rfl, ?hyU111⟩) (by assumption) ?rsU111
          case hyU111 => (intro w8' hSw; (try dsimp only at hSw); go_simp; (first | done | with_reducible rfl))
          (try simp only [Act.put, List.setIfInBounds_toArray, List.set_cons_zero, List.set_cons_succ])
          refine wpAnyH_done (by kernel_rfl) ?_ _
          refine NoPanic.normal ?_
          go_wp2_with fail
          go_meet
          exact ⟨g101, F2, F7, F8, f8c, rfl, rfl, BC.out.trans (HQ110.out.2.mono BC.out.size), ⟨st_box (T := 30) (cs := Ev27 (ev0 0) F2 F7 F8 f8c) HQ110.out (by simp)⟩, ⟨hd_later hYc.out HQ110.out.2⟩⟩
        refine AllReadyH.cons (o := ({ dst := some 45, op := Op.buildSlice 28 1 #[(0, Operand.tmp 44)], type := 28, pos := "law.go:80", after := #[{ on := 5, ground := Ground.data }], guard := none } : Oper)) rfl (fun K hK => ?_) AllReadyH.nil
        rw [if_pos (by rfl)]
        go_simp
        have hq112 := HQ101.out.push (below_alloc (Below.refl _ _) (.cells #[.int .u8 m] 5)) (newB u101 [m] (by simp))
        refine hK.out _ _ hq112.2 (fun hHeld => ?_)
        clear hK
        (try simp only [Act.put, List.setIfInBounds_toArray, List.set_cons_zero, List.set_cons_succ])
        generalize u101.alloc (.cells #[.int .u8 m] 5) = u112 at *
        generalize u101.heap.size = g112 at *
        have HQ112 : Aside0 (St wc [byA (.slice (some ⟨g24, 0, none⟩) 0 0) [], boxA 30 g101 Z, byA (.slice (some ⟨g112, 0, none⟩) 1 1) [m]] u112) := ⟨hq112⟩
        clear hq112
        refine wpAnyH_ready (rs := [4]) (by kernel_rfl) (by simp) ?_
        refine AllReadyH.cons (o := ({ dst := some 43, op := Op.call { callee := Callee.builtin Builtin.append, args := #[Operand.tmp 41, Operand.tmp 42], argTypes := #[28, 28] }, type := 28, pos := "law.go:80", after := #[{ on := 2, ground := Ground.data }, { on := 3, ground := Ground.data }], guard := none } : Oper)) rfl (fun K hK => ?_) AllReadyH.nil
        rw [if_pos (by rfl)]
        obtain ⟨A113, c113, u113, hr113, hq113⟩ := st_app HQ112.out 0 rfl (c := cp) rfl (reads_of_C (Kd.C_below hDc.out HQ112.out.2)) (by simp only [List.length_nil]; omega)
        refine op_val (run_app (s := Operand.tmp 41) (x := Operand.tmp 42) rfl rfl rfl hr113) ?_
        refine hK.out _ _ hq113.2 (fun hHeld => ?_)
        clear hK
        (try simp only [Act.put, List.setIfInBounds_toArray, List.set_cons_zero, List.set_cons_succ])
        have HQ113 : Aside0 (St wc [byA (.slice A113 ([] ++ p).length c113) ([] ++ p), boxA 30 g101 Z, byA (.slice (some ⟨g112, 0, none⟩) 1 1) [m]] u113) := ⟨hq113⟩
        clear hq113 hr113
        refine wpAnyH_ready (rs := [7]) (by kernel_rfl) (by simp) ?_
        refine AllReadyH.cons (o := ({ dst := some 46, op := Op.call { callee := Callee.builtin Builtin.append, args := #[Operand.tmp 43, Operand.tmp 45], argTypes := #[28, 28] }, type := 28, pos := "law.go:80", after := #[{ on := 4, ground := Ground.data }, { on := 6, ground := Ground.data }, { on := 4, ground := Ground.chain }], guard := none } : Oper)) rfl (fun K hK => ?_) AllReadyH.nil
        rw [if_pos (by rfl)]
        obtain ⟨AM114, cM114, eM114, _, hrM114, _⟩ := HQ113.out.bytes 2 (v := .slice (some ⟨g112, 0, none⟩) 1 1) (xs := [m]) rfl
        obtain ⟨rfl, rfl⟩ : AM114 = some ⟨g112, 0, none⟩ ∧ cM114 = 1 := by injection eM114 with q1 _ q3; exact ⟨q1.symm, q3.symm⟩
        obtain ⟨A114, c114, u114, hr114, hq114⟩ := st_app HQ113.out 0 rfl (c := 1) rfl hrM114 (by simp only [List.length_append, List.length_nil, List.length_cons]; omega)
        refine op_val (run_app (s := Operand.tmp 43) (x := Operand.tmp 45) rfl rfl rfl hr114) ?_
        refine hK.out _ _ hq114.2 (fun hHeld => ?_)
        clear hK
        (try simp only [Act.put, List.setIfInBounds_toArray, List.set_cons_zero, List.set_cons_succ])
        have HQ114 : Aside0 (St wc [byA (.slice A114 (([] ++ p) ++ [m]).length c114) (([] ++ p) ++ [m]), boxA 30 g101 Z, byA (.slice (some ⟨g112, 0, none⟩) 1 1) [m]] u114) := ⟨hq114⟩
        clear hq114 hr114
        refine wpAnyH_ready (rs := [8]) (by kernel_rfl) (by simp) ?_
        refine AllReadyH.cons (o := ({ dst := some 47, op := Op.call { callee := Callee.value (Operand.func 11), args := #[Operand.tmp 40, Operand.tmp 46], argTypes := #[3, 28] }, type := 34, pos := "law.go:80", after := #[{ on := 1, ground := Ground.data }, { on := 7, ground := Ground.data }, { on := 7, ground := Ground.chain }], guard := none } : Oper)) rfl (fun K hK => ?_) AllReadyH.nil
        rw [if_pos (by rfl)]
        have hrd115 : ReadsInt u114 .u8 A114 (([] ++ p) ++ [m]).length (([] ++ p) ++ [m]) := by
          obtain ⟨A0, c0, e0, _, hr0, _⟩ := HQ114.out.bytes 0 (v := .slice A114 (([] ++ p) ++ [m]).length c114) (xs := (([] ++ p) ++ [m])) rfl
          injection e0 with q1 _ q3
          rw [q1]
          exact hr0
        have hln115 : p.length + 1 = (([] ++ p) ++ [m]).length := by simp
        have hCd115 : Kd.C (Kd.int .u8) u114 A114 (p.length + 1) (([] ++ p) ++ [m]) := by
          have hx := C_of_ints hrd115
          rw [← hln115] at hx
          exact hx
        have hcall := get_sl e.k (([] ++ p) ++ [m]) (p.length + 1) u114 A114 c114 hln115 hCd115 (byt_app HBP.out (fun x hx => by rw [List.mem_singleton] at hx; subst hx; exact hm)) (by simp only [List.length_append, List.length_nil, List.length_cons]; omega) (ev0 0) 12 (by have := get_more m HRT.out HX.out HG.out; rw [HP.out] at this; exact this)
        have HCALL := Aside0.mk hcall
        clear hcall hrd115 hCd115 hln115
        go_simp
        refine (HCALL.out).mono ?_
        rintro q u116 ⟨F2, F7, F8, f8c, rfl, _, hb116⟩
        have hq116 := HQ114.out.below hb116
        have HQ116 := Aside0.mk hq116
        go_simp
        refine hK.out _ _ hq116.2 (fun hHeld => ?_)
        clear hK
        (try simp only [Act.put, List.setIfInBounds_toArray, List.set_cons_zero, List.set_cons_succ])
        clear hq116 hb116
        clear HCALL
        refine wpAnyH_take (i := 9) (oi := ({ dst := some 38, op := Op.move (Operand.tmp 47), type := 34, pos := "law.go:80", after := #[{ on := 8, ground := Ground.data }], guard := none } : Oper)) (v := ?_) rfl (by kernel_rfl) (by kernel_rfl) (by kernel_rfl) (fun _ _ _ h => h) (Or.inl ⟨by rfl, ?hyU117⟩) (by assumption) ?rsU117
        case hyU117 => (intro w8' hSw; (try dsimp only at hSw); go_simp; (first | done | with_reducible rfl))
        (try simp only [Act.put, List.setIfInBounds_toArray, List.set_cons_zero, List.set_cons_succ])
        refine wpAnyH_take (i := 10) (oi := ({ dst := some 48, op := Op.extract (Operand.tmp 38) 0, type := 30, pos := "law.go:80", after := #[{ on := 9, ground := Ground.data }], guard := none } : Oper)) (v := ?_) rfl (by kernel_rfl) (by kernel_rfl) (by kernel_rfl) (fun _ _ _ h => h) (Or.inl ⟨by rfl, ?hyU118⟩) (by assumption) ?rsU118
        case hyU118 => (intro w8' hSw; (try dsimp only at hSw); go_simp; (first | done | with_reducible rfl))
        (try simp only [Act.put, List.setIfInBounds_toArray, List.set_cons_zero, List.set_cons_succ])
        refine wpAnyH_take (i := 11) (oi := ({ dst := some 49, op := Op.extract (Operand.tmp 38) 1, type := 33, pos := "law.go:80", after := #[{ on := 9, ground := Ground.data }, { on := 13, ground := Ground.gcOnly Departure.lateStores }], guard := none } : Oper)) (v := ?_) rfl (by kernel_rfl) (by kernel_rfl) (by kernel_rfl) (fun _ _ _ h => h) (Or.inl ⟨by rfl, ?hyU119⟩) (by assumption) ?rsU119
        case hyU119 => (intro w8' hSw; (try dsimp only at hSw); go_simp; (first | done | with_reducible rfl))
        (try simp only [Act.put, List.setIfInBounds_toArray, List.set_cons_zero, List.set_cons_succ])
        refine wpAnyH_ready (rs := [13]) (by kernel_rfl) (by simp) ?_
        refine AllReadyH.cons (o := ({ dst := none, op := Op.store 30 (Operand.tmp 12) (Operand.tmp 48), type := 0, pos := "law.go:80", after := #[{ on := 12, ground := Ground.data }, { on := 10, ground := Ground.data }, { on := 8, ground := Ground.chain }, { on := 0, ground := Ground.phase }, { on := 1, ground := Ground.phase }, { on := 2, ground := Ground.phase }, { on := 3, ground := Ground.phase }, { on := 4, ground := Ground.phase }, { on := 5, ground := Ground.phase }, { on := 6, ground := Ground.phase }, { on := 7, ground := Ground.phase }, { on := 8, ground := Ground.phase }, { on := 9, ground := Ground.phase }, { on := 10, ground := Ground.phase }, { on := 11, ground := Ground.textOnly Departure.lateStores }, { on := 12, ground := Ground.phase }], guard := none } : Oper)) rfl (fun K hK => ?_) AllReadyH.nil
        rw [if_pos (by rfl)]
        have hz120 := st_box (T := 30) (cs := Z) (g := g101) HQ116.out (by simp)
        refine op_skip (pick_store (x := Operand.tmp 12) (y := Operand.tmp 48) rfl g101 (Ev27 (ev0 0) F2 F7 F8 f8c) rfl rfl 30 Z hz120 (ev27_size _ _ _ _ _) (by rw [sz]; rfl) (ev27_one _ _ _ _ _)) ?_
        have hq120 := st_setRow (Ev27 (ev0 0) F2 F7 F8 f8c) HQ116.out 1 rfl
        refine hK.out _ _ hq120.2 (fun hHeld => ?_)
        clear hK
        (try simp only [Act.put, List.setIfInBounds_toArray, List.set_cons_zero, List.set_cons_succ])
        generalize u116.setRow g101 (Ev27 (ev0 0) F2 F7 F8 f8c) = u120 at *
        have HQ120 : Aside0 (St wc [byA (.slice A114 (([] ++ p) ++ [m]).length c114) (([] ++ p) ++ [m]), boxA 30 g101 (Ev27 (ev0 0) F2 F7 F8 f8c), byA (.slice (some ⟨g112, 0, none⟩) 1 1) [m]] u120) := ⟨hq120⟩
        clear hq120 hz120
        refine wpAnyH_take (i := 14) (oi := ({ dst := some 13, op := Op.assign (Operand.tmp 49), type := 33, pos := "law.go:80", after := #[{ on := 11, ground := Ground.data }, { on := 13, ground := Ground.chain }, { on := 0, ground := Ground.phase }, { on := 1, ground := Ground.phase }, { on := 2, ground := Ground.phase }, { on := 3, ground := Ground.phase }, { on := 4, ground := Ground.phase }, { on := 5, ground := Ground.phase }, { on := 6, ground := Ground.phase }, { on := 7, ground := Ground.phase }, { on := 8, ground := Ground.phase }, { on := 9, ground := Ground.phase }, { on := 10, ground := Ground.phase }, { on := 11, ground := Ground.phase }, { on := 12, ground := Ground.phase }, { on := 13, ground := Ground.phase }], guard := none } : Oper)) (v := ?_) rfl (by kernel_rfl) (by kernel_rfl) (by kernel_rfl) (fun _ _ _ h => h) (Or.inl ⟨by rfl, ?hyU121⟩) (by assumption) ?rsU121
        case hyU121 => (intro w8' hSw; (try dsimp only at hSw); go_simp; (first | done | with_reducible rfl))
        (try simp only [Act.put, List.setIfInBounds_toArray, List.set_cons_zero, List.set_cons_succ])
        refine wpAnyH_done (by kernel_rfl) ?_ _
        refine NoPanic.normal ?_
        go_wp2_with fail
        go_meet
        exact ⟨g101, F2, F7, F8, f8c, rfl, rfl, BC.out.trans (HQ120.out.2.mono BC.out.size), ⟨st_box (T := 30) (cs := Ev27 (ev0 0) F2 F7 F8 f8c) HQ120.out (by simp)⟩, ⟨hd_later hYc.out HQ120.out.2⟩⟩
      refine AllReadyH.cons (o := ({ dst := some 45, op := Op.buildSlice 28 1 #[(0, Operand.tmp 44)], type := 28, pos := "law.go:80", after := #[{ on := 5, ground := Ground.data }], guard := none } : Oper)) rfl (fun K hK => ?_) ?_
      · rw [if_pos (by rfl)]
        go_simp
        have hq122 := HQ0.out.push (below_alloc (Below.refl _ _) (.cells #[.int .u8 m] 5)) (newB w0 [m] (by simp))
        refine hK.out _ _ hq122.2 (fun hHeld => ?_)
        clear hK
        (try simp only [Act.put, List.setIfInBounds_toArray, List.set_cons_zero, List.set_cons_succ])
        generalize w0.alloc (.cells #[.int .u8 m] 5) = u122 at *
        generalize w0.heap.size = g122 at *
        have HQ122 : Aside0 (St wc [byA (.slice (some ⟨g122, 0, none⟩) 1 1) [m]] u122) := ⟨hq122⟩
        clear hq122
        refine wpAnyH_ready (rs := [2, 12]) (by kernel_rfl) (by simp) ?_
        refine AllReadyH.cons (o := ({ dst := some 41, op := Op.buildSlice 28 0 #[], type := 28, pos := "law.go:80", after := #[], guard := none } : Oper)) rfl (fun K hK => ?_) ?_
        · rw [if_pos (by rfl)]
          go_simp
          have hq123 := HQ122.out.push (below_alloc (Below.refl _ _) (.cells #[] 5)) (newB u122 [] (by decide))
          refine hK.out _ _ hq123.2 (fun hHeld => ?_)
          clear hK
          (try simp only [Act.put, List.setIfInBounds_toArray, List.set_cons_zero, List.set_cons_succ])
          generalize u122.alloc (.cells #[] 5) = u123 at *
          generalize u122.heap.size = g123 at *
          have HQ123 : Aside0 (St wc [byA (.slice (some ⟨g122, 0, none⟩) 1 1) [m], byA (.slice (some ⟨g123, 0, none⟩) 0 0) []] u123) := ⟨hq123⟩
          clear hq123
          refine wpAnyH_ready (rs := [4, 12]) (by kernel_rfl) (by simp) ?_
          refine AllReadyH.cons (o := ({ dst := some 43, op := Op.call { callee := Callee.builtin Builtin.append, args := #[Operand.tmp 41, Operand.tmp 42], argTypes := #[28, 28] }, type := 28, pos := "law.go:80", after := #[{ on := 2, ground := Ground.data }, { on := 3, ground := Ground.data }], guard := none } : Oper)) rfl (fun K hK => ?_) ?_
          · rw [if_pos (by rfl)]
            obtain ⟨A124, c124, u124, hr124, hq124⟩ := st_app HQ123.out 1 rfl (c := cp) rfl (reads_of_C (Kd.C_below hDc.out HQ123.out.2)) (by simp only [List.length_nil]; omega)
            refine op_val (run_app (s := Operand.tmp 41) (x := Operand.tmp 42) rfl rfl rfl hr124) ?_
            refine hK.out _ _ hq124.2 (fun hHeld => ?_)
            clear hK
            (try simp only [Act.put, List.setIfInBounds_toArray, List.set_cons_zero, List.set_cons_succ])
            have HQ124 : Aside0 (St wc [byA (.slice (some ⟨g122, 0, none⟩) 1 1) [m], byA (.slice A124 ([] ++ p).length c124) ([] ++ p)] u124) := ⟨hq124⟩
            clear hq124 hr124
            refine wpAnyH_ready (rs := [7, 12]) (by kernel_rfl) (by simp) ?_
            refine AllReadyH.cons (o := ({ dst := some 46, op := Op.call { callee := Callee.builtin Builtin.append, args := #[Operand.tmp 43, Operand.tmp 45], argTypes := #[28, 28] }, type := 28, pos := "law.go:80", after := #[{ on := 4, ground := Ground.data }, { on := 6, ground := Ground.data }, { on := 4, ground := Ground.chain }], guard := none } : Oper)) rfl (fun K hK => ?_) ?_
            · rw [if_pos (by rfl)]
              obtain ⟨AM125, cM125, eM125, _, hrM125, _⟩ := HQ124.out.bytes 0 (v := .slice (some ⟨g122, 0, none⟩) 1 1) (xs := [m]) rfl
              obtain ⟨rfl, rfl⟩ : AM125 = some ⟨g122, 0, none⟩ ∧ cM125 = 1 := by injection eM125 with q1 _ q3; exact ⟨q1.symm, q3.symm⟩
              obtain ⟨A125, c125, u125, hr125, hq125⟩ := st_app HQ124.out 1 rfl (c := 1) rfl hrM125 (by simp only [List.length_append, List.length_nil, List.length_cons]; omega)
              refine op_val (run_app (s := Operand.tmp 43) (x := Operand.tmp 45) rfl rfl rfl hr125) ?_
              refine hK.out _ _ hq125.2 (fun hHeld => ?_)
              clear hK
              (try simp only [Act.put, List.setIfInBounds_toArray, List.set_cons_zero, List.set_cons_succ])
              have HQ125 : Aside0 (St wc [byA (.slice (some ⟨g122, 0, none⟩) 1 1) [m], byA (.slice A125 (([] ++ p) ++ [m]).length c125) (([] ++ p) ++ [m])] u125) := ⟨hq125⟩
              clear hq125 hr125
              refine wpAnyH_ready (rs := [8, 12]) (by kernel_rfl) (by simp) ?_
              refine AllReadyH.cons (o := ({ dst := some 47, op := Op.call { callee := Callee.value (Operand.func 11), args := #[Operand.tmp 40, Operand.tmp 46], argTypes := #[3, 28] }, type := 34, pos := "law.go:80", after := #[{ on := 1, ground := Ground.data }, { on := 7, ground := Ground.data }, { on := 7, ground := Ground.chain }], guard := none } : Oper)) rfl (fun K hK => ?_) ?_
              · rw [if_pos (by rfl)]
                have hrd126 : ReadsInt u125 .u8 A125 (([] ++ p) ++ [m]).length (([] ++ p) ++ [m]) := by
                  obtain ⟨A0, c0, e0, _, hr0, _⟩ := HQ125.out.bytes 1 (v := .slice A125 (([] ++ p) ++ [m]).length c125) (xs := (([] ++ p) ++ [m])) rfl
                  injection e0 with q1 _ q3
                  rw [q1]
                  exact hr0
                have hln126 : p.length + 1 = (([] ++ p) ++ [m]).length := by simp
                have hCd126 : Kd.C (Kd.int .u8) u125 A125 (p.length + 1) (([] ++ p) ++ [m]) := by
                  have hx := C_of_ints hrd126
                  rw [← hln126] at hx
                  exact hx
                have hcall := get_sl e.k (([] ++ p) ++ [m]) (p.length + 1) u125 A125 c125 hln126 hCd126 (byt_app HBP.out (fun x hx => by rw [List.mem_singleton] at hx; subst hx; exact hm)) (by simp only [List.length_append, List.length_nil, List.length_cons]; omega) (ev0 0) 12 (by have := get_more m HRT.out HX.out HG.out; rw [HP.out] at this; exact this)
                have HCALL := Aside0.mk hcall
                clear hcall hrd126 hCd126 hln126
                go_simp
                refine (HCALL.out).mono ?_
                rintro q u127 ⟨F2, F7, F8, f8c, rfl, _, hb127⟩
                have hq127 := HQ125.out.below hb127
                have HQ127 := Aside0.mk hq127
                go_simp
                refine hK.out _ _ hq127.2 (fun hHeld => ?_)
                clear hK
                (try simp only [Act.put, List.setIfInBounds_toArray, List.set_cons_zero, List.set_cons_succ])
                clear hq127 hb127
                clear HCALL
                refine wpAnyH_take (i := 9) (oi := ({ dst := some 38, op := Op.move (Operand.tmp 47), type := 34, pos := "law.go:80", after := #[{ on := 8, ground := Ground.data }], guard := none } : Oper)) (v := ?_) rfl (by kernel_rfl) (by kernel_rfl) (by kernel_rfl) (fun _ _ _ h => h) (Or.inl ⟨by rfl, ?hyU128⟩) (by assumption) ?rsU128
                case hyU128 => (intro w8' hSw; (try dsimp only at hSw); go_simp; (first | done | with_reducible rfl))
                (try simp only [Act.put, List.setIfInBounds_toArray, List.set_cons_zero, List.set_cons_succ])
                refine wpAnyH_take (i := 10) (oi := ({ dst := some 48, op := Op.extract (Operand.tmp 38) 0, type := 30, pos := "law.go:80", after := #[{ on := 9, ground := Ground.data }], guard := none } : Oper)) (v := ?_) rfl (by kernel_rfl) (by kernel_rfl) (by kernel_rfl) (fun _ _ _ h => h) (Or.inl ⟨by rfl, ?hyU129⟩) (by assumption) ?rsU129
                case hyU129 => (intro w8' hSw; (try dsimp only at hSw); go_simp; (first | done | with_reducible rfl))
                (try simp only [Act.put, List.setIfInBounds_toArray, List.set_cons_zero, List.set_cons_succ])
                refine wpAnyH_take (i := 11) (oi := ({ dst := some 49, op := Op.extract (Operand.tmp 38) 1, type := 33, pos := "law.go:80", after := #[{ on := 9, ground := Ground.data }, { on := 13, ground := Ground.gcOnly Departure.lateStores }], guard := none } : Oper)) (v := ?_) rfl (by kernel_rfl) (by kernel_rfl) (by kernel_rfl) (fun _ _ _ h => h) (Or.inl ⟨by rfl, ?hyU130⟩) (by assumption) ?rsU130
                case hyU130 => (intro w8' hSw; (try dsimp only at hSw); go_simp; (first | done | with_reducible rfl))
                (try simp only [Act.put, List.setIfInBounds_toArray, List.set_cons_zero, List.set_cons_succ])
                refine wpAnyH_ready (rs := [12]) (by kernel_rfl) (by simp) ?_
                refine AllReadyH.cons (o := ({ dst := some 12, op := Op.alloc 30, type := 0, pos := "law.go:80", after := #[], guard := none } : Oper)) rfl (fun K hK => ?_) AllReadyH.nil
                rw [if_pos (by rfl)]
                go_simp
                have hq131 := HQ127.out.push (below_alloc (Below.refl _ _) (.cells Z 30)) (boxA_new u127 30 Z)
                refine hK.out _ _ hq131.2 (fun hHeld => ?_)
                clear hK
                (try simp only [Act.put, List.setIfInBounds_toArray, List.set_cons_zero, List.set_cons_succ])
                generalize u127.alloc (.cells Z 30) = u131 at *
                generalize u127.heap.size = g131 at *
                have HQ131 : Aside0 (St wc [byA (.slice (some ⟨g122, 0, none⟩) 1 1) [m], byA (.slice A125 (([] ++ p) ++ [m]).length c125) (([] ++ p) ++ [m]), boxA 30 g131 Z] u131) := ⟨hq131⟩
                clear hq131
                refine wpAnyH_ready (rs := [13]) (by kernel_rfl) (by simp) ?_
                refine AllReadyH.cons (o := ({ dst := none, op := Op.store 30 (Operand.tmp 12) (Operand.tmp 48), type := 0, pos := "law.go:80", after := #[{ on := 12, ground := Ground.data }, { on := 10, ground := Ground.data }, { on := 8, ground := Ground.chain }, { on := 0, ground := Ground.phase }, { on := 1, ground := Ground.phase }, { on := 2, ground := Ground.phase }, { on := 3, ground := Ground.phase }, { on := 4, ground := Ground.phase }, { on := 5, ground := Ground.phase }, { on := 6, ground := Ground.phase }, { on := 7, ground := Ground.phase }, { on := 8, ground := Ground.phase }, { on := 9, ground := Ground.phase }, { on := 10, ground := Ground.phase }, { on := 11, ground := Ground.textOnly Departure.lateStores }, { on := 12, ground := Ground.phase }], guard := none } : Oper)) rfl (fun K hK => ?_) AllReadyH.nil
                rw [if_pos (by rfl)]
                have hz132 := st_box (T := 30) (cs := Z) (g := g131) HQ131.out (by simp)
                refine op_skip (pick_store (x := Operand.tmp 12) (y := Operand.tmp 48) rfl g131 (Ev27 (ev0 0) F2 F7 F8 f8c) rfl rfl 30 Z hz132 (ev27_size _ _ _ _ _) (by rw [sz]; rfl) (ev27_one _ _ _ _ _)) ?_
                have hq132 := st_setRow (Ev27 (ev0 0) F2 F7 F8 f8c) HQ131.out 2 rfl
                refine hK.out _ _ hq132.2 (fun hHeld => ?_)
                clear hK
                (try simp only [Act.put, List.setIfInBounds_toArray, List.set_cons_zero, List.set_cons_succ])
                generalize u131.setRow g131 (Ev27 (ev0 0) F2 F7 F8 f8c) = u132 at *
                have HQ132 : Aside0 (St wc [byA (.slice (some ⟨g122, 0, none⟩) 1 1) [m], byA (.slice A125 (([] ++ p) ++ [m]).length c125) (([] ++ p) ++ [m]), boxA 30 g131 (Ev27 (ev0 0) F2 F7 F8 f8c)] u132) := ⟨hq132⟩
                clear hq132 hz132
                refine wpAnyH_take (i := 14) (oi := ({ dst := some 13, op := Op.assign (Operand.tmp 49), type := 33, pos := "law.go:80", after := #[{ on := 11, ground := Ground.data }, { on := 13, ground := Ground.chain }, { on := 0, ground := Ground.phase }, { on := 1, ground := Ground.phase }, { on := 2, ground := Ground.phase }, { on := 3, ground := Ground.phase }, { on := 4, ground := Ground.phase }, { on := 5, ground := Ground.phase }, { on := 6, ground := Ground.phase }, { on := 7, ground := Ground.phase }, { on := 8, ground := Ground.phase }, { on := 9, ground := Ground.phase }, { on := 10, ground := Ground.phase }, { on := 11, ground := Ground.phase }, { on := 12, ground := Ground.phase }, { on := 13, ground := Ground.phase }], guard := none } : Oper)) (v := ?_) rfl (by kernel_rfl) (by kernel_rfl) (by kernel_rfl) (fun _ _ _ h => h) (Or.inl ⟨by rfl, ?hyU133⟩) (by assumption) ?rsU133
                case hyU133 => (intro w8' hSw; (try dsimp only at hSw); go_simp; (first | done | with_reducible rfl))
                (try simp only [Act.put, List.setIfInBounds_toArray, List.set_cons_zero, List.set_cons_succ])
                refine wpAnyH_done (by kernel_rfl) ?_ _
                refine NoPanic.normal ?_
                go_wp2_with fail
                go_meet
                exact ⟨g131, F2, F7, F8, f8c, rfl, rfl, BC.out.trans (HQ132.out.2.mono BC.out.size), ⟨st_box (T := 30) (cs := Ev27 (ev0 0) F2 F7 F8 f8c) HQ132.out (by simp)⟩, ⟨hd_later hYc.out HQ132.out.2⟩⟩
              refine AllReadyH.cons (o := ({ dst := some 12, op := Op.alloc 30, type := 0, pos := "law.go:80", after := #[], guard := none } : Oper)) rfl (fun K hK => ?_) AllReadyH.nil
              rw [if_pos (by rfl)]
              go_simp
              have hq134 := HQ125.out.push (below_alloc (Below.refl _ _) (.cells Z 30)) (boxA_new u125 30 Z)
              refine hK.out _ _ hq134.2 (fun hHeld => ?_)
              clear hK
              (try simp only [Act.put, List.setIfInBounds_toArray, List.set_cons_zero, List.set_cons_succ])
              generalize u125.alloc (.cells Z 30) = u134 at *
              generalize u125.heap.size = g134 at *
              have HQ134 : Aside0 (St wc [byA (.slice (some ⟨g122, 0, none⟩) 1 1) [m], byA (.slice A125 (([] ++ p) ++ [m]).length c125) (([] ++ p) ++ [m]), boxA 30 g134 Z] u134) := ⟨hq134⟩
              clear hq134
              refine wpAnyH_ready (rs := [8]) (by kernel_rfl) (by simp) ?_
              refine AllReadyH.cons (o := ({ dst := some 47, op := Op.call { callee := Callee.value (Operand.func 11), args := #[Operand.tmp 40, Operand.tmp 46], argTypes := #[3, 28] }, type := 34, pos := "law.go:80", after := #[{ on := 1, ground := Ground.data }, { on := 7, ground := Ground.data }, { on := 7, ground := Ground.chain }], guard := none } : Oper)) rfl (fun K hK => ?_) AllReadyH.nil
              rw [if_pos (by rfl)]
              have hrd135 : ReadsInt u134 .u8 A125 (([] ++ p) ++ [m]).length (([] ++ p) ++ [m]) := by
                obtain ⟨A0, c0, e0, _, hr0, _⟩ := HQ134.out.bytes 1 (v := .slice A125 (([] ++ p) ++ [m]).length c125) (xs := (([] ++ p) ++ [m])) rfl
                injection e0 with q1 _ q3
                rw [q1]
                exact hr0
              have hln135 : p.length + 1 = (([] ++ p) ++ [m]).length := by simp
              have hCd135 : Kd.C (Kd.int .u8) u134 A125 (p.length + 1) (([] ++ p) ++ [m]) := by
                have hx := C_of_ints hrd135
                rw [← hln135] at hx
                exact hx
              have hcall := get_sl e.k (([] ++ p) ++ [m]) (p.length + 1) u134 A125 c125 hln135 hCd135 (byt_app HBP.out (fun x hx => by rw [List.mem_singleton] at hx; subst hx; exact hm)) (by simp only [List.length_append, List.length_nil, List.length_cons]; omega) (ev0 0) 12 (by have := get_more m HRT.out HX.out HG.out; rw [HP.out] at this; exact this)
              have HCALL := Aside0.mk hcall
              clear hcall hrd135 hCd135 hln135
              go_simp
              refine (HCALL.out).mono ?_
              rintro q u136 ⟨F2, F7, F8, f8c, rfl, _, hb136⟩
              have hq136 := HQ134.out.below hb136
              have HQ136 := Aside0.mk hq136
              go_simp
              refine hK.out _ _ hq136.2 (fun hHeld => ?_)
              clear hK
              (try simp only [Act.put, List.setIfInBounds_toArray, List.set_cons_zero, List.set_cons_succ])
              clear hq136 hb136
              clear HCALL
              refine wpAnyH_take (i := 9) (oi := ({ dst := some 38, op := Op.move (Operand.tmp 47), type := 34, pos := "law.go:80", after := #[{ on := 8, ground := Ground.data }], guard := none } : Oper)) (v := ?_) rfl (by kernel_rfl) (by kernel_rfl) (by kernel_rfl) (fun _ _ _ h => h) (Or.inl ⟨by rfl, ?hyU137⟩) (by assumption) ?rsU137
              case hyU137 => (intro w8' hSw; (try dsimp only at hSw); go_simp; (first | done | with_reducible rfl))
              (try simp only [Act.put, List.setIfInBounds_toArray, List.set_cons_zero, List.set_cons_succ])
              refine wpAnyH_take (i := 10) (oi := ({ dst := some 48, op := Op.extract (Operand.tmp 38) 0, type := 30, pos := "law.go:80", after := #[{ on := 9, ground := Ground.data }], guard := none } : Oper)) (v := ?_) rfl (by kernel_rfl) (by kernel_rfl) (by kernel_rfl) (fun _ _ _ h => h) (Or.inl ⟨by rfl, ?hyU138⟩) (by assumption) ?rsU138
              case hyU138 => (intro w8' hSw; (try dsimp only at hSw); go_simp; (first | done | with_reducible rfl))
              (try simp only [Act.put, List.setIfInBounds_toArray, List.set_cons_zero, List.set_cons_succ])
              refine wpAnyH_take (i := 11) (oi := ({ dst := some 49, op := Op.extract (Operand.tmp 38) 1, type := 33, pos := "law.go:80", after := #[{ on := 9, ground := Ground.data }, { on := 13, ground := Ground.gcOnly Departure.lateStores }], guard := none } : Oper)) (v := ?_) rfl (by kernel_rfl) (by kernel_rfl) (by kernel_rfl) (fun _ _ _ h => h) (Or.inl ⟨by rfl, ?hyU139⟩) (by assumption) ?rsU139
              case hyU139 => (intro w8' hSw; (try dsimp only at hSw); go_simp; (first | done | with_reducible rfl))
              (try simp only [Act.put, List.setIfInBounds_toArray, List.set_cons_zero, List.set_cons_succ])
              refine wpAnyH_ready (rs := [13]) (by kernel_rfl) (by simp) ?_
              refine AllReadyH.cons (o := ({ dst := none, op := Op.store 30 (Operand.tmp 12) (Operand.tmp 48), type := 0, pos := "law.go:80", after := #[{ on := 12, ground := Ground.data }, { on := 10, ground := Ground.data }, { on := 8, ground := Ground.chain }, { on := 0, ground := Ground.phase }, { on := 1, ground := Ground.phase }, { on := 2, ground := Ground.phase }, { on := 3, ground := Ground.phase }, { on := 4, ground := Ground.phase }, { on := 5, ground := Ground.phase }, { on := 6, ground := Ground.phase }, { on := 7, ground := Ground.phase }, { on := 8, ground := Ground.phase }, { on := 9, ground := Ground.phase }, { on := 10, ground := Ground.phase }, { on := 11, ground := Ground.textOnly Departure.lateStores }, { on := 12, ground := Ground.phase }], guard := none } : Oper)) rfl (fun K hK => ?_) AllReadyH.nil
              rw [if_pos (by rfl)]
              have hz140 := st_box (T := 30) (cs := Z) (g := g134) HQ136.out (by simp)
              refine op_skip (pick_store (x := Operand.tmp 12) (y := Operand.tmp 48) rfl g134 (Ev27 (ev0 0) F2 F7 F8 f8c) rfl rfl 30 Z hz140 (ev27_size _ _ _ _ _) (by rw [sz]; rfl) (ev27_one _ _ _ _ _)) ?_
              have hq140 := st_setRow (Ev27 (ev0 0) F2 F7 F8 f8c) HQ136.out 2 rfl
              refine hK.out _ _ hq140.2 (fun hHeld => ?_)
              clear hK
              (try simp only [Act.put, List.setIfInBounds_toArray, List.set_cons_zero, List.set_cons_succ])
              generalize u136.setRow g134 (Ev27 (ev0 0) F2 F7 F8 f8c) = u140 at *
              have HQ140 : Aside0 (St wc [byA (.slice (some ⟨g122, 0, none⟩) 1 1) [m], byA (.slice A125 (([] ++ p) ++ [m]).length c125) (([] ++ p) ++ [m]), boxA 30 g134 (Ev27 (ev0 0) F2 F7 F8 f8c)] u140) := ⟨hq140⟩
              clear hq140 hz140
              refine wpAnyH_take (i := 14) (oi := ({ dst := some 13, op := Op.assign (Operand.tmp 49), type := 33, pos := "law.go:80", after := #[{ on := 11, ground := Ground.data }, { on := 13, ground := Ground.chain }, { on := 0, ground := Ground.phase }, { on := 1, ground := Ground.phase }, { on := 2, ground := Ground.phase }, { on := 3, ground := Ground.phase }, { on := 4, ground := Ground.phase }, { on := 5, ground := Ground.phase }, { on := 6, ground := Ground.phase }, { on := 7, ground := Ground.phase }, { on := 8, ground := Ground.phase }, { on := 9, ground := Ground.phase }, { on := 10, ground := Ground.phase }, { on := 11, ground := Ground.phase }, { on := 12, ground := Ground.phase }, { on := 13, ground := Ground.phase }], guard := none } : Oper)) (v := ?_) rfl (by kernel_rfl) (by kernel_rfl) (by kernel_rfl) (fun _ _ _ h => h) (Or.inl ⟨by rfl, ?hyU141⟩) (by assumption) ?rsU141
              case hyU141 => (intro w8' hSw; (try dsimp only at hSw); go_simp; (first | done | with_reducible rfl))
              (try simp only [Act.put, List.setIfInBounds_toArray, List.set_cons_zero, List.set_cons_succ])
              refine wpAnyH_done (by kernel_rfl) ?_ _
              refine NoPanic.normal ?_
              go_wp2_with fail
              go_meet
              exact ⟨g134, F2, F7, F8, f8c, rfl, rfl, BC.out.trans (HQ140.out.2.mono BC.out.size), ⟨st_box (T := 30) (cs := Ev27 (ev0 0) F2 F7 F8 f8c) HQ140.out (by simp)⟩, ⟨hd_later hYc.out HQ140.out.2⟩⟩
            refine AllReadyH.cons (o := ({ dst := some 12, op := Op.alloc 30, type := 0, pos := "law.go:80", after := #[], guard := none } : Oper)) rfl (fun K hK => ?_) AllReadyH.nil
            rw [if_pos (by rfl)]
            go_simp
            have hq142 := HQ124.out.push (below_alloc (Below.refl _ _) (.cells Z 30)) (boxA_new u124 30 Z)
            refine hK.out _ _ hq142.2 (fun hHeld => ?_)
            clear hK
            (try simp only [Act.put, List.setIfInBounds_toArray, List.set_cons_zero, List.set_cons_succ])
            generalize u124.alloc (.cells Z 30) = u142 at *
            generalize u124.heap.size = g142 at *
            have HQ142 : Aside0 (St wc [byA (.slice (some ⟨g122, 0, none⟩) 1 1) [m], byA (.slice A124 ([] ++ p).length c124) ([] ++ p), boxA 30 g142 Z] u142) := ⟨hq142⟩
            clear hq142
            refine wpAnyH_ready (rs := [7]) (by kernel_rfl) (by simp) ?_
            refine AllReadyH.cons (o := ({ dst := some 46, op := Op.call { callee := Callee.builtin Builtin.append, args := #[Operand.tmp 43, Operand.tmp 45], argTypes := #[28, 28] }, type := 28, pos := "law.go:80", after := #[{ on := 4, ground := Ground.data }, { on := 6, ground := Ground.data }, { on := 4, ground := Ground.chain }], guard := none } : Oper)) rfl (fun K hK => ?_) AllReadyH.nil
            rw [if_pos (by rfl)]
            obtain ⟨AM143, cM143, eM143, _, hrM143, _⟩ := HQ142.out.bytes 0 (v := .slice (some ⟨g122, 0, none⟩) 1 1) (xs := [m]) rfl
            obtain ⟨rfl, rfl⟩ : AM143 = some ⟨g122, 0, none⟩ ∧ cM143 = 1 := by injection eM143 with q1 _ q3; exact ⟨q1.symm, q3.symm⟩
            obtain ⟨A143, c143, u143, hr143, hq143⟩ := st_app HQ142.out 1 rfl (c := 1) rfl hrM143 (by simp only [List.length_append, List.length_nil, List.length_cons]; omega)
            refine op_val (run_app (s := Operand.tmp 43) (x := Operand.tmp 45) rfl rfl rfl hr143) ?_
            refine hK.out _ _ hq143.2 (fun hHeld => ?_)
            clear hK
            (try simp only [Act.put, List.setIfInBounds_toArray, List.set_cons_zero, List.set_cons_succ])
            have HQ143 : Aside0 (St wc [byA (.slice (some ⟨g122, 0, none⟩) 1 1) [m], byA (.slice A143 (([] ++ p) ++ [m]).length c143) (([] ++ p) ++ [m]), boxA 30 g142 Z] u143) := ⟨hq143⟩
            clear hq143 hr143
            refine wpAnyH_ready (rs := [8]) (by kernel_rfl) (by simp) ?_
            refine AllReadyH.cons (o := ({ dst := some 47, op := Op.call { callee := Callee.value (Operand.func 11), args := #[Operand.tmp 40, Operand.tmp 46], argTypes := #[3, 28] }, type := 34, pos := "law.go:80", after := #[{ on := 1, ground := Ground.data }, { on := 7, ground := Ground.data }, { on := 7, ground := Ground.chain }], guard := none } : Oper)) rfl (fun K hK => ?_) AllReadyH.nil
            rw [if_pos (by rfl)]
            have hrd144 : ReadsInt u143 .u8 A143 (([] ++ p) ++ [m]).length (([] ++ p) ++ [m]) := by
              obtain ⟨A0, c0, e0, _, hr0, _⟩ := HQ143.out.bytes 1 (v := .slice A143 (([] ++ p) ++ [m]).length c143) (xs := (([] ++ p) ++ [m])) rfl
              injection e0 with q1 _ q3
              rw [q1]
              exact hr0
            have hln144 : p.length + 1 = (([] ++ p) ++ [m]).length := by simp
            have hCd144 : Kd.C (Kd.int .u8) u143 A143 (p.length + 1) (([] ++ p) ++ [m]) := by
              have hx := C_of_ints hrd144
              rw [← hln144] at hx
              exact hx
            have hcall := get_sl e.k (([] ++ p) ++ [m]) (p.length + 1) u143 A143 c143 hln144 hCd144 (byt_app HBP.out (fun x hx => by rw [List.mem_singleton] at hx; subst hx; exact hm)) (by simp only [List.length_append, List.length_nil, List.length_cons]; omega) (ev0 0) 12 (by have := get_more m HRT.out HX.out HG.out; rw [HP.out] at this; exact this)
            have HCALL := Aside0.mk hcall
            clear hcall hrd144 hCd144 hln144
            go_simp
            refine (HCALL.out).mono ?_
            rintro q u145 ⟨F2, F7, F8, f8c, rfl, _, hb145⟩
            have hq145 := HQ143.out.below hb145
            have HQ145 := Aside0.mk hq145
            go_simp
            refine hK.out _ _ hq145.2 (fun hHeld => ?_)
            clear hK
            (try simp only [Act.put, List.setIfInBounds_toArray, List.set_cons_zero, List.set_cons_succ])
            clear hq145 hb145
            clear HCALL
            refine wpAnyH_take (i := 9) (oi := ({ dst := some 38, op := Op.move (Operand.tmp 47), type := 34, pos := "law.go:80", after := #[{ on := 8, ground := Ground.data }], guard := none } : Oper)) (v := ?_) rfl (by kernel_rfl) (by kernel_rfl) (by kernel_rfl) (fun _ _ _ h => h) (Or.inl ⟨by rfl, ?hyU146⟩) (by assumption) ?rsU146
            case hyU146 => (intro w8' hSw; (try dsimp only at hSw); go_simp; (first | done | with_reducible rfl))
            (try simp only [Act.put, List.setIfInBounds_toArray, List.set_cons_zero, List.set_cons_succ])
            refine wpAnyH_take (i := 10) (oi := ({ dst := some 48, op := Op.extract (Operand.tmp 38) 0, type := 30, pos := "law.go:80", after := #[{ on := 9, ground := Ground.data }], guard := none } : Oper)) (v := ?_) rfl (by kernel_rfl) (by kernel_rfl) (by kernel_rfl) (fun _ _ _ h => h) (Or.inl ⟨by rfl, ?hyU147⟩) (by assumption) ?rsU147
            case hyU147 => (intro w8' hSw; (try dsimp only at hSw); go_simp; (first | done | with_reducible rfl))
            (try simp only [Act.put, List.setIfInBounds_toArray, List.set_cons_zero, List.set_cons_succ])
            refine wpAnyH_take (i := 11) (oi := ({ dst := some 49, op := Op.extract (Operand.tmp 38) 1, type := 33, pos := "law.go:80", after := #[{ on := 9, ground := Ground.data }, { on := 13, ground := Ground.gcOnly Departure.lateStores }], guard := none } : Oper)) (v := ?_) rfl (by kernel_rfl) (by kernel_rfl) (by kernel_rfl) (fun _ _ _ h => h) (Or.inl ⟨by rfl, ?hyU148⟩) (by assumption) ?rsU148
            case hyU148 => (intro w8' hSw; (try dsimp only at hSw); go_simp; (first | done | with_reducible rfl))
            (try simp only [Act.put, List.setIfInBounds_toArray, List.set_cons_zero, List.set_cons_succ])
            refine wpAnyH_ready (rs := [13]) (by kernel_rfl) (by simp) ?_
            refine AllReadyH.cons (o := ({ dst := none, op := Op.store 30 (Operand.tmp 12) (Operand.tmp 48), type := 0, pos := "law.go:80", after := #[{ on := 12, ground := Ground.data }, { on := 10, ground := Ground.data }, { on := 8, ground := Ground.chain }, { on := 0, ground := Ground.phase }, { on := 1, ground := Ground.phase }, { on := 2, ground := Ground.phase }, { on := 3, ground := Ground.phase }, { on := 4, ground := Ground.phase }, { on := 5, ground := Ground.phase }, { on := 6, ground := Ground.phase }, { on := 7, ground := Ground.phase }, { on := 8, ground := Ground.phase }, { on := 9, ground := Ground.phase }, { on := 10, ground := Ground.phase }, { on := 11, ground := Ground.textOnly Departure.lateStores }, { on := 12, ground := Ground.phase }], guard := none } : Oper)) rfl (fun K hK => ?_) AllReadyH.nil
            rw [if_pos (by rfl)]
            have hz149 := st_box (T := 30) (cs := Z) (g := g142) HQ145.out (by simp)
            refine op_skip (pick_store (x := Operand.tmp 12) (y := Operand.tmp 48) rfl g142 (Ev27 (ev0 0) F2 F7 F8 f8c) rfl rfl 30 Z hz149 (ev27_size _ _ _ _ _) (by rw [sz]; rfl) (ev27_one _ _ _ _ _)) ?_
            have hq149 := st_setRow (Ev27 (ev0 0) F2 F7 F8 f8c) HQ145.out 2 rfl
            refine hK.out _ _ hq149.2 (fun hHeld => ?_)
            clear hK
            (try simp only [Act.put, List.setIfInBounds_toArray, List.set_cons_zero, List.set_cons_succ])
            generalize u145.setRow g142 (Ev27 (ev0 0) F2 F7 F8 f8c) = u149 at *
            have HQ149 : Aside0 (St wc [byA (.slice (some ⟨g122, 0, none⟩) 1 1) [m], byA (.slice A143 (([] ++ p) ++ [m]).length c143) (([] ++ p) ++ [m]), boxA 30 g142 (Ev27 (ev0 0) F2 F7 F8 f8c)] u149) := ⟨hq149⟩
            clear hq149 hz149
            refine wpAnyH_take (i := 14) (oi := ({ dst := some 13, op := Op.assign (Operand.tmp 49), type := 33, pos := "law.go:80", after := #[{ on := 11, ground := Ground.data }, { on := 13, ground := Ground.chain }, { on := 0, ground := Ground.phase }, { on := 1, ground := Ground.phase }, { on := 2, ground := Ground.phase }, { on := 3, ground := Ground.phase }, { on := 4, ground := Ground.phase }, { on := 5, ground := Ground.phase }, { on := 6, ground := Ground.phase }, { on := 7, ground := Ground.phase }, { on := 8, ground := Ground.phase }, { on := 9, ground := Ground.phase }, { on := 10, ground := Ground.phase }, { on := 11, ground := Ground.phase }, { on := 12, ground := Ground.phase }, { on := 13, ground := Ground.phase }], guard := none } : Oper)) (v := ?_) rfl (by kernel_rfl) (by kernel_rfl) (by kernel_rfl) (fun _ _ _ h => h) (Or.inl ⟨by rfl, ?hyU150⟩) (by assumption) ?rsU150
            case hyU150 => (intro w8' hSw; (try dsimp only at hSw); go_simp; (first | done | with_reducible rfl))
            (try simp only [Act.put, List.setIfInBounds_toArray, List.set_cons_zero, List.set_cons_succ])
            refine wpAnyH_done (by kernel_rfl) ?_ _
            refine NoPanic.normal ?_
            go_wp2_with fail
            go_meet
            exact ⟨g142, F2, F7, F8, f8c, rfl, rfl, BC.out.trans (HQ149.out.2.mono BC.out.size), ⟨st_box (T := 30) (cs := Ev27 (ev0 0) F2 F7 F8 f8c) HQ149.out (by simp)⟩, ⟨hd_later hYc.out HQ149.out.2⟩⟩
          refine AllReadyH.cons (o := ({ dst := some 12, op := Op.alloc 30, type := 0, pos := "law.go:80", after := #[], guard := none } : Oper)) rfl (fun K hK => ?_) AllReadyH.nil
          rw [if_pos (by rfl)]
          go_simp
          have hq151 := HQ123.out.push (below_alloc (Below.refl _ _) (.cells Z 30)) (boxA_new u123 30 Z)
          refine hK.out _ _ hq151.2 (fun hHeld => ?_)
          clear hK
          (try simp only [Act.put, List.setIfInBounds_toArray, List.set_cons_zero, List.set_cons_succ])
          generalize u123.alloc (.cells Z 30) = u151 at *
          generalize u123.heap.size = g151 at *
          have HQ151 : Aside0 (St wc [byA (.slice (some ⟨g122, 0, none⟩) 1 1) [m], byA (.slice (some ⟨g123, 0, none⟩) 0 0) [], boxA 30 g151 Z] u151) := ⟨hq151⟩
          clear hq151
          refine wpAnyH_ready (rs := [4]) (by kernel_rfl) (by simp) ?_
          refine AllReadyH.cons (o := ({ dst := some 43, op := Op.call { callee := Callee.builtin Builtin.append, args := #[Operand.tmp 41, Operand.tmp 42], argTypes := #[28, 28] }, type := 28, pos := "law.go:80", after := #[{ on := 2, ground := Ground.data }, { on := 3, ground := Ground.data }], guard := none } : Oper)) rfl (fun K hK => ?_) AllReadyH.nil
          rw [if_pos (by rfl)]
          obtain ⟨A152, c152, u152, hr152, hq152⟩ := st_app HQ151.out 1 rfl (c := cp) rfl (reads_of_C (Kd.C_below hDc.out HQ151.out.2)) (by simp only [List.length_nil]; omega)
          refine op_val (run_app (s := Operand.tmp 41) (x := Operand.tmp 42) rfl rfl rfl hr152) ?_
          refine hK.out _ _ hq152.2 (fun hHeld => ?_)
          clear hK
          (try simp only [Act.put, List.setIfInBounds_toArray, List.set_cons_zero, List.set_cons_succ])
          have HQ152 : Aside0 (St wc [byA (.slice (some ⟨g122, 0, none⟩) 1 1) [m], byA (.slice A152 ([] ++ p).length c152) ([] ++ p), boxA 30 g151 Z] u152) := ⟨hq152⟩
          clear hq152 hr152
          refine wpAnyH_ready (rs := [7]) (by kernel_rfl) (by simp) ?_
          refine AllReadyH.cons (o := ({ dst := some 46, op := Op.call { callee := Callee.builtin Builtin.append, args := #[Operand.tmp 43, Operand.tmp 45], argTypes := #[28, 28] }, type := 28, pos := "law.go:80", after := #[{ on := 4, ground := Ground.data }, { on := 6, ground := Ground.data }, { on := 4, ground := Ground.chain }], guard := none } : Oper)) rfl (fun K hK => ?_) AllReadyH.nil
          rw [if_pos (by rfl)]
          obtain ⟨AM153, cM153, eM153, _, hrM153, _⟩ := HQ152.out.bytes 0 (v := .slice (some ⟨g122, 0, none⟩) 1 1) (xs := [m]) rfl
          obtain ⟨rfl, rfl⟩ : AM153 = some ⟨g122, 0, none⟩ ∧ cM153 = 1 := by injection eM153 with q1 _ q3; exact ⟨q1.symm, q3.symm⟩
          obtain ⟨A153, c153, u153, hr153, hq153⟩ := st_app HQ152.out 1 rfl (c := 1) rfl hrM153 (by simp only [List.length_append, List.length_nil, List.length_cons]; omega)
          refine op_val (run_app (s := Operand.tmp 43) (x := Operand.tmp 45) rfl rfl rfl hr153) ?_
          refine hK.out _ _ hq153.2 (fun hHeld => ?_)
          clear hK
          (try simp only [Act.put, List.setIfInBounds_toArray, List.set_cons_zero, List.set_cons_succ])
          have HQ153 : Aside0 (St wc [byA (.slice (some ⟨g122, 0, none⟩) 1 1) [m], byA (.slice A153 (([] ++ p) ++ [m]).length c153) (([] ++ p) ++ [m]), boxA 30 g151 Z] u153) := ⟨hq153⟩
          clear hq153 hr153
          refine wpAnyH_ready (rs := [8]) (by kernel_rfl) (by simp) ?_
          refine AllReadyH.cons (o := ({ dst := some 47, op := Op.call { callee := Callee.value (Operand.func 11), args := #[Operand.tmp 40, Operand.tmp 46], argTypes := #[3, 28] }, type := 34, pos := "law.go:80", after := #[{ on := 1, ground := Ground.data }, { on := 7, ground := Ground.data }, { on := 7, ground := Ground.chain }], guard := none } : Oper)) rfl (fun K hK => ?_) AllReadyH.nil
          rw [if_pos (by rfl)]
          have hrd154 : ReadsInt u153 .u8 A153 (([] ++ p) ++ [m]).length (([] ++ p) ++ [m]) := by
            obtain ⟨A0, c0, e0, _, hr0, _⟩ := HQ153.out.bytes 1 (v := .slice A153 (([] ++ p) ++ [m]).length c153) (xs := (([] ++ p) ++ [m])) rfl
            injection e0 with q1 _ q3
            rw [q1]
            exact hr0
          have hln154 : p.length + 1 = (([] ++ p) ++ [m]).length := by simp
          have hCd154 : Kd.C (Kd.int .u8) u153 A153 (p.length + 1) (([] ++ p) ++ [m]) := by
            have hx := C_of_ints hrd154
            rw [← hln154] at hx
            exact hx
          have hcall := get_sl e.k (([] ++ p) ++ [m]) (p.length + 1) u153 A153 c153 hln154 hCd154 (byt_app HBP.out (fun x hx => by rw [List.mem_singleton] at hx; subst hx; exact hm)) (by simp only [List.length_append, List.length_nil, List.length_cons]; omega) (ev0 0) 12 (by have := get_more m HRT.out HX.out HG.out; rw [HP.out] at this; exact this)
          have HCALL := Aside0.mk hcall
          clear hcall hrd154 hCd154 hln154
          go_simp
          refine (HCALL.out).mono ?_
          rintro q u155 ⟨F2, F7, F8, f8c, rfl, _, hb155⟩
          have hq155 := HQ153.out.below hb155
          have HQ155 := Aside0.mk hq155
          go_simp
          refine hK.out _ _ hq155.2 (fun hHeld => ?_)
          clear hK
          (try simp only [Act.put, List.setIfInBounds_toArray, List.set_cons_zero, List.set_cons_succ])
          clear hq155 hb155
          clear HCALL
          refine wpAnyH_take (i := 9) (oi := ({ dst := some 38, op := Op.move (Operand.tmp 47), type := 34, pos := "law.go:80", after := #[{ on := 8, ground := Ground.data }], guard := none } : Oper)) (v := ?_) rfl (by kernel_rfl) (by kernel_rfl) (by kernel_rfl) (fun _ _ _ h => h) (Or.inl ⟨by rfl, ?hyU156⟩) (by assumption) ?rsU156
          case hyU156 => (intro w8' hSw; (try dsimp only at hSw); go_simp; (first | done | with_reducible rfl))
          (try simp only [Act.put, List.setIfInBounds_toArray, List.set_cons_zero, List.set_cons_succ])
          refine wpAnyH_take (i := 10) (oi := ({ dst := some 48, op := Op.extract (Operand.tmp 38) 0, type := 30, pos := "law.go:80", after := #[{ on := 9, ground := Ground.data }], guard := none } : Oper)) (v := ?_) rfl (by kernel_rfl) (by kernel_rfl) (by kernel_rfl) (fun _ _ _ h => h) (Or.inl ⟨by rfl, ?hyU157⟩) (by assumption) ?rsU157
          case hyU157 => (intro w8' hSw; (try dsimp only at hSw); go_simp; (first | done | with_reducible rfl))
          (try simp only [Act.put, List.setIfInBounds_toArray, List.set_cons_zero, List.set_cons_succ])
          refine wpAnyH_take (i := 11) (oi := ({ dst := some 49, op := Op.extract (Operand.tmp 38) 1, type := 33, pos := "law.go:80", after := #[{ on := 9, ground := Ground.data }, { on := 13, ground := Ground.gcOnly Departure.lateStores }], guard := none } : Oper)) (v := ?_) rfl (by kernel_rfl) (by kernel_rfl) (by kernel_rfl) (fun _ _ _ h => h) (Or.inl ⟨by rfl, ?hyU158⟩) (by assumption) ?rsU158
          case hyU158 => (intro w8' hSw; (try dsimp only at hSw); go_simp; (first | done | with_reducible rfl))
          (try simp only [Act.put, List.setIfInBounds_toArray, List.set_cons_zero, List.set_cons_succ])
          refine wpAnyH_ready (rs := [13]) (by kernel_rfl) (by simp) ?_
          refine AllReadyH.cons (o := ({ dst := none, op := Op.store 30 (Operand.tmp 12) (Operand.tmp 48), type := 0, pos := "law.go:80", after := #[{ on := 12, ground := Ground.data }, { on := 10, ground := Ground.data }, { on := 8, ground := Ground.chain }, { on := 0, ground := Ground.phase }, { on := 1, ground := Ground.phase }, { on := 2, ground := Ground.phase }, { on := 3, ground := Ground.phase }, { on := 4, ground := Ground.phase }, { on := 5, ground := Ground.phase }, { on := 6, ground := Ground.phase }, { on := 7, ground := Ground.phase }, { on := 8, ground := Ground.phase }, { on := 9, ground := Ground.phase }, { on := 10, ground := Ground.phase }, { on := 11, ground := Ground.textOnly Departure.lateStores }, { on := 12, ground := Ground.phase }], guard := none } : Oper)) rfl (fun K hK => ?_) AllReadyH.nil
          rw [if_pos (by rfl)]
          have hz159 := st_box (T := 30) (cs := Z) (g := g151) HQ155.out (by simp)
          refine op_skip (pick_store (x := Operand.tmp 12) (y := Operand.tmp 48) rfl g151 (Ev27 (ev0 0) F2 F7 F8 f8c) rfl rfl 30 Z hz159 (ev27_size _ _ _ _ _) (by rw [sz]; rfl) (ev27_one _ _ _ _ _)) ?_
          have hq159 := st_setRow (Ev27 (ev0 0) F2 F7 F8 f8c) HQ155.out 2 rfl
          refine hK.out _ _ hq159.2 (fun hHeld => ?_)
          clear hK
          (try simp only [Act.put, List.setIfInBounds_toArray, List.set_cons_zero, List.set_cons_succ])
          generalize u155.setRow g151 (Ev27 (ev0 0) F2 F7 F8 f8c) = u159 at *
          have HQ159 : Aside0 (St wc [byA (.slice (some ⟨g122, 0, none⟩) 1 1) [m], byA (.slice A153 (([] ++ p) ++ [m]).length c153) (([] ++ p) ++ [m]), boxA 30 g151 (Ev27 (ev0 0) F2 F7 F8 f8c)] u159) := ⟨hq159⟩
          clear hq159 hz159
          refine wpAnyH_take (i := 14) (oi := ({ dst := some 13, op := Op.assign (Operand.tmp 49), type := 33, pos := "law.go:80", after := #[{ on := 11, ground := Ground.data }, { on := 13, ground := Ground.chain }, { on := 0, ground := Ground.phase }, { on := 1, ground := Ground.phase }, { on := 2, ground := Ground.phase }, { on := 3, ground := Ground.phase }, { on := 4, ground := Ground.phase }, { on := 5, ground := Ground.phase }, { on := 6, ground := Ground.phase }, { on := 7, ground := Ground.phase }, { on := 8, ground := Ground.phase }, { on := 9, ground := Ground.phase }, { on := 10, ground := Ground.phase }, { on := 11, ground := Ground.phase }, { on := 12, ground := Ground.phase }, { on := 13, ground := Ground.phase }], guard := none } : Oper)) (v := ?_) rfl (by kernel_rfl) (by kernel_rfl) (by kernel_rfl) (fun _ _ _ h => h) (Or.inl ⟨by rfl, ?hyU160⟩) (by assumption) ?rsU160
          case hyU160 => (intro w8' hSw; (try dsimp only at hSw); go_simp; (first | done | with_reducible rfl))
          (try simp only [Act.put, List.setIfInBounds_toArray, List.set_cons_zero, List.set_cons_succ])
          refine wpAnyH_done (by kernel_rfl) ?_ _
          refine NoPanic.normal ?_
          go_wp2_with fail
          go_meet
          exact ⟨g151, F2, F7, F8, f8c, rfl, rfl, BC.out.trans (HQ159.out.2.mono BC.out.size), ⟨st_box (T := 30) (cs := Ev27 (ev0 0) F2 F7 F8 f8c) HQ159.out (by simp)⟩, ⟨hd_later hYc.out HQ159.out.2⟩⟩
        refine AllReadyH.cons (o := ({ dst := some 12, op := Op.alloc 30, type := 0, pos := "law.go:80", after := #[], guard := none } : Oper)) rfl (fun K hK => ?_) AllReadyH.nil
        rw [if_pos (by rfl)]
        go_simp
        have hq161 := HQ122.out.push (below_alloc (Below.refl _ _) (.cells Z 30)) (boxA_new u122 30 Z)
        refine hK.out _ _ hq161.2 (fun hHeld => ?_)
        clear hK
        (try simp only [Act.put, List.setIfInBounds_toArray, List.set_cons_zero, List.set_cons_succ])
        generalize u122.alloc (.cells Z 30) = u161 at *
        generalize u122.heap.size = g161 at *
        have HQ161 : Aside0 (St wc [byA (.slice (some ⟨g122, 0, none⟩) 1 1) [m], boxA 30 g161 Z] u161) := ⟨hq161⟩
        clear hq161
        refine wpAnyH_ready (rs := [2]) (by kernel_rfl) (by simp) ?_
        refine AllReadyH.cons (o := ({ dst := some 41, op := Op.buildSlice 28 0 #[], type := 28, pos := "law.go:80", after := #[], guard := none } : Oper)) rfl (fun K hK => ?_) AllReadyH.nil
        rw [if_pos (by rfl)]
        go_simp
        have hq162 := HQ161.out.push (below_alloc (Below.refl _ _) (.cells #[] 5)) (newB u161 [] (by decide))
        refine hK.out _ _ hq162.2 (fun hHeld => ?_)
        clear hK
        (try simp only [Act.put, List.setIfInBounds_toArray, List.set_cons_zero, List.set_cons_succ])
        generalize u161.alloc (.cells #[] 5) = u162 at *
        generalize u161.heap.size = g162 at *
        have HQ162 : Aside0 (St wc [byA (.slice (some ⟨g122, 0, none⟩) 1 1) [m], boxA 30 g161 Z, byA (.slice (some ⟨g162, 0, none⟩) 0 0) []] u162) := ⟨hq162⟩
        clear hq162
        refine wpAnyH_ready (rs := [4]) (by kernel_rfl) (by simp) ?_
        refine AllReadyH.cons (o := ({ dst := some 43, op := Op.call { callee := Callee.builtin Builtin.append, args := #[Operand.tmp 41, Operand.tmp 42], argTypes := #[28, 28] }, type := 28, pos := "law.go:80", after := #[{ on := 2, ground := Ground.data }, { on := 3, ground := Ground.data }], guard := none } : Oper)) rfl (fun K hK => ?_) AllReadyH.nil
        rw [if_pos (by rfl)]
        obtain ⟨A163, c163, u163, hr163, hq163⟩ := st_app HQ162.out 2 rfl (c := cp) rfl (reads_of_C (Kd.C_below hDc.out HQ162.out.2)) (by simp only [List.length_nil]; omega)
        refine op_val (run_app (s := Operand.tmp 41) (x := Operand.tmp 42) rfl rfl rfl hr163) ?_
        refine hK.out _ _ hq163.2 (fun hHeld => ?_)
        clear hK
        (try simp only [Act.put, List.setIfInBounds_toArray, List.set_cons_zero, List.set_cons_succ])
        have HQ163 : Aside0 (St wc [byA (.slice (some ⟨g122, 0, none⟩) 1 1) [m], boxA 30 g161 Z, byA (.slice A163 ([] ++ p).length c163) ([] ++ p)] u163) := ⟨hq163⟩
        clear hq163 hr163
        refine wpAnyH_ready (rs := [7]) (by kernel_rfl) (by simp) ?_
        refine AllReadyH.cons (o := ({ dst := some 46, op := Op.call { callee := Callee.builtin Builtin.append, args := #[Operand.tmp 43, Operand.tmp 45], argTypes := #[28, 28] }, type := 28, pos := "law.go:80", after := #[{ on := 4, ground := Ground.data }, { on := 6, ground := Ground.data }, { on := 4, ground := Ground.chain }], guard := none } : Oper)) rfl (fun K hK => ?_) AllReadyH.nil
        rw [if_pos (by rfl)]
        obtain ⟨AM164, cM164, eM164, _, hrM164, _⟩ := HQ163.out.bytes 0 (v := .slice (some ⟨g122, 0, none⟩) 1 1) (xs := [m]) rfl
        obtain ⟨rfl, rfl⟩ : AM164 = some ⟨g122, 0, none⟩ ∧ cM164 = 1 := by injection eM164 with q1 _ q3; exact ⟨q1.symm, q3.symm⟩
        obtain ⟨A164, c164, u164, hr164, hq164⟩ := st_app HQ163.out 2 rfl (c := 1) rfl hrM164 (by simp only [List.length_append, List.length_nil, List.length_cons]; omega)
        refine op_val (run_app (s := Operand.tmp 43) (x := Operand.tmp 45) rfl rfl rfl hr164) ?_
        refine hK.out _ _ hq164.2 (fun hHeld => ?_)
        clear hK
        (try simp only [Act.put, List.setIfInBounds_toArray, List.set_cons_zero, List.set_cons_succ])
        have HQ164 : Aside0 (St wc [byA (.slice (some ⟨g122, 0, none⟩) 1 1) [m], boxA 30 g161 Z, byA (.slice A164 (([] ++ p) ++ [m]).length c164) (([] ++ p) ++ [m])] u164) := ⟨hq164⟩
        clear hq164 hr164
        refine wpAnyH_ready (rs := [8]) (by kernel_rfl) (by simp) ?_
        refine AllReadyH.cons (o := ({ dst := some 47, op := Op.call { callee := Callee.value (Operand.func 11), args := #[Operand.tmp 40, Operand.tmp 46], argTypes := #[3, 28] }, type := 34, pos := "law.go:80", after := #[{ on := 1, ground := Ground.data }, { on := 7, ground := Ground.data }, { on := 7, ground := Ground.chain }], guard := none } : Oper)) rfl (fun K hK => ?_) AllReadyH.nil
        rw [if_pos (by rfl)]
        have hrd165 : ReadsInt u164 .u8 A164 (([] ++ p) ++ [m]).length (([] ++ p) ++ [m]) := by
          obtain ⟨A0, c0, e0, _, hr0, _⟩ := HQ164.out.bytes 2 (v := .slice A164 (([] ++ p) ++ [m]).length c164) (xs := (([] ++ p) ++ [m])) rfl
          injection e0 with q1 _ q3
          rw [q1]
          exact hr0
        have hln165 : p.length + 1 = (([] ++ p) ++ [m]).length := by simp
        have hCd165 : Kd.C (Kd.int .u8) u164 A164 (p.length + 1) (([] ++ p) ++ [m]) := by
          have hx := C_of_ints hrd165
          rw [← hln165] at hx
          exact hx
        have hcall := get_sl e.k (([] ++ p) ++ [m]) (p.length + 1) u164 A164 c164 hln165 hCd165 (byt_app HBP.out (fun x hx => by rw [List.mem_singleton] at hx; subst hx; exact hm)) (by simp only [List.length_append, List.length_nil, List.length_cons]; omega) (ev0 0) 12 (by have := get_more m HRT.out HX.out HG.out; rw [HP.out] at this; exact this)
        have HCALL := Aside0.mk hcall
        clear hcall hrd165 hCd165 hln165
        go_simp
        refine (HCALL.out).mono ?_
        rintro q u166 ⟨F2, F7, F8, f8c, rfl, _, hb166⟩
        have hq166 := HQ164.out.below hb166
        have HQ166 := Aside0.mk hq166
        go_simp
        refine hK.out _ _ hq166.2 (fun hHeld => ?_)
        clear hK
        (try simp only [Act.put, List.setIfInBounds_toArray, List.set_cons_zero, List.set_cons_succ])
        clear hq166 hb166
        clear HCALL
        refine wpAnyH_take (i := 9) (oi := ({ dst := some 38, op := Op.move (Operand.tmp 47), type := 34, pos := "law.go:80", after := #[{ on := 8, ground := Ground.data }], guard := none } : Oper)) (v := ?_) rfl (by kernel_rfl) (by kernel_rfl) (by kernel_rfl) (fun _ _ _ h => h) (Or.inl ⟨by rfl, ?hyU167⟩) (by assumption) ?rsU167
        case hyU167 => (intro w8' hSw; (try dsimp only at hSw); go_simp; (first | done | with_reducible rfl))
        (try simp only [Act.put, List.setIfInBounds_toArray, List.set_cons_zero, List.set_cons_succ])
        refine wpAnyH_take (i := 10) (oi := ({ dst := some 48, op := Op.extract (Operand.tmp 38) 0, type := 30, pos := "law.go:80", after := #[{ on := 9, ground := Ground.data }], guard := none } : Oper)) (v := ?_) rfl (by kernel_rfl) (by kernel_rfl) (by kernel_rfl) (fun _ _ _ h => h) (Or.inl ⟨by rfl, ?hyU168⟩) (by assumption) ?rsU168
        case hyU168 => (intro w8' hSw; (try dsimp only at hSw); go_simp; (first | done | with_reducible rfl))
        (try simp only [Act.put, List.setIfInBounds_toArray, List.set_cons_zero, List.set_cons_succ])
        refine wpAnyH_take (i := 11) (oi := ({ dst := some 49, op := Op.extract (Operand.tmp 38) 1, type := 33, pos := "law.go:80", after := #[{ on := 9, ground := Ground.data }, { on := 13, ground := Ground.gcOnly Departure.lateStores }], guard := none } : Oper)) (v := ?_) rfl (by kernel_rfl) (by kernel_rfl) (by kernel_rfl) (fun _ _ _ h => h) (Or.inl ⟨by rfl, ?hyU169⟩) (by assumption) ?rsU169
        case hyU169 => (intro w8' hSw; (try dsimp only at hSw); go_simp; (first | done | with_reducible rfl))
        (try simp only [Act.put, List.setIfInBounds_toArray, List.set_cons_zero, List.set_cons_succ])
        refine wpAnyH_ready (rs := [13]) (by kernel_rfl) (by simp) ?_
        refine AllReadyH.cons (o := ({ dst := none, op := Op.store 30 (Operand.tmp 12) (Operand.tmp 48), type := 0, pos := "law.go:80", after := #[{ on := 12, ground := Ground.data }, { on := 10, ground := Ground.data }, { on := 8, ground := Ground.chain }, { on := 0, ground := Ground.phase }, { on := 1, ground := Ground.phase }, { on := 2, ground := Ground.phase }, { on := 3, ground := Ground.phase }, { on := 4, ground := Ground.phase }, { on := 5, ground := Ground.phase }, { on := 6, ground := Ground.phase }, { on := 7, ground := Ground.phase }, { on := 8, ground := Ground.phase }, { on := 9, ground := Ground.phase }, { on := 10, ground := Ground.phase }, { on := 11, ground := Ground.textOnly Departure.lateStores }, { on := 12, ground := Ground.phase }], guard := none } : Oper)) rfl (fun K hK => ?_) AllReadyH.nil
        rw [if_pos (by rfl)]
        have hz170 := st_box (T := 30) (cs := Z) (g := g161) HQ166.out (by simp)
        refine op_skip (pick_store (x := Operand.tmp 12) (y := Operand.tmp 48) rfl g161 (Ev27 (ev0 0) F2 F7 F8 f8c) rfl rfl 30 Z hz170 (ev27_size _ _ _ _ _) (by rw [sz]; rfl) (ev27_one _ _ _ _ _)) ?_
        have hq170 := st_setRow (Ev27 (ev0 0) F2 F7 F8 f8c) HQ166.out 1 rfl
        refine hK.out _ _ hq170.2 (fun hHeld => ?_)
        clear hK
        (try simp only [Act.put, List.setIfInBounds_toArray, List.set_cons_zero, List.set_cons_succ])
        generalize u166.setRow g161 (Ev27 (ev0 0) F2 F7 F8 f8c) = u170 at *
        have HQ170 : Aside0 (St wc [byA (.slice (some ⟨g122, 0, none⟩) 1 1) [m], boxA 30 g161 (Ev27 (ev0 0) F2 F7 F8 f8c), byA (.slice A164 (([] ++ p) ++ [m]).length c164) (([] ++ p) ++ [m])] u170) := ⟨hq170⟩
        clear hq170 hz170
        refine wpAnyH_take (i := 14) (oi := ({ dst := some 13, op := Op.assign (Operand.tmp 49), type := 33, pos := "law.go:80", after := #[{ on := 11, ground := Ground.data }, { on := 13, ground := Ground.chain }, { on := 0, ground := Ground.phase }, { on := 1, ground := Ground.phase }, { on := 2, ground := Ground.phase }, { on := 3, ground := Ground.phase }, { on := 4, ground := Ground.phase }, { on := 5, ground := Ground.phase }, { on := 6, ground := Ground.phase }, { on := 7, ground := Ground.phase }, { on := 8, ground := Ground.phase }, { on := 9, ground := Ground.phase }, { on := 10, ground := Ground.phase }, { on := 11, ground := Ground.phase }, { on := 12, ground := Ground.phase }, { on := 13, ground := Ground.phase }], guard := none } : Oper)) (v := ?_) rfl (by kernel_rfl) (by kernel_rfl) (by kernel_rfl) (fun _ _ _ h => h) (Or.inl ⟨by rfl, ?hyU171⟩) (by assumption) ?rsU171
        case hyU171 => (intro w8' hSw; (try dsimp only at hSw); go_simp; (first | done | with_reducible rfl))
        (try simp only [Act.put, List.setIfInBounds_toArray, List.set_cons_zero, List.set_cons_succ])
        refine wpAnyH_done (by kernel_rfl) ?_ _
        refine NoPanic.normal ?_
        go_wp2_with fail
        go_meet
        exact ⟨g161, F2, F7, F8, f8c, rfl, rfl, BC.out.trans (HQ170.out.2.mono BC.out.size), ⟨st_box (T := 30) (cs := Ev27 (ev0 0) F2 F7 F8 f8c) HQ170.out (by simp)⟩, ⟨hd_later hYc.out HQ170.out.2⟩⟩
      refine AllReadyH.cons (o := ({ dst := some 12, op := Op.alloc 30, type := 0, pos := "law.go:80", after := #[], guard := none } : Oper)) rfl (fun K hK => ?_) AllReadyH.nil
      rw [if_pos (by rfl)]
      go_simp
      have hq172 := HQ0.out.push (below_alloc (Below.refl _ _) (.cells Z 30)) (boxA_new w0 30 Z)
      refine hK.out _ _ hq172.2 (fun hHeld => ?_)
      clear hK
      (try simp only [Act.put, List.setIfInBounds_toArray, List.set_cons_zero, List.set_cons_succ])
      generalize w0.alloc (.cells Z 30) = u172 at *
      generalize w0.heap.size = g172 at *
      have HQ172 : Aside0 (St wc [boxA 30 g172 Z] u172) := ⟨hq172⟩
      clear hq172
      refine wpAnyH_ready (rs := [2, 6]) (by kernel_rfl) (by simp) ?_
      refine AllReadyH.cons (o := ({ dst := some 41, op := Op.buildSlice 28 0 #[], type := 28, pos := "law.go:80", after := #[], guard := none } : Oper)) rfl (fun K hK => ?_) ?_
      · rw [if_pos (by rfl)]
        go_simp
        have hq173 := HQ172.out.push (below_alloc (Below.refl _ _) (.cells #[] 5)) (newB u172 [] (by decide))
        refine hK.out _ _ hq173.2 (fun hHeld => ?_)
        clear hK
        (try simp only [Act.put, List.setIfInBounds_toArray, List.set_cons_zero, List.set_cons_succ])
        generalize u172.alloc (.cells #[] 5) = u173 at *
        generalize u172.heap.size = g173 at *
        have HQ173 : Aside0 (St wc [boxA 30 g172 Z, byA (.slice (some ⟨g173, 0, none⟩) 0 0) []] u173) := ⟨hq173⟩
        clear hq173
        refine wpAnyH_ready (rs := [4, 6]) (by kernel_rfl) (by simp) ?_
        refine AllReadyH.cons (o := ({ dst := some 43, op := Op.call { callee := Callee.builtin Builtin.append, args := #[Operand.tmp 41, Operand.tmp 42], argTypes := #[28, 28] }, type := 28, pos := "law.go:80", after := #[{ on := 2, ground := Ground.data }, { on := 3, ground := Ground.data }], guard := none } : Oper)) rfl (fun K hK => ?_) ?_
        · rw [if_pos (by rfl)]
          obtain ⟨A174, c174, u174, hr174, hq174⟩ := st_app HQ173.out 1 rfl (c := cp) rfl (reads_of_C (Kd.C_below hDc.out HQ173.out.2)) (by simp only [List.length_nil]; omega)
          refine op_val (run_app (s := Operand.tmp 41) (x := Operand.tmp 42) rfl rfl rfl hr174) ?_
          refine hK.out _ _ hq174.2 (fun hHeld => ?_)
          clear hK
          (try simp only [Act.put, List.setIfInBounds_toArray, List.set_cons_zero, List.set_cons_succ])
          have HQ174 : Aside0 (St wc [boxA 30 g172 Z, byA (.slice A174 ([] ++ p).length c174) ([] ++ p)] u174) := ⟨hq174⟩
          clear hq174 hr174
          refine wpAnyH_ready (rs := [6]) (by kernel_rfl) (by simp) ?_
          refine AllReadyH.cons (o := ({ dst := some 45, op := Op.buildSlice 28 1 #[(0, Operand.tmp 44)], type := 28, pos := "law.go:80", after := #[{ on := 5, ground := Ground.data }], guard := none } : Oper)) rfl (fun K hK => ?_) AllReadyH.nil
          rw [if_pos (by rfl)]
          go_simp
          have hq175 := HQ174.out.push (below_alloc (Below.refl _ _) (.cells #[.int .u8 m] 5)) (newB u174 [m] (by simp))
          refine hK.out _ _ hq175.2 (fun hHeld => ?_)
          clear hK
          (try simp only [Act.put, List.setIfInBounds_toArray, List.set_cons_zero, List.set_cons_succ])
          generalize u174.alloc (.cells #[.int .u8 m] 5) = u175 at *
          generalize u174.heap.size = g175 at *
          have HQ175 : Aside0 (St wc [boxA 30 g172 Z, byA (.slice A174 ([] ++ p).length c174) ([] ++ p), byA (.slice (some ⟨g175, 0, none⟩) 1 1) [m]] u175) := ⟨hq175⟩
          clear hq175
          refine wpAnyH_ready (rs := [7]) (by kernel_rfl) (by simp) ?_
          refine AllReadyH.cons (o := ({ dst := some 46, op := Op.call { callee := Callee.builtin Builtin.append, args := #[Operand.tmp 43, Operand.tmp 45], argTypes := #[28, 28] }, type := 28, pos := "law.go:80", after := #[{ on := 4, ground := Ground.data }, { on := 6, ground := Ground.data }, { on := 4, ground := Ground.chain }], guard := none } : Oper)) rfl (fun K hK => ?_) AllReadyH.nil
          rw [if_pos (by rfl)]
          obtain ⟨AM176, cM176, eM176, _, hrM176, _⟩ := HQ175.out.bytes 2 (v := .slice (some ⟨g175, 0, none⟩) 1 1) (xs := [m]) rfl
          obtain ⟨rfl, rfl⟩ : AM176 = some ⟨g175, 0, none⟩ ∧ cM176 = 1 := by injection eM176 with q1 _ q3; exact ⟨q1.symm, q3.symm⟩
          obtain ⟨A176, c176, u176, hr176, hq176⟩ := st_app HQ175.out 1 rfl (c := 1) rfl hrM176 (by simp only [List.length_append, List.length_nil, List.length_cons]; omega)
          refine op_val (run_app (s := Operand.tmp 43) (x := Operand.tmp 45) rfl rfl rfl hr176) ?_
          refine hK.out _ _ hq176.2 (fun hHeld => ?_)
          clear hK
          (try simp only [Act.put, List.setIfInBounds_toArray, List.set_cons_zero, List.set_cons_succ])
          have HQ176 : Aside0 (St wc [boxA 30 g172 Z, byA (.slice A176 (([] ++ p) ++ [m]).length c176) (([] ++ p) ++ [m]), byA (.slice (some ⟨g175, 0, none⟩) 1 1) [m]] u176) := ⟨hq176⟩
          clear hq176 hr176
          refine wpAnyH_ready (rs := [8]) (by kernel_rfl) (by simp) ?_
          refine AllReadyH.cons (o := ({ dst := some 47, op := Op.call { callee := Callee.value (Operand.func 11), args := #[Operand.tmp 40, Operand.tmp 46], argTypes := #[3, 28] }, type := 34, pos := "law.go:80", after := #[{ on := 1, ground := Ground.data }, { on := 7, ground := Ground.data }, { on := 7, ground := Ground.chain }], guard := none } : Oper)) rfl (fun K hK => ?_) AllReadyH.nil
          rw [if_pos (by rfl)]
          have hrd177 : ReadsInt u176 .u8 A176 (([] ++ p) ++ [m]).length (([] ++ p) ++ [m]) := by
            obtain ⟨A0, c0, e0, _, hr0, _⟩ := HQ176.out.bytes 1 (v := .slice A176 (([] ++ p) ++ [m]).length c176) (xs := (([] ++ p) ++ [m])) rfl
            injection e0 with q1 _ q3
            rw [q1]
            exact hr0
          have hln177 : p.length + 1 = (([] ++ p) ++ [m]).length := by simp
          have hCd177 : Kd.C (Kd.int .u8) u176 A176 (p.length + 1) (([] ++ p) ++ [m]) := by
            have hx := C_of_ints hrd177
            rw [← hln177] at hx
            exact hx
          have hcall := get_sl e.k (([] ++ p) ++ [m]) (p.length + 1) u176 A176 c176 hln177 hCd177 (byt_app HBP.out (fun x hx => by rw [List.mem_singleton] at hx; subst hx; exact hm)) (by simp only [List.length_append, List.length_nil, List.length_cons]; omega) (ev0 0) 12 (by have := get_more m HRT.out HX.out HG.out; rw [HP.out] at this; exact this)
          have HCALL := Aside0.mk hcall
          clear hcall hrd177 hCd177 hln177
          go_simp
          refine (HCALL.out).mono ?_
          rintro q u178 ⟨F2, F7, F8, f8c, rfl, _, hb178⟩
          have hq178 := HQ176.out.below hb178
          have HQ178 := Aside0.mk hq178
          go_simp
          refine hK.out _ _ hq178.2 (fun hHeld => ?_)
          clear hK
          (try simp only [Act.put, List.setIfInBounds_toArray, List.set_cons_zero, List.set_cons_succ])
          clear hq178 hb178
          clear HCALL
          refine wpAnyH_take (i := 9) (oi := ({ dst := some 38, op := Op.move (Operand.tmp 47), type := 34, pos := "law.go:80", after := #[{ on := 8, ground := Ground.data }], guard := none } : Oper)) (v := ?_) rfl (by kernel_rfl) (by kernel_rfl) (by kernel_rfl) (fun _ _ _ h => h) (Or.inl ⟨by rfl, ?hyU179⟩) (by assumption) ?rsU179
          case hyU179 => (intro w8' hSw; (try dsimp only at hSw); go_simp; (first | done | with_reducible rfl))
          (try simp only [Act.put, List.setIfInBounds_toArray, List.set_cons_zero, List.set_cons_succ])
          refine wpAnyH_take (i := 10) (oi := ({ dst := some 48, op := Op.extract (Operand.tmp 38) 0, type := 30, pos := "law.go:80", after := #[{ on := 9, ground := Ground.data }], guard := none } : Oper)) (v := ?_) rfl (by kernel_rfl) (by kernel_rfl) (by kernel_rfl) (fun _ _ _ h => h) (Or.inl ⟨by rfl, ?hyU180⟩) (by assumption) ?rsU180
          case hyU180 => (intro w8' hSw; (try dsimp only at hSw); go_simp; (first | done | with_reducible rfl))
          (try simp only [Act.put, List.setIfInBounds_toArray, List.set_cons_zero, List.set_cons_succ])
          refine wpAnyH_take (i := 11) (oi := ({ dst := some 49, op := Op.extract (Operand.tmp 38) 1, type := 33, pos := "law.go:80", after := #[{ on := 9, ground := Ground.data }, { on := 13, ground := Ground.gcOnly Departure.lateStores }], guard := none } : Oper)) (v := ?_) rfl (by kernel_rfl) (by kernel_rfl) (by kernel_rfl) (fun _ _ _ h => h) (Or.inl ⟨by rfl, ?hyU181⟩) (by assumption) ?rsU181
          case hyU181 => (intro w8' hSw; (try dsimp only at hSw); go_simp; (first | done | with_reducible rfl))
          (try simp only [Act.put, List.setIfInBounds_toArray, List.set_cons_zero, List.set_cons_succ])
          refine wpAnyH_ready (rs := [13]) (by kernel_rfl) (by simp) ?_
          refine AllReadyH.cons (o := ({ dst := none, op := Op.store 30 (Operand.tmp 12) (Operand.tmp 48), type := 0, pos := "law.go:80", after := #[{ on := 12, ground := Ground.data }, { on := 10, ground := Ground.data }, { on := 8, ground := Ground.chain }, { on := 0, ground := Ground.phase }, { on := 1, ground := Ground.phase }, { on := 2, ground := Ground.phase }, { on := 3, ground := Ground.phase }, { on := 4, ground := Ground.phase }, { on := 5, ground := Ground.phase }, { on := 6, ground := Ground.phase }, { on := 7, ground := Ground.phase }, { on := 8, ground := Ground.phase }, { on := 9, ground := Ground.phase }, { on := 10, ground := Ground.phase }, { on := 11, ground := Ground.textOnly Departure.lateStores }, { on := 12, ground := Ground.phase }], guard := none } : Oper)) rfl (fun K hK => ?_) AllReadyH.nil
          rw [if_pos (by rfl)]
          have hz182 := st_box (T := 30) (cs := Z) (g := g172) HQ178.out (by simp)
          refine op_skip (pick_store (x := Operand.tmp 12) (y := Operand.tmp 48) rfl g172 (Ev27 (ev0 0) F2 F7 F8 f8c) rfl rfl 30 Z hz182 (ev27_size _ _ _ _ _) (by rw [sz]; rfl) (ev27_one _ _ _ _ _)) ?_
          have hq182 := st_setRow (Ev27 (ev0 0) F2 F7 F8 f8c) HQ178.out 0 rfl
          refine hK.out _ _ hq182.2 (fun hHeld => ?_)
          clear hK
          (try simp only [Act.put, List.setIfInBounds_toArray, List.set_cons_zero, List.set_cons_succ])
          generalize u178.setRow g172 (Ev27 (ev0 0) F2 F7 F8 f8c) = u182 at *
          have HQ182 : Aside0 (St wc [boxA 30 g172 (Ev27 (ev0 0) F2 F7 F8 f8c), byA (.slice A176 (([] ++ p) ++ [m]).length c176) (([] ++ p) ++ [m]), byA (.slice (some ⟨g175, 0, none⟩) 1 1) [m]] u182) := ⟨hq182⟩
          clear hq182 hz182
          refine wpAnyH_take (i := 14) (oi := ({ dst := some 13, op := Op.assign (Operand.tmp 49), type := 33, pos := "law.go:80", after := #[{ on := 11, ground := Ground.data }, { on := 13, ground := Ground.chain }, { on := 0, ground := Ground.phase }, { on := 1, ground := Ground.phase }, { on := 2, ground := Ground.phase }, { on := 3, ground := Ground.phase }, { on := 4, ground := Ground.phase }, { on := 5, ground := Ground.phase }, { on := 6, ground := Ground.phase }, { on := 7, ground := Ground.phase }, { on := 8, ground := Ground.phase }, { on := 9, ground := Ground.phase }, { on := 10, ground := Ground.phase }, { on := 11, ground := Ground.phase }, { on := 12, ground := Ground.phase }, { on := 13, ground := Ground.phase }], guard := none } : Oper)) (v := ?_) rfl (by kernel_rfl) (by kernel_rfl) (by kernel_rfl) (fun _ _ _ h => h) (Or.inl ⟨by rfl, ?hyU183⟩) (by assumption) ?rsU183
          case hyU183 => (intro w8' hSw; (try dsimp only at hSw); go_simp; (first | done | with_reducible rfl))
          (try simp only [Act.put, List.setIfInBounds_toArray, List.set_cons_zero, List.set_cons_succ])
          refine wpAnyH_done (by kernel_rfl) ?_ _
          refine NoPanic.normal ?_
          go_wp2_with fail
          go_meet
          exact ⟨g172, F2, F7, F8, f8c, rfl, rfl, BC.out.trans (HQ182.out.2.mono BC.out.size), ⟨st_box (T := 30) (cs := Ev27 (ev0 0) F2 F7 F8 f8c) HQ182.out (by simp)⟩, ⟨hd_later hYc.out HQ182.out.2⟩⟩
        refine AllReadyH.cons (o := ({ dst := some 45, op := Op.buildSlice 28 1 #[(0, Operand.tmp 44)], type := 28, pos := "law.go:80", after := #[{ on := 5, ground := Ground.data }], guard := none } : Oper)) rfl (fun K hK => ?_) AllReadyH.nil
        rw [if_pos (by rfl)]
        go_simp
        have hq184 := HQ173.out.push (below_alloc (Below.refl _ _) (.cells #[.int .u8 m] 5)) (newB u173 [m] (by simp))
        refine hK.out _ _ hq184.2 (fun hHeld => ?_)
        clear hK
        (try simp only [Act.put, List.setIfInBounds_toArray, List.set_cons_zero, List.set_cons_succ])
        generalize u173.alloc (.cells #[.int .u8 m] 5) = u184 at *
        generalize u173.heap.size = g184 at *
        have HQ184 : Aside0 (St wc [boxA 30 g172 Z, byA (.slice (some ⟨g173, 0, none⟩) 0 0) [], byA (.slice (some ⟨g184, 0, none⟩) 1 1) [m]] u184) := ⟨hq184⟩
        clear hq184
        refine wpAnyH_ready (rs := [4]) (by kernel_rfl) (by simp) ?_
        refine AllReadyH.cons (o := ({ dst := some 43, op := Op.call { callee := Callee.builtin Builtin.append, args := #[Operand.tmp 41, Operand.tmp 42], argTypes := #[28, 28] }, type := 28, pos := "law.go:80", after := #[{ on := 2, ground := Ground.data }, { on := 3, ground := Ground.data }], guard := none } : Oper)) rfl (fun K hK => ?_) AllReadyH.nil
        rw [if_pos (by rfl)]
        obtain ⟨A185, c185, u185, hr185, hq185⟩ := st_app HQ184.out 1 rfl (c := cp) rfl (reads_of_C (Kd.C_below hDc.out HQ184.out.2)) (by simp only [List.length_nil]; omega)
        refine op_val (run_app (s := Operand.tmp 41) (x := Operand.tmp 42) rfl rfl rfl hr185) ?_
        refine hK.out _ _ hq185.2 (fun hHeld => ?_)
        clear hK
        (try simp only [Act.put, List.setIfInBounds_toArray, List.set_cons_zero, List.set_cons_succ])
        have HQ185 : Aside0 (St wc [boxA 30 g172 Z, byA (.slice A185 ([] ++ p).length c185) ([] ++ p), byA (.slice (some ⟨g184, 0, none⟩) 1 1) [m]] u185) := ⟨hq185⟩
        clear hq185 hr185
        refine wpAnyH_ready (rs := [7]) (by kernel_rfl) (by simp) ?_
        refine AllReadyH.cons (o := ({ dst := some 46, op := Op.call { callee := Callee.builtin Builtin.append, args := #[Operand.tmp 43, Operand.tmp 45], argTypes := #[28, 28] }, type := 28, pos := "law.go:80", after := #[{ on := 4, ground := Ground.data }, { on := 6, ground := Ground.data }, { on := 4, ground := Ground.chain }], guard := none } : Oper)) rfl (fun K hK => ?_) AllReadyH.nil
        rw [if_pos (by rfl)]
        obtain ⟨AM186, cM186, eM186, _, hrM186, _⟩ := HQ185.out.bytes 2 (v := .slice (some ⟨g184, 0, none⟩) 1 1) (xs := [m]) rfl
        obtain ⟨rfl, rfl⟩ : AM186 = some ⟨g184, 0, none⟩ ∧ cM186 = 1 := by injection eM186 with q1 _ q3; exact ⟨q1.symm, q3.symm⟩
        obtain ⟨A186, c186, u186, hr186, hq186⟩ := st_app HQ185.out 1 rfl (c := 1) rfl hrM186 (by simp only [List.length_append, List.length_nil, List.length_cons]; omega)
        refine op_val (run_app (s := Operand.tmp 43) (x := Operand.tmp 45) rfl rfl rfl hr186) ?_
        refine hK.out _ _ hq186.2 (fun hHeld => ?_)
        clear hK
        (try simp only [Act.put, List.setIfInBounds_toArray, List.set_cons_zero, List.set_cons_succ])
        have HQ186 : Aside0 (St wc [boxA 30 g172 Z, byA (.slice A186 (([] ++ p) ++ [m]).length c186) (([] ++ p) ++ [m]), byA (.slice (some ⟨g184, 0, none⟩) 1 1) [m]] u186) := ⟨hq186⟩
        clear hq186 hr186
        refine wpAnyH_ready (rs := [8]) (by kernel_rfl) (by simp) ?_
        refine AllReadyH.cons (o := ({ dst := some 47, op := Op.call { callee := Callee.value (Operand.func 11), args := #[Operand.tmp 40, Operand.tmp 46], argTypes := #[3, 28] }, type := 34, pos := "law.go:80", after := #[{ on := 1, ground := Ground.data }, { on := 7, ground := Ground.data }, { on := 7, ground := Ground.chain }], guard := none } : Oper)) rfl (fun K hK => ?_) AllReadyH.nil
        rw [if_pos (by rfl)]
        have hrd187 : ReadsInt u186 .u8 A186 (([] ++ p) ++ [m]).length (([] ++ p) ++ [m]) := by
          obtain ⟨A0, c0, e0, _, hr0, _⟩ := HQ186.out.bytes 1 (v := .slice A186 (([] ++ p) ++ [m]).length c186) (xs := (([] ++ p) ++ [m])) rfl
          injection e0 with q1 _ q3
          rw [q1]
          exact hr0
        have hln187 : p.length + 1 = (([] ++ p) ++ [m]).length := by simp
        have hCd187 : Kd.C (Kd.int .u8) u186 A186 (p.length + 1) (([] ++ p) ++ [m]) := by
          have hx := C_of_ints hrd187
          rw [← hln187] at hx
          exact hx
        have hcall := get_sl e.k (([] ++ p) ++ [m]) (p.length + 1) u186 A186 c186 hln187 hCd187 (byt_app HBP.out (fun x hx => by rw [List.mem_singleton] at hx; subst hx; exact hm)) (by simp only [List.length_append, List.length_nil, List.length_cons]; omega) (ev0 0) 12 (by have := get_more m HRT.out HX.out HG.out; rw [HP.out] at this; exact this)
        have HCALL := Aside0.mk hcall
        clear hcall hrd187 hCd187 hln187
        go_simp
        refine (HCALL.out).mono ?_
        rintro q u188 ⟨F2, F7, F8, f8c, rfl, _, hb188⟩
        have hq188 := HQ186.out.below hb188
        have HQ188 := Aside0.mk hq188
        go_simp
        refine hK.out _ _ hq188.2 (fun hHeld => ?_)
        clear hK
        (try simp only [Act.put, List.setIfInBounds_toArray, List.set_cons_zero, List.set_cons_succ])
        clear hq188 hb188
        clear HCALL
        refine wpAnyH_take (i := 9) (oi := ({ dst := some 38, op := Op.move (Operand.tmp 47), type := 34, pos := "law.go:80", after := #[{ on := 8, ground := Ground.data }], guard := none } : Oper)) (v := ?_) rfl (by kernel_rfl) (by kernel_rfl) (by kernel_rfl) (fun _ _ _ h => h) (Or.inl ⟨by rfl, ?hyU189⟩) (by assumption) ?rsU189
        case hyU189 => (intro w8' hSw; (try dsimp only at hSw); go_simp; (first | done | with_reducible rfl))
        (try simp only [Act.put, List.setIfInBounds_toArray, List.set_cons_zero, List.set_cons_succ])
        refine wpAnyH_take (i := 10) (oi := ({ dst := some 48, op := Op.extract (Operand.tmp 38) 0, type := 30, pos := "law.go:80", after := #[{ on := 9, ground := Ground.data }], guard := none } : Oper)) (v := ?_) rfl (by kernel_rfl) (by kernel_rfl) (by kernel_rfl) (fun _ _ _ h => h) (Or.inl ⟨by rfl, ?hyU190⟩) (by assumption) ?rsU190
        case hyU190 => (intro w8' hSw; (try dsimp only at hSw); go_simp; (first | done | with_reducible rfl))
        (try simp only [Act.put, List.setIfInBounds_toArray, List.set_cons_zero, List.set_cons_succ])
        refine wpAnyH_take (i := 11) (oi := ({ dst := some 49, op := Op.extract (Operand.tmp 38) 1, type := 33, pos := "law.go:80", after := #[{ on := 9, ground := Ground.data }, { on := 13, ground := Ground.gcOnly Departure.lateStores }], guard := none } : Oper)) (v := ?_) rfl (by kernel_rfl) (by kernel_rfl) (by kernel_rfl) (fun _ _ _ h => h) (Or.inl ⟨by rfl, ?hyU191⟩) (by assumption) ?rsU191
        case hyU191 => (intro w8' hSw; (try dsimp only at hSw); go_simp; (first | done | with_reducible rfl))
        (try simp only [Act.put, List.setIfInBounds_toArray, List.set_cons_zero, List.set_cons_succ])
        refine wpAnyH_ready (rs := [13]) (by kernel_rfl) (by simp) ?_
        refine AllReadyH.cons (o := ({ dst := none, op := Op.store 30 (Operand.tmp 12) (Operand.tmp 48), type := 0, pos := "law.go:80", after := #[{ on := 12, ground := Ground.data }, { on := 10, ground := Ground.data }, { on := 8, ground := Ground.chain }, { on := 0, ground := Ground.phase }, { on := 1, ground := Ground.phase }, { on := 2, ground := Ground.phase }, { on := 3, ground := Ground.phase }, { on := 4, ground := Ground.phase }, { on := 5, ground := Ground.phase }, { on := 6, ground := Ground.phase }, { on := 7, ground := Ground.phase }, { on := 8, ground := Ground.phase }, { on := 9, ground := Ground.phase }, { on := 10, ground := Ground.phase }, { on := 11, ground := Ground.textOnly Departure.lateStores }, { on := 12, ground := Ground.phase }], guard := none } : Oper)) rfl (fun K hK => ?_) AllReadyH.nil
        rw [if_pos (by rfl)]
        have hz192 := st_box (T := 30) (cs := Z) (g := g172) HQ188.out (by simp)
        refine op_skip (pick_store (x := Operand.tmp 12) (y := Operand.tmp 48) rfl g172 (Ev27 (ev0 0) F2 F7 F8 f8c) rfl rfl 30 Z hz192 (ev27_size _ _ _ _ _) (by rw [sz]; rfl) (ev27_one _ _ _ _ _)) ?_
        have hq192 := st_setRow (Ev27 (ev0 0) F2 F7 F8 f8c) HQ188.out 0 rfl
        refine hK.out _ _ hq192.2 (fun hHeld => ?_)
        clear hK
        (try simp only [Act.put, List.setIfInBounds_toArray, List.set_cons_zero, List.set_cons_succ])
        generalize u188.setRow g172 (Ev27 (ev0 0) F2 F7 F8 f8c) = u192 at *
        have HQ192 : Aside0 (St wc [boxA 30 g172 (Ev27 (ev0 0) F2 F7 F8 f8c), byA (.slice A186 (([] ++ p) ++ [m]).length c186) (([] ++ p) ++ [m]), byA (.slice (some ⟨g184, 0, none⟩) 1 1) [m]] u192) := ⟨hq192⟩
        clear hq192 hz192
        refine wpAnyH_take (i := 14) (oi := ({ dst := some 13, op := Op.assign (Operand.tmp 49), type := 33, pos := "law.go:80", after := #[{ on := 11, ground := Ground.data }, { on := 13, ground := Ground.chain }, { on := 0, ground := Ground.phase }, { on := 1, ground := Ground.phase }, { on := 2, ground := Ground.phase }, { on := 3, ground := Ground.phase }, { on := 4, ground := Ground.phase }, { on := 5, ground := Ground.phase }, { on := 6, ground := Ground.phase }, { on := 7, ground := Ground.phase }, { on := 8, ground := Ground.phase }, { on := 9, ground := Ground.phase }, { on := 10, ground := Ground.phase }, { on := 11, ground := Ground.phase }, { on := 12, ground := Ground.phase }, { on := 13, ground := Ground.phase }], guard := none } : Oper)) (v := ?_) rfl (by kernel_rfl) (by kernel_rfl) (by kernel_rfl) (fun _ _ _ h => h) (Or.inl ⟨by rfl, ?hyU193⟩) (by assumption) ?rsU193
        case hyU193 => (intro w8' hSw; (try dsimp only at hSw); go_simp; (first | done | with_reducible rfl))
        (try simp only [Act.put, List.setIfInBounds_toArray, List.set_cons_zero, List.set_cons_succ])
        refine wpAnyH_done (by kernel_rfl) ?_ _
        refine NoPanic.normal ?_
        go_wp2_with fail
        go_meet
        exact ⟨g172, F2, F7, F8, f8c, rfl, rfl, BC.out.trans (HQ192.out.2.mono BC.out.size), ⟨st_box (T := 30) (cs := Ev27 (ev0 0) F2 F7 F8 f8c) HQ192.out (by simp)⟩, ⟨hd_later hYc.out HQ192.out.2⟩⟩
      refine AllReadyH.cons (o := ({ dst := some 45, op := Op.buildSlice 28 1 #[(0, Operand.tmp 44)], type := 28, pos := "law.go:80", after := #[{ on := 5, ground := Ground.data }], guard := none } : Oper)) rfl (fun K hK => ?_) AllReadyH.nil
      rw [if_pos (by rfl)]
      go_simp
      have hq194 := HQ172.out.push (below_alloc (Below.refl _ _) (.cells #[.int .u8 m] 5)) (newB u172 [m] (by simp))
      refine hK.out _ _ hq194.2 (fun hHeld => ?_)
      clear hK
      (try simp only [Act.put, List.setIfInBounds_toArray, List.set_cons_zero, List.set_cons_succ])
      generalize u172.alloc (.cells #[.int .u8 m] 5) = u194 at *
      generalize u172.heap.size = g194 at *
      have HQ194 : Aside0 (St wc [boxA 30 g172 Z, byA (.slice (some ⟨g194, 0, none⟩) 1 1) [m]] u194) := ⟨hq194⟩
      clear hq194
      refine wpAnyH_ready (rs := [2]) (by kernel_rfl) (by simp) ?_
      refine AllReadyH.cons (o := ({ dst := some 41, op := Op.buildSlice 28 0 #[], type := 28, pos := "law.go:80", after := #[], guard := none } : Oper)) rfl (fun K hK => ?_) AllReadyH.nil
      rw [if_pos (by rfl)]
      go_simp
      have hq195 := HQ194.out.push (below_alloc (Below.refl _ _) (.cells #[] 5)) (newB u194 [] (by decide))
      refine hK.out _ _ hq195.2 (fun hHeld => ?_)
      clear hK
      (try simp only [Act.put, List.setIfInBounds_toArray, List.set_cons_zero, List.set_cons_succ])
      generalize u194.alloc (.cells #[] 5) = u195 at *
      generalize u194.heap.size = g195 at *
      have HQ195 : Aside0 (St wc [boxA 30 g172 Z, byA (.slice (some ⟨g194, 0, none⟩) 1 1) [m], byA (.slice (some ⟨g195, 0, none⟩) 0 0) []] u195) := ⟨hq195⟩
      clear hq195
      refine wpAnyH_ready (rs := [4]) (by kernel_rfl) (by simp) ?_
      refine AllReadyH.cons (o := ({ dst := some 43, op := Op.call { callee := Callee.builtin Builtin.append, args := #[Operand.tmp 41, Operand.tmp 42], argTypes := #[28, 28] }, type := 28, pos := "law.go:80", after := #[{ on := 2, ground := Ground.data }, { on := 3, ground := Ground.data }], guard := none } : Oper)) rfl (fun K hK => ?_) AllReadyH.nil
      rw [if_pos (by rfl)]
      obtain ⟨A196, c196, u196, hr196, hq196⟩ := st_app HQ195.out 2 rfl (c := cp) rfl (reads_of_C (Kd.C_below hDc.out HQ195.out.2)) (by simp only [List.length_nil]; omega)
      refine op_val (run_app (s := Operand.tmp 41) (x := Operand.tmp 42) rfl rfl rfl hr196) ?_
      refine hK.out _ _ hq196.2 (fun hHeld => ?_)
      clear hK
      (try simp only [Act.put, List.setIfInBounds_toArray, List.set_cons_zero, List.set_cons_succ])
      have HQ196 : Aside0 (St wc [boxA 30 g172 Z, byA (.slice (some ⟨g194, 0, none⟩) 1 1) [m], byA (.slice A196 ([] ++ p).length c196) ([] ++ p)] u196) := ⟨hq196⟩
      clear hq196 hr196
      refine wpAnyH_ready (rs := [7]) (by kernel_rfl) (by simp) ?_
      refine AllReadyH.cons (o := ({ dst := some 46, op := Op.call { callee := Callee.builtin Builtin.append, args := #[Operand.tmp 43, Operand.tmp 45], argTypes := #[28, 28] }, type := 28, pos := "law.go:80", after := #[{ on := 4, ground := Ground.data }, { on := 6, ground := Ground.data }, { on := 4, ground := Ground.chain }], guard := none } : Oper)) rfl (fun K hK => ?_) AllReadyH.nil
      rw [if_pos (by rfl)]
      obtain ⟨AM197, cM197, eM197, _, hrM197, _⟩ := HQ196.out.bytes 1 (v := .slice (some ⟨g194, 0, none⟩) 1 1) (xs := [m]) rfl
      obtain ⟨rfl, rfl⟩ : AM197 = some ⟨g194, 0, none⟩ ∧ cM197 = 1 := by injection eM197 with q1 _ q3; exact ⟨q1.symm, q3.symm⟩
      obtain ⟨A197, c197, u197, hr197, hq197⟩ := st_app HQ196.out 2 rfl (c := 1) rfl hrM197 (by simp only [List.length_append, List.length_nil, List.length_cons]; omega)
      refine op_val (run_app (s := Operand.tmp 43) (x := Operand.tmp 45) rfl rfl rfl hr197) ?_
      refine hK.out _ _ hq197.2 (fun hHeld => ?_)
      clear hK
      (try simp only [Act.put, List.setIfInBounds_toArray, List.set_cons_zero, List.set_cons_succ])
      have HQ197 : Aside0 (St wc [boxA 30 g172 Z, byA (.slice (some ⟨g194, 0, none⟩) 1 1) [m], byA (.slice A197 (([] ++ p) ++ [m]).length c197) (([] ++ p) ++ [m])] u197) := ⟨hq197⟩
      clear hq197 hr197
      refine wpAnyH_ready (rs := [8]) (by kernel_rfl) (by simp) ?_
      refine AllReadyH.cons (o := ({ dst := some 47, op := Op.call { callee := Callee.value (Operand.func 11), args := #[Operand.tmp 40, Operand.tmp 46], argTypes := #[3, 28] }, type := 34, pos := "law.go:80", after := #[{ on := 1, ground := Ground.data }, { on := 7, ground := Ground.data }, { on := 7, ground := Ground.chain }], guard := none } : Oper)) rfl (fun K hK => ?_) AllReadyH.nil
      rw [if_pos (by rfl)]
      have hrd198 : ReadsInt u197 .u8 A197 (([] ++ p) ++ [m]).length (([] ++ p) ++ [m]) := by
        obtain ⟨A0, c0, e0, _, hr0, _⟩ := HQ197.out.bytes 2 (v := .slice A197 (([] ++ p) ++ [m]).length c197) (xs := (([] ++ p) ++ [m])) rfl
        injection e0 with q1 _ q3
        rw [q1]
        exact hr0
      have hln198 : p.length + 1 = (([] ++ p) ++ [m]).length := by simp
      have hCd198 : Kd.C (Kd.int .u8) u197 A197 (p.length + 1) (([] ++ p) ++ [m]) := by
        have hx := C_of_ints hrd198
        rw [← hln198] at hx
        exact hx
      have hcall := get_sl e.k (([] ++ p) ++ [m]) (p.length + 1) u197 A197 c197 hln198 hCd198 (byt_app HBP.out (fun x hx => by rw [List.mem_singleton] at hx; subst hx; exact hm)) (by simp only [List.length_append, List.length_nil, List.length_cons]; omega) (ev0 0) 12 (by have := get_more m HRT.out HX.out HG.out; rw [HP.out] at this; exact this)
      have HCALL := Aside0.mk hcall
      clear hcall hrd198 hCd198 hln198
      go_simp
      refine (HCALL.out).mono ?_
      rintro q u199 ⟨F2, F7, F8, f8c, rfl, _, hb199⟩
      have hq199 := HQ197.out.below hb199
      have HQ199 := Aside0.mk hq199
      go_simp
      refine hK.out _ _ hq199.2 (fun hHeld => ?_)
      clear hK
      (try simp only [Act.put, List.setIfInBounds_toArray, List.set_cons_zero, List.set_cons_succ])
      clear hq199 hb199
      clear HCALL
      refine wpAnyH_take (i := 9) (oi := ({ dst := some 38, op := Op.move (Operand.tmp 47), type := 34, pos := "law.go:80", after := #[{ on := 8, ground := Ground.data }], guard := none } : Oper)) (v := ?_) rfl (by kernel_rfl) (by kernel_rfl) (by kernel_rfl) (fun _ _ _ h => h) (Or.inl ⟨by rfl, ?hyU200⟩) (by assumption) ?rsU200
      case hyU200 => (intro w8' hSw; (try dsimp only at hSw); go_simp; (first | done | with_reducible rfl))
      (try simp only [Act.put, List.setIfInBounds_toArray, List.set_cons_zero, List.set_cons_succ])
      refine wpAnyH_take (i := 10) (oi := ({ dst := some 48, op := Op.extract (Operand.tmp 38) 0, type := 30, pos := "law.go:80", after := #[{ on := 9, ground := Ground.data }], guard := none } : Oper)) (v := ?_) rfl (by kernel_rfl) (by kernel_rfl) (by kernel_rfl) (fun _ _ _ h => h) (Or.inl ⟨by rfl, ?hyU201⟩) (by assumption) ?rsU201
      case hyU201 => (intro w8' hSw; (try dsimp only at hSw); go_simp; (first | done | with_reducible rfl))
      (try simp only [Act.put, List.setIfInBounds_toArray, List.set_cons_zero, List.set_cons_succ])
      refine wpAnyH_take (i := 11) (oi := ({ dst := some 49, op := Op.extract (Operand.tmp 38) 1, type := 33, pos := "law.go:80", after := #[{ on := 9, ground := Ground.data }, { on := 13, ground := Ground.gcOnly Departure.lateStores }], guard := none } : Oper)) (v := ?_) rfl (by kernel_rfl) (by kernel_rfl) (by kernel_rfl) (fun _ _ _ h => h) (Or.inl ⟨by rfl, ?hyU202⟩) (by assumption) ?rsU202
      case hyU202 => (intro w8' hSw; (try dsimp only at hSw); go_simp; (first | done | with_reducible rfl))
      (try simp only [Act.put, List.setIfInBounds_toArray, List.set_cons_zero, List.set_cons_succ])
      refine wpAnyH_ready (rs := [13]) (by kernel_rfl) (by simp) ?_
      refine AllReadyH.cons (o := ({ dst := none, op := Op.store 30 (Operand.tmp 12) (Operand.tmp 48), type := 0, pos := "law.go:80", after := #[{ on := 12, ground := Ground.data }, { on := 10, ground := Ground.data }, { on := 8, ground := Ground.chain }, { on := 0, ground := Ground.phase }, { on := 1, ground := Ground.phase }, { on := 2, ground := Ground.phase }, { on := 3, ground := Ground.phase }, { on := 4, ground := Ground.phase }, { on := 5, ground := Ground.phase }, { on := 6, ground := Ground.phase }, { on := 7, ground := Ground.phase }, { on := 8, ground := Ground.phase }, { on := 9, ground := Ground.phase }, { on := 10, ground := Ground.phase }, { on := 11, ground := Ground.textOnly Departure.lateStores }, { on := 12, ground := Ground.phase }], guard := none } : Oper)) rfl (fun K hK => ?_) AllReadyH.nil
      rw [if_pos (by rfl)]
      have hz203 := st_box (T := 30) (cs := Z) (g := g172) HQ199.out (by simp)
      refine op_skip (pick_store (x := Operand.tmp 12) (y := Operand.tmp 48) rfl g172 (Ev27 (ev0 0) F2 F7 F8 f8c) rfl rfl 30 Z hz203 (ev27_size _ _ _ _ _) (by rw [sz]; rfl) (ev27_one _ _ _ _ _)) ?_
      have hq203 := st_setRow (Ev27 (ev0 0) F2 F7 F8 f8c) HQ199.out 0 rfl
      refine hK.out _ _ hq203.2 (fun hHeld => ?_)
      clear hK
      (try simp only [Act.put, List.setIfInBounds_toArray, List.set_cons_zero, List.set_cons_succ])
      generalize u199.setRow g172 (Ev27 (ev0 0) F2 F7 F8 f8c) = u203 at *
      have HQ203 : Aside0 (St wc [boxA 30 g172 (Ev27 (ev0 0) F2 F7 F8 f8c), byA (.slice (some ⟨g194, 0, none⟩) 1 1) [m], byA (.slice A197 (([] ++ p) ++ [m]).length c197) (([] ++ p) ++ [m])] u203) := ⟨hq203⟩
      clear hq203 hz203
      refine wpAnyH_take (i := 14) (oi := ({ dst := some 13, op := Op.assign (Operand.tmp 49), type := 33, pos := "law.go:80", after := #[{ on := 11, ground := Ground.data }, { on := 13, ground := Ground.chain }, { on := 0, ground := Ground.phase }, { on := 1, ground := Ground.phase }, { on := 2, ground := Ground.phase }, { on := 3, ground := Ground.phase }, { on := 4, ground := Ground.phase }, { on := 5, ground := Ground.phase }, { on := 6, ground := Ground.phase }, { on := 7, ground := Ground.phase }, { on := 8, ground := Ground.phase }, { on := 9, ground := Ground.phase }, { on := 10, ground := Ground.phase }, { on := 11, ground := Ground.phase }, { on := 12, ground := Ground.phase }, { on := 13, ground := Ground.phase }], guard := none } : Oper)) (v := ?_) rfl (by kernel_rfl) (by kernel_rfl) (by kernel_rfl) (fun _ _ _ h => h) (Or.inl ⟨by rfl, ?hyU204⟩) (by assumption) ?rsU204
      case hyU204 => (intro w8' hSw; (try dsimp only at hSw); go_simp; (first | done | with_reducible rfl))
      (try simp only [Act.put, List.setIfInBounds_toArray, List.set_cons_zero, List.set_cons_succ])
      refine wpAnyH_done (by kernel_rfl) ?_ _
      refine NoPanic.normal ?_
      go_wp2_with fail
      go_meet
      exact ⟨g172, F2, F7, F8, f8c, rfl, rfl, BC.out.trans (HQ203.out.2.mono BC.out.size), ⟨st_box (T := 30) (cs := Ev27 (ev0 0) F2 F7 F8 f8c) HQ203.out (by simp)⟩, ⟨hd_later hYc.out HQ203.out.2⟩⟩
    case rest =>
      obtain ⟨g12, F2, F7, F8, f8c, rfl, rfl, hBd, hYd, hYe⟩ := hcut
      clear BC hYc hXc hDc
      have BD := Aside0.mk hBd
      clear hBd
      go_wp2_with (first
        | (with_reducible refine hd_gate 56 rfl ?_); refine hd_run (by rfl) (v := .agg (Ev27 (ev0 0) G2 G7 G8 g8c)) (w1 := _) (pick_loadRow rfl g10 rfl 30 _ (0, 0) _ hYe.out hu30 rfl (ev27_size _ _ _ _ _)) ?_)
      refine (same_self (ev0 0) _ _ G2 G7 G8 none none none _ _ g8c 0 0 0 _ rfl (by rw [HZ.out]; rfl) (evAt0 _ _ _ _ _) (z_own (ev0 0) _ 0 0 0 rfl rfl rfl).1 (by decide) (by decide)).mono ?_
      rintro q W10 ⟨rfl, hb10⟩
      have BE := Aside0.mk (BD.out.trans (hb10.mono BD.out.size))
      have hYd2 := Aside0.mk (hd_later hYd.out hb10)
      clear BD hYd hYe hb10
      go_wp2_with (first
        | (with_reducible refine hd_gate 65 rfl ?_); refine hd_run (by rfl) (v := .agg (Ev27 (ev0 0) F2 F7 F8 f8c)) (w1 := W10) (pick_loadRow rfl g12 rfl 30 _ (0, 0) _ hYd2.out hu30 rfl (ev27_size _ _ _ _ _)) ?_)
      refine (same_self (ev0 0) _ _ F2 F7 F8 none none none _ _ f8c 0 0 0 W10 rfl (by rw [HZ.out]; rfl) (evAt0 _ _ _ _ _) (z_own (ev0 0) W10 0 0 0 rfl rfl rfl).1 (by decide) (by decide)).mono ?_
      rintro q W11 ⟨rfl, hb11⟩
      go_wp2_with fail
      go_ret
      exact ⟨rfl, BE.out.trans (hb11.mono BE.out.size)⟩
end Go.Proofs.Ytldohapdhljoaaa.Wire

/- What a call of the law comes to. -/
namespace Go.Proofs.Ytldohapdhljoaaa.Print
open Go.RowKit Go.Proofs.YtldohapdhljoaaaW.PrintWords Go.Proofs.YtldohapdhljoaaaW.PrintLast
set_option linter.unusedVariables false
/-! ### governorlaw09_EventCuts: function 5 -/
def governorlaw09_EventCuts.f (a0_0 : Int) (a0_1 : Int) (a0_2 : Int) (a0_3 : Int) (a0_4 : Int) (a0_5 : Int) (a0_6 : Int) (a0_7 : Int) (l0_8 : List (S46)) (a0_9 : Int) (a0_10 : Int) (a0_11 : Int) (a0_12 : Int) (l0_13 : List (S48)) (a0_14 : Int) (a0_15 : Int) (a0_16 : Int) (a0_17 : Int) (a0_18 : Int) (a0_19 : Int) (a0_20 : Int) (a0_21 : Int) (a0_22 : Int) (a0_23 : Int) (a0_24 : Int) (a0_25 : Int) (l0_26 : List Int) (a1 : Int) (a2 : Int) : Option (Bool) := some true
theorem governorlaw09_EventCuts.calls (a0_0 : Int) (a0_1 : Int) (a0_2 : Int) (a0_3 : Int) (a0_4 : Int) (a0_5 : Int) (a0_6 : Int) (a0_7 : Int) (A0_8 : Option Addr) (c0_8 : Nat) (l0_8 : List (S46)) (a0_9 : Int) (a0_10 : Int) (a0_11 : Int) (a0_12 : Int) (A0_13 : Option Addr) (c0_13 : Nat) (l0_13 : List (S48)) (a0_14 : Int) (a0_15 : Int) (a0_16 : Int) (a0_17 : Int) (a0_18 : Int) (a0_19 : Int) (a0_20 : Int) (a0_21 : Int) (a0_22 : Int) (a0_23 : Int) (a0_24 : Int) (a0_25 : Int) (A0_26 : Option Addr) (c0_26 : Nat) (l0_26 : List Int) (a1 : Int) (a2 : Int) (r : Bool) (w : World) (hr0_8 : Kd.C k46 w A0_8 l0_8.length l0_8) (hc0_8 : l0_8.length ≤ c0_8) (hr0_13 : Kd.C k48 w A0_13 l0_13.length l0_13) (hc0_13 : l0_13.length ≤ c0_13) (hr0_26 : Kd.C (Kd.int .u8) w A0_26 l0_26.length l0_26) (hc0_26 : l0_26.length ≤ c0_26) (h : governorlaw09_EventCuts.f a0_0 a0_1 a0_2 a0_3 a0_4 a0_5 a0_6 a0_7 l0_8 a0_9 a0_10 a0_11 a0_12 l0_13 a0_14 a0_15 a0_16 a0_17 a0_18 a0_19 a0_20 a0_21 a0_22 a0_23 a0_24 a0_25 l0_26 a1 a2 = some r) (hn : Go.Proofs.Ytldohapdhljoaaa.Wire.EvNF ⟨a0_0, a0_1, a0_2, a0_3, a0_4, a0_5, ⟨a0_6, a0_7, l0_8, a0_9, a0_10, a0_11, a0_12, l0_13⟩, ⟨a0_14, a0_15, a0_16, a0_17, a0_18, a0_19, a0_20, a0_21, a0_22, a0_23, a0_24, a0_25⟩, l0_26⟩ w A0_8 A0_13) (hw : (Go.Proofs.Ytldohapdhljoaaa.Wire.EvIn ⟨a0_0, a0_1, a0_2, a0_3, a0_4, a0_5, ⟨a0_6, a0_7, l0_8, a0_9, a0_10, a0_11, a0_12, l0_13⟩, ⟨a0_14, a0_15, a0_16, a0_17, a0_18, a0_19, a0_20, a0_21, a0_22, a0_23, a0_24, a0_25⟩, l0_26⟩ ∧ Go.Proofs.Ytldohapdhljoaaa.Wire.Byt l0_26) ∧ (0 ≤ a1 ∧ a1 ≤ 65535) ∧ 0 ≤ a2 ∧ a2 < 256) :
    Calls Try.prog 5 #[.agg #[.int .i64 a0_0, .int .i64 a0_1, .int .i64 a0_2, .int .i64 a0_3, .int .i64 a0_4, .int .i64 a0_5, .int .i64 a0_6, .int .i64 a0_7, .slice A0_8 l0_8.length c0_8, .int .i64 a0_9, .int .i64 a0_10, .int .i64 a0_11, .int .i64 a0_12, .slice A0_13 l0_13.length c0_13, .int .i64 a0_14, .int .i64 a0_15, .int .i64 a0_16, .int .i64 a0_17, .int .i64 a0_18, .int .i64 a0_19, .int .i64 a0_20, .int .i64 a0_21, .int .i64 a0_22, .int .i64 a0_23, .int .i64 a0_24, .int .i64 a0_25, .slice A0_26 l0_26.length c0_26], .int .u16 a1, .int .u8 a2] w fun e w' => e = .returned (.bool r) ∧ Below w.heap.size w w' := by
  obtain rfl := Option.some.inj h
  exact Go.Proofs.Ytldohapdhljoaaa.Wire.cuts_calls ⟨a0_0, a0_1, a0_2, a0_3, a0_4, a0_5, ⟨a0_6, a0_7, l0_8, a0_9, a0_10, a0_11, a0_12, l0_13⟩, ⟨a0_14, a0_15, a0_16, a0_17, a0_18, a0_19, a0_20, a0_21, a0_22, a0_23, a0_24, a0_25⟩, l0_26⟩ a1 a2 w A0_8 A0_13 A0_26 c0_8 c0_13 c0_26 ⟨⟨⟨hr0_8, hc0_8, hr0_13, hc0_13⟩, hr0_26, hc0_26⟩, hn⟩ hw.1.1 hw.1.2 hw.2.1 hw.2.2


end Go.Proofs.Ytldohapdhljoaaa.Print

/- What is to be shown of governorlaw09_EventCuts in plain Lean. -/
namespace Go.Proofs.Ytldohapdhljoaaa.Print
open Go.RowKit Go.Proofs.YtldohapdhljoaaaW.PrintWords
def governorlaw09_EventCuts.Pure : Prop := ∀ (x0 : S30) (a1 : Int) (a2 : Int), wf30 x0 → (Lit.int .u16 a1).wf = true → (Lit.int .u8 a2).wf = true → governorlaw09_EventCuts.f x0.f0 x0.f1 x0.f2 x0.f3 x0.f4 x0.f5 x0.f6.f0 x0.f6.f1 x0.f6.f2 x0.f6.f3 x0.f6.f4 x0.f6.f5 x0.f6.f6 x0.f6.f7 x0.f7.f0 x0.f7.f1 x0.f7.f2 x0.f7.f3 x0.f7.f4 x0.f7.f5 x0.f7.f6 x0.f7.f7 x0.f7.f8 x0.f7.f9 x0.f7.f10 x0.f7.f11 x0.f8 a1 a2 = some true
end Go.Proofs.Ytldohapdhljoaaa.Print

/- The law EventCuts in plain Lean: it is shown with its call. -/
namespace Go.Proofs.Ytldohapdhljoaaa.Pure
open Go.RowKit Go.Proofs.Ytldohapdhljoaaa.Print Go.Proofs.YtldohapdhljoaaaW.PrintWords Go.Proofs.YtldohapdhljoaaaW.PrintLast

theorem EventCuts : governorlaw09_EventCuts.Pure := by
  unfold governorlaw09_EventCuts.Pure
  intros
  rfl

end Go.Proofs.Ytldohapdhljoaaa.Pure
