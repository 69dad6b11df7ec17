/- Functions of the program as Lean functions, and that its calls come to them; written by a program of this claim over the kit print; Lean checks it. -/
import Derived.Test.YtgfpkgbkbempkaaPrint0
import Derived.Test.YtgfpkgbkbempkaaPrint1
import Derived.Test.YtgfpkgbkbempkaaPrint2
import Derived.Test.YtgfpkgbkbempkaaPrint3
import Derived.Test.YtgfpkgbkbempkaaPrint4
namespace Go.Proofs.Ytgfpkgbkbempkaa.Print
open Go.RowKit Go.Proofs.YtgfpkgbkbempkaaW.PrintWords Go.Proofs.YtgfpkgbkbempkaaW.PrintLast Go.Proofs.YtgfpkgbkbempkaaW.PrintMore
attribute [local go_sem] max2_int min2_int max_two min_two max_three min_three max_four min_four   -- for this text's walks alone
set_option linter.unusedVariables false
set_option linter.unusedSimpArgs false

/-! ### governorlaw03_FrameBack: function 4 -/
theorem hd_laterB {W W' : World} {g : Nat} {o : Obj} (h : W.heap[g]? = some o) (hb : Below W.heap.size W W') : W'.heap[g]? = some o := (hb.block g (Array.getElem?_eq_some_iff.1 h).1).trans h
theorem wpAnyH_mono {P : Program} {md : Region.Mode} {ops : Array Oper} {Q : Exit → Act → World → Prop} {S S' : World → Prop} (h : ∀ w, S' w → S w) : ∀ (fuel : Nat) (listed : Array Bool) (a : Act) (w : World), wpAnyH P md ops Q S' fuel listed a w → wpAnyH P md ops Q S fuel listed a w
  | 0, _, _, _, k => k
  | n + 1, _, _, _, k => ⟨k.1, fun i hi => wpOp_mono (fun a' w' q => ⟨h _ q.1, wpAnyH_mono h n _ a' w' q.2⟩) (k.2 i hi)⟩
structure BP where
  (g : Nat) (t s : Int) (b : List Int) (A5 : Option Addr) (c5 : Nat) (A2 : Option Addr) (l2 : List Int) (w : World)
structure BAt (p : BP) (W : World) : Prop where
  b8 : W.heap[p.g]? = some (.cells #[.int .i64 p.t, .int .i64 p.s, .slice p.A5 p.b.length p.c5] 24 (0, 0))
  cx : Kd.C (Kd.int .u8) W p.A5 p.b.length p.b
  hx : p.b.length ≤ p.c5
  c2 : Kd.C (Kd.int .u8) W p.A2 p.l2.length p.l2
  below : Below p.w.heap.size p.w W
theorem BAt.later {p : BP} {W W' : World} (h : BAt p W) (hb : Below W.heap.size W W') : BAt p W' :=
  ⟨hd_laterB h.b8 hb, Kd.C_below h.cx hb, h.hx, Kd.C_below h.c2 hb, h.below.trans (hb.mono h.below.size)⟩
theorem BAt.alloc {p : BP} {W : World} (h : BAt p W) (o : Obj) : BAt p (W.alloc o) := h.later (below_alloc (Below.refl _ _) o)
theorem BAt.drewN {p : BP} {W : World} (h : BAt p W) (m : Nat) : BAt p (W.drewN m) := h.later (pw_below_drewN (Below.refl _ _) m)
theorem BAt.drew {p : BP} {W : World} (h : BAt p W) : BAt p W.drew := h.later (below_drew1 (Below.refl _ _))
theorem bk_right {p : BP} {W : World} (h : BAt p W) (r : Bool) (hf : frame_Right.f p.t p.s p.b = some r) : Calls Try.prog 14 #[.agg #[.int .i64 p.t, .int .i64 p.s, .slice p.A5 p.b.length p.c5]] W fun e W' => e = .returned (.bool r) ∧ BAt p W' ∧ Below W.heap.size W W' :=
  (frame_Right.calls p.t p.s p.A5 p.c5 p.b r W h.cx h.hx hf).mono fun _ _ q => ⟨q.1, h.later q.2, q.2⟩
theorem bk_put {p : BP} {W : World} (h : BAt p W) (r : List Int) (hf : frame_Put.f p.t p.s p.b = some r) : Calls Try.prog 16 #[.agg #[.int .i64 p.t, .int .i64 p.s, .slice p.A5 p.b.length p.c5]] W fun e W' => ∃ A' c', e = .returned (.slice A' r.length c') ∧ Kd.C (Kd.int .u8) W' A' r.length r ∧ BAt p W' ∧ Below W.heap.size W W' :=
  (put_sl p.t p.s p.A5 p.c5 p.b W h.cx h.hx r hf).mono fun _ _ ⟨A', c', q1, _, q3, q4⟩ => ⟨A', c', q1, q3, h.later q4, q4⟩
theorem bk_cut {p : BP} {W : World} (h : BAt p W) (m : Int) (hm : m ≤ p.l2.length) : Kd.C (Kd.int .u8) W p.A2 m.toNat (p.l2.take m.toNat) := C_cut h.c2 m.toNat (by omega)
structure CP where
  (a0 a1 : Int) (A0 : Option Addr) (c0 : Nat) (l0 : List Int) (g3 g9 : Nat) (t s : Int) (b : List Int) (A5 : Option Addr) (c5 : Nat) (w : World)
structure CAt (p : CP) (W : World) : Prop where
  b3 : W.heap[p.g3]? = some (.cells #[.int .i64 p.a0, .int .i64 p.a1, .slice p.A0 p.l0.length p.c0] 24 (0, 0))
  b9 : W.heap[p.g9]? = some (.cells #[.int .i64 p.t, .int .i64 p.s, .slice p.A5 p.b.length p.c5] 24 (0, 0))
  cl : Kd.C (Kd.int .u8) W p.A0 p.l0.length p.l0
  hl : p.l0.length ≤ p.c0
  cx : Kd.C (Kd.int .u8) W p.A5 p.b.length p.b
  hx : p.b.length ≤ p.c5
  below : Below p.w.heap.size p.w W
theorem CAt.later {p : CP} {W W' : World} (h : CAt p W) (hb : Below W.heap.size W W') : CAt p W' :=
  ⟨hd_laterB h.b3 hb, hd_laterB h.b9 hb, Kd.C_below h.cl hb, h.hl, Kd.C_below h.cx hb, h.hx, h.below.trans (hb.mono h.below.size)⟩
theorem CAt.alloc {p : CP} {W : World} (h : CAt p W) (o : Obj) : CAt p (W.alloc o) := h.later (below_alloc (Below.refl _ _) o)
theorem CAt.drewN {p : CP} {W : World} (h : CAt p W) (m : Nat) : CAt p (W.drewN m) := h.later (pw_below_drewN (Below.refl _ _) m)
theorem CAt.drew {p : CP} {W : World} (h : CAt p W) : CAt p W.drew := h.later (below_drew1 (Below.refl _ _))
theorem ck_right {p : CP} {W : World} (h : CAt p W) (r : Bool) (hf : frame_Right.f p.a0 p.a1 p.l0 = some r) : Calls Try.prog 14 #[.agg #[.int .i64 p.a0, .int .i64 p.a1, .slice p.A0 p.l0.length p.c0]] W fun e W' => e = .returned (.bool r) ∧ CAt p W' :=
  (frame_Right.calls p.a0 p.a1 p.A0 p.c0 p.l0 r W h.cl h.hl hf).mono fun _ _ q => ⟨q.1, h.later q.2⟩
theorem ck_same {p : CP} {W : World} (h : CAt p W) (g g' : Nat) (hg : g = W.heap.size) (hg' : g' = W.heap.size + 1) (hf : sameL [(⟨p.t, p.s, p.b⟩ : S24)] [(⟨p.a0, p.a1, p.l0⟩ : S24)] = true) :
    Calls Try.prog 18 #[.slice (some ⟨g, 0, none⟩) 1 1, .slice (some ⟨g', 0, none⟩) 1 1] ((W.alloc (.cells #[.int .i64 p.t, .int .i64 p.s, .slice p.A5 p.b.length p.c5] 24)).alloc (.cells #[.int .i64 p.a0, .int .i64 p.a1, .slice p.A0 p.l0.length p.c0] 24)) fun e W' => e = .returned (.bool true) ∧ CAt p W' :=
  (governorref03_Same.calls (some ⟨g, 0, none⟩) 1 [(⟨p.t, p.s, p.b⟩ : S24)] (some ⟨g', 0, none⟩) 1 [(⟨p.a0, p.a1, p.l0⟩ : S24)] true _ (Kd.C_alloc (C_one24 W (⟨p.t, p.s, p.b⟩ : S24) p.A5 _ p.c5 g (0, 0) rfl h.hx h.cx hg) _) (Nat.le_refl 1) (C_one24 _ (⟨p.a0, p.a1, p.l0⟩ : S24) p.A0 _ p.c0 g' (0, 0) rfl h.hl (Kd.C_alloc h.cl _) (by rw [hg']; simp)) (Nat.le_refl 1) (by unfold governorref03_Same.f; rw [hf])).mono fun _ _ q => ⟨q.1, ((h.alloc _).alloc _).later q.2.below⟩
def governorlaw03_FrameBack.f (a0_0 : Int) (a0_1 : Int) (l0_2 : List Int) (l1 : List Int) (l2 : List Int) : Option (Bool) :=
  if l0_2.length > 9000 ∨ l1.length > 9000 ∨ l2.length > 9000 then some true else
  (frame_Right.f a0_0 a0_1 l0_2).bind fun r => (frame_Put.f a0_0 a0_1 l0_2).bind fun p => (frame_Get.f (([] ++ p) ++ l1)).bind fun x => (frame_Get.f l2).bind fun y =>
  if p.length ≤ 100000 ∧ (r = true → sameL [(⟨x.1, x.2.1, x.2.2.1⟩ : S24)] [(⟨a0_0, a0_1, l0_2⟩ : S24)] = true ∧ x.2.2.2.1 = (p.length : Int) ∧ x.2.2.2.2 = 0 ∧ x.2.2.2.1 = 11 + (l0_2.length : Int)) ∧ (r = false → p.length = 0) then
    if y.2.2.2.2 = 0 then (frame_Right.f y.1 y.2.1 y.2.2.1).bind fun r2 => (frame_Put.f y.1 y.2.1 y.2.2.1).bind fun q => if r2 = true ∧ 0 ≤ y.2.2.2.1 ∧ y.2.2.2.1 ≤ (l2.length : Int) ∧ q = l2.take y.2.2.2.1.toNat then some true else none
    else if y.2.2.2.1 = 0 ∧ y.2.2.1.length = 0 ∧ y.1 = 0 then some true else none
  else none
set_option maxRecDepth 100000 in
set_option maxHeartbeats 8000000 in
theorem governorlaw03_FrameBack.calls (a0_0 : Int) (a0_1 : Int) (A0_2 : Option Addr) (c0_2 : Nat) (l0_2 : List Int) (A1 : Option Addr) (c1 : Nat) (l1 : List Int) (A2 : Option Addr) (c2 : Nat) (l2 : List Int) (r : Bool) (w : World) (hr0_2 : Kd.C (Kd.int .u8) w A0_2 l0_2.length l0_2) (hc0_2 : l0_2.length ≤ c0_2) (hr1 : Kd.C (Kd.int .u8) w A1 l1.length l1) (hc1 : l1.length ≤ c1) (hr2 : Kd.C (Kd.int .u8) w A2 l2.length l2) (hc2 : l2.length ≤ c2) (h : governorlaw03_FrameBack.f a0_0 a0_1 l0_2 l1 l2 = some r) :
    Calls Try.prog 4 #[.agg #[.int .i64 a0_0, .int .i64 a0_1, .slice A0_2 l0_2.length c0_2], .slice A1 l1.length c1, .slice A2 l2.length c2] w fun e w' => e = .returned (.bool r) ∧ Below w.heap.size w w' := by
  have hu24 := Try.underlying24
  have hu22 := Try.underlying22
  obtain ⟨i5, hi5, _⟩ := Option.map_eq_some_iff.1 Go.Proofs.Ytgfpkgbkbempkaa.W.info5'
  have HR0 := Aside0.mk hr0_2
  have HC0 := Aside0.mk hc0_2
  have HR1 := Aside0.mk hr1
  have HC1 := Aside0.mk hc1
  have HR2 := Aside0.mk hr2
  have HC2 := Aside0.mk hc2
  have HB0 := Aside0.mk (show Below w.heap.size w _ from below_alloc (Below.refl w.heap.size w) (.cells #[.int .i64 a0_0, .int .i64 a0_1, .slice A0_2 l0_2.length c0_2] 24))
  have HX0 := Aside0.mk (heap_alloc_last w (.cells #[.int .i64 a0_0, .int .i64 a0_1, .slice A0_2 l0_2.length c0_2] 24))
  clear hr0_2 hc0_2 hr1 hc1 hr2 hc2
  unfold governorlaw03_FrameBack.f at h
  have H := Aside0.mk h
  clear h
  go_enter Try.func4, Try.ntmps4
  go_wp2_with fail
  refine (governorlaw03_head.calls true _ rfl).mono ?_
  rintro e w1 ⟨rfl, hb1⟩
  have HB1 := Aside0.mk (HB0.out.trans (hb1.mono HB0.out.size))
  have hX1 := hd_laterB HX0.out hb1
  have d0 := Go.Proofs.Ytgfpkgbkbempkaa.W.cellOf hX1 0 rfl
  have d1 := Go.Proofs.Ytgfpkgbkbempkaa.W.cellOf hX1 1 rfl
  have d2 := Go.Proofs.Ytgfpkgbkbempkaa.W.cellOf hX1 2 rfl
  have HX1 := Aside0.mk hX1
  clear hb1 HB0 HX0 hX1
  by_cases h9 : l0_2.length > 9000
  · obtain rfl : true = r := by have h := H.out; rw [if_pos (.inl h9)] at h; exact Option.some.inj h
    have b9 : decide (9000 < (l0_2.length : Int)) = true := decide_eq_true (by omega)
    have b9' : ((9000 : Int) < (l0_2.length : Int)) = True := eq_true (by omega)
    go_wp2_with fail
    go_ret
    exact ⟨rfl, HB1.out⟩
  have b9 : decide (9000 < (l0_2.length : Int)) = false := decide_eq_false (by omega)
  by_cases h8 : l1.length > 9000
  · obtain rfl : true = r := by have h := H.out; rw [if_pos (.inr (.inl h8))] at h; exact Option.some.inj h
    have b8 : decide (9000 < (l1.length : Int)) = true := decide_eq_true (by omega)
    go_wp2_with fail
    go_ret
    exact ⟨rfl, HB1.out⟩
  have b8 : decide (9000 < (l1.length : Int)) = false := decide_eq_false (by omega)
  by_cases h7 : l2.length > 9000
  · obtain rfl : true = r := by have h := H.out; rw [if_pos (.inr (.inr h7))] at h; exact Option.some.inj h
    have b7 : decide (9000 < (l2.length : Int)) = true := decide_eq_true (by omega)
    go_wp2_with fail
    go_ret
    exact ⟨rfl, HB1.out⟩
  have b7 : decide (9000 < (l2.length : Int)) = false := decide_eq_false (by omega)
  have h := H.out
  rw [if_neg (by omega)] at h
  obtain ⟨rr, e5, h⟩ := Option.bind_eq_some_iff.1 h
  obtain ⟨p, e7, h⟩ := Option.bind_eq_some_iff.1 h
  obtain ⟨⟨t, s, b, m, er⟩, e1, h⟩ := Option.bind_eq_some_iff.1 h
  obtain ⟨⟨t2, s2, b2, m2, er2⟩, e2, h⟩ := Option.bind_eq_some_iff.1 h
  split at h
  case isFalse => cases h
  rename_i hh
  obtain ⟨hp, k1, k2⟩ := hh
  have E1 := Aside0.mk e1
  have E2 := Aside0.mk e2
  have E5 := Aside0.mk e5
  have E7 := Aside0.mk e7
  have K1 := Aside0.mk k1
  have K2 := Aside0.mk k2
  replace H := Aside0.mk h
  have PL := Aside0.mk hp
  clear e1 e2 e5 e7 k1 k2 h hp
  go_wp2_with fail
  refine (put_sl a0_0 a0_1 A0_2 c0_2 l0_2 w1 (Kd.C_below HR0.out (HB1.out.mono (Nat.le_refl _))) HC0.out p E7.out).mono ?_
  rintro e w2 ⟨Ap, cp, rfl, hcp, hCp, hb2⟩
  have HB2 := Aside0.mk (HB1.out.trans (hb2.mono HB1.out.size))
  have HX2 := Aside0.mk (hd_laterB HX1.out hb2)
  have CP := Aside0.mk hCp
  clear hb2 hCp d0 d1 d2 HX1 HB1
  go_wp2_with (first
    | (at_builtin; (with_reducible refine wpl_append w2 w2.heap.size (.tmp 34) (.tmp 35) rfl rfl ?_); refine ⟨_, [], p, Ap, p.length, cp, rfl, rfl, rfl, Go.Proofs.Ytgfpkgbkbempkaa.W.own_empty (heap_alloc_last _ _) (Nat.le_refl _), Kd.C_alloc CP.out _, below_alloc (Below.refl _ _) _, by simp, (by have := PL.out; simp; omega), ?_⟩; intro A3 c3 W3 ho3 hb3 _; have HO3 := Aside0.mk ho3; have HB3 := Aside0.mk hb3; clear ho3 hb3)
    | (at_builtin; (with_reducible refine wpl_append w2 w2.heap.size (.tmp 36) (.tmp 37) rfl rfl ?_); refine ⟨_, [] ++ p, l1, A1, l1.length, c1, rfl, rfl, rfl, HO3.out, Kd.C_below HR1.out (HB2.out.mono (Nat.le_refl _) |>.trans (HB3.out.mono HB2.out.size)), HB3.out, HB3.out.size, (by have := PL.out; simp; omega), ?_⟩; intro A4 c4 W4 ho4 hb4 _; have HO4 := Aside0.mk ho4; have HB4 := Aside0.mk hb4; clear ho4 hb4))
  have e4 : p.length + l1.length = (([] ++ p) ++ l1).length := by simp
  have o4 := own_sl HO4.out _ e4
  refine (get_sl A4 (p.length + l1.length) c4 _ W4 e4 o4.1 o4.2 _ _ _ _ _ E1.out).mono ?_
  rintro e w5 ⟨A5, c5, rfl, hc5, hC5, hb5⟩
  have HB5 := Aside0.mk (HB2.out.trans ((HB4.out.trans (hb5.mono HB4.out.size)).mono HB2.out.size))
  have hT : CAt ⟨a0_0, a0_1, A0_2, c0_2, l0_2, w.heap.size, w5.heap.size, t, s, b, A5, c5, w⟩ (w5.alloc (.cells #[.int .i64 t, .int .i64 s, .slice A5 b.length c5] 24)) :=
    ⟨Go.Proofs.Ytgfpkgbkbempkaa.W.hd_old (hd_laterB HX2.out (HB4.out.trans (hb5.mono HB4.out.size))) _, heap_alloc_last _ _, Kd.C_alloc (Kd.C_below HR0.out (HB5.out.mono (Nat.le_refl _))) _, HC0.out, Kd.C_alloc hC5 _, hc5, below_alloc HB5.out _⟩
  have d0 := Go.Proofs.Ytgfpkgbkbempkaa.W.cellOf hT.b3 0 rfl
  have d1 := Go.Proofs.Ytgfpkgbkbempkaa.W.cellOf hT.b3 1 rfl
  have d2 := Go.Proofs.Ytgfpkgbkbempkaa.W.cellOf hT.b3 2 rfl
  dsimp only at d0 d1 d2
  have HT := Aside0.mk hT
  clear hT hb5 hC5 e4 o4 HO4 HB4 HO3 HB3 HX2 CP HB5 HB2 E1 E7
  go_wp2_with fail
  refine (ck_right (p := ⟨a0_0, a0_1, A0_2, c0_2, l0_2, w.heap.size, w5.heap.size, t, s, b, A5, c5, w⟩) HT.out rr E5.out).mono ?_
  clear d0 d1 d2
  rintro e w6 ⟨rfl, hT⟩
  have d0 := Go.Proofs.Ytgfpkgbkbempkaa.W.cellOf hT.b3 0 rfl
  have d1 := Go.Proofs.Ytgfpkgbkbempkaa.W.cellOf hT.b3 1 rfl
  have d2 := Go.Proofs.Ytgfpkgbkbempkaa.W.cellOf hT.b3 2 rfl
  have d3 := Go.Proofs.Ytgfpkgbkbempkaa.W.cellOf hT.b9 0 rfl
  have d4 := Go.Proofs.Ytgfpkgbkbempkaa.W.cellOf hT.b9 1 rfl
  have d5 := Go.Proofs.Ytgfpkgbkbempkaa.W.cellOf hT.b9 2 rfl
  dsimp only at d0 d1 d2 d3 d4 d5
  have HT := Aside0.mk hT
  clear hT
  cases rr with
  | true =>
    obtain ⟨ks, km, ke, kn⟩ := K1.out rfl
    have KS := Aside0.mk ks
    have KM := Aside0.mk km
    have KE := Aside0.mk ke
    have w11 : IntKind.i64.wrap (11 + (l0_2.length : Int)) = m := by
      have := kn
      have : m = 11 + (l0_2.length : Int) := kn
      rw [this, IntKind.wrap_i64]
      omega
    have bm : (m != (p.length : Int)) = false := by rw [show m = (p.length : Int) from km]; exact bne_self_eq_false _
    have be : (er != 0) = false := by rw [show er = 0 from ke]; rfl
    clear ks km ke kn
    go_wp2_with (first
      | ((with_reducible refine gate_dst (N := 46) rfl ?_); (try (refine gate_guard (by rfl) ?_; dsimp only)); refine wpList_load_row rfl 24 (.tmp 9) rfl w5.heap.size rfl 24 (#[.int .i64 t, .int .i64 s, .slice A5 b.length c5] : Array Value) (0, 0) _ HT.out.b9 hu24 rfl (by kernel_rfl) ?_)
      | ((with_reducible refine gate_dst (N := 48) rfl ?_); (try (refine gate_guard (by rfl) ?_; dsimp only)); refine wpList_load_row rfl 24 (.tmp 3) rfl w.heap.size rfl 24 (#[.int .i64 a0_0, .int .i64 a0_1, .slice A0_2 l0_2.length c0_2] : Array Value) (0, 0) _ (Go.Proofs.Ytgfpkgbkbempkaa.W.hd_old HT.out.b3 _) hu24 rfl (by kernel_rfl) ?_))
    refine (ck_same (p := ⟨a0_0, a0_1, A0_2, c0_2, l0_2, w.heap.size, w5.heap.size, t, s, b, A5, c5, w⟩) HT.out _ _ rfl (by simp) KS.out).mono ?_
    clear d0 d1 d2 d3 d4 d5
    rintro e w7 ⟨rfl, hT⟩
    have d0 := Go.Proofs.Ytgfpkgbkbempkaa.W.cellOf hT.b3 0 rfl
    have d1 := Go.Proofs.Ytgfpkgbkbempkaa.W.cellOf hT.b3 1 rfl
    have d2 := Go.Proofs.Ytgfpkgbkbempkaa.W.cellOf hT.b3 2 rfl
    have d3 := Go.Proofs.Ytgfpkgbkbempkaa.W.cellOf hT.b9 0 rfl
    have d4 := Go.Proofs.Ytgfpkgbkbempkaa.W.cellOf hT.b9 1 rfl
    have d5 := Go.Proofs.Ytgfpkgbkbempkaa.W.cellOf hT.b9 2 rfl
    dsimp only at d0 d1 d2 d3 d4 d5
    have HT := Aside0.mk hT
    clear hT
    go_wp2_with fail
    refine (ck_right (p := ⟨a0_0, a0_1, A0_2, c0_2, l0_2, w.heap.size, w5.heap.size, t, s, b, A5, c5, w⟩) HT.out true E5.out).mono ?_
    clear d0 d1 d2 d3 d4 d5
    rintro e w8 ⟨rfl, hT⟩
    have d0 := Go.Proofs.Ytgfpkgbkbempkaa.W.cellOf hT.b3 0 rfl
    have d1 := Go.Proofs.Ytgfpkgbkbempkaa.W.cellOf hT.b3 1 rfl
    have d2 := Go.Proofs.Ytgfpkgbkbempkaa.W.cellOf hT.b3 2 rfl
    have d3 := Go.Proofs.Ytgfpkgbkbempkaa.W.cellOf hT.b9 0 rfl
    have d4 := Go.Proofs.Ytgfpkgbkbempkaa.W.cellOf hT.b9 1 rfl
    have d5 := Go.Proofs.Ytgfpkgbkbempkaa.W.cellOf hT.b9 2 rfl
    dsimp only at d0 d1 d2 d3 d4 d5
    have HT := Aside0.mk hT
    clear hT
    go_wp2_with fail
    all_goals (refine (get_sl A2 _ c2 l2 w8 rfl (Kd.C_below HR2.out (HT.out.below.mono (Nat.le_refl _))) HC2.out _ _ _ _ _ E2.out).mono ?_; clear d0 d1 d2 d3 d4 d5; rintro e w9 ⟨A7, c7, rfl, hc7, hC7, hb9⟩)
    all_goals have hU : BAt ⟨w9.heap.size, t2, s2, b2, A7, c7, A2, l2, w⟩ (w9.alloc (.cells #[.int .i64 t2, .int .i64 s2, .slice A7 b2.length c7] 24)) := ⟨heap_alloc_last _ _, Kd.C_alloc hC7 _, hc7, Kd.C_alloc (Kd.C_below HR2.out ((HT.out.below.trans (hb9.mono HT.out.below.size)).mono (Nat.le_refl _))) _, below_alloc (HT.out.below.trans (hb9.mono HT.out.below.size)) _⟩
    all_goals (have d0 := Go.Proofs.Ytgfpkgbkbempkaa.W.cellOf hU.b8 0 rfl; have d1 := Go.Proofs.Ytgfpkgbkbempkaa.W.cellOf hU.b8 1 rfl; have d2 := Go.Proofs.Ytgfpkgbkbempkaa.W.cellOf hU.b8 2 rfl; dsimp only at d0 d1 d2)
    all_goals have HU := Aside0.mk hU
    all_goals clear hb9 hC7 hc7 HT
    all_goals have h := H.out
    all_goals (try dsimp only at h)
    all_goals by_cases h0 : er2 = 0
    all_goals first
      | (rw [if_neg h0] at h
         have be2 : (er2 != 0) = true := bne_iff_ne.2 h0
         split at h
         case isFalse => cases h
         rename_i hz
         obtain rfl := Option.some.inj h
         obtain ⟨z1, z2, z3⟩ := hz
         have bm2 : (m2 == 0) = true := beq_iff_eq.2 z1
         have bt2 : (t2 == 0) = true := beq_iff_eq.2 z3
         have bl2 : ((b2.length : Int) == 0) = true := by rw [z2]; rfl
         clear z1 z2 z3 h hU
         go_wp2_with fail
         go_ret
         exact ⟨rfl, BAt.below (p := ⟨w9.heap.size, t2, s2, b2, A7, c7, A2, l2, w⟩) (by with_reducible (repeat (first | exact HU.out | refine BAt.alloc ?_ _ | refine BAt.drewN ?_ _ | refine BAt.drew ?_)))⟩)
      | skip
    all_goals rw [if_pos h0] at h
    all_goals obtain ⟨r2, f1, h⟩ := Option.bind_eq_some_iff.1 h
    all_goals obtain ⟨q, f2, h⟩ := Option.bind_eq_some_iff.1 h
    all_goals (split at h; case isFalse => cases h)
    all_goals rename_i hz
    all_goals obtain rfl := Option.some.inj h
    all_goals obtain ⟨rfl, z2, z3, rfl⟩ := hz
    all_goals have F1 := Aside0.mk f1
    all_goals have F2 := Aside0.mk f2
    all_goals have HM := Aside0.mk z3
    all_goals have HLT := Aside0.mk (show (l2.take m2.toNat).length = m2.toNat by rw [List.length_take]; omega)
    all_goals have be2 : (er2 != 0) = false := by rw [h0]; rfl
    all_goals have bm2 : decide (m2 ≤ (l2.length : Int)) = true := decide_eq_true z3
    all_goals have kcut := cut_to (P := Try.prog) 22 5 .i64 Try.underlying22 hi5 A2 l2.length c2 m2 z2 z3 HC2.out
    all_goals (have kB := Kd.C_string (P := Try.prog) (c := c2) Try.underlying22 Try.underlying5 Try.underlying9 (bk_cut hU m2 HM.out); dsimp only at kB)
    all_goals clear f1 f2 h hU
    all_goals go_wp2_with fail
    have kBd := Kd.C_string (P := Try.prog) (c := c2) Try.underlying22 Try.underlying5 Try.underlying9 (bk_cut HU.out.drew m2 HM.out)
    dsimp only at kBd
    refine wp_region_noPanic ?_
    refine wp_region_held_drew (S := fun w' => w'.cell? ⟨w9.heap.size, 0, none⟩ = some (.int .i64 t2) ∧ w'.cell? ⟨w9.heap.size, 1, none⟩ = some (.int .i64 s2) ∧ w'.cell? ⟨w9.heap.size, 2, none⟩ = some (.slice A7 b2.length c7) ∧ (convert 22 9 (.slice A2 m2.toNat c2)).run Try.prog w' = .ok (.string (strOfNums (l2.take m2.toNat))) w') (by kernel_rfl) ⟨d0, d1, d2, kBd⟩ (fun hHeld => ?_)
    refine wpAnyH_take (i := 0) (oi := ({ dst := some 105, op := Op.move (Operand.tmp 7), type := 4, pos := "law.go:65", after := #[], guard := none } : Oper)) (v := ?_) rfl (by kernel_rfl) (by kernel_rfl) (by kernel_rfl) (fun _ _ _ h => h) (Or.inl ⟨by rfl, ?hyA0⟩) (by assumption) ?rsA0
    case hyA0 => (intro w8' hSw; (try dsimp only at hSw); go_simp; (first | done | with_reducible rfl))
    (try simp only [Act.put, List.setIfInBounds_toArray, List.set_cons_zero, List.set_cons_succ])
    refine wpAnyH_take (i := 1) (oi := ({ dst := some 106, op := Op.move (Operand.tmp 105), type := 4, pos := "law.go:65", after := #[{ on := 0, ground := Ground.data }], guard := none } : Oper)) (v := ?_) rfl (by kernel_rfl) (by kernel_rfl) (by kernel_rfl) (fun _ _ _ h => h) (Or.inl ⟨by rfl, ?hyA1⟩) (by assumption) ?rsA1
    case hyA1 => (intro w8' hSw; (try dsimp only at hSw); go_simp; (first | done | with_reducible rfl))
    (try simp only [Act.put, List.setIfInBounds_toArray, List.set_cons_zero, List.set_cons_succ])
    refine wpAnyH_take (i := 2) (oi := ({ dst := some 107, op := Op.load 24 (Operand.tmp 12), type := 24, pos := "law.go:65", after := #[{ on := 1, ground := Ground.guard }], guard := some (1, true) } : Oper)) (v := ?_) rfl (by kernel_rfl) (by kernel_rfl) (by kernel_rfl) (fun _ _ _ h => h) (Or.inl ⟨by rfl, ?hyA2⟩) (by assumption) ?rsA2
    case hyA2 => (intro w8' hSw; (try dsimp only at hSw); go_simp; (first | done | with_reducible rfl))
    (try simp only [Act.put, List.setIfInBounds_toArray, List.set_cons_zero, List.set_cons_succ])
    refine wpAnyH_ready (rs := [3]) (by kernel_rfl) (by simp) ?_
    refine AllReadyH.cons (o := ({ dst := some 108, op := Op.call { callee := Callee.value (Operand.func 14), args := #[Operand.tmp 107], argTypes := #[24] }, type := 4, pos := "law.go:65", after := #[{ on := 2, ground := Ground.data }, { on := 1, ground := Ground.chain }, { on := 1, ground := Ground.guard }], guard := some (1, true) } : Oper)) rfl (fun K hK => ?_) AllReadyH.nil
    (rw [if_pos (by rfl)]; go_simp; refine (bk_right (p := ⟨w9.heap.size, t2, s2, b2, A7, c7, A2, l2, w⟩) (by with_reducible (repeat (first | exact HU.out | refine BAt.alloc ?_ _ | refine BAt.drewN ?_ _ | refine BAt.drew ?_))) true F1.out).mono ?_; rintro e w5 ⟨rfl, hU, hb⟩; have d0 := Go.Proofs.Ytgfpkgbkbempkaa.W.cellOf hU.b8 0 rfl; have d1 := Go.Proofs.Ytgfpkgbkbempkaa.W.cellOf hU.b8 1 rfl; have d2 := Go.Proofs.Ytgfpkgbkbempkaa.W.cellOf hU.b8 2 rfl; dsimp only at d0 d1 d2; have kB := Kd.C_string (P := Try.prog) (c := c2) Try.underlying22 Try.underlying5 Try.underlying9 (bk_cut hU m2 HM.out); dsimp only at kB; have HU := Aside0.mk hU; clear hb hU; go_simp)
    refine hK.out _ _ ⟨d0, d1, d2, kB⟩ (fun hHeld => ?_)
    clear hK
    (try simp only [Act.put, List.setIfInBounds_toArray, List.set_cons_zero, List.set_cons_succ])
    refine wpAnyH_take (i := 4) (oi := ({ dst := some 109, op := Op.pick (Operand.tmp 106) (Operand.tmp 108) (Operand.const (Value.bool false)), type := 4, pos := "law.go:65", after := #[{ on := 1, ground := Ground.data }, { on := 3, ground := Ground.data }], guard := none } : Oper)) (v := ?_) rfl (by kernel_rfl) (by kernel_rfl) (by kernel_rfl) (fun _ _ _ h => h) (Or.inl ⟨by rfl, ?hyA4⟩) (by assumption) ?rsA4
    case hyA4 => (intro w8' hSw; (try dsimp only at hSw); go_simp; (first | done | with_reducible rfl))
    (try simp only [Act.put, List.setIfInBounds_toArray, List.set_cons_zero, List.set_cons_succ])
    refine wpAnyH_take (i := 5) (oi := ({ dst := some 110, op := Op.move (Operand.tmp 109), type := 4, pos := "law.go:65", after := #[{ on := 4, ground := Ground.data }, { on := 3, ground := Ground.chain }], guard := none } : Oper)) (v := ?_) rfl (by kernel_rfl) (by kernel_rfl) (by kernel_rfl) (fun _ _ _ h => h) (Or.inl ⟨by rfl, ?hyA5⟩) (by assumption) ?rsA5
    case hyA5 => (intro w8' hSw; (try dsimp only at hSw); go_simp; (first | done | with_reducible rfl))
    (try simp only [Act.put, List.setIfInBounds_toArray, List.set_cons_zero, List.set_cons_succ])
    refine wpAnyH_take (i := 6) (oi := ({ dst := some 111, op := Op.move (Operand.tmp 13), type := 3, pos := "law.go:65", after := #[{ on := 5, ground := Ground.guard }], guard := some (5, true) } : Oper)) (v := ?_) rfl (by kernel_rfl) (by kernel_rfl) (by kernel_rfl) (fun _ _ _ h => h) (Or.inl ⟨by rfl, ?hyA6⟩) (by assumption) ?rsA6
    case hyA6 => (intro w8' hSw; (try dsimp only at hSw); go_simp; (first | done | with_reducible rfl))
    (try simp only [Act.put, List.setIfInBounds_toArray, List.set_cons_zero, List.set_cons_succ])
    refine wpAnyH_take (i := 7) (oi := ({ dst := some 112, op := Op.move (Operand.tmp 2), type := 22, pos := "law.go:65", after := #[{ on := 5, ground := Ground.guard }], guard := some (5, true) } : Oper)) (v := ?_) rfl (by kernel_rfl) (by kernel_rfl) (by kernel_rfl) (fun _ _ _ h => h) (Or.inl ⟨by rfl, ?hyA7⟩) (by assumption) ?rsA7
    case hyA7 => (intro w8' hSw; (try dsimp only at hSw); go_simp; (first | done | with_reducible rfl))
    (try simp only [Act.put, List.setIfInBounds_toArray, List.set_cons_zero, List.set_cons_succ])
    refine wpAnyH_take (i := 8) (oi := ({ dst := some 113, op := Op.call { callee := Callee.builtin Builtin.len, args := #[Operand.tmp 112], argTypes := #[22] }, type := 3, pos := "law.go:65", after := #[{ on := 7, ground := Ground.data }, { on := 5, ground := Ground.guard }], guard := some (5, true) } : Oper)) (v := ?_) rfl (by kernel_rfl) (by kernel_rfl) (by kernel_rfl) (fun _ _ _ h => h) (Or.inl ⟨by rfl, ?hyA8⟩) (by assumption) ?rsA8
    case hyA8 => (intro w8' hSw; (try dsimp only at hSw); go_simp; (first | done | with_reducible rfl))
    (try simp only [Act.put, List.setIfInBounds_toArray, List.set_cons_zero, List.set_cons_succ])
    refine wpAnyH_take (i := 9) (oi := ({ dst := some 114, op := Op.binOp BinOp.leq 3 (Operand.tmp 111) (Operand.tmp 113) 3, type := 4, pos := "law.go:65", after := #[{ on := 6, ground := Ground.data }, { on := 8, ground := Ground.data }, { on := 5, ground := Ground.guard }], guard := some (5, true) } : Oper)) (v := ?_) rfl (by kernel_rfl) (by kernel_rfl) (by kernel_rfl) (fun _ _ _ h => h) (Or.inl ⟨by rfl, ?hyA9⟩) (by assumption) ?rsA9
    case hyA9 => (intro w8' hSw; (try dsimp only at hSw); go_simp; (first | done | with_reducible rfl))
    (try simp only [Act.put, List.setIfInBounds_toArray, List.set_cons_zero, List.set_cons_succ])
    refine wpAnyH_take (i := 10) (oi := ({ dst := some 115, op := Op.pick (Operand.tmp 110) (Operand.tmp 114) (Operand.const (Value.bool false)), type := 4, pos := "law.go:65", after := #[{ on := 5, ground := Ground.data }, { on := 9, ground := Ground.data }], guard := none } : Oper)) (v := ?_) rfl (by kernel_rfl) (by kernel_rfl) (by kernel_rfl) (fun _ _ _ h => h) (Or.inl ⟨by rfl, ?hyA10⟩) (by assumption) ?rsA10
    case hyA10 => (intro w8' hSw; (try dsimp only at hSw); go_simp; (first | done | with_reducible rfl))
    (try simp only [Act.put, List.setIfInBounds_toArray, List.set_cons_zero, List.set_cons_succ])
    refine wpAnyH_take (i := 11) (oi := ({ dst := some 116, op := Op.move (Operand.tmp 115), type := 4, pos := "law.go:65", after := #[{ on := 10, ground := Ground.data }, { on := 5, ground := Ground.chain }], guard := none } : Oper)) (v := ?_) rfl (by kernel_rfl) (by kernel_rfl) (by kernel_rfl) (fun _ _ _ h => h) (Or.inl ⟨by rfl, ?hyA11⟩) (by assumption) ?rsA11
    case hyA11 => (intro w8' hSw; (try dsimp only at hSw); go_simp; (first | done | with_reducible rfl))
    (try simp only [Act.put, List.setIfInBounds_toArray, List.set_cons_zero, List.set_cons_succ])
    refine wpAnyH_take (i := 12) (oi := ({ dst := some 117, op := Op.load 24 (Operand.tmp 12), type := 24, pos := "law.go:65", after := #[{ on := 11, ground := Ground.guard }], guard := some (11, true) } : Oper)) (v := ?_) rfl (by kernel_rfl) (by kernel_rfl) (by kernel_rfl) (fun _ _ _ h => h) (Or.inl ⟨by rfl, ?hyA12⟩) (by assumption) ?rsA12
    case hyA12 => (intro w8' hSw; (try dsimp only at hSw); go_simp; (first | done | with_reducible rfl))
    (try simp only [Act.put, List.setIfInBounds_toArray, List.set_cons_zero, List.set_cons_succ])
    refine wpAnyH_take (i := 15) (oi := ({ dst := some 120, op := Op.move (Operand.tmp 2), type := 22, pos := "law.go:65", after := #[{ on := 11, ground := Ground.guard }], guard := some (11, true) } : Oper)) (v := ?_) rfl (by kernel_rfl) (by kernel_rfl) (by kernel_rfl) (fun _ _ _ h => h) (Or.inl ⟨by rfl, ?hyA15⟩) (by assumption) ?rsA15
    case hyA15 => (intro w8' hSw; (try dsimp only at hSw); go_simp; (first | done | with_reducible rfl))
    (try simp only [Act.put, List.setIfInBounds_toArray, List.set_cons_zero, List.set_cons_succ])
    refine wpAnyH_take (i := 16) (oi := ({ dst := some 121, op := Op.move (Operand.tmp 13), type := 3, pos := "law.go:65", after := #[{ on := 11, ground := Ground.guard }], guard := some (11, true) } : Oper)) (v := ?_) rfl (by kernel_rfl) (by kernel_rfl) (by kernel_rfl) (fun _ _ _ h => h) (Or.inl ⟨by rfl, ?hyA16⟩) (by assumption) ?rsA16
    case hyA16 => (intro w8' hSw; (try dsimp only at hSw); go_simp; (first | done | with_reducible rfl))
    (try simp only [Act.put, List.setIfInBounds_toArray, List.set_cons_zero, List.set_cons_succ])
    refine wpAnyH_take (i := 17) (oi := ({ dst := some 122, op := Op.slice 22 (Operand.tmp 120) none (some (Operand.tmp 121)) none, type := 22, pos := "law.go:65", after := #[{ on := 15, ground := Ground.data }, { on := 16, ground := Ground.data }, { on := 11, ground := Ground.guard }], guard := some (11, true) } : Oper)) (v := ?_) rfl (by kernel_rfl) (by kernel_rfl) (by kernel_rfl) (fun _ _ _ h => h) (Or.inl ⟨by rfl, ?hyA17⟩) (by assumption) ?rsA17
    case hyA17 => (intro w8' hSw; (try dsimp only at hSw); go_simp; (first | done | with_reducible rfl))
    (try simp only [Act.put, List.setIfInBounds_toArray, List.set_cons_zero, List.set_cons_succ])
    refine wpAnyH_take (i := 18) (oi := ({ dst := some 123, op := Op.convert 22 9 (Operand.tmp 122), type := 9, pos := "law.go:65", after := #[{ on := 17, ground := Ground.data }, { on := 11, ground := Ground.guard }], guard := some (11, true) } : Oper)) (v := ?_) rfl (by kernel_rfl) (by kernel_rfl) (by kernel_rfl) (fun _ _ _ h => h) (Or.inl ⟨by rfl, ?hyA18⟩) (by assumption) ?rsA18
    case hyA18 => (intro w8' hSw; (try dsimp only at hSw); go_simp; (first | done | with_reducible rfl))
    (try simp only [Act.put, List.setIfInBounds_toArray, List.set_cons_zero, List.set_cons_succ])
    refine wpAnyH_ready (rs := [13]) (by kernel_rfl) (by simp) ?_
    refine AllReadyH.cons (o := ({ dst := some 118, op := Op.call { callee := Callee.value (Operand.func 16), args := #[Operand.tmp 117], argTypes := #[24] }, type := 22, pos := "law.go:65", after := #[{ on := 12, ground := Ground.data }, { on := 11, ground := Ground.chain }, { on := 11, ground := Ground.guard }], guard := some (11, true) } : Oper)) rfl (fun K hK => ?_) AllReadyH.nil
    (rw [if_pos (by rfl)]; go_simp; refine (bk_put (p := ⟨w9.heap.size, t2, s2, b2, A7, c7, A2, l2, w⟩) (by with_reducible (repeat (first | exact HU.out | refine BAt.alloc ?_ _ | refine BAt.drewN ?_ _ | refine BAt.drew ?_))) _ F2.out).mono ?_; rintro e w6' ⟨AP, cP, rfl, hC, hU, hb⟩; have kP := Kd.C_string (P := Try.prog) (c := cP) Try.underlying22 Try.underlying5 Try.underlying9 hC; have kP' := kP; rw [HLT.out] at kP'; have d0 := Go.Proofs.Ytgfpkgbkbempkaa.W.cellOf hU.b8 0 rfl; have d1 := Go.Proofs.Ytgfpkgbkbempkaa.W.cellOf hU.b8 1 rfl; have d2 := Go.Proofs.Ytgfpkgbkbempkaa.W.cellOf hU.b8 2 rfl; dsimp only at d0 d1 d2; have kB := Kd.C_string (P := Try.prog) (c := c2) Try.underlying22 Try.underlying5 Try.underlying9 (bk_cut hU m2 HM.out); dsimp only at kB; have HU := Aside0.mk hU; clear hb hU hC; go_simp)
    refine hK.out _ _ ⟨d0, d1, d2, kB⟩ (fun _ => wpAnyH_mono (S' := fun w' => (w'.cell? ⟨w9.heap.size, 0, none⟩ = some (.int .i64 t2) ∧ w'.cell? ⟨w9.heap.size, 1, none⟩ = some (.int .i64 s2) ∧ w'.cell? ⟨w9.heap.size, 2, none⟩ = some (.slice A7 b2.length c7) ∧ (convert 22 9 (.slice A2 m2.toNat c2)).run Try.prog w' = .ok (.string (strOfNums (l2.take m2.toNat))) w') ∧ (convert 22 9 (.slice AP m2.toNat cP)).run Try.prog w' = .ok (.string (strOfNums (l2.take m2.toNat))) w') (fun _ h => h.1) _ _ _ _ ?_)
    clear hK
    have hHeld := (show (fun w' => (w'.cell? ⟨w9.heap.size, 0, none⟩ = some (.int .i64 t2) ∧ w'.cell? ⟨w9.heap.size, 1, none⟩ = some (.int .i64 s2) ∧ w'.cell? ⟨w9.heap.size, 2, none⟩ = some (.slice A7 b2.length c7) ∧ (convert 22 9 (.slice A2 m2.toNat c2)).run Try.prog w' = .ok (.string (strOfNums (l2.take m2.toNat))) w') ∧ (convert 22 9 (.slice AP m2.toNat cP)).run Try.prog w' = .ok (.string (strOfNums (l2.take m2.toNat))) w') _ from ⟨⟨d0, d1, d2, kB⟩, kP'⟩)
    (try simp only [Act.put, List.setIfInBounds_toArray, List.set_cons_zero, List.set_cons_succ])
    refine wpAnyH_take (i := 14) (oi := ({ dst := some 119, op := Op.convert 22 9 (Operand.tmp 118), type := 9, pos := "law.go:65", after := #[{ on := 13, ground := Ground.data }, { on := 11, ground := Ground.guard }], guard := some (11, true) } : Oper)) (v := ?_) rfl (by kernel_rfl) (by kernel_rfl) (by kernel_rfl) (fun _ _ _ h => h) (Or.inl ⟨by rfl, ?hyA14⟩) (by assumption) ?rsA14
    case hyA14 => (intro w8' hSw; (try dsimp only at hSw); go_simp; (first | done | with_reducible rfl))
    (try simp only [Act.put, List.setIfInBounds_toArray, List.set_cons_zero, List.set_cons_succ])
    refine wpAnyH_take (i := 19) (oi := ({ dst := some 124, op := Op.binOp BinOp.eql 9 (Operand.tmp 119) (Operand.tmp 123) 9, type := 4, pos := "law.go:65", after := #[{ on := 14, ground := Ground.data }, { on := 18, ground := Ground.data }, { on := 11, ground := Ground.guard }], guard := some (11, true) } : Oper)) (v := ?_) rfl (by kernel_rfl) (by kernel_rfl) (by kernel_rfl) (fun _ _ _ h => h) (Or.inl ⟨by rfl, ?hyA19⟩) (by assumption) ?rsA19
    case hyA19 => (intro w8' hSw; (try dsimp only at hSw); go_simp; (first | done | with_reducible rfl))
    (try simp only [Act.put, List.setIfInBounds_toArray, List.set_cons_zero, List.set_cons_succ])
    refine wpAnyH_take (i := 20) (oi := ({ dst := some 125, op := Op.pick (Operand.tmp 116) (Operand.tmp 124) (Operand.const (Value.bool false)), type := 4, pos := "law.go:65", after := #[{ on := 11, ground := Ground.data }, { on := 19, ground := Ground.data }], guard := none } : Oper)) (v := ?_) rfl (by kernel_rfl) (by kernel_rfl) (by kernel_rfl) (fun _ _ _ h => h) (Or.inl ⟨by rfl, ?hyA20⟩) (by assumption) ?rsA20
    case hyA20 => (intro w8' hSw; (try dsimp only at hSw); go_simp; (first | done | with_reducible rfl))
    (try simp only [Act.put, List.setIfInBounds_toArray, List.set_cons_zero, List.set_cons_succ])
    refine wpAnyH_take (i := 21) (oi := ({ dst := some 6, op := Op.assign (Operand.tmp 125), type := 4, pos := "law.go:65", after := #[{ on := 20, ground := Ground.data }, { on := 13, ground := Ground.chain }, { on := 0, ground := Ground.phase }, { on := 1, ground := Ground.phase }, { on := 2, ground := Ground.phase }, { on := 3, ground := Ground.phase }, { on := 4, ground := Ground.phase }, { on := 5, ground := Ground.phase }, { on := 6, ground := Ground.phase }, { on := 7, ground := Ground.phase }, { on := 8, ground := Ground.phase }, { on := 9, ground := Ground.phase }, { on := 10, ground := Ground.phase }, { on := 11, ground := Ground.phase }, { on := 12, ground := Ground.phase }, { on := 13, ground := Ground.phase }, { on := 14, ground := Ground.phase }, { on := 15, ground := Ground.phase }, { on := 16, ground := Ground.phase }, { on := 17, ground := Ground.phase }, { on := 18, ground := Ground.phase }, { on := 19, ground := Ground.phase }, { on := 20, ground := Ground.phase }], guard := none } : Oper)) (v := ?_) rfl (by kernel_rfl) (by kernel_rfl) (by kernel_rfl) (fun _ _ _ h => h) (Or.inl ⟨by rfl, ?hyA21⟩) (by assumption) ?rsA21
    case hyA21 => (intro w8' hSw; (try dsimp only at hSw); go_simp; (first | done | with_reducible rfl))
    (try simp only [Act.put, List.setIfInBounds_toArray, List.set_cons_zero, List.set_cons_succ])
    refine wpAnyH_done (by kernel_rfl) ?_ _
    refine NoPanic.normal ?_
    all_goals go_wp2_with fail
    all_goals go_ret
    all_goals exact ⟨rfl, BAt.below (p := ⟨w9.heap.size, t2, s2, b2, A7, c7, A2, l2, w⟩) (by with_reducible (repeat (first | exact HU.out | refine BAt.alloc ?_ _ | refine BAt.drewN ?_ _ | refine BAt.drew ?_)))⟩
  | false =>
    have kp : p.length = 0 := K2.out rfl
    have bp : ((p.length : Int) != 0) = false := by rw [kp]; rfl
    go_wp2_with fail
    refine (ck_right (p := ⟨a0_0, a0_1, A0_2, c0_2, l0_2, w.heap.size, w5.heap.size, t, s, b, A5, c5, w⟩) HT.out false E5.out).mono ?_
    clear d0 d1 d2 d3 d4 d5
    rintro e w8 ⟨rfl, hT⟩
    have d0 := Go.Proofs.Ytgfpkgbkbempkaa.W.cellOf hT.b3 0 rfl
    have d1 := Go.Proofs.Ytgfpkgbkbempkaa.W.cellOf hT.b3 1 rfl
    have d2 := Go.Proofs.Ytgfpkgbkbempkaa.W.cellOf hT.b3 2 rfl
    have d3 := Go.Proofs.Ytgfpkgbkbempkaa.W.cellOf hT.b9 0 rfl
    have d4 := Go.Proofs.Ytgfpkgbkbempkaa.W.cellOf hT.b9 1 rfl
    have d5 := Go.Proofs.Ytgfpkgbkbempkaa.W.cellOf hT.b9 2 rfl
    dsimp only at d0 d1 d2 d3 d4 d5
    have HT := Aside0.mk hT
    clear hT
    go_wp2_with fail
    all_goals (refine (get_sl A2 _ c2 l2 w8 rfl (Kd.C_below HR2.out (HT.out.below.mono (Nat.le_refl _))) HC2.out _ _ _ _ _ E2.out).mono ?_; clear d0 d1 d2 d3 d4 d5; rintro e w9 ⟨A7, c7, rfl, hc7, hC7, hb9⟩)
    all_goals have hU : BAt ⟨w9.heap.size, t2, s2, b2, A7, c7, A2, l2, w⟩ (w9.alloc (.cells #[.int .i64 t2, .int .i64 s2, .slice A7 b2.length c7] 24)) := ⟨heap_alloc_last _ _, Kd.C_alloc hC7 _, hc7, Kd.C_alloc (Kd.C_below HR2.out ((HT.out.below.trans (hb9.mono HT.out.below.size)).mono (Nat.le_refl _))) _, below_alloc (HT.out.below.trans (hb9.mono HT.out.below.size)) _⟩
    all_goals (have d0 := Go.Proofs.Ytgfpkgbkbempkaa.W.cellOf hU.b8 0 rfl; have d1 := Go.Proofs.Ytgfpkgbkbempkaa.W.cellOf hU.b8 1 rfl; have d2 := Go.Proofs.Ytgfpkgbkbempkaa.W.cellOf hU.b8 2 rfl; dsimp only at d0 d1 d2)
    all_goals have HU := Aside0.mk hU
    all_goals clear hb9 hC7 hc7 HT
    all_goals have h := H.out
    all_goals (try dsimp only at h)
    all_goals by_cases h0 : er2 = 0
    all_goals first
      | (rw [if_neg h0] at h
         have be2 : (er2 != 0) = true := bne_iff_ne.2 h0
         split at h
         case isFalse => cases h
         rename_i hz
         obtain rfl := Option.some.inj h
         obtain ⟨z1, z2, z3⟩ := hz
         have bm2 : (m2 == 0) = true := beq_iff_eq.2 z1
         have bt2 : (t2 == 0) = true := beq_iff_eq.2 z3
         have bl2 : ((b2.length : Int) == 0) = true := by rw [z2]; rfl
         clear z1 z2 z3 h hU
         go_wp2_with fail
         go_ret
         exact ⟨rfl, BAt.below (p := ⟨w9.heap.size, t2, s2, b2, A7, c7, A2, l2, w⟩) (by with_reducible (repeat (first | exact HU.out | refine BAt.alloc ?_ _ | refine BAt.drewN ?_ _ | refine BAt.drew ?_)))⟩)
      | skip
    all_goals rw [if_pos h0] at h
    all_goals obtain ⟨r2, f1, h⟩ := Option.bind_eq_some_iff.1 h
    all_goals obtain ⟨q, f2, h⟩ := Option.bind_eq_some_iff.1 h
    all_goals (split at h; case isFalse => cases h)
    all_goals rename_i hz
    all_goals obtain rfl := Option.some.inj h
    all_goals obtain ⟨rfl, z2, z3, rfl⟩ := hz
    all_goals have F1 := Aside0.mk f1
    all_goals have F2 := Aside0.mk f2
    all_goals have HM := Aside0.mk z3
    all_goals have HLT := Aside0.mk (show (l2.take m2.toNat).length = m2.toNat by rw [List.length_take]; omega)
    all_goals have be2 : (er2 != 0) = false := by rw [h0]; rfl
    all_goals have bm2 : decide (m2 ≤ (l2.length : Int)) = true := decide_eq_true z3
    all_goals have kcut := cut_to (P := Try.prog) 22 5 .i64 Try.underlying22 hi5 A2 l2.length c2 m2 z2 z3 HC2.out
    all_goals (have kB := Kd.C_string (P := Try.prog) (c := c2) Try.underlying22 Try.underlying5 Try.underlying9 (bk_cut hU m2 HM.out); dsimp only at kB)
    all_goals clear f1 f2 h hU
    all_goals go_wp2_with fail
    have kBd := Kd.C_string (P := Try.prog) (c := c2) Try.underlying22 Try.underlying5 Try.underlying9 (bk_cut HU.out.drew m2 HM.out)
    dsimp only at kBd
    refine wp_region_noPanic ?_
    refine wp_region_held_drew (S := fun w' => w'.cell? ⟨w9.heap.size, 0, none⟩ = some (.int .i64 t2) ∧ w'.cell? ⟨w9.heap.size, 1, none⟩ = some (.int .i64 s2) ∧ w'.cell? ⟨w9.heap.size, 2, none⟩ = some (.slice A7 b2.length c7) ∧ (convert 22 9 (.slice A2 m2.toNat c2)).run Try.prog w' = .ok (.string (strOfNums (l2.take m2.toNat))) w') (by kernel_rfl) ⟨d0, d1, d2, kBd⟩ (fun hHeld => ?_)
    refine wpAnyH_take (i := 0) (oi := ({ dst := some 105, op := Op.move (Operand.tmp 7), type := 4, pos := "law.go:65", after := #[], guard := none } : Oper)) (v := ?_) rfl (by kernel_rfl) (by kernel_rfl) (by kernel_rfl) (fun _ _ _ h => h) (Or.inl ⟨by rfl, ?hyB0⟩) (by assumption) ?rsB0
    case hyB0 => (intro w8' hSw; (try dsimp only at hSw); go_simp; (first | done | with_reducible rfl))
    (try simp only [Act.put, List.setIfInBounds_toArray, List.set_cons_zero, List.set_cons_succ])
    refine wpAnyH_take (i := 1) (oi := ({ dst := some 106, op := Op.move (Operand.tmp 105), type := 4, pos := "law.go:65", after := #[{ on := 0, ground := Ground.data }], guard := none } : Oper)) (v := ?_) rfl (by kernel_rfl) (by kernel_rfl) (by kernel_rfl) (fun _ _ _ h => h) (Or.inl ⟨by rfl, ?hyB1⟩) (by assumption) ?rsB1
    case hyB1 => (intro w8' hSw; (try dsimp only at hSw); go_simp; (first | done | with_reducible rfl))
    (try simp only [Act.put, List.setIfInBounds_toArray, List.set_cons_zero, List.set_cons_succ])
    refine wpAnyH_take (i := 2) (oi := ({ dst := some 107, op := Op.load 24 (Operand.tmp 12), type := 24, pos := "law.go:65", after := #[{ on := 1, ground := Ground.guard }], guard := some (1, true) } : Oper)) (v := ?_) rfl (by kernel_rfl) (by kernel_rfl) (by kernel_rfl) (fun _ _ _ h => h) (Or.inl ⟨by rfl, ?hyB2⟩) (by assumption) ?rsB2
    case hyB2 => (intro w8' hSw; (try dsimp only at hSw); go_simp; (first | done | with_reducible rfl))
    (try simp only [Act.put, List.setIfInBounds_toArray, List.set_cons_zero, List.set_cons_succ])
    refine wpAnyH_ready (rs := [3]) (by kernel_rfl) (by simp) ?_
    refine AllReadyH.cons (o := ({ dst := some 108, op := Op.call { callee := Callee.value (Operand.func 14), args := #[Operand.tmp 107], argTypes := #[24] }, type := 4, pos := "law.go:65", after := #[{ on := 2, ground := Ground.data }, { on := 1, ground := Ground.chain }, { on := 1, ground := Ground.guard }], guard := some (1, true) } : Oper)) rfl (fun K hK => ?_) AllReadyH.nil
    (rw [if_pos (by rfl)]; go_simp; refine (bk_right (p := ⟨w9.heap.size, t2, s2, b2, A7, c7, A2, l2, w⟩) (by with_reducible (repeat (first | exact HU.out | refine BAt.alloc ?_ _ | refine BAt.drewN ?_ _ | refine BAt.drew ?_))) true F1.out).mono ?_; rintro e w5 ⟨rfl, hU, hb⟩; have d0 := Go.Proofs.Ytgfpkgbkbempkaa.W.cellOf hU.b8 0 rfl; have d1 := Go.Proofs.Ytgfpkgbkbempkaa.W.cellOf hU.b8 1 rfl; have d2 := Go.Proofs.Ytgfpkgbkbempkaa.W.cellOf hU.b8 2 rfl; dsimp only at d0 d1 d2; have kB := Kd.C_string (P := Try.prog) (c := c2) Try.underlying22 Try.underlying5 Try.underlying9 (bk_cut hU m2 HM.out); dsimp only at kB; have HU := Aside0.mk hU; clear hb hU; go_simp)
    refine hK.out _ _ ⟨d0, d1, d2, kB⟩ (fun hHeld => ?_)
    clear hK
    (try simp only [Act.put, List.setIfInBounds_toArray, List.set_cons_zero, List.set_cons_succ])
    refine wpAnyH_take (i := 4) (oi := ({ dst := some 109, op := Op.pick (Operand.tmp 106) (Operand.tmp 108) (Operand.const (Value.bool false)), type := 4, pos := "law.go:65", after := #[{ on := 1, ground := Ground.data }, { on := 3, ground := Ground.data }], guard := none } : Oper)) (v := ?_) rfl (by kernel_rfl) (by kernel_rfl) (by kernel_rfl) (fun _ _ _ h => h) (Or.inl ⟨by rfl, ?hyB4⟩) (by assumption) ?rsB4
    case hyB4 => (intro w8' hSw; (try dsimp only at hSw); go_simp; (first | done | with_reducible rfl))
    (try simp only [Act.put, List.setIfInBounds_toArray, List.set_cons_zero, List.set_cons_succ])
    refine wpAnyH_take (i := 5) (oi := ({ dst := some 110, op := Op.move (Operand.tmp 109), type := 4, pos := "law.go:65", after := #[{ on := 4, ground := Ground.data }, { on := 3, ground := Ground.chain }], guard := none } : Oper)) (v := ?_) rfl (by kernel_rfl) (by kernel_rfl) (by kernel_rfl) (fun _ _ _ h => h) (Or.inl ⟨by rfl, ?hyB5⟩) (by assumption) ?rsB5
    case hyB5 => (intro w8' hSw; (try dsimp only at hSw); go_simp; (first | done | with_reducible rfl))
    (try simp only [Act.put, List.setIfInBounds_toArray, List.set_cons_zero, List.set_cons_succ])
    refine wpAnyH_take (i := 6) (oi := ({ dst := some 111, op := Op.move (Operand.tmp 13), type := 3, pos := "law.go:65", after := #[{ on := 5, ground := Ground.guard }], guard := some (5, true) } : Oper)) (v := ?_) rfl (by kernel_rfl) (by kernel_rfl) (by kernel_rfl) (fun _ _ _ h => h) (Or.inl ⟨by rfl, ?hyB6⟩) (by assumption) ?rsB6
    case hyB6 => (intro w8' hSw; (try dsimp only at hSw); go_simp; (first | done | with_reducible rfl))
    (try simp only [Act.put, List.setIfInBounds_toArray, List.set_cons_zero, List.set_cons_succ])
    refine wpAnyH_take (i := 7) (oi := ({ dst := some 112, op := Op.move (Operand.tmp 2), type := 22, pos := "law.go:65", after := #[{ on := 5, ground := Ground.guard }], guard := some (5, true) } : Oper)) (v := ?_) rfl (by kernel_rfl) (by kernel_rfl) (by kernel_rfl) (fun _ _ _ h => h) (Or.inl ⟨by rfl, ?hyB7⟩) (by assumption) ?rsB7
    case hyB7 => (intro w8' hSw; (try dsimp only at hSw); go_simp; (first | done | with_reducible rfl))
    (try simp only [Act.put, List.setIfInBounds_toArray, List.set_cons_zero, List.set_cons_succ])
    refine wpAnyH_take (i := 8) (oi := ({ dst := some 113, op := Op.call { callee := Callee.builtin Builtin.len, args := #[Operand.tmp 112], argTypes := #[22] }, type := 3, pos := "law.go:65", after := #[{ on := 7, ground := Ground.data }, { on := 5, ground := Ground.guard }], guard := some (5, true) } : Oper)) (v := ?_) rfl (by kernel_rfl) (by kernel_rfl) (by kernel_rfl) (fun _ _ _ h => h) (Or.inl ⟨by rfl, ?hyB8⟩) (by assumption) ?rsB8
    case hyB8 => (intro w8' hSw; (try dsimp only at hSw); go_simp; (first | done | with_reducible rfl))
    (try simp only [Act.put, List.setIfInBounds_toArray, List.set_cons_zero, List.set_cons_succ])
    refine wpAnyH_take (i := 9) (oi := ({ dst := some 114, op := Op.binOp BinOp.leq 3 (Operand.tmp 111) (Operand.tmp 113) 3, type := 4, pos := "law.go:65", after := #[{ on := 6, ground := Ground.data }, { on := 8, ground := Ground.data }, { on := 5, ground := Ground.guard }], guard := some (5, true) } : Oper)) (v := ?_) rfl (by kernel_rfl) (by kernel_rfl) (by kernel_rfl) (fun _ _ _ h => h) (Or.inl ⟨by rfl, ?hyB9⟩) (by assumption) ?rsB9
    case hyB9 => (intro w8' hSw; (try dsimp only at hSw); go_simp; (first | done | with_reducible rfl))
    (try simp only [Act.put, List.setIfInBounds_toArray, List.set_cons_zero, List.set_cons_succ])
    refine wpAnyH_take (i := 10) (oi := ({ dst := some 115, op := Op.pick (Operand.tmp 110) (Operand.tmp 114) (Operand.const (Value.bool false)), type := 4, pos := "law.go:65", after := #[{ on := 5, ground := Ground.data }, { on := 9, ground := Ground.data }], guard := none } : Oper)) (v := ?_) rfl (by kernel_rfl) (by kernel_rfl) (by kernel_rfl) (fun _ _ _ h => h) (Or.inl ⟨by rfl, ?hyB10⟩) (by assumption) ?rsB10
    case hyB10 => (intro w8' hSw; (try dsimp only at hSw); go_simp; (first | done | with_reducible rfl))
    (try simp only [Act.put, List.setIfInBounds_toArray, List.set_cons_zero, List.set_cons_succ])
    refine wpAnyH_take (i := 11) (oi := ({ dst := some 116, op := Op.move (Operand.tmp 115), type := 4, pos := "law.go:65", after := #[{ on := 10, ground := Ground.data }, { on := 5, ground := Ground.chain }], guard := none } : Oper)) (v := ?_) rfl (by kernel_rfl) (by kernel_rfl) (by kernel_rfl) (fun _ _ _ h => h) (Or.inl ⟨by rfl, ?hyB11⟩) (by assumption) ?rsB11
    case hyB11 => (intro w8' hSw; (try dsimp only at hSw); go_simp; (first | done | with_reducible rfl))
    (try simp only [Act.put, List.setIfInBounds_toArray, List.set_cons_zero, List.set_cons_succ])
    refine wpAnyH_take (i := 12) (oi := ({ dst := some 117, op := Op.load 24 (Operand.tmp 12), type := 24, pos := "law.go:65", after := #[{ on := 11, ground := Ground.guard }], guard := some (11, true) } : Oper)) (v := ?_) rfl (by kernel_rfl) (by kernel_rfl) (by kernel_rfl) (fun _ _ _ h => h) (Or.inl ⟨by rfl, ?hyB12⟩) (by assumption) ?rsB12
    case hyB12 => (intro w8' hSw; (try dsimp only at hSw); go_simp; (first | done | with_reducible rfl))
    (try simp only [Act.put, List.setIfInBounds_toArray, List.set_cons_zero, List.set_cons_succ])
    refine wpAnyH_take (i := 15) (oi := ({ dst := some 120, op := Op.move (Operand.tmp 2), type := 22, pos := "law.go:65", after := #[{ on := 11, ground := Ground.guard }], guard := some (11, true) } : Oper)) (v := ?_) rfl (by kernel_rfl) (by kernel_rfl) (by kernel_rfl) (fun _ _ _ h => h) (Or.inl ⟨by rfl, ?hyB15⟩) (by assumption) ?rsB15
    case hyB15 => (intro w8' hSw; (try dsimp only at hSw); go_simp; (first | done | with_reducible rfl))
    (try simp only [Act.put, List.setIfInBounds_toArray, List.set_cons_zero, List.set_cons_succ])
    refine wpAnyH_take (i := 16) (oi := ({ dst := some 121, op := Op.move (Operand.tmp 13), type := 3, pos := "law.go:65", after := #[{ on := 11, ground := Ground.guard }], guard := some (11, true) } : Oper)) (v := ?_) rfl (by kernel_rfl) (by kernel_rfl) (by kernel_rfl) (fun _ _ _ h => h) (Or.inl ⟨by rfl, ?hyB16⟩) (by assumption) ?rsB16
    case hyB16 => (intro w8' hSw; (try dsimp only at hSw); go_simp; (first | done | with_reducible rfl))
    (try simp only [Act.put, List.setIfInBounds_toArray, List.set_cons_zero, List.set_cons_succ])
    refine wpAnyH_take (i := 17) (oi := ({ dst := some 122, op := Op.slice 22 (Operand.tmp 120) none (some (Operand.tmp 121)) none, type := 22, pos := "law.go:65", after := #[{ on := 15, ground := Ground.data }, { on := 16, ground := Ground.data }, { on := 11, ground := Ground.guard }], guard := some (11, true) } : Oper)) (v := ?_) rfl (by kernel_rfl) (by kernel_rfl) (by kernel_rfl) (fun _ _ _ h => h) (Or.inl ⟨by rfl, ?hyB17⟩) (by assumption) ?rsB17
    case hyB17 => (intro w8' hSw; (try dsimp only at hSw); go_simp; (first | done | with_reducible rfl))
    (try simp only [Act.put, List.setIfInBounds_toArray, List.set_cons_zero, List.set_cons_succ])
    refine wpAnyH_take (i := 18) (oi := ({ dst := some 123, op := Op.convert 22 9 (Operand.tmp 122), type := 9, pos := "law.go:65", after := #[{ on := 17, ground := Ground.data }, { on := 11, ground := Ground.guard }], guard := some (11, true) } : Oper)) (v := ?_) rfl (by kernel_rfl) (by kernel_rfl) (by kernel_rfl) (fun _ _ _ h => h) (Or.inl ⟨by rfl, ?hyB18⟩) (by assumption) ?rsB18
    case hyB18 => (intro w8' hSw; (try dsimp only at hSw); go_simp; (first | done | with_reducible rfl))
    (try simp only [Act.put, List.setIfInBounds_toArray, List.set_cons_zero, List.set_cons_succ])
    refine wpAnyH_ready (rs := [13]) (by kernel_rfl) (by simp) ?_
    refine AllReadyH.cons (o := ({ dst := some 118, op := Op.call { callee := Callee.value (Operand.func 16), args := #[Operand.tmp 117], argTypes := #[24] }, type := 22, pos := "law.go:65", after := #[{ on := 12, ground := Ground.data }, { on := 11, ground := Ground.chain }, { on := 11, ground := Ground.guard }], guard := some (11, true) } : Oper)) rfl (fun K hK => ?_) AllReadyH.nil
    (rw [if_pos (by rfl)]; go_simp; refine (bk_put (p := ⟨w9.heap.size, t2, s2, b2, A7, c7, A2, l2, w⟩) (by with_reducible (repeat (first | exact HU.out | refine BAt.alloc ?_ _ | refine BAt.drewN ?_ _ | refine BAt.drew ?_))) _ F2.out).mono ?_; rintro e w6' ⟨AP, cP, rfl, hC, hU, hb⟩; have kP := Kd.C_string (P := Try.prog) (c := cP) Try.underlying22 Try.underlying5 Try.underlying9 hC; have kP' := kP; rw [HLT.out] at kP'; have d0 := Go.Proofs.Ytgfpkgbkbempkaa.W.cellOf hU.b8 0 rfl; have d1 := Go.Proofs.Ytgfpkgbkbempkaa.W.cellOf hU.b8 1 rfl; have d2 := Go.Proofs.Ytgfpkgbkbempkaa.W.cellOf hU.b8 2 rfl; dsimp only at d0 d1 d2; have kB := Kd.C_string (P := Try.prog) (c := c2) Try.underlying22 Try.underlying5 Try.underlying9 (bk_cut hU m2 HM.out); dsimp only at kB; have HU := Aside0.mk hU; clear hb hU hC; go_simp)
    refine hK.out _ _ ⟨d0, d1, d2, kB⟩ (fun _ => wpAnyH_mono (S' := fun w' => (w'.cell? ⟨w9.heap.size, 0, none⟩ = some (.int .i64 t2) ∧ w'.cell? ⟨w9.heap.size, 1, none⟩ = some (.int .i64 s2) ∧ w'.cell? ⟨w9.heap.size, 2, none⟩ = some (.slice A7 b2.length c7) ∧ (convert 22 9 (.slice A2 m2.toNat c2)).run Try.prog w' = .ok (.string (strOfNums (l2.take m2.toNat))) w') ∧ (convert 22 9 (.slice AP m2.toNat cP)).run Try.prog w' = .ok (.string (strOfNums (l2.take m2.toNat))) w') (fun _ h => h.1) _ _ _ _ ?_)
    clear hK
    have hHeld := (show (fun w' => (w'.cell? ⟨w9.heap.size, 0, none⟩ = some (.int .i64 t2) ∧ w'.cell? ⟨w9.heap.size, 1, none⟩ = some (.int .i64 s2) ∧ w'.cell? ⟨w9.heap.size, 2, none⟩ = some (.slice A7 b2.length c7) ∧ (convert 22 9 (.slice A2 m2.toNat c2)).run Try.prog w' = .ok (.string (strOfNums (l2.take m2.toNat))) w') ∧ (convert 22 9 (.slice AP m2.toNat cP)).run Try.prog w' = .ok (.string (strOfNums (l2.take m2.toNat))) w') _ from ⟨⟨d0, d1, d2, kB⟩, kP'⟩)
    (try simp only [Act.put, List.setIfInBounds_toArray, List.set_cons_zero, List.set_cons_succ])
    refine wpAnyH_take (i := 14) (oi := ({ dst := some 119, op := Op.convert 22 9 (Operand.tmp 118), type := 9, pos := "law.go:65", after := #[{ on := 13, ground := Ground.data }, { on := 11, ground := Ground.guard }], guard := some (11, true) } : Oper)) (v := ?_) rfl (by kernel_rfl) (by kernel_rfl) (by kernel_rfl) (fun _ _ _ h => h) (Or.inl ⟨by rfl, ?hyB14⟩) (by assumption) ?rsB14
    case hyB14 => (intro w8' hSw; (try dsimp only at hSw); go_simp; (first | done | with_reducible rfl))
    (try simp only [Act.put, List.setIfInBounds_toArray, List.set_cons_zero, List.set_cons_succ])
    refine wpAnyH_take (i := 19) (oi := ({ dst := some 124, op := Op.binOp BinOp.eql 9 (Operand.tmp 119) (Operand.tmp 123) 9, type := 4, pos := "law.go:65", after := #[{ on := 14, ground := Ground.data }, { on := 18, ground := Ground.data }, { on := 11, ground := Ground.guard }], guard := some (11, true) } : Oper)) (v := ?_) rfl (by kernel_rfl) (by kernel_rfl) (by kernel_rfl) (fun _ _ _ h => h) (Or.inl ⟨by rfl, ?hyB19⟩) (by assumption) ?rsB19
    case hyB19 => (intro w8' hSw; (try dsimp only at hSw); go_simp; (first | done | with_reducible rfl))
    (try simp only [Act.put, List.setIfInBounds_toArray, List.set_cons_zero, List.set_cons_succ])
    refine wpAnyH_take (i := 20) (oi := ({ dst := some 125, op := Op.pick (Operand.tmp 116) (Operand.tmp 124) (Operand.const (Value.bool false)), type := 4, pos := "law.go:65", after := #[{ on := 11, ground := Ground.data }, { on := 19, ground := Ground.data }], guard := none } : Oper)) (v := ?_) rfl (by kernel_rfl) (by kernel_rfl) (by kernel_rfl) (fun _ _ _ h => h) (Or.inl ⟨by rfl, ?hyB20⟩) (by assumption) ?rsB20
    case hyB20 => (intro w8' hSw; (try dsimp only at hSw); go_simp; (first | done | with_reducible rfl))
    (try simp only [Act.put, List.setIfInBounds_toArray, List.set_cons_zero, List.set_cons_succ])
    refine wpAnyH_take (i := 21) (oi := ({ dst := some 6, op := Op.assign (Operand.tmp 125), type := 4, pos := "law.go:65", after := #[{ on := 20, ground := Ground.data }, { on := 13, ground := Ground.chain }, { on := 0, ground := Ground.phase }, { on := 1, ground := Ground.phase }, { on := 2, ground := Ground.phase }, { on := 3, ground := Ground.phase }, { on := 4, ground := Ground.phase }, { on := 5, ground := Ground.phase }, { on := 6, ground := Ground.phase }, { on := 7, ground := Ground.phase }, { on := 8, ground := Ground.phase }, { on := 9, ground := Ground.phase }, { on := 10, ground := Ground.phase }, { on := 11, ground := Ground.phase }, { on := 12, ground := Ground.phase }, { on := 13, ground := Ground.phase }, { on := 14, ground := Ground.phase }, { on := 15, ground := Ground.phase }, { on := 16, ground := Ground.phase }, { on := 17, ground := Ground.phase }, { on := 18, ground := Ground.phase }, { on := 19, ground := Ground.phase }, { on := 20, ground := Ground.phase }], guard := none } : Oper)) (v := ?_) rfl (by kernel_rfl) (by kernel_rfl) (by kernel_rfl) (fun _ _ _ h => h) (Or.inl ⟨by rfl, ?hyB21⟩) (by assumption) ?rsB21
    case hyB21 => (intro w8' hSw; (try dsimp only at hSw); go_simp; (first | done | with_reducible rfl))
    (try simp only [Act.put, List.setIfInBounds_toArray, List.set_cons_zero, List.set_cons_succ])
    refine wpAnyH_done (by kernel_rfl) ?_ _
    refine NoPanic.normal ?_
    all_goals go_wp2_with fail
    all_goals go_ret
    all_goals exact ⟨rfl, BAt.below (p := ⟨w9.heap.size, t2, s2, b2, A7, c7, A2, l2, w⟩) (by with_reducible (repeat (first | exact HU.out | refine BAt.alloc ?_ _ | refine BAt.drewN ?_ _ | refine BAt.drew ?_)))⟩


end Go.Proofs.Ytgfpkgbkbempkaa.Print
