/- Functions of the program as Lean functions, and that its calls come to them; written by a program of this claim over the kit print; Lean checks it. -/
import Derived.Test.YtgfpkgbkbempkaaPrint0
import Derived.Test.YtgfpkgbkbempkaaPrint1
import Derived.Test.YtgfpkgbkbempkaaPrint2
import Derived.Test.YtgfpkgbkbempkaaPrint3
import Derived.Test.YtgfpkgbkbempkaaPrint4
namespace Go.Proofs.Ytgfpkgbkbempkaa.Print
open Go.RowKit Go.Proofs.YtgfpkgbkbempkaaW.PrintWords Go.Proofs.YtgfpkgbkbempkaaW.PrintLast Go.Proofs.YtgfpkgbkbempkaaW.PrintMore
attribute [local go_sem] max2_int min2_int max_two min_two max_three min_three max_four min_four   -- for this text's walks alone
set_option linter.unusedVariables false
set_option linter.unusedSimpArgs false

/-! ### governorlaw03_FrameTells: function 3 -/
theorem refget_sl (A : Option Addr) (n c : Nat) (l : List Int) (W : World) (hn : n = l.length) (h : Kd.C (Kd.int .u8) W A n l) (hc : n ≤ c) (r1 r2 : Int) (r3 : List Int) (r4 r5 : Int) (hf : governorref03_Get.f l = some (r1, r2, r3, r4, r5)) :
    Calls Try.prog 11 #[.slice A n c] W fun e W' => ∃ A' c', e = .returned (.tuple #[.agg #[.int .i64 r1, .int .i64 r2, .slice A' r3.length c'], .int .i64 r4, .int .i64 r5]) ∧ r3.length ≤ c' ∧ Kd.C (Kd.int .u8) W' A' r3.length r3 ∧ Below W.heap.size W W' := by
  subst hn
  refine (governorref03_Get.calls A c l r1 r2 r3 r4 r5 W h hc hf).mono ?_
  rintro e W' ⟨v, rfl, hr, hb⟩
  obtain ⟨A', c', rfl⟩ := Kd.R_slice hr
  exact ⟨A', c', rfl, (Kd.R_reads' hr).2.1, (Kd.R_reads' hr).2.2, hb⟩
theorem refscan_sl (k : Nat) (A : Option Addr) (n c : Nat) (l : List Int) (a : Int) (W : World) (hn : n = l.length) (h : Kd.C (Kd.int .u8) W A n l) (hc : n ≤ c) (r1 : List S24) (r2 : Int) (hf : governorref03_Scan.f k l a = some (r1, r2)) :
    Calls Try.prog 13 #[.slice A n c, .int .i64 a] W fun e W' => ∃ A' c', e = .returned (.tuple #[.slice A' r1.length c', .int .i64 r2]) ∧ r1.length ≤ c' ∧ Kd.C k24 W' A' r1.length r1 ∧ Below W.heap.size W W' := by
  subst hn
  refine (governorref03_Scan.calls k A c l a r1 r2 W h hc hf).mono ?_
  rintro e W' ⟨v, rfl, hr, hb⟩
  obtain ⟨A', c', rfl⟩ := Kd.S_slice hr
  exact ⟨A', c', rfl, (Kd.S_reads' hr).2.1, (Kd.S_reads' hr).2.2, hb⟩
theorem refput_sl (t s : Int) (A : Option Addr) (c : Nat) (l : List Int) (W : World) (h : Kd.C (Kd.int .u8) W A l.length l) (hc : l.length ≤ c) (r : List Int) (hf : governorref03_Put.f t s l = some r) :
    Calls Try.prog 17 #[.agg #[.int .i64 t, .int .i64 s, .slice A l.length c]] W fun e W' => ∃ A' c', e = .returned (.slice A' r.length c') ∧ r.length ≤ c' ∧ Kd.C (Kd.int .u8) W' A' r.length r ∧ Below W.heap.size W W' := by
  refine (governorref03_Put.calls t s A c l r W h hc hf).mono ?_
  rintro e W' ⟨v, rfl, hr, hb⟩
  obtain ⟨A', c', rfl⟩ := Kd.R_slice hr
  exact ⟨A', c', rfl, (Kd.R_reads' hr).2.1, (Kd.R_reads' hr).2.2, hb⟩
theorem hd_later {W W' : World} {g : Nat} {o : Obj} (h : W.heap[g]? = some o) (hb : Below W.heap.size W W') : W'.heap[g]? = some o := (hb.block g (Array.getElem?_eq_some_iff.1 h).1).trans h
theorem wpAnyH_monoT {P : Program} {md : Region.Mode} {ops : Array Oper} {Q : Exit → Act → World → Prop} {S S' : World → Prop} (h : ∀ w, S' w → S w) : ∀ (fuel : Nat) (listed : Array Bool) (a : Act) (w : World), wpAnyH P md ops Q S' fuel listed a w → wpAnyH P md ops Q S fuel listed a w
  | 0, _, _, _, k => k
  | n + 1, _, _, _, k => ⟨k.1, fun i hi => wpOp_mono (fun a' w' q => ⟨h _ q.1, wpAnyH_monoT h n _ a' w' q.2⟩) (k.2 i hi)⟩
structure TP where
  (a0 a1 : Int) (A0 : Option Addr) (c0 : Nat) (l0 : List Int) (g3 g8 g11 : Nat) (t s : Int) (b : List Int) (A5 : Option Addr) (c5 : Nat) (A6 : Option Addr) (c6 : Nat) (S S' : List S24) (A14 : Option Addr) (c14 : Nat) (A15 : Option Addr) (c15 : Nat) (w : World)
structure TAt (p : TP) (W : World) : Prop where
  b3 : W.heap[p.g3]? = some (.cells #[.int .i64 p.a0, .int .i64 p.a1, .slice p.A0 p.l0.length p.c0] 24 (0, 0))
  b8 : W.heap[p.g8]? = some (.cells #[.int .i64 p.t, .int .i64 p.s, .slice p.A5 p.b.length p.c5] 24 (0, 0))
  b11 : W.heap[p.g11]? = some (.cells #[.int .i64 p.t, .int .i64 p.s, .slice p.A6 p.b.length p.c6] 24 (0, 0))
  cl : Kd.C (Kd.int .u8) W p.A0 p.l0.length p.l0
  hl : p.l0.length ≤ p.c0
  cx : Kd.C (Kd.int .u8) W p.A5 p.b.length p.b
  hx : p.b.length ≤ p.c5
  cy : Kd.C (Kd.int .u8) W p.A6 p.b.length p.b
  hy : p.b.length ≤ p.c6
  cs : Kd.C k24 W p.A14 p.S.length p.S
  hs : p.S.length ≤ p.c14
  cs' : Kd.C k24 W p.A15 p.S'.length p.S'
  hs' : p.S'.length ≤ p.c15
  below : Below p.w.heap.size p.w W
theorem TAt.later {p : TP} {W W' : World} (h : TAt p W) (hb : Below W.heap.size W W') : TAt p W' :=
  ⟨hd_later h.b3 hb, hd_later h.b8 hb, hd_later h.b11 hb, Kd.C_below h.cl hb, h.hl, Kd.C_below h.cx hb, h.hx, Kd.C_below h.cy hb, h.hy, Kd.C_below h.cs hb, h.hs, Kd.C_below h.cs' hb, h.hs', h.below.trans (hb.mono h.below.size)⟩
theorem TAt.alloc {p : TP} {W : World} (h : TAt p W) (o : Obj) : TAt p (W.alloc o) := h.later (below_alloc (Below.refl _ _) o)
theorem TAt.drewN {p : TP} {W : World} (h : TAt p W) (m : Nat) : TAt p (W.drewN m) := h.later (pw_below_drewN (Below.refl _ _) m)
theorem TAt.drew {p : TP} {W : World} (h : TAt p W) : TAt p W.drew := h.later (below_drew1 (Below.refl _ _))
theorem tl_right {p : TP} {W : World} (h : TAt p W) (r : Bool) (hf : frame_Right.f p.a0 p.a1 p.l0 = some r) : Calls Try.prog 14 #[.agg #[.int .i64 p.a0, .int .i64 p.a1, .slice p.A0 p.l0.length p.c0]] W fun e W' => e = .returned (.bool r) ∧ TAt p W' ∧ Below W.heap.size W W' :=
  (frame_Right.calls p.a0 p.a1 p.A0 p.c0 p.l0 r W h.cl h.hl hf).mono fun _ _ q => ⟨q.1, h.later q.2, q.2⟩
theorem tl_refright {p : TP} {W : World} (h : TAt p W) (r : Bool) (hf : governorref03_Right.f p.a0 p.a1 p.l0 = some r) : Calls Try.prog 15 #[.agg #[.int .i64 p.a0, .int .i64 p.a1, .slice p.A0 p.l0.length p.c0]] W fun e W' => e = .returned (.bool r) ∧ TAt p W' ∧ Below W.heap.size W W' :=
  (governorref03_Right.calls p.a0 p.a1 p.A0 p.c0 p.l0 r W h.cl h.hl hf).mono fun _ _ q => ⟨q.1, h.later q.2, q.2⟩
theorem tl_put {p : TP} {W : World} (h : TAt p W) (r : List Int) (hf : frame_Put.f p.a0 p.a1 p.l0 = some r) : Calls Try.prog 16 #[.agg #[.int .i64 p.a0, .int .i64 p.a1, .slice p.A0 p.l0.length p.c0]] W fun e W' => ∃ A' c', e = .returned (.slice A' r.length c') ∧ Kd.C (Kd.int .u8) W' A' r.length r ∧ TAt p W' ∧ Below W.heap.size W W' :=
  (put_sl p.a0 p.a1 p.A0 p.c0 p.l0 W h.cl h.hl r hf).mono fun _ _ ⟨A', c', q1, _, q3, q4⟩ => ⟨A', c', q1, q3, h.later q4, q4⟩
theorem tl_refput {p : TP} {W : World} (h : TAt p W) (r : List Int) (hf : governorref03_Put.f p.a0 p.a1 p.l0 = some r) : Calls Try.prog 17 #[.agg #[.int .i64 p.a0, .int .i64 p.a1, .slice p.A0 p.l0.length p.c0]] W fun e W' => ∃ A' c', e = .returned (.slice A' r.length c') ∧ Kd.C (Kd.int .u8) W' A' r.length r ∧ TAt p W' ∧ Below W.heap.size W W' :=
  (refput_sl p.a0 p.a1 p.A0 p.c0 p.l0 W h.cl h.hl r hf).mono fun _ _ ⟨A', c', q1, _, q3, q4⟩ => ⟨A', c', q1, q3, h.later q4, q4⟩
theorem tl_same {p : TP} {W : World} (h : TAt p W) (hf : sameL p.S p.S' = true) : Calls Try.prog 18 #[.slice p.A14 p.S.length p.c14, .slice p.A15 p.S'.length p.c15] W fun e W' => e = .returned (.bool true) ∧ Drawn0 W W' :=
  (governorref03_Same.calls p.A14 p.c14 p.S p.A15 p.c15 p.S' true W h.cs h.hs h.cs' h.hs' (by unfold governorref03_Same.f; rw [hf])).mono fun _ _ q => ⟨q.1, q.2⟩
theorem tl_one {p : TP} {W : World} (h : TAt p W) (g g' : Nat) (hg : g = W.heap.size) (hg' : g' = W.heap.size + 1) (hf : sameL [(⟨p.t, p.s, p.b⟩ : S24)] [(⟨p.t, p.s, p.b⟩ : S24)] = true) :
    Calls Try.prog 18 #[.slice (some ⟨g, 0, none⟩) 1 1, .slice (some ⟨g', 0, none⟩) 1 1] ((W.alloc (.cells #[.int .i64 p.t, .int .i64 p.s, .slice p.A5 p.b.length p.c5] 24)).alloc (.cells #[.int .i64 p.t, .int .i64 p.s, .slice p.A6 p.b.length p.c6] 24)) fun e W' => e = .returned (.bool true) ∧ Drawn0 ((W.alloc (.cells #[.int .i64 p.t, .int .i64 p.s, .slice p.A5 p.b.length p.c5] 24)).alloc (.cells #[.int .i64 p.t, .int .i64 p.s, .slice p.A6 p.b.length p.c6] 24)) W' :=
  (governorref03_Same.calls (some ⟨g, 0, none⟩) 1 [(⟨p.t, p.s, p.b⟩ : S24)] (some ⟨g', 0, none⟩) 1 [(⟨p.t, p.s, p.b⟩ : S24)] true _ (Kd.C_alloc (C_one24 W (⟨p.t, p.s, p.b⟩ : S24) p.A5 _ p.c5 g (0, 0) rfl h.hx h.cx hg) _) (Nat.le_refl 1) (C_one24 _ (⟨p.t, p.s, p.b⟩ : S24) p.A6 _ p.c6 g' (0, 0) rfl h.hy (Kd.C_alloc h.cy _) (by rw [hg']; simp)) (Nat.le_refl 1) (by unfold governorref03_Same.f; rw [hf])).mono fun _ _ q => ⟨q.1, q.2⟩
theorem tl_two {p : TP} {W : World} (h : TAt p W) (g g' : Nat) (hg : g = W.heap.size) (hg' : g' = W.heap.size + 1) (hf : sameL [(⟨p.t, p.s, p.b⟩ : S24)] [(⟨p.t, p.s, p.b⟩ : S24)] = true) :
    Calls Try.prog 18 #[.slice (some ⟨g', 0, none⟩) 1 1, .slice (some ⟨g, 0, none⟩) 1 1] ((W.alloc (.cells #[.int .i64 p.t, .int .i64 p.s, .slice p.A6 p.b.length p.c6] 24)).alloc (.cells #[.int .i64 p.t, .int .i64 p.s, .slice p.A5 p.b.length p.c5] 24)) fun e W' => e = .returned (.bool true) ∧ Drawn0 ((W.alloc (.cells #[.int .i64 p.t, .int .i64 p.s, .slice p.A6 p.b.length p.c6] 24)).alloc (.cells #[.int .i64 p.t, .int .i64 p.s, .slice p.A5 p.b.length p.c5] 24)) W' :=
  (governorref03_Same.calls (some ⟨g', 0, none⟩) 1 [(⟨p.t, p.s, p.b⟩ : S24)] (some ⟨g, 0, none⟩) 1 [(⟨p.t, p.s, p.b⟩ : S24)] true _ (C_one24 _ (⟨p.t, p.s, p.b⟩ : S24) p.A5 _ p.c5 g' (0, 0) rfl h.hx (Kd.C_alloc h.cx _) (by rw [hg']; simp)) (Nat.le_refl 1) (Kd.C_alloc (C_one24 W (⟨p.t, p.s, p.b⟩ : S24) p.A6 _ p.c6 g (0, 0) rfl h.hy h.cy hg) _) (Nat.le_refl 1) (by unfold governorref03_Same.f; rw [hf])).mono fun _ _ q => ⟨q.1, q.2⟩
def governorlaw03_FrameTells.f (k : Nat) (a0_0 : Int) (a0_1 : Int) (l0_2 : List Int) (l1 : List Int) (a2 : Int) : Option (Bool) :=
  if l0_2.length > 9000 ∨ l1.length > 9000 then some true else
  (frame_Get.f l1).bind fun x => (governorref03_Get.f l1).bind fun y => (frame_Scan.f k l1 a2).bind fun u => (governorref03_Scan.f k l1 a2).bind fun v => (frame_Right.f a0_0 a0_1 l0_2).bind fun r => (governorref03_Right.f a0_0 a0_1 l0_2).bind fun r' => (frame_Put.f a0_0 a0_1 l0_2).bind fun p => (governorref03_Put.f a0_0 a0_1 l0_2).bind fun q =>
  if x = y ∧ u.2 = v.2 ∧ r = r' ∧ p = q ∧ sameL [(⟨x.1, x.2.1, x.2.2.1⟩ : S24)] [(⟨x.1, x.2.1, x.2.2.1⟩ : S24)] = true ∧ sameL u.1 v.1 = true then some true else none
set_option maxRecDepth 100000 in
set_option maxHeartbeats 8000000 in
theorem governorlaw03_FrameTells.calls (k : Nat) (a0_0 : Int) (a0_1 : Int) (A0_2 : Option Addr) (c0_2 : Nat) (l0_2 : List Int) (A1 : Option Addr) (c1 : Nat) (l1 : List Int) (a2 : Int) (r : Bool) (w : World) (hr0_2 : Kd.C (Kd.int .u8) w A0_2 l0_2.length l0_2) (hc0_2 : l0_2.length ≤ c0_2) (hr1 : Kd.C (Kd.int .u8) w A1 l1.length l1) (hc1 : l1.length ≤ c1) (h : governorlaw03_FrameTells.f k a0_0 a0_1 l0_2 l1 a2 = some r) :
    Calls Try.prog 3 #[.agg #[.int .i64 a0_0, .int .i64 a0_1, .slice A0_2 l0_2.length c0_2], .slice A1 l1.length c1, .int .i64 a2] w fun e w' => e = .returned (.bool r) ∧ Below w.heap.size w w' := by
  have hu24 := Try.underlying24
  have hu22 := Try.underlying22
  have HR0 := Aside0.mk hr0_2
  have HC0 := Aside0.mk hc0_2
  have HR1 := Aside0.mk hr1
  have HC1 := Aside0.mk hc1
  have HB0 := Aside0.mk (show Below w.heap.size w _ from below_alloc (Below.refl w.heap.size w) (.cells #[.int .i64 a0_0, .int .i64 a0_1, .slice A0_2 l0_2.length c0_2] 24))
  have HX0 := Aside0.mk (heap_alloc_last w (.cells #[.int .i64 a0_0, .int .i64 a0_1, .slice A0_2 l0_2.length c0_2] 24))
  clear hr0_2 hc0_2 hr1 hc1
  unfold governorlaw03_FrameTells.f at h
  have H := Aside0.mk h
  clear h
  go_enter Try.func3, Try.ntmps3
  go_wp2_with fail
  refine (governorlaw03_head.calls true _ rfl).mono ?_
  rintro e w1 ⟨rfl, hb1⟩
  have HB1 := Aside0.mk (HB0.out.trans (hb1.mono HB0.out.size))
  have hX1 := hd_later HX0.out hb1
  have d0 := Go.Proofs.Ytgfpkgbkbempkaa.W.cellOf hX1 0 rfl
  have d1 := Go.Proofs.Ytgfpkgbkbempkaa.W.cellOf hX1 1 rfl
  have d2 := Go.Proofs.Ytgfpkgbkbempkaa.W.cellOf hX1 2 rfl
  have HX1 := Aside0.mk hX1
  clear hb1 HB0 HX0 hX1
  by_cases h9 : l0_2.length > 9000
  · obtain rfl : true = r := by have h := H.out; rw [if_pos (.inl h9)] at h; exact Option.some.inj h
    have b9 : decide (9000 < (l0_2.length : Int)) = true := decide_eq_true (by omega)
    have b9' : ((9000 : Int) < (l0_2.length : Int)) = True := eq_true (by omega)
    go_wp2_with fail
    go_ret
    exact ⟨rfl, HB1.out⟩
  have b9 : decide (9000 < (l0_2.length : Int)) = false := decide_eq_false (by omega)
  by_cases h8 : l1.length > 9000
  · obtain rfl : true = r := by have h := H.out; rw [if_pos (.inr h8)] at h; exact Option.some.inj h
    have b8 : decide (9000 < (l1.length : Int)) = true := decide_eq_true (by omega)
    go_wp2_with fail
    go_ret
    exact ⟨rfl, HB1.out⟩
  have b8 : decide (9000 < (l1.length : Int)) = false := decide_eq_false (by omega)
  have h := H.out
  rw [if_neg (by omega)] at h
  obtain ⟨⟨t, s, b, m, er⟩, e1, h⟩ := Option.bind_eq_some_iff.1 h
  obtain ⟨y, e2, h⟩ := Option.bind_eq_some_iff.1 h
  obtain ⟨⟨S, n⟩, e3, h⟩ := Option.bind_eq_some_iff.1 h
  obtain ⟨⟨S', n'⟩, e4, h⟩ := Option.bind_eq_some_iff.1 h
  obtain ⟨rr, e5, h⟩ := Option.bind_eq_some_iff.1 h
  obtain ⟨rr', e6, h⟩ := Option.bind_eq_some_iff.1 h
  obtain ⟨p, e7, h⟩ := Option.bind_eq_some_iff.1 h
  obtain ⟨q, e8, h⟩ := Option.bind_eq_some_iff.1 h
  split at h
  case isFalse => cases h
  rename_i hh
  obtain rfl := Option.some.inj h
  obtain ⟨rfl, k2, rfl, rfl, k5, k6⟩ := hh
  obtain rfl : n = n' := k2
  have E1 := Aside0.mk e1
  have E2 := Aside0.mk e2
  have E3 := Aside0.mk e3
  have E4 := Aside0.mk e4
  have E5 := Aside0.mk e5
  have E6 := Aside0.mk e6
  have E7 := Aside0.mk e7
  have E8 := Aside0.mk e8
  have K5 := Aside0.mk k5
  have K6 := Aside0.mk k6
  clear e1 e2 e3 e4 e5 e6 e7 e8 k5 k6 h H
  go_wp2_with fail
  have hw : w.heap.size ≤ w1.heap.size := HB1.out.size
  have C1 := Aside0.mk (Kd.C_below HR1.out (HB1.out.mono (Nat.le_refl _)))
  refine (get_sl A1 _ c1 l1 w1 rfl C1.out HC1.out _ _ _ _ _ E1.out).mono ?_
  rintro e w2 ⟨A5, c5, rfl, hc5, hC5, hb2⟩
  have HB2 := Aside0.mk (HB1.out.trans (hb2.mono HB1.out.size))
  have HX2 := Aside0.mk (hd_later HX1.out hb2)
  have C2 := Aside0.mk (Kd.C_below C1.out hb2)
  have C5 := Aside0.mk hC5
  have N5 := Aside0.mk hc5
  have HY2 := Aside0.mk (heap_alloc_last w2 (.cells #[.int .i64 t, .int .i64 s, .slice A5 b.length c5] 24))
  clear hb2 hC5 hc5 d0 d1 d2
  go_wp2_with fail
  refine (refget_sl A1 _ c1 l1 _ rfl (Kd.C_alloc C2.out _) HC1.out _ _ _ _ _ E2.out).mono ?_
  rintro e w3 ⟨A6, c6, rfl, hc6, hC6, hb3⟩
  have HB3 := Aside0.mk ((below_alloc HB2.out _).trans (hb3.mono (below_alloc HB2.out _).size))
  have HX3 := Aside0.mk (hd_later (Go.Proofs.Ytgfpkgbkbempkaa.W.hd_old HX2.out _) hb3)
  have HY3 := Aside0.mk (hd_later HY2.out hb3)
  have C3 := Aside0.mk (Kd.C_below (Kd.C_alloc C2.out _) hb3)
  have C53 := Aside0.mk (Kd.C_below (Kd.C_alloc C5.out _) hb3)
  have C6 := Aside0.mk hC6
  have N6 := Aside0.mk hc6
  have HZ3 := Aside0.mk (heap_alloc_last w3 (.cells #[.int .i64 t, .int .i64 s, .slice A6 b.length c6] 24))
  clear hb3 hC6 hc6
  go_wp2_with fail
  refine (scan_sl k A1 _ c1 l1 a2 _ rfl (Kd.C_alloc C3.out _) HC1.out _ _ E3.out).mono ?_
  rintro e w4 ⟨A14, c14, rfl, hc14, hC14, hb4⟩
  have HB4 := Aside0.mk ((below_alloc HB3.out _).trans (hb4.mono (below_alloc HB3.out _).size))
  have HX4 := Aside0.mk (hd_later (Go.Proofs.Ytgfpkgbkbempkaa.W.hd_old HX3.out _) hb4)
  have HY4 := Aside0.mk (hd_later (Go.Proofs.Ytgfpkgbkbempkaa.W.hd_old HY3.out _) hb4)
  have HZ4 := Aside0.mk (hd_later HZ3.out hb4)
  have C4 := Aside0.mk (Kd.C_below (Kd.C_alloc C3.out _) hb4)
  have C54 := Aside0.mk (Kd.C_below (Kd.C_alloc C53.out _) hb4)
  have C64 := Aside0.mk (Kd.C_below (Kd.C_alloc C6.out _) hb4)
  have C14 := Aside0.mk hC14
  have N14 := Aside0.mk hc14
  clear hb4 hC14 hc14
  go_wp2_with fail
  refine (refscan_sl k A1 _ c1 l1 a2 w4 rfl C4.out HC1.out _ _ E4.out).mono ?_
  rintro e wr ⟨A15, c15, rfl, hc15, hC15, hb5⟩
  have hT : TAt ⟨a0_0, a0_1, A0_2, c0_2, l0_2, w.heap.size, w2.heap.size, w3.heap.size, t, s, b, A5, c5, A6, c6, S, S', A14, c14, A15, c15, w⟩ wr :=
    ⟨hd_later HX4.out hb5, hd_later HY4.out hb5, hd_later HZ4.out hb5, Kd.C_below HR0.out ((HB4.out.trans (hb5.mono HB4.out.size)).mono (Nat.le_refl _)), HC0.out, Kd.C_below C54.out hb5, N5.out, Kd.C_below C64.out hb5, N6.out, Kd.C_below C14.out hb5, N14.out, hC15, hc15, HB4.out.trans (hb5.mono HB4.out.size)⟩
  have HT := Aside0.mk hT
  have d0 := Go.Proofs.Ytgfpkgbkbempkaa.W.cellOf hT.b3 0 rfl
  have d1 := Go.Proofs.Ytgfpkgbkbempkaa.W.cellOf hT.b3 1 rfl
  have d2 := Go.Proofs.Ytgfpkgbkbempkaa.W.cellOf hT.b3 2 rfl
  have d3 := Go.Proofs.Ytgfpkgbkbempkaa.W.cellOf hT.b8 0 rfl
  have d4 := Go.Proofs.Ytgfpkgbkbempkaa.W.cellOf hT.b8 1 rfl
  have d5 := Go.Proofs.Ytgfpkgbkbempkaa.W.cellOf hT.b8 2 rfl
  have d6 := Go.Proofs.Ytgfpkgbkbempkaa.W.cellOf hT.b11 0 rfl
  have d7 := Go.Proofs.Ytgfpkgbkbempkaa.W.cellOf hT.b11 1 rfl
  have d8 := Go.Proofs.Ytgfpkgbkbempkaa.W.cellOf hT.b11 2 rfl
  dsimp only at d0 d1 d2 d3 d4 d5 d6 d7 d8
  clear hT hb5 hC15 hc15 HB4 HX4 HY4 HZ4 C4 C54 C64 C14 N14 HX3 HY3 HZ3 C3 C53 C6 N6 HB3 HB2 HX2 HY2 C2 C5 N5 HB1 HX1 C1 E1 E2 E3 E4
  clear HR0 HC0 HR1 HC1
  go_wp2_with fail
  have HT := Aside0.mk (HT.out.drew)
  refine wp_region_noPanic ?_
  refine wp_region_held_drew (S := fun w' => w'.cell? ⟨w.heap.size, 0, none⟩ = some (.int .i64 a0_0) ∧ w'.cell? ⟨w.heap.size, 1, none⟩ = some (.int .i64 a0_1) ∧ w'.cell? ⟨w.heap.size, 2, none⟩ = some (.slice A0_2 l0_2.length c0_2) ∧ w'.cell? ⟨w2.heap.size, 0, none⟩ = some (.int .i64 t) ∧ w'.cell? ⟨w2.heap.size, 1, none⟩ = some (.int .i64 s) ∧ w'.cell? ⟨w2.heap.size, 2, none⟩ = some (.slice A5 b.length c5) ∧ w'.cell? ⟨w3.heap.size, 0, none⟩ = some (.int .i64 t) ∧ w'.cell? ⟨w3.heap.size, 1, none⟩ = some (.int .i64 s) ∧ w'.cell? ⟨w3.heap.size, 2, none⟩ = some (.slice A6 b.length c6)) (by kernel_rfl) ⟨d0, d1, d2, d3, d4, d5, d6, d7, d8⟩ (fun hHeld => ?_)
  refine wpAnyH_take (i := 0) (oi := ({ dst := some 53, op := Op.move (Operand.tmp 7), type := 4, pos := "law.go:47", after := #[], guard := none } : Oper)) (v := ?_) rfl (by kernel_rfl) (by kernel_rfl) (by kernel_rfl) (fun _ _ _ h => h) (Or.inl ⟨by rfl, ?hyT1⟩) (by assumption) ?rsT1
  case hyT1 => (intro w8' hSw; (try dsimp only at hSw); go_simp; (first | done | with_reducible rfl))
  (try simp only [Act.put, List.setIfInBounds_toArray, List.set_cons_zero, List.set_cons_succ])
  refine wpAnyH_take (i := 1) (oi := ({ dst := some 54, op := Op.move (Operand.tmp 53), type := 4, pos := "law.go:47", after := #[{ on := 0, ground := Ground.data }], guard := none } : Oper)) (v := ?_) rfl (by kernel_rfl) (by kernel_rfl) (by kernel_rfl) (fun _ _ _ h => h) (Or.inl ⟨by rfl, ?hyT2⟩) (by assumption) ?rsT2
  case hyT2 => (intro w8' hSw; (try dsimp only at hSw); go_simp; (first | done | with_reducible rfl))
  (try simp only [Act.put, List.setIfInBounds_toArray, List.set_cons_zero, List.set_cons_succ])
  refine wpAnyH_take (i := 2) (oi := ({ dst := some 55, op := Op.load 24 (Operand.tmp 3), type := 24, pos := "law.go:47", after := #[{ on := 1, ground := Ground.guard }], guard := some (1, true) } : Oper)) (v := ?_) rfl (by kernel_rfl) (by kernel_rfl) (by kernel_rfl) (fun _ _ _ h => h) (Or.inl ⟨by rfl, ?hyT3⟩) (by assumption) ?rsT3
  case hyT3 => (intro w8' hSw; (try dsimp only at hSw); go_simp; (first | done | with_reducible rfl))
  (try simp only [Act.put, List.setIfInBounds_toArray, List.set_cons_zero, List.set_cons_succ])
  refine wpAnyH_take (i := 4) (oi := ({ dst := some 57, op := Op.load 24 (Operand.tmp 3), type := 24, pos := "law.go:47", after := #[{ on := 1, ground := Ground.guard }], guard := some (1, true) } : Oper)) (v := ?_) rfl (by kernel_rfl) (by kernel_rfl) (by kernel_rfl) (fun _ _ _ h => h) (Or.inl ⟨by rfl, ?hyT4⟩) (by assumption) ?rsT4
  case hyT4 => (intro w8' hSw; (try dsimp only at hSw); go_simp; (first | done | with_reducible rfl))
  (try simp only [Act.put, List.setIfInBounds_toArray, List.set_cons_zero, List.set_cons_succ])
  refine wpAnyH_ready (rs := [3]) (by kernel_rfl) (by simp) ?_
  refine AllReadyH.cons (o := ({ dst := some 56, op := Op.call { callee := Callee.value (Operand.func 14), args := #[Operand.tmp 55], argTypes := #[24] }, type := 4, pos := "law.go:47", after := #[{ on := 2, ground := Ground.data }, { on := 1, ground := Ground.chain }, { on := 1, ground := Ground.guard }], guard := some (1, true) } : Oper)) rfl (fun K hK => ?_) AllReadyH.nil
  rw [if_pos (by rfl)]
  go_simp
  refine (tl_right (p := ⟨a0_0, a0_1, A0_2, c0_2, l0_2, w.heap.size, w2.heap.size, w3.heap.size, t, s, b, A5, c5, A6, c6, S, S', A14, c14, A15, c15, w⟩) HT.out rr E5.out).mono ?_
  rintro e w5 ⟨rfl, hT, hb⟩
  have HT := Aside0.mk hT
  clear hT hb
  have sAll : ∀ W' : World, Below w5.heap.size w5 W' → (fun w' => w'.cell? ⟨w.heap.size, 0, none⟩ = some (.int .i64 a0_0) ∧ w'.cell? ⟨w.heap.size, 1, none⟩ = some (.int .i64 a0_1) ∧ w'.cell? ⟨w.heap.size, 2, none⟩ = some (.slice A0_2 l0_2.length c0_2) ∧ w'.cell? ⟨w2.heap.size, 0, none⟩ = some (.int .i64 t) ∧ w'.cell? ⟨w2.heap.size, 1, none⟩ = some (.int .i64 s) ∧ w'.cell? ⟨w2.heap.size, 2, none⟩ = some (.slice A5 b.length c5) ∧ w'.cell? ⟨w3.heap.size, 0, none⟩ = some (.int .i64 t) ∧ w'.cell? ⟨w3.heap.size, 1, none⟩ = some (.int .i64 s) ∧ w'.cell? ⟨w3.heap.size, 2, none⟩ = some (.slice A6 b.length c6)) W' := fun W' hb' => by have hT' := HT.out.later hb'; exact ⟨Go.Proofs.Ytgfpkgbkbempkaa.W.cellOf hT'.b3 0 rfl, Go.Proofs.Ytgfpkgbkbempkaa.W.cellOf hT'.b3 1 rfl, Go.Proofs.Ytgfpkgbkbempkaa.W.cellOf hT'.b3 2 rfl, Go.Proofs.Ytgfpkgbkbempkaa.W.cellOf hT'.b8 0 rfl, Go.Proofs.Ytgfpkgbkbempkaa.W.cellOf hT'.b8 1 rfl, Go.Proofs.Ytgfpkgbkbempkaa.W.cellOf hT'.b8 2 rfl, Go.Proofs.Ytgfpkgbkbempkaa.W.cellOf hT'.b11 0 rfl, Go.Proofs.Ytgfpkgbkbempkaa.W.cellOf hT'.b11 1 rfl, Go.Proofs.Ytgfpkgbkbempkaa.W.cellOf hT'.b11 2 rfl⟩
  go_simp
  refine hK.out _ _ (sAll _ (Below.refl _ _)) (fun hHeld => ?_)
  clear hK
  (try simp only [Act.put, List.setIfInBounds_toArray, List.set_cons_zero, List.set_cons_succ])
  refine wpAnyH_ready (rs := [5]) (by kernel_rfl) (by simp) ?_
  refine AllReadyH.cons (o := ({ dst := some 58, op := Op.call { callee := Callee.value (Operand.func 15), args := #[Operand.tmp 57], argTypes := #[24] }, type := 4, pos := "law.go:47", after := #[{ on := 4, ground := Ground.data }, { on := 3, ground := Ground.chain }, { on := 1, ground := Ground.guard }], guard := some (1, true) } : Oper)) rfl (fun K hK => ?_) AllReadyH.nil
  rw [if_pos (by rfl)]
  go_simp
  refine (tl_refright (p := ⟨a0_0, a0_1, A0_2, c0_2, l0_2, w.heap.size, w2.heap.size, w3.heap.size, t, s, b, A5, c5, A6, c6, S, S', A14, c14, A15, c15, w⟩) HT.out rr E6.out).mono ?_
  rintro e w5 ⟨rfl, hT, hb⟩
  have HT := Aside0.mk hT
  clear hT hb
  have sAll : ∀ W' : World, Below w5.heap.size w5 W' → (fun w' => w'.cell? ⟨w.heap.size, 0, none⟩ = some (.int .i64 a0_0) ∧ w'.cell? ⟨w.heap.size, 1, none⟩ = some (.int .i64 a0_1) ∧ w'.cell? ⟨w.heap.size, 2, none⟩ = some (.slice A0_2 l0_2.length c0_2) ∧ w'.cell? ⟨w2.heap.size, 0, none⟩ = some (.int .i64 t) ∧ w'.cell? ⟨w2.heap.size, 1, none⟩ = some (.int .i64 s) ∧ w'.cell? ⟨w2.heap.size, 2, none⟩ = some (.slice A5 b.length c5) ∧ w'.cell? ⟨w3.heap.size, 0, none⟩ = some (.int .i64 t) ∧ w'.cell? ⟨w3.heap.size, 1, none⟩ = some (.int .i64 s) ∧ w'.cell? ⟨w3.heap.size, 2, none⟩ = some (.slice A6 b.length c6)) W' := fun W' hb' => by have hT' := HT.out.later hb'; exact ⟨Go.Proofs.Ytgfpkgbkbempkaa.W.cellOf hT'.b3 0 rfl, Go.Proofs.Ytgfpkgbkbempkaa.W.cellOf hT'.b3 1 rfl, Go.Proofs.Ytgfpkgbkbempkaa.W.cellOf hT'.b3 2 rfl, Go.Proofs.Ytgfpkgbkbempkaa.W.cellOf hT'.b8 0 rfl, Go.Proofs.Ytgfpkgbkbempkaa.W.cellOf hT'.b8 1 rfl, Go.Proofs.Ytgfpkgbkbempkaa.W.cellOf hT'.b8 2 rfl, Go.Proofs.Ytgfpkgbkbempkaa.W.cellOf hT'.b11 0 rfl, Go.Proofs.Ytgfpkgbkbempkaa.W.cellOf hT'.b11 1 rfl, Go.Proofs.Ytgfpkgbkbempkaa.W.cellOf hT'.b11 2 rfl⟩
  go_simp
  refine hK.out _ _ (sAll _ (Below.refl _ _)) (fun hHeld => ?_)
  clear hK
  (try simp only [Act.put, List.setIfInBounds_toArray, List.set_cons_zero, List.set_cons_succ])
  refine wpAnyH_take (i := 6) (oi := ({ dst := some 59, op := Op.binOp BinOp.eql 4 (Operand.tmp 56) (Operand.tmp 58) 4, type := 4, pos := "law.go:47", after := #[{ on := 3, ground := Ground.data }, { on := 5, ground := Ground.data }, { on := 1, ground := Ground.guard }], guard := some (1, true) } : Oper)) (v := ?_) rfl (by kernel_rfl) (by kernel_rfl) (by kernel_rfl) (fun _ _ _ h => h) (Or.inl ⟨by rfl, ?hyT5⟩) (by assumption) ?rsT5
  case hyT5 => (intro w8' hSw; (try dsimp only at hSw); go_simp; (first | done | with_reducible rfl))
  (try simp only [Act.put, List.setIfInBounds_toArray, List.set_cons_zero, List.set_cons_succ])
  refine wpAnyH_take (i := 7) (oi := ({ dst := some 60, op := Op.pick (Operand.tmp 54) (Operand.tmp 59) (Operand.const (Value.bool false)), type := 4, pos := "law.go:47", after := #[{ on := 1, ground := Ground.data }, { on := 6, ground := Ground.data }], guard := none } : Oper)) (v := ?_) rfl (by kernel_rfl) (by kernel_rfl) (by kernel_rfl) (fun _ _ _ h => h) (Or.inl ⟨by rfl, ?hyT6⟩) (by assumption) ?rsT6
  case hyT6 => (intro w8' hSw; (try dsimp only at hSw); go_simp; (first | done | with_reducible rfl))
  (try simp only [Act.put, List.setIfInBounds_toArray, List.set_cons_zero, List.set_cons_succ])
  refine wpAnyH_take (i := 8) (oi := ({ dst := some 61, op := Op.move (Operand.tmp 60), type := 4, pos := "law.go:47", after := #[{ on := 7, ground := Ground.data }, { on := 5, ground := Ground.chain }], guard := none } : Oper)) (v := ?_) rfl (by kernel_rfl) (by kernel_rfl) (by kernel_rfl) (fun _ _ _ h => h) (Or.inl ⟨by rfl, ?hyT7⟩) (by assumption) ?rsT7
  case hyT7 => (intro w8' hSw; (try dsimp only at hSw); go_simp; (first | done | with_reducible rfl))
  (try simp only [Act.put, List.setIfInBounds_toArray, List.set_cons_zero, List.set_cons_succ])
  refine wpAnyH_take (i := 9) (oi := ({ dst := some 62, op := Op.load 24 (Operand.tmp 3), type := 24, pos := "law.go:47", after := #[{ on := 8, ground := Ground.guard }], guard := some (8, true) } : Oper)) (v := ?_) rfl (by kernel_rfl) (by kernel_rfl) (by kernel_rfl) (fun _ _ _ h => h) (Or.inl ⟨by rfl, ?hyT8⟩) (by assumption) ?rsT8
  case hyT8 => (intro w8' hSw; (try dsimp only at hSw); go_simp; (first | done | with_reducible rfl))
  (try simp only [Act.put, List.setIfInBounds_toArray, List.set_cons_zero, List.set_cons_succ])
  refine wpAnyH_take (i := 12) (oi := ({ dst := some 65, op := Op.load 24 (Operand.tmp 3), type := 24, pos := "law.go:47", after := #[{ on := 8, ground := Ground.guard }], guard := some (8, true) } : Oper)) (v := ?_) rfl (by kernel_rfl) (by kernel_rfl) (by kernel_rfl) (fun _ _ _ h => h) (Or.inl ⟨by rfl, ?hyT9⟩) (by assumption) ?rsT9
  case hyT9 => (intro w8' hSw; (try dsimp only at hSw); go_simp; (first | done | with_reducible rfl))
  (try simp only [Act.put, List.setIfInBounds_toArray, List.set_cons_zero, List.set_cons_succ])
  refine wpAnyH_ready (rs := [10]) (by kernel_rfl) (by simp) ?_
  refine AllReadyH.cons (o := ({ dst := some 63, op := Op.call { callee := Callee.value (Operand.func 16), args := #[Operand.tmp 62], argTypes := #[24] }, type := 22, pos := "law.go:47", after := #[{ on := 9, ground := Ground.data }, { on := 8, ground := Ground.chain }, { on := 8, ground := Ground.guard }], guard := some (8, true) } : Oper)) rfl (fun K hK => ?_) AllReadyH.nil
  rw [if_pos (by rfl)]
  go_simp
  refine (tl_put (p := ⟨a0_0, a0_1, A0_2, c0_2, l0_2, w.heap.size, w2.heap.size, w3.heap.size, t, s, b, A5, c5, A6, c6, S, S', A14, c14, A15, c15, w⟩) HT.out p E7.out).mono ?_
  rintro e w5 ⟨AP, cP, rfl, hC, hT, hb⟩
  have HT := Aside0.mk hT
  have HP := Aside0.mk hC
  clear hT hb hC
  have sAll : ∀ W' : World, Below w5.heap.size w5 W' → (fun w' => (w'.cell? ⟨w.heap.size, 0, none⟩ = some (.int .i64 a0_0) ∧ w'.cell? ⟨w.heap.size, 1, none⟩ = some (.int .i64 a0_1) ∧ w'.cell? ⟨w.heap.size, 2, none⟩ = some (.slice A0_2 l0_2.length c0_2) ∧ w'.cell? ⟨w2.heap.size, 0, none⟩ = some (.int .i64 t) ∧ w'.cell? ⟨w2.heap.size, 1, none⟩ = some (.int .i64 s) ∧ w'.cell? ⟨w2.heap.size, 2, none⟩ = some (.slice A5 b.length c5) ∧ w'.cell? ⟨w3.heap.size, 0, none⟩ = some (.int .i64 t) ∧ w'.cell? ⟨w3.heap.size, 1, none⟩ = some (.int .i64 s) ∧ w'.cell? ⟨w3.heap.size, 2, none⟩ = some (.slice A6 b.length c6)) ∧ (convert 22 9 (.slice AP p.length cP)).run Try.prog w' = .ok (.string (strOfNums p)) w') W' := fun W' hb' => by have hT' := HT.out.later hb'; exact ⟨⟨Go.Proofs.Ytgfpkgbkbempkaa.W.cellOf hT'.b3 0 rfl, Go.Proofs.Ytgfpkgbkbempkaa.W.cellOf hT'.b3 1 rfl, Go.Proofs.Ytgfpkgbkbempkaa.W.cellOf hT'.b3 2 rfl, Go.Proofs.Ytgfpkgbkbempkaa.W.cellOf hT'.b8 0 rfl, Go.Proofs.Ytgfpkgbkbempkaa.W.cellOf hT'.b8 1 rfl, Go.Proofs.Ytgfpkgbkbempkaa.W.cellOf hT'.b8 2 rfl, Go.Proofs.Ytgfpkgbkbempkaa.W.cellOf hT'.b11 0 rfl, Go.Proofs.Ytgfpkgbkbempkaa.W.cellOf hT'.b11 1 rfl, Go.Proofs.Ytgfpkgbkbempkaa.W.cellOf hT'.b11 2 rfl⟩, Kd.C_string (P := Try.prog) (c := cP) Try.underlying22 Try.underlying5 Try.underlying9 (Kd.C_below HP.out hb')⟩
  go_simp
  refine hK.out _ _ (sAll _ (Below.refl _ _)).1 (fun _ => wpAnyH_monoT (S' := fun w' => (w'.cell? ⟨w.heap.size, 0, none⟩ = some (.int .i64 a0_0) ∧ w'.cell? ⟨w.heap.size, 1, none⟩ = some (.int .i64 a0_1) ∧ w'.cell? ⟨w.heap.size, 2, none⟩ = some (.slice A0_2 l0_2.length c0_2) ∧ w'.cell? ⟨w2.heap.size, 0, none⟩ = some (.int .i64 t) ∧ w'.cell? ⟨w2.heap.size, 1, none⟩ = some (.int .i64 s) ∧ w'.cell? ⟨w2.heap.size, 2, none⟩ = some (.slice A5 b.length c5) ∧ w'.cell? ⟨w3.heap.size, 0, none⟩ = some (.int .i64 t) ∧ w'.cell? ⟨w3.heap.size, 1, none⟩ = some (.int .i64 s) ∧ w'.cell? ⟨w3.heap.size, 2, none⟩ = some (.slice A6 b.length c6)) ∧ (convert 22 9 (.slice AP p.length cP)).run Try.prog w' = .ok (.string (strOfNums p)) w') (fun _ h => h.1) _ _ _ _ ?_)
  clear hK
  have hHeld : (fun w' => (w'.cell? ⟨w.heap.size, 0, none⟩ = some (.int .i64 a0_0) ∧ w'.cell? ⟨w.heap.size, 1, none⟩ = some (.int .i64 a0_1) ∧ w'.cell? ⟨w.heap.size, 2, none⟩ = some (.slice A0_2 l0_2.length c0_2) ∧ w'.cell? ⟨w2.heap.size, 0, none⟩ = some (.int .i64 t) ∧ w'.cell? ⟨w2.heap.size, 1, none⟩ = some (.int .i64 s) ∧ w'.cell? ⟨w2.heap.size, 2, none⟩ = some (.slice A5 b.length c5) ∧ w'.cell? ⟨w3.heap.size, 0, none⟩ = some (.int .i64 t) ∧ w'.cell? ⟨w3.heap.size, 1, none⟩ = some (.int .i64 s) ∧ w'.cell? ⟨w3.heap.size, 2, none⟩ = some (.slice A6 b.length c6)) ∧ (convert 22 9 (.slice AP p.length cP)).run Try.prog w' = .ok (.string (strOfNums p)) w') w5 := sAll _ (Below.refl _ _)
  (try simp only [Act.put, List.setIfInBounds_toArray, List.set_cons_zero, List.set_cons_succ])
  refine wpAnyH_take (i := 11) (oi := ({ dst := some 64, op := Op.convert 22 9 (Operand.tmp 63), type := 9, pos := "law.go:47", after := #[{ on := 10, ground := Ground.data }, { on := 8, ground := Ground.guard }], guard := some (8, true) } : Oper)) (v := ?_) rfl (by kernel_rfl) (by kernel_rfl) (by kernel_rfl) (fun _ _ _ h => h) (Or.inl ⟨by rfl, ?hyT10⟩) (by assumption) ?rsT10
  case hyT10 => (intro w8' hSw; (try dsimp only at hSw); go_simp; (first | done | with_reducible rfl))
  (try simp only [Act.put, List.setIfInBounds_toArray, List.set_cons_zero, List.set_cons_succ])
  refine wpAnyH_ready (rs := [13]) (by kernel_rfl) (by simp) ?_
  refine AllReadyH.cons (o := ({ dst := some 66, op := Op.call { callee := Callee.value (Operand.func 17), args := #[Operand.tmp 65], argTypes := #[24] }, type := 22, pos := "law.go:47", after := #[{ on := 12, ground := Ground.data }, { on := 10, ground := Ground.chain }, { on := 8, ground := Ground.guard }], guard := some (8, true) } : Oper)) rfl (fun K hK => ?_) AllReadyH.nil
  rw [if_pos (by rfl)]
  go_simp
  refine (tl_refput (p := ⟨a0_0, a0_1, A0_2, c0_2, l0_2, w.heap.size, w2.heap.size, w3.heap.size, t, s, b, A5, c5, A6, c6, S, S', A14, c14, A15, c15, w⟩) HT.out p E8.out).mono ?_
  rintro e w5 ⟨AQ, cQ, rfl, hC, hT, hb⟩
  have HP := Aside0.mk (Kd.C_below HP.out hb)
  have HT := Aside0.mk hT
  have HQ := Aside0.mk hC
  clear hT hb hC
  have sAll : ∀ W' : World, Below w5.heap.size w5 W' → (fun w' => ((w'.cell? ⟨w.heap.size, 0, none⟩ = some (.int .i64 a0_0) ∧ w'.cell? ⟨w.heap.size, 1, none⟩ = some (.int .i64 a0_1) ∧ w'.cell? ⟨w.heap.size, 2, none⟩ = some (.slice A0_2 l0_2.length c0_2) ∧ w'.cell? ⟨w2.heap.size, 0, none⟩ = some (.int .i64 t) ∧ w'.cell? ⟨w2.heap.size, 1, none⟩ = some (.int .i64 s) ∧ w'.cell? ⟨w2.heap.size, 2, none⟩ = some (.slice A5 b.length c5) ∧ w'.cell? ⟨w3.heap.size, 0, none⟩ = some (.int .i64 t) ∧ w'.cell? ⟨w3.heap.size, 1, none⟩ = some (.int .i64 s) ∧ w'.cell? ⟨w3.heap.size, 2, none⟩ = some (.slice A6 b.length c6)) ∧ (convert 22 9 (.slice AP p.length cP)).run Try.prog w' = .ok (.string (strOfNums p)) w') ∧ (convert 22 9 (.slice AQ p.length cQ)).run Try.prog w' = .ok (.string (strOfNums p)) w') W' := fun W' hb' => by have hT' := HT.out.later hb'; exact ⟨⟨⟨Go.Proofs.Ytgfpkgbkbempkaa.W.cellOf hT'.b3 0 rfl, Go.Proofs.Ytgfpkgbkbempkaa.W.cellOf hT'.b3 1 rfl, Go.Proofs.Ytgfpkgbkbempkaa.W.cellOf hT'.b3 2 rfl, Go.Proofs.Ytgfpkgbkbempkaa.W.cellOf hT'.b8 0 rfl, Go.Proofs.Ytgfpkgbkbempkaa.W.cellOf hT'.b8 1 rfl, Go.Proofs.Ytgfpkgbkbempkaa.W.cellOf hT'.b8 2 rfl, Go.Proofs.Ytgfpkgbkbempkaa.W.cellOf hT'.b11 0 rfl, Go.Proofs.Ytgfpkgbkbempkaa.W.cellOf hT'.b11 1 rfl, Go.Proofs.Ytgfpkgbkbempkaa.W.cellOf hT'.b11 2 rfl⟩, Kd.C_string (P := Try.prog) (c := cP) Try.underlying22 Try.underlying5 Try.underlying9 (Kd.C_below HP.out hb')⟩, Kd.C_string (P := Try.prog) (c := cQ) Try.underlying22 Try.underlying5 Try.underlying9 (Kd.C_below HQ.out hb')⟩
  go_simp
  refine hK.out _ _ (sAll _ (Below.refl _ _)).1 (fun _ => wpAnyH_monoT (S' := fun w' => ((w'.cell? ⟨w.heap.size, 0, none⟩ = some (.int .i64 a0_0) ∧ w'.cell? ⟨w.heap.size, 1, none⟩ = some (.int .i64 a0_1) ∧ w'.cell? ⟨w.heap.size, 2, none⟩ = some (.slice A0_2 l0_2.length c0_2) ∧ w'.cell? ⟨w2.heap.size, 0, none⟩ = some (.int .i64 t) ∧ w'.cell? ⟨w2.heap.size, 1, none⟩ = some (.int .i64 s) ∧ w'.cell? ⟨w2.heap.size, 2, none⟩ = some (.slice A5 b.length c5) ∧ w'.cell? ⟨w3.heap.size, 0, none⟩ = some (.int .i64 t) ∧ w'.cell? ⟨w3.heap.size, 1, none⟩ = some (.int .i64 s) ∧ w'.cell? ⟨w3.heap.size, 2, none⟩ = some (.slice A6 b.length c6)) ∧ (convert 22 9 (.slice AP p.length cP)).run Try.prog w' = .ok (.string (strOfNums p)) w') ∧ (convert 22 9 (.slice AQ p.length cQ)).run Try.prog w' = .ok (.string (strOfNums p)) w') (fun _ h => h.1) _ _ _ _ ?_)
  clear hK
  have hHeld : (fun w' => ((w'.cell? ⟨w.heap.size, 0, none⟩ = some (.int .i64 a0_0) ∧ w'.cell? ⟨w.heap.size, 1, none⟩ = some (.int .i64 a0_1) ∧ w'.cell? ⟨w.heap.size, 2, none⟩ = some (.slice A0_2 l0_2.length c0_2) ∧ w'.cell? ⟨w2.heap.size, 0, none⟩ = some (.int .i64 t) ∧ w'.cell? ⟨w2.heap.size, 1, none⟩ = some (.int .i64 s) ∧ w'.cell? ⟨w2.heap.size, 2, none⟩ = some (.slice A5 b.length c5) ∧ w'.cell? ⟨w3.heap.size, 0, none⟩ = some (.int .i64 t) ∧ w'.cell? ⟨w3.heap.size, 1, none⟩ = some (.int .i64 s) ∧ w'.cell? ⟨w3.heap.size, 2, none⟩ = some (.slice A6 b.length c6)) ∧ (convert 22 9 (.slice AP p.length cP)).run Try.prog w' = .ok (.string (strOfNums p)) w') ∧ (convert 22 9 (.slice AQ p.length cQ)).run Try.prog w' = .ok (.string (strOfNums p)) w') w5 := sAll _ (Below.refl _ _)
  (try simp only [Act.put, List.setIfInBounds_toArray, List.set_cons_zero, List.set_cons_succ])
  refine wpAnyH_take (i := 14) (oi := ({ dst := some 67, op := Op.convert 22 9 (Operand.tmp 66), type := 9, pos := "law.go:47", after := #[{ on := 13, ground := Ground.data }, { on := 8, ground := Ground.guard }], guard := some (8, true) } : Oper)) (v := ?_) rfl (by kernel_rfl) (by kernel_rfl) (by kernel_rfl) (fun _ _ _ h => h) (Or.inl ⟨by rfl, ?hyT11⟩) (by assumption) ?rsT11
  case hyT11 => (intro w8' hSw; (try dsimp only at hSw); go_simp; (first | done | with_reducible rfl))
  (try simp only [Act.put, List.setIfInBounds_toArray, List.set_cons_zero, List.set_cons_succ])
  refine wpAnyH_take (i := 15) (oi := ({ dst := some 68, op := Op.binOp BinOp.eql 9 (Operand.tmp 64) (Operand.tmp 67) 9, type := 4, pos := "law.go:47", after := #[{ on := 11, ground := Ground.data }, { on := 14, ground := Ground.data }, { on := 8, ground := Ground.guard }], guard := some (8, true) } : Oper)) (v := ?_) rfl (by kernel_rfl) (by kernel_rfl) (by kernel_rfl) (fun _ _ _ h => h) (Or.inl ⟨by rfl, ?hyT54⟩) (by assumption) ?rsT54
  case hyT54 => (intro w8' hSw; (try dsimp only at hSw); go_simp; (first | done | with_reducible rfl))
  (try simp only [Act.put, List.setIfInBounds_toArray, List.set_cons_zero, List.set_cons_succ])
  refine wpAnyH_take (i := 16) (oi := ({ dst := some 69, op := Op.pick (Operand.tmp 61) (Operand.tmp 68) (Operand.const (Value.bool false)), type := 4, pos := "law.go:47", after := #[{ on := 8, ground := Ground.data }, { on := 15, ground := Ground.data }], guard := none } : Oper)) (v := ?_) rfl (by kernel_rfl) (by kernel_rfl) (by kernel_rfl) (fun _ _ _ h => h) (Or.inl ⟨by rfl, ?hyT55⟩) (by assumption) ?rsT55
  case hyT55 => (intro w8' hSw; (try dsimp only at hSw); go_simp; (first | done | with_reducible rfl))
  (try simp only [Act.put, List.setIfInBounds_toArray, List.set_cons_zero, List.set_cons_succ])
  refine wpAnyH_take (i := 17) (oi := ({ dst := some 70, op := Op.move (Operand.tmp 69), type := 4, pos := "law.go:47", after := #[{ on := 16, ground := Ground.data }, { on := 13, ground := Ground.chain }], guard := none } : Oper)) (v := ?_) rfl (by kernel_rfl) (by kernel_rfl) (by kernel_rfl) (fun _ _ _ h => h) (Or.inl ⟨by rfl, ?hyT56⟩) (by assumption) ?rsT56
  case hyT56 => (intro w8' hSw; (try dsimp only at hSw); go_simp; (first | done | with_reducible rfl))
  (try simp only [Act.put, List.setIfInBounds_toArray, List.set_cons_zero, List.set_cons_succ])
  refine wpAnyH_take (i := 18) (oi := ({ dst := some 71, op := Op.load 24 (Operand.tmp 8), type := 24, pos := "law.go:47", after := #[{ on := 17, ground := Ground.guard }], guard := some (17, true) } : Oper)) (v := ?_) rfl (by kernel_rfl) (by kernel_rfl) (by kernel_rfl) (fun _ _ _ h => h) (Or.inl ⟨by rfl, ?hyT57⟩) (by assumption) ?rsT57
  case hyT57 => (intro w8' hSw; (try dsimp only at hSw); go_simp; (first | done | with_reducible rfl))
  (try simp only [Act.put, List.setIfInBounds_toArray, List.set_cons_zero, List.set_cons_succ])
  refine wpAnyH_take (i := 20) (oi := ({ dst := some 73, op := Op.load 24 (Operand.tmp 11), type := 24, pos := "law.go:47", after := #[{ on := 17, ground := Ground.guard }], guard := some (17, true) } : Oper)) (v := ?_) rfl (by kernel_rfl) (by kernel_rfl) (by kernel_rfl) (fun _ _ _ h => h) (Or.inl ⟨by rfl, ?hyT58⟩) (by assumption) ?rsT58
  case hyT58 => (intro w8' hSw; (try dsimp only at hSw); go_simp; (first | done | with_reducible rfl))
  (try simp only [Act.put, List.setIfInBounds_toArray, List.set_cons_zero, List.set_cons_succ])
  refine wpAnyH_ready (rs := [19, 21]) (by kernel_rfl) (by simp) ?_
  refine AllReadyH.cons (o := ({ dst := some 72, op := Op.buildSlice 29 1 #[(0, Operand.tmp 71)], type := 29, pos := "law.go:47", after := #[{ on := 18, ground := Ground.data }, { on := 17, ground := Ground.guard }], guard := some (17, true) } : Oper)) rfl (fun K hK => ?_) (AllReadyH.cons (o := ({ dst := some 74, op := Op.buildSlice 29 1 #[(0, Operand.tmp 73)], type := 29, pos := "law.go:47", after := #[{ on := 20, ground := Ground.data }, { on := 17, ground := Ground.guard }], guard := some (17, true) } : Oper)) rfl (fun K hK => ?_) AllReadyH.nil)
  · rw [if_pos (by rfl)]
    go_simp
    refine hK.out _ _ (sAll _ (by with_reducible (repeat (first | exact Below.refl _ _ | refine below_alloc ?_ _ | refine pw_below_drewN ?_ _)))) (fun hHeld => ?_)
    clear hK
    (try simp only [Act.put, List.setIfInBounds_toArray, List.set_cons_zero, List.set_cons_succ])
    refine wpAnyH_ready (rs := [21]) (by kernel_rfl) (by simp) ?_
    refine AllReadyH.cons (o := ({ dst := some 74, op := Op.buildSlice 29 1 #[(0, Operand.tmp 73)], type := 29, pos := "law.go:47", after := #[{ on := 20, ground := Ground.data }, { on := 17, ground := Ground.guard }], guard := some (17, true) } : Oper)) rfl (fun K hK => ?_) AllReadyH.nil
    rw [if_pos (by rfl)]
    go_simp
    refine hK.out _ _ (sAll _ (by with_reducible (repeat (first | exact Below.refl _ _ | refine below_alloc ?_ _ | refine pw_below_drewN ?_ _)))) (fun hHeld => ?_)
    clear hK
    (try simp only [Act.put, List.setIfInBounds_toArray, List.set_cons_zero, List.set_cons_succ])
    refine wpAnyH_ready (rs := [22]) (by kernel_rfl) (by simp) ?_
    refine AllReadyH.cons (o := ({ dst := some 75, op := Op.call { callee := Callee.value (Operand.func 18), args := #[Operand.tmp 72, Operand.tmp 74], argTypes := #[29, 29] }, type := 4, pos := "law.go:47", after := #[{ on := 19, ground := Ground.data }, { on := 21, ground := Ground.data }, { on := 17, ground := Ground.chain }, { on := 17, ground := Ground.guard }], guard := some (17, true) } : Oper)) rfl (fun K hK => ?_) AllReadyH.nil
    rw [if_pos (by rfl)]
    go_simp
    refine (tl_one (p := ⟨a0_0, a0_1, A0_2, c0_2, l0_2, w.heap.size, w2.heap.size, w3.heap.size, t, s, b, A5, c5, A6, c6, S, S', A14, c14, A15, c15, w⟩) HT.out _ _ (by simp) (by simp) K5.out).mono ?_
    rintro e w7 ⟨rfl, ⟨nd, rfl⟩⟩
    go_simp
    refine hK.out _ _ (sAll _ (by with_reducible (repeat (first | exact Below.refl _ _ | refine below_alloc ?_ _ | refine pw_below_drewN ?_ _)))) (fun hHeld => ?_)
    clear hK
    (try simp only [Act.put, List.setIfInBounds_toArray, List.set_cons_zero, List.set_cons_succ])
    refine wpAnyH_take (i := 23) (oi := ({ dst := some 76, op := Op.pick (Operand.tmp 70) (Operand.tmp 75) (Operand.const (Value.bool false)), type := 4, pos := "law.go:47", after := #[{ on := 17, ground := Ground.data }, { on := 22, ground := Ground.data }], guard := none } : Oper)) (v := ?_) rfl (by kernel_rfl) (by kernel_rfl) (by kernel_rfl) (fun _ _ _ h => h) (Or.inl ⟨by rfl, ?hyT12⟩) (by assumption) ?rsT12
    case hyT12 => (intro w8' hSw; (try dsimp only at hSw); go_simp; (first | done | with_reducible rfl))
    (try simp only [Act.put, List.setIfInBounds_toArray, List.set_cons_zero, List.set_cons_succ])
    refine wpAnyH_take (i := 24) (oi := ({ dst := some 77, op := Op.move (Operand.tmp 76), type := 4, pos := "law.go:47", after := #[{ on := 23, ground := Ground.data }, { on := 22, ground := Ground.chain }], guard := none } : Oper)) (v := ?_) rfl (by kernel_rfl) (by kernel_rfl) (by kernel_rfl) (fun _ _ _ h => h) (Or.inl ⟨by rfl, ?hyT13⟩) (by assumption) ?rsT13
    case hyT13 => (intro w8' hSw; (try dsimp only at hSw); go_simp; (first | done | with_reducible rfl))
    (try simp only [Act.put, List.setIfInBounds_toArray, List.set_cons_zero, List.set_cons_succ])
    refine wpAnyH_take (i := 25) (oi := ({ dst := some 78, op := Op.move (Operand.tmp 9), type := 3, pos := "law.go:47", after := #[{ on := 24, ground := Ground.guard }], guard := some (24, true) } : Oper)) (v := ?_) rfl (by kernel_rfl) (by kernel_rfl) (by kernel_rfl) (fun _ _ _ h => h) (Or.inl ⟨by rfl, ?hyT14⟩) (by assumption) ?rsT14
    case hyT14 => (intro w8' hSw; (try dsimp only at hSw); go_simp; (first | done | with_reducible rfl))
    (try simp only [Act.put, List.setIfInBounds_toArray, List.set_cons_zero, List.set_cons_succ])
    refine wpAnyH_take (i := 26) (oi := ({ dst := some 79, op := Op.move (Operand.tmp 12), type := 3, pos := "law.go:47", after := #[{ on := 24, ground := Ground.guard }], guard := some (24, true) } : Oper)) (v := ?_) rfl (by kernel_rfl) (by kernel_rfl) (by kernel_rfl) (fun _ _ _ h => h) (Or.inl ⟨by rfl, ?hyT15⟩) (by assumption) ?rsT15
    case hyT15 => (intro w8' hSw; (try dsimp only at hSw); go_simp; (first | done | with_reducible rfl))
    (try simp only [Act.put, List.setIfInBounds_toArray, List.set_cons_zero, List.set_cons_succ])
    refine wpAnyH_take (i := 27) (oi := ({ dst := some 80, op := Op.binOp BinOp.eql 3 (Operand.tmp 78) (Operand.tmp 79) 3, type := 4, pos := "law.go:47", after := #[{ on := 25, ground := Ground.data }, { on := 26, ground := Ground.data }, { on := 24, ground := Ground.guard }], guard := some (24, true) } : Oper)) (v := ?_) rfl (by kernel_rfl) (by kernel_rfl) (by kernel_rfl) (fun _ _ _ h => h) (Or.inl ⟨by rfl, ?hyT16⟩) (by assumption) ?rsT16
    case hyT16 => (intro w8' hSw; (try dsimp only at hSw); go_simp; (first | done | with_reducible rfl))
    (try simp only [Act.put, List.setIfInBounds_toArray, List.set_cons_zero, List.set_cons_succ])
    refine wpAnyH_take (i := 28) (oi := ({ dst := some 81, op := Op.pick (Operand.tmp 77) (Operand.tmp 80) (Operand.const (Value.bool false)), type := 4, pos := "law.go:47", after := #[{ on := 24, ground := Ground.data }, { on := 27, ground := Ground.data }], guard := none } : Oper)) (v := ?_) rfl (by kernel_rfl) (by kernel_rfl) (by kernel_rfl) (fun _ _ _ h => h) (Or.inl ⟨by rfl, ?hyT17⟩) (by assumption) ?rsT17
    case hyT17 => (intro w8' hSw; (try dsimp only at hSw); go_simp; (first | done | with_reducible rfl))
    (try simp only [Act.put, List.setIfInBounds_toArray, List.set_cons_zero, List.set_cons_succ])
    refine wpAnyH_take (i := 29) (oi := ({ dst := some 82, op := Op.move (Operand.tmp 81), type := 4, pos := "law.go:47", after := #[{ on := 28, ground := Ground.data }, { on := 24, ground := Ground.chain }], guard := none } : Oper)) (v := ?_) rfl (by kernel_rfl) (by kernel_rfl) (by kernel_rfl) (fun _ _ _ h => h) (Or.inl ⟨by rfl, ?hyT18⟩) (by assumption) ?rsT18
    case hyT18 => (intro w8' hSw; (try dsimp only at hSw); go_simp; (first | done | with_reducible rfl))
    (try simp only [Act.put, List.setIfInBounds_toArray, List.set_cons_zero, List.set_cons_succ])
    refine wpAnyH_take (i := 30) (oi := ({ dst := some 83, op := Op.move (Operand.tmp 10), type := 26, pos := "law.go:47", after := #[{ on := 29, ground := Ground.guard }], guard := some (29, true) } : Oper)) (v := ?_) rfl (by kernel_rfl) (by kernel_rfl) (by kernel_rfl) (fun _ _ _ h => h) (Or.inl ⟨by rfl, ?hyT19⟩) (by assumption) ?rsT19
    case hyT19 => (intro w8' hSw; (try dsimp only at hSw); go_simp; (first | done | with_reducible rfl))
    (try simp only [Act.put, List.setIfInBounds_toArray, List.set_cons_zero, List.set_cons_succ])
    refine wpAnyH_take (i := 31) (oi := ({ dst := some 84, op := Op.move (Operand.tmp 13), type := 26, pos := "law.go:47", after := #[{ on := 29, ground := Ground.guard }], guard := some (29, true) } : Oper)) (v := ?_) rfl (by kernel_rfl) (by kernel_rfl) (by kernel_rfl) (fun _ _ _ h => h) (Or.inl ⟨by rfl, ?hyT20⟩) (by assumption) ?rsT20
    case hyT20 => (intro w8' hSw; (try dsimp only at hSw); go_simp; (first | done | with_reducible rfl))
    (try simp only [Act.put, List.setIfInBounds_toArray, List.set_cons_zero, List.set_cons_succ])
    refine wpAnyH_take (i := 32) (oi := ({ dst := some 85, op := Op.binOp BinOp.eql 26 (Operand.tmp 83) (Operand.tmp 84) 26, type := 4, pos := "law.go:47", after := #[{ on := 30, ground := Ground.data }, { on := 31, ground := Ground.data }, { on := 29, ground := Ground.guard }], guard := some (29, true) } : Oper)) (v := ?_) rfl (by kernel_rfl) (by kernel_rfl) (by kernel_rfl) (fun _ _ _ h => h) (Or.inl ⟨by rfl, ?hyT21⟩) (by assumption) ?rsT21
    case hyT21 => (intro w8' hSw; (try dsimp only at hSw); go_simp; (first | done | with_reducible rfl))
    (try simp only [Act.put, List.setIfInBounds_toArray, List.set_cons_zero, List.set_cons_succ])
    refine wpAnyH_take (i := 33) (oi := ({ dst := some 86, op := Op.pick (Operand.tmp 82) (Operand.tmp 85) (Operand.const (Value.bool false)), type := 4, pos := "law.go:47", after := #[{ on := 29, ground := Ground.data }, { on := 32, ground := Ground.data }], guard := none } : Oper)) (v := ?_) rfl (by kernel_rfl) (by kernel_rfl) (by kernel_rfl) (fun _ _ _ h => h) (Or.inl ⟨by rfl, ?hyT22⟩) (by assumption) ?rsT22
    case hyT22 => (intro w8' hSw; (try dsimp only at hSw); go_simp; (first | done | with_reducible rfl))
    (try simp only [Act.put, List.setIfInBounds_toArray, List.set_cons_zero, List.set_cons_succ])
    refine wpAnyH_take (i := 34) (oi := ({ dst := some 87, op := Op.move (Operand.tmp 86), type := 4, pos := "law.go:47", after := #[{ on := 33, ground := Ground.data }, { on := 29, ground := Ground.chain }], guard := none } : Oper)) (v := ?_) rfl (by kernel_rfl) (by kernel_rfl) (by kernel_rfl) (fun _ _ _ h => h) (Or.inl ⟨by rfl, ?hyT23⟩) (by assumption) ?rsT23
    case hyT23 => (intro w8' hSw; (try dsimp only at hSw); go_simp; (first | done | with_reducible rfl))
    (try simp only [Act.put, List.setIfInBounds_toArray, List.set_cons_zero, List.set_cons_succ])
    refine wpAnyH_take (i := 35) (oi := ({ dst := some 88, op := Op.move (Operand.tmp 14), type := 29, pos := "law.go:47", after := #[{ on := 34, ground := Ground.guard }], guard := some (34, true) } : Oper)) (v := ?_) rfl (by kernel_rfl) (by kernel_rfl) (by kernel_rfl) (fun _ _ _ h => h) (Or.inl ⟨by rfl, ?hyT24⟩) (by assumption) ?rsT24
    case hyT24 => (intro w8' hSw; (try dsimp only at hSw); go_simp; (first | done | with_reducible rfl))
    (try simp only [Act.put, List.setIfInBounds_toArray, List.set_cons_zero, List.set_cons_succ])
    refine wpAnyH_take (i := 36) (oi := ({ dst := some 89, op := Op.move (Operand.tmp 16), type := 29, pos := "law.go:47", after := #[{ on := 34, ground := Ground.guard }], guard := some (34, true) } : Oper)) (v := ?_) rfl (by kernel_rfl) (by kernel_rfl) (by kernel_rfl) (fun _ _ _ h => h) (Or.inl ⟨by rfl, ?hyT25⟩) (by assumption) ?rsT25
    case hyT25 => (intro w8' hSw; (try dsimp only at hSw); go_simp; (first | done | with_reducible rfl))
    (try simp only [Act.put, List.setIfInBounds_toArray, List.set_cons_zero, List.set_cons_succ])
    refine wpAnyH_ready (rs := [37]) (by kernel_rfl) (by simp) ?_
    refine AllReadyH.cons (o := ({ dst := some 90, op := Op.call { callee := Callee.value (Operand.func 18), args := #[Operand.tmp 88, Operand.tmp 89], argTypes := #[29, 29] }, type := 4, pos := "law.go:47", after := #[{ on := 35, ground := Ground.data }, { on := 36, ground := Ground.data }, { on := 34, ground := Ground.chain }, { on := 34, ground := Ground.guard }], guard := some (34, true) } : Oper)) rfl (fun K hK => ?_) AllReadyH.nil
    rw [if_pos (by rfl)]
    go_simp
    refine (tl_same (p := ⟨a0_0, a0_1, A0_2, c0_2, l0_2, w.heap.size, w2.heap.size, w3.heap.size, t, s, b, A5, c5, A6, c6, S, S', A14, c14, A15, c15, w⟩) (((HT.out.alloc _).alloc _).drewN _) K6.out).mono ?_
    rintro e w7 ⟨rfl, ⟨nd, rfl⟩⟩
    go_simp
    refine hK.out _ _ (sAll _ (by with_reducible (repeat (first | exact Below.refl _ _ | refine below_alloc ?_ _ | refine pw_below_drewN ?_ _)))) (fun hHeld => ?_)
    clear hK
    (try simp only [Act.put, List.setIfInBounds_toArray, List.set_cons_zero, List.set_cons_succ])
    refine wpAnyH_take (i := 38) (oi := ({ dst := some 91, op := Op.pick (Operand.tmp 87) (Operand.tmp 90) (Operand.const (Value.bool false)), type := 4, pos := "law.go:47", after := #[{ on := 34, ground := Ground.data }, { on := 37, ground := Ground.data }], guard := none } : Oper)) (v := ?_) rfl (by kernel_rfl) (by kernel_rfl) (by kernel_rfl) (fun _ _ _ h => h) (Or.inl ⟨by rfl, ?hyT26⟩) (by assumption) ?rsT26
    case hyT26 => (intro w8' hSw; (try dsimp only at hSw); go_simp; (first | done | with_reducible rfl))
    (try simp only [Act.put, List.setIfInBounds_toArray, List.set_cons_zero, List.set_cons_succ])
    refine wpAnyH_take (i := 39) (oi := ({ dst := some 92, op := Op.move (Operand.tmp 91), type := 4, pos := "law.go:47", after := #[{ on := 38, ground := Ground.data }, { on := 37, ground := Ground.chain }], guard := none } : Oper)) (v := ?_) rfl (by kernel_rfl) (by kernel_rfl) (by kernel_rfl) (fun _ _ _ h => h) (Or.inl ⟨by rfl, ?hyT27⟩) (by assumption) ?rsT27
    case hyT27 => (intro w8' hSw; (try dsimp only at hSw); go_simp; (first | done | with_reducible rfl))
    (try simp only [Act.put, List.setIfInBounds_toArray, List.set_cons_zero, List.set_cons_succ])
    refine wpAnyH_take (i := 40) (oi := ({ dst := some 93, op := Op.move (Operand.tmp 15), type := 3, pos := "law.go:47", after := #[{ on := 39, ground := Ground.guard }], guard := some (39, true) } : Oper)) (v := ?_) rfl (by kernel_rfl) (by kernel_rfl) (by kernel_rfl) (fun _ _ _ h => h) (Or.inl ⟨by rfl, ?hyT28⟩) (by assumption) ?rsT28
    case hyT28 => (intro w8' hSw; (try dsimp only at hSw); go_simp; (first | done | with_reducible rfl))
    (try simp only [Act.put, List.setIfInBounds_toArray, List.set_cons_zero, List.set_cons_succ])
    refine wpAnyH_take (i := 41) (oi := ({ dst := some 94, op := Op.move (Operand.tmp 17), type := 3, pos := "law.go:47", after := #[{ on := 39, ground := Ground.guard }], guard := some (39, true) } : Oper)) (v := ?_) rfl (by kernel_rfl) (by kernel_rfl) (by kernel_rfl) (fun _ _ _ h => h) (Or.inl ⟨by rfl, ?hyT29⟩) (by assumption) ?rsT29
    case hyT29 => (intro w8' hSw; (try dsimp only at hSw); go_simp; (first | done | with_reducible rfl))
    (try simp only [Act.put, List.setIfInBounds_toArray, List.set_cons_zero, List.set_cons_succ])
    refine wpAnyH_take (i := 42) (oi := ({ dst := some 95, op := Op.binOp BinOp.eql 3 (Operand.tmp 93) (Operand.tmp 94) 3, type := 4, pos := "law.go:47", after := #[{ on := 40, ground := Ground.data }, { on := 41, ground := Ground.data }, { on := 39, ground := Ground.guard }], guard := some (39, true) } : Oper)) (v := ?_) rfl (by kernel_rfl) (by kernel_rfl) (by kernel_rfl) (fun _ _ _ h => h) (Or.inl ⟨by rfl, ?hyT30⟩) (by assumption) ?rsT30
    case hyT30 => (intro w8' hSw; (try dsimp only at hSw); go_simp; (first | done | with_reducible rfl))
    (try simp only [Act.put, List.setIfInBounds_toArray, List.set_cons_zero, List.set_cons_succ])
    refine wpAnyH_take (i := 43) (oi := ({ dst := some 96, op := Op.pick (Operand.tmp 92) (Operand.tmp 95) (Operand.const (Value.bool false)), type := 4, pos := "law.go:47", after := #[{ on := 39, ground := Ground.data }, { on := 42, ground := Ground.data }], guard := none } : Oper)) (v := ?_) rfl (by kernel_rfl) (by kernel_rfl) (by kernel_rfl) (fun _ _ _ h => h) (Or.inl ⟨by rfl, ?hyT31⟩) (by assumption) ?rsT31
    case hyT31 => (intro w8' hSw; (try dsimp only at hSw); go_simp; (first | done | with_reducible rfl))
    (try simp only [Act.put, List.setIfInBounds_toArray, List.set_cons_zero, List.set_cons_succ])
    refine wpAnyH_take (i := 44) (oi := ({ dst := some 6, op := Op.assign (Operand.tmp 96), type := 4, pos := "law.go:47", after := #[{ on := 43, ground := Ground.data }, { on := 39, ground := Ground.chain }, { on := 0, ground := Ground.phase }, { on := 1, ground := Ground.phase }, { on := 2, ground := Ground.phase }, { on := 3, ground := Ground.phase }, { on := 4, ground := Ground.phase }, { on := 5, ground := Ground.phase }, { on := 6, ground := Ground.phase }, { on := 7, ground := Ground.phase }, { on := 8, ground := Ground.phase }, { on := 9, ground := Ground.phase }, { on := 10, ground := Ground.phase }, { on := 11, ground := Ground.phase }, { on := 12, ground := Ground.phase }, { on := 13, ground := Ground.phase }, { on := 14, ground := Ground.phase }, { on := 15, ground := Ground.phase }, { on := 16, ground := Ground.phase }, { on := 17, ground := Ground.phase }, { on := 18, ground := Ground.phase }, { on := 19, ground := Ground.phase }, { on := 20, ground := Ground.phase }, { on := 21, ground := Ground.phase }, { on := 22, ground := Ground.phase }, { on := 23, ground := Ground.phase }, { on := 24, ground := Ground.phase }, { on := 25, ground := Ground.phase }, { on := 26, ground := Ground.phase }, { on := 27, ground := Ground.phase }, { on := 28, ground := Ground.phase }, { on := 29, ground := Ground.phase }, { on := 30, ground := Ground.phase }, { on := 31, ground := Ground.phase }, { on := 32, ground := Ground.phase }, { on := 33, ground := Ground.phase }, { on := 34, ground := Ground.phase }, { on := 35, ground := Ground.phase }, { on := 36, ground := Ground.phase }, { on := 37, ground := Ground.phase }, { on := 38, ground := Ground.phase }, { on := 39, ground := Ground.phase }, { on := 40, ground := Ground.phase }, { on := 41, ground := Ground.phase }, { on := 42, ground := Ground.phase }, { on := 43, ground := Ground.phase }], guard := none } : Oper)) (v := ?_) rfl (by kernel_rfl) (by kernel_rfl) (by kernel_rfl) (fun _ _ _ h => h) (Or.inl ⟨by rfl, ?hyT32⟩) (by assumption) ?rsT32
    case hyT32 => (intro w8' hSw; (try dsimp only at hSw); go_simp; (first | done | with_reducible rfl))
    (try simp only [Act.put, List.setIfInBounds_toArray, List.set_cons_zero, List.set_cons_succ])
    refine wpAnyH_done (by kernel_rfl) ?_ _
    refine NoPanic.normal ?_
    go_wp2_with fail
    go_ret
    exact ⟨rfl, TAt.below (p := ⟨a0_0, a0_1, A0_2, c0_2, l0_2, w.heap.size, w2.heap.size, w3.heap.size, t, s, b, A5, c5, A6, c6, S, S', A14, c14, A15, c15, w⟩) (by with_reducible (repeat (first | exact HT.out | refine TAt.alloc ?_ _ | refine TAt.drewN ?_ _ | refine TAt.drew ?_)))⟩
  · rw [if_pos (by rfl)]
    go_simp
    refine hK.out _ _ (sAll _ (by with_reducible (repeat (first | exact Below.refl _ _ | refine below_alloc ?_ _ | refine pw_below_drewN ?_ _)))) (fun hHeld => ?_)
    clear hK
    (try simp only [Act.put, List.setIfInBounds_toArray, List.set_cons_zero, List.set_cons_succ])
    refine wpAnyH_ready (rs := [19]) (by kernel_rfl) (by simp) ?_
    refine AllReadyH.cons (o := ({ dst := some 72, op := Op.buildSlice 29 1 #[(0, Operand.tmp 71)], type := 29, pos := "law.go:47", after := #[{ on := 18, ground := Ground.data }, { on := 17, ground := Ground.guard }], guard := some (17, true) } : Oper)) rfl (fun K hK => ?_) AllReadyH.nil
    rw [if_pos (by rfl)]
    go_simp
    refine hK.out _ _ (sAll _ (by with_reducible (repeat (first | exact Below.refl _ _ | refine below_alloc ?_ _ | refine pw_below_drewN ?_ _)))) (fun hHeld => ?_)
    clear hK
    (try simp only [Act.put, List.setIfInBounds_toArray, List.set_cons_zero, List.set_cons_succ])
    refine wpAnyH_ready (rs := [22]) (by kernel_rfl) (by simp) ?_
    refine AllReadyH.cons (o := ({ dst := some 75, op := Op.call { callee := Callee.value (Operand.func 18), args := #[Operand.tmp 72, Operand.tmp 74], argTypes := #[29, 29] }, type := 4, pos := "law.go:47", after := #[{ on := 19, ground := Ground.data }, { on := 21, ground := Ground.data }, { on := 17, ground := Ground.chain }, { on := 17, ground := Ground.guard }], guard := some (17, true) } : Oper)) rfl (fun K hK => ?_) AllReadyH.nil
    rw [if_pos (by rfl)]
    go_simp
    refine (tl_two (p := ⟨a0_0, a0_1, A0_2, c0_2, l0_2, w.heap.size, w2.heap.size, w3.heap.size, t, s, b, A5, c5, A6, c6, S, S', A14, c14, A15, c15, w⟩) HT.out _ _ (by simp) (by simp) K5.out).mono ?_
    rintro e w7 ⟨rfl, ⟨nd, rfl⟩⟩
    go_simp
    refine hK.out _ _ (sAll _ (by with_reducible (repeat (first | exact Below.refl _ _ | refine below_alloc ?_ _ | refine pw_below_drewN ?_ _)))) (fun hHeld => ?_)
    clear hK
    (try simp only [Act.put, List.setIfInBounds_toArray, List.set_cons_zero, List.set_cons_succ])
    refine wpAnyH_take (i := 23) (oi := ({ dst := some 76, op := Op.pick (Operand.tmp 70) (Operand.tmp 75) (Operand.const (Value.bool false)), type := 4, pos := "law.go:47", after := #[{ on := 17, ground := Ground.data }, { on := 22, ground := Ground.data }], guard := none } : Oper)) (v := ?_) rfl (by kernel_rfl) (by kernel_rfl) (by kernel_rfl) (fun _ _ _ h => h) (Or.inl ⟨by rfl, ?hyT33⟩) (by assumption) ?rsT33
    case hyT33 => (intro w8' hSw; (try dsimp only at hSw); go_simp; (first | done | with_reducible rfl))
    (try simp only [Act.put, List.setIfInBounds_toArray, List.set_cons_zero, List.set_cons_succ])
    refine wpAnyH_take (i := 24) (oi := ({ dst := some 77, op := Op.move (Operand.tmp 76), type := 4, pos := "law.go:47", after := #[{ on := 23, ground := Ground.data }, { on := 22, ground := Ground.chain }], guard := none } : Oper)) (v := ?_) rfl (by kernel_rfl) (by kernel_rfl) (by kernel_rfl) (fun _ _ _ h => h) (Or.inl ⟨by rfl, ?hyT34⟩) (by assumption) ?rsT34
    case hyT34 => (intro w8' hSw; (try dsimp only at hSw); go_simp; (first | done | with_reducible rfl))
    (try simp only [Act.put, List.setIfInBounds_toArray, List.set_cons_zero, List.set_cons_succ])
    refine wpAnyH_take (i := 25) (oi := ({ dst := some 78, op := Op.move (Operand.tmp 9), type := 3, pos := "law.go:47", after := #[{ on := 24, ground := Ground.guard }], guard := some (24, true) } : Oper)) (v := ?_) rfl (by kernel_rfl) (by kernel_rfl) (by kernel_rfl) (fun _ _ _ h => h) (Or.inl ⟨by rfl, ?hyT35⟩) (by assumption) ?rsT35
    case hyT35 => (intro w8' hSw; (try dsimp only at hSw); go_simp; (first | done | with_reducible rfl))
    (try simp only [Act.put, List.setIfInBounds_toArray, List.set_cons_zero, List.set_cons_succ])
    refine wpAnyH_take (i := 26) (oi := ({ dst := some 79, op := Op.move (Operand.tmp 12), type := 3, pos := "law.go:47", after := #[{ on := 24, ground := Ground.guard }], guard := some (24, true) } : Oper)) (v := ?_) rfl (by kernel_rfl) (by kernel_rfl) (by kernel_rfl) (fun _ _ _ h => h) (Or.inl ⟨by rfl, ?hyT36⟩) (by assumption) ?rsT36
    case hyT36 => (intro w8' hSw; (try dsimp only at hSw); go_simp; (first | done | with_reducible rfl))
    (try simp only [Act.put, List.setIfInBounds_toArray, List.set_cons_zero, List.set_cons_succ])
    refine wpAnyH_take (i := 27) (oi := ({ dst := some 80, op := Op.binOp BinOp.eql 3 (Operand.tmp 78) (Operand.tmp 79) 3, type := 4, pos := "law.go:47", after := #[{ on := 25, ground := Ground.data }, { on := 26, ground := Ground.data }, { on := 24, ground := Ground.guard }], guard := some (24, true) } : Oper)) (v := ?_) rfl (by kernel_rfl) (by kernel_rfl) (by kernel_rfl) (fun _ _ _ h => h) (Or.inl ⟨by rfl, ?hyT37⟩) (by assumption) ?rsT37
    case hyT37 => (intro w8' hSw; (try dsimp only at hSw); go_simp; (first | done | with_reducible rfl))
    (try simp only [Act.put, List.setIfInBounds_toArray, List.set_cons_zero, List.set_cons_succ])
    refine wpAnyH_take (i := 28) (oi := ({ dst := some 81, op := Op.pick (Operand.tmp 77) (Operand.tmp 80) (Operand.const (Value.bool false)), type := 4, pos := "law.go:47", after := #[{ on := 24, ground := Ground.data }, { on := 27, ground := Ground.data }], guard := none } : Oper)) (v := ?_) rfl (by kernel_rfl) (by kernel_rfl) (by kernel_rfl) (fun _ _ _ h => h) (Or.inl ⟨by rfl, ?hyT38⟩) (by assumption) ?rsT38
    case hyT38 => (intro w8' hSw; (try dsimp only at hSw); go_simp; (first | done | with_reducible rfl))
    (try simp only [Act.put, List.setIfInBounds_toArray, List.set_cons_zero, List.set_cons_succ])
    refine wpAnyH_take (i := 29) (oi := ({ dst := some 82, op := Op.move (Operand.tmp 81), type := 4, pos := "law.go:47", after := #[{ on := 28, ground := Ground.data }, { on := 24, ground := Ground.chain }], guard := none } : Oper)) (v := ?_) rfl (by kernel_rfl) (by kernel_rfl) (by kernel_rfl) (fun _ _ _ h => h) (Or.inl ⟨by rfl, ?hyT39⟩) (by assumption) ?rsT39
    case hyT39 => (intro w8' hSw; (try dsimp only at hSw); go_simp; (first | done | with_reducible rfl))
    (try simp only [Act.put, List.setIfInBounds_toArray, List.set_cons_zero, List.set_cons_succ])
    refine wpAnyH_take (i := 30) (oi := ({ dst := some 83, op := Op.move (Operand.tmp 10), type := 26, pos := "law.go:47", after := #[{ on := 29, ground := Ground.guard }], guard := some (29, true) } : Oper)) (v := ?_) rfl (by kernel_rfl) (by kernel_rfl) (by kernel_rfl) (fun _ _ _ h => h) (Or.inl ⟨by rfl, ?hyT40⟩) (by assumption) ?rsT40
    case hyT40 => (intro w8' hSw; (try dsimp only at hSw); go_simp; (first | done | with_reducible rfl))
    (try simp only [Act.put, List.setIfInBounds_toArray, List.set_cons_zero, List.set_cons_succ])
    refine wpAnyH_take (i := 31) (oi := ({ dst := some 84, op := Op.move (Operand.tmp 13), type := 26, pos := "law.go:47", after := #[{ on := 29, ground := Ground.guard }], guard := some (29, true) } : Oper)) (v := ?_) rfl (by kernel_rfl) (by kernel_rfl) (by kernel_rfl) (fun _ _ _ h => h) (Or.inl ⟨by rfl, ?hyT41⟩) (by assumption) ?rsT41
    case hyT41 => (intro w8' hSw; (try dsimp only at hSw); go_simp; (first | done | with_reducible rfl))
    (try simp only [Act.put, List.setIfInBounds_toArray, List.set_cons_zero, List.set_cons_succ])
    refine wpAnyH_take (i := 32) (oi := ({ dst := some 85, op := Op.binOp BinOp.eql 26 (Operand.tmp 83) (Operand.tmp 84) 26, type := 4, pos := "law.go:47", after := #[{ on := 30, ground := Ground.data }, { on := 31, ground := Ground.data }, { on := 29, ground := Ground.guard }], guard := some (29, true) } : Oper)) (v := ?_) rfl (by kernel_rfl) (by kernel_rfl) (by kernel_rfl) (fun _ _ _ h => h) (Or.inl ⟨by rfl, ?hyT42⟩) (by assumption) ?rsT42
    case hyT42 => (intro w8' hSw; (try dsimp only at hSw); go_simp; (first | done | with_reducible rfl))
    (try simp only [Act.put, List.setIfInBounds_toArray, List.set_cons_zero, List.set_cons_succ])
    refine wpAnyH_take (i := 33) (oi := ({ dst := some 86, op := Op.pick (Operand.tmp 82) (Operand.tmp 85) (Operand.const (Value.bool false)), type := 4, pos := "law.go:47", after := #[{ on := 29, ground := Ground.data }, { on := 32, ground := Ground.data }], guard := none } : Oper)) (v := ?_) rfl (by kernel_rfl) (by kernel_rfl) (by kernel_rfl) (fun _ _ _ h => h) (Or.inl ⟨by rfl, ?hyT43⟩) (by assumption) ?rsT43
    case hyT43 => (intro w8' hSw; (try dsimp only at hSw); go_simp; (first | done | with_reducible rfl))
    (try simp only [Act.put, List.setIfInBounds_toArray, List.set_cons_zero, List.set_cons_succ])
    refine wpAnyH_take (i := 34) (oi := ({ dst := some 87, op := Op.move (Operand.tmp 86), type := 4, pos := "law.go:47", after := #[{ on := 33, ground := Ground.data }, { on := 29, ground := Ground.chain }], guard := none } : Oper)) (v := ?_) rfl (by kernel_rfl) (by kernel_rfl) (by kernel_rfl) (fun _ _ _ h => h) (Or.inl ⟨by rfl, ?hyT44⟩) (by assumption) ?rsT44
    case hyT44 => (intro w8' hSw; (try dsimp only at hSw); go_simp; (first | done | with_reducible rfl))
    (try simp only [Act.put, List.setIfInBounds_toArray, List.set_cons_zero, List.set_cons_succ])
    refine wpAnyH_take (i := 35) (oi := ({ dst := some 88, op := Op.move (Operand.tmp 14), type := 29, pos := "law.go:47", after := #[{ on := 34, ground := Ground.guard }], guard := some (34, true) } : Oper)) (v := ?_) rfl (by kernel_rfl) (by kernel_rfl) (by kernel_rfl) (fun _ _ _ h => h) (Or.inl ⟨by rfl, ?hyT45⟩) (by assumption) ?rsT45
    case hyT45 => (intro w8' hSw; (try dsimp only at hSw); go_simp; (first | done | with_reducible rfl))
    (try simp only [Act.put, List.setIfInBounds_toArray, List.set_cons_zero, List.set_cons_succ])
    refine wpAnyH_take (i := 36) (oi := ({ dst := some 89, op := Op.move (Operand.tmp 16), type := 29, pos := "law.go:47", after := #[{ on := 34, ground := Ground.guard }], guard := some (34, true) } : Oper)) (v := ?_) rfl (by kernel_rfl) (by kernel_rfl) (by kernel_rfl) (fun _ _ _ h => h) (Or.inl ⟨by rfl, ?hyT46⟩) (by assumption) ?rsT46
    case hyT46 => (intro w8' hSw; (try dsimp only at hSw); go_simp; (first | done | with_reducible rfl))
    (try simp only [Act.put, List.setIfInBounds_toArray, List.set_cons_zero, List.set_cons_succ])
    refine wpAnyH_ready (rs := [37]) (by kernel_rfl) (by simp) ?_
    refine AllReadyH.cons (o := ({ dst := some 90, op := Op.call { callee := Callee.value (Operand.func 18), args := #[Operand.tmp 88, Operand.tmp 89], argTypes := #[29, 29] }, type := 4, pos := "law.go:47", after := #[{ on := 35, ground := Ground.data }, { on := 36, ground := Ground.data }, { on := 34, ground := Ground.chain }, { on := 34, ground := Ground.guard }], guard := some (34, true) } : Oper)) rfl (fun K hK => ?_) AllReadyH.nil
    rw [if_pos (by rfl)]
    go_simp
    refine (tl_same (p := ⟨a0_0, a0_1, A0_2, c0_2, l0_2, w.heap.size, w2.heap.size, w3.heap.size, t, s, b, A5, c5, A6, c6, S, S', A14, c14, A15, c15, w⟩) (((HT.out.alloc _).alloc _).drewN _) K6.out).mono ?_
    rintro e w7 ⟨rfl, ⟨nd, rfl⟩⟩
    go_simp
    refine hK.out _ _ (sAll _ (by with_reducible (repeat (first | exact Below.refl _ _ | refine below_alloc ?_ _ | refine pw_below_drewN ?_ _)))) (fun hHeld => ?_)
    clear hK
    (try simp only [Act.put, List.setIfInBounds_toArray, List.set_cons_zero, List.set_cons_succ])
    refine wpAnyH_take (i := 38) (oi := ({ dst := some 91, op := Op.pick (Operand.tmp 87) (Operand.tmp 90) (Operand.const (Value.bool false)), type := 4, pos := "law.go:47", after := #[{ on := 34, ground := Ground.data }, { on := 37, ground := Ground.data }], guard := none } : Oper)) (v := ?_) rfl (by kernel_rfl) (by kernel_rfl) (by kernel_rfl) (fun _ _ _ h => h) (Or.inl ⟨by rfl, ?hyT47⟩) (by assumption) ?rsT47
    case hyT47 => (intro w8' hSw; (try dsimp only at hSw); go_simp; (first | done | with_reducible rfl))
    (try simp only [Act.put, List.setIfInBounds_toArray, List.set_cons_zero, List.set_cons_succ])
    refine wpAnyH_take (i := 39) (oi := ({ dst := some 92, op := Op.move (Operand.tmp 91), type := 4, pos := "law.go:47", after := #[{ on := 38, ground := Ground.data }, { on := 37, ground := Ground.chain }], guard := none } : Oper)) (v := ?_) rfl (by kernel_rfl) (by kernel_rfl) (by kernel_rfl) (fun _ _ _ h => h) (Or.inl ⟨by rfl, ?hyT48⟩) (by assumption) ?rsT48
    case hyT48 => (intro w8' hSw; (try dsimp only at hSw); go_simp; (first | done | with_reducible rfl))
    (try simp only [Act.put, List.setIfInBounds_toArray, List.set_cons_zero, List.set_cons_succ])
    refine wpAnyH_take (i := 40) (oi := ({ dst := some 93, op := Op.move (Operand.tmp 15), type := 3, pos := "law.go:47", after := #[{ on := 39, ground := Ground.guard }], guard := some (39, true) } : Oper)) (v := ?_) rfl (by kernel_rfl) (by kernel_rfl) (by kernel_rfl) (fun _ _ _ h => h) (Or.inl ⟨by rfl, ?hyT49⟩) (by assumption) ?rsT49
    case hyT49 => (intro w8' hSw; (try dsimp only at hSw); go_simp; (first | done | with_reducible rfl))
    (try simp only [Act.put, List.setIfInBounds_toArray, List.set_cons_zero, List.set_cons_succ])
    refine wpAnyH_take (i := 41) (oi := ({ dst := some 94, op := Op.move (Operand.tmp 17), type := 3, pos := "law.go:47", after := #[{ on := 39, ground := Ground.guard }], guard := some (39, true) } : Oper)) (v := ?_) rfl (by kernel_rfl) (by kernel_rfl) (by kernel_rfl) (fun _ _ _ h => h) (Or.inl ⟨by rfl, ?hyT50⟩) (by assumption) ?rsT50
    case hyT50 => (intro w8' hSw; (try dsimp only at hSw); go_simp; (first | done | with_reducible rfl))
    (try simp only [Act.put, List.setIfInBounds_toArray, List.set_cons_zero, List.set_cons_succ])
    refine wpAnyH_take (i := 42) (oi := ({ dst := some 95, op := Op.binOp BinOp.eql 3 (Operand.tmp 93) (Operand.tmp 94) 3, type := 4, pos := "law.go:47", after := #[{ on := 40, ground := Ground.data }, { on := 41, ground := Ground.data }, { on := 39, ground := Ground.guard }], guard := some (39, true) } : Oper)) (v := ?_) rfl (by kernel_rfl) (by kernel_rfl) (by kernel_rfl) (fun _ _ _ h => h) (Or.inl ⟨by rfl, ?hyT51⟩) (by assumption) ?rsT51
    case hyT51 => (intro w8' hSw; (try dsimp only at hSw); go_simp; (first | done | with_reducible rfl))
    (try simp only [Act.put, List.setIfInBounds_toArray, List.set_cons_zero, List.set_cons_succ])
    refine wpAnyH_take (i := 43) (oi := ({ dst := some 96, op := Op.pick (Operand.tmp 92) (Operand.tmp 95) (Operand.const (Value.bool false)), type := 4, pos := "law.go:47", after := #[{ on := 39, ground := Ground.data }, { on := 42, ground := Ground.data }], guard := none } : Oper)) (v := ?_) rfl (by kernel_rfl) (by kernel_rfl) (by kernel_rfl) (fun _ _ _ h => h) (Or.inl ⟨by rfl, ?hyT52⟩) (by assumption) ?rsT52
    case hyT52 => (intro w8' hSw; (try dsimp only at hSw); go_simp; (first | done | with_reducible rfl))
    (try simp only [Act.put, List.setIfInBounds_toArray, List.set_cons_zero, List.set_cons_succ])
    refine wpAnyH_take (i := 44) (oi := ({ dst := some 6, op := Op.assign (Operand.tmp 96), type := 4, pos := "law.go:47", after := #[{ on := 43, ground := Ground.data }, { on := 39, ground := Ground.chain }, { on := 0, ground := Ground.phase }, { on := 1, ground := Ground.phase }, { on := 2, ground := Ground.phase }, { on := 3, ground := Ground.phase }, { on := 4, ground := Ground.phase }, { on := 5, ground := Ground.phase }, { on := 6, ground := Ground.phase }, { on := 7, ground := Ground.phase }, { on := 8, ground := Ground.phase }, { on := 9, ground := Ground.phase }, { on := 10, ground := Ground.phase }, { on := 11, ground := Ground.phase }, { on := 12, ground := Ground.phase }, { on := 13, ground := Ground.phase }, { on := 14, ground := Ground.phase }, { on := 15, ground := Ground.phase }, { on := 16, ground := Ground.phase }, { on := 17, ground := Ground.phase }, { on := 18, ground := Ground.phase }, { on := 19, ground := Ground.phase }, { on := 20, ground := Ground.phase }, { on := 21, ground := Ground.phase }, { on := 22, ground := Ground.phase }, { on := 23, ground := Ground.phase }, { on := 24, ground := Ground.phase }, { on := 25, ground := Ground.phase }, { on := 26, ground := Ground.phase }, { on := 27, ground := Ground.phase }, { on := 28, ground := Ground.phase }, { on := 29, ground := Ground.phase }, { on := 30, ground := Ground.phase }, { on := 31, ground := Ground.phase }, { on := 32, ground := Ground.phase }, { on := 33, ground := Ground.phase }, { on := 34, ground := Ground.phase }, { on := 35, ground := Ground.phase }, { on := 36, ground := Ground.phase }, { on := 37, ground := Ground.phase }, { on := 38, ground := Ground.phase }, { on := 39, ground := Ground.phase }, { on := 40, ground := Ground.phase }, { on := 41, ground := Ground.phase }, { on := 42, ground := Ground.phase }, { on := 43, ground := Ground.phase }], guard := none } : Oper)) (v := ?_) rfl (by kernel_rfl) (by kernel_rfl) (by kernel_rfl) (fun _ _ _ h => h) (Or.inl ⟨by rfl, ?hyT53⟩) (by assumption) ?rsT53
    case hyT53 => (intro w8' hSw; (try dsimp only at hSw); go_simp; (first | done | with_reducible rfl))
    (try simp only [Act.put, List.setIfInBounds_toArray, List.set_cons_zero, List.set_cons_succ])
    refine wpAnyH_done (by kernel_rfl) ?_ _
    refine NoPanic.normal ?_
    go_wp2_with fail
    go_ret
    exact ⟨rfl, TAt.below (p := ⟨a0_0, a0_1, A0_2, c0_2, l0_2, w.heap.size, w2.heap.size, w3.heap.size, t, s, b, A5, c5, A6, c6, S, S', A14, c14, A15, c15, w⟩) (by with_reducible (repeat (first | exact HT.out | refine TAt.alloc ?_ _ | refine TAt.drewN ?_ _ | refine TAt.drew ?_)))⟩


-- NOT PRINTED: function 4 (governorlaw03_FrameBack)

end Go.Proofs.Ytgfpkgbkbempkaa.Print
