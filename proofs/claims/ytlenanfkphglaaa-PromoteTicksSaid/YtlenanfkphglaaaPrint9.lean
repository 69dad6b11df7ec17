/- Functions of the program as Lean functions, and that its calls come to them; written by a program of this claim over the kit print; Lean checks it. -/
import Derived.Test.YtlenanfkphglaaaPrint0
import Derived.Test.YtlenanfkphglaaaPrint5
import Derived.Test.YtlenanfkphglaaaPrint6
import Derived.Test.YtlenanfkphglaaaPrint7
import Derived.Test.YtlenanfkphglaaaPrint8
namespace Go.Proofs.Ytlenanfkphglaaa.Print
open Go.RowKit Go.Proofs.YtlenanfkphglaaaW.PrintWords Go.Proofs.YtlenanfkphglaaaW.PrintLast Go.Proofs.YtlenanfkphglaaaW.PrintMore
attribute [local go_sem] max2_int min2_int max_two min_two max_three min_three max_four min_four   -- for this text's walks alone
set_option linter.unusedVariables false
set_option linter.unusedSimpArgs false

/-! ### governorlaw19_PromoteTicks: function 6 -/
structure TP where
  (x0 : S23) (id : Int) (q : S27) (s : S29) (A2 A7 : Option Addr) (c2 c7 : Nat) (A : Option Addr) (c : Nat) (l : List Bool) (w : World)
def TP.C0 (p : TP) : Array Value := #[.int .i64 p.x0.f0, .int .i64 p.x0.f1, .int .i64 p.x0.f2, .int .i64 p.x0.f3, .int .i64 p.x0.f4, .int .i64 p.x0.f5, .int .i64 p.x0.f6, .int .i64 p.x0.f7, .int .i64 p.x0.f8, .int .i64 p.x0.f9, .int .i64 p.x0.f10, .int .i64 p.x0.f11]
def TP.C7 (p : TP) : Array Value := #[.int .i64 p.q.f0, .int .i64 p.q.f1, .slice p.A2 p.q.f2.length p.c2, .int .i64 p.q.f3, .int .i64 p.q.f4, .int .i64 p.q.f5, .int .i64 p.q.f6, .slice p.A7 p.q.f7.length p.c7]
def TP.C8 (p : TP) : Array Value := #[.int .i64 p.s.f0, .int .i64 p.s.f1, .bool p.s.f2]
def xcells (p : TP) (left bad : Int) (B2 B7 : Option Addr) (d2 d7 : Nat) : List Value := [.bool true, .int .i64 left, .int .i64 bad, .int .i64 p.id, .int .i64 p.q.f0, .int .i64 p.q.f1, .slice B2 p.q.f2.length d2, .int .i64 p.q.f3, .int .i64 p.q.f4, .int .i64 p.q.f5, .int .i64 p.q.f6, .slice B7 p.q.f7.length d7, .int .i64 p.s.f0, .int .i64 p.s.f1, .bool p.s.f2]
structure TAt (p : TP) (W : World) : Prop where
  b5 : W.heap[p.w.heap.size]? = some (.cells p.C0 23 (0, 0))
  b7 : W.heap[p.w.heap.size + 1]? = some (.cells p.C7 27 (0, 0))
  b8 : W.heap[p.w.heap.size + 1 + 1]? = some (.cells p.C8 29 (0, 0))
  r2 : Kd.C k72 W p.A2 p.q.f2.length p.q.f2
  m2 : p.q.f2.length ≤ p.c2
  r7 : Kd.C k74 W p.A7 p.q.f7.length p.q.f7
  m7 : p.q.f7.length ≤ p.c7
  rl : Kd.C Kd.bool W p.A p.l.length p.l
  ml : p.l.length ≤ p.c
  below : Below p.w.heap.size p.w W
theorem TAt.later {p : TP} {W W' : World} (h : TAt p W) (hb : Below W.heap.size W W') : TAt p W' :=
  ⟨hd_later h.b5 hb, hd_later h.b7 hb, hd_later h.b8 hb, Kd.C_below h.r2 hb, h.m2, Kd.C_below h.r7 hb, h.m7, Kd.C_below h.rl hb, h.ml, below_step h.below hb⟩
theorem TAt.begin (p : TP) (hr2 : Kd.C k72 p.w p.A2 p.q.f2.length p.q.f2) (hc2 : p.q.f2.length ≤ p.c2) (hr7 : Kd.C k74 p.w p.A7 p.q.f7.length p.q.f7) (hc7 : p.q.f7.length ≤ p.c7) (hrl : Kd.C Kd.bool p.w p.A p.l.length p.l) (hcl : p.l.length ≤ p.c) :
    TAt p (((p.w.alloc (.cells p.C0 23)).alloc (.cells p.C7 27)).alloc (.cells p.C8 29)) := by
  have e0 := pick_new p.w (.cells p.C0 23)
  have e1 := pick_new (p.w.alloc (.cells p.C0 23)) (.cells p.C7 27)
  have e2 := pick_new ((p.w.alloc (.cells p.C0 23)).alloc (.cells p.C7 27)) (.cells p.C8 29)
  simp only [World.size_alloc] at e1 e2
  have hb : Below p.w.heap.size p.w (((p.w.alloc (.cells p.C0 23)).alloc (.cells p.C7 27)).alloc (.cells p.C8 29)) := below_alloc (below_alloc (below_alloc (Below.refl _ _) _) _) _
  refine ⟨?_, ?_, e2, Kd.C_below hr2 hb, hc2, Kd.C_below hr7 hb, hc7, Kd.C_below hrl hb, hcl, hb⟩
  · rw [Below.heap_alloc _ _ _ (by simp only [World.size_alloc]; omega), Below.heap_alloc _ _ _ (by simp only [World.size_alloc]; omega)]; exact e0
  · rw [Below.heap_alloc _ _ _ (by simp)]; exact e1
def TP.conf (p : TP) : Bool := W.confB p.x0.f0 p.x0.f1 p.x0.f2 p.x0.f3 p.x0.f4 p.x0.f5 p.x0.f6 p.x0.f7 p.x0.f8 p.x0.f9 p.x0.f10 p.x0.f11
theorem tk_head {p : TP} {W : World} (h : TAt p W) : Calls Try.prog 8 #[] W fun e W' => e = .returned (.bool true) ∧ TAt p W' :=
  (governorlaw19_head.calls true W rfl).mono fun _ _ q => ⟨q.1, h.later q.2⟩
theorem tk_conf {p : TP} {W : World} (h : TAt p W) : Calls Try.prog 9 #[.agg p.C0] W fun e W' => e = .returned (.bool p.conf) ∧ TAt p W' :=
  (governorref09_Conf.calls p.x0.f0 p.x0.f1 p.x0.f2 p.x0.f3 p.x0.f4 p.x0.f5 p.x0.f6 p.x0.f7 p.x0.f8 p.x0.f9 p.x0.f10 p.x0.f11 p.conf W rfl).mono fun _ _ q => ⟨q.1, h.later q.2⟩
theorem r_F {α : Type} {d : Kd α} {e base n cc : Nat} {W : World} {ok : Nat → Prop} {A : Option Addr} {xs : List α} (h : d.R e W base ok (.slice A n cc) xs) : Kd.F d W ok A n xs := fun W' hW => by
  have h2 := Kd.R_reads' (Kd.R_step h hW)
  obtain ⟨e1, _, e3⟩ := h2
  subst e1
  exact e3
theorem f_mono {α : Type} {d : Kd α} {W : World} {ok ok' : Nat → Prop} {A : Option Addr} {n : Nat} {xs : List α} (h : Kd.F d W ok A n xs) (hok : ∀ k, ok k → ok' k) : Kd.F d W ok' A n xs := fun W' hW => h W' (fun k hk hlt => hW k (hok k hk) hlt)
structure XR (p : TP) (g : Nat) (W : World) (B2 B7 : Option Addr) (d2 d7 : Nat) : Prop where
  s2 : Kd.F k72 W (fun k => k ≠ g) B2 p.q.f2.length p.q.f2
  m2 : p.q.f2.length ≤ d2
  s7 : Kd.F k74 W (fun k => k ≠ g) B7 p.q.f7.length p.q.f7
  m7 : p.q.f7.length ≤ d7
theorem XR.r2 {p : TP} {g : Nat} {W : World} {B2 B7 : Option Addr} {d2 d7 : Nat} (h : XR p g W B2 B7 d2 d7) : Kd.C k72 W B2 p.q.f2.length p.q.f2 := Kd.F_now h.s2
theorem XR.r7 {p : TP} {g : Nat} {W : World} {B2 B7 : Option Addr} {d2 d7 : Nat} (h : XR p g W B2 B7 d2 d7) : Kd.C k74 W B7 p.q.f7.length p.q.f7 := Kd.F_now h.s7
theorem XR.later {p : TP} {g : Nat} {W W' : World} {B2 B7 : Option Addr} {d2 d7 : Nat} (h : XR p g W B2 B7 d2 d7) (hb : Below W.heap.size W W') : XR p g W' B2 B7 d2 d7 := ⟨Kd.F_below h.s2 hb, h.m2, Kd.F_below h.s7 hb, h.m7⟩
theorem XR.store {p : TP} {g : Nat} {W : World} {B2 B7 : Option Addr} {d2 d7 : Nat} (h : XR p g W B2 B7 d2 d7) (cs : Array Value) : XR p g (W.setRow g cs) B2 B7 d2 d7 :=
  ⟨Kd.F_step h.s2 (fun k hk _ => setRow_other W g k cs hk), h.m2, Kd.F_step h.s7 (fun k hk _ => setRow_other W g k cs hk), h.m7⟩
theorem own_f (p : TP) (h2 : p.q.f2.length ≤ 8) (h7 : p.q.f7.length ≤ 8) : promote_own.f p.q.f0 p.q.f1 p.q.f2 p.q.f3 p.q.f4 p.q.f5 p.q.f6 p.q.f7 = some (p.q.f0, p.q.f1, p.q.f2, p.q.f3, p.q.f4, p.q.f5, p.q.f6, p.q.f7) := by
  unfold promote_own.f api_Band.f api_Slot.f
  rw [if_pos (by omega), if_pos (by omega)]
  rfl
theorem tk_begin {p : TP} {W : World} (h : TAt p W) (h2 : p.q.f2.length ≤ 8) (h7 : p.q.f7.length ≤ 8) : Calls Try.prog 16 #[.agg p.C0, .int .i64 p.id, .agg p.C7, .agg p.C8] W fun e W' => ∃ B2 B7 d2 d7, e = .returned (.agg (xcells p p.x0.f10 0 B2 B7 d2 d7).toArray) ∧ XR p W'.heap.size W' B2 B7 d2 d7 ∧ Below W.heap.size W W' := by
  refine (promote_Begin.calls p.x0.f0 p.x0.f1 p.x0.f2 p.x0.f3 p.x0.f4 p.x0.f5 p.x0.f6 p.x0.f7 p.x0.f8 p.x0.f9 p.x0.f10 p.x0.f11 p.id p.q.f0 p.q.f1 p.A2 p.c2 p.q.f2 p.q.f3 p.q.f4 p.q.f5 p.q.f6 p.A7 p.c7 p.q.f7 p.s.f0 p.s.f1 p.s.f2 true p.x0.f10 0 p.id p.q.f0 p.q.f1 p.q.f2 p.q.f3 p.q.f4 p.q.f5 p.q.f6 p.q.f7 p.s.f0 p.s.f1 p.s.f2 W h.r2 h.m2 h.r7 h.m7 (by unfold promote_Begin.f; rw [own_f p h2 h7]; rfl)).mono ?_
  rintro e W' ⟨v6, v11, rfl, h6, h11, hb⟩
  obtain ⟨B2, d2, rfl⟩ := Kd.R_slice h6
  obtain ⟨B7, d7, rfl⟩ := Kd.R_slice h11
  exact ⟨B2, B7, d2, d7, rfl, ⟨f_mono (r_F (Kd.R_bound h6)) (fun k hk => by have := hk.2.2.1; omega), (Kd.R_reads' h6).2.1, f_mono (r_F (Kd.R_bound h11)) (fun k hk => by have := hk.2.2.1; omega), (Kd.R_reads' h11).2.1⟩, hb⟩
theorem tk_tick {p : TP} {g : Nat} {W : World} {left bad : Int} {B2 B7 : Option Addr} {d2 d7 : Nat} (hg : g < W.heap.size) (h : XR p g W B2 B7 d2 d7) (h2 : p.q.f2.length ≤ 8) (h7 : p.q.f7.length ≤ 8) (b : Bool) : Calls Try.prog 17 #[.agg (xcells p left bad B2 B7 d2 d7).toArray, .bool b] W fun e W' => ∃ B2' B7' d2' d7', e = .returned (.agg (xcells p (mx 0 (wrap64 (left - 1))) (if b = true then wrap64 (bad + 1) else bad) B2' B7' d2' d7').toArray) ∧ XR p g W' B2' B7' d2' d7' ∧ Below W.heap.size W W' := by
  refine (promote_Tick.calls true left bad p.id p.q.f0 p.q.f1 B2 d2 p.q.f2 p.q.f3 p.q.f4 p.q.f5 p.q.f6 B7 d7 p.q.f7 p.s.f0 p.s.f1 p.s.f2 b true (mx 0 (wrap64 (left - 1))) (if b = true then wrap64 (bad + 1) else bad) p.id p.q.f0 p.q.f1 p.q.f2 p.q.f3 p.q.f4 p.q.f5 p.q.f6 p.q.f7 p.s.f0 p.s.f1 p.s.f2 W h.r2 h.m2 h.r7 h.m7 (by unfold promote_Tick.f; rw [own_f p h2 h7]; cases b <;> rfl)).mono ?_
  rintro e W' ⟨v6, v11, rfl, h6, h11, hb⟩
  obtain ⟨B2', d2', rfl⟩ := Kd.R_slice h6
  obtain ⟨B7', d7', rfl⟩ := Kd.R_slice h11
  exact ⟨B2', B7', d2', d7', rfl, ⟨f_mono (r_F (Kd.R_bound h6)) (fun k hk => by have := hk.2.1; omega), (Kd.R_reads' h6).2.1, f_mono (r_F (Kd.R_bound h11)) (fun k hk => by have := hk.2.1; omega), (Kd.R_reads' h11).2.1⟩, hb⟩
theorem tk_breached {p : TP} {g : Nat} {W : World} {left bad : Int} {B2 B7 : Option Addr} {d2 d7 : Nat} (h : XR p g W B2 B7 d2 d7) (r : Bool) (hr : decide (bad > p.x0.f11) = r) : Calls Try.prog 18 #[.agg p.C0, .agg (xcells p left bad B2 B7 d2 d7).toArray] W fun e W' => e = .returned (.bool r) ∧ Below W.heap.size W W' :=
  (promote_Breached.calls p.x0.f0 p.x0.f1 p.x0.f2 p.x0.f3 p.x0.f4 p.x0.f5 p.x0.f6 p.x0.f7 p.x0.f8 p.x0.f9 p.x0.f10 p.x0.f11 true left bad p.id p.q.f0 p.q.f1 B2 d2 p.q.f2 p.q.f3 p.q.f4 p.q.f5 p.q.f6 B7 d7 p.q.f7 p.s.f0 p.s.f1 p.s.f2 r W h.r2 h.m2 h.r7 h.m7 (by unfold promote_Breached.f; rw [if_pos rfl, hr])).mono fun _ _ q => q
theorem tk_over {p : TP} {g : Nat} {W : World} {left bad : Int} {B2 B7 : Option Addr} {d2 d7 : Nat} (h : XR p g W B2 B7 d2 d7) (r : Bool) (hr : (if left ≤ 0 then !(decide (bad > p.x0.f11)) else false) = r) : Calls Try.prog 19 #[.agg p.C0, .agg (xcells p left bad B2 B7 d2 d7).toArray] W fun e W' => e = .returned (.bool r) ∧ Below W.heap.size W W' :=
  (promote_Over.calls p.x0.f0 p.x0.f1 p.x0.f2 p.x0.f3 p.x0.f4 p.x0.f5 p.x0.f6 p.x0.f7 p.x0.f8 p.x0.f9 p.x0.f10 p.x0.f11 true left bad p.id p.q.f0 p.q.f1 B2 d2 p.q.f2 p.q.f3 p.q.f4 p.q.f5 p.q.f6 B7 d7 p.q.f7 p.s.f0 p.s.f1 p.s.f2 r W h.r2 h.m2 h.r7 h.m7 (by unfold promote_Over.f promote_Breached.f; rw [if_pos rfl, if_pos rfl]; rw [← hr]; split <;> rfl)).mono fun _ _ q => q
theorem sp_w (x : Int) (h0 : -9223372036854775808 ≤ x) (h1 : x ≤ 9223372036854775807) : wrap64 x = x := by
  first | exact wrap64_id h0 h1 | (unfold wrap64; omega) | (rw [wrap64, IntKind.wrap_i64] <;> omega)
theorem sp_l1 (b0 b1 : Int) (l2 : List S72) (b3 b4 b5 b6 : Int) (l7 : List S74) (hm : l7.length ≤ 8) : ∀ (d k m : Nat), k + d = l7.length → d < m → governorref09_SamePolicy.l1 m (k : Int) b0 b1 l2 b3 b4 b5 b6 l7 b0 b1 l2 b3 b4 b5 b6 l7 = some true
  | _, _, 0, _, h => absurd h (by omega)
  | 0, k, m + 1, h, _ => by
    unfold governorref09_SamePolicy.l1
    rw [if_neg (by omega)]
  | d + 1, k, m + 1, h, hm' => by
    have ih := sp_l1 b0 b1 l2 b3 b4 b5 b6 l7 hm d (k + 1) m (by omega) (by omega)
    unfold governorref09_SamePolicy.l1
    rw [if_pos (by omega), if_pos (by omega), if_pos (by omega), if_neg (by simp), sp_w _ (by omega) (by omega)]
    exact ih
theorem sp_l0 (b0 b1 : Int) (l2 : List S72) (b3 b4 b5 b6 : Int) (l7 : List S74) (h2 : l2.length ≤ 8) (hm : l7.length ≤ 8) : ∀ (d k m : Nat), k + d = l2.length → d + 9 < m → governorref09_SamePolicy.l0 m (k : Int) b0 b1 l2 b3 b4 b5 b6 l7 b0 b1 l2 b3 b4 b5 b6 l7 = some true
  | _, _, 0, _, h => absurd h (by omega)
  | 0, k, m + 1, h, hm' => by
    unfold governorref09_SamePolicy.l0
    rw [if_neg (by omega)]
    exact sp_l1 b0 b1 l2 b3 b4 b5 b6 l7 hm l7.length 0 m (by omega) (by omega)
  | d + 1, k, m + 1, h, hm' => by
    have ih := sp_l0 b0 b1 l2 b3 b4 b5 b6 l7 h2 hm d (k + 1) m (by omega) (by omega)
    unfold governorref09_SamePolicy.l0
    rw [if_pos (by omega), if_pos (by omega), if_pos (by omega), if_neg (by simp), sp_w _ (by omega) (by omega)]
    exact ih
theorem sp_f (b0 b1 : Int) (l2 : List S72) (b3 b4 b5 b6 : Int) (l7 : List S74) (h2 : l2.length ≤ 8) (hm : l7.length ≤ 8) : governorref09_SamePolicy.f 30 b0 b1 l2 b3 b4 b5 b6 l7 b0 b1 l2 b3 b4 b5 b6 l7 = some true := by
  unfold governorref09_SamePolicy.f
  rw [if_pos rfl, if_pos rfl, if_pos rfl, if_pos rfl, if_pos rfl, if_pos rfl, if_pos rfl]
  rw [show ((l7.length : Int) != (l7.length : Int)) = false from bne_self_eq_false _]
  have e : ∀ m, governorref09_SamePolicy.j0 (m + 1) false b0 b1 l2 b3 b4 b5 b6 l7 b0 b1 l2 b3 b4 b5 b6 l7 = governorref09_SamePolicy.l0 m 0 b0 b1 l2 b3 b4 b5 b6 l7 b0 b1 l2 b3 b4 b5 b6 l7 := fun m => by unfold governorref09_SamePolicy.j0; rfl
  rw [show (30 : Nat) = 29 + 1 from rfl, e]
  exact sp_l0 b0 b1 l2 b3 b4 b5 b6 l7 h2 hm l2.length 0 29 (by omega) (by omega)
def pcells (p : TP) (B2 B7 : Option Addr) (d2 d7 : Nat) : List Value := [.int .i64 p.q.f0, .int .i64 p.q.f1, .slice B2 p.q.f2.length d2, .int .i64 p.q.f3, .int .i64 p.q.f4, .int .i64 p.q.f5, .int .i64 p.q.f6, .slice B7 p.q.f7.length d7]
theorem pol_cells {p : TP} {W : World} {g : Nat} {left bad : Int} {B2 B7 : Option Addr} {d2 d7 : Nat} (h : W.heap[g]? = some (.cells (xcells p left bad B2 B7 d2 d7).toArray 51 (0, 0))) : ∀ j v, (pcells p B2 B7 d2 d7)[j]? = some v → W.cell? ((⟨g, 4, none⟩ : Addr).add j) = some v := fun j v hj => by
  rw [Addr.add_mid]
  refine pick_cell h (4 + j) ?_
  have hlt : j < 8 := (List.getElem?_eq_some_iff.1 hj).1
  rcases j with _ | _ | _ | _ | _ | _ | _ | _ | j
  all_goals first | omega | (simp only [pcells, List.getElem?_cons_succ, List.getElem?_cons_zero, Option.some.injEq] at hj; subst hj; rfl)
theorem tk_same {p : TP} {g : Nat} {W : World} {B2 B7 : Option Addr} {d2 d7 : Nat} (h : XR p g W B2 B7 d2 d7) (ht : TAt p W) (h2 : p.q.f2.length ≤ 8) (h7 : p.q.f7.length ≤ 8) : Calls Try.prog 20 #[.agg (pcells p B2 B7 d2 d7).toArray, .agg p.C7] W fun e W' => e = .returned (.bool true) ∧ TAt p W' :=
  (governorref09_SamePolicy.calls 30 p.q.f0 p.q.f1 B2 d2 p.q.f2 p.q.f3 p.q.f4 p.q.f5 p.q.f6 B7 d7 p.q.f7 p.q.f0 p.q.f1 p.A2 p.c2 p.q.f2 p.q.f3 p.q.f4 p.q.f5 p.q.f6 p.A7 p.c7 p.q.f7 true W h.r2 h.m2 h.r7 h.m7 ht.r2 ht.m2 ht.r7 ht.m7 (sp_f _ _ _ _ _ _ _ _ h2 h7)).mono fun _ _ q => ⟨q.1, ht.later q.2⟩
def cntB (l : List Bool) (k : Nat) : Int := ((l.take k).filter (fun b => b)).length
def leftP (m : Int) (k : Nat) : Int := if m - k ≤ 0 then 0 else m - k
theorem cntB_snoc {l : List Bool} {k : Nat} (hk : k < l.length) : cntB l (k + 1) = cntB l k + if l.getD k false = true then 1 else 0 := by
  unfold cntB
  rw [List.take_succ_eq_append_getElem hk, List.filter_append, List.length_append, List.getD_eq_getElem?_getD, List.getElem?_eq_getElem hk]
  cases l[k] <;> simp
theorem cntB_in (l : List Bool) (k : Nat) : 0 ≤ cntB l k ∧ cntB l k ≤ k := by
  unfold cntB
  have h1 := List.length_filter_le (fun b => b) (l.take k)
  rw [List.length_take] at h1
  omega
def ConfB (p : TP) : Prop := 1 ≤ p.x0.f10 ∧ p.x0.f10 ≤ 1000000 ∧ 0 ≤ p.x0.f11 ∧ p.x0.f11 ≤ 1000000
theorem conf_bounds {p : TP} (h : p.conf = true) : ConfB p := by
  unfold TP.conf W.confB W.sizeB W.plantB W.judgeB W.inB at h
  unfold ConfB
  simp only [Bool.and_eq_true, decide_eq_true_eq] at h
  omega
theorem ticks0 {p : TP} (h : ConfB p) : leftP p.x0.f10 0 = p.x0.f10 := by
  unfold leftP
  obtain ⟨h1, _⟩ := h
  rw [if_neg (by simp; omega)]
  simp
theorem bool_at {W : World} {A : Option Addr} {n : Nat} {l : List Bool} (h : Kd.C Kd.bool W A n l) (k : Nat) (hk : k < n) : ∃ ad, A = some ad ∧ W.cell? (ad.add k) = some (.bool (l.getD k false)) := by
  obtain ⟨ad, cs, e, _, hK, hcs⟩ := Kd.C_get h false (k : Int) (by omega) (by omega)
  rw [Int.toNat_natCast] at hcs hK
  refine ⟨ad, e, ?_⟩
  have h1 := hcs 0 (.bool (l.getD k false)) (by rw [hK]; rfl)
  simpa [show Kd.bool.sz = 1 from rfl] using h1
theorem bool_here {W : World} {A : Option Addr} {ad : Addr} {n : Nat} {l : List Bool} (h : Kd.C Kd.bool W A n l) (hA : A = some ad) (k : Nat) (hk : k < n) : W.cell? (ad.add k) = some (.bool (l.getD k false)) := by
  obtain ⟨ad', h1, h2⟩ := bool_at h k hk
  rw [hA] at h1
  injection h1 with h1
  rw [h1]
  exact h2
theorem pick_below_drew {B : Nat} {w W : World} (h : Below B w W) : Below B w W.drew := below_drew h
/-- What a round of the law's does. -/
theorem ticks_step {p : TP} (h : ConfB p) (hl : p.l.length ≤ 90) {k : Nat} (hk : k < p.l.length) {b : Bool} (hb : p.l.getD k false = b) :
    mx 0 (wrap64 (leftP p.x0.f10 k - 1)) = leftP p.x0.f10 (k + 1) ∧ (if b = true then wrap64 (cntB p.l k + 1) else cntB p.l k) = cntB p.l (k + 1) ∧ IntKind.i64.wrap (cntB p.l k + 1) = cntB p.l k + 1 ∧ True ∧ True ∧ True := by
  obtain ⟨h1, h2, h3, h4⟩ := h
  have hc := cntB_in p.l k
  have hs := cntB_snoc hk
  rw [hb] at hs
  refine ⟨?_, ?_, ?_, trivial, trivial, trivial⟩
  · unfold leftP mx wrap64
    split <;> split <;> (try split) <;> omega
  · rw [hs]
    cases b
    · simp
    · rw [if_pos rfl, if_pos rfl]
      unfold wrap64
      omega
  · rw [IntKind.wrap_i64] <;> omega
/-! #### A region that draws its order whose operations yield one value in every world that has only grown: one walk of the list -/
theorem qu_run {P : Program} {ops : Array Oper} {C : World → Prop} {Q : Act → Prop} {rest : List Oper} {o : Oper} {a : Act} (hw : Region.wanted o (yielded ops a.tmps) = true) (v : Value) (h : ∀ w, C w → (execOp a.eval o).run P w = .ok (.value v) w) (hn : wpQuiet P ops C Q rest (a.put o.dst v)) : wpQuiet P ops C Q (o :: rest) a := by
  unfold wpQuiet
  rw [if_pos hw]
  exact ⟨v, fun w hc => by unfold Oper.quietAt; rw [h w hc]; exact ⟨rfl, rfl⟩, hn⟩
theorem qu_call {P : Program} {ops : Array Oper} {C : World → Prop} {Q : Act → Prop} {rest : List Oper} {o : Oper} {a : Act} (hw : Region.wanted o (yielded ops a.tmps) = true) (v : Value) {f : FuncId} {args : Array Value} (h : ∀ w, (execOp a.eval o).run P w = .ok (.enter f args) w)
    (hc : ∀ w, C w → Calls P f args w fun e w' => e = .returned v ∧ C w') (hn : wpQuiet P ops C Q rest (a.put o.dst v)) : wpQuiet P ops C Q (o :: rest) a := by
  unfold wpQuiet
  rw [if_pos hw]
  exact ⟨v, fun w hw' => by unfold Oper.quietAt; rw [h w]; exact ⟨rfl, hc w hw'⟩, hn⟩
theorem qu_skip {P : Program} {ops : Array Oper} {C : World → Prop} {Q : Act → Prop} {rest : List Oper} {o : Oper} {a : Act} (hw : Region.wanted o (yielded ops a.tmps) = false) (hn : wpQuiet P ops C Q rest (a.put o.dst undef)) : wpQuiet P ops C Q (o :: rest) a := by
  unfold wpQuiet
  rw [if_neg (by rw [hw]; simp)]
  exact hn
theorem ticks_over_ge {p : TP} {k : Nat} {br : Bool} (h : p.x0.f10 ≤ (k : Int) + 1) (hb : decide (p.x0.f11 < cntB p.l (k + 1)) = br) : (if leftP p.x0.f10 (k + 1) ≤ 0 then !(decide (cntB p.l (k + 1) > p.x0.f11)) else false) = !br := by
  have e : leftP p.x0.f10 (k + 1) = 0 := by unfold leftP; rw [if_pos (by omega)]
  rw [e, if_pos (by omega), ← hb]
theorem ticks_over_lt {p : TP} {k : Nat} {b : Bool} (h : ¬ p.x0.f10 ≤ (k : Int) + 1) : (if leftP p.x0.f10 (k + 1) ≤ 0 then !b else false) = false := by
  have e : leftP p.x0.f10 (k + 1) = p.x0.f10 - ((k + 1 : Nat) : Int) := by unfold leftP; rw [if_neg (by omega)]
  rw [e, if_neg (by omega)]
theorem ticks_max (m : Int) (k : Nat) : mx (m - (k : Int) - 1) 0 = leftP m (k + 1) := by
  unfold mx leftP
  split <;> split <;> omega
theorem state_cells {p : TP} {W : World} {g : Nat} {left bad : Int} {B2 B7 : Option Addr} {d2 d7 : Nat} (h : W.heap[g]? = some (.cells (xcells p left bad B2 B7 d2 d7).toArray 51 (0, 0))) : ∀ j v, ([.int .i64 p.s.f0, .int .i64 p.s.f1, .bool p.s.f2] : List Value)[j]? = some v → W.cell? ((⟨g, 12, none⟩ : Addr).add j) = some v := fun j v hj => by
  rw [Addr.add_mid]
  refine pick_cell h (12 + j) ?_
  have hlt : j < 3 := (List.getElem?_eq_some_iff.1 hj).1
  rcases j with _ | _ | _ | j
  all_goals first | omega | (simp only [List.getElem?_cons_succ, List.getElem?_cons_zero, Option.some.injEq] at hj; subst hj; rfl)
set_option maxRecDepth 100000 in
set_option maxHeartbeats 16000000 in
theorem ticks_walk (p : TP) (A : Option Addr) (HA : Aside0 (p.A = A)) (HB : Aside0 (TAt p (((p.w.alloc (.cells p.C0 23)).alloc (.cells p.C7 27)).alloc (.cells p.C8 29)))) (hid : 0 ≤ p.id ∧ p.id < 256) :
    Calls Try.prog 6 #[.agg p.C0, .int .u8 p.id, .agg p.C7, .agg p.C8, .slice A p.l.length p.c] p.w fun e w' => e = .returned (.bool true) ∧ Below p.w.heap.size p.w w' := by
  have hu23 := Try.underlying23
  have hu27 := Try.underlying27
  have hu29 := Try.underlying29
  have hu49 := Try.underlying49
  have hu51 := Try.underlying51
  have hm : Try.prog.follows .mixedOrders = true := by kernel_rfl
  have hi23 : (Try.prog.info? 23).map (·.size) = some 12 := by kernel_rfl
  have hi27 : (Try.prog.info? 27).map (·.size) = some 8 := by kernel_rfl
  have hi29 : (Try.prog.info? 29).map (·.size) = some 3 := by kernel_rfl
  have hi51 : (Try.prog.info? 51).map (·.size) = some 15 := by kernel_rfl
  obtain ⟨X, hX⟩ : ∃ Z : Array Value, Z = #[.bool false, .int .i64 0, .int .i64 0, .int .i64 0, .int .i64 0, .int .i64 0, .slice none 0 0, .int .i64 0, .int .i64 0, .int .i64 0, .int .i64 0, .slice none 0 0, .int .i64 0, .int .i64 0, .bool false] := ⟨_, rfl⟩
  have sx : X.size = 15 := by rw [hX]; rfl
  have hz51 : ∀ W, (zeroValue 51).run Try.prog W = .ok (.agg X) W := by rw [hX]; exact fun W => by kernel_rfl
  clear hX
  go_enter Try.func6, Try.ntmps6
  go_wp2_with fail
  refine (tk_head HB.out).mono ?_
  rintro e w1 ⟨rfl, h1⟩
  have H1 := Aside0.mk h1
  clear h1 HB
  go_wp2_with (first
    | (with_reducible refine hd_gate 17 rfl ?_); refine hd_run rfl (v := .agg p.C0) (w1 := w1) (pick_loadRow rfl p.w.heap.size rfl 23 _ (0, 0) _ H1.out.b5 hu23 rfl hi23) ?_)
  refine (tk_conf H1.out).mono ?_
  rintro e w2 ⟨rfl, h2⟩
  have H2 := Aside0.mk h2
  clear h2 H1
  cases hc : p.conf
  · go_wp2_with fail
    go_ret
    exact ⟨rfl, H2.out.below⟩
  have HCB := Aside0.mk (conf_bounds hc)
  clear hc
  have d2 : w2.cell? ⟨p.w.heap.size + 1, 2, none⟩ = some (.slice p.A2 p.q.f2.length p.c2) := pick_cell H2.out.b7 2 rfl
  have d7 : w2.cell? ⟨p.w.heap.size + 1, 7, none⟩ = some (.slice p.A7 p.q.f7.length p.c7) := pick_cell H2.out.b7 7 rfl
  by_cases h2 : p.q.f2.length ≤ 8
  rotate_left
  · have b2 : decide ((8 : Int) < (p.q.f2.length : Int)) = true := decide_eq_true (by omega)
    go_wp2_with fail
    go_ret
    exact ⟨rfl, H2.out.below⟩
  have b2 : decide ((8 : Int) < (p.q.f2.length : Int)) = false := decide_eq_false (by omega)
  by_cases h7 : p.q.f7.length ≤ 8
  rotate_left
  · have b7 : decide ((8 : Int) < (p.q.f7.length : Int)) = true := decide_eq_true (by omega)
    go_wp2_with fail
    go_ret
    exact ⟨rfl, H2.out.below⟩
  have b7 : decide ((8 : Int) < (p.q.f7.length : Int)) = false := decide_eq_false (by omega)
  by_cases hl : p.l.length ≤ 90
  rotate_left
  · have bl : decide ((90 : Int) < (p.l.length : Int)) = true := decide_eq_true (by omega)
    go_wp2_with fail
    go_ret
    exact ⟨rfl, H2.out.below⟩
  have bl : decide ((90 : Int) < (p.l.length : Int)) = false := decide_eq_false (by omega)
  have wid : IntKind.i64.wrap p.id = p.id := by rw [IntKind.wrap_i64] <;> omega
  go_wp2_with (first
    | (with_reducible refine hd_gate 38 rfl ?_); refine hd_run rfl (v := .agg p.C0) (w1 := w2) (pick_loadRow rfl p.w.heap.size rfl 23 _ (0, 0) _ H2.out.b5 hu23 rfl hi23) ?_
    | (with_reducible refine hd_gate 41 rfl ?_); refine hd_run rfl (v := .agg p.C7) (w1 := w2) (pick_loadRow rfl (p.w.heap.size + 1) rfl 27 _ (0, 0) _ H2.out.b7 hu27 rfl hi27) ?_
    | (with_reducible refine hd_gate 42 rfl ?_); refine hd_run rfl (v := .agg p.C8) (w1 := w2) (pick_loadRow rfl (p.w.heap.size + 1 + 1) rfl 29 _ (0, 0) _ H2.out.b8 hu29 rfl hi29) ?_)
  refine (tk_begin H2.out h2 h7).mono ?_
  rintro e w5 ⟨B2, B7, d2', d7', rfl, hX5, hb5⟩
  have H5 := Aside0.mk (H2.out.later hb5)
  have HX5 := Aside0.mk hX5
  clear hX5 hb5 H2 d2 d7 b2 b7 bl wid
  go_wp2_with (first
    | (with_reducible refine hd_gateS 12 _ _ rfl ?_); obtain ⟨w6, hW, hE, hb⟩ := pick_setNew w5 X (xcells p p.x0.f10 0 B2 B7 d2' d7').toArray 51; refine hd_runS rfl (w1 := w6) ?hr ?_; (case hr => rw [hW]; exact pick_store rfl w5.heap.size (xcells p p.x0.f10 0 B2 B7 d2' d7').toArray rfl rfl 51 X (pick_new w5 _) hi51 sx (by simp [xcells, Value.oneCell'])); have HE6 := Aside0.mk hE; have HB6 := Aside0.mk hb; clear hb hE hW)
  have hg : p.w.heap.size ≤ w5.heap.size := H5.out.below.size
  have HB0 := Aside0.mk HB6.out
  have HX6 := Aside0.mk (HX5.out.later HB6.out)
  generalize hgg : w5.heap.size = g at *
  have HGG := Aside0.mk hgg
  clear hgg
  have hmax : p.l.length ≤ 9223372036854775807 := by omega
  go_wp2_with fail
  go_loopw [13, 14] (fun m i wr => ∃ (k : Nat) (B2 B7 : Option Addr) (d2 d7 : Nat), k ≤ p.l.length ∧ m = .int .i64 (cntB p.l k) ∧ i = .int .i64 k ∧ Aside0 (Below g w5 wr) ∧ Aside0 (XR p g wr B2 B7 d2 d7) ∧ Aside0 (wr.heap[g]? = some (.cells (xcells p (leftP p.x0.f10 k) (cntB p.l k) B2 B7 d2 d7).toArray 51 (0, 0)))) (fun _ i _ => p.l.length - (intOf i).toNat)
  case atStart => exact ⟨0, B2, B7, d2', d7', Nat.zero_le _, rfl, rfl, HB0, HX6, ⟨by rw [ticks0 HCB.out]; exact HE6.out⟩⟩
  case round =>
    clear HB0 HX6 HE6
    obtain ⟨k, B2, B7, d2, d7, hk, rfl, rfl, HB, HXR, HE⟩ := hrel
    have HT := Aside0.mk (H5.out.later (by rw [HGG.out]; exact HB.out))
    by_cases hlt : k < p.l.length
    · obtain ⟨ad, hA, hcell⟩ := bool_at HT.out.rl k hlt
      obtain rfl : some ad = A := hA.symm.trans HA.out
      generalize hb : p.l.getD k false = b at hcell
      have HBV := Aside0.mk hb
      clear hb hA
      have dx0 : wr.cell? ⟨g, 0, none⟩ = some (.bool true) := pick_cell HE.out 0 rfl
      have dx1 : wr.cell? ⟨g, 1, none⟩ = some (.int .i64 (leftP p.x0.f10 k)) := pick_cell HE.out 1 rfl
      have dx2 : wr.cell? ⟨g, 2, none⟩ = some (.int .i64 (cntB p.l k)) := pick_cell HE.out 2 rfl
      have dx3 : wr.cell? ⟨g, 3, none⟩ = some (.int .i64 p.id) := pick_cell HE.out 3 rfl
      have dx4 : wr.cell? ⟨g, 4, none⟩ = some (.int .i64 p.q.f0) := pick_cell HE.out 4 rfl
      have dx5 : wr.cell? ⟨g, 5, none⟩ = some (.int .i64 p.q.f1) := pick_cell HE.out 5 rfl
      have dx6 : wr.cell? ⟨g, 6, none⟩ = some (.slice B2 p.q.f2.length d2) := pick_cell HE.out 6 rfl
      have dx7 : wr.cell? ⟨g, 7, none⟩ = some (.int .i64 p.q.f3) := pick_cell HE.out 7 rfl
      have dx8 : wr.cell? ⟨g, 8, none⟩ = some (.int .i64 p.q.f4) := pick_cell HE.out 8 rfl
      have dx9 : wr.cell? ⟨g, 9, none⟩ = some (.int .i64 p.q.f5) := pick_cell HE.out 9 rfl
      have dx10 : wr.cell? ⟨g, 10, none⟩ = some (.int .i64 p.q.f6) := pick_cell HE.out 10 rfl
      have dx11 : wr.cell? ⟨g, 11, none⟩ = some (.slice B7 p.q.f7.length d7) := pick_cell HE.out 11 rfl
      have dx12 : wr.cell? ⟨g, 12, none⟩ = some (.int .i64 p.s.f0) := pick_cell HE.out 12 rfl
      have dx13 : wr.cell? ⟨g, 13, none⟩ = some (.int .i64 p.s.f1) := pick_cell HE.out 13 rfl
      have dx14 : wr.cell? ⟨g, 14, none⟩ = some (.bool p.s.f2) := pick_cell HE.out 14 rfl
      have wk : IntKind.i64.wrap ((k : Int) + 1) = (k : Int) + 1 := by rw [IntKind.wrap_i64] <;> omega
      obtain ⟨t1, t2, t3, t4, t5, t6⟩ := ticks_step HCB.out hl hlt HBV.out
      have T1 := Aside0.mk t1
      have T2 := Aside0.mk t2
      have T3 := Aside0.mk t3
      have T4 := Aside0.mk t4
      clear t1 t2 t3 t4
      go_upto_region 9 with fail
      go_still_tail 5, (by kernel_rfl)
      change wpList _ _ _ _ _ wr.drew
      have hgl : g < wr.heap.size := (Array.getElem?_eq_some_iff.1 HE.out).1
      have HTd := Aside0.mk (HT.out.later (below_drew1 (Below.refl _ _)))
      have HXd := Aside0.mk (HXR.out.later (below_drew1 (Below.refl _ _)))
      have HEd := Aside0.mk (show wr.drew.heap[g]? = _ from HE.out)
      have HBd := Aside0.mk (show Below g w5 wr.drew from pick_below_drew HB.out)
      rw [show wr.heap.size = wr.drew.heap.size from rfl] at hgl
      generalize wr.drew = wd at *
      clear HT HXR HE HB hcell dx0 dx1 dx2 dx3 dx4 dx5 dx6 dx7 dx8 dx9 dx10 dx11 dx12 dx13 dx14
      go_wp2_with fail
      refine (tk_tick hgl HXd.out h2 h7 b).mono ?_
      rintro e w8 ⟨B2n, B7n, d2n, d7n, rfl, hX8, hb8⟩
      rw [T1.out, T2.out]
      have hE8 := hd_later HEd.out hb8
      obtain ⟨W9, hW9⟩ : ∃ W9, W9 = w8.setRow g (xcells p (leftP p.x0.f10 (k + 1)) (cntB p.l (k + 1)) B2n B7n d2n d7n).toArray := ⟨_, rfl⟩
      have HE9 := Aside0.mk (show W9.heap[g]? = some (.cells (xcells p (leftP p.x0.f10 (k + 1)) (cntB p.l (k + 1)) B2n B7n d2n d7n).toArray 51 (0, 0)) by rw [hW9]; exact setRow_heap _ _ _ _ _ _ hE8)
      have HX9 := Aside0.mk (show XR p g W9 B2n B7n d2n d7n by rw [hW9]; exact hX8.store _)
      have HB9 := Aside0.mk (show Below g w5 W9 by rw [hW9]; exact below_setRow (HBd.out.trans (hb8.mono (by omega))) (Nat.le_refl g) _)
      have HE8 := Aside0.mk hE8
      have HW9 := Aside0.mk hW9
      clear hE8 hX8 hb8 hgl hW9 HEd HXd HBd HTd
      go_upto_if 59 with (first
        | (with_reducible refine hd_gateS 12 _ _ rfl ?_); refine hd_runS rfl (w1 := W9) (by rw [HW9.out]; exact pick_store rfl g (xcells p (leftP p.x0.f10 (k + 1)) (cntB p.l (k + 1)) B2n B7n d2n d7n).toArray rfl rfl 51 _ HE8.out hi51 rfl (by simp [xcells, Value.oneCell'])) ?_; clear HW9 HE8; have HT9 := Aside0.mk (H5.out.later (by rw [HGG.out]; exact HB9.out)); have hcell : W9.cell? (ad.add k) = some (.bool b) := by (have h := bool_here HT9.out.rl HA.out k hlt; rw [HBV.out] at h; exact h))
      go_cut [13] from 50 to 120 (fun v13 wc => v13 = .int .i64 (cntB p.l (k + 1)) ∧ wc = W9)
      case first =>
        cases b
        · have e13 : cntB p.l k = cntB p.l (k + 1) := by have := T2.out; simpa using this
          go_wp2_with fail
          go_meet
          case rel => exact ⟨by rw [e13], rfl⟩
        · have e13 : IntKind.i64.wrap (cntB p.l k + 1) = cntB p.l (k + 1) := by rw [T3.out]; have := cntB_snoc hlt; rw [HBV.out, if_pos rfl] at this; exact this.symm
          go_wp2_with fail
          go_meet
          case rel => exact ⟨rfl, rfl⟩
      obtain ⟨rfl, rfl⟩ := hcut
      clear hcell
      have HT9 := Aside0.mk (H5.out.later (by rw [HGG.out]; exact HB9.out))
      have b11 : wc.cell? ⟨p.w.heap.size, 11, none⟩ = some (.int .i64 p.x0.f11) := pick_cell HT9.out.b5 11 rfl
      have b10 : wc.cell? ⟨p.w.heap.size, 10, none⟩ = some (.int .i64 p.x0.f10) := pick_cell HT9.out.b5 10 rfl
      have y0 : wc.cell? ⟨g, 0, none⟩ = some (.bool true) := pick_cell HE9.out 0 rfl
      have y1 : wc.cell? ⟨g, 1, none⟩ = some (.int .i64 (leftP p.x0.f10 (k + 1))) := pick_cell HE9.out 1 rfl
      have y2 : wc.cell? ⟨g, 2, none⟩ = some (.int .i64 (cntB p.l (k + 1))) := pick_cell HE9.out 2 rfl
      have y3 : wc.cell? ⟨g, 3, none⟩ = some (.int .i64 p.id) := pick_cell HE9.out 3 rfl
      generalize hbr : decide (p.x0.f11 < cntB p.l (k + 1)) = br
      have HBR := Aside0.mk hbr
      go_upto_region 13 with fail
      clear hbr
      have MK13 := Aside0.mk (show ∀ w', Below wc.heap.size wc w' → (fun w' => Below wc.heap.size wc w' ∧ w'.cell? ⟨p.w.heap.size, 11, none⟩ = some (.int .i64 p.x0.f11) ∧ w'.cell? ⟨p.w.heap.size, 10, none⟩ = some (.int .i64 p.x0.f10) ∧ w'.cell? ⟨g, 0, none⟩ = some (.bool true) ∧ w'.cell? ⟨g, 1, none⟩ = some (.int .i64 (leftP p.x0.f10 (k + 1))) ∧ w'.cell? ⟨g, 2, none⟩ = some (.int .i64 (cntB p.l (k + 1))) ∧ w'.cell? ⟨g, 3, none⟩ = some (.int .i64 p.id)) w' from fun w' hb => ⟨hb, pick_keep hb b11, pick_keep hb b10, pick_keep hb y0, pick_keep hb y1, pick_keep hb y2, pick_keep hb y3⟩)
      clear b11 b10 y0 y1 y2 y3
      have w81 : IntKind.i64.wrap (p.x0.f10 - (k : Int)) = p.x0.f10 - (k : Int) := by obtain ⟨_, _, _, _⟩ := HCB.out; rw [IntKind.wrap_i64] <;> omega
      have w82 : IntKind.i64.wrap (p.x0.f10 - (k : Int) - 1) = p.x0.f10 - (k : Int) - 1 := by obtain ⟨_, _, _, _⟩ := HCB.out; rw [IntKind.wrap_i64] <;> omega
      have wid : IntKind.i64.wrap p.id = p.id := by rw [IntKind.wrap_i64] <;> omega
      have HMX := Aside0.mk (ticks_max p.x0.f10 k)
      by_cases hge : p.x0.f10 ≤ (k : Int) + 1
      · have hge : p.x0.f10 ≤ (k : Int) + 1 := hge
        have bge : decide (p.x0.f10 ≤ (k : Int) + 1) = true := decide_eq_true hge
        have HOV := Aside0.mk (ticks_over_ge (br := br) hge HBR.out)
        clear hge
        refine wp_region_quiet (C := (fun w' => Below wc.heap.size wc w' ∧ w'.cell? ⟨p.w.heap.size, 11, none⟩ = some (.int .i64 p.x0.f11) ∧ w'.cell? ⟨p.w.heap.size, 10, none⟩ = some (.int .i64 p.x0.f10) ∧ w'.cell? ⟨g, 0, none⟩ = some (.bool true) ∧ w'.cell? ⟨g, 1, none⟩ = some (.int .i64 (leftP p.x0.f10 (k + 1))) ∧ w'.cell? ⟨g, 2, none⟩ = some (.int .i64 (cntB p.l (k + 1))) ∧ w'.cell? ⟨g, 3, none⟩ = some (.int .i64 p.id))) hm (by kernel_rfl) (MK13.out _ (below_drew1 (Below.refl _ _))) ?_
        refine qu_run (v := ?_) (by kernel_rfl) ?hyg0 ?nxg0
        case hyg0 => (intro w9 hSw; (try dsimp only at hSw); go_simp; (first | done | with_reducible rfl))
        (try simp only [Act.put, List.setIfInBounds_toArray, List.set_cons_zero, List.set_cons_succ])
        refine qu_run (v := ?_) (by kernel_rfl) ?hyg1 ?nxg1
        case hyg1 => (intro w9 hSw; (try dsimp only at hSw); go_simp; (first | done | with_reducible rfl))
        (try simp only [Act.put, List.setIfInBounds_toArray, List.set_cons_zero, List.set_cons_succ])
        refine qu_run (v := ?_) (by kernel_rfl) ?hyg2 ?nxg2
        case hyg2 => (intro w9 hSw; (try dsimp only at hSw); go_simp; (first | done | with_reducible rfl))
        (try simp only [Act.put, List.setIfInBounds_toArray, List.set_cons_zero, List.set_cons_succ])
        refine qu_run (v := ?_) (by kernel_rfl) ?hyg3 ?nxg3
        case hyg3 => (intro w9 hSw; (try dsimp only at hSw); go_simp; (first | done | with_reducible rfl))
        (try simp only [Act.put, List.setIfInBounds_toArray, List.set_cons_zero, List.set_cons_succ])
        refine qu_run (v := ?_) (by kernel_rfl) ?hyg4 ?nxg4
        case hyg4 => (intro w9 hSw; (try dsimp only at hSw); go_simp; (first | done | with_reducible rfl))
        (try simp only [Act.put, List.setIfInBounds_toArray, List.set_cons_zero, List.set_cons_succ])
        refine qu_run (v := ?_) (by kernel_rfl) ?hyg5 ?nxg5
        case hyg5 => (intro w9 hSw; (try dsimp only at hSw); go_simp; (first | done | with_reducible rfl))
        (try simp only [Act.put, List.setIfInBounds_toArray, List.set_cons_zero, List.set_cons_succ])
        refine qu_run (v := ?_) (by kernel_rfl) ?hyg6 ?nxg6
        case hyg6 => (intro w9 hSw; (try dsimp only at hSw); go_simp; (first | done | with_reducible rfl))
        (try simp only [Act.put, List.setIfInBounds_toArray, List.set_cons_zero, List.set_cons_succ])
        refine qu_run (v := ?_) (by kernel_rfl) ?hyg7 ?nxg7
        case hyg7 => (intro w9 hSw; (try dsimp only at hSw); go_simp; (first | done | with_reducible rfl))
        (try simp only [Act.put, List.setIfInBounds_toArray, List.set_cons_zero, List.set_cons_succ])
        refine qu_run (v := ?_) (by kernel_rfl) ?hyg8 ?nxg8
        case hyg8 => (intro w9 hSw; (try dsimp only at hSw); go_simp; (first | done | with_reducible rfl))
        (try simp only [Act.put, List.setIfInBounds_toArray, List.set_cons_zero, List.set_cons_succ])
        refine qu_run (v := ?_) (by kernel_rfl) ?hyg9 ?nxg9
        case hyg9 => (intro w9 hSw; (try dsimp only at hSw); go_simp; (first | done | with_reducible rfl))
        (try simp only [Act.put, List.setIfInBounds_toArray, List.set_cons_zero, List.set_cons_succ])
        refine qu_run (v := ?_) (by kernel_rfl) ?hyg10 ?nxg10
        case hyg10 => (intro w9 hSw; (try dsimp only at hSw); go_simp; (first | done | with_reducible rfl))
        (try simp only [Act.put, List.setIfInBounds_toArray, List.set_cons_zero, List.set_cons_succ])
        refine qu_run (v := ?_) (by kernel_rfl) ?hyg11 ?nxg11
        case hyg11 => (intro w9 hSw; (try dsimp only at hSw); go_simp; (first | done | with_reducible rfl))
        (try simp only [Act.put, List.setIfInBounds_toArray, List.set_cons_zero, List.set_cons_succ])
        refine qu_run (v := ?_) (by kernel_rfl) ?hyg12 ?nxg12
        case hyg12 => (intro w9 hSw; (try dsimp only at hSw); go_simp; (first | done | with_reducible rfl))
        (try simp only [Act.put, List.setIfInBounds_toArray, List.set_cons_zero, List.set_cons_succ])
        refine qu_run (v := ?_) (by kernel_rfl) ?hyg13 ?nxg13
        case hyg13 => (intro w9 hSw; (try dsimp only at hSw); go_simp; (first | done | with_reducible rfl))
        (try simp only [Act.put, List.setIfInBounds_toArray, List.set_cons_zero, List.set_cons_succ])
        refine qu_run (v := ?_) (by kernel_rfl) ?hyg14 ?nxg14
        case hyg14 => (intro w9 hSw; (try dsimp only at hSw); go_simp; (first | done | with_reducible rfl))
        (try simp only [Act.put, List.setIfInBounds_toArray, List.set_cons_zero, List.set_cons_succ])
        refine qu_run (v := ?_) (by kernel_rfl) ?hyg15 ?nxg15
        case hyg15 => (intro w9 hSw; (try dsimp only at hSw); go_simp; (first | done | with_reducible rfl))
        (try simp only [Act.put, List.setIfInBounds_toArray, List.set_cons_zero, List.set_cons_succ])
        refine qu_run (v := ?_) (by kernel_rfl) ?hyg16 ?nxg16
        case hyg16 => (intro w9 hSw; (try dsimp only at hSw); go_simp; (first | done | with_reducible rfl))
        (try simp only [Act.put, List.setIfInBounds_toArray, List.set_cons_zero, List.set_cons_succ])
        refine qu_run (v := .int .i64 (leftP p.x0.f10 (k + 1))) (by kernel_rfl) (fun w9 hc => by (go_simp; exact HMX.out)) ?_
        (try simp only [Act.put, List.setIfInBounds_toArray, List.set_cons_zero, List.set_cons_succ])
        refine qu_run (v := ?_) (by kernel_rfl) ?hyg18 ?nxg18
        case hyg18 => (intro w9 hSw; (try dsimp only at hSw); go_simp; (first | done | with_reducible rfl))
        (try simp only [Act.put, List.setIfInBounds_toArray, List.set_cons_zero, List.set_cons_succ])
        refine qu_run (v := ?_) (by kernel_rfl) ?hyg19 ?nxg19
        case hyg19 => (intro w9 hSw; (try dsimp only at hSw); go_simp; (first | done | with_reducible rfl))
        (try simp only [Act.put, List.setIfInBounds_toArray, List.set_cons_zero, List.set_cons_succ])
        refine qu_run (v := ?_) (by kernel_rfl) ?hyg20 ?nxg20
        case hyg20 => (intro w9 hSw; (try dsimp only at hSw); go_simp; (first | done | with_reducible rfl))
        (try simp only [Act.put, List.setIfInBounds_toArray, List.set_cons_zero, List.set_cons_succ])
        refine qu_run (v := ?_) (by kernel_rfl) ?hyg21 ?nxg21
        case hyg21 => (intro w9 hSw; (try dsimp only at hSw); go_simp; (first | done | with_reducible rfl))
        (try simp only [Act.put, List.setIfInBounds_toArray, List.set_cons_zero, List.set_cons_succ])
        refine qu_run (v := ?_) (by kernel_rfl) ?hyg22 ?nxg22
        case hyg22 => (intro w9 hSw; (try dsimp only at hSw); go_simp; (first | done | with_reducible rfl))
        (try simp only [Act.put, List.setIfInBounds_toArray, List.set_cons_zero, List.set_cons_succ])
        refine qu_run (v := ?_) (by kernel_rfl) ?hyg23 ?nxg23
        case hyg23 => (intro w9 hSw; (try dsimp only at hSw); go_simp; (first | done | with_reducible rfl))
        (try simp only [Act.put, List.setIfInBounds_toArray, List.set_cons_zero, List.set_cons_succ])
        refine qu_run (v := ?_) (by kernel_rfl) ?hyg24 ?nxg24
        case hyg24 => (intro w9 hSw; (try dsimp only at hSw); go_simp; (first | done | with_reducible rfl))
        (try simp only [Act.put, List.setIfInBounds_toArray, List.set_cons_zero, List.set_cons_succ])
        refine qu_run (v := ?_) (by kernel_rfl) ?hyg25 ?nxg25
        case hyg25 => (intro w9 hSw; (try dsimp only at hSw); go_simp; (first | done | with_reducible rfl))
        (try simp only [Act.put, List.setIfInBounds_toArray, List.set_cons_zero, List.set_cons_succ])
        refine qu_run (v := ?_) (by kernel_rfl) ?hyg26 ?nxg26
        case hyg26 => (intro w9 hSw; (try dsimp only at hSw); go_simp; (first | done | with_reducible rfl))
        (try simp only [Act.put, List.setIfInBounds_toArray, List.set_cons_zero, List.set_cons_succ])
        refine qu_run (v := ?_) (by kernel_rfl) ?hyg27 ?nxg27
        case hyg27 => (intro w9 hSw; (try dsimp only at hSw); go_simp; (first | done | with_reducible rfl))
        (try simp only [Act.put, List.setIfInBounds_toArray, List.set_cons_zero, List.set_cons_succ])
        refine qu_run (v := ?_) (by kernel_rfl) ?hyg28 ?nxg28
        case hyg28 => (intro w9 hSw; (try dsimp only at hSw); go_simp; (first | done | with_reducible rfl))
        (try simp only [Act.put, List.setIfInBounds_toArray, List.set_cons_zero, List.set_cons_succ])
        refine qu_run (v := .agg #[.int .i64 p.s.f0, .int .i64 p.s.f1, .bool p.s.f2]) (by kernel_rfl) (fun w9 hc => pick_load rfl rfl (pick_loadAt w9 ⟨g, 12, none⟩ 29 [.int .i64 p.s.f0, .int .i64 p.s.f1, .bool p.s.f2] _ (state_cells (hd_later HE9.out hc.1)) hu29 rfl hi29)) ?_
        (try simp only [Act.put, List.setIfInBounds_toArray, List.set_cons_zero, List.set_cons_succ])
        refine qu_run (v := .agg #[.int .i64 p.s.f0, .int .i64 p.s.f1, .bool p.s.f2]) (by kernel_rfl) (fun w9 hc => pick_loadRow rfl (p.w.heap.size + 1 + 1) rfl 29 _ (0, 0) _ (hd_later HT9.out.b8 hc.1) hu29 rfl hi29) ?_
        (try simp only [Act.put, List.setIfInBounds_toArray, List.set_cons_zero, List.set_cons_succ])
        refine qu_run (v := .bool false) (by kernel_rfl) (fun w9 hc => by (go_simp)) ?_
        (try simp only [Act.put, List.setIfInBounds_toArray, List.set_cons_zero, List.set_cons_succ])
        refine qu_run (v := ?_) (by kernel_rfl) ?hyg32 ?nxg32
        case hyg32 => (intro w9 hSw; (try dsimp only at hSw); go_simp; (first | done | with_reducible rfl))
        (try simp only [Act.put, List.setIfInBounds_toArray, List.set_cons_zero, List.set_cons_succ])
        refine qu_run (v := ?_) (by kernel_rfl) ?hyg33 ?nxg33
        case hyg33 => (intro w9 hSw; (try dsimp only at hSw); go_simp; (first | done | with_reducible rfl))
        (try simp only [Act.put, List.setIfInBounds_toArray, List.set_cons_zero, List.set_cons_succ])
        refine qu_run (v := .agg p.C0) (by kernel_rfl) (fun w9 hc => pick_loadRow rfl p.w.heap.size rfl 23 _ (0, 0) _ (hd_later HT9.out.b5 hc.1) hu23 rfl hi23) ?_
        (try simp only [Act.put, List.setIfInBounds_toArray, List.set_cons_zero, List.set_cons_succ])
        refine qu_run (v := .agg (xcells p (leftP p.x0.f10 (k + 1)) (cntB p.l (k + 1)) B2n B7n d2n d7n).toArray) (by kernel_rfl) (fun w9 hc => pick_loadRow rfl g rfl 51 _ (0, 0) _ (hd_later HE9.out hc.1) hu51 rfl hi51) ?_
        (try simp only [Act.put, List.setIfInBounds_toArray, List.set_cons_zero, List.set_cons_succ])
        refine qu_call (v := .bool br) (by kernel_rfl) (fun _ => by kernel_rfl) (fun w9 hc => (tk_breached (left := leftP p.x0.f10 (k + 1)) (HX9.out.later hc.1) br HBR.out).mono (fun e w8 h => ⟨h.1, MK13.out _ (below_step hc.1 h.2)⟩)) ?_
        (try simp only [Act.put, List.setIfInBounds_toArray, List.set_cons_zero, List.set_cons_succ])
        refine qu_run (v := ?_) (by kernel_rfl) ?hyg37 ?nxg37
        case hyg37 => (intro w9 hSw; (try dsimp only at hSw); go_simp; (first | done | with_reducible rfl))
        (try simp only [Act.put, List.setIfInBounds_toArray, List.set_cons_zero, List.set_cons_succ])
        refine qu_run (v := ?_) (by kernel_rfl) ?hyg38 ?nxg38
        case hyg38 => (intro w9 hSw; (try dsimp only at hSw); go_simp; (first | done | with_reducible rfl))
        (try simp only [Act.put, List.setIfInBounds_toArray, List.set_cons_zero, List.set_cons_succ])
        refine qu_run (v := ?_) (by kernel_rfl) ?hyg39 ?nxg39
        case hyg39 => (intro w9 hSw; (try dsimp only at hSw); go_simp; (first | done | with_reducible rfl))
        (try simp only [Act.put, List.setIfInBounds_toArray, List.set_cons_zero, List.set_cons_succ])
        refine qu_run (v := ?_) (by kernel_rfl) ?hyg40 ?nxg40
        case hyg40 => (intro w9 hSw; (try dsimp only at hSw); go_simp; (first | done | with_reducible rfl))
        (try simp only [Act.put, List.setIfInBounds_toArray, List.set_cons_zero, List.set_cons_succ])
        refine qu_run (v := .agg p.C0) (by kernel_rfl) (fun w9 hc => pick_loadRow rfl p.w.heap.size rfl 23 _ (0, 0) _ (hd_later HT9.out.b5 hc.1) hu23 rfl hi23) ?_
        (try simp only [Act.put, List.setIfInBounds_toArray, List.set_cons_zero, List.set_cons_succ])
        refine qu_run (v := .agg (xcells p (leftP p.x0.f10 (k + 1)) (cntB p.l (k + 1)) B2n B7n d2n d7n).toArray) (by kernel_rfl) (fun w9 hc => pick_loadRow rfl g rfl 51 _ (0, 0) _ (hd_later HE9.out hc.1) hu51 rfl hi51) ?_
        (try simp only [Act.put, List.setIfInBounds_toArray, List.set_cons_zero, List.set_cons_succ])
        refine qu_call (v := .bool (!br)) (by kernel_rfl) (fun _ => by kernel_rfl) (fun w9 hc => (tk_over (HX9.out.later hc.1) (!br) HOV.out).mono (fun e w8 h => ⟨h.1, MK13.out _ (below_step hc.1 h.2)⟩)) ?_
        (try simp only [Act.put, List.setIfInBounds_toArray, List.set_cons_zero, List.set_cons_succ])
        refine qu_run (v := ?_) (by kernel_rfl) ?hyg44 ?nxg44
        case hyg44 => (intro w9 hSw; (try dsimp only at hSw); go_simp; (first | done | with_reducible rfl))
        (try simp only [Act.put, List.setIfInBounds_toArray, List.set_cons_zero, List.set_cons_succ])
        refine qu_run (v := ?_) (by kernel_rfl) ?hyg45 ?nxg45
        case hyg45 => (intro w9 hSw; (try dsimp only at hSw); go_simp; (first | done | with_reducible rfl))
        (try simp only [Act.put, List.setIfInBounds_toArray, List.set_cons_zero, List.set_cons_succ])
        refine qu_run (v := ?_) (by kernel_rfl) ?hyg46 ?nxg46
        case hyg46 => (intro w9 hSw; (try dsimp only at hSw); go_simp; (first | done | with_reducible rfl))
        (try simp only [Act.put, List.setIfInBounds_toArray, List.set_cons_zero, List.set_cons_succ])
        refine qu_run (v := ?_) (by kernel_rfl) ?hyg47 ?nxg47
        case hyg47 => (intro w9 hSw; (try dsimp only at hSw); go_simp; (first | done | with_reducible rfl))
        (try simp only [Act.put, List.setIfInBounds_toArray, List.set_cons_zero, List.set_cons_succ])
        refine qu_run (v := ?_) (by kernel_rfl) ?hyg48 ?nxg48
        case hyg48 => (intro w9 hSw; (try dsimp only at hSw); go_simp; (first | done | with_reducible rfl))
        (try simp only [Act.put, List.setIfInBounds_toArray, List.set_cons_zero, List.set_cons_succ])
        refine qu_run (v := ?_) (by kernel_rfl) ?hyg49 ?nxg49
        case hyg49 => (intro w9 hSw; (try dsimp only at hSw); go_simp; (first | done | with_reducible rfl))
        (try simp only [Act.put, List.setIfInBounds_toArray, List.set_cons_zero, List.set_cons_succ])
        refine qu_run (v := ?_) (by kernel_rfl) ?hyg50 ?nxg50
        case hyg50 => (intro w9 hSw; (try dsimp only at hSw); go_simp; (first | done | with_reducible rfl))
        (try simp only [Act.put, List.setIfInBounds_toArray, List.set_cons_zero, List.set_cons_succ])
        refine qu_run (v := ?_) (by kernel_rfl) ?hyg51 ?nxg51
        case hyg51 => (intro w9 hSw; (try dsimp only at hSw); go_simp; (first | done | with_reducible rfl))
        (try simp only [Act.put, List.setIfInBounds_toArray, List.set_cons_zero, List.set_cons_succ])
        refine qu_run (v := ?_) (by kernel_rfl) ?hyg52 ?nxg52
        case hyg52 => (intro w9 hSw; (try dsimp only at hSw); go_simp; (first | done | with_reducible rfl))
        (try simp only [Act.put, List.setIfInBounds_toArray, List.set_cons_zero, List.set_cons_succ])
        refine qu_run (v := ?_) (by kernel_rfl) ?hyg53 ?nxg53
        case hyg53 => (intro w9 hSw; (try dsimp only at hSw); go_simp; (first | done | with_reducible rfl))
        (try simp only [Act.put, List.setIfInBounds_toArray, List.set_cons_zero, List.set_cons_succ])
        refine qu_run (v := ?_) (by kernel_rfl) ?hyg54 ?nxg54
        case hyg54 => (intro w9 hSw; (try dsimp only at hSw); go_simp; (first | done | with_reducible rfl))
        (try simp only [Act.put, List.setIfInBounds_toArray, List.set_cons_zero, List.set_cons_succ])
        refine wpQuiet_nil ?_
        intro w10 hC10
        go_wp2_with fail
        go_roundw
        case rel => exact ⟨k + 1, B2n, B7n, d2n, d7n, by omega, rfl, by simp, ⟨HB9.out.trans (hC10.1.mono (by have := HB9.out.size; have := HGG.out; omega))⟩, ⟨HX9.out.later hC10.1⟩, ⟨hd_later HE9.out hC10.1⟩⟩
        case measure => simp [intOf]; omega
      · have hge : ¬ p.x0.f10 ≤ (k : Int) + 1 := hge
        have bge : decide (p.x0.f10 ≤ (k : Int) + 1) = false := decide_eq_false hge
        have HOV := Aside0.mk (ticks_over_lt (b := decide (cntB p.l (k + 1) > p.x0.f11)) hge)
        clear hge
        refine wp_region_quiet (C := (fun w' => Below wc.heap.size wc w' ∧ w'.cell? ⟨p.w.heap.size, 11, none⟩ = some (.int .i64 p.x0.f11) ∧ w'.cell? ⟨p.w.heap.size, 10, none⟩ = some (.int .i64 p.x0.f10) ∧ w'.cell? ⟨g, 0, none⟩ = some (.bool true) ∧ w'.cell? ⟨g, 1, none⟩ = some (.int .i64 (leftP p.x0.f10 (k + 1))) ∧ w'.cell? ⟨g, 2, none⟩ = some (.int .i64 (cntB p.l (k + 1))) ∧ w'.cell? ⟨g, 3, none⟩ = some (.int .i64 p.id))) hm (by kernel_rfl) (MK13.out _ (below_drew1 (Below.refl _ _))) ?_
        refine qu_run (v := ?_) (by kernel_rfl) ?hyl0 ?nxl0
        case hyl0 => (intro w9 hSw; (try dsimp only at hSw); go_simp; (first | done | with_reducible rfl))
        (try simp only [Act.put, List.setIfInBounds_toArray, List.set_cons_zero, List.set_cons_succ])
        refine qu_run (v := ?_) (by kernel_rfl) ?hyl1 ?nxl1
        case hyl1 => (intro w9 hSw; (try dsimp only at hSw); go_simp; (first | done | with_reducible rfl))
        (try simp only [Act.put, List.setIfInBounds_toArray, List.set_cons_zero, List.set_cons_succ])
        refine qu_run (v := ?_) (by kernel_rfl) ?hyl2 ?nxl2
        case hyl2 => (intro w9 hSw; (try dsimp only at hSw); go_simp; (first | done | with_reducible rfl))
        (try simp only [Act.put, List.setIfInBounds_toArray, List.set_cons_zero, List.set_cons_succ])
        refine qu_run (v := ?_) (by kernel_rfl) ?hyl3 ?nxl3
        case hyl3 => (intro w9 hSw; (try dsimp only at hSw); go_simp; (first | done | with_reducible rfl))
        (try simp only [Act.put, List.setIfInBounds_toArray, List.set_cons_zero, List.set_cons_succ])
        refine qu_run (v := ?_) (by kernel_rfl) ?hyl4 ?nxl4
        case hyl4 => (intro w9 hSw; (try dsimp only at hSw); go_simp; (first | done | with_reducible rfl))
        (try simp only [Act.put, List.setIfInBounds_toArray, List.set_cons_zero, List.set_cons_succ])
        refine qu_run (v := ?_) (by kernel_rfl) ?hyl5 ?nxl5
        case hyl5 => (intro w9 hSw; (try dsimp only at hSw); go_simp; (first | done | with_reducible rfl))
        (try simp only [Act.put, List.setIfInBounds_toArray, List.set_cons_zero, List.set_cons_succ])
        refine qu_run (v := ?_) (by kernel_rfl) ?hyl6 ?nxl6
        case hyl6 => (intro w9 hSw; (try dsimp only at hSw); go_simp; (first | done | with_reducible rfl))
        (try simp only [Act.put, List.setIfInBounds_toArray, List.set_cons_zero, List.set_cons_succ])
        refine qu_run (v := ?_) (by kernel_rfl) ?hyl7 ?nxl7
        case hyl7 => (intro w9 hSw; (try dsimp only at hSw); go_simp; (first | done | with_reducible rfl))
        (try simp only [Act.put, List.setIfInBounds_toArray, List.set_cons_zero, List.set_cons_succ])
        refine qu_run (v := ?_) (by kernel_rfl) ?hyl8 ?nxl8
        case hyl8 => (intro w9 hSw; (try dsimp only at hSw); go_simp; (first | done | with_reducible rfl))
        (try simp only [Act.put, List.setIfInBounds_toArray, List.set_cons_zero, List.set_cons_succ])
        refine qu_run (v := ?_) (by kernel_rfl) ?hyl9 ?nxl9
        case hyl9 => (intro w9 hSw; (try dsimp only at hSw); go_simp; (first | done | with_reducible rfl))
        (try simp only [Act.put, List.setIfInBounds_toArray, List.set_cons_zero, List.set_cons_succ])
        refine qu_run (v := ?_) (by kernel_rfl) ?hyl10 ?nxl10
        case hyl10 => (intro w9 hSw; (try dsimp only at hSw); go_simp; (first | done | with_reducible rfl))
        (try simp only [Act.put, List.setIfInBounds_toArray, List.set_cons_zero, List.set_cons_succ])
        refine qu_run (v := ?_) (by kernel_rfl) ?hyl11 ?nxl11
        case hyl11 => (intro w9 hSw; (try dsimp only at hSw); go_simp; (first | done | with_reducible rfl))
        (try simp only [Act.put, List.setIfInBounds_toArray, List.set_cons_zero, List.set_cons_succ])
        refine qu_run (v := ?_) (by kernel_rfl) ?hyl12 ?nxl12
        case hyl12 => (intro w9 hSw; (try dsimp only at hSw); go_simp; (first | done | with_reducible rfl))
        (try simp only [Act.put, List.setIfInBounds_toArray, List.set_cons_zero, List.set_cons_succ])
        refine qu_run (v := ?_) (by kernel_rfl) ?hyl13 ?nxl13
        case hyl13 => (intro w9 hSw; (try dsimp only at hSw); go_simp; (first | done | with_reducible rfl))
        (try simp only [Act.put, List.setIfInBounds_toArray, List.set_cons_zero, List.set_cons_succ])
        refine qu_run (v := ?_) (by kernel_rfl) ?hyl14 ?nxl14
        case hyl14 => (intro w9 hSw; (try dsimp only at hSw); go_simp; (first | done | with_reducible rfl))
        (try simp only [Act.put, List.setIfInBounds_toArray, List.set_cons_zero, List.set_cons_succ])
        refine qu_run (v := ?_) (by kernel_rfl) ?hyl15 ?nxl15
        case hyl15 => (intro w9 hSw; (try dsimp only at hSw); go_simp; (first | done | with_reducible rfl))
        (try simp only [Act.put, List.setIfInBounds_toArray, List.set_cons_zero, List.set_cons_succ])
        refine qu_run (v := ?_) (by kernel_rfl) ?hyl16 ?nxl16
        case hyl16 => (intro w9 hSw; (try dsimp only at hSw); go_simp; (first | done | with_reducible rfl))
        (try simp only [Act.put, List.setIfInBounds_toArray, List.set_cons_zero, List.set_cons_succ])
        refine qu_run (v := .int .i64 (leftP p.x0.f10 (k + 1))) (by kernel_rfl) (fun w9 hc => by (go_simp; exact HMX.out)) ?_
        (try simp only [Act.put, List.setIfInBounds_toArray, List.set_cons_zero, List.set_cons_succ])
        refine qu_run (v := ?_) (by kernel_rfl) ?hyl18 ?nxl18
        case hyl18 => (intro w9 hSw; (try dsimp only at hSw); go_simp; (first | done | with_reducible rfl))
        (try simp only [Act.put, List.setIfInBounds_toArray, List.set_cons_zero, List.set_cons_succ])
        refine qu_run (v := ?_) (by kernel_rfl) ?hyl19 ?nxl19
        case hyl19 => (intro w9 hSw; (try dsimp only at hSw); go_simp; (first | done | with_reducible rfl))
        (try simp only [Act.put, List.setIfInBounds_toArray, List.set_cons_zero, List.set_cons_succ])
        refine qu_run (v := ?_) (by kernel_rfl) ?hyl20 ?nxl20
        case hyl20 => (intro w9 hSw; (try dsimp only at hSw); go_simp; (first | done | with_reducible rfl))
        (try simp only [Act.put, List.setIfInBounds_toArray, List.set_cons_zero, List.set_cons_succ])
        refine qu_run (v := ?_) (by kernel_rfl) ?hyl21 ?nxl21
        case hyl21 => (intro w9 hSw; (try dsimp only at hSw); go_simp; (first | done | with_reducible rfl))
        (try simp only [Act.put, List.setIfInBounds_toArray, List.set_cons_zero, List.set_cons_succ])
        refine qu_run (v := ?_) (by kernel_rfl) ?hyl22 ?nxl22
        case hyl22 => (intro w9 hSw; (try dsimp only at hSw); go_simp; (first | done | with_reducible rfl))
        (try simp only [Act.put, List.setIfInBounds_toArray, List.set_cons_zero, List.set_cons_succ])
        refine qu_run (v := ?_) (by kernel_rfl) ?hyl23 ?nxl23
        case hyl23 => (intro w9 hSw; (try dsimp only at hSw); go_simp; (first | done | with_reducible rfl))
        (try simp only [Act.put, List.setIfInBounds_toArray, List.set_cons_zero, List.set_cons_succ])
        refine qu_run (v := ?_) (by kernel_rfl) ?hyl24 ?nxl24
        case hyl24 => (intro w9 hSw; (try dsimp only at hSw); go_simp; (first | done | with_reducible rfl))
        (try simp only [Act.put, List.setIfInBounds_toArray, List.set_cons_zero, List.set_cons_succ])
        refine qu_run (v := ?_) (by kernel_rfl) ?hyl25 ?nxl25
        case hyl25 => (intro w9 hSw; (try dsimp only at hSw); go_simp; (first | done | with_reducible rfl))
        (try simp only [Act.put, List.setIfInBounds_toArray, List.set_cons_zero, List.set_cons_succ])
        refine qu_run (v := ?_) (by kernel_rfl) ?hyl26 ?nxl26
        case hyl26 => (intro w9 hSw; (try dsimp only at hSw); go_simp; (first | done | with_reducible rfl))
        (try simp only [Act.put, List.setIfInBounds_toArray, List.set_cons_zero, List.set_cons_succ])
        refine qu_run (v := ?_) (by kernel_rfl) ?hyl27 ?nxl27
        case hyl27 => (intro w9 hSw; (try dsimp only at hSw); go_simp; (first | done | with_reducible rfl))
        (try simp only [Act.put, List.setIfInBounds_toArray, List.set_cons_zero, List.set_cons_succ])
        refine qu_run (v := ?_) (by kernel_rfl) ?hyl28 ?nxl28
        case hyl28 => (intro w9 hSw; (try dsimp only at hSw); go_simp; (first | done | with_reducible rfl))
        (try simp only [Act.put, List.setIfInBounds_toArray, List.set_cons_zero, List.set_cons_succ])
        refine qu_run (v := .agg #[.int .i64 p.s.f0, .int .i64 p.s.f1, .bool p.s.f2]) (by kernel_rfl) (fun w9 hc => pick_load rfl rfl (pick_loadAt w9 ⟨g, 12, none⟩ 29 [.int .i64 p.s.f0, .int .i64 p.s.f1, .bool p.s.f2] _ (state_cells (hd_later HE9.out hc.1)) hu29 rfl hi29)) ?_
        (try simp only [Act.put, List.setIfInBounds_toArray, List.set_cons_zero, List.set_cons_succ])
        refine qu_run (v := .agg #[.int .i64 p.s.f0, .int .i64 p.s.f1, .bool p.s.f2]) (by kernel_rfl) (fun w9 hc => pick_loadRow rfl (p.w.heap.size + 1 + 1) rfl 29 _ (0, 0) _ (hd_later HT9.out.b8 hc.1) hu29 rfl hi29) ?_
        (try simp only [Act.put, List.setIfInBounds_toArray, List.set_cons_zero, List.set_cons_succ])
        refine qu_run (v := .bool false) (by kernel_rfl) (fun w9 hc => by (go_simp)) ?_
        (try simp only [Act.put, List.setIfInBounds_toArray, List.set_cons_zero, List.set_cons_succ])
        refine qu_run (v := ?_) (by kernel_rfl) ?hyl32 ?nxl32
        case hyl32 => (intro w9 hSw; (try dsimp only at hSw); go_simp; (first | done | with_reducible rfl))
        (try simp only [Act.put, List.setIfInBounds_toArray, List.set_cons_zero, List.set_cons_succ])
        refine qu_run (v := ?_) (by kernel_rfl) ?hyl33 ?nxl33
        case hyl33 => (intro w9 hSw; (try dsimp only at hSw); go_simp; (first | done | with_reducible rfl))
        (try simp only [Act.put, List.setIfInBounds_toArray, List.set_cons_zero, List.set_cons_succ])
        refine qu_run (v := .agg p.C0) (by kernel_rfl) (fun w9 hc => pick_loadRow rfl p.w.heap.size rfl 23 _ (0, 0) _ (hd_later HT9.out.b5 hc.1) hu23 rfl hi23) ?_
        (try simp only [Act.put, List.setIfInBounds_toArray, List.set_cons_zero, List.set_cons_succ])
        refine qu_run (v := .agg (xcells p (leftP p.x0.f10 (k + 1)) (cntB p.l (k + 1)) B2n B7n d2n d7n).toArray) (by kernel_rfl) (fun w9 hc => pick_loadRow rfl g rfl 51 _ (0, 0) _ (hd_later HE9.out hc.1) hu51 rfl hi51) ?_
        (try simp only [Act.put, List.setIfInBounds_toArray, List.set_cons_zero, List.set_cons_succ])
        refine qu_call (v := .bool br) (by kernel_rfl) (fun _ => by kernel_rfl) (fun w9 hc => (tk_breached (left := leftP p.x0.f10 (k + 1)) (HX9.out.later hc.1) br HBR.out).mono (fun e w8 h => ⟨h.1, MK13.out _ (below_step hc.1 h.2)⟩)) ?_
        (try simp only [Act.put, List.setIfInBounds_toArray, List.set_cons_zero, List.set_cons_succ])
        refine qu_run (v := ?_) (by kernel_rfl) ?hyl37 ?nxl37
        case hyl37 => (intro w9 hSw; (try dsimp only at hSw); go_simp; (first | done | with_reducible rfl))
        (try simp only [Act.put, List.setIfInBounds_toArray, List.set_cons_zero, List.set_cons_succ])
        refine qu_run (v := ?_) (by kernel_rfl) ?hyl38 ?nxl38
        case hyl38 => (intro w9 hSw; (try dsimp only at hSw); go_simp; (first | done | with_reducible rfl))
        (try simp only [Act.put, List.setIfInBounds_toArray, List.set_cons_zero, List.set_cons_succ])
        refine qu_run (v := ?_) (by kernel_rfl) ?hyl39 ?nxl39
        case hyl39 => (intro w9 hSw; (try dsimp only at hSw); go_simp; (first | done | with_reducible rfl))
        (try simp only [Act.put, List.setIfInBounds_toArray, List.set_cons_zero, List.set_cons_succ])
        refine qu_run (v := ?_) (by kernel_rfl) ?hyl40 ?nxl40
        case hyl40 => (intro w9 hSw; (try dsimp only at hSw); go_simp; (first | done | with_reducible rfl))
        (try simp only [Act.put, List.setIfInBounds_toArray, List.set_cons_zero, List.set_cons_succ])
        refine qu_run (v := .agg p.C0) (by kernel_rfl) (fun w9 hc => pick_loadRow rfl p.w.heap.size rfl 23 _ (0, 0) _ (hd_later HT9.out.b5 hc.1) hu23 rfl hi23) ?_
        (try simp only [Act.put, List.setIfInBounds_toArray, List.set_cons_zero, List.set_cons_succ])
        refine qu_run (v := .agg (xcells p (leftP p.x0.f10 (k + 1)) (cntB p.l (k + 1)) B2n B7n d2n d7n).toArray) (by kernel_rfl) (fun w9 hc => pick_loadRow rfl g rfl 51 _ (0, 0) _ (hd_later HE9.out hc.1) hu51 rfl hi51) ?_
        (try simp only [Act.put, List.setIfInBounds_toArray, List.set_cons_zero, List.set_cons_succ])
        refine qu_call (v := .bool false) (by kernel_rfl) (fun _ => by kernel_rfl) (fun w9 hc => (tk_over (HX9.out.later hc.1) false HOV.out).mono (fun e w8 h => ⟨h.1, MK13.out _ (below_step hc.1 h.2)⟩)) ?_
        (try simp only [Act.put, List.setIfInBounds_toArray, List.set_cons_zero, List.set_cons_succ])
        refine qu_run (v := ?_) (by kernel_rfl) ?hyl44 ?nxl44
        case hyl44 => (intro w9 hSw; (try dsimp only at hSw); go_simp; (first | done | with_reducible rfl))
        (try simp only [Act.put, List.setIfInBounds_toArray, List.set_cons_zero, List.set_cons_succ])
        refine qu_run (v := ?_) (by kernel_rfl) ?hyl45 ?nxl45
        case hyl45 => (intro w9 hSw; (try dsimp only at hSw); go_simp; (first | done | with_reducible rfl))
        (try simp only [Act.put, List.setIfInBounds_toArray, List.set_cons_zero, List.set_cons_succ])
        refine qu_run (v := ?_) (by kernel_rfl) ?hyl46 ?nxl46
        case hyl46 => (intro w9 hSw; (try dsimp only at hSw); go_simp; (first | done | with_reducible rfl))
        (try simp only [Act.put, List.setIfInBounds_toArray, List.set_cons_zero, List.set_cons_succ])
        refine qu_run (v := ?_) (by kernel_rfl) ?hyl47 ?nxl47
        case hyl47 => (intro w9 hSw; (try dsimp only at hSw); go_simp; (first | done | with_reducible rfl))
        (try simp only [Act.put, List.setIfInBounds_toArray, List.set_cons_zero, List.set_cons_succ])
        refine qu_run (v := ?_) (by kernel_rfl) ?hyl48 ?nxl48
        case hyl48 => (intro w9 hSw; (try dsimp only at hSw); go_simp; (first | done | with_reducible rfl))
        (try simp only [Act.put, List.setIfInBounds_toArray, List.set_cons_zero, List.set_cons_succ])
        refine qu_run (v := ?_) (by kernel_rfl) ?hyl49 ?nxl49
        case hyl49 => (intro w9 hSw; (try dsimp only at hSw); go_simp; (first | done | with_reducible rfl))
        (try simp only [Act.put, List.setIfInBounds_toArray, List.set_cons_zero, List.set_cons_succ])
        refine qu_skip (by kernel_rfl) ?_
        refine qu_skip (by kernel_rfl) ?_
        refine qu_run (v := ?_) (by kernel_rfl) ?hyl52 ?nxl52
        case hyl52 => (intro w9 hSw; (try dsimp only at hSw); go_simp; (first | done | with_reducible rfl))
        (try simp only [Act.put, List.setIfInBounds_toArray, List.set_cons_zero, List.set_cons_succ])
        refine qu_run (v := ?_) (by kernel_rfl) ?hyl53 ?nxl53
        case hyl53 => (intro w9 hSw; (try dsimp only at hSw); go_simp; (first | done | with_reducible rfl))
        (try simp only [Act.put, List.setIfInBounds_toArray, List.set_cons_zero, List.set_cons_succ])
        refine qu_run (v := ?_) (by kernel_rfl) ?hyl54 ?nxl54
        case hyl54 => (intro w9 hSw; (try dsimp only at hSw); go_simp; (first | done | with_reducible rfl))
        (try simp only [Act.put, List.setIfInBounds_toArray, List.set_cons_zero, List.set_cons_succ])
        refine wpQuiet_nil ?_
        intro w10 hC10
        go_wp2_with fail
        go_roundw
        case rel => exact ⟨k + 1, B2n, B7n, d2n, d7n, by omega, rfl, by simp, ⟨HB9.out.trans (hC10.1.mono (by have := HB9.out.size; have := HGG.out; omega))⟩, ⟨HX9.out.later hC10.1⟩, ⟨hd_later HE9.out hC10.1⟩⟩
        case measure => simp [intOf]; omega
    · obtain rfl : k = p.l.length := by omega
      have HXe := HXR
      go_wp2_with (first
        | (with_reducible refine hd_gate 124 rfl ?_); refine hd_run rfl (v := .agg (pcells p B2 B7 d2 d7).toArray) (w1 := wr) (pick_load rfl rfl (pick_loadAt wr ⟨g, 4, none⟩ 27 (pcells p B2 B7 d2 d7) _ (pol_cells HE.out) hu27 rfl hi27)) ?_
        | (with_reducible refine hd_gate 125 rfl ?_); refine hd_run rfl (v := .agg p.C7) (w1 := wr) (pick_loadRow rfl (p.w.heap.size + 1) rfl 27 _ (0, 0) _ HT.out.b7 hu27 rfl hi27) ?_)
      refine (tk_same HXR.out HT.out h2 h7).mono ?_
      rintro e w11 ⟨rfl, h11⟩
      have H11 := Aside0.mk h11
      clear h11
      go_wp2_with fail
      go_ret
      exact ⟨rfl, H11.out.below⟩
def governorlaw19_PromoteTicks.f (a0_0 : Int) (a0_1 : Int) (a0_2 : Int) (a0_3 : Int) (a0_4 : Int) (a0_5 : Int) (a0_6 : Int) (a0_7 : Int) (a0_8 : Int) (a0_9 : Int) (a0_10 : Int) (a0_11 : Int) (a1 : Int) (a2_0 : Int) (a2_1 : Int) (l2_2 : List (S72)) (a2_3 : Int) (a2_4 : Int) (a2_5 : Int) (a2_6 : Int) (l2_7 : List (S74)) (a3_0 : Int) (a3_1 : Int) (a3_2 : Bool) (l4 : List Bool) : Option (Bool) := if 0 ≤ a1 ∧ a1 < 256 then some true else none
set_option maxRecDepth 100000 in
theorem governorlaw19_PromoteTicks.calls (a0_0 : Int) (a0_1 : Int) (a0_2 : Int) (a0_3 : Int) (a0_4 : Int) (a0_5 : Int) (a0_6 : Int) (a0_7 : Int) (a0_8 : Int) (a0_9 : Int) (a0_10 : Int) (a0_11 : Int) (a1 : Int) (a2_0 : Int) (a2_1 : Int) (A2_2 : Option Addr) (c2_2 : Nat) (l2_2 : List (S72)) (a2_3 : Int) (a2_4 : Int) (a2_5 : Int) (a2_6 : Int) (A2_7 : Option Addr) (c2_7 : Nat) (l2_7 : List (S74)) (a3_0 : Int) (a3_1 : Int) (a3_2 : Bool) (A4 : Option Addr) (c4 : Nat) (l4 : List Bool) (r : Bool) (w : World) (hr2_2 : Kd.C k72 w A2_2 l2_2.length l2_2) (hc2_2 : l2_2.length ≤ c2_2) (hr2_7 : Kd.C k74 w A2_7 l2_7.length l2_7) (hc2_7 : l2_7.length ≤ c2_7) (hr4 : Kd.C Kd.bool w A4 l4.length l4) (hc4 : l4.length ≤ c4) (h : governorlaw19_PromoteTicks.f a0_0 a0_1 a0_2 a0_3 a0_4 a0_5 a0_6 a0_7 a0_8 a0_9 a0_10 a0_11 a1 a2_0 a2_1 l2_2 a2_3 a2_4 a2_5 a2_6 l2_7 a3_0 a3_1 a3_2 l4 = some r) :
    Calls Try.prog 6 #[.agg #[.int .i64 a0_0, .int .i64 a0_1, .int .i64 a0_2, .int .i64 a0_3, .int .i64 a0_4, .int .i64 a0_5, .int .i64 a0_6, .int .i64 a0_7, .int .i64 a0_8, .int .i64 a0_9, .int .i64 a0_10, .int .i64 a0_11], .int .u8 a1, .agg #[.int .i64 a2_0, .int .i64 a2_1, .slice A2_2 l2_2.length c2_2, .int .i64 a2_3, .int .i64 a2_4, .int .i64 a2_5, .int .i64 a2_6, .slice A2_7 l2_7.length c2_7], .agg #[.int .i64 a3_0, .int .i64 a3_1, .bool a3_2], .slice A4 l4.length c4] w fun e w' => e = .returned (.bool r) ∧ Below w.heap.size w w' := by
  unfold governorlaw19_PromoteTicks.f at h
  split at h
  case isFalse => cases h
  rename_i hcond
  obtain rfl : true = r := Option.some.inj h
  exact ticks_walk ⟨⟨a0_0, a0_1, a0_2, a0_3, a0_4, a0_5, a0_6, a0_7, a0_8, a0_9, a0_10, a0_11⟩, a1, ⟨a2_0, a2_1, l2_2, a2_3, a2_4, a2_5, a2_6, l2_7⟩, ⟨a3_0, a3_1, a3_2⟩, A2_2, A2_7, c2_2, c2_7, A4, c4, l4, w⟩ A4 ⟨rfl⟩ ⟨TAt.begin ⟨⟨a0_0, a0_1, a0_2, a0_3, a0_4, a0_5, a0_6, a0_7, a0_8, a0_9, a0_10, a0_11⟩, a1, ⟨a2_0, a2_1, l2_2, a2_3, a2_4, a2_5, a2_6, l2_7⟩, ⟨a3_0, a3_1, a3_2⟩, A2_2, A2_7, c2_2, c2_7, A4, c4, l4, w⟩ hr2_2 hc2_2 hr2_7 hc2_7 hr4 hc4⟩ hcond


end Go.Proofs.Ytlenanfkphglaaa.Print
