/- Several texts of this claim, one behind the other. -/
import Derived.Test.YtldohapdhljoaaaBb
import Derived.Test.YtldohapdhljoaaaBd
import Derived.Lib.Hide
import Derived.Laws.ResultCell
namespace Go.Proofs.Ytldohapdhljoaaa.Print
open Go.RowKit Go.Proofs.YtldohapdhljoaaaW.PrintWords Go.Proofs.YtldohapdhljoaaaW.PrintLast
set_option linter.unusedVariables false
set_option maxRecDepth 100000
structure Pol where
  (k t : Int) (bs : List S46) (p i d per : Int) (ss : List S48)
def polC (x : Pol) (A2 A7 : Option Addr) (c2 c7 : Nat) : List Value := [.int .i64 x.k, .int .i64 x.t, .slice A2 x.bs.length c2, .int .i64 x.p, .int .i64 x.i, .int .i64 x.d, .int .i64 x.per, .slice A7 x.ss.length c7]
structure PolAt (x : Pol) (W : World) (A2 A7 : Option Addr) (c2 c7 : Nat) : Prop where
  r2 : Kd.C k46 W A2 x.bs.length x.bs
  m2 : x.bs.length ≤ c2
  r7 : Kd.C k48 W A7 x.ss.length x.ss
  m7 : x.ss.length ≤ c7
theorem PolAt.later {x : Pol} {W W' : World} {A2 A7 : Option Addr} {c2 c7 : Nat} (h : PolAt x W A2 A7 c2 c7) (hb : Below W.heap.size W W') : PolAt x W' A2 A7 c2 c7 := ⟨Kd.C_below h.r2 hb, h.m2, Kd.C_below h.r7 hb, h.m7⟩
def barePol (x : Pol) : Pol :=
  if x.k = 1 then { x with k := 0, t := 0 } else if x.k = 2 then { x with k := 0, bs := [] } else if x.k = 3 then { x with k := 0, t := 0, p := 0, i := 0, d := 0 } else if x.k = 4 then { x with k := 0, per := 0, ss := [] } else { x with k := 0 }
theorem nilC {α : Type} (d : Kd α) (W : World) (A : Option Addr) : d.C W A ([] : List α).length [] := ⟨rfl, by simp, fun h => absurd h (Nat.lt_irrefl 0)⟩
set_option maxHeartbeats 4000000 in
theorem bare1_calls (x : Pol) (W : World) (A2 A7 : Option Addr) (c2 c7 : Nat) (q1 : x.k = 1) :
    Calls Try.prog 37 #[.agg (polC x A2 A7 c2 c7).toArray] W fun e W' => e = .returned (.agg (polC { x with k := 0, t := 0 } A2 A7 c2 c7).toArray) ∧ Below W.heap.size W W' := by
  have hu25 := Try.underlying25
  have hi25 : (Try.prog.info? 25).map (·.size) = some 8 := by kernel_rfl
  unfold polC
  have b1 : (x.k == 1) = true := beq_iff_eq.2 q1
  clear q1
  go_enter Try.func37, Try.ntmps37
  go_wp2_with fail
  refine bodyPost_ret (results_cell_row rfl _ _ (W.heap.size + 1) 25 #[.int .i64 0, .int .i64 0, .slice A2 x.bs.length c2, .int .i64 x.p, .int .i64 x.i, .int .i64 x.d, .int .i64 x.per, .slice A7 x.ss.length c7] (0, 0) _ rfl (by have h := pick_new (W.alloc (.cells #[.int .i64 0, .int .i64 0, .slice A2 x.bs.length c2, .int .i64 x.p, .int .i64 x.i, .int .i64 x.d, .int .i64 x.per, .slice A7 x.ss.length c7] 25)) (.cells #[.int .i64 0, .int .i64 0, .slice A2 x.bs.length c2, .int .i64 x.p, .int .i64 x.i, .int .i64 x.d, .int .i64 x.per, .slice A7 x.ss.length c7] 25); simp only [World.size_alloc] at h; exact h) hu25 rfl hi25) rfl ?_
  exact ⟨rfl, below_alloc (below_alloc (Below.refl _ _) _) _⟩
set_option maxHeartbeats 4000000 in
theorem bare2_calls (x : Pol) (W : World) (A2 A7 : Option Addr) (c2 c7 : Nat) (q1 : x.k ≠ 1) (q2 : x.k = 2) :
    Calls Try.prog 37 #[.agg (polC x A2 A7 c2 c7).toArray] W fun e W' => e = .returned (.agg (polC { x with k := 0, bs := [] } none A7 0 c7).toArray) ∧ Below W.heap.size W W' := by
  have hu25 := Try.underlying25
  have hi25 : (Try.prog.info? 25).map (·.size) = some 8 := by kernel_rfl
  unfold polC
  have b1 : (x.k == 1) = false := beq_eq_false_iff_ne.2 q1
  have b2 : (x.k == 2) = true := beq_iff_eq.2 q2
  clear q1 q2
  go_enter Try.func37, Try.ntmps37
  go_wp2_with fail
  refine bodyPost_ret (results_cell_row rfl _ _ (W.heap.size + 1) 25 #[.int .i64 0, .int .i64 x.t, .slice none 0 0, .int .i64 x.p, .int .i64 x.i, .int .i64 x.d, .int .i64 x.per, .slice A7 x.ss.length c7] (0, 0) _ rfl (by have h := pick_new (W.alloc (.cells #[.int .i64 0, .int .i64 x.t, .slice none 0 0, .int .i64 x.p, .int .i64 x.i, .int .i64 x.d, .int .i64 x.per, .slice A7 x.ss.length c7] 25)) (.cells #[.int .i64 0, .int .i64 x.t, .slice none 0 0, .int .i64 x.p, .int .i64 x.i, .int .i64 x.d, .int .i64 x.per, .slice A7 x.ss.length c7] 25); simp only [World.size_alloc] at h; exact h) hu25 rfl hi25) rfl ?_
  exact ⟨rfl, below_alloc (below_alloc (Below.refl _ _) _) _⟩
set_option maxHeartbeats 4000000 in
theorem bare3_calls (x : Pol) (W : World) (A2 A7 : Option Addr) (c2 c7 : Nat) (q1 : x.k ≠ 1) (q2 : x.k ≠ 2) (q3 : x.k = 3) :
    Calls Try.prog 37 #[.agg (polC x A2 A7 c2 c7).toArray] W fun e W' => e = .returned (.agg (polC { x with k := 0, t := 0, p := 0, i := 0, d := 0 } A2 A7 c2 c7).toArray) ∧ Below W.heap.size W W' := by
  have hu25 := Try.underlying25
  have hi25 : (Try.prog.info? 25).map (·.size) = some 8 := by kernel_rfl
  unfold polC
  have b1 : (x.k == 1) = false := beq_eq_false_iff_ne.2 q1
  have b2 : (x.k == 2) = false := beq_eq_false_iff_ne.2 q2
  have b3 : (x.k == 3) = true := beq_iff_eq.2 q3
  clear q1 q2 q3
  go_enter Try.func37, Try.ntmps37
  go_wp2_with fail
  refine bodyPost_ret (results_cell_row rfl _ _ (W.heap.size + 1) 25 #[.int .i64 0, .int .i64 0, .slice A2 x.bs.length c2, .int .i64 0, .int .i64 0, .int .i64 0, .int .i64 x.per, .slice A7 x.ss.length c7] (0, 0) _ rfl (by have h := pick_new (W.alloc (.cells #[.int .i64 0, .int .i64 0, .slice A2 x.bs.length c2, .int .i64 0, .int .i64 0, .int .i64 0, .int .i64 x.per, .slice A7 x.ss.length c7] 25)) (.cells #[.int .i64 0, .int .i64 0, .slice A2 x.bs.length c2, .int .i64 0, .int .i64 0, .int .i64 0, .int .i64 x.per, .slice A7 x.ss.length c7] 25); simp only [World.size_alloc] at h; exact h) hu25 rfl hi25) rfl ?_
  exact ⟨rfl, below_alloc (below_alloc (Below.refl _ _) _) _⟩
set_option maxHeartbeats 4000000 in
theorem bare4_calls (x : Pol) (W : World) (A2 A7 : Option Addr) (c2 c7 : Nat) (q1 : x.k ≠ 1) (q2 : x.k ≠ 2) (q3 : x.k ≠ 3) (q4 : x.k = 4) :
    Calls Try.prog 37 #[.agg (polC x A2 A7 c2 c7).toArray] W fun e W' => e = .returned (.agg (polC { x with k := 0, per := 0, ss := [] } A2 none c2 0).toArray) ∧ Below W.heap.size W W' := by
  have hu25 := Try.underlying25
  have hi25 : (Try.prog.info? 25).map (·.size) = some 8 := by kernel_rfl
  unfold polC
  have b1 : (x.k == 1) = false := beq_eq_false_iff_ne.2 q1
  have b2 : (x.k == 2) = false := beq_eq_false_iff_ne.2 q2
  have b3 : (x.k == 3) = false := beq_eq_false_iff_ne.2 q3
  have b4 : (x.k == 4) = true := beq_iff_eq.2 q4
  clear q1 q2 q3 q4
  go_enter Try.func37, Try.ntmps37
  go_wp2_with fail
  refine bodyPost_ret (results_cell_row rfl _ _ (W.heap.size + 1) 25 #[.int .i64 0, .int .i64 x.t, .slice A2 x.bs.length c2, .int .i64 x.p, .int .i64 x.i, .int .i64 x.d, .int .i64 0, .slice none 0 0] (0, 0) _ rfl (by have h := pick_new (W.alloc (.cells #[.int .i64 0, .int .i64 x.t, .slice A2 x.bs.length c2, .int .i64 x.p, .int .i64 x.i, .int .i64 x.d, .int .i64 0, .slice none 0 0] 25)) (.cells #[.int .i64 0, .int .i64 x.t, .slice A2 x.bs.length c2, .int .i64 x.p, .int .i64 x.i, .int .i64 x.d, .int .i64 0, .slice none 0 0] 25); simp only [World.size_alloc] at h; exact h) hu25 rfl hi25) rfl ?_
  exact ⟨rfl, below_alloc (below_alloc (Below.refl _ _) _) _⟩
set_option maxHeartbeats 4000000 in
theorem bare0_calls (x : Pol) (W : World) (A2 A7 : Option Addr) (c2 c7 : Nat) (q1 : x.k ≠ 1) (q2 : x.k ≠ 2) (q3 : x.k ≠ 3) (q4 : x.k ≠ 4) :
    Calls Try.prog 37 #[.agg (polC x A2 A7 c2 c7).toArray] W fun e W' => e = .returned (.agg (polC { x with k := 0 } A2 A7 c2 c7).toArray) ∧ Below W.heap.size W W' := by
  have hu25 := Try.underlying25
  have hi25 : (Try.prog.info? 25).map (·.size) = some 8 := by kernel_rfl
  unfold polC
  have b1 : (x.k == 1) = false := beq_eq_false_iff_ne.2 q1
  have b2 : (x.k == 2) = false := beq_eq_false_iff_ne.2 q2
  have b3 : (x.k == 3) = false := beq_eq_false_iff_ne.2 q3
  have b4 : (x.k == 4) = false := beq_eq_false_iff_ne.2 q4
  clear q1 q2 q3 q4
  go_enter Try.func37, Try.ntmps37
  go_wp2_with fail
  refine bodyPost_ret (results_cell_row rfl _ _ (W.heap.size + 1) 25 #[.int .i64 0, .int .i64 x.t, .slice A2 x.bs.length c2, .int .i64 x.p, .int .i64 x.i, .int .i64 x.d, .int .i64 x.per, .slice A7 x.ss.length c7] (0, 0) _ rfl (by have h := pick_new (W.alloc (.cells #[.int .i64 0, .int .i64 x.t, .slice A2 x.bs.length c2, .int .i64 x.p, .int .i64 x.i, .int .i64 x.d, .int .i64 x.per, .slice A7 x.ss.length c7] 25)) (.cells #[.int .i64 0, .int .i64 x.t, .slice A2 x.bs.length c2, .int .i64 x.p, .int .i64 x.i, .int .i64 x.d, .int .i64 x.per, .slice A7 x.ss.length c7] 25); simp only [World.size_alloc] at h; exact h) hu25 rfl hi25) rfl ?_
  exact ⟨rfl, below_alloc (below_alloc (Below.refl _ _) _) _⟩
def inR (n a b : Int) : Bool := decide (a ≤ n ∧ n ≤ b)
theorem within64_f (n a b : Int) : event_within_int64.f n a b = some (inR n a b) := by
  unfold event_within_int64.f inR
  by_cases h : a ≤ n
  · rw [if_pos h]; simp [h]
  · rw [if_neg h]; simp [h]
theorem withinI_f (n a b : Int) : event_within_int.f n a b = some (inR n a b) := by
  unfold event_within_int.f inR
  by_cases h : a ≤ n
  · rw [if_pos h]; simp [h]
  · rw [if_neg h]; simp [h]
theorem in64 (n a b : Int) (W : World) : Calls Try.prog 39 #[.int .i64 n, .int .i64 a, .int .i64 b] W fun e W' => e = .returned (.bool (inR n a b)) ∧ Below W.heap.size W W' := (event_within_int64.calls n a b _ W (within64_f n a b)).mono fun _ _ q => ⟨q.1, q.2.below⟩
theorem inI (n a b : Int) (W : World) : Calls Try.prog 40 #[.int .i64 n, .int .i64 a, .int .i64 b] W fun e W' => e = .returned (.bool (inR n a b)) ∧ Below W.heap.size W W' := (event_within_int.calls n a b _ W (withinI_f n a b)).mono fun _ _ q => ⟨q.1, q.2.below⟩
def risingF (f : Nat → Int) (most : Int) : Nat → Nat → Int → Bool
  | 0, _, _ => true
  | n + 1, k, least => inR (f k) least most && risingF f most n (k + 1) (wrap64 (f k + 1))
theorem wrapEqE (x : Int) : IntKind.i64.wrap x = wrap64 x := by rw [IntKind.wrap_i64, wrap64]
set_option maxHeartbeats 4000000 in
theorem rising42_calls (g : Nat) (f : Nat → Int) (many : Nat) (least most : Int) (W : World) (hm : many ≤ 9223372036854775807)
    (hc : ∀ k W', k < many → Below W.heap.size W W' → Calls Try.prog 42 #[.int .i64 k, .pointer (some ⟨g, 0, none⟩)] W' fun e W'' => e = .returned (.int .i64 (f k)) ∧ Below W'.heap.size W' W'') :
    Calls Try.prog 41 #[.int .i64 many, .int .i64 least, .int .i64 most, .func (.func 42) #[] #[.pointer (some ⟨g, 0, none⟩)]] W fun e W' => e = .returned (.bool (risingF f most many 0 least)) ∧ Below W.heap.size W W' := by
  have HCC := Aside0.mk hc
  clear hc
  go_enter Try.func41, Try.ntmps41
  go_wp2_with fail
  go_loopw [1, 11] (fun l i wr => ∃ (k : Nat) (le : Int), k ≤ many ∧ l = .int .i64 le ∧ i = .int .i64 k ∧ Aside0 (risingF f most (many - k) k le = risingF f most many 0 least) ∧ Aside0 (Below W.heap.size W wr)) (fun _ i _ => many - (intOf i).toNat)
  case atStart => exact ⟨0, least, Nat.zero_le _, rfl, rfl, ⟨by simp⟩, ⟨Below.refl _ _⟩⟩
  case round =>
    obtain ⟨k, le, hk, rfl, rfl, HR, HB⟩ := hrel
    by_cases hlt : k < many
    · have HK := Aside0.mk (show risingF f most (many - k) k le = (inR (f k) le most && risingF f most (many - (k + 1)) (k + 1) (wrap64 (f k + 1))) by
        rw [show many - k = (many - (k + 1)) + 1 by omega]; rfl)
      have HC1 := Aside0.mk (fun W' hb => HCC.out k W' hlt hb)
      generalize hf : f k = fk at *
      have HF := Aside0.mk hf
      clear hf
      go_wp2_with fail
      refine (HC1.out wr HB.out).mono ?_
      rintro e w1 ⟨rfl, hb1⟩
      have HB1 := Aside0.mk (below_step HB.out hb1)
      clear hb1
      go_wp2_with fail
      refine (in64 fk le most w1).mono ?_
      rintro e w2 ⟨rfl, hb2⟩
      have HB2 := Aside0.mk (below_step HB1.out hb2)
      clear hb2
      cases hin : inR fk le most
      · have HI := Aside0.mk hin
        clear hin
        go_wp2_with fail
        go_ret
        exact ⟨by rw [← HR.out, HK.out, HI.out]; rfl, HB2.out⟩
      · have HI := Aside0.mk hin
        clear hin
        go_wp2_with fail
        refine (HC1.out w2 HB2.out).mono ?_
        rintro e w3 ⟨rfl, hb3⟩
        have HB3 := Aside0.mk (below_step HB2.out hb3)
        clear hb3
        go_wp2_with fail
        go_roundw
        case rel => exact ⟨k + 1, wrap64 (fk + 1), by omega, by first | rfl | (rw [wrapEqE]), by first | rfl | (simp; done), ⟨by rw [← HR.out, HK.out, HI.out, Bool.true_and]⟩, HB3⟩
        case measure => simp [intOf]; omega
    · obtain rfl : k = many := by omega
      have HE := Aside0.mk (show risingF f most (k - k) k le = true by rw [Nat.sub_self]; rfl)
      go_wp2_with fail
      go_ret
      exact ⟨by rw [← HR.out, HE.out]; rfl, HB.out⟩
set_option maxHeartbeats 4000000 in
theorem rising43_calls (g : Nat) (f : Nat → Int) (many : Nat) (least most : Int) (W : World) (hm : many ≤ 9223372036854775807)
    (hc : ∀ k W', k < many → Below W.heap.size W W' → Calls Try.prog 43 #[.int .i64 k, .pointer (some ⟨g, 0, none⟩)] W' fun e W'' => e = .returned (.int .i64 (f k)) ∧ Below W'.heap.size W' W'') :
    Calls Try.prog 41 #[.int .i64 many, .int .i64 least, .int .i64 most, .func (.func 43) #[] #[.pointer (some ⟨g, 0, none⟩)]] W fun e W' => e = .returned (.bool (risingF f most many 0 least)) ∧ Below W.heap.size W W' := by
  have HCC := Aside0.mk hc
  clear hc
  go_enter Try.func41, Try.ntmps41
  go_wp2_with fail
  go_loopw [1, 11] (fun l i wr => ∃ (k : Nat) (le : Int), k ≤ many ∧ l = .int .i64 le ∧ i = .int .i64 k ∧ Aside0 (risingF f most (many - k) k le = risingF f most many 0 least) ∧ Aside0 (Below W.heap.size W wr)) (fun _ i _ => many - (intOf i).toNat)
  case atStart => exact ⟨0, least, Nat.zero_le _, rfl, rfl, ⟨by simp⟩, ⟨Below.refl _ _⟩⟩
  case round =>
    obtain ⟨k, le, hk, rfl, rfl, HR, HB⟩ := hrel
    by_cases hlt : k < many
    · have HK := Aside0.mk (show risingF f most (many - k) k le = (inR (f k) le most && risingF f most (many - (k + 1)) (k + 1) (wrap64 (f k + 1))) by
        rw [show many - k = (many - (k + 1)) + 1 by omega]; rfl)
      have HC1 := Aside0.mk (fun W' hb => HCC.out k W' hlt hb)
      generalize hf : f k = fk at *
      have HF := Aside0.mk hf
      clear hf
      go_wp2_with fail
      refine (HC1.out wr HB.out).mono ?_
      rintro e w1 ⟨rfl, hb1⟩
      have HB1 := Aside0.mk (below_step HB.out hb1)
      clear hb1
      go_wp2_with fail
      refine (in64 fk le most w1).mono ?_
      rintro e w2 ⟨rfl, hb2⟩
      have HB2 := Aside0.mk (below_step HB1.out hb2)
      clear hb2
      cases hin : inR fk le most
      · have HI := Aside0.mk hin
        clear hin
        go_wp2_with fail
        go_ret
        exact ⟨by rw [← HR.out, HK.out, HI.out]; rfl, HB2.out⟩
      · have HI := Aside0.mk hin
        clear hin
        go_wp2_with fail
        refine (HC1.out w2 HB2.out).mono ?_
        rintro e w3 ⟨rfl, hb3⟩
        have HB3 := Aside0.mk (below_step HB2.out hb3)
        clear hb3
        go_wp2_with fail
        go_roundw
        case rel => exact ⟨k + 1, wrap64 (fk + 1), by omega, by first | rfl | (rw [wrapEqE]), by first | rfl | (simp; done), ⟨by rw [← HR.out, HK.out, HI.out, Bool.true_and]⟩, HB3⟩
        case measure => simp [intOf]; omega
    · obtain rfl : k = many := by omega
      have HE := Aside0.mk (show risingF f most (k - k) k le = true by rw [Nat.sub_self]; rfl)
      go_wp2_with fail
      go_ret
      exact ⟨by rw [← HR.out, HE.out]; rfl, HB.out⟩
theorem pol2_calls (x : Pol) (g : Nat) (W : World) (A2 A7 : Option Addr) (c2 c7 : Nat) (fr : Nat × Nat) (hg : W.heap[g]? = some (.cells (polC x A2 A7 c2 c7).toArray 25 fr)) (hC : Kd.C k46 W A2 x.bs.length x.bs) (k : Nat) (hk : k < x.bs.length) :
    Calls Try.prog 42 #[.int .i64 k, .pointer (some ⟨g, 0, none⟩)] W fun e W' => e = .returned (.int .i64 (rd_T46 x.bs k).f0) ∧ Below W.heap.size W W' := by
  have hu25 := Try.underlying25
  have hu46 := Try.underlying46
  obtain ⟨ad, hA, h1, _⟩ := at_T46 hC (k : Int) (by omega) (by omega)
  rw [Int.toNat_natCast] at h1
  have hb : W.cell? ⟨g, 2, none⟩ = some (.slice A2 x.bs.length c2) := pick_cell hg 2 rfl
  subst hA
  have hl : (k : Int) < (x.bs.length : Int) := by omega
  have hmx := hC.2.1
  clear hC
  go_enter Try.func42, Try.ntmps42
  go_wp2_with fail
  go_ret
  exact ⟨rfl, Below.refl _ _⟩
theorem pol3_calls (x : Pol) (g : Nat) (W : World) (A2 A7 : Option Addr) (c2 c7 : Nat) (fr : Nat × Nat) (hg : W.heap[g]? = some (.cells (polC x A2 A7 c2 c7).toArray 25 fr)) (hC : Kd.C k48 W A7 x.ss.length x.ss) (k : Nat) (hk : k < x.ss.length) :
    Calls Try.prog 43 #[.int .i64 k, .pointer (some ⟨g, 0, none⟩)] W fun e W' => e = .returned (.int .i64 (rd_T48 x.ss k).f0) ∧ Below W.heap.size W W' := by
  have hu25 := Try.underlying25
  have hu48 := Try.underlying48
  obtain ⟨ad, hA, h1, _⟩ := at_T48 hC (k : Int) (by omega) (by omega)
  rw [Int.toNat_natCast] at h1
  have hb : W.cell? ⟨g, 7, none⟩ = some (.slice A7 x.ss.length c7) := pick_cell hg 7 rfl
  subst hA
  have hl : (k : Int) < (x.ss.length : Int) := by omega
  have hmx := hC.2.1
  clear hC
  go_enter Try.func43, Try.ntmps43
  go_wp2_with fail
  go_ret
  exact ⟨rfl, Below.refl _ _⟩
theorem bare_all (x : Pol) (W : World) (A2 A7 : Option Addr) (c2 c7 : Nat) (h : PolAt x W A2 A7 c2 c7) :
    Calls Try.prog 37 #[.agg (polC x A2 A7 c2 c7).toArray] W fun e W' => ∃ B2 B7 d2 d7, e = .returned (.agg (polC (barePol x) B2 B7 d2 d7).toArray) ∧ PolAt (barePol x) W' B2 B7 d2 d7 ∧ Below W.heap.size W W' := by
  unfold barePol
  by_cases q1 : x.k = 1
  · rw [if_pos q1]
    exact (bare1_calls x W A2 A7 c2 c7 q1).mono fun _ _ q => ⟨_, _, _, _, q.1, ⟨(h.later q.2).r2, h.m2, (h.later q.2).r7, h.m7⟩, q.2⟩
  rw [if_neg q1]
  by_cases q2 : x.k = 2
  · rw [if_pos q2]
    exact (bare2_calls x W A2 A7 c2 c7 q1 q2).mono fun _ _ q => ⟨_, _, _, _, q.1, ⟨nilC _ _ _, Nat.le_refl _, (h.later q.2).r7, h.m7⟩, q.2⟩
  rw [if_neg q2]
  by_cases q3 : x.k = 3
  · rw [if_pos q3]
    exact (bare3_calls x W A2 A7 c2 c7 q1 q2 q3).mono fun _ _ q => ⟨_, _, _, _, q.1, ⟨(h.later q.2).r2, h.m2, (h.later q.2).r7, h.m7⟩, q.2⟩
  rw [if_neg q3]
  by_cases q4 : x.k = 4
  · rw [if_pos q4]
    exact (bare4_calls x W A2 A7 c2 c7 q1 q2 q3 q4).mono fun _ _ q => ⟨_, _, _, _, q.1, ⟨(h.later q.2).r2, h.m2, nilC _ _ _, Nat.le_refl _⟩, q.2⟩
  rw [if_neg q4]
  exact (bare0_calls x W A2 A7 c2 c7 q1 q2 q3 q4).mono fun _ _ q => ⟨_, _, _, _, q.1, ⟨(h.later q.2).r2, h.m2, (h.later q.2).r7, h.m7⟩, q.2⟩
def zeroP (x : Pol) : Bool := decide (x.k = 0) && (decide (x.t = 0) && (decide (wrap64 ((x.bs.length : Int) + (x.ss.length : Int)) = 0) && (decide (x.p = 0) && (decide (x.i = 0) && (decide (x.d = 0) && (x.per == 0))))))
theorem zero_all (x : Pol) (W : World) (A2 A7 : Option Addr) (c2 c7 : Nat) (h : PolAt x W A2 A7 c2 c7) :
    Calls Try.prog 34 #[.agg (polC x A2 A7 c2 c7).toArray] W fun e W' => e = .returned (.bool (zeroP x)) ∧ Below W.heap.size W W' :=
  event_zero.calls x.k x.t A2 c2 x.bs x.p x.i x.d x.per A7 c7 x.ss (zeroP x) W h.r2 h.m2 h.r7 h.m7 (by
    unfold event_zero.f zeroP
    by_cases h1 : x.k = 0 <;> simp only [h1, if_true, if_false, decide_true, decide_false, Bool.true_and, Bool.false_and] <;>
    by_cases h2 : x.t = 0 <;> simp only [h2, if_true, if_false, decide_true, decide_false, Bool.true_and, Bool.false_and] <;>
    by_cases h3 : wrap64 ((x.bs.length : Int) + (x.ss.length : Int)) = 0 <;> simp only [h3, if_true, if_false, decide_true, decide_false, Bool.true_and, Bool.false_and] <;>
    by_cases h4 : x.p = 0 <;> simp only [h4, if_true, if_false, decide_true, decide_false, Bool.true_and, Bool.false_and] <;>
    by_cases h5 : x.i = 0 <;> simp only [h5, if_true, if_false, decide_true, decide_false, Bool.true_and, Bool.false_and] <;>
    by_cases h6 : x.d = 0 <;> simp only [h6, if_true, if_false, decide_true, decide_false, Bool.true_and, Bool.false_and])
theorem weight_calls (n : Int) (W : World) : Calls Try.prog 38 #[.int .i64 n] W fun e W' => e = .returned (.bool (inR n (-1000000000) 1000000000)) ∧ Below W.heap.size W W' := by
  go_enter Try.func38, Try.ntmps38
  go_wp2_with fail
  refine (in64 n (-1000000000) 1000000000 W).mono ?_
  rintro e w1 ⟨rfl, hb⟩
  have HB := Aside0.mk hb
  clear hb
  go_wp2_with fail
  go_ret
  exact ⟨rfl, HB.out⟩
def polKind (x : Pol) : Bool :=
  if x.k = 1 then inR x.t 1 1000000000
  else if x.k = 2 then x.bs.all (fun b => inR b.f1 (-1000) 1000) && (inR x.bs.length 1 8 && risingF (fun i => (rd_T46 x.bs i).f0) 1000000000 x.bs.length 0 0)
  else if x.k = 3 then ((inR x.t 1 1000000000 && inR x.p (-1000000000) 1000000000) && inR x.i (-1000000000) 1000000000) && inR x.d (-1000000000) 1000000000
  else if x.k = 4 then x.ss.all (fun b => inR b.f1 0 1000) && (((inR x.ss.length 1 8 && inR x.per 1 1099511627776) && ((rd_T48 x.ss 0).f0 == 0)) && risingF (fun i => (rd_T48 x.ss i).f0) (wrap64 (x.per - 1)) x.ss.length 0 0)
  else false
def policyF (x : Pol) : Bool := zeroP (barePol x) && polKind x
end Go.Proofs.Ytldohapdhljoaaa.Print
namespace Go.Proofs.Ytldohapdhljoaaa.Print
open Go.RowKit Go.Proofs.YtldohapdhljoaaaW.PrintWords Go.Proofs.YtldohapdhljoaaaW.PrintLast
set_option linter.unusedVariables false
set_option maxRecDepth 100000
theorem all_no {α : Type} {l : List α} {P : α → Bool} {z : α} {k : Nat} (hk : k < l.length) (h : P (l.getD k z) = false) : l.all P = false := by
  rw [List.all_eq_false]
  refine ⟨_, List.getElem_mem hk, ?_⟩
  rw [List.getD_eq_getElem?_getD, List.getElem?_eq_getElem hk] at h
  simpa using h
theorem all_snoc {α : Type} {l : List α} {P : α → Bool} {z : α} {k : Nat} (hk : k < l.length) (ha : (l.take k).all P = true) (h : P (l.getD k z) = true) : (l.take (k + 1)).all P = true := by
  rw [List.getD_eq_getElem?_getD, List.getElem?_eq_getElem hk] at h
  rw [List.take_succ_eq_append_getElem hk, List.all_append, ha]
  simpa using h
set_option maxHeartbeats 8000000 in
theorem policy_calls (x : Pol) (W : World) (A2 A7 : Option Addr) (c2 c7 : Nat) (h : PolAt x W A2 A7 c2 c7) :
    Calls Try.prog 15 #[.agg (polC x A2 A7 c2 c7).toArray] W fun e W' => e = .returned (.bool (policyF x)) ∧ Below W.heap.size W W' := by
  have hu25 := Try.underlying25
  have hu46 := Try.underlying46
  have hu48 := Try.underlying48
  have hu22 := Try.underlying22
  have hu23 := Try.underlying23
  have hi25 : (Try.prog.info? 25).map (·.size) = some 8 := by kernel_rfl
  go_enter Try.func15, Try.ntmps15
  go_upto_region 1 with fail
  have hB0 : Below W.heap.size W (W.alloc (.cells (polC x A2 A7 c2 c7).toArray 25)) := below_alloc (Below.refl _ _) _
  have HB0 := Aside0.mk hB0
  have H1 := Aside0.mk (h.later hB0)
  have B1 := Aside0.mk (pick_new W (.cells (polC x A2 A7 c2 c7).toArray 25))
  generalize W.alloc (.cells (polC x A2 A7 c2 c7).toArray 25) = W1 at *
  clear hB0 h
  go_wp2_with (first
    | (with_reducible refine hd_gate 8 rfl ?_); refine hd_run rfl (v := .agg (polC x A2 A7 c2 c7).toArray) (w1 := W1) (pick_loadRow rfl W.heap.size rfl 25 _ (0, 0) _ B1.out hu25 rfl hi25) ?_)
  refine (bare_all x W1 A2 A7 c2 c7 H1.out).mono ?_
  rintro e w2 ⟨B2, B7, e2, e7, rfl, h2, hb2⟩
  have H2 := Aside0.mk h2
  have HB2 := Aside0.mk hb2
  clear h2 hb2
  go_wp2_with fail
  refine (zero_all (barePol x) w2 B2 B7 e2 e7 H2.out).mono ?_
  rintro e w3 ⟨rfl, hb3⟩
  have HB3 := Aside0.mk (below_step HB2.out hb3)
  clear hb3 H2 HB2
  cases hz : zeroP (barePol x)
  · have HF := Aside0.mk (show policyF x = false by unfold policyF; rw [hz]; rfl)
    clear hz
    go_wp2_with fail
    go_ret
    exact ⟨by rw [HF.out]; rfl, HB0.out.trans (HB3.out.mono HB0.out.size)⟩
  have HZ := Aside0.mk (show policyF x = polKind x by unfold policyF; rw [hz]; rfl)
  clear hz
  have B3 := Aside0.mk (hd_later B1.out HB3.out)
  have H3 := Aside0.mk (H1.out.later HB3.out)
  have HB4 := Aside0.mk (show Below W.heap.size W w3 from HB0.out.trans (HB3.out.mono HB0.out.size))
  clear B1 H1 HB3 HB0
  have d0 : w3.cell? ⟨W.heap.size, 0, none⟩ = some (.int .i64 x.k) := pick_cell B3.out 0 rfl
  have d1 : w3.cell? ⟨W.heap.size, 1, none⟩ = some (.int .i64 x.t) := pick_cell B3.out 1 rfl
  have d2 : w3.cell? ⟨W.heap.size, 2, none⟩ = some (.slice A2 x.bs.length c2) := pick_cell B3.out 2 rfl
  have d3 : w3.cell? ⟨W.heap.size, 3, none⟩ = some (.int .i64 x.p) := pick_cell B3.out 3 rfl
  have d4 : w3.cell? ⟨W.heap.size, 4, none⟩ = some (.int .i64 x.i) := pick_cell B3.out 4 rfl
  have d5 : w3.cell? ⟨W.heap.size, 5, none⟩ = some (.int .i64 x.d) := pick_cell B3.out 5 rfl
  have d6 : w3.cell? ⟨W.heap.size, 6, none⟩ = some (.int .i64 x.per) := pick_cell B3.out 6 rfl
  have d7 : w3.cell? ⟨W.heap.size, 7, none⟩ = some (.slice A7 x.ss.length c7) := pick_cell B3.out 7 rfl
  have hmb := H3.out.r2.2.1
  have hms := H3.out.r7.2.1
  by_cases q1 : x.k = 1
  · have b1 : (x.k == 1) = true := beq_iff_eq.2 q1
    have HF := Aside0.mk (show polKind x = inR x.t 1 1000000000 by unfold polKind; rw [if_pos q1])
    clear q1
    go_wp2_with fail
    refine (in64 x.t 1 1000000000 w3).mono ?_
    rintro e w4 ⟨rfl, hb⟩
    have HB5 := Aside0.mk (HB4.out.trans (hb.mono HB4.out.size))
    clear hb
    go_wp2_with fail
    go_ret
    exact ⟨by rw [HZ.out, HF.out]; rfl, HB5.out⟩
  have b1 : (x.k == 1) = false := beq_eq_false_iff_ne.2 q1
  by_cases q2 : x.k = 2
  · have b2 : (x.k == 2) = true := beq_iff_eq.2 q2
    have HF := Aside0.mk (show polKind x = (x.bs.all (fun b => inR b.f1 (-1000) 1000) && (inR x.bs.length 1 8 && risingF (fun i => (rd_T46 x.bs i).f0) 1000000000 x.bs.length 0 0)) by unfold polKind; rw [if_neg q1, if_pos q2])
    clear q1 q2
    go_wp2_with fail
    go_loopw [24] (fun i wr => ∃ k : Nat, k ≤ x.bs.length ∧ i = .int .i64 k ∧ Aside0 ((x.bs.take k).all (fun b => inR b.f1 (-1000) 1000) = true) ∧ Aside0 (Below w3.heap.size w3 wr)) (fun i _ => x.bs.length - (intOf i).toNat)
    case atStart => exact ⟨0, Nat.zero_le _, rfl, ⟨rfl⟩, ⟨Below.refl _ _⟩⟩
    case round =>
      obtain ⟨k, hk, rfl, HA, HB⟩ := hrel
      by_cases hlt : k < x.bs.length
      · obtain ⟨ad, hAd, h1, h2⟩ := at_T46 (Kd.C_below H3.out.r2 HB.out) (k : Int) (by omega) (by omega)
        subst hAd
        rw [Int.toNat_natCast] at h1 h2
        have HN := Aside0.mk (all_no (P := fun b => inR b.f1 (-1000) 1000) (z := z46) hlt)
        have HY := Aside0.mk (all_snoc (P := fun b => inR b.f1 (-1000) 1000) (z := z46) hlt HA.out)
        have hrd : x.bs.getD k z46 = rd_T46 x.bs k := by unfold rd_T46; rw [Int.toNat_natCast]
        rw [hrd] at HN HY
        clear hrd
        generalize rd_T46 x.bs k = b at *
        have wk : IntKind.i64.wrap ((k : Int) + 1) = (k : Int) + 1 := by rw [IntKind.wrap_i64] <;> omega
        go_wp2_with fail
        refine (inI b.f1 (-1000) 1000 _).mono ?_
        rintro e w5 ⟨rfl, hb⟩
        have HB5 := Aside0.mk (below_step (below_alloc HB.out _) hb)
        clear hb
        cases hin : inR b.f1 (-1000) 1000
        · have HI := Aside0.mk (HN.out hin)
          clear hin HN HY
          go_wp2_with fail
          go_ret
          exact ⟨by rw [HZ.out, HF.out, HI.out]; rfl, HB4.out.trans (HB5.out.mono HB4.out.size)⟩
        · have HI := Aside0.mk (HY.out hin)
          clear hin HN HY
          go_wp2_with fail
          go_roundw
          case rel => exact ⟨k + 1, by omega, by simp, HI, HB5⟩
          case measure => simp [intOf]; omega
      · obtain rfl : k = x.bs.length := by omega
        have HAL := Aside0.mk (show x.bs.all (fun b => inR b.f1 (-1000) 1000) = true by have := HA.out; rwa [List.take_length] at this)
        have BR := Aside0.mk (hd_later B3.out HB.out)
        have HR := Aside0.mk (H3.out.later HB.out)
        have HBR := Aside0.mk (HB4.out.trans (HB.out.mono HB4.out.size))
        clear HA HB
        have dwr2 : wr.cell? ⟨W.heap.size, 2, none⟩ = some (.slice A2 x.bs.length c2) := pick_cell BR.out 2 rfl
        go_wp2_with fail
        refine (inI x.bs.length 1 8 wr).mono ?_
        rintro e v0 ⟨rfl, hb⟩
        have BV0 := Aside0.mk (hd_later BR.out hb)
        have HRV0 := Aside0.mk (Kd.C_below HR.out.r2 hb)
        have HV0 := Aside0.mk (HBR.out.trans (hb.mono HBR.out.size))
        clear hb
        cases hi0 : inR x.bs.length 1 8
        · have HI0 := Aside0.mk hi0
          clear hi0
          go_wp2_with fail
          go_ret
          exact ⟨by rw [HZ.out, HF.out, HAL.out, HI0.out]; rfl, HV0.out⟩
        have HI0 := Aside0.mk hi0
        clear hi0
        have dv02 : v0.cell? ⟨W.heap.size, 2, none⟩ = some (.slice A2 x.bs.length c2) := pick_cell BV0.out 2 rfl
        go_wp2_with fail
        refine (rising42_calls W.heap.size (fun i => (rd_T46 x.bs i).f0) x.bs.length 0 1000000000 v0 (by omega) (fun k W' hk hb => pol2_calls x W.heap.size W' A2 A7 c2 c7 (0, 0) (hd_later BV0.out hb) (Kd.C_below HRV0.out hb) k hk)).mono ?_
        rintro e v1 ⟨rfl, hb⟩
        have HV1 := Aside0.mk (HV0.out.trans (hb.mono HV0.out.size))
        clear hb
        go_wp2_with fail
        go_ret
        exact ⟨by rw [HZ.out, HF.out, HAL.out, HI0.out]; rfl, HV1.out⟩
  have b2 : (x.k == 2) = false := beq_eq_false_iff_ne.2 q2
  by_cases q3 : x.k = 3
  · have b3 : (x.k == 3) = true := beq_iff_eq.2 q3
    have HF := Aside0.mk (show polKind x = (((inR x.t 1 1000000000 && inR x.p (-1000000000) 1000000000) && inR x.i (-1000000000) 1000000000) && inR x.d (-1000000000) 1000000000) by unfold polKind; rw [if_neg q1, if_neg q2, if_pos q3])
    clear q1 q2 q3
    go_wp2_with fail
    refine (in64 x.t 1 1000000000 w3).mono ?_
    rintro e v0 ⟨rfl, hb⟩
    have BV0 := Aside0.mk (hd_later B3.out hb)
    have HV0 := Aside0.mk (HB4.out.trans (hb.mono HB4.out.size))
    clear hb
    cases hi0 : inR x.t 1 1000000000
    · have HI0 := Aside0.mk hi0
      clear hi0
      go_wp2_with fail
      go_ret
      exact ⟨by rw [HZ.out, HF.out, HI0.out]; rfl, HV0.out⟩
    have HI0 := Aside0.mk hi0
    clear hi0
    have dv03 : v0.cell? ⟨W.heap.size, 3, none⟩ = some (.int .i64 x.p) := pick_cell BV0.out 3 rfl
    go_wp2_with fail
    refine (weight_calls x.p v0).mono ?_
    rintro e v1 ⟨rfl, hb⟩
    have BV1 := Aside0.mk (hd_later BV0.out hb)
    have HV1 := Aside0.mk (HV0.out.trans (hb.mono HV0.out.size))
    clear hb
    cases hi1 : inR x.p (-1000000000) 1000000000
    · have HI1 := Aside0.mk hi1
      clear hi1
      go_wp2_with fail
      go_ret
      exact ⟨by rw [HZ.out, HF.out, HI0.out, HI1.out]; rfl, HV1.out⟩
    have HI1 := Aside0.mk hi1
    clear hi1
    have dv14 : v1.cell? ⟨W.heap.size, 4, none⟩ = some (.int .i64 x.i) := pick_cell BV1.out 4 rfl
    go_wp2_with fail
    refine (weight_calls x.i v1).mono ?_
    rintro e v2 ⟨rfl, hb⟩
    have BV2 := Aside0.mk (hd_later BV1.out hb)
    have HV2 := Aside0.mk (HV1.out.trans (hb.mono HV1.out.size))
    clear hb
    cases hi2 : inR x.i (-1000000000) 1000000000
    · have HI2 := Aside0.mk hi2
      clear hi2
      go_wp2_with fail
      go_ret
      exact ⟨by rw [HZ.out, HF.out, HI0.out, HI1.out, HI2.out]; rfl, HV2.out⟩
    have HI2 := Aside0.mk hi2
    clear hi2
    have dv25 : v2.cell? ⟨W.heap.size, 5, none⟩ = some (.int .i64 x.d) := pick_cell BV2.out 5 rfl
    go_wp2_with fail
    refine (weight_calls x.d v2).mono ?_
    rintro e v3 ⟨rfl, hb⟩
    have BV3 := Aside0.mk (hd_later BV2.out hb)
    have HV3 := Aside0.mk (HV2.out.trans (hb.mono HV2.out.size))
    clear hb
    cases hi3 : inR x.d (-1000000000) 1000000000
    · have HI3 := Aside0.mk hi3
      clear hi3
      go_wp2_with fail
      go_ret
      exact ⟨by rw [HZ.out, HF.out, HI0.out, HI1.out, HI2.out, HI3.out]; rfl, HV3.out⟩
    have HI3 := Aside0.mk hi3
    clear hi3
    go_wp2_with fail
    go_ret
    exact ⟨by rw [HZ.out, HF.out, HI0.out, HI1.out, HI2.out, HI3.out]; rfl, HV3.out⟩
  have b3 : (x.k == 3) = false := beq_eq_false_iff_ne.2 q3
  by_cases q4 : x.k = 4
  · have b4 : (x.k == 4) = true := beq_iff_eq.2 q4
    have HF := Aside0.mk (show polKind x = (x.ss.all (fun b => inR b.f1 0 1000) && (((inR x.ss.length 1 8 && inR x.per 1 1099511627776) && ((rd_T48 x.ss 0).f0 == 0)) && risingF (fun i => (rd_T48 x.ss i).f0) (wrap64 (x.per - 1)) x.ss.length 0 0)) by unfold polKind; rw [if_neg q1, if_neg q2, if_neg q3, if_pos q4])
    clear q1 q2 q3 q4
    go_wp2_with fail
    go_loopw [72] (fun i wr => ∃ k : Nat, k ≤ x.ss.length ∧ i = .int .i64 k ∧ Aside0 ((x.ss.take k).all (fun b => inR b.f1 0 1000) = true) ∧ Aside0 (Below w3.heap.size w3 wr)) (fun i _ => x.ss.length - (intOf i).toNat)
    case atStart => exact ⟨0, Nat.zero_le _, rfl, ⟨rfl⟩, ⟨Below.refl _ _⟩⟩
    case round =>
      obtain ⟨k, hk, rfl, HA, HB⟩ := hrel
      by_cases hlt : k < x.ss.length
      · obtain ⟨ad, hAd, h1, h2⟩ := at_T48 (Kd.C_below H3.out.r7 HB.out) (k : Int) (by omega) (by omega)
        subst hAd
        rw [Int.toNat_natCast] at h1 h2
        have HN := Aside0.mk (all_no (P := fun b => inR b.f1 0 1000) (z := z48) hlt)
        have HY := Aside0.mk (all_snoc (P := fun b => inR b.f1 0 1000) (z := z48) hlt HA.out)
        have hrd : x.ss.getD k z48 = rd_T48 x.ss k := by unfold rd_T48; rw [Int.toNat_natCast]
        rw [hrd] at HN HY
        clear hrd
        generalize rd_T48 x.ss k = b at *
        have wk : IntKind.i64.wrap ((k : Int) + 1) = (k : Int) + 1 := by rw [IntKind.wrap_i64] <;> omega
        go_wp2_with fail
        refine (inI b.f1 0 1000 _).mono ?_
        rintro e w5 ⟨rfl, hb⟩
        have HB5 := Aside0.mk (below_step (below_alloc HB.out _) hb)
        clear hb
        cases hin : inR b.f1 0 1000
        · have HI := Aside0.mk (HN.out hin)
          clear hin HN HY
          go_wp2_with fail
          go_ret
          exact ⟨by rw [HZ.out, HF.out, HI.out]; rfl, HB4.out.trans (HB5.out.mono HB4.out.size)⟩
        · have HI := Aside0.mk (HY.out hin)
          clear hin HN HY
          go_wp2_with fail
          go_roundw
          case rel => exact ⟨k + 1, by omega, by simp, HI, HB5⟩
          case measure => simp [intOf]; omega
      · obtain rfl : k = x.ss.length := by omega
        have HAL := Aside0.mk (show x.ss.all (fun b => inR b.f1 0 1000) = true by have := HA.out; rwa [List.take_length] at this)
        have BR := Aside0.mk (hd_later B3.out HB.out)
        have HR := Aside0.mk (H3.out.later HB.out)
        have HBR := Aside0.mk (HB4.out.trans (HB.out.mono HB4.out.size))
        clear HA HB
        have dwr7 : wr.cell? ⟨W.heap.size, 7, none⟩ = some (.slice A7 x.ss.length c7) := pick_cell BR.out 7 rfl
        go_wp2_with fail
        refine (inI x.ss.length 1 8 wr).mono ?_
        rintro e v0 ⟨rfl, hb⟩
        have BV0 := Aside0.mk (hd_later BR.out hb)
        have HRV0 := Aside0.mk (Kd.C_below HR.out.r7 hb)
        have HV0 := Aside0.mk (HBR.out.trans (hb.mono HBR.out.size))
        clear hb
        cases hi0 : inR x.ss.length 1 8
        · have HI0 := Aside0.mk hi0
          clear hi0
          go_wp2_with fail
          go_ret
          exact ⟨by rw [HZ.out, HF.out, HAL.out, HI0.out]; rfl, HV0.out⟩
        have hl1 : 1 ≤ x.ss.length := by unfold inR at hi0; have := of_decide_eq_true hi0; omega
        have HI0 := Aside0.mk hi0
        clear hi0
        have dv06 : v0.cell? ⟨W.heap.size, 6, none⟩ = some (.int .i64 x.per) := pick_cell BV0.out 6 rfl
        go_wp2_with fail
        refine (in64 x.per 1 1099511627776 v0).mono ?_
        rintro e v1 ⟨rfl, hb⟩
        have BV1 := Aside0.mk (hd_later BV0.out hb)
        have HRV1 := Aside0.mk (Kd.C_below HRV0.out hb)
        have HV1 := Aside0.mk (HV0.out.trans (hb.mono HV0.out.size))
        clear hb
        cases hi1 : inR x.per 1 1099511627776
        · have HI1 := Aside0.mk hi1
          clear hi1
          go_wp2_with fail
          go_ret
          exact ⟨by rw [HZ.out, HF.out, HAL.out, HI0.out, HI1.out]; rfl, HV1.out⟩
        have HI1 := Aside0.mk hi1
        clear hi1
        obtain ⟨ad, hAd, h1, h2⟩ := at_T48 HRV1.out 0 (by omega) (by omega)
        subst hAd
        simp only [show (0 : Int).toNat * 2 = 0 from rfl] at h1 h2
        have hl1' : (0 : Int) < (x.ss.length : Int) := by omega
        have h0' : v1.cell? ad = some (.int .i64 (rd_T48 x.ss 0).f0) := by simpa [Addr.add] using h1
        have dv17 : v1.cell? ⟨W.heap.size, 7, none⟩ = some (.slice (some ad) x.ss.length c7) := pick_cell BV1.out 7 rfl
        have dv16 : v1.cell? ⟨W.heap.size, 6, none⟩ = some (.int .i64 x.per) := pick_cell BV1.out 6 rfl
        cases hi2 : ((rd_T48 x.ss 0).f0 == 0)
        · have HI2 := Aside0.mk hi2
          go_wp2_with fail
          go_ret
          exact ⟨by rw [HZ.out, HF.out, HAL.out, HI0.out, HI1.out, HI2.out]; rfl, HV1.out⟩
        have HI2 := Aside0.mk hi2
        have ws : IntKind.i64.wrap (x.per - 1) = wrap64 (x.per - 1) := wrapEqE _
        go_wp2_with fail
        refine (rising43_calls W.heap.size (fun i => (rd_T48 x.ss i).f0) x.ss.length 0 (wrap64 (x.per - 1)) v1 (by omega) (fun k W' hk hb => pol3_calls x W.heap.size W' A2 (some ad) c2 c7 (0, 0) (hd_later BV1.out hb) (Kd.C_below HRV1.out hb) k hk)).mono ?_
        rintro e v2 ⟨rfl, hb⟩
        have HV2 := Aside0.mk (HV1.out.trans (hb.mono HV1.out.size))
        clear hb
        go_wp2_with fail
        go_ret
        exact ⟨by rw [HZ.out, HF.out, HAL.out, HI0.out, HI1.out, HI2.out]; rfl, HV2.out⟩
  have b4 : (x.k == 4) = false := beq_eq_false_iff_ne.2 q4
  have HF := Aside0.mk (show polKind x = false by unfold polKind; rw [if_neg q1, if_neg q2, if_neg q3, if_neg q4])
  clear q1 q2 q3 q4
  go_wp2_with fail
  go_ret
  exact ⟨by rw [HZ.out, HF.out]; rfl, HB4.out⟩
end Go.Proofs.Ytldohapdhljoaaa.Print
namespace Go.Proofs.Ytldohapdhljoaaa.Print
open Go.RowKit Go.Proofs.YtldohapdhljoaaaW.PrintWords Go.Proofs.YtldohapdhljoaaaW.PrintLast
set_option linter.unusedVariables false
set_option maxRecDepth 100000
structure Cnf where
  (mi ma ra st ca de sl wi mg ce pr br : Int)
structure Ev where
  (k u dm T id n : Int) (pol : Pol) (c : Cnf) (body : List Int)
def evC (e : Ev) (A2 A7 A8 : Option Addr) (c2 c7 c8 : Nat) : List Value := [.int .i64 e.k, .int .i64 e.u, .int .i64 e.dm, .int .i64 e.T, .int .i64 e.id, .int .i64 e.n, .int .i64 e.pol.k, .int .i64 e.pol.t, .slice A2 e.pol.bs.length c2, .int .i64 e.pol.p, .int .i64 e.pol.i, .int .i64 e.pol.d, .int .i64 e.pol.per, .slice A7 e.pol.ss.length c7, .int .i64 e.c.mi, .int .i64 e.c.ma, .int .i64 e.c.ra, .int .i64 e.c.st, .int .i64 e.c.ca, .int .i64 e.c.de, .int .i64 e.c.sl, .int .i64 e.c.wi, .int .i64 e.c.mg, .int .i64 e.c.ce, .int .i64 e.c.pr, .int .i64 e.c.br, .slice A8 e.body.length c8]
structure EvAt (e : Ev) (W : World) (A2 A7 A8 : Option Addr) (c2 c7 c8 : Nat) : Prop where
  pol : PolAt e.pol W A2 A7 c2 c7
  r8 : Kd.C (Kd.int .u8) W A8 e.body.length e.body
  m8 : e.body.length ≤ c8
theorem EvAt.later {e : Ev} {W W' : World} {A2 A7 A8 : Option Addr} {c2 c7 c8 : Nat} (h : EvAt e W A2 A7 A8 c2 c7 c8) (hb : Below W.heap.size W W') : EvAt e W' A2 A7 A8 c2 c7 c8 := ⟨h.pol.later hb, Kd.C_below h.r8 hb, h.m8⟩
def zPol : Pol := ⟨0, 0, [], 0, 0, 0, 0, []⟩
def zCnf : Cnf := ⟨0, 0, 0, 0, 0, 0, 0, 0, 0, 0, 0, 0⟩
def cnfOK (c : Cnf) : Bool := decide (c.mi ≥ 1) && (decide (c.mi ≤ c.ma) && (decide (c.ma ≤ 1000) && (inR c.ra 1 1000 && (inR c.st 0 1099511627776 && (inR c.ca 1 1000000 && (inR c.de 0 8 && (inR c.sl 0 1000000000 && (inR c.wi 1 32 && (inR c.mg 0 1000000000 && (inR c.ce 0 32 && (inR c.pr 1 32 && inR c.br 0 32)))))))))))
theorem ite_p (p : Prop) [Decidable p] (a : Bool) : (if p then some a else some false) = some (decide p && a) := by by_cases h : p <;> simp [h]
theorem ite_b (b a : Bool) : (if b = true then some a else some false) = some (b && a) := by cases b <;> rfl
theorem conf_f (c : Cnf) : event_Conf.f c.mi c.ma c.ra c.st c.ca c.de c.sl c.wi c.mg c.ce c.pr c.br = some (cnfOK c) := by
  unfold event_Conf.f cnfOK
  simp only [within64_f, withinI_f, Option.bind_some, ite_p, Bool.decide_eq_true]
def leftEv (e : Ev) : Ev × Bool :=
  if e.k = 1 then ({ e with u := 0, dm := 0 }, true)
  else if e.k = 2 then ({ e with T := 0 }, true)
  else if e.k = 3 then ({ e with id := 0, pol := zPol }, inR e.id 0 3 && (policyF e.pol || (e.id != 0 && zeroP e.pol)))
  else if e.k = 4 then ({ e with c := zCnf }, cnfOK e.c)
  else if e.k = 5 then ({ e with T := 0, n := 0 }, inR e.T 0 1099511627776 && inR e.n 0 1000)
  else if e.k = 6 ∨ e.k = 7 then ({ e with id := 0 }, inR e.id 0 3)
  else if e.k = 8 then ({ e with body := [] }, decide ((e.body.length : Int) ≤ 1700))
  else (e, false)
theorem not_frozen {W : World} {g : Nat} {cs : Array Value} {t : TypeId} (h : W.heap[g]? = some (.cells cs t (0, 0))) (j : Nat) : W.frozen? ⟨g, j, none⟩ = false := by
  simp [World.frozen?, h]
theorem evC_at {W : World} {g : Nat} {e : Ev} {A2 A7 A8 : Option Addr} {c2 c7 c8 : Nat} (h : W.heap[g]? = some (.cells (evC e A2 A7 A8 c2 c7 c8).toArray 30 (0, 0))) (j : Nat) {v : Value} (hv : (evC e A2 A7 A8 c2 c7 c8).toArray[j]? = some v) : W.cell? ⟨g, j, none⟩ = some v := pick_cell h j hv
theorem setCells_other {b k : Nat} (hk : k ≠ b) : ∀ (vs : List Value) (o : Nat) (w : World), (w.setCells b o vs).heap[k]? = w.heap[k]?
  | [], _, _ => rfl
  | v :: r, o, w => (setCells_other hk r (o + 1) _).trans (Below.heap_setCell w ⟨b, o, none⟩ v k hk)
theorem setCells_below {B b : Nat} (hB : B ≤ b) {w0 : World} : ∀ (vs : List Value) (o : Nat) (w : World), Below B w0 w → Below B w0 (w.setCells b o vs)
  | [], _, _, h => h
  | v :: r, o, w, h => setCells_below hB r (o + 1) _ (h.setCell hB v)
def putAll (cs : Array Value) : Nat → List Value → Array Value
  | _, [] => cs
  | o, v :: r => putAll (cs.setIfInBounds o v) (o + 1) r
theorem setCells_heap {b : Nat} {t : TypeId} : ∀ (vs : List Value) (o : Nat) (w : World) (cs cs' : Array Value), putAll cs o vs = cs' → w.heap[b]? = some (.cells cs t (0, 0)) → (w.setCells b o vs).heap[b]? = some (.cells cs' t (0, 0))
  | [], _, _, _, _, e, h => by rw [← e]; exact h
  | v :: r, o, w, cs, _, e, h => setCells_heap r (o + 1) _ (cs.setIfInBounds o v) _ e (blk_put h o v rfl)
theorem there_of {W : World} {g : Nat} {cs : Array Value} {t : TypeId} (h : W.heap[g]? = some (.cells cs t (0, 0))) (o n : Nat) (hn : o + n ≤ cs.size) : W.there g o n := fun j hj =>
  ⟨by rw [pick_cell h (o + j) (Array.getElem?_eq_getElem (by omega))]; rfl, not_frozen h _⟩
theorem seg_at {W : World} {g : Nat} {t : TypeId} {cs : List Value} (h : W.heap[g]? = some (.cells cs.toArray t (0, 0))) (o n : Nat) : ∀ j v, ((cs.drop o).take n)[j]? = some v → W.cell? ((⟨g, o, none⟩ : Addr).add j) = some v := fun j v hj => by
  rw [Addr.add_mid]
  refine pick_cell h (o + j) ?_
  rw [List.getElem?_toArray]
  rw [List.getElem?_take] at hj
  split at hj
  · rw [List.getElem?_drop] at hj
    exact hj
  · cases hj
theorem put4 (e : Ev) (A2 A7 A8 : Option Addr) (c2 c7 c8 : Nat) : putAll (evC e A2 A7 A8 c2 c7 c8).toArray 14 [.int .i64 0, .int .i64 0, .int .i64 0, .int .i64 0, .int .i64 0, .int .i64 0, .int .i64 0, .int .i64 0, .int .i64 0, .int .i64 0, .int .i64 0, .int .i64 0] = (evC { e with c := zCnf } A2 A7 A8 c2 c7 c8).toArray := by
  simp [putAll, evC, zCnf]
theorem put3 (e : Ev) (A2 A7 A8 : Option Addr) (c2 c7 c8 : Nat) : putAll ((evC e A2 A7 A8 c2 c7 c8).toArray.setIfInBounds 4 (.int .i64 0)) 6 [.int .i64 0, .int .i64 0, .slice none 0 0, .int .i64 0, .int .i64 0, .int .i64 0, .int .i64 0, .slice none 0 0] = (evC { e with id := 0, pol := zPol } none none A8 0 0 c8).toArray := by
  simp [putAll, evC, zPol]
set_option maxHeartbeats 8000000 in
theorem left1_calls (e : Ev) (W : World) (A2 A7 A8 : Option Addr) (c2 c7 c8 : Nat) (h : EvAt e W A2 A7 A8 c2 c7 c8) (hk : e.k = 1) :
    Calls Try.prog 33 #[.agg (evC e A2 A7 A8 c2 c7 c8).toArray] W fun r W' => r = .returned (.tuple #[.agg (evC ({ e with u := 0, dm := 0 }) A2 A7 A8 c2 c7 c8).toArray, .bool (true)]) ∧ Below W.heap.size W W' := by
  have hu30 := Try.underlying30
  have hi30 : (Try.prog.info? 30).map (·.size) = some 27 := by kernel_rfl
  obtain ⟨Z, hZ⟩ : ∃ Z : Array Value, Z = #[.int .i64 0, .int .i64 0, .int .i64 0, .int .i64 0, .int .i64 0, .int .i64 0, .int .i64 0, .int .i64 0, .slice none 0 0, .int .i64 0, .int .i64 0, .int .i64 0, .int .i64 0, .slice none 0 0, .int .i64 0, .int .i64 0, .int .i64 0, .int .i64 0, .int .i64 0, .int .i64 0, .int .i64 0, .int .i64 0, .int .i64 0, .int .i64 0, .int .i64 0, .int .i64 0, .slice none 0 0] := ⟨_, rfl⟩
  have hz30 : ∀ W, (zeroValue 30).run Try.prog W = .ok (.agg Z) W := by rw [hZ]; exact fun W => by kernel_rfl
  have sz : Z.size = 27 := by rw [hZ]; rfl
  clear hZ
  go_enter Try.func33, Try.ntmps33
  go_upto_region 1 with fail
  have hB0 : Below W.heap.size W ((W.alloc (.cells (evC e A2 A7 A8 c2 c7 c8).toArray 30)).alloc (.cells Z 30)) := below_alloc (below_alloc (Below.refl _ _) _) _
  have hb1 := pick_new W (.cells (evC e A2 A7 A8 c2 c7 c8).toArray 30)
  have hb2 := pick_new (W.alloc (.cells (evC e A2 A7 A8 c2 c7 c8).toArray 30)) (.cells Z 30)
  simp only [World.size_alloc] at hb2
  have hb1' := hd_later hb1 (below_alloc (Below.refl _ _) (.cells Z 30))
  have H1 := Aside0.mk (h.later hB0)
  generalize (W.alloc (.cells (evC e A2 A7 A8 c2 c7 c8).toArray 30)).alloc (.cells Z 30) = W1 at *
  have B0 := Aside0.mk hB0
  have B1 := Aside0.mk hb1'
  have BZ := Aside0.mk hb2
  clear hB0 hb1 hb1' hb2 h
  have d0 : W1.cell? ⟨W.heap.size, 0, none⟩ = some (.int .i64 e.k) := evC_at B1.out 0 rfl
  have df0 : W1.frozen? ⟨W.heap.size, 0, none⟩ = false := not_frozen B1.out 0
  have d1 : W1.cell? ⟨W.heap.size, 1, none⟩ = some (.int .i64 e.u) := evC_at B1.out 1 rfl
  have df1 : W1.frozen? ⟨W.heap.size, 1, none⟩ = false := not_frozen B1.out 1
  have d2 : W1.cell? ⟨W.heap.size, 2, none⟩ = some (.int .i64 e.dm) := evC_at B1.out 2 rfl
  have df2 : W1.frozen? ⟨W.heap.size, 2, none⟩ = false := not_frozen B1.out 2
  have b1 : (e.k == 1) = true := beq_iff_eq.2 hk
  clear hk
  go_wp2_with (first
    | (with_reducible refine hd_gate 70 rfl ?_); have hE9 : ((W1.setCell ⟨W.heap.size, 1, none⟩ (.int .i64 0)).setCell ⟨W.heap.size, 2, none⟩ (.int .i64 0)).heap[W.heap.size]? = some (.cells (evC ({ e with u := 0, dm := 0 }) A2 A7 A8 c2 c7 c8).toArray 30 (0, 0)) := blk_put (blk_put (B1.out) 1 (.int .i64 0) rfl) 2 (.int .i64 0) rfl; have hZ9 : ((W1.setCell ⟨W.heap.size, 1, none⟩ (.int .i64 0)).setCell ⟨W.heap.size, 2, none⟩ (.int .i64 0)).heap[W.heap.size + 1]? = some (.cells Z 30 (0, 0)) := ((Below.heap_setCell (W1.setCell ⟨W.heap.size, 1, none⟩ (.int .i64 0)) ⟨W.heap.size, 2, none⟩ (.int .i64 0) (W.heap.size + 1) (by simp)).trans (((Below.heap_setCell W1 ⟨W.heap.size, 1, none⟩ (.int .i64 0) (W.heap.size + 1) (by simp)).trans (BZ.out)))); have hB9 : Below W.heap.size W ((W1.setCell ⟨W.heap.size, 1, none⟩ (.int .i64 0)).setCell ⟨W.heap.size, 2, none⟩ (.int .i64 0)) := Below.setCell (Below.setCell (B0.out) (Nat.le_refl _) (.int .i64 0)) (Nat.le_refl _) (.int .i64 0); generalize hW9 : ((W1.setCell ⟨W.heap.size, 1, none⟩ (.int .i64 0)).setCell ⟨W.heap.size, 2, none⟩ (.int .i64 0)) = W9 at *; clear hW9; have HE9 := Aside0.mk hE9; have HZ9 := Aside0.mk hZ9; have HB9 := Aside0.mk hB9; clear hE9 hZ9 hB9; refine hd_run rfl (v := .agg (evC ({ e with u := 0, dm := 0 }) A2 A7 A8 c2 c7 c8).toArray) (w1 := W9) (pick_loadRow rfl W.heap.size rfl 30 _ (0, 0) _ HE9.out hu30 rfl hi30) ?_
    | (with_reducible refine hd_gateS 2 _ _ rfl ?_); refine hd_runS rfl (w1 := W9.setRow (W.heap.size + 1) (evC ({ e with u := 0, dm := 0 }) A2 A7 A8 c2 c7 c8).toArray) (pick_store rfl (W.heap.size + 1) (evC ({ e with u := 0, dm := 0 }) A2 A7 A8 c2 c7 c8).toArray rfl rfl 30 Z HZ9.out hi30 sz (by simp [evC, Value.oneCell'])) ?_)
  have hfin := setRow_heap W9 (W.heap.size + 1) Z (evC ({ e with u := 0, dm := 0 }) A2 A7 A8 c2 c7 c8).toArray 30 (0, 0) HZ9.out
  have hbel := below_setRow HB9.out (Nat.le_succ W.heap.size) (evC ({ e with u := 0, dm := 0 }) A2 A7 A8 c2 c7 c8).toArray
  generalize W9.setRow (W.heap.size + 1) (evC ({ e with u := 0, dm := 0 }) A2 A7 A8 c2 c7 c8).toArray = W10 at *
  refine bodyPost_ret (v := .tuple #[.agg (evC ({ e with u := 0, dm := 0 }) A2 A7 A8 c2 c7 c8).toArray, .bool (true)]) ?hr rfl ?_
  case hr =>
    rw [results_cell_tmp rfl]
    simp [asAddr, run_loadVar_row W10 (W.heap.size + 1) 30 30 _ (0, 0) _ hfin hu30 rfl hi30]
  exact ⟨rfl, hbel⟩
set_option maxHeartbeats 8000000 in
theorem left2_calls (e : Ev) (W : World) (A2 A7 A8 : Option Addr) (c2 c7 c8 : Nat) (h : EvAt e W A2 A7 A8 c2 c7 c8) (hk : e.k = 2) :
    Calls Try.prog 33 #[.agg (evC e A2 A7 A8 c2 c7 c8).toArray] W fun r W' => r = .returned (.tuple #[.agg (evC ({ e with T := 0 }) A2 A7 A8 c2 c7 c8).toArray, .bool (true)]) ∧ Below W.heap.size W W' := by
  have hu30 := Try.underlying30
  have hi30 : (Try.prog.info? 30).map (·.size) = some 27 := by kernel_rfl
  obtain ⟨Z, hZ⟩ : ∃ Z : Array Value, Z = #[.int .i64 0, .int .i64 0, .int .i64 0, .int .i64 0, .int .i64 0, .int .i64 0, .int .i64 0, .int .i64 0, .slice none 0 0, .int .i64 0, .int .i64 0, .int .i64 0, .int .i64 0, .slice none 0 0, .int .i64 0, .int .i64 0, .int .i64 0, .int .i64 0, .int .i64 0, .int .i64 0, .int .i64 0, .int .i64 0, .int .i64 0, .int .i64 0, .int .i64 0, .int .i64 0, .slice none 0 0] := ⟨_, rfl⟩
  have hz30 : ∀ W, (zeroValue 30).run Try.prog W = .ok (.agg Z) W := by rw [hZ]; exact fun W => by kernel_rfl
  have sz : Z.size = 27 := by rw [hZ]; rfl
  clear hZ
  go_enter Try.func33, Try.ntmps33
  go_upto_region 1 with fail
  have hB0 : Below W.heap.size W ((W.alloc (.cells (evC e A2 A7 A8 c2 c7 c8).toArray 30)).alloc (.cells Z 30)) := below_alloc (below_alloc (Below.refl _ _) _) _
  have hb1 := pick_new W (.cells (evC e A2 A7 A8 c2 c7 c8).toArray 30)
  have hb2 := pick_new (W.alloc (.cells (evC e A2 A7 A8 c2 c7 c8).toArray 30)) (.cells Z 30)
  simp only [World.size_alloc] at hb2
  have hb1' := hd_later hb1 (below_alloc (Below.refl _ _) (.cells Z 30))
  have H1 := Aside0.mk (h.later hB0)
  generalize (W.alloc (.cells (evC e A2 A7 A8 c2 c7 c8).toArray 30)).alloc (.cells Z 30) = W1 at *
  have B0 := Aside0.mk hB0
  have B1 := Aside0.mk hb1'
  have BZ := Aside0.mk hb2
  clear hB0 hb1 hb1' hb2 h
  have d0 : W1.cell? ⟨W.heap.size, 0, none⟩ = some (.int .i64 e.k) := evC_at B1.out 0 rfl
  have df0 : W1.frozen? ⟨W.heap.size, 0, none⟩ = false := not_frozen B1.out 0
  have d3 : W1.cell? ⟨W.heap.size, 3, none⟩ = some (.int .i64 e.T) := evC_at B1.out 3 rfl
  have df3 : W1.frozen? ⟨W.heap.size, 3, none⟩ = false := not_frozen B1.out 3
  have b1 : (e.k == 1) = false := beq_eq_false_iff_ne.2 (by omega)
  have b2 : (e.k == 2) = true := beq_iff_eq.2 hk
  clear hk
  go_wp2_with (first
    | (with_reducible refine hd_gate 70 rfl ?_); have hE9 : (W1.setCell ⟨W.heap.size, 3, none⟩ (.int .i64 0)).heap[W.heap.size]? = some (.cells (evC ({ e with T := 0 }) A2 A7 A8 c2 c7 c8).toArray 30 (0, 0)) := blk_put (B1.out) 3 (.int .i64 0) rfl; have hZ9 : (W1.setCell ⟨W.heap.size, 3, none⟩ (.int .i64 0)).heap[W.heap.size + 1]? = some (.cells Z 30 (0, 0)) := ((Below.heap_setCell W1 ⟨W.heap.size, 3, none⟩ (.int .i64 0) (W.heap.size + 1) (by simp)).trans (BZ.out)); have hB9 : Below W.heap.size W (W1.setCell ⟨W.heap.size, 3, none⟩ (.int .i64 0)) := Below.setCell (B0.out) (Nat.le_refl _) (.int .i64 0); generalize hW9 : (W1.setCell ⟨W.heap.size, 3, none⟩ (.int .i64 0)) = W9 at *; clear hW9; have HE9 := Aside0.mk hE9; have HZ9 := Aside0.mk hZ9; have HB9 := Aside0.mk hB9; clear hE9 hZ9 hB9; refine hd_run rfl (v := .agg (evC ({ e with T := 0 }) A2 A7 A8 c2 c7 c8).toArray) (w1 := W9) (pick_loadRow rfl W.heap.size rfl 30 _ (0, 0) _ HE9.out hu30 rfl hi30) ?_
    | (with_reducible refine hd_gateS 2 _ _ rfl ?_); refine hd_runS rfl (w1 := W9.setRow (W.heap.size + 1) (evC ({ e with T := 0 }) A2 A7 A8 c2 c7 c8).toArray) (pick_store rfl (W.heap.size + 1) (evC ({ e with T := 0 }) A2 A7 A8 c2 c7 c8).toArray rfl rfl 30 Z HZ9.out hi30 sz (by simp [evC, Value.oneCell'])) ?_)
  have hfin := setRow_heap W9 (W.heap.size + 1) Z (evC ({ e with T := 0 }) A2 A7 A8 c2 c7 c8).toArray 30 (0, 0) HZ9.out
  have hbel := below_setRow HB9.out (Nat.le_succ W.heap.size) (evC ({ e with T := 0 }) A2 A7 A8 c2 c7 c8).toArray
  generalize W9.setRow (W.heap.size + 1) (evC ({ e with T := 0 }) A2 A7 A8 c2 c7 c8).toArray = W10 at *
  refine bodyPost_ret (v := .tuple #[.agg (evC ({ e with T := 0 }) A2 A7 A8 c2 c7 c8).toArray, .bool (true)]) ?hr rfl ?_
  case hr =>
    rw [results_cell_tmp rfl]
    simp [asAddr, run_loadVar_row W10 (W.heap.size + 1) 30 30 _ (0, 0) _ hfin hu30 rfl hi30]
  exact ⟨rfl, hbel⟩
set_option maxHeartbeats 8000000 in
theorem left5_calls (e : Ev) (W : World) (A2 A7 A8 : Option Addr) (c2 c7 c8 : Nat) (h : EvAt e W A2 A7 A8 c2 c7 c8) (hk : e.k = 5) :
    Calls Try.prog 33 #[.agg (evC e A2 A7 A8 c2 c7 c8).toArray] W fun r W' => r = .returned (.tuple #[.agg (evC ({ e with T := 0, n := 0 }) A2 A7 A8 c2 c7 c8).toArray, .bool (inR e.T 0 1099511627776 && inR e.n 0 1000)]) ∧ Below W.heap.size W W' := by
  have hu30 := Try.underlying30
  have hi30 : (Try.prog.info? 30).map (·.size) = some 27 := by kernel_rfl
  obtain ⟨Z, hZ⟩ : ∃ Z : Array Value, Z = #[.int .i64 0, .int .i64 0, .int .i64 0, .int .i64 0, .int .i64 0, .int .i64 0, .int .i64 0, .int .i64 0, .slice none 0 0, .int .i64 0, .int .i64 0, .int .i64 0, .int .i64 0, .slice none 0 0, .int .i64 0, .int .i64 0, .int .i64 0, .int .i64 0, .int .i64 0, .int .i64 0, .int .i64 0, .int .i64 0, .int .i64 0, .int .i64 0, .int .i64 0, .int .i64 0, .slice none 0 0] := ⟨_, rfl⟩
  have hz30 : ∀ W, (zeroValue 30).run Try.prog W = .ok (.agg Z) W := by rw [hZ]; exact fun W => by kernel_rfl
  have sz : Z.size = 27 := by rw [hZ]; rfl
  clear hZ
  go_enter Try.func33, Try.ntmps33
  go_upto_region 1 with fail
  have hB0 : Below W.heap.size W ((W.alloc (.cells (evC e A2 A7 A8 c2 c7 c8).toArray 30)).alloc (.cells Z 30)) := below_alloc (below_alloc (Below.refl _ _) _) _
  have hb1 := pick_new W (.cells (evC e A2 A7 A8 c2 c7 c8).toArray 30)
  have hb2 := pick_new (W.alloc (.cells (evC e A2 A7 A8 c2 c7 c8).toArray 30)) (.cells Z 30)
  simp only [World.size_alloc] at hb2
  have hb1' := hd_later hb1 (below_alloc (Below.refl _ _) (.cells Z 30))
  have H1 := Aside0.mk (h.later hB0)
  generalize (W.alloc (.cells (evC e A2 A7 A8 c2 c7 c8).toArray 30)).alloc (.cells Z 30) = W1 at *
  have B0 := Aside0.mk hB0
  have B1 := Aside0.mk hb1'
  have BZ := Aside0.mk hb2
  clear hB0 hb1 hb1' hb2 h
  have d0 : W1.cell? ⟨W.heap.size, 0, none⟩ = some (.int .i64 e.k) := evC_at B1.out 0 rfl
  have df0 : W1.frozen? ⟨W.heap.size, 0, none⟩ = false := not_frozen B1.out 0
  have d3 : W1.cell? ⟨W.heap.size, 3, none⟩ = some (.int .i64 e.T) := evC_at B1.out 3 rfl
  have df3 : W1.frozen? ⟨W.heap.size, 3, none⟩ = false := not_frozen B1.out 3
  have d5 : W1.cell? ⟨W.heap.size, 5, none⟩ = some (.int .i64 e.n) := evC_at B1.out 5 rfl
  have df5 : W1.frozen? ⟨W.heap.size, 5, none⟩ = false := not_frozen B1.out 5
  have b1 : (e.k == 1) = false := beq_eq_false_iff_ne.2 (by omega)
  have b2 : (e.k == 2) = false := beq_eq_false_iff_ne.2 (by omega)
  have b3 : (e.k == 3) = false := beq_eq_false_iff_ne.2 (by omega)
  have b4 : (e.k == 4) = false := beq_eq_false_iff_ne.2 (by omega)
  have b5 : (e.k == 5) = true := beq_iff_eq.2 hk
  clear hk
  go_wp2_with fail
  refine (in64 e.T 0 1099511627776 W1).mono ?_
  rintro r_ w2 ⟨rfl, hb⟩
  have B0w2 := Aside0.mk (B0.out.trans (hb.mono B0.out.size))
  have BLw2 := Aside0.mk hb
  have B1w2 := Aside0.mk (hd_later B1.out hb)
  have BZw2 := Aside0.mk (hd_later BZ.out hb)
  clear hb
  have dw23 : w2.cell? ⟨W.heap.size, 3, none⟩ = some (.int .i64 e.T) := evC_at B1w2.out 3 rfl
  have dw2f3 : w2.frozen? ⟨W.heap.size, 3, none⟩ = false := not_frozen B1w2.out 3
  have dw25 : w2.cell? ⟨W.heap.size, 5, none⟩ = some (.int .i64 e.n) := evC_at B1w2.out 5 rfl
  have dw2f5 : w2.frozen? ⟨W.heap.size, 5, none⟩ = false := not_frozen B1w2.out 5
  cases hi : inR e.T 0 1099511627776
  · have HI := Aside0.mk hi
    clear hi
    go_wp2_with (first
      | (with_reducible refine hd_gate 70 rfl ?_); have hE9 : ((w2.setCell ⟨W.heap.size, 3, none⟩ (.int .i64 0)).setCell ⟨W.heap.size, 5, none⟩ (.int .i64 0)).heap[W.heap.size]? = some (.cells (evC ({ e with T := 0, n := 0 }) A2 A7 A8 c2 c7 c8).toArray 30 (0, 0)) := blk_put (blk_put (B1w2.out) 3 (.int .i64 0) rfl) 5 (.int .i64 0) rfl; have hZ9 : ((w2.setCell ⟨W.heap.size, 3, none⟩ (.int .i64 0)).setCell ⟨W.heap.size, 5, none⟩ (.int .i64 0)).heap[W.heap.size + 1]? = some (.cells Z 30 (0, 0)) := ((Below.heap_setCell (w2.setCell ⟨W.heap.size, 3, none⟩ (.int .i64 0)) ⟨W.heap.size, 5, none⟩ (.int .i64 0) (W.heap.size + 1) (by simp)).trans (((Below.heap_setCell w2 ⟨W.heap.size, 3, none⟩ (.int .i64 0) (W.heap.size + 1) (by simp)).trans (BZw2.out)))); have hB9 : Below W.heap.size W ((w2.setCell ⟨W.heap.size, 3, none⟩ (.int .i64 0)).setCell ⟨W.heap.size, 5, none⟩ (.int .i64 0)) := Below.setCell (Below.setCell (B0w2.out) (Nat.le_refl _) (.int .i64 0)) (Nat.le_refl _) (.int .i64 0); generalize hW9 : ((w2.setCell ⟨W.heap.size, 3, none⟩ (.int .i64 0)).setCell ⟨W.heap.size, 5, none⟩ (.int .i64 0)) = W9 at *; clear hW9; have HE9 := Aside0.mk hE9; have HZ9 := Aside0.mk hZ9; have HB9 := Aside0.mk hB9; clear hE9 hZ9 hB9; refine hd_run rfl (v := .agg (evC ({ e with T := 0, n := 0 }) A2 A7 A8 c2 c7 c8).toArray) (w1 := W9) (pick_loadRow rfl W.heap.size rfl 30 _ (0, 0) _ HE9.out hu30 rfl hi30) ?_
      | (with_reducible refine hd_gateS 2 _ _ rfl ?_); refine hd_runS rfl (w1 := W9.setRow (W.heap.size + 1) (evC ({ e with T := 0, n := 0 }) A2 A7 A8 c2 c7 c8).toArray) (pick_store rfl (W.heap.size + 1) (evC ({ e with T := 0, n := 0 }) A2 A7 A8 c2 c7 c8).toArray rfl rfl 30 Z HZ9.out hi30 sz (by simp [evC, Value.oneCell'])) ?_)
    have hfin := setRow_heap W9 (W.heap.size + 1) Z (evC ({ e with T := 0, n := 0 }) A2 A7 A8 c2 c7 c8).toArray 30 (0, 0) HZ9.out
    have hbel := below_setRow HB9.out (Nat.le_succ W.heap.size) (evC ({ e with T := 0, n := 0 }) A2 A7 A8 c2 c7 c8).toArray
    generalize W9.setRow (W.heap.size + 1) (evC ({ e with T := 0, n := 0 }) A2 A7 A8 c2 c7 c8).toArray = W10 at *
    refine bodyPost_ret (v := .tuple #[.agg (evC ({ e with T := 0, n := 0 }) A2 A7 A8 c2 c7 c8).toArray, .bool (false)]) ?hr rfl ?_
    case hr =>
      rw [results_cell_tmp rfl]
      simp [asAddr, run_loadVar_row W10 (W.heap.size + 1) 30 30 _ (0, 0) _ hfin hu30 rfl hi30]
    exact ⟨by rw [HI.out]; rfl, hbel⟩
  have HI := Aside0.mk hi
  clear hi
  go_wp2_with fail
  refine (inI e.n 0 1000 w2).mono ?_
  rintro r_ w3 ⟨rfl, hb⟩
  have B0w3 := Aside0.mk (B0w2.out.trans (hb.mono B0w2.out.size))
  have B1w3 := Aside0.mk (hd_later B1w2.out hb)
  have BZw3 := Aside0.mk (hd_later BZw2.out hb)
  clear hb
  have dw33 : w3.cell? ⟨W.heap.size, 3, none⟩ = some (.int .i64 e.T) := evC_at B1w3.out 3 rfl
  have dw3f3 : w3.frozen? ⟨W.heap.size, 3, none⟩ = false := not_frozen B1w3.out 3
  have dw35 : w3.cell? ⟨W.heap.size, 5, none⟩ = some (.int .i64 e.n) := evC_at B1w3.out 5 rfl
  have dw3f5 : w3.frozen? ⟨W.heap.size, 5, none⟩ = false := not_frozen B1w3.out 5
  go_wp2_with (first
    | (with_reducible refine hd_gate 70 rfl ?_); have hE9 : ((w3.setCell ⟨W.heap.size, 3, none⟩ (.int .i64 0)).setCell ⟨W.heap.size, 5, none⟩ (.int .i64 0)).heap[W.heap.size]? = some (.cells (evC ({ e with T := 0, n := 0 }) A2 A7 A8 c2 c7 c8).toArray 30 (0, 0)) := blk_put (blk_put (B1w3.out) 3 (.int .i64 0) rfl) 5 (.int .i64 0) rfl; have hZ9 : ((w3.setCell ⟨W.heap.size, 3, none⟩ (.int .i64 0)).setCell ⟨W.heap.size, 5, none⟩ (.int .i64 0)).heap[W.heap.size + 1]? = some (.cells Z 30 (0, 0)) := ((Below.heap_setCell (w3.setCell ⟨W.heap.size, 3, none⟩ (.int .i64 0)) ⟨W.heap.size, 5, none⟩ (.int .i64 0) (W.heap.size + 1) (by simp)).trans (((Below.heap_setCell w3 ⟨W.heap.size, 3, none⟩ (.int .i64 0) (W.heap.size + 1) (by simp)).trans (BZw3.out)))); have hB9 : Below W.heap.size W ((w3.setCell ⟨W.heap.size, 3, none⟩ (.int .i64 0)).setCell ⟨W.heap.size, 5, none⟩ (.int .i64 0)) := Below.setCell (Below.setCell (B0w3.out) (Nat.le_refl _) (.int .i64 0)) (Nat.le_refl _) (.int .i64 0); generalize hW9 : ((w3.setCell ⟨W.heap.size, 3, none⟩ (.int .i64 0)).setCell ⟨W.heap.size, 5, none⟩ (.int .i64 0)) = W9 at *; clear hW9; have HE9 := Aside0.mk hE9; have HZ9 := Aside0.mk hZ9; have HB9 := Aside0.mk hB9; clear hE9 hZ9 hB9; refine hd_run rfl (v := .agg (evC ({ e with T := 0, n := 0 }) A2 A7 A8 c2 c7 c8).toArray) (w1 := W9) (pick_loadRow rfl W.heap.size rfl 30 _ (0, 0) _ HE9.out hu30 rfl hi30) ?_
    | (with_reducible refine hd_gateS 2 _ _ rfl ?_); refine hd_runS rfl (w1 := W9.setRow (W.heap.size + 1) (evC ({ e with T := 0, n := 0 }) A2 A7 A8 c2 c7 c8).toArray) (pick_store rfl (W.heap.size + 1) (evC ({ e with T := 0, n := 0 }) A2 A7 A8 c2 c7 c8).toArray rfl rfl 30 Z HZ9.out hi30 sz (by simp [evC, Value.oneCell'])) ?_)
  have hfin := setRow_heap W9 (W.heap.size + 1) Z (evC ({ e with T := 0, n := 0 }) A2 A7 A8 c2 c7 c8).toArray 30 (0, 0) HZ9.out
  have hbel := below_setRow HB9.out (Nat.le_succ W.heap.size) (evC ({ e with T := 0, n := 0 }) A2 A7 A8 c2 c7 c8).toArray
  generalize W9.setRow (W.heap.size + 1) (evC ({ e with T := 0, n := 0 }) A2 A7 A8 c2 c7 c8).toArray = W10 at *
  refine bodyPost_ret (v := .tuple #[.agg (evC ({ e with T := 0, n := 0 }) A2 A7 A8 c2 c7 c8).toArray, .bool (inR e.n 0 1000)]) ?hrx rfl ?_
  case hrx =>
    rw [results_cell_tmp rfl]
    simp [asAddr, run_loadVar_row W10 (W.heap.size + 1) 30 30 _ (0, 0) _ hfin hu30 rfl hi30]
  exact ⟨by rw [HI.out, Bool.true_and], hbel⟩
set_option maxHeartbeats 8000000 in
theorem left6_calls (e : Ev) (W : World) (A2 A7 A8 : Option Addr) (c2 c7 c8 : Nat) (h : EvAt e W A2 A7 A8 c2 c7 c8) (hk : e.k = 6) :
    Calls Try.prog 33 #[.agg (evC e A2 A7 A8 c2 c7 c8).toArray] W fun r W' => r = .returned (.tuple #[.agg (evC ({ e with id := 0 }) A2 A7 A8 c2 c7 c8).toArray, .bool (inR e.id 0 3)]) ∧ Below W.heap.size W W' := by
  have hu30 := Try.underlying30
  have hi30 : (Try.prog.info? 30).map (·.size) = some 27 := by kernel_rfl
  obtain ⟨Z, hZ⟩ : ∃ Z : Array Value, Z = #[.int .i64 0, .int .i64 0, .int .i64 0, .int .i64 0, .int .i64 0, .int .i64 0, .int .i64 0, .int .i64 0, .slice none 0 0, .int .i64 0, .int .i64 0, .int .i64 0, .int .i64 0, .slice none 0 0, .int .i64 0, .int .i64 0, .int .i64 0, .int .i64 0, .int .i64 0, .int .i64 0, .int .i64 0, .int .i64 0, .int .i64 0, .int .i64 0, .int .i64 0, .int .i64 0, .slice none 0 0] := ⟨_, rfl⟩
  have hz30 : ∀ W, (zeroValue 30).run Try.prog W = .ok (.agg Z) W := by rw [hZ]; exact fun W => by kernel_rfl
  have sz : Z.size = 27 := by rw [hZ]; rfl
  clear hZ
  go_enter Try.func33, Try.ntmps33
  go_upto_region 1 with fail
  have hB0 : Below W.heap.size W ((W.alloc (.cells (evC e A2 A7 A8 c2 c7 c8).toArray 30)).alloc (.cells Z 30)) := below_alloc (below_alloc (Below.refl _ _) _) _
  have hb1 := pick_new W (.cells (evC e A2 A7 A8 c2 c7 c8).toArray 30)
  have hb2 := pick_new (W.alloc (.cells (evC e A2 A7 A8 c2 c7 c8).toArray 30)) (.cells Z 30)
  simp only [World.size_alloc] at hb2
  have hb1' := hd_later hb1 (below_alloc (Below.refl _ _) (.cells Z 30))
  have H1 := Aside0.mk (h.later hB0)
  generalize (W.alloc (.cells (evC e A2 A7 A8 c2 c7 c8).toArray 30)).alloc (.cells Z 30) = W1 at *
  have B0 := Aside0.mk hB0
  have B1 := Aside0.mk hb1'
  have BZ := Aside0.mk hb2
  clear hB0 hb1 hb1' hb2 h
  have d0 : W1.cell? ⟨W.heap.size, 0, none⟩ = some (.int .i64 e.k) := evC_at B1.out 0 rfl
  have df0 : W1.frozen? ⟨W.heap.size, 0, none⟩ = false := not_frozen B1.out 0
  have d4 : W1.cell? ⟨W.heap.size, 4, none⟩ = some (.int .i64 e.id) := evC_at B1.out 4 rfl
  have df4 : W1.frozen? ⟨W.heap.size, 4, none⟩ = false := not_frozen B1.out 4
  have b1 : (e.k == 1) = false := beq_eq_false_iff_ne.2 (by omega)
  have b2 : (e.k == 2) = false := beq_eq_false_iff_ne.2 (by omega)
  have b3 : (e.k == 3) = false := beq_eq_false_iff_ne.2 (by omega)
  have b4 : (e.k == 4) = false := beq_eq_false_iff_ne.2 (by omega)
  have b5 : (e.k == 5) = false := beq_eq_false_iff_ne.2 (by omega)
  have b6 : (e.k == 6) = true := beq_iff_eq.2 hk
  clear hk
  go_wp2_with fail
  refine (inI e.id 0 3 W1).mono ?_
  rintro r_ w2 ⟨rfl, hb⟩
  have B0w2 := Aside0.mk (B0.out.trans (hb.mono B0.out.size))
  have BLw2 := Aside0.mk hb
  have B1w2 := Aside0.mk (hd_later B1.out hb)
  have BZw2 := Aside0.mk (hd_later BZ.out hb)
  clear hb
  have dw24 : w2.cell? ⟨W.heap.size, 4, none⟩ = some (.int .i64 e.id) := evC_at B1w2.out 4 rfl
  have dw2f4 : w2.frozen? ⟨W.heap.size, 4, none⟩ = false := not_frozen B1w2.out 4
  go_wp2_with (first
    | (with_reducible refine hd_gate 70 rfl ?_); have hE9 : (w2.setCell ⟨W.heap.size, 4, none⟩ (.int .i64 0)).heap[W.heap.size]? = some (.cells (evC ({ e with id := 0 }) A2 A7 A8 c2 c7 c8).toArray 30 (0, 0)) := blk_put (B1w2.out) 4 (.int .i64 0) rfl; have hZ9 : (w2.setCell ⟨W.heap.size, 4, none⟩ (.int .i64 0)).heap[W.heap.size + 1]? = some (.cells Z 30 (0, 0)) := ((Below.heap_setCell w2 ⟨W.heap.size, 4, none⟩ (.int .i64 0) (W.heap.size + 1) (by simp)).trans (BZw2.out)); have hB9 : Below W.heap.size W (w2.setCell ⟨W.heap.size, 4, none⟩ (.int .i64 0)) := Below.setCell (B0w2.out) (Nat.le_refl _) (.int .i64 0); generalize hW9 : (w2.setCell ⟨W.heap.size, 4, none⟩ (.int .i64 0)) = W9 at *; clear hW9; have HE9 := Aside0.mk hE9; have HZ9 := Aside0.mk hZ9; have HB9 := Aside0.mk hB9; clear hE9 hZ9 hB9; refine hd_run rfl (v := .agg (evC ({ e with id := 0 }) A2 A7 A8 c2 c7 c8).toArray) (w1 := W9) (pick_loadRow rfl W.heap.size rfl 30 _ (0, 0) _ HE9.out hu30 rfl hi30) ?_
    | (with_reducible refine hd_gateS 2 _ _ rfl ?_); refine hd_runS rfl (w1 := W9.setRow (W.heap.size + 1) (evC ({ e with id := 0 }) A2 A7 A8 c2 c7 c8).toArray) (pick_store rfl (W.heap.size + 1) (evC ({ e with id := 0 }) A2 A7 A8 c2 c7 c8).toArray rfl rfl 30 Z HZ9.out hi30 sz (by simp [evC, Value.oneCell'])) ?_)
  have hfin := setRow_heap W9 (W.heap.size + 1) Z (evC ({ e with id := 0 }) A2 A7 A8 c2 c7 c8).toArray 30 (0, 0) HZ9.out
  have hbel := below_setRow HB9.out (Nat.le_succ W.heap.size) (evC ({ e with id := 0 }) A2 A7 A8 c2 c7 c8).toArray
  generalize W9.setRow (W.heap.size + 1) (evC ({ e with id := 0 }) A2 A7 A8 c2 c7 c8).toArray = W10 at *
  refine bodyPost_ret (v := .tuple #[.agg (evC ({ e with id := 0 }) A2 A7 A8 c2 c7 c8).toArray, .bool (inR e.id 0 3)]) ?hr rfl ?_
  case hr =>
    rw [results_cell_tmp rfl]
    simp [asAddr, run_loadVar_row W10 (W.heap.size + 1) 30 30 _ (0, 0) _ hfin hu30 rfl hi30]
  exact ⟨rfl, hbel⟩
set_option maxHeartbeats 8000000 in
theorem left7_calls (e : Ev) (W : World) (A2 A7 A8 : Option Addr) (c2 c7 c8 : Nat) (h : EvAt e W A2 A7 A8 c2 c7 c8) (hk : e.k = 7) :
    Calls Try.prog 33 #[.agg (evC e A2 A7 A8 c2 c7 c8).toArray] W fun r W' => r = .returned (.tuple #[.agg (evC ({ e with id := 0 }) A2 A7 A8 c2 c7 c8).toArray, .bool (inR e.id 0 3)]) ∧ Below W.heap.size W W' := by
  have hu30 := Try.underlying30
  have hi30 : (Try.prog.info? 30).map (·.size) = some 27 := by kernel_rfl
  obtain ⟨Z, hZ⟩ : ∃ Z : Array Value, Z = #[.int .i64 0, .int .i64 0, .int .i64 0, .int .i64 0, .int .i64 0, .int .i64 0, .int .i64 0, .int .i64 0, .slice none 0 0, .int .i64 0, .int .i64 0, .int .i64 0, .int .i64 0, .slice none 0 0, .int .i64 0, .int .i64 0, .int .i64 0, .int .i64 0, .int .i64 0, .int .i64 0, .int .i64 0, .int .i64 0, .int .i64 0, .int .i64 0, .int .i64 0, .int .i64 0, .slice none 0 0] := ⟨_, rfl⟩
  have hz30 : ∀ W, (zeroValue 30).run Try.prog W = .ok (.agg Z) W := by rw [hZ]; exact fun W => by kernel_rfl
  have sz : Z.size = 27 := by rw [hZ]; rfl
  clear hZ
  go_enter Try.func33, Try.ntmps33
  go_upto_region 1 with fail
  have hB0 : Below W.heap.size W ((W.alloc (.cells (evC e A2 A7 A8 c2 c7 c8).toArray 30)).alloc (.cells Z 30)) := below_alloc (below_alloc (Below.refl _ _) _) _
  have hb1 := pick_new W (.cells (evC e A2 A7 A8 c2 c7 c8).toArray 30)
  have hb2 := pick_new (W.alloc (.cells (evC e A2 A7 A8 c2 c7 c8).toArray 30)) (.cells Z 30)
  simp only [World.size_alloc] at hb2
  have hb1' := hd_later hb1 (below_alloc (Below.refl _ _) (.cells Z 30))
  have H1 := Aside0.mk (h.later hB0)
  generalize (W.alloc (.cells (evC e A2 A7 A8 c2 c7 c8).toArray 30)).alloc (.cells Z 30) = W1 at *
  have B0 := Aside0.mk hB0
  have B1 := Aside0.mk hb1'
  have BZ := Aside0.mk hb2
  clear hB0 hb1 hb1' hb2 h
  have d0 : W1.cell? ⟨W.heap.size, 0, none⟩ = some (.int .i64 e.k) := evC_at B1.out 0 rfl
  have df0 : W1.frozen? ⟨W.heap.size, 0, none⟩ = false := not_frozen B1.out 0
  have d4 : W1.cell? ⟨W.heap.size, 4, none⟩ = some (.int .i64 e.id) := evC_at B1.out 4 rfl
  have df4 : W1.frozen? ⟨W.heap.size, 4, none⟩ = false := not_frozen B1.out 4
  have b1 : (e.k == 1) = false := beq_eq_false_iff_ne.2 (by omega)
  have b2 : (e.k == 2) = false := beq_eq_false_iff_ne.2 (by omega)
  have b3 : (e.k == 3) = false := beq_eq_false_iff_ne.2 (by omega)
  have b4 : (e.k == 4) = false := beq_eq_false_iff_ne.2 (by omega)
  have b5 : (e.k == 5) = false := beq_eq_false_iff_ne.2 (by omega)
  have b6 : (e.k == 6) = false := beq_eq_false_iff_ne.2 (by omega)
  have b7 : (e.k == 7) = true := beq_iff_eq.2 hk
  clear hk
  go_wp2_with fail
  refine (inI e.id 0 3 W1).mono ?_
  rintro r_ w2 ⟨rfl, hb⟩
  have B0w2 := Aside0.mk (B0.out.trans (hb.mono B0.out.size))
  have BLw2 := Aside0.mk hb
  have B1w2 := Aside0.mk (hd_later B1.out hb)
  have BZw2 := Aside0.mk (hd_later BZ.out hb)
  clear hb
  have dw24 : w2.cell? ⟨W.heap.size, 4, none⟩ = some (.int .i64 e.id) := evC_at B1w2.out 4 rfl
  have dw2f4 : w2.frozen? ⟨W.heap.size, 4, none⟩ = false := not_frozen B1w2.out 4
  go_wp2_with (first
    | (with_reducible refine hd_gate 70 rfl ?_); have hE9 : (w2.setCell ⟨W.heap.size, 4, none⟩ (.int .i64 0)).heap[W.heap.size]? = some (.cells (evC ({ e with id := 0 }) A2 A7 A8 c2 c7 c8).toArray 30 (0, 0)) := blk_put (B1w2.out) 4 (.int .i64 0) rfl; have hZ9 : (w2.setCell ⟨W.heap.size, 4, none⟩ (.int .i64 0)).heap[W.heap.size + 1]? = some (.cells Z 30 (0, 0)) := ((Below.heap_setCell w2 ⟨W.heap.size, 4, none⟩ (.int .i64 0) (W.heap.size + 1) (by simp)).trans (BZw2.out)); have hB9 : Below W.heap.size W (w2.setCell ⟨W.heap.size, 4, none⟩ (.int .i64 0)) := Below.setCell (B0w2.out) (Nat.le_refl _) (.int .i64 0); generalize hW9 : (w2.setCell ⟨W.heap.size, 4, none⟩ (.int .i64 0)) = W9 at *; clear hW9; have HE9 := Aside0.mk hE9; have HZ9 := Aside0.mk hZ9; have HB9 := Aside0.mk hB9; clear hE9 hZ9 hB9; refine hd_run rfl (v := .agg (evC ({ e with id := 0 }) A2 A7 A8 c2 c7 c8).toArray) (w1 := W9) (pick_loadRow rfl W.heap.size rfl 30 _ (0, 0) _ HE9.out hu30 rfl hi30) ?_
    | (with_reducible refine hd_gateS 2 _ _ rfl ?_); refine hd_runS rfl (w1 := W9.setRow (W.heap.size + 1) (evC ({ e with id := 0 }) A2 A7 A8 c2 c7 c8).toArray) (pick_store rfl (W.heap.size + 1) (evC ({ e with id := 0 }) A2 A7 A8 c2 c7 c8).toArray rfl rfl 30 Z HZ9.out hi30 sz (by simp [evC, Value.oneCell'])) ?_)
  have hfin := setRow_heap W9 (W.heap.size + 1) Z (evC ({ e with id := 0 }) A2 A7 A8 c2 c7 c8).toArray 30 (0, 0) HZ9.out
  have hbel := below_setRow HB9.out (Nat.le_succ W.heap.size) (evC ({ e with id := 0 }) A2 A7 A8 c2 c7 c8).toArray
  generalize W9.setRow (W.heap.size + 1) (evC ({ e with id := 0 }) A2 A7 A8 c2 c7 c8).toArray = W10 at *
  refine bodyPost_ret (v := .tuple #[.agg (evC ({ e with id := 0 }) A2 A7 A8 c2 c7 c8).toArray, .bool (inR e.id 0 3)]) ?hr rfl ?_
  case hr =>
    rw [results_cell_tmp rfl]
    simp [asAddr, run_loadVar_row W10 (W.heap.size + 1) 30 30 _ (0, 0) _ hfin hu30 rfl hi30]
  exact ⟨rfl, hbel⟩
set_option maxHeartbeats 8000000 in
theorem left8_calls (e : Ev) (W : World) (A2 A7 A8 : Option Addr) (c2 c7 c8 : Nat) (h : EvAt e W A2 A7 A8 c2 c7 c8) (hk : e.k = 8) :
    Calls Try.prog 33 #[.agg (evC e A2 A7 A8 c2 c7 c8).toArray] W fun r W' => r = .returned (.tuple #[.agg (evC ({ e with body := [] }) A2 A7 none c2 c7 0).toArray, .bool (decide ((e.body.length : Int) ≤ 1700))]) ∧ Below W.heap.size W W' := by
  have hu30 := Try.underlying30
  have hi30 : (Try.prog.info? 30).map (·.size) = some 27 := by kernel_rfl
  obtain ⟨Z, hZ⟩ : ∃ Z : Array Value, Z = #[.int .i64 0, .int .i64 0, .int .i64 0, .int .i64 0, .int .i64 0, .int .i64 0, .int .i64 0, .int .i64 0, .slice none 0 0, .int .i64 0, .int .i64 0, .int .i64 0, .int .i64 0, .slice none 0 0, .int .i64 0, .int .i64 0, .int .i64 0, .int .i64 0, .int .i64 0, .int .i64 0, .int .i64 0, .int .i64 0, .int .i64 0, .int .i64 0, .int .i64 0, .int .i64 0, .slice none 0 0] := ⟨_, rfl⟩
  have hz30 : ∀ W, (zeroValue 30).run Try.prog W = .ok (.agg Z) W := by rw [hZ]; exact fun W => by kernel_rfl
  have sz : Z.size = 27 := by rw [hZ]; rfl
  clear hZ
  go_enter Try.func33, Try.ntmps33
  go_upto_region 1 with fail
  have hB0 : Below W.heap.size W ((W.alloc (.cells (evC e A2 A7 A8 c2 c7 c8).toArray 30)).alloc (.cells Z 30)) := below_alloc (below_alloc (Below.refl _ _) _) _
  have hb1 := pick_new W (.cells (evC e A2 A7 A8 c2 c7 c8).toArray 30)
  have hb2 := pick_new (W.alloc (.cells (evC e A2 A7 A8 c2 c7 c8).toArray 30)) (.cells Z 30)
  simp only [World.size_alloc] at hb2
  have hb1' := hd_later hb1 (below_alloc (Below.refl _ _) (.cells Z 30))
  have H1 := Aside0.mk (h.later hB0)
  generalize (W.alloc (.cells (evC e A2 A7 A8 c2 c7 c8).toArray 30)).alloc (.cells Z 30) = W1 at *
  have B0 := Aside0.mk hB0
  have B1 := Aside0.mk hb1'
  have BZ := Aside0.mk hb2
  clear hB0 hb1 hb1' hb2 h
  have d0 : W1.cell? ⟨W.heap.size, 0, none⟩ = some (.int .i64 e.k) := evC_at B1.out 0 rfl
  have df0 : W1.frozen? ⟨W.heap.size, 0, none⟩ = false := not_frozen B1.out 0
  have d26 : W1.cell? ⟨W.heap.size, 26, none⟩ = some (.slice A8 e.body.length c8) := evC_at B1.out 26 rfl
  have df26 : W1.frozen? ⟨W.heap.size, 26, none⟩ = false := not_frozen B1.out 26
  have b1 : (e.k == 1) = false := beq_eq_false_iff_ne.2 (by omega)
  have b2 : (e.k == 2) = false := beq_eq_false_iff_ne.2 (by omega)
  have b3 : (e.k == 3) = false := beq_eq_false_iff_ne.2 (by omega)
  have b4 : (e.k == 4) = false := beq_eq_false_iff_ne.2 (by omega)
  have b5 : (e.k == 5) = false := beq_eq_false_iff_ne.2 (by omega)
  have b6 : (e.k == 6) = false := beq_eq_false_iff_ne.2 (by omega)
  have b7 : (e.k == 7) = false := beq_eq_false_iff_ne.2 (by omega)
  have b8 : (e.k == 8) = true := beq_iff_eq.2 hk
  clear hk
  go_wp2_with (first
    | (with_reducible refine hd_gate 70 rfl ?_); have hE9 : (W1.setCell ⟨W.heap.size, 26, none⟩ (.slice none 0 0)).heap[W.heap.size]? = some (.cells (evC ({ e with body := [] }) A2 A7 none c2 c7 0).toArray 30 (0, 0)) := blk_put (B1.out) 26 (.slice none 0 0) rfl; have hZ9 : (W1.setCell ⟨W.heap.size, 26, none⟩ (.slice none 0 0)).heap[W.heap.size + 1]? = some (.cells Z 30 (0, 0)) := ((Below.heap_setCell W1 ⟨W.heap.size, 26, none⟩ (.slice none 0 0) (W.heap.size + 1) (by simp)).trans (BZ.out)); have hB9 : Below W.heap.size W (W1.setCell ⟨W.heap.size, 26, none⟩ (.slice none 0 0)) := Below.setCell (B0.out) (Nat.le_refl _) (.slice none 0 0); generalize hW9 : (W1.setCell ⟨W.heap.size, 26, none⟩ (.slice none 0 0)) = W9 at *; clear hW9; have HE9 := Aside0.mk hE9; have HZ9 := Aside0.mk hZ9; have HB9 := Aside0.mk hB9; clear hE9 hZ9 hB9; refine hd_run rfl (v := .agg (evC ({ e with body := [] }) A2 A7 none c2 c7 0).toArray) (w1 := W9) (pick_loadRow rfl W.heap.size rfl 30 _ (0, 0) _ HE9.out hu30 rfl hi30) ?_
    | (with_reducible refine hd_gateS 2 _ _ rfl ?_); refine hd_runS rfl (w1 := W9.setRow (W.heap.size + 1) (evC ({ e with body := [] }) A2 A7 none c2 c7 0).toArray) (pick_store rfl (W.heap.size + 1) (evC ({ e with body := [] }) A2 A7 none c2 c7 0).toArray rfl rfl 30 Z HZ9.out hi30 sz (by simp [evC, Value.oneCell'])) ?_)
  have hfin := setRow_heap W9 (W.heap.size + 1) Z (evC ({ e with body := [] }) A2 A7 none c2 c7 0).toArray 30 (0, 0) HZ9.out
  have hbel := below_setRow HB9.out (Nat.le_succ W.heap.size) (evC ({ e with body := [] }) A2 A7 none c2 c7 0).toArray
  generalize W9.setRow (W.heap.size + 1) (evC ({ e with body := [] }) A2 A7 none c2 c7 0).toArray = W10 at *
  refine bodyPost_ret (v := .tuple #[.agg (evC ({ e with body := [] }) A2 A7 none c2 c7 0).toArray, .bool (decide ((e.body.length : Int) ≤ 1700))]) ?hr rfl ?_
  case hr =>
    rw [results_cell_tmp rfl]
    simp [asAddr, run_loadVar_row W10 (W.heap.size + 1) 30 30 _ (0, 0) _ hfin hu30 rfl hi30]
  exact ⟨rfl, hbel⟩
set_option maxHeartbeats 8000000 in
theorem left4_calls (e : Ev) (W : World) (A2 A7 A8 : Option Addr) (c2 c7 c8 : Nat) (h : EvAt e W A2 A7 A8 c2 c7 c8) (hk : e.k = 4) :
    Calls Try.prog 33 #[.agg (evC e A2 A7 A8 c2 c7 c8).toArray] W fun r W' => r = .returned (.tuple #[.agg (evC ({ e with c := zCnf }) A2 A7 A8 c2 c7 c8).toArray, .bool (cnfOK e.c)]) ∧ Below W.heap.size W W' := by
  have hu30 := Try.underlying30
  have hi30 : (Try.prog.info? 30).map (·.size) = some 27 := by kernel_rfl
  obtain ⟨Z, hZ⟩ : ∃ Z : Array Value, Z = #[.int .i64 0, .int .i64 0, .int .i64 0, .int .i64 0, .int .i64 0, .int .i64 0, .int .i64 0, .int .i64 0, .slice none 0 0, .int .i64 0, .int .i64 0, .int .i64 0, .int .i64 0, .slice none 0 0, .int .i64 0, .int .i64 0, .int .i64 0, .int .i64 0, .int .i64 0, .int .i64 0, .int .i64 0, .int .i64 0, .int .i64 0, .int .i64 0, .int .i64 0, .int .i64 0, .slice none 0 0] := ⟨_, rfl⟩
  have hz30 : ∀ W, (zeroValue 30).run Try.prog W = .ok (.agg Z) W := by rw [hZ]; exact fun W => by kernel_rfl
  have sz : Z.size = 27 := by rw [hZ]; rfl
  clear hZ
  go_enter Try.func33, Try.ntmps33
  go_upto_region 1 with fail
  have hB0 : Below W.heap.size W ((W.alloc (.cells (evC e A2 A7 A8 c2 c7 c8).toArray 30)).alloc (.cells Z 30)) := below_alloc (below_alloc (Below.refl _ _) _) _
  have hb1 := pick_new W (.cells (evC e A2 A7 A8 c2 c7 c8).toArray 30)
  have hb2 := pick_new (W.alloc (.cells (evC e A2 A7 A8 c2 c7 c8).toArray 30)) (.cells Z 30)
  simp only [World.size_alloc] at hb2
  have hb1' := hd_later hb1 (below_alloc (Below.refl _ _) (.cells Z 30))
  have H1 := Aside0.mk (h.later hB0)
  generalize (W.alloc (.cells (evC e A2 A7 A8 c2 c7 c8).toArray 30)).alloc (.cells Z 30) = W1 at *
  have B0 := Aside0.mk hB0
  have B1 := Aside0.mk hb1'
  have BZ := Aside0.mk hb2
  clear hB0 hb1 hb1' hb2 h
  have d0 : W1.cell? ⟨W.heap.size, 0, none⟩ = some (.int .i64 e.k) := evC_at B1.out 0 rfl
  have df0 : W1.frozen? ⟨W.heap.size, 0, none⟩ = false := not_frozen B1.out 0
  have b1 : (e.k == 1) = false := beq_eq_false_iff_ne.2 (by omega)
  have b2 : (e.k == 2) = false := beq_eq_false_iff_ne.2 (by omega)
  have b3 : (e.k == 3) = false := beq_eq_false_iff_ne.2 (by omega)
  have b4 : (e.k == 4) = true := beq_iff_eq.2 hk
  clear hk
  have hu27 := Try.underlying27
  have hi27 : (Try.prog.info? 27).map (·.size) = some 12 := by kernel_rfl
  have hz27 : ∀ W, (zeroValue 27).run Try.prog W = .ok (.agg #[.int .i64 0, .int .i64 0, .int .i64 0, .int .i64 0, .int .i64 0, .int .i64 0, .int .i64 0, .int .i64 0, .int .i64 0, .int .i64 0, .int .i64 0, .int .i64 0]) W := fun W => by kernel_rfl
  go_wp2_with (first
    | (with_reducible refine hd_gate 40 rfl ?_); refine hd_run rfl (v := .agg #[.int .i64 e.c.mi, .int .i64 e.c.ma, .int .i64 e.c.ra, .int .i64 e.c.st, .int .i64 e.c.ca, .int .i64 e.c.de, .int .i64 e.c.sl, .int .i64 e.c.wi, .int .i64 e.c.mg, .int .i64 e.c.ce, .int .i64 e.c.pr, .int .i64 e.c.br]) (w1 := W1) (pick_load rfl rfl (pick_loadAt W1 ⟨W.heap.size, 14, none⟩ 27 [.int .i64 e.c.mi, .int .i64 e.c.ma, .int .i64 e.c.ra, .int .i64 e.c.st, .int .i64 e.c.ca, .int .i64 e.c.de, .int .i64 e.c.sl, .int .i64 e.c.wi, .int .i64 e.c.mg, .int .i64 e.c.ce, .int .i64 e.c.pr, .int .i64 e.c.br] _ (seg_at B1.out 14 12) hu27 rfl hi27)) ?_)
  refine (event_Conf.calls e.c.mi e.c.ma e.c.ra e.c.st e.c.ca e.c.de e.c.sl e.c.wi e.c.mg e.c.ce e.c.pr e.c.br (cnfOK e.c) W1 (conf_f e.c)).mono ?_
  rintro r_ w2 ⟨rfl, hb⟩
  have B0w2 := Aside0.mk (B0.out.trans (hb.mono B0.out.size))
  have BLw2 := Aside0.mk hb
  have B1w2 := Aside0.mk (hd_later B1.out hb)
  have BZw2 := Aside0.mk (hd_later BZ.out hb)
  clear hb
  go_wp2_with (first
    | (with_reducible refine hd_gateS 43 _ _ rfl ?_); refine wpList_store_mid rfl 27 _ _ rfl W.heap.size 14 #[.int .i64 0, .int .i64 0, .int .i64 0, .int .i64 0, .int .i64 0, .int .i64 0, .int .i64 0, .int .i64 0, .int .i64 0, .int .i64 0, .int .i64 0, .int .i64 0] rfl rfl (there_of B1w2.out 14 12 (by simp [evC])) hi27 (by simp [Value.oneCell']) ?_
    | (with_reducible refine hd_gate 70 rfl ?_); have hE9 : (w2.setCells W.heap.size 14 [.int .i64 0, .int .i64 0, .int .i64 0, .int .i64 0, .int .i64 0, .int .i64 0, .int .i64 0, .int .i64 0, .int .i64 0, .int .i64 0, .int .i64 0, .int .i64 0]).heap[W.heap.size]? = some (.cells (evC ({ e with c := zCnf }) A2 A7 A8 c2 c7 c8).toArray 30 (0, 0)) := setCells_heap [.int .i64 0, .int .i64 0, .int .i64 0, .int .i64 0, .int .i64 0, .int .i64 0, .int .i64 0, .int .i64 0, .int .i64 0, .int .i64 0, .int .i64 0, .int .i64 0] 14 w2 _ _ (put4 e A2 A7 A8 c2 c7 c8) (B1w2.out); have hZ9 : (w2.setCells W.heap.size 14 [.int .i64 0, .int .i64 0, .int .i64 0, .int .i64 0, .int .i64 0, .int .i64 0, .int .i64 0, .int .i64 0, .int .i64 0, .int .i64 0, .int .i64 0, .int .i64 0]).heap[W.heap.size + 1]? = some (.cells Z 30 (0, 0)) := ((setCells_other (by simp) [.int .i64 0, .int .i64 0, .int .i64 0, .int .i64 0, .int .i64 0, .int .i64 0, .int .i64 0, .int .i64 0, .int .i64 0, .int .i64 0, .int .i64 0, .int .i64 0] 14 w2).trans (BZw2.out)); have hB9 : Below W.heap.size W (w2.setCells W.heap.size 14 [.int .i64 0, .int .i64 0, .int .i64 0, .int .i64 0, .int .i64 0, .int .i64 0, .int .i64 0, .int .i64 0, .int .i64 0, .int .i64 0, .int .i64 0, .int .i64 0]) := setCells_below (Nat.le_refl _) [.int .i64 0, .int .i64 0, .int .i64 0, .int .i64 0, .int .i64 0, .int .i64 0, .int .i64 0, .int .i64 0, .int .i64 0, .int .i64 0, .int .i64 0, .int .i64 0] 14 w2 (B0w2.out); generalize hW9 : (w2.setCells W.heap.size 14 [.int .i64 0, .int .i64 0, .int .i64 0, .int .i64 0, .int .i64 0, .int .i64 0, .int .i64 0, .int .i64 0, .int .i64 0, .int .i64 0, .int .i64 0, .int .i64 0]) = W9 at *; clear hW9; have HE9 := Aside0.mk hE9; have HZ9 := Aside0.mk hZ9; have HB9 := Aside0.mk hB9; clear hE9 hZ9 hB9; refine hd_run rfl (v := .agg (evC ({ e with c := zCnf }) A2 A7 A8 c2 c7 c8).toArray) (w1 := W9) (pick_loadRow rfl W.heap.size rfl 30 _ (0, 0) _ HE9.out hu30 rfl hi30) ?_
    | (with_reducible refine hd_gateS 2 _ _ rfl ?_); refine hd_runS rfl (w1 := W9.setRow (W.heap.size + 1) (evC ({ e with c := zCnf }) A2 A7 A8 c2 c7 c8).toArray) (pick_store rfl (W.heap.size + 1) (evC ({ e with c := zCnf }) A2 A7 A8 c2 c7 c8).toArray rfl rfl 30 Z HZ9.out hi30 sz (by simp [evC, Value.oneCell'])) ?_)
  have hfin := setRow_heap W9 (W.heap.size + 1) Z (evC ({ e with c := zCnf }) A2 A7 A8 c2 c7 c8).toArray 30 (0, 0) HZ9.out
  have hbel := below_setRow HB9.out (Nat.le_succ W.heap.size) (evC ({ e with c := zCnf }) A2 A7 A8 c2 c7 c8).toArray
  generalize W9.setRow (W.heap.size + 1) (evC ({ e with c := zCnf }) A2 A7 A8 c2 c7 c8).toArray = W10 at *
  refine bodyPost_ret (v := .tuple #[.agg (evC ({ e with c := zCnf }) A2 A7 A8 c2 c7 c8).toArray, .bool (cnfOK e.c)]) ?hr rfl ?_
  case hr =>
    rw [results_cell_tmp rfl]
    simp [asAddr, run_loadVar_row W10 (W.heap.size + 1) 30 30 _ (0, 0) _ hfin hu30 rfl hi30]
  exact ⟨rfl, hbel⟩
set_option maxHeartbeats 8000000 in
theorem left3_calls (e : Ev) (W : World) (A2 A7 A8 : Option Addr) (c2 c7 c8 : Nat) (h : EvAt e W A2 A7 A8 c2 c7 c8) (hk : e.k = 3) :
    Calls Try.prog 33 #[.agg (evC e A2 A7 A8 c2 c7 c8).toArray] W fun r W' => r = .returned (.tuple #[.agg (evC ({ e with id := 0, pol := zPol }) none none A8 0 0 c8).toArray, .bool (inR e.id 0 3 && (policyF e.pol || (e.id != 0 && zeroP e.pol)))]) ∧ Below W.heap.size W W' := by
  have hu30 := Try.underlying30
  have hi30 : (Try.prog.info? 30).map (·.size) = some 27 := by kernel_rfl
  obtain ⟨Z, hZ⟩ : ∃ Z : Array Value, Z = #[.int .i64 0, .int .i64 0, .int .i64 0, .int .i64 0, .int .i64 0, .int .i64 0, .int .i64 0, .int .i64 0, .slice none 0 0, .int .i64 0, .int .i64 0, .int .i64 0, .int .i64 0, .slice none 0 0, .int .i64 0, .int .i64 0, .int .i64 0, .int .i64 0, .int .i64 0, .int .i64 0, .int .i64 0, .int .i64 0, .int .i64 0, .int .i64 0, .int .i64 0, .int .i64 0, .slice none 0 0] := ⟨_, rfl⟩
  have hz30 : ∀ W, (zeroValue 30).run Try.prog W = .ok (.agg Z) W := by rw [hZ]; exact fun W => by kernel_rfl
  have sz : Z.size = 27 := by rw [hZ]; rfl
  clear hZ
  go_enter Try.func33, Try.ntmps33
  go_upto_region 1 with fail
  have hB0 : Below W.heap.size W ((W.alloc (.cells (evC e A2 A7 A8 c2 c7 c8).toArray 30)).alloc (.cells Z 30)) := below_alloc (below_alloc (Below.refl _ _) _) _
  have hb1 := pick_new W (.cells (evC e A2 A7 A8 c2 c7 c8).toArray 30)
  have hb2 := pick_new (W.alloc (.cells (evC e A2 A7 A8 c2 c7 c8).toArray 30)) (.cells Z 30)
  simp only [World.size_alloc] at hb2
  have hb1' := hd_later hb1 (below_alloc (Below.refl _ _) (.cells Z 30))
  have H1 := Aside0.mk (h.later hB0)
  generalize (W.alloc (.cells (evC e A2 A7 A8 c2 c7 c8).toArray 30)).alloc (.cells Z 30) = W1 at *
  have B0 := Aside0.mk hB0
  have B1 := Aside0.mk hb1'
  have BZ := Aside0.mk hb2
  clear hB0 hb1 hb1' hb2 h
  have d0 : W1.cell? ⟨W.heap.size, 0, none⟩ = some (.int .i64 e.k) := evC_at B1.out 0 rfl
  have df0 : W1.frozen? ⟨W.heap.size, 0, none⟩ = false := not_frozen B1.out 0
  have d4 : W1.cell? ⟨W.heap.size, 4, none⟩ = some (.int .i64 e.id) := evC_at B1.out 4 rfl
  have df4 : W1.frozen? ⟨W.heap.size, 4, none⟩ = false := not_frozen B1.out 4
  have b1 : (e.k == 1) = false := beq_eq_false_iff_ne.2 (by omega)
  have b2 : (e.k == 2) = false := beq_eq_false_iff_ne.2 (by omega)
  have b3 : (e.k == 3) = true := beq_iff_eq.2 hk
  clear hk
  have hu25 := Try.underlying25
  have hi25 : (Try.prog.info? 25).map (·.size) = some 8 := by kernel_rfl
  have hz25 : ∀ W, (zeroValue 25).run Try.prog W = .ok (.agg #[.int .i64 0, .int .i64 0, .slice none 0 0, .int .i64 0, .int .i64 0, .int .i64 0, .int .i64 0, .slice none 0 0]) W := fun W => by kernel_rfl
  go_wp2_with fail
  refine (inI e.id 0 3 W1).mono ?_
  rintro r_ w2 ⟨rfl, hb⟩
  have B0w2 := Aside0.mk (B0.out.trans (hb.mono B0.out.size))
  have BLw2 := Aside0.mk hb
  have B1w2 := Aside0.mk (hd_later B1.out hb)
  have BZw2 := Aside0.mk (hd_later BZ.out hb)
  clear hb
  have dw24 : w2.cell? ⟨W.heap.size, 4, none⟩ = some (.int .i64 e.id) := evC_at B1w2.out 4 rfl
  have dw2f4 : w2.frozen? ⟨W.heap.size, 4, none⟩ = false := not_frozen B1w2.out 4
  have Hw2 := Aside0.mk (show PolAt e.pol w2 A2 A7 c2 c7 from (H1.out.pol.later (BLw2.out)))
  cases hi : inR e.id 0 3
  · have HI := Aside0.mk hi
    clear hi
    go_wp2_with (first
      | (with_reducible refine hd_gateS 36 _ _ rfl ?_); refine wpList_store_mid rfl 25 _ _ rfl W.heap.size 6 #[.int .i64 0, .int .i64 0, .slice none 0 0, .int .i64 0, .int .i64 0, .int .i64 0, .int .i64 0, .slice none 0 0] rfl rfl (there_of (blk_put B1w2.out 4 (.int .i64 0) rfl) 6 8 (by simp [evC])) hi25 (by simp [Value.oneCell']) ?_
      | (with_reducible refine hd_gate 70 rfl ?_); have hE9 : ((w2.setCell ⟨W.heap.size, 4, none⟩ (.int .i64 0)).setCells W.heap.size 6 [.int .i64 0, .int .i64 0, .slice none 0 0, .int .i64 0, .int .i64 0, .int .i64 0, .int .i64 0, .slice none 0 0]).heap[W.heap.size]? = some (.cells (evC ({ e with id := 0, pol := zPol }) none none A8 0 0 c8).toArray 30 (0, 0)) := setCells_heap [.int .i64 0, .int .i64 0, .slice none 0 0, .int .i64 0, .int .i64 0, .int .i64 0, .int .i64 0, .slice none 0 0] 6 (w2.setCell ⟨W.heap.size, 4, none⟩ (.int .i64 0)) _ _ (put3 e A2 A7 A8 c2 c7 c8) (blk_put (B1w2.out) 4 (.int .i64 0) rfl); have hZ9 : ((w2.setCell ⟨W.heap.size, 4, none⟩ (.int .i64 0)).setCells W.heap.size 6 [.int .i64 0, .int .i64 0, .slice none 0 0, .int .i64 0, .int .i64 0, .int .i64 0, .int .i64 0, .slice none 0 0]).heap[W.heap.size + 1]? = some (.cells Z 30 (0, 0)) := ((setCells_other (by simp) [.int .i64 0, .int .i64 0, .slice none 0 0, .int .i64 0, .int .i64 0, .int .i64 0, .int .i64 0, .slice none 0 0] 6 (w2.setCell ⟨W.heap.size, 4, none⟩ (.int .i64 0))).trans (((Below.heap_setCell w2 ⟨W.heap.size, 4, none⟩ (.int .i64 0) (W.heap.size + 1) (by simp)).trans (BZw2.out)))); have hB9 : Below W.heap.size W ((w2.setCell ⟨W.heap.size, 4, none⟩ (.int .i64 0)).setCells W.heap.size 6 [.int .i64 0, .int .i64 0, .slice none 0 0, .int .i64 0, .int .i64 0, .int .i64 0, .int .i64 0, .slice none 0 0]) := setCells_below (Nat.le_refl _) [.int .i64 0, .int .i64 0, .slice none 0 0, .int .i64 0, .int .i64 0, .int .i64 0, .int .i64 0, .slice none 0 0] 6 (w2.setCell ⟨W.heap.size, 4, none⟩ (.int .i64 0)) (Below.setCell (B0w2.out) (Nat.le_refl _) (.int .i64 0)); generalize hW9 : ((w2.setCell ⟨W.heap.size, 4, none⟩ (.int .i64 0)).setCells W.heap.size 6 [.int .i64 0, .int .i64 0, .slice none 0 0, .int .i64 0, .int .i64 0, .int .i64 0, .int .i64 0, .slice none 0 0]) = W9 at *; clear hW9; have HE9 := Aside0.mk hE9; have HZ9 := Aside0.mk hZ9; have HB9 := Aside0.mk hB9; clear hE9 hZ9 hB9; refine hd_run rfl (v := .agg (evC ({ e with id := 0, pol := zPol }) none none A8 0 0 c8).toArray) (w1 := W9) (pick_loadRow rfl W.heap.size rfl 30 _ (0, 0) _ HE9.out hu30 rfl hi30) ?_
      | (with_reducible refine hd_gateS 2 _ _ rfl ?_); refine hd_runS rfl (w1 := W9.setRow (W.heap.size + 1) (evC ({ e with id := 0, pol := zPol }) none none A8 0 0 c8).toArray) (pick_store rfl (W.heap.size + 1) (evC ({ e with id := 0, pol := zPol }) none none A8 0 0 c8).toArray rfl rfl 30 Z HZ9.out hi30 sz (by simp [evC, Value.oneCell'])) ?_)
    have hfin := setRow_heap W9 (W.heap.size + 1) Z (evC ({ e with id := 0, pol := zPol }) none none A8 0 0 c8).toArray 30 (0, 0) HZ9.out
    have hbel := below_setRow HB9.out (Nat.le_succ W.heap.size) (evC ({ e with id := 0, pol := zPol }) none none A8 0 0 c8).toArray
    generalize W9.setRow (W.heap.size + 1) (evC ({ e with id := 0, pol := zPol }) none none A8 0 0 c8).toArray = W10 at *
    refine bodyPost_ret (v := .tuple #[.agg (evC ({ e with id := 0, pol := zPol }) none none A8 0 0 c8).toArray, .bool (false)]) ?hr rfl ?_
    case hr =>
      rw [results_cell_tmp rfl]
      simp [asAddr, run_loadVar_row W10 (W.heap.size + 1) 30 30 _ (0, 0) _ hfin hu30 rfl hi30]
    exact ⟨by rw [HI.out]; rfl, hbel⟩
  have HI := Aside0.mk hi
  clear hi
  go_wp2_with (first
    | (with_reducible refine hd_gate 21 rfl ?_); refine hd_run rfl (v := .agg (polC e.pol A2 A7 c2 c7).toArray) (w1 := w2) (pick_load rfl rfl (pick_loadAt w2 ⟨W.heap.size, 6, none⟩ 25 (polC e.pol A2 A7 c2 c7) _ (seg_at B1w2.out 6 8) hu25 rfl hi25)) ?_)
  refine (policy_calls e.pol w2 A2 A7 c2 c7 Hw2.out).mono ?_
  rintro r_ w3 ⟨rfl, hb⟩
  have B0w3 := Aside0.mk (B0w2.out.trans (hb.mono B0w2.out.size))
  have BLw3 := Aside0.mk hb
  have B1w3 := Aside0.mk (hd_later B1w2.out hb)
  have BZw3 := Aside0.mk (hd_later BZw2.out hb)
  clear hb
  have dw34 : w3.cell? ⟨W.heap.size, 4, none⟩ = some (.int .i64 e.id) := evC_at B1w3.out 4 rfl
  have dw3f4 : w3.frozen? ⟨W.heap.size, 4, none⟩ = false := not_frozen B1w3.out 4
  cases hp : policyF e.pol
  rotate_left
  · have HP := Aside0.mk hp
    clear hp
    go_wp2_with (first
      | (with_reducible refine hd_gateS 36 _ _ rfl ?_); refine wpList_store_mid rfl 25 _ _ rfl W.heap.size 6 #[.int .i64 0, .int .i64 0, .slice none 0 0, .int .i64 0, .int .i64 0, .int .i64 0, .int .i64 0, .slice none 0 0] rfl rfl (there_of (blk_put B1w3.out 4 (.int .i64 0) rfl) 6 8 (by simp [evC])) hi25 (by simp [Value.oneCell']) ?_
      | (with_reducible refine hd_gate 70 rfl ?_); have hE9 : ((w3.setCell ⟨W.heap.size, 4, none⟩ (.int .i64 0)).setCells W.heap.size 6 [.int .i64 0, .int .i64 0, .slice none 0 0, .int .i64 0, .int .i64 0, .int .i64 0, .int .i64 0, .slice none 0 0]).heap[W.heap.size]? = some (.cells (evC ({ e with id := 0, pol := zPol }) none none A8 0 0 c8).toArray 30 (0, 0)) := setCells_heap [.int .i64 0, .int .i64 0, .slice none 0 0, .int .i64 0, .int .i64 0, .int .i64 0, .int .i64 0, .slice none 0 0] 6 (w3.setCell ⟨W.heap.size, 4, none⟩ (.int .i64 0)) _ _ (put3 e A2 A7 A8 c2 c7 c8) (blk_put (B1w3.out) 4 (.int .i64 0) rfl); have hZ9 : ((w3.setCell ⟨W.heap.size, 4, none⟩ (.int .i64 0)).setCells W.heap.size 6 [.int .i64 0, .int .i64 0, .slice none 0 0, .int .i64 0, .int .i64 0, .int .i64 0, .int .i64 0, .slice none 0 0]).heap[W.heap.size + 1]? = some (.cells Z 30 (0, 0)) := ((setCells_other (by simp) [.int .i64 0, .int .i64 0, .slice none 0 0, .int .i64 0, .int .i64 0, .int .i64 0, .int .i64 0, .slice none 0 0] 6 (w3.setCell ⟨W.heap.size, 4, none⟩ (.int .i64 0))).trans (((Below.heap_setCell w3 ⟨W.heap.size, 4, none⟩ (.int .i64 0) (W.heap.size + 1) (by simp)).trans (BZw3.out)))); have hB9 : Below W.heap.size W ((w3.setCell ⟨W.heap.size, 4, none⟩ (.int .i64 0)).setCells W.heap.size 6 [.int .i64 0, .int .i64 0, .slice none 0 0, .int .i64 0, .int .i64 0, .int .i64 0, .int .i64 0, .slice none 0 0]) := setCells_below (Nat.le_refl _) [.int .i64 0, .int .i64 0, .slice none 0 0, .int .i64 0, .int .i64 0, .int .i64 0, .int .i64 0, .slice none 0 0] 6 (w3.setCell ⟨W.heap.size, 4, none⟩ (.int .i64 0)) (Below.setCell (B0w3.out) (Nat.le_refl _) (.int .i64 0)); generalize hW9 : ((w3.setCell ⟨W.heap.size, 4, none⟩ (.int .i64 0)).setCells W.heap.size 6 [.int .i64 0, .int .i64 0, .slice none 0 0, .int .i64 0, .int .i64 0, .int .i64 0, .int .i64 0, .slice none 0 0]) = W9 at *; clear hW9; have HE9 := Aside0.mk hE9; have HZ9 := Aside0.mk hZ9; have HB9 := Aside0.mk hB9; clear hE9 hZ9 hB9; refine hd_run rfl (v := .agg (evC ({ e with id := 0, pol := zPol }) none none A8 0 0 c8).toArray) (w1 := W9) (pick_loadRow rfl W.heap.size rfl 30 _ (0, 0) _ HE9.out hu30 rfl hi30) ?_
      | (with_reducible refine hd_gateS 2 _ _ rfl ?_); refine hd_runS rfl (w1 := W9.setRow (W.heap.size + 1) (evC ({ e with id := 0, pol := zPol }) none none A8 0 0 c8).toArray) (pick_store rfl (W.heap.size + 1) (evC ({ e with id := 0, pol := zPol }) none none A8 0 0 c8).toArray rfl rfl 30 Z HZ9.out hi30 sz (by simp [evC, Value.oneCell'])) ?_)
    have hfin := setRow_heap W9 (W.heap.size + 1) Z (evC ({ e with id := 0, pol := zPol }) none none A8 0 0 c8).toArray 30 (0, 0) HZ9.out
    have hbel := below_setRow HB9.out (Nat.le_succ W.heap.size) (evC ({ e with id := 0, pol := zPol }) none none A8 0 0 c8).toArray
    generalize W9.setRow (W.heap.size + 1) (evC ({ e with id := 0, pol := zPol }) none none A8 0 0 c8).toArray = W10 at *
    refine bodyPost_ret (v := .tuple #[.agg (evC ({ e with id := 0, pol := zPol }) none none A8 0 0 c8).toArray, .bool (true)]) ?hrx rfl ?_
    case hrx =>
      rw [results_cell_tmp rfl]
      simp [asAddr, run_loadVar_row W10 (W.heap.size + 1) 30 30 _ (0, 0) _ hfin hu30 rfl hi30]
    exact ⟨by rw [HI.out, HP.out]; rfl, hbel⟩
  have HP := Aside0.mk hp
  clear hp
  cases hn : (e.id != 0)
  · have HN := Aside0.mk hn
    go_wp2_with (first
      | (with_reducible refine hd_gateS 36 _ _ rfl ?_); refine wpList_store_mid rfl 25 _ _ rfl W.heap.size 6 #[.int .i64 0, .int .i64 0, .slice none 0 0, .int .i64 0, .int .i64 0, .int .i64 0, .int .i64 0, .slice none 0 0] rfl rfl (there_of (blk_put B1w3.out 4 (.int .i64 0) rfl) 6 8 (by simp [evC])) hi25 (by simp [Value.oneCell']) ?_
      | (with_reducible refine hd_gate 70 rfl ?_); have hE9 : ((w3.setCell ⟨W.heap.size, 4, none⟩ (.int .i64 0)).setCells W.heap.size 6 [.int .i64 0, .int .i64 0, .slice none 0 0, .int .i64 0, .int .i64 0, .int .i64 0, .int .i64 0, .slice none 0 0]).heap[W.heap.size]? = some (.cells (evC ({ e with id := 0, pol := zPol }) none none A8 0 0 c8).toArray 30 (0, 0)) := setCells_heap [.int .i64 0, .int .i64 0, .slice none 0 0, .int .i64 0, .int .i64 0, .int .i64 0, .int .i64 0, .slice none 0 0] 6 (w3.setCell ⟨W.heap.size, 4, none⟩ (.int .i64 0)) _ _ (put3 e A2 A7 A8 c2 c7 c8) (blk_put (B1w3.out) 4 (.int .i64 0) rfl); have hZ9 : ((w3.setCell ⟨W.heap.size, 4, none⟩ (.int .i64 0)).setCells W.heap.size 6 [.int .i64 0, .int .i64 0, .slice none 0 0, .int .i64 0, .int .i64 0, .int .i64 0, .int .i64 0, .slice none 0 0]).heap[W.heap.size + 1]? = some (.cells Z 30 (0, 0)) := ((setCells_other (by simp) [.int .i64 0, .int .i64 0, .slice none 0 0, .int .i64 0, .int .i64 0, .int .i64 0, .int .i64 0, .slice none 0 0] 6 (w3.setCell ⟨W.heap.size, 4, none⟩ (.int .i64 0))).trans (((Below.heap_setCell w3 ⟨W.heap.size, 4, none⟩ (.int .i64 0) (W.heap.size + 1) (by simp)).trans (BZw3.out)))); have hB9 : Below W.heap.size W ((w3.setCell ⟨W.heap.size, 4, none⟩ (.int .i64 0)).setCells W.heap.size 6 [.int .i64 0, .int .i64 0, .slice none 0 0, .int .i64 0, .int .i64 0, .int .i64 0, .int .i64 0, .slice none 0 0]) := setCells_below (Nat.le_refl _) [.int .i64 0, .int .i64 0, .slice none 0 0, .int .i64 0, .int .i64 0, .int .i64 0, .int .i64 0, .slice none 0 0] 6 (w3.setCell ⟨W.heap.size, 4, none⟩ (.int .i64 0)) (Below.setCell (B0w3.out) (Nat.le_refl _) (.int .i64 0)); generalize hW9 : ((w3.setCell ⟨W.heap.size, 4, none⟩ (.int .i64 0)).setCells W.heap.size 6 [.int .i64 0, .int .i64 0, .slice none 0 0, .int .i64 0, .int .i64 0, .int .i64 0, .int .i64 0, .slice none 0 0]) = W9 at *; clear hW9; have HE9 := Aside0.mk hE9; have HZ9 := Aside0.mk hZ9; have HB9 := Aside0.mk hB9; clear hE9 hZ9 hB9; refine hd_run rfl (v := .agg (evC ({ e with id := 0, pol := zPol }) none none A8 0 0 c8).toArray) (w1 := W9) (pick_loadRow rfl W.heap.size rfl 30 _ (0, 0) _ HE9.out hu30 rfl hi30) ?_
      | (with_reducible refine hd_gateS 2 _ _ rfl ?_); refine hd_runS rfl (w1 := W9.setRow (W.heap.size + 1) (evC ({ e with id := 0, pol := zPol }) none none A8 0 0 c8).toArray) (pick_store rfl (W.heap.size + 1) (evC ({ e with id := 0, pol := zPol }) none none A8 0 0 c8).toArray rfl rfl 30 Z HZ9.out hi30 sz (by simp [evC, Value.oneCell'])) ?_)
    have hfin := setRow_heap W9 (W.heap.size + 1) Z (evC ({ e with id := 0, pol := zPol }) none none A8 0 0 c8).toArray 30 (0, 0) HZ9.out
    have hbel := below_setRow HB9.out (Nat.le_succ W.heap.size) (evC ({ e with id := 0, pol := zPol }) none none A8 0 0 c8).toArray
    generalize W9.setRow (W.heap.size + 1) (evC ({ e with id := 0, pol := zPol }) none none A8 0 0 c8).toArray = W10 at *
    refine bodyPost_ret (v := .tuple #[.agg (evC ({ e with id := 0, pol := zPol }) none none A8 0 0 c8).toArray, .bool (false)]) ?hrxx rfl ?_
    case hrxx =>
      rw [results_cell_tmp rfl]
      simp [asAddr, run_loadVar_row W10 (W.heap.size + 1) 30 30 _ (0, 0) _ hfin hu30 rfl hi30]
    exact ⟨by rw [HI.out, HP.out, HN.out]; rfl, hbel⟩
  have HN := Aside0.mk hn
  go_wp2_with (first
    | (with_reducible refine hd_gate 29 rfl ?_); refine hd_run rfl (v := .agg (polC e.pol A2 A7 c2 c7).toArray) (w1 := w3) (pick_load rfl rfl (pick_loadAt w3 ⟨W.heap.size, 6, none⟩ 25 (polC e.pol A2 A7 c2 c7) _ (seg_at B1w3.out 6 8) hu25 rfl hi25)) ?_)
  refine (zero_all e.pol w3 A2 A7 c2 c7 (Hw2.out.later BLw3.out)).mono ?_
  rintro r_ w4 ⟨rfl, hb⟩
  have B0w4 := Aside0.mk (B0w3.out.trans (hb.mono B0w3.out.size))
  have B1w4 := Aside0.mk (hd_later B1w3.out hb)
  have BZw4 := Aside0.mk (hd_later BZw3.out hb)
  clear hb
  have dw44 : w4.cell? ⟨W.heap.size, 4, none⟩ = some (.int .i64 e.id) := evC_at B1w4.out 4 rfl
  have dw4f4 : w4.frozen? ⟨W.heap.size, 4, none⟩ = false := not_frozen B1w4.out 4
  go_wp2_with (first
    | (with_reducible refine hd_gateS 36 _ _ rfl ?_); refine wpList_store_mid rfl 25 _ _ rfl W.heap.size 6 #[.int .i64 0, .int .i64 0, .slice none 0 0, .int .i64 0, .int .i64 0, .int .i64 0, .int .i64 0, .slice none 0 0] rfl rfl (there_of (blk_put B1w4.out 4 (.int .i64 0) rfl) 6 8 (by simp [evC])) hi25 (by simp [Value.oneCell']) ?_
    | (with_reducible refine hd_gate 70 rfl ?_); have hE9 : ((w4.setCell ⟨W.heap.size, 4, none⟩ (.int .i64 0)).setCells W.heap.size 6 [.int .i64 0, .int .i64 0, .slice none 0 0, .int .i64 0, .int .i64 0, .int .i64 0, .int .i64 0, .slice none 0 0]).heap[W.heap.size]? = some (.cells (evC ({ e with id := 0, pol := zPol }) none none A8 0 0 c8).toArray 30 (0, 0)) := setCells_heap [.int .i64 0, .int .i64 0, .slice none 0 0, .int .i64 0, .int .i64 0, .int .i64 0, .int .i64 0, .slice none 0 0] 6 (w4.setCell ⟨W.heap.size, 4, none⟩ (.int .i64 0)) _ _ (put3 e A2 A7 A8 c2 c7 c8) (blk_put (B1w4.out) 4 (.int .i64 0) rfl); have hZ9 : ((w4.setCell ⟨W.heap.size, 4, none⟩ (.int .i64 0)).setCells W.heap.size 6 [.int .i64 0, .int .i64 0, .slice none 0 0, .int .i64 0, .int .i64 0, .int .i64 0, .int .i64 0, .slice none 0 0]).heap[W.heap.size + 1]? = some (.cells Z 30 (0, 0)) := ((setCells_other (by simp) [.int .i64 0, .int .i64 0, .slice none 0 0, .int .i64 0, .int .i64 0, .int .i64 0, .int .i64 0, .slice none 0 0] 6 (w4.setCell ⟨W.heap.size, 4, none⟩ (.int .i64 0))).trans (((Below.heap_setCell w4 ⟨W.heap.size, 4, none⟩ (.int .i64 0) (W.heap.size + 1) (by simp)).trans (BZw4.out)))); have hB9 : Below W.heap.size W ((w4.setCell ⟨W.heap.size, 4, none⟩ (.int .i64 0)).setCells W.heap.size 6 [.int .i64 0, .int .i64 0, .slice none 0 0, .int .i64 0, .int .i64 0, .int .i64 0, .int .i64 0, .slice none 0 0]) := setCells_below (Nat.le_refl _) [.int .i64 0, .int .i64 0, .slice none 0 0, .int .i64 0, .int .i64 0, .int .i64 0, .int .i64 0, .slice none 0 0] 6 (w4.setCell ⟨W.heap.size, 4, none⟩ (.int .i64 0)) (Below.setCell (B0w4.out) (Nat.le_refl _) (.int .i64 0)); generalize hW9 : ((w4.setCell ⟨W.heap.size, 4, none⟩ (.int .i64 0)).setCells W.heap.size 6 [.int .i64 0, .int .i64 0, .slice none 0 0, .int .i64 0, .int .i64 0, .int .i64 0, .int .i64 0, .slice none 0 0]) = W9 at *; clear hW9; have HE9 := Aside0.mk hE9; have HZ9 := Aside0.mk hZ9; have HB9 := Aside0.mk hB9; clear hE9 hZ9 hB9; refine hd_run rfl (v := .agg (evC ({ e with id := 0, pol := zPol }) none none A8 0 0 c8).toArray) (w1 := W9) (pick_loadRow rfl W.heap.size rfl 30 _ (0, 0) _ HE9.out hu30 rfl hi30) ?_
    | (with_reducible refine hd_gateS 2 _ _ rfl ?_); refine hd_runS rfl (w1 := W9.setRow (W.heap.size + 1) (evC ({ e with id := 0, pol := zPol }) none none A8 0 0 c8).toArray) (pick_store rfl (W.heap.size + 1) (evC ({ e with id := 0, pol := zPol }) none none A8 0 0 c8).toArray rfl rfl 30 Z HZ9.out hi30 sz (by simp [evC, Value.oneCell'])) ?_)
  have hfin := setRow_heap W9 (W.heap.size + 1) Z (evC ({ e with id := 0, pol := zPol }) none none A8 0 0 c8).toArray 30 (0, 0) HZ9.out
  have hbel := below_setRow HB9.out (Nat.le_succ W.heap.size) (evC ({ e with id := 0, pol := zPol }) none none A8 0 0 c8).toArray
  generalize W9.setRow (W.heap.size + 1) (evC ({ e with id := 0, pol := zPol }) none none A8 0 0 c8).toArray = W10 at *
  refine bodyPost_ret (v := .tuple #[.agg (evC ({ e with id := 0, pol := zPol }) none none A8 0 0 c8).toArray, .bool (zeroP e.pol)]) ?hrxxx rfl ?_
  case hrxxx =>
    rw [results_cell_tmp rfl]
    simp [asAddr, run_loadVar_row W10 (W.heap.size + 1) 30 30 _ (0, 0) _ hfin hu30 rfl hi30]
  exact ⟨by rw [HI.out, HP.out, HN.out, Bool.true_and, Bool.false_or, Bool.true_and], hbel⟩
set_option maxHeartbeats 8000000 in
theorem left0_calls (e : Ev) (W : World) (A2 A7 A8 : Option Addr) (c2 c7 c8 : Nat) (h : EvAt e W A2 A7 A8 c2 c7 c8) (hk : e.k ≠ 1 ∧ e.k ≠ 2 ∧ e.k ≠ 3 ∧ e.k ≠ 4 ∧ e.k ≠ 5 ∧ e.k ≠ 6 ∧ e.k ≠ 7 ∧ e.k ≠ 8) :
    Calls Try.prog 33 #[.agg (evC e A2 A7 A8 c2 c7 c8).toArray] W fun r W' => r = .returned (.tuple #[.agg (evC (e) A2 A7 A8 c2 c7 c8).toArray, .bool (false)]) ∧ Below W.heap.size W W' := by
  have hu30 := Try.underlying30
  have hi30 : (Try.prog.info? 30).map (·.size) = some 27 := by kernel_rfl
  obtain ⟨Z, hZ⟩ : ∃ Z : Array Value, Z = #[.int .i64 0, .int .i64 0, .int .i64 0, .int .i64 0, .int .i64 0, .int .i64 0, .int .i64 0, .int .i64 0, .slice none 0 0, .int .i64 0, .int .i64 0, .int .i64 0, .int .i64 0, .slice none 0 0, .int .i64 0, .int .i64 0, .int .i64 0, .int .i64 0, .int .i64 0, .int .i64 0, .int .i64 0, .int .i64 0, .int .i64 0, .int .i64 0, .int .i64 0, .int .i64 0, .slice none 0 0] := ⟨_, rfl⟩
  have hz30 : ∀ W, (zeroValue 30).run Try.prog W = .ok (.agg Z) W := by rw [hZ]; exact fun W => by kernel_rfl
  have sz : Z.size = 27 := by rw [hZ]; rfl
  clear hZ
  go_enter Try.func33, Try.ntmps33
  go_upto_region 1 with fail
  have hB0 : Below W.heap.size W ((W.alloc (.cells (evC e A2 A7 A8 c2 c7 c8).toArray 30)).alloc (.cells Z 30)) := below_alloc (below_alloc (Below.refl _ _) _) _
  have hb1 := pick_new W (.cells (evC e A2 A7 A8 c2 c7 c8).toArray 30)
  have hb2 := pick_new (W.alloc (.cells (evC e A2 A7 A8 c2 c7 c8).toArray 30)) (.cells Z 30)
  simp only [World.size_alloc] at hb2
  have hb1' := hd_later hb1 (below_alloc (Below.refl _ _) (.cells Z 30))
  have H1 := Aside0.mk (h.later hB0)
  generalize (W.alloc (.cells (evC e A2 A7 A8 c2 c7 c8).toArray 30)).alloc (.cells Z 30) = W1 at *
  have B0 := Aside0.mk hB0
  have B1 := Aside0.mk hb1'
  have BZ := Aside0.mk hb2
  clear hB0 hb1 hb1' hb2 h
  have d0 : W1.cell? ⟨W.heap.size, 0, none⟩ = some (.int .i64 e.k) := evC_at B1.out 0 rfl
  have df0 : W1.frozen? ⟨W.heap.size, 0, none⟩ = false := not_frozen B1.out 0
  have q0 : e.k ≠ 1 ∧ e.k ≠ 2 ∧ e.k ≠ 3 ∧ e.k ≠ 4 ∧ e.k ≠ 5 ∧ e.k ≠ 6 ∧ e.k ≠ 7 ∧ e.k ≠ 8 := hk
  have b1 : (e.k == 1) = false := beq_eq_false_iff_ne.2 (by omega)
  have b2 : (e.k == 2) = false := beq_eq_false_iff_ne.2 (by omega)
  have b3 : (e.k == 3) = false := beq_eq_false_iff_ne.2 (by omega)
  have b4 : (e.k == 4) = false := beq_eq_false_iff_ne.2 (by omega)
  have b5 : (e.k == 5) = false := beq_eq_false_iff_ne.2 (by omega)
  have b6 : (e.k == 6) = false := beq_eq_false_iff_ne.2 (by omega)
  have b7 : (e.k == 7) = false := beq_eq_false_iff_ne.2 (by omega)
  have b8 : (e.k == 8) = false := beq_eq_false_iff_ne.2 (by omega)
  clear hk q0
  go_wp2_with (first
    | (with_reducible refine hd_gate 70 rfl ?_); have hE9 : W1.heap[W.heap.size]? = some (.cells (evC (e) A2 A7 A8 c2 c7 c8).toArray 30 (0, 0)) := B1.out; have hZ9 : W1.heap[W.heap.size + 1]? = some (.cells Z 30 (0, 0)) := BZ.out; have hB9 : Below W.heap.size W W1 := B0.out; generalize hW9 : W1 = W9 at *; clear hW9; have HE9 := Aside0.mk hE9; have HZ9 := Aside0.mk hZ9; have HB9 := Aside0.mk hB9; clear hE9 hZ9 hB9; refine hd_run rfl (v := .agg (evC (e) A2 A7 A8 c2 c7 c8).toArray) (w1 := W9) (pick_loadRow rfl W.heap.size rfl 30 _ (0, 0) _ HE9.out hu30 rfl hi30) ?_
    | (with_reducible refine hd_gateS 2 _ _ rfl ?_); refine hd_runS rfl (w1 := W9.setRow (W.heap.size + 1) (evC (e) A2 A7 A8 c2 c7 c8).toArray) (pick_store rfl (W.heap.size + 1) (evC (e) A2 A7 A8 c2 c7 c8).toArray rfl rfl 30 Z HZ9.out hi30 sz (by simp [evC, Value.oneCell'])) ?_)
  have hfin := setRow_heap W9 (W.heap.size + 1) Z (evC (e) A2 A7 A8 c2 c7 c8).toArray 30 (0, 0) HZ9.out
  have hbel := below_setRow HB9.out (Nat.le_succ W.heap.size) (evC (e) A2 A7 A8 c2 c7 c8).toArray
  generalize W9.setRow (W.heap.size + 1) (evC (e) A2 A7 A8 c2 c7 c8).toArray = W10 at *
  refine bodyPost_ret (v := .tuple #[.agg (evC (e) A2 A7 A8 c2 c7 c8).toArray, .bool (false)]) ?hr rfl ?_
  case hr =>
    rw [results_cell_tmp rfl]
    simp [asAddr, run_loadVar_row W10 (W.heap.size + 1) 30 30 _ (0, 0) _ hfin hu30 rfl hi30]
  exact ⟨rfl, hbel⟩
end Go.Proofs.Ytldohapdhljoaaa.Print
namespace Go.Proofs.Ytldohapdhljoaaa.Print
open Go.RowKit Go.Proofs.YtldohapdhljoaaaW.PrintWords Go.Proofs.YtldohapdhljoaaaW.PrintLast
set_option linter.unusedVariables false
set_option maxRecDepth 100000
attribute [local go_sem high] eqA27
theorem left_all (e : Ev) (W : World) (A2 A7 A8 : Option Addr) (c2 c7 c8 : Nat) (h : EvAt e W A2 A7 A8 c2 c7 c8) :
    Calls Try.prog 33 #[.agg (evC e A2 A7 A8 c2 c7 c8).toArray] W fun r W' => ∃ B2 B7 B8 d2 d7 d8, r = .returned (.tuple #[.agg (evC (leftEv e).1 B2 B7 B8 d2 d7 d8).toArray, .bool (leftEv e).2]) ∧ (∀ W'', EvAt e W'' A2 A7 A8 c2 c7 c8 → EvAt (leftEv e).1 W'' B2 B7 B8 d2 d7 d8) ∧ Below W.heap.size W W' := by
  unfold leftEv
  by_cases h1 : e.k = 1
  · rw [if_pos h1]
    exact (left1_calls e W A2 A7 A8 c2 c7 c8 h h1).mono fun _ _ q => ⟨_, _, _, _, _, _, q.1, fun _ p => ⟨p.pol, p.r8, p.m8⟩, q.2⟩
  rw [if_neg h1]
  by_cases h2 : e.k = 2
  · rw [if_pos h2]
    exact (left2_calls e W A2 A7 A8 c2 c7 c8 h h2).mono fun _ _ q => ⟨_, _, _, _, _, _, q.1, fun _ p => ⟨p.pol, p.r8, p.m8⟩, q.2⟩
  rw [if_neg h2]
  by_cases h3 : e.k = 3
  · rw [if_pos h3]
    exact (left3_calls e W A2 A7 A8 c2 c7 c8 h h3).mono fun _ _ q => ⟨_, _, _, _, _, _, q.1, fun _ p => ⟨⟨nilC _ _ _, Nat.le_refl _, nilC _ _ _, Nat.le_refl _⟩, p.r8, p.m8⟩, q.2⟩
  rw [if_neg h3]
  by_cases h4 : e.k = 4
  · rw [if_pos h4]
    exact (left4_calls e W A2 A7 A8 c2 c7 c8 h h4).mono fun _ _ q => ⟨_, _, _, _, _, _, q.1, fun _ p => ⟨p.pol, p.r8, p.m8⟩, q.2⟩
  rw [if_neg h4]
  by_cases h5 : e.k = 5
  · rw [if_pos h5]
    exact (left5_calls e W A2 A7 A8 c2 c7 c8 h h5).mono fun _ _ q => ⟨_, _, _, _, _, _, q.1, fun _ p => ⟨p.pol, p.r8, p.m8⟩, q.2⟩
  rw [if_neg h5]
  by_cases h6 : e.k = 6
  · rw [if_pos (.inl h6)]
    exact (left6_calls e W A2 A7 A8 c2 c7 c8 h h6).mono fun _ _ q => ⟨_, _, _, _, _, _, q.1, fun _ p => ⟨p.pol, p.r8, p.m8⟩, q.2⟩
  by_cases h7 : e.k = 7
  · rw [if_pos (.inr h7)]
    exact (left7_calls e W A2 A7 A8 c2 c7 c8 h h7).mono fun _ _ q => ⟨_, _, _, _, _, _, q.1, fun _ p => ⟨p.pol, p.r8, p.m8⟩, q.2⟩
  rw [if_neg (by omega)]
  by_cases h8 : e.k = 8
  · rw [if_pos h8]
    exact (left8_calls e W A2 A7 A8 c2 c7 c8 h h8).mono fun _ _ q => ⟨_, _, _, _, _, _, q.1, fun _ p => ⟨p.pol, nilC _ _ _, Nat.le_refl _⟩, q.2⟩
  rw [if_neg h8]
  exact (left0_calls e W A2 A7 A8 c2 c7 c8 h ⟨h1, h2, h3, h4, h5, h6, h7, h8⟩).mono fun _ _ q => ⟨_, _, _, _, _, _, q.1, fun _ p => ⟨p.pol, p.r8, p.m8⟩, q.2⟩
def cnfZ (c : Cnf) : Bool := c.mi == 0 && (c.ma == 0 && (c.ra == 0 && (c.st == 0 && (c.ca == 0 && (c.de == 0 && (c.sl == 0 && (c.wi == 0 && (c.mg == 0 && (c.ce == 0 && (c.pr == 0 && (c.br == 0)))))))))))
def restF (x : Ev) (r : Bool) : Bool := (((((((r && x.u == 0) && x.dm == 0) && x.T == 0) && x.id == 0) && x.n == 0) && zeroP x.pol) && cnfZ x.c) && ((x.body.length : Int) == 0)
def rightF (e : Ev) : Bool := restF (leftEv e).1 (leftEv e).2
set_option maxHeartbeats 8000000 in
theorem right_calls (e : Ev) (W : World) (A2 A7 A8 : Option Addr) (k2 k7 k8 : Nat) (h : EvAt e W A2 A7 A8 k2 k7 k8) :
    Calls Try.prog 13 #[.agg (evC e A2 A7 A8 k2 k7 k8).toArray] W fun r W' => r = .returned (.bool (rightF e)) ∧ Below W.heap.size W W' := by
  have hu30 := Try.underlying30
  have hu25 := Try.underlying25
  have hu27 := Try.underlying27
  have hi30 : (Try.prog.info? 30).map (·.size) = some 27 := by kernel_rfl
  have hi25 : (Try.prog.info? 25).map (·.size) = some 8 := by kernel_rfl
  have hi27 : (Try.prog.info? 27).map (·.size) = some 12 := by kernel_rfl
  have hz27 : ∀ W, (zeroValue 27).run Try.prog W = .ok (.agg #[.int .i64 0, .int .i64 0, .int .i64 0, .int .i64 0, .int .i64 0, .int .i64 0, .int .i64 0, .int .i64 0, .int .i64 0, .int .i64 0, .int .i64 0, .int .i64 0]) W := fun W => by kernel_rfl
  go_enter Try.func13, Try.ntmps13
  go_upto_region 1 with fail
  have hB0 : Below W.heap.size W (W.alloc (.cells (evC e A2 A7 A8 k2 k7 k8).toArray 30)) := below_alloc (Below.refl _ _) _
  have B1 := Aside0.mk (pick_new W (.cells (evC e A2 A7 A8 k2 k7 k8).toArray 30))
  have H1 := Aside0.mk (h.later hB0)
  have B0 := Aside0.mk hB0
  have HEV := Aside0.mk h
  generalize W.alloc (.cells (evC e A2 A7 A8 k2 k7 k8).toArray 30) = W1 at *
  clear hB0 h
  go_wp2_with (first
    | (with_reducible refine hd_gate 5 rfl ?_); refine hd_run rfl (v := .agg (evC e A2 A7 A8 k2 k7 k8).toArray) (w1 := W1) (pick_loadRow rfl W.heap.size rfl 30 _ (0, 0) _ B1.out hu30 rfl hi30) ?_)
  refine (left_all e W1 A2 A7 A8 k2 k7 k8 H1.out).mono ?_
  rintro r_ w2 ⟨B2, B7, B8, d2, d7, d8, rfl, h2, hb2⟩
  have HRF := Aside0.mk (show rightF e = restF (leftEv e).1 (leftEv e).2 from rfl)
  generalize (leftEv e).1 = x at *
  generalize (leftEv e).2 = rr at *
  have hE := hd_later B1.out hb2
  have HB2 := Aside0.mk (B0.out.trans (hb2.mono B0.out.size))
  have HE := Aside0.mk hE
  have HX := Aside0.mk h2
  clear hE hb2 h2 B1 H1
  go_upto_region 2 with (first
    | (with_reducible refine hd_gateS 1 _ _ rfl ?_); refine hd_runS rfl (w1 := w2.setRow W.heap.size (evC x B2 B7 B8 d2 d7 d8).toArray) (pick_store rfl W.heap.size (evC x B2 B7 B8 d2 d7 d8).toArray rfl rfl 30 _ HE.out hi30 rfl (by simp [evC, Value.oneCell'])) ?_)
  have B3 := Aside0.mk (setRow_heap w2 W.heap.size _ (evC x B2 B7 B8 d2 d7 d8).toArray 30 (0, 0) HE.out)
  have HB3 := Aside0.mk (below_setRow HB2.out (Nat.le_refl W.heap.size) (evC x B2 B7 B8 d2 d7 d8).toArray)
  have HX3 := Aside0.mk (show EvAt x (w2.setRow W.heap.size (evC x B2 B7 B8 d2 d7 d8).toArray) B2 B7 B8 d2 d7 d8 from HX.out _ (HEV.out.later HB3.out))
  generalize w2.setRow W.heap.size (evC x B2 B7 B8 d2 d7 d8).toArray = w3 at *
  clear HE HB2 HX
  have c1 : w3.cell? ⟨W.heap.size, 1, none⟩ = some (.int .i64 x.u) := evC_at B3.out 1 rfl
  have c2 : w3.cell? ⟨W.heap.size, 2, none⟩ = some (.int .i64 x.dm) := evC_at B3.out 2 rfl
  have c3 : w3.cell? ⟨W.heap.size, 3, none⟩ = some (.int .i64 x.T) := evC_at B3.out 3 rfl
  have c4 : w3.cell? ⟨W.heap.size, 4, none⟩ = some (.int .i64 x.id) := evC_at B3.out 4 rfl
  have c5 : w3.cell? ⟨W.heap.size, 5, none⟩ = some (.int .i64 x.n) := evC_at B3.out 5 rfl
  cases rr
  · go_wp2_with fail
    go_ret
    exact ⟨by rw [HRF.out]; unfold restF; simp [], HB3.out⟩
  cases q1 : (x.u == 0)
  · go_wp2_with fail
    go_ret
    exact ⟨by rw [HRF.out]; unfold restF; simp [q1], HB3.out⟩
  cases q2 : (x.dm == 0)
  · go_wp2_with fail
    go_ret
    exact ⟨by rw [HRF.out]; unfold restF; simp [q2], HB3.out⟩
  cases q3 : (x.T == 0)
  · go_wp2_with fail
    go_ret
    exact ⟨by rw [HRF.out]; unfold restF; simp [q3], HB3.out⟩
  cases q4 : (x.id == 0)
  · go_wp2_with fail
    go_ret
    exact ⟨by rw [HRF.out]; unfold restF; simp [q4], HB3.out⟩
  cases q5 : (x.n == 0)
  · go_wp2_with fail
    go_ret
    exact ⟨by rw [HRF.out]; unfold restF; simp [q5], HB3.out⟩
  go_wp2_with (first
    | (with_reducible refine hd_gate 37 rfl ?_); refine hd_run rfl (v := .agg (polC x.pol B2 B7 d2 d7).toArray) (w1 := w3) (pick_load rfl rfl (pick_loadAt w3 ⟨W.heap.size, 6, none⟩ 25 (polC x.pol B2 B7 d2 d7) _ (seg_at B3.out 6 8) hu25 rfl hi25)) ?_)
  refine (zero_all x.pol w3 B2 B7 d2 d7 HX3.out.pol).mono ?_
  rintro r_ w4 ⟨rfl, hb4⟩
  have B4 := Aside0.mk (hd_later B3.out hb4)
  have HB4 := Aside0.mk (HB3.out.trans (hb4.mono HB3.out.size))
  clear hb4 c1 c2 c3 c4 c5
  have c26 : w4.cell? ⟨W.heap.size, 26, none⟩ = some (.slice B8 x.body.length d8) := evC_at B4.out 26 rfl
  cases qz : zeroP x.pol
  · go_wp2_with fail
    go_ret
    exact ⟨by rw [HRF.out]; unfold restF; simp [qz], HB4.out⟩
  cases qc : cnfZ x.c
  · have qx : (x.c.mi == 0 && (x.c.ma == 0 && (x.c.ra == 0 && (x.c.st == 0 && (x.c.ca == 0 && (x.c.de == 0 && (x.c.sl == 0 && (x.c.wi == 0 && (x.c.mg == 0 && (x.c.ce == 0 && (x.c.pr == 0 && (x.c.br == 0)))))))))))) = false := qc
    go_wp2_with (first
      | (with_reducible refine hd_gate 42 rfl ?_); refine hd_run rfl (v := .agg #[.int .i64 x.c.mi, .int .i64 x.c.ma, .int .i64 x.c.ra, .int .i64 x.c.st, .int .i64 x.c.ca, .int .i64 x.c.de, .int .i64 x.c.sl, .int .i64 x.c.wi, .int .i64 x.c.mg, .int .i64 x.c.ce, .int .i64 x.c.pr, .int .i64 x.c.br]) (w1 := w4) (pick_load rfl rfl (pick_loadAt w4 ⟨W.heap.size, 14, none⟩ 27 [.int .i64 x.c.mi, .int .i64 x.c.ma, .int .i64 x.c.ra, .int .i64 x.c.st, .int .i64 x.c.ca, .int .i64 x.c.de, .int .i64 x.c.sl, .int .i64 x.c.wi, .int .i64 x.c.mg, .int .i64 x.c.ce, .int .i64 x.c.pr, .int .i64 x.c.br] _ (seg_at B4.out 14 12) hu27 rfl hi27)) ?_)
    go_ret
    exact ⟨by rw [HRF.out]; unfold restF; simp [qc], HB4.out⟩
  · have qx : (x.c.mi == 0 && (x.c.ma == 0 && (x.c.ra == 0 && (x.c.st == 0 && (x.c.ca == 0 && (x.c.de == 0 && (x.c.sl == 0 && (x.c.wi == 0 && (x.c.mg == 0 && (x.c.ce == 0 && (x.c.pr == 0 && (x.c.br == 0)))))))))))) = true := qc
    go_wp2_with (first
      | (with_reducible refine hd_gate 42 rfl ?_); refine hd_run rfl (v := .agg #[.int .i64 x.c.mi, .int .i64 x.c.ma, .int .i64 x.c.ra, .int .i64 x.c.st, .int .i64 x.c.ca, .int .i64 x.c.de, .int .i64 x.c.sl, .int .i64 x.c.wi, .int .i64 x.c.mg, .int .i64 x.c.ce, .int .i64 x.c.pr, .int .i64 x.c.br]) (w1 := w4) (pick_load rfl rfl (pick_loadAt w4 ⟨W.heap.size, 14, none⟩ 27 [.int .i64 x.c.mi, .int .i64 x.c.ma, .int .i64 x.c.ra, .int .i64 x.c.st, .int .i64 x.c.ca, .int .i64 x.c.de, .int .i64 x.c.sl, .int .i64 x.c.wi, .int .i64 x.c.mg, .int .i64 x.c.ce, .int .i64 x.c.pr, .int .i64 x.c.br] _ (seg_at B4.out 14 12) hu27 rfl hi27)) ?_)
    go_ret
    exact ⟨by rw [HRF.out]; unfold restF; simp [q1, q2, q3, q4, q5, qz, qc], HB4.out⟩
end Go.Proofs.Ytldohapdhljoaaa.Print
