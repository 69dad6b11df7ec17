/- Pruned: a text of this claim's: words and walks that the claim's theorem uses. -/
import Derived.Test.YtlenanfkphglaaaPrint0
import Derived.Test.YtlenanfkphglaaaPrint4
namespace Go.Proofs.Ytlenanfkphglaaa.Print
open Go.RowKit Go.Proofs.YtlenanfkphglaaaW.PrintWords Go.Proofs.YtlenanfkphglaaaW.PrintLast Go.Proofs.YtlenanfkphglaaaW.PrintMore
attribute [local go_sem] max2_int min2_int max_two min_two max_three min_three max_four min_four
set_option linter.unusedVariables false
set_option linter.unusedSimpArgs false
section
open Go.Shelf
theorem pick_gate {F : Fence} {n : Nat} {P : Program} {ops : Array Oper} {Q : Exit → Act → World → Prop} {rest : List Oper} {o : Oper} {a : Act} {w : World} (N : Tmp) (_h : o.dst = some N) (h : wpListIn F n P ops Q (o :: rest) a w) : wpListIn F n P ops Q (o :: rest) a w := h
theorem pick_gateS {F : Fence} {n : Nat} {P : Program} {ops : Array Oper} {Q : Exit → Act → World → Prop} {rest : List Oper} {o : Oper} {a : Act} {w : World} (p : Tmp) (x : Operand) (t : TypeId) (_h : o.op = .store t (.tmp p) x) (h : wpListIn F n P ops Q (o :: rest) a w) : wpListIn F n P ops Q (o :: rest) a w := h
theorem pick_run {F : Fence} {n : Nat} {P : Program} {ops : Array Oper} {Q : Exit → Act → World → Prop} {rest : List Oper} {o : Oper} {a : Act} {w : World} (hF : ∀ f, F.fn f) (hnd : ∀ c, o.op ≠ .defer c) (hgd : Region.wanted o (yielded ops a.tmps) = true) {v : Value} {w1 : World}
    (hrun : (execOp a.eval o).run P w = .ok (.value v) w1) (h : wpListIn F n P ops Q rest (a.put o.dst v) w1) : wpListIn F n P ops Q (o :: rest) a w := by
  refine wpListIn_step fun K hK => ?_
  rw [if_pos hgd]
  unfold Oper.wpIn
  refine ⟨fun f _ => hF f, ?_⟩
  rw [Oper.semAt_eq _ _ _ hnd, hrun, Oper.uponIn_value]
  exact hK _ _ h
theorem pick_runS {F : Fence} {n : Nat} {P : Program} {ops : Array Oper} {Q : Exit → Act → World → Prop} {rest : List Oper} {o : Oper} {a : Act} {w : World} (hF : ∀ f, F.fn f) (hnd : ∀ c, o.op ≠ .defer c) (hgd : Region.wanted o (yielded ops a.tmps) = true) {w1 : World}
    (hrun : (execOp a.eval o).run P w = .ok .skip w1) (h : wpListIn F n P ops Q rest (a.put o.dst undef) w1) : wpListIn F n P ops Q (o :: rest) a w := by
  refine wpListIn_step fun K hK => ?_
  rw [if_pos hgd]
  unfold Oper.wpIn
  refine ⟨fun f _ => hF f, ?_⟩
  rw [Oper.semAt_eq _ _ _ hnd, hrun, Oper.uponIn_skip]
  exact hK _ _ h
theorem pick_skip {F : Fence} {n : Nat} {P : Program} {ops : Array Oper} {Q : Exit → Act → World → Prop} {rest : List Oper} {o : Oper} {a : Act} {w : World} (hF : ∀ f, F.fn f) (hgd : Region.wanted o (yielded ops a.tmps) = false)
    (h : wpListIn F n P ops Q rest (a.put o.dst undef) w) : wpListIn F n P ops Q (o :: rest) a w := by
  refine wpListIn_step fun K hK => ?_
  rw [if_neg (by rw [hgd]; simp)]
  exact ⟨fun f _ => hF f, hK _ _ h⟩
theorem pick_J {α : Type} {J : List α → World → Prop} {B : Nat} {pre : List α} {w w' : World} (hJ : AbidesFrom B J) (h : J pre w) (hb : Below w.heap.size w w') : J pre w' := hJ _ _ _ none h (pick_below_grown hb) (fun r e => by cases e)
def betterF (c7 c8 c9 : Int) (live l : List S64) : Bool := if (live.length : Int) = c7 then (if (l.length : Int) = c7 then (if badF l ≤ c9 then decide (wrap64 (costF l + c8) ≤ costF live) else false) else false) else false
theorem better_f (a0_0 a0_1 a0_2 a0_3 a0_4 a0_5 a0_6 a0_7 a0_8 a0_9 a0_10 a0_11 : Int) (live l : List S64) : score_Better.f a0_0 a0_1 a0_2 a0_3 a0_4 a0_5 a0_6 a0_7 a0_8 a0_9 a0_10 a0_11 live l = some (betterF a0_7 a0_8 a0_9 live l) := by
  unfold score_Better.f betterF
  simp only [score_Bad.f, score_Cost.f, Option.bind_some]
  split <;> (try rfl) <;> split <;> (try rfl) <;> split <;> rfl
abbrev Plc (n : Nat) := { x : Int // 1 ≤ x ∧ x ≤ (n : Int) }
def beats (c7 c8 c9 : Int) (live : List S64) (l : List S37) (i : Nat) : Bool := !((rd_T37 l i).f0.f0 == 0) && betterF c7 c8 c9 live (rd_T37 l i).f4
def plc (b : Nat → Bool) (n : Nat) (k : Nat) : List (Plc n) := (List.range k).filterMap fun i => if h : i < n ∧ b i = true then some ⟨(i : Int) + 1, by omega, by omega⟩ else none
theorem plc_yes {b : Nat → Bool} {n k : Nat} (hk : k < n) (h : b k = true) : plc b n (k + 1) = plc b n k ++ [⟨(k : Int) + 1, by omega, by omega⟩] := by
  unfold plc; rw [List.range_succ, List.filterMap_append]; simp [hk, h]
theorem plc_no {b : Nat → Bool} {n k : Nat} (h : b k = false) : plc b n (k + 1) = plc b n k := by
  unfold plc; rw [List.range_succ, List.filterMap_append]; simp [h]
theorem plc_length (b : Nat → Bool) (n k : Nat) : (plc b n k).length ≤ k := by
  unfold plc; exact Nat.le_trans (List.length_filterMap_le _ _) (by simp)
def pickStep (l : List S37) (best x : Int) : Int := if best = 0 then x else if costF (rd_T37 l (x - 1)).f4 < costF (rd_T37 l (best - 1)).f4 then x else best
def pickFold (l : List S37) (ys : List (Plc l.length)) : Int := ys.foldl (fun b x => pickStep l b x.1) 0
def pickF (c7 c8 c9 : Int) (live : List S64) (l : List S37) : Int := pickFold l (plc (beats c7 c8 c9 live l) l.length l.length)
def keepsP (n₀ Bc Bv : Nat) (W W' : World) : Prop := Below n₀ W W' ∧ W'.heap[Bc]? = W.heap[Bc]? ∧ W'.heap[Bv]? = W.heap[Bv]?
set_option maxRecDepth 100000 in
set_option maxHeartbeats 4000000 in
theorem beat1_in (n : Nat) (hn : 1 ≤ n) (l Bl Bc Bv : Nat) (w0 : World) (a0_0 a0_1 a0_2 a0_3 a0_4 a0_5 a0_6 a0_7 a0_8 a0_9 a0_10 a0_11 : Int) (Cv : Array Value) (A1 : Option Addr) (c1 : Nat) (l1 : List S64) (A2 : Option Addr) (c2 : Nat) (l2 : List S37)
    (hr1 : Kd.C k64 w0 A1 l1.length l1) (hc1 : l1.length ≤ c1) (hr2 : Kd.C k37 w0 A2 l2.length l2) (hc2 : l2.length ≤ c2) (hv18 : Cv[18]? = some (.slice A1 l1.length c1)) (J Jx : List (Plc l2.length) → World → Prop) (W : World) (hJ : AbidesFrom W.heap.size J)
    (hBc : Bc < W.heap.size) (hBv : Bv < W.heap.size)
    (hY : ∀ pre x W1, J pre W1 → pre.length < l2.length → YieldAt Fence.wide (n - 1) Try.prog l #[.int .i64 x.1] W1 fun e W' =>
      (e = .returned (.bool true) ∧ J (pre ++ [x]) W' ∧ keepsP w0.heap.size Bc Bv W1 W') ∨ (e = .returned (.bool false) ∧ Jx (pre ++ [x]) W'))
    (hB0 : Below w0.heap.size w0 W) (hl : W.cell? ⟨Bl, 0, none⟩ = some (.slice A2 l2.length c2)) (hc : W.heap[Bc]? = some (.cells #[.int .i64 a0_0, .int .i64 a0_1, .int .i64 a0_2, .int .i64 a0_3, .int .i64 a0_4, .int .i64 a0_5, .int .i64 a0_6, .int .i64 a0_7, .int .i64 a0_8, .int .i64 a0_9, .int .i64 a0_10, .int .i64 a0_11] 23 (0, 0))) (hv : W.heap[Bv]? = some (.cells Cv 37 (0, 0))) (h0 : J [] W) :
    CallsIn Fence.wide n Try.prog 40 #[.func (.yield l) #[] #[], .pointer (some ⟨Bl, 0, none⟩), .pointer (some ⟨Bc, 0, none⟩), .pointer (some ⟨Bv, 0, none⟩)] W fun e W' => (∃ v, e = .returned v) ∧
      ((∃ ys, ys = plc (beats a0_7 a0_8 a0_9 l1 l2) l2.length l2.length ∧ J ys W') ∨ (∃ pre, True ∧ Jx pre W')) := by
  have hu37 := Try.underlying37
  have hu38 := Try.underlying38
  have hu23 := Try.underlying23
  have hu27 := Try.underlying27
  have HR1 := Aside0.mk hr1
  have HR2 := Aside0.mk hr2
  have HV := Aside0.mk hv
  have HC := Aside0.mk hc
  have HB0 := Aside0.mk hB0
  have hmax := hr2.2.1
  clear hr1 hr2 hv hc hB0
  obtain ⟨Cc, hCc⟩ : ∃ Cc : Array Value, Cc = #[.int .i64 a0_0, .int .i64 a0_1, .int .i64 a0_2, .int .i64 a0_3, .int .i64 a0_4, .int .i64 a0_5, .int .i64 a0_6, .int .i64 a0_7, .int .i64 a0_8, .int .i64 a0_9, .int .i64 a0_10, .int .i64 a0_11] := ⟨_, rfl⟩
  obtain ⟨Z, hZ⟩ : ∃ Z : Array Value, Z = #[.int .i64 0, .int .i64 0, .slice none 0 0, .int .i64 0, .int .i64 0, .int .i64 0, .int .i64 0, .slice none 0 0, .int .i64 0, .int .i64 0, .bool false, .int .i64 0, .int .i64 0, .bool false, .int .i64 0, .slice none 0 0, .int .i64 0, .int .i64 0, .slice none 0 0] := ⟨_, rfl⟩
  have sz : Z.size = 19 := by rw [hZ]; rfl
  have hz37 : ∀ W, (zeroValue 37).run Try.prog W = .ok (.agg Z) W := by rw [hZ]; exact fun W => by kernel_rfl
  have hi37 : (Try.prog.info? 37).map (·.size) = some 19 := by kernel_rfl
  have hi27 : (Try.prog.info? 27).map (·.size) = some 8 := by kernel_rfl
  have hi23 : (Try.prog.info? 23).map (·.size) = some 12 := by kernel_rfl
  have HZ := Lib.hid hZ
  rw [← hCc] at HC
  have HCC := Lib.hid hCc
  clear hZ hCc
  refine callsIn_of_wp Try.func40 rfl trivial ?_ rfl
  simp only [Try.ntmps40, List.size_toArray, List.length_cons, List.length_nil, Nat.reduceAdd, Nat.reduceSub, Array.replicate_succ, Array.replicate_zero, List.push_toArray, List.append_toArray, List.nil_append, List.cons_append]
  gi_wp2
  gi_loopw [9] (fun i wr => ∃ k : Nat, k ≤ l2.length ∧ i = .int .i64 k ∧ J (plc (beats a0_7 a0_8 a0_9 l1 l2) l2.length k) wr ∧ Aside0 (Below w0.heap.size w0 wr) ∧ Aside0 (W.heap.size ≤ wr.heap.size) ∧ Aside0 (wr.heap[Bc]? = some (.cells Cc 23 (0, 0))) ∧ Aside0 (wr.heap[Bv]? = some (.cells Cv 37 (0, 0))))
    (fun i _ => l2.length - (intOf i).toNat)
  case atStart => exact ⟨0, Nat.zero_le _, rfl, h0, HB0, ⟨Nat.le_refl _⟩, HC, HV⟩
  case round =>
    clear HB0 HC HV
    obtain ⟨k, hk, rfl, hJs, HB, HS, HC, HV⟩ := hrel
    by_cases hlt : k < l2.length
    · obtain ⟨ad, cs, rfl, _, hK, hcs⟩ := Kd.C_get (Kd.C_below HR2.out HB.out) z37 (k : Int) (by omega) (by omega)
      obtain ⟨A2_, c2_, A7_, c7_, A15_, c15_, A18_, c18_, rfl, l2_, g2_, l7_, g7_, l15_, g15_, l18_, g18_⟩ := k37_open hK
      clear hK
      simp only [show l2.getD (k : Int).toNat z37 = rd_T37 l2 k from rfl] at hcs l2_ g2_ l7_ g7_ l15_ g15_ l18_ g18_
      obtain ⟨x, hx⟩ : ∃ x, rd_T37 l2 k = x := ⟨_, rfl⟩
      simp only [hx] at hcs l2_ g2_ l7_ g7_ l15_ g15_ l18_ g18_
      have hrng : ∀ j v, ([.int .i64 x.f0.f0, .int .i64 x.f0.f1, .slice A2_ x.f0.f2.length c2_, .int .i64 x.f0.f3, .int .i64 x.f0.f4, .int .i64 x.f0.f5, .int .i64 x.f0.f6, .slice A7_ x.f0.f7.length c7_, .int .i64 x.f1.f0, .int .i64 x.f1.f1, .bool x.f1.f2, .int .i64 x.f2.f0, .int .i64 x.f2.f1, .bool x.f2.f2, .int .i64 x.f3.f0, .slice A15_ x.f3.f1.length c15_, .int .i64 x.f3.f2, .int .i64 x.f3.f3, .slice A18_ x.f4.length c18_] : List Value)[j]? = some v → wr.cell? ((ad.add ((k : Int).toNat * 19)).add j) = some v := fun j v hj => (pick_addadd wr ad _ j).trans (hcs j v hj)
      have HRNG := Aside0.mk hrng
      clear hrng hcs
      have hsz := HS.out
      cases hz : (x.f0.f0 == 0)
      · have HZE := Aside0.mk hz
        cases hbt : betterF a0_7 a0_8 a0_9 l1 x.f4
        · have HBT := Aside0.mk hbt
          have hbk := Aside0.mk (show beats a0_7 a0_8 a0_9 l1 l2 k = false by unfold beats; rw [hx, hz, hbt]; rfl)
          clear hz hbt
          gi_wp2_with (first | (with_reducible refine pick_gate 13 rfl ?_); refine pick_run (fun _ => trivial) (by intro c h; cases h) rfl (v := .agg (#[.int .i64 x.f0.f0, .int .i64 x.f0.f1, .slice A2_ x.f0.f2.length c2_, .int .i64 x.f0.f3, .int .i64 x.f0.f4, .int .i64 x.f0.f5, .int .i64 x.f0.f6, .slice A7_ x.f0.f7.length c7_, .int .i64 x.f1.f0, .int .i64 x.f1.f1, .bool x.f1.f2, .int .i64 x.f2.f0, .int .i64 x.f2.f1, .bool x.f2.f2, .int .i64 x.f3.f0, .slice A15_ x.f3.f1.length c15_, .int .i64 x.f3.f2, .int .i64 x.f3.f3, .slice A18_ x.f4.length c18_])) (w1 := wr) ?hr ?_; (case hr => exact pick_load rfl rfl (pick_loadAt wr _ 37 ([.int .i64 x.f0.f0, .int .i64 x.f0.f1, .slice A2_ x.f0.f2.length c2_, .int .i64 x.f0.f3, .int .i64 x.f0.f4, .int .i64 x.f0.f5, .int .i64 x.f0.f6, .slice A7_ x.f0.f7.length c7_, .int .i64 x.f1.f0, .int .i64 x.f1.f1, .bool x.f1.f2, .int .i64 x.f2.f0, .int .i64 x.f2.f1, .bool x.f2.f2, .int .i64 x.f3.f0, .slice A15_ x.f3.f1.length c15_, .int .i64 x.f3.f2, .int .i64 x.f3.f3, .slice A18_ x.f4.length c18_]) _ HRNG.out hu37 rfl hi37)) | (with_reducible refine pick_gateS 6 _ _ rfl ?_); obtain ⟨W2, hW2, hE, hbe⟩ := pick_setNew wr Z (#[.int .i64 x.f0.f0, .int .i64 x.f0.f1, .slice A2_ x.f0.f2.length c2_, .int .i64 x.f0.f3, .int .i64 x.f0.f4, .int .i64 x.f0.f5, .int .i64 x.f0.f6, .slice A7_ x.f0.f7.length c7_, .int .i64 x.f1.f0, .int .i64 x.f1.f1, .bool x.f1.f2, .int .i64 x.f2.f0, .int .i64 x.f2.f1, .bool x.f2.f2, .int .i64 x.f3.f0, .slice A15_ x.f3.f1.length c15_, .int .i64 x.f3.f2, .int .i64 x.f3.f3, .slice A18_ x.f4.length c18_]) 37; refine pick_runS (fun _ => trivial) (by intro c h; cases h) rfl (w1 := W2) ?hr ?_; (case hr => rw [hW2]; exact pick_store rfl wr.heap.size _ rfl rfl 37 Z (pick_new wr _) hi37 sz (by simp [Value.oneCell'])); have HE := Aside0.mk hE; have HBE := Aside0.mk hbe; clear hE hbe hW2 | (with_reducible refine pick_gate 15 rfl ?_); refine pick_run (fun _ => trivial) (by intro c h; cases h) rfl (v := .agg (#[.int .i64 x.f0.f0, .int .i64 x.f0.f1, .slice A2_ x.f0.f2.length c2_, .int .i64 x.f0.f3, .int .i64 x.f0.f4, .int .i64 x.f0.f5, .int .i64 x.f0.f6, .slice A7_ x.f0.f7.length c7_])) (w1 := W2) ?hr ?_; (case hr => exact pick_load rfl rfl (pick_loadAt W2 _ 27 ([.int .i64 x.f0.f0, .int .i64 x.f0.f1, .slice A2_ x.f0.f2.length c2_, .int .i64 x.f0.f3, .int .i64 x.f0.f4, .int .i64 x.f0.f5, .int .i64 x.f0.f6, .slice A7_ x.f0.f7.length c7_]) _ (pick_prefix _ ([.int .i64 x.f1.f0, .int .i64 x.f1.f1, .bool x.f1.f2, .int .i64 x.f2.f0, .int .i64 x.f2.f1, .bool x.f2.f2, .int .i64 x.f3.f0, .slice A15_ x.f3.f1.length c15_, .int .i64 x.f3.f2, .int .i64 x.f3.f3, .slice A18_ x.f4.length c18_]) HE.out) hu27 rfl hi27)) | (refine ⟨trivial, ?_⟩; gi_at_call 41; refine (callsIn_wide.2 (policy_Zero.calls x.f0.f0 x.f0.f1 A2_ c2_ x.f0.f2 x.f0.f3 x.f0.f4 x.f0.f5 x.f0.f6 A7_ c7_ x.f0.f7 false W2 (Kd.C_below g2_ HBE.out) l2_ (Kd.C_below g7_ HBE.out) l7_ (by rw [policy_Zero.f]; rw [HZE.out]))).mono ?_; rintro e W3 ⟨rfl, hb3⟩; have HB3 := Aside0.mk (below_step HBE.out hb3); have hv3 : W3.cell? ⟨Bv, 18, none⟩ = some (.slice A1 l1.length c1) := pick_cell ((HB3.out.block Bv (by have := HS.out; omega)).trans HV.out) 18 hv18; have hx3 : W3.cell? ⟨wr.heap.size, 18, none⟩ = some (.slice A18_ x.f4.length c18_) := pick_cell ((hb3.block wr.heap.size (Array.getElem?_eq_some_iff.1 HE.out).1).trans HE.out) 18 rfl; have HC3 := Aside0.mk ((HB3.out.block Bc (by have := HS.out; omega)).trans HC.out); clear hb3) | (with_reducible refine pick_gate 19 rfl ?_); refine pick_run (fun _ => trivial) (by intro c h; cases h) rfl (v := .agg Cc) (w1 := W3) ?hr ?_; (case hr => exact pick_loadRow rfl Bc rfl 23 Cc (0, 0) _ HC3.out hu23 rfl (by rw [HCC.out]; exact hi23)) | (refine ⟨trivial, ?_⟩; gi_at_call 42; rw [HCC.out]; refine (callsIn_wide.2 (score_Better.calls a0_0 a0_1 a0_2 a0_3 a0_4 a0_5 a0_6 a0_7 a0_8 a0_9 a0_10 a0_11 A1 c1 l1 A18_ c18_ x.f4 false W3 (Kd.C_below HR1.out (below_step HB.out HB3.out)) hc1 (Kd.C_below g18_ HB3.out) l18_ (by rw [better_f, HBT.out]))).mono ?_; rintro e W4 ⟨rfl, hb4⟩; have HB4 := Aside0.mk (below_step HB3.out hb4); clear hb4) | ((with_reducible refine pick_gate 30 rfl ?_); refine pick_skip (fun _ => trivial) rfl ?_))
          go_roundw
          case rel => exact ⟨k + 1, by omega, by simp, by rw [plc_no hbk.out]; exact pick_J hJ hJs HB4.out, ⟨below_step HB.out HB4.out⟩, ⟨Nat.le_trans HS.out (Below.size HB4.out)⟩, ⟨(Below.block HB4.out Bc (by have := HS.out; omega)).trans HC.out⟩, ⟨(Below.block HB4.out Bv (by have := HS.out; omega)).trans HV.out⟩⟩
          case measure => simp [intOf]; omega
        · have HBT := Aside0.mk hbt
          have hbk := Aside0.mk (show beats a0_7 a0_8 a0_9 l1 l2 k = true by unfold beats; rw [hx, hz, hbt]; rfl)
          clear hz hbt
          gi_wp2_with (first | (with_reducible refine pick_gate 13 rfl ?_); refine pick_run (fun _ => trivial) (by intro c h; cases h) rfl (v := .agg (#[.int .i64 x.f0.f0, .int .i64 x.f0.f1, .slice A2_ x.f0.f2.length c2_, .int .i64 x.f0.f3, .int .i64 x.f0.f4, .int .i64 x.f0.f5, .int .i64 x.f0.f6, .slice A7_ x.f0.f7.length c7_, .int .i64 x.f1.f0, .int .i64 x.f1.f1, .bool x.f1.f2, .int .i64 x.f2.f0, .int .i64 x.f2.f1, .bool x.f2.f2, .int .i64 x.f3.f0, .slice A15_ x.f3.f1.length c15_, .int .i64 x.f3.f2, .int .i64 x.f3.f3, .slice A18_ x.f4.length c18_])) (w1 := wr) ?hr ?_; (case hr => exact pick_load rfl rfl (pick_loadAt wr _ 37 ([.int .i64 x.f0.f0, .int .i64 x.f0.f1, .slice A2_ x.f0.f2.length c2_, .int .i64 x.f0.f3, .int .i64 x.f0.f4, .int .i64 x.f0.f5, .int .i64 x.f0.f6, .slice A7_ x.f0.f7.length c7_, .int .i64 x.f1.f0, .int .i64 x.f1.f1, .bool x.f1.f2, .int .i64 x.f2.f0, .int .i64 x.f2.f1, .bool x.f2.f2, .int .i64 x.f3.f0, .slice A15_ x.f3.f1.length c15_, .int .i64 x.f3.f2, .int .i64 x.f3.f3, .slice A18_ x.f4.length c18_]) _ HRNG.out hu37 rfl hi37)) | (with_reducible refine pick_gateS 6 _ _ rfl ?_); obtain ⟨W2, hW2, hE, hbe⟩ := pick_setNew wr Z (#[.int .i64 x.f0.f0, .int .i64 x.f0.f1, .slice A2_ x.f0.f2.length c2_, .int .i64 x.f0.f3, .int .i64 x.f0.f4, .int .i64 x.f0.f5, .int .i64 x.f0.f6, .slice A7_ x.f0.f7.length c7_, .int .i64 x.f1.f0, .int .i64 x.f1.f1, .bool x.f1.f2, .int .i64 x.f2.f0, .int .i64 x.f2.f1, .bool x.f2.f2, .int .i64 x.f3.f0, .slice A15_ x.f3.f1.length c15_, .int .i64 x.f3.f2, .int .i64 x.f3.f3, .slice A18_ x.f4.length c18_]) 37; refine pick_runS (fun _ => trivial) (by intro c h; cases h) rfl (w1 := W2) ?hr ?_; (case hr => rw [hW2]; exact pick_store rfl wr.heap.size _ rfl rfl 37 Z (pick_new wr _) hi37 sz (by simp [Value.oneCell'])); have HE := Aside0.mk hE; have HBE := Aside0.mk hbe; clear hE hbe hW2 | (with_reducible refine pick_gate 15 rfl ?_); refine pick_run (fun _ => trivial) (by intro c h; cases h) rfl (v := .agg (#[.int .i64 x.f0.f0, .int .i64 x.f0.f1, .slice A2_ x.f0.f2.length c2_, .int .i64 x.f0.f3, .int .i64 x.f0.f4, .int .i64 x.f0.f5, .int .i64 x.f0.f6, .slice A7_ x.f0.f7.length c7_])) (w1 := W2) ?hr ?_; (case hr => exact pick_load rfl rfl (pick_loadAt W2 _ 27 ([.int .i64 x.f0.f0, .int .i64 x.f0.f1, .slice A2_ x.f0.f2.length c2_, .int .i64 x.f0.f3, .int .i64 x.f0.f4, .int .i64 x.f0.f5, .int .i64 x.f0.f6, .slice A7_ x.f0.f7.length c7_]) _ (pick_prefix _ ([.int .i64 x.f1.f0, .int .i64 x.f1.f1, .bool x.f1.f2, .int .i64 x.f2.f0, .int .i64 x.f2.f1, .bool x.f2.f2, .int .i64 x.f3.f0, .slice A15_ x.f3.f1.length c15_, .int .i64 x.f3.f2, .int .i64 x.f3.f3, .slice A18_ x.f4.length c18_]) HE.out) hu27 rfl hi27)) | (refine ⟨trivial, ?_⟩; gi_at_call 41; refine (callsIn_wide.2 (policy_Zero.calls x.f0.f0 x.f0.f1 A2_ c2_ x.f0.f2 x.f0.f3 x.f0.f4 x.f0.f5 x.f0.f6 A7_ c7_ x.f0.f7 false W2 (Kd.C_below g2_ HBE.out) l2_ (Kd.C_below g7_ HBE.out) l7_ (by rw [policy_Zero.f]; rw [HZE.out]))).mono ?_; rintro e W3 ⟨rfl, hb3⟩; have HB3 := Aside0.mk (below_step HBE.out hb3); have hv3 : W3.cell? ⟨Bv, 18, none⟩ = some (.slice A1 l1.length c1) := pick_cell ((HB3.out.block Bv (by have := HS.out; omega)).trans HV.out) 18 hv18; have hx3 : W3.cell? ⟨wr.heap.size, 18, none⟩ = some (.slice A18_ x.f4.length c18_) := pick_cell ((hb3.block wr.heap.size (Array.getElem?_eq_some_iff.1 HE.out).1).trans HE.out) 18 rfl; have HC3 := Aside0.mk ((HB3.out.block Bc (by have := HS.out; omega)).trans HC.out); clear hb3) | (with_reducible refine pick_gate 19 rfl ?_); refine pick_run (fun _ => trivial) (by intro c h; cases h) rfl (v := .agg Cc) (w1 := W3) ?hr ?_; (case hr => exact pick_loadRow rfl Bc rfl 23 Cc (0, 0) _ HC3.out hu23 rfl (by rw [HCC.out]; exact hi23)) | (refine ⟨trivial, ?_⟩; gi_at_call 42; rw [HCC.out]; refine (callsIn_wide.2 (score_Better.calls a0_0 a0_1 a0_2 a0_3 a0_4 a0_5 a0_6 a0_7 a0_8 a0_9 a0_10 a0_11 A1 c1 l1 A18_ c18_ x.f4 true W3 (Kd.C_below HR1.out (below_step HB.out HB3.out)) hc1 (Kd.C_below g18_ HB3.out) l18_ (by rw [better_f, HBT.out]))).mono ?_; rintro e W4 ⟨rfl, hb4⟩; have HB4 := Aside0.mk (below_step HB3.out hb4); have hJ4 := pick_J hJ hJs HB4.out; obtain ⟨fn, tmps, assign, body, hy, hR⟩ := hY _ (⟨(k : Int) + 1, by omega, by omega⟩ : Plc l2.length) W4 hJ4 (Nat.lt_of_le_of_lt (plc_length _ _ _) hlt); dsimp only at hy; clear hb4) | fail)
          refine hR.mono ?_
          rintro e W5 (⟨rfl, hJ5, hk5⟩ | ⟨rfl, hJx5⟩)
          · gi_wp2
            go_roundw
            case rel => exact ⟨k + 1, by omega, by simp, by rw [plc_yes hlt hbk.out]; exact hJ5, ⟨(below_step HB.out HB4.out).trans hk5.1⟩, ⟨Nat.le_trans HS.out (Nat.le_trans HB4.out.size hk5.1.size)⟩, ⟨hk5.2.1.trans ((HB4.out.block Bc (by have := HS.out; omega)).trans HC.out)⟩, ⟨hk5.2.2.trans ((HB4.out.block Bv (by have := HS.out; omega)).trans HV.out)⟩⟩
            case measure => simp [intOf]; omega
          · gi_wp2
            exact bodyPost_ret (results_none rfl _ _ _) rfl ⟨⟨_, rfl⟩, .inr ⟨_, trivial, hJx5⟩⟩
      · have HZE := Aside0.mk hz
        have hbk := Aside0.mk (show beats a0_7 a0_8 a0_9 l1 l2 k = false by unfold beats; rw [hx, hz]; rfl)
        clear hz
        gi_wp2_with (first | (with_reducible refine pick_gate 13 rfl ?_); refine pick_run (fun _ => trivial) (by intro c h; cases h) rfl (v := .agg (#[.int .i64 x.f0.f0, .int .i64 x.f0.f1, .slice A2_ x.f0.f2.length c2_, .int .i64 x.f0.f3, .int .i64 x.f0.f4, .int .i64 x.f0.f5, .int .i64 x.f0.f6, .slice A7_ x.f0.f7.length c7_, .int .i64 x.f1.f0, .int .i64 x.f1.f1, .bool x.f1.f2, .int .i64 x.f2.f0, .int .i64 x.f2.f1, .bool x.f2.f2, .int .i64 x.f3.f0, .slice A15_ x.f3.f1.length c15_, .int .i64 x.f3.f2, .int .i64 x.f3.f3, .slice A18_ x.f4.length c18_])) (w1 := wr) ?hr ?_; (case hr => exact pick_load rfl rfl (pick_loadAt wr _ 37 ([.int .i64 x.f0.f0, .int .i64 x.f0.f1, .slice A2_ x.f0.f2.length c2_, .int .i64 x.f0.f3, .int .i64 x.f0.f4, .int .i64 x.f0.f5, .int .i64 x.f0.f6, .slice A7_ x.f0.f7.length c7_, .int .i64 x.f1.f0, .int .i64 x.f1.f1, .bool x.f1.f2, .int .i64 x.f2.f0, .int .i64 x.f2.f1, .bool x.f2.f2, .int .i64 x.f3.f0, .slice A15_ x.f3.f1.length c15_, .int .i64 x.f3.f2, .int .i64 x.f3.f3, .slice A18_ x.f4.length c18_]) _ HRNG.out hu37 rfl hi37)) | (with_reducible refine pick_gateS 6 _ _ rfl ?_); obtain ⟨W2, hW2, hE, hbe⟩ := pick_setNew wr Z (#[.int .i64 x.f0.f0, .int .i64 x.f0.f1, .slice A2_ x.f0.f2.length c2_, .int .i64 x.f0.f3, .int .i64 x.f0.f4, .int .i64 x.f0.f5, .int .i64 x.f0.f6, .slice A7_ x.f0.f7.length c7_, .int .i64 x.f1.f0, .int .i64 x.f1.f1, .bool x.f1.f2, .int .i64 x.f2.f0, .int .i64 x.f2.f1, .bool x.f2.f2, .int .i64 x.f3.f0, .slice A15_ x.f3.f1.length c15_, .int .i64 x.f3.f2, .int .i64 x.f3.f3, .slice A18_ x.f4.length c18_]) 37; refine pick_runS (fun _ => trivial) (by intro c h; cases h) rfl (w1 := W2) ?hr ?_; (case hr => rw [hW2]; exact pick_store rfl wr.heap.size _ rfl rfl 37 Z (pick_new wr _) hi37 sz (by simp [Value.oneCell'])); have HE := Aside0.mk hE; have HBE := Aside0.mk hbe; clear hE hbe hW2 | (with_reducible refine pick_gate 15 rfl ?_); refine pick_run (fun _ => trivial) (by intro c h; cases h) rfl (v := .agg (#[.int .i64 x.f0.f0, .int .i64 x.f0.f1, .slice A2_ x.f0.f2.length c2_, .int .i64 x.f0.f3, .int .i64 x.f0.f4, .int .i64 x.f0.f5, .int .i64 x.f0.f6, .slice A7_ x.f0.f7.length c7_])) (w1 := W2) ?hr ?_; (case hr => exact pick_load rfl rfl (pick_loadAt W2 _ 27 ([.int .i64 x.f0.f0, .int .i64 x.f0.f1, .slice A2_ x.f0.f2.length c2_, .int .i64 x.f0.f3, .int .i64 x.f0.f4, .int .i64 x.f0.f5, .int .i64 x.f0.f6, .slice A7_ x.f0.f7.length c7_]) _ (pick_prefix _ ([.int .i64 x.f1.f0, .int .i64 x.f1.f1, .bool x.f1.f2, .int .i64 x.f2.f0, .int .i64 x.f2.f1, .bool x.f2.f2, .int .i64 x.f3.f0, .slice A15_ x.f3.f1.length c15_, .int .i64 x.f3.f2, .int .i64 x.f3.f3, .slice A18_ x.f4.length c18_]) HE.out) hu27 rfl hi27)) | (refine ⟨trivial, ?_⟩; gi_at_call 41; refine (callsIn_wide.2 (policy_Zero.calls x.f0.f0 x.f0.f1 A2_ c2_ x.f0.f2 x.f0.f3 x.f0.f4 x.f0.f5 x.f0.f6 A7_ c7_ x.f0.f7 true W2 (Kd.C_below g2_ HBE.out) l2_ (Kd.C_below g7_ HBE.out) l7_ (by rw [policy_Zero.f]; rw [HZE.out]))).mono ?_; rintro e W3 ⟨rfl, hb3⟩; have HB3 := Aside0.mk (below_step HBE.out hb3); have hv3 : W3.cell? ⟨Bv, 18, none⟩ = some (.slice A1 l1.length c1) := pick_cell ((HB3.out.block Bv (by have := HS.out; omega)).trans HV.out) 18 hv18; have hx3 : W3.cell? ⟨wr.heap.size, 18, none⟩ = some (.slice A18_ x.f4.length c18_) := pick_cell ((hb3.block wr.heap.size (Array.getElem?_eq_some_iff.1 HE.out).1).trans HE.out) 18 rfl; have HC3 := Aside0.mk ((HB3.out.block Bc (by have := HS.out; omega)).trans HC.out); clear hb3) | ((with_reducible refine pick_gate 24 rfl ?_); refine pick_skip (fun _ => trivial) rfl ?_) | ((with_reducible refine pick_gate 30 rfl ?_); refine pick_skip (fun _ => trivial) rfl ?_))
        go_roundw
        case rel => exact ⟨k + 1, by omega, by simp, by rw [plc_no hbk.out]; exact pick_J hJ hJs HB3.out, ⟨below_step HB.out HB3.out⟩, ⟨Nat.le_trans HS.out (Below.size HB3.out)⟩, ⟨(Below.block HB3.out Bc (by have := HS.out; omega)).trans HC.out⟩, ⟨(Below.block HB3.out Bv (by have := HS.out; omega)).trans HV.out⟩⟩
        case measure => simp [intOf]; omega
    · obtain rfl : k = l2.length := by omega
      gi_wp2
      go_end0
      exact ⟨⟨_, rfl⟩, .inl ⟨_, rfl, hJs⟩⟩
theorem pick1_calls (at_ : Int) (Bl : Nat) (A2 : Option Addr) (c2 : Nat) (l2 : List S37) (W : World) (h1 : 1 ≤ at_) (h2 : at_ ≤ (l2.length : Int)) (hl : W.cell? ⟨Bl, 0, none⟩ = some (.slice A2 l2.length c2)) (hr2 : Kd.C k37 W A2 l2.length l2) :
    Calls Try.prog 28 #[.int .i64 at_, .pointer (some ⟨Bl, 0, none⟩)] W fun e W' => e = .returned (.int .i64 (costF (rd_T37 l2 (at_ - 1)).f4)) ∧ Below W.heap.size W W' := by
  have hu38 := Try.underlying38
  have hu37 := Try.underlying37
  have hmax := hr2.2.1
  obtain ⟨ad, A2_, c2_, A7_, c7_, A15_, c15_, A18_, c18_, rfl, x0, x1, x2, x3, x4, x5, x6, x7, x8, x9, x10, x11, x12, x13, x14, x15, x16, x17, x18, l2_, g2_, l7_, g7_, l15_, g15_, l18_, g18_⟩ := at_T37 hr2 (at_ - 1) (by omega) (by omega)
  have H18 := Aside0.mk g18_
  have L18 := Aside0.mk l18_
  clear x0 x1 x2 x3 x4 x5 x6 x7 x8 x9 x10 x11 x12 x13 x14 x15 x16 x17 l2_ g2_ l7_ g7_ l15_ g15_ l18_ g18_ hr2
  have c8 : decide (0 ≤ at_ - 1) = true := decide_eq_true (by omega)
  have c9 : decide (at_ - 1 < (l2.length : Int)) = true := decide_eq_true (by omega)
  rw [show (at_ - 1).toNat = at_.toNat - 1 from by omega] at x18
  go_enter Try.func28, Try.ntmps28
  go_wp2_with (go_at_call 29; refine (score_Cost.calls A18_ c18_ _ _ W H18.out L18.out rfl).mono ?_; rintro e w1 ⟨rfl, hb⟩)
  go_ret
  exact ⟨rfl, hb⟩
set_option maxHeartbeats 1000000 in
theorem beating_calls (a0_0 a0_1 a0_2 a0_3 a0_4 a0_5 a0_6 a0_7 a0_8 a0_9 a0_10 a0_11 : Int) (a1_0 a1_1 a1_3 a1_4 a1_5 a1_6 a1_8 a1_9 a1_11 a1_12 a1_14 a1_16 a1_17 : Int) (a1_10 a1_13 : Bool) (A1_2 A1_7 A1_15 A1_18 : Option Addr) (c1_2 c1_7 c1_15 c1_18 n1_2 n1_7 n1_15 n1_18 : Nat) (A2 : Option Addr) (n2 c2 : Nat) (w : World) :
    Calls Try.prog 30 #[.agg #[.int .i64 a0_0, .int .i64 a0_1, .int .i64 a0_2, .int .i64 a0_3, .int .i64 a0_4, .int .i64 a0_5, .int .i64 a0_6, .int .i64 a0_7, .int .i64 a0_8, .int .i64 a0_9, .int .i64 a0_10, .int .i64 a0_11], .agg #[.int .i64 a1_0, .int .i64 a1_1, .slice A1_2 n1_2 c1_2, .int .i64 a1_3, .int .i64 a1_4, .int .i64 a1_5, .int .i64 a1_6, .slice A1_7 n1_7 c1_7, .int .i64 a1_8, .int .i64 a1_9, .bool a1_10, .int .i64 a1_11, .int .i64 a1_12, .bool a1_13, .int .i64 a1_14, .slice A1_15 n1_15 c1_15, .int .i64 a1_16, .int .i64 a1_17, .slice A1_18 n1_18 c1_18], .slice A2 n2 c2] w fun e w' => e = .returned (.func (.func 40) #[] #[.pointer (some ⟨w.heap.size + 2, 0, none⟩), .pointer (some ⟨w.heap.size, 0, none⟩), .pointer (some ⟨w.heap.size + 1, 0, none⟩)]) ∧ w' = ((w.alloc (.cells #[.int .i64 a0_0, .int .i64 a0_1, .int .i64 a0_2, .int .i64 a0_3, .int .i64 a0_4, .int .i64 a0_5, .int .i64 a0_6, .int .i64 a0_7, .int .i64 a0_8, .int .i64 a0_9, .int .i64 a0_10, .int .i64 a0_11] 23)).alloc (.cells #[.int .i64 a1_0, .int .i64 a1_1, .slice A1_2 n1_2 c1_2, .int .i64 a1_3, .int .i64 a1_4, .int .i64 a1_5, .int .i64 a1_6, .slice A1_7 n1_7 c1_7, .int .i64 a1_8, .int .i64 a1_9, .bool a1_10, .int .i64 a1_11, .int .i64 a1_12, .bool a1_13, .int .i64 a1_14, .slice A1_15 n1_15 c1_15, .int .i64 a1_16, .int .i64 a1_17, .slice A1_18 n1_18 c1_18] 37)).alloc (.cells #[.slice A2 n2 c2] 38) := by
  have hu37 := Try.underlying37
  have hu23 := Try.underlying23
  have hu38 := Try.underlying38
  go_enter Try.func30, Try.ntmps30
  go_wp2
  go_ret
  exact ⟨rfl, rfl⟩
attribute [local go_sem] Oper.semAt_some
theorem pick_boxes (w : World) (C0 C1 : Array Value) (s n v : Value) : ∃ W4, W4 = ((((w.alloc (.cells C0 23)).alloc (.cells C1 37)).alloc (.cells #[s] 38)).alloc (.cells #[n] 65)).setRow (w.heap.size + 1 + 1 + 1) #[v] ∧
    W4.heap[w.heap.size]? = some (.cells C0 23 (0, 0)) ∧ W4.heap[w.heap.size + 1]? = some (.cells C1 37 (0, 0)) ∧ W4.heap[w.heap.size + 1 + 1]? = some (.cells #[s] 38 (0, 0)) ∧ W4.heap[w.heap.size + 1 + 1 + 1]? = some (.cells #[v] 65 (0, 0)) ∧ Below w.heap.size w W4 ∧ W4.heap.size = w.heap.size + 1 + 1 + 1 + 1 := by
  have e0 := pick_new w (.cells C0 23)
  have e1 := pick_new (w.alloc (.cells C0 23)) (.cells C1 37)
  have e2 := pick_new ((w.alloc (.cells C0 23)).alloc (.cells C1 37)) (.cells #[s] 38)
  have e3 := pick_new (((w.alloc (.cells C0 23)).alloc (.cells C1 37)).alloc (.cells #[s] 38)) (.cells #[n] 65)
  simp only [World.size_alloc] at e1 e2 e3
  refine ⟨_, rfl, ?_, ?_, ?_, setRow_heap _ _ _ _ _ _ e3, ?_, by simp [World.setRow]⟩
  · rw [setRow_other _ _ _ _ (by omega), Below.heap_alloc _ _ _ (by simp <;> omega), Below.heap_alloc _ _ _ (by simp <;> omega), Below.heap_alloc _ _ _ (by simp)]; exact e0
  · rw [setRow_other _ _ _ _ (by omega), Below.heap_alloc _ _ _ (by simp <;> omega), Below.heap_alloc _ _ _ (by simp)]; exact e1
  · rw [setRow_other _ _ _ _ (by omega), Below.heap_alloc _ _ _ (by simp)]; exact e2
  · exact below_setRow (below_alloc (below_alloc (below_alloc (below_alloc (Below.refl _ _) _) _) _) _) (by omega) _
theorem pick_boxes2 (W4 : World) (n : Nat) (hn : W4.heap.size = n) (C0 C1 : Array Value) (s i : Value) : ∃ W8, W8 = (((W4.alloc (.cells #[i] 3)).alloc (.cells C0 23)).alloc (.cells C1 37)).alloc (.cells #[s] 38) ∧
    W8.heap[n]? = some (.cells #[i] 3 (0, 0)) ∧ W8.heap[n + 1]? = some (.cells C0 23 (0, 0)) ∧ W8.heap[n + 1 + 1]? = some (.cells C1 37 (0, 0)) ∧ W8.heap[n + 1 + 2]? = some (.cells #[s] 38 (0, 0)) ∧ Below n W4 W8 ∧ W8.heap.size = n + 4 := by
  subst hn
  have e0 := pick_new W4 (.cells #[i] 3)
  have e1 := pick_new (W4.alloc (.cells #[i] 3)) (.cells C0 23)
  have e2 := pick_new ((W4.alloc (.cells #[i] 3)).alloc (.cells C0 23)) (.cells C1 37)
  have e3 := pick_new3 W4 (.cells #[i] 3) (.cells C0 23) (.cells C1 37) (.cells #[s] 38)
  simp only [World.size_alloc] at e1 e2
  refine ⟨_, rfl, ?_, ?_, ?_, e3, below_alloc (below_alloc (below_alloc (below_alloc (Below.refl _ _) _) _) _) _, by simp⟩
  · rw [Below.heap_alloc _ _ _ (by simp <;> omega), Below.heap_alloc _ _ _ (by simp <;> omega), Below.heap_alloc _ _ _ (by simp)]; exact e0
  · rw [Below.heap_alloc _ _ _ (by simp <;> omega), Below.heap_alloc _ _ _ (by simp)]; exact e1
  · rw [Below.heap_alloc _ _ _ (by simp)]; exact e2
theorem pick_keep {w w' : World} (hb : Below w.heap.size w w') {a : Addr} {v : Value} (h : w.cell? a = some v) : w'.cell? a = some v := (hb.cell (World.block_lt_of_cell? w a h)).trans h
theorem pick_keepF {w w' : World} (hb : Below w.heap.size w w') {a : Addr} {v : Value} (h : w.cell? a = some v) (hf : w.frozen? a = false) : w'.frozen? a = false := (hb.frozen (World.block_lt_of_cell? w a h)).trans hf
theorem pick_kf {B : Nat} {W w' : World} (h : Below W.heap.size W w') : KeepsFrom B W w' := ⟨h.size, fun k o _ hk _ => (h.block k (Array.getElem?_eq_some_iff.1 hk).1).trans hk⟩
theorem pick_other {W : World} {b c : Nat} {u v : Value} (h : W.cell? ⟨b, 0, none⟩ = some v) (hne : b ≠ c) : (W.setCell ⟨c, 0, none⟩ u).cell? ⟨b, 0, none⟩ = some v := (World.cell?_of_block (a := ⟨b, 0, none⟩) (Below.heap_setCell _ _ _ _ hne)).trans h
theorem pick_end {w W w' : World} {B : Nat} {old : Value} (v fv sv : Value) (hC : Below W.heap.size W w') (hB : Below w.heap.size w W) (hs : w.heap.size + 8 ≤ W.heap.size) (hc : w'.cell? ⟨w.heap.size + 1 + 1 + 1 + 1, 0, none⟩ = some old) (hf : w'.frozen? ⟨w.heap.size + 1 + 1 + 1 + 1, 0, none⟩ = false) (hfv : w'.cell? ⟨w.heap.size + 1 + 1 + 1, 0, none⟩ = some fv) (hsl : w'.cell? ⟨w.heap.size + 1 + 1, 0, none⟩ = some sv) :
    KeepsFrom B W (w'.setCell ⟨w.heap.size + 1 + 1 + 1 + 1, 0, none⟩ v) ∧ keepsP w.heap.size (w.heap.size + 1 + 1 + 1 + 1 + 1) (w.heap.size + 1 + 1 + 1 + 1 + 1 + 1) W (w'.setCell ⟨w.heap.size + 1 + 1 + 1 + 1, 0, none⟩ v) ∧
    ((w'.setCell ⟨w.heap.size + 1 + 1 + 1 + 1, 0, none⟩ v).cell? ⟨w.heap.size + 1 + 1 + 1 + 1, 0, none⟩ = some v ∧ (w'.setCell ⟨w.heap.size + 1 + 1 + 1 + 1, 0, none⟩ v).frozen? ⟨w.heap.size + 1 + 1 + 1 + 1, 0, none⟩ = false ∧ (w'.setCell ⟨w.heap.size + 1 + 1 + 1 + 1, 0, none⟩ v).cell? ⟨w.heap.size + 1 + 1 + 1, 0, none⟩ = some fv ∧ (w'.setCell ⟨w.heap.size + 1 + 1 + 1 + 1, 0, none⟩ v).cell? ⟨w.heap.size + 1 + 1, 0, none⟩ = some sv ∧ w.heap.size + 8 ≤ (w'.setCell ⟨w.heap.size + 1 + 1 + 1 + 1, 0, none⟩ v).heap.size) ∧ Below w.heap.size w (w'.setCell ⟨w.heap.size + 1 + 1 + 1 + 1, 0, none⟩ v) := by
  have hb : Below w.heap.size W (w'.setCell ⟨w.heap.size + 1 + 1 + 1 + 1, 0, none⟩ v) := (hC.mono hB.size).setCell (p := ⟨w.heap.size + 1 + 1 + 1 + 1, 0, none⟩) (by show w.heap.size ≤ w.heap.size + 1 + 1 + 1 + 1; omega) v
  refine ⟨(pick_kf hC).trans ((KeepsOthers.setCell _ _ _).from _), ⟨hb, ?_, ?_⟩, ⟨World.cell?_setCell_same' _ _ _ (by rw [hc]; rfl), by rw [World.frozen?_setCell]; exact hf, pick_other hfv (by omega), pick_other hsl (by omega), Nat.le_trans hs hb.size⟩, hB.trans hb⟩
  · exact (Below.heap_setCell _ _ _ _ (by show w.heap.size + 1 + 1 + 1 + 1 + 1 ≠ w.heap.size + 1 + 1 + 1 + 1; omega)).trans (hC.block _ (by omega))
  · exact (Below.heap_setCell _ _ _ _ (by show w.heap.size + 1 + 1 + 1 + 1 + 1 + 1 ≠ w.heap.size + 1 + 1 + 1 + 1; omega)).trans (hC.block _ (by omega))
def AllOps (F : Fence) (n : Nat) (P : Program) (ops : Array Oper) (Q : Exit → Act → World → Prop) (I : Nat → Act → World → Prop) (a : Act) (w : World) : List Nat → Prop
  | [] => True
  | i :: r => wpOpIn F n P ops Q i (I i) a w ∧ AllOps F n P ops Q I a w r
theorem allOps_mem {F : Fence} {n : Nat} {P : Program} {ops : Array Oper} {Q : Exit → Act → World → Prop} {I K : Nat → Act → World → Prop} {a : Act} {w : World} (hk : ∀ i a w, I i a w → K i a w) : ∀ {rs : List Nat}, AllOps F n P ops Q I a w rs → ∀ i ∈ rs, wpOpIn F n P ops Q i (K i) a w
  | [], _, _, h => by cases h
  | j :: r, h, i, hi => by
    rcases List.mem_cons.1 hi with rfl | hi
    · exact wpOpIn_mono (fun a w => hk _ a w) h.1
    · exact allOps_mem hk h.2 i hi
theorem any_inv {F : Fence} {n : Nat} {P : Program} {md : Region.Mode} {ops : Array Oper} {Q : Exit → Act → World → Prop} (I : Nat → Array Bool → Act → World → Prop)
    (h : ∀ fuel listed a w, I fuel listed a w → (Region.ready md ops listed = [] ∧ Q .normal a w) ∨ ∃ f rs, fuel = f + 1 ∧ Region.ready md ops listed = rs ∧ rs ≠ [] ∧ AllOps F n P ops Q (fun i => I f (listed.setIfInBounds i true)) a w rs) :
    ∀ fuel listed a w, I fuel listed a w → wpAnyIn F n P md ops Q fuel listed a w := by
  intro fuel
  induction fuel with
  | zero =>
    intro listed a w hi
    rcases h _ _ _ _ hi with h1 | ⟨f, rs, e, _⟩
    · exact h1
    · cases e
  | succ fuel ih =>
    intro listed a w hi
    rcases h _ _ _ _ hi with ⟨h1, h2⟩ | ⟨f, rs, e, hr, hne, ho⟩
    · exact wpAnyIn_done h1 h2 _
    · obtain rfl : fuel = f := by omega
      exact wpAnyIn_all hr hne (allOps_mem (fun i a w => ih _ a w) ho)
theorem pickStep_in {l : List S37} {b x : Int} (hb : 0 ≤ b ∧ b ≤ l.length) (hx : 1 ≤ x ∧ x ≤ l.length) : 0 ≤ pickStep l b x ∧ pickStep l b x ≤ l.length := by
  unfold pickStep
  split
  · omega
  · split <;> omega
theorem pickFold_in (l : List S37) (ys : List (Plc l.length)) : 0 ≤ pickFold l ys ∧ pickFold l ys ≤ l.length := by
  unfold pickFold
  suffices h : ∀ (ys : List (Plc l.length)) (b : Int), 0 ≤ b ∧ b ≤ l.length → 0 ≤ ys.foldl (fun b x => pickStep l b x.1) b ∧ ys.foldl (fun b x => pickStep l b x.1) b ≤ l.length from h ys 0 (by omega)
  intro ys
  induction ys with
  | nil => exact fun b h => h
  | cons x ys ih => exact fun b h => ih _ (pickStep_in h x.2)
theorem pickFold_snoc (l : List S37) (ys : List (Plc l.length)) (x : Plc l.length) : pickFold l (ys ++ [x]) = pickStep l (pickFold l ys) x.1 := by simp [pickFold]
theorem keepsP_b {n₀ Bc Bv : Nat} {w : World} (hn : n₀ ≤ w.heap.size) (hc : Bc < w.heap.size) (hv : Bv < w.heap.size) (W : World) (l : Nat) (o o' : Obj) (hl : w.heap.size ≤ l) (h : W.heap[l]? = some o) (h1 : o.isCells = false) (h2 : o.isWalk = false) : keepsP n₀ Bc Bv W (W.putObj l o') := by
  have k := belowK_b (n₀ := w.heap.size) (Nat.le_refl _) W l o o' hl h h1 h2
  exact ⟨k.mono hn, k.block _ hc, k.block _ hv⟩
theorem keepsP_t {n₀ Bc Bv : Nat} {A B C : World} (h : keepsP n₀ Bc Bv A B) (k : keepsP n₀ Bc Bv B C) : keepsP n₀ Bc Bv A C := ⟨h.1.trans k.1, k.2.1.trans h.2.1, k.2.2.trans h.2.2⟩
set_option maxRecDepth 100000 in
set_option maxHeartbeats 40000000 in
theorem pick_calls (a0_0 a0_1 a0_2 a0_3 a0_4 a0_5 a0_6 a0_7 a0_8 a0_9 a0_10 a0_11 : Int) (a1_0 a1_1 : Int) (A1_2 : Option Addr) (c1_2 : Nat) (l1_2 : List S72) (a1_3 a1_4 a1_5 a1_6 : Int) (A1_7 : Option Addr) (c1_7 : Nat) (l1_7 : List S74) (a1_8 a1_9 : Int) (a1_10 : Bool) (a1_11 a1_12 : Int) (a1_13 : Bool) (a1_14 : Int) (A1_15 : Option Addr) (c1_15 : Nat) (l1_15 : List Int) (a1_16 a1_17 : Int) (A1_18 : Option Addr) (c1_18 : Nat) (l1_18 : List S64) (A2 : Option Addr) (c2 : Nat) (l2 : List S37) (w : World) (hr1 : Kd.C k64 w A1_18 l1_18.length l1_18) (hc1 : l1_18.length ≤ c1_18) (hr2 : Kd.C k37 w A2 l2.length l2) (hc2 : l2.length ≤ c2) :
    Calls Try.prog 12 #[.agg #[.int .i64 a0_0, .int .i64 a0_1, .int .i64 a0_2, .int .i64 a0_3, .int .i64 a0_4, .int .i64 a0_5, .int .i64 a0_6, .int .i64 a0_7, .int .i64 a0_8, .int .i64 a0_9, .int .i64 a0_10, .int .i64 a0_11], .agg #[.int .i64 a1_0, .int .i64 a1_1, .slice A1_2 l1_2.length c1_2, .int .i64 a1_3, .int .i64 a1_4, .int .i64 a1_5, .int .i64 a1_6, .slice A1_7 l1_7.length c1_7, .int .i64 a1_8, .int .i64 a1_9, .bool a1_10, .int .i64 a1_11, .int .i64 a1_12, .bool a1_13, .int .i64 a1_14, .slice A1_15 l1_15.length c1_15, .int .i64 a1_16, .int .i64 a1_17, .slice A1_18 l1_18.length c1_18], .slice A2 l2.length c2] w fun e w' => e = .returned (.tuple #[.int .i64 (pickF a0_7 a0_8 a0_9 l1_18 l2), .bool (decide (0 < pickF a0_7 a0_8 a0_9 l1_18 l2))]) ∧ Below w.heap.size w w' := by
  have hu37 := Try.underlying37
  have hu23 := Try.underlying23
  have hu38 := Try.underlying38
  have hro : Fence.wide.round = none := rfl
  have h1 : (1 : Nat) ≤ 5 := by omega
  have HR1 := Aside0.mk hr1
  have HR2 := Aside0.mk hr2
  have hmax := hr2.2.1
  clear hr1 hr2
  refine (callsIn_wide (n := 5)).1 ?_
  refine callsIn_of_wp_marks Try.func12 rfl trivial ?_ rfl
  simp only [Try.ntmps12, List.size_toArray, List.length_cons, List.length_nil, Nat.reduceAdd, Nat.reduceSub, Array.replicate_succ, Array.replicate_zero, List.push_toArray, List.append_toArray, List.nil_append, List.cons_append]
  have hi65 : (Try.prog.info? 65).map (·.size) = some 1 := by kernel_rfl
  have hi37 : (Try.prog.info? 37).map (·.size) = some 19 := by kernel_rfl
  have hi23 : (Try.prog.info? 23).map (·.size) = some 12 := by kernel_rfl
  gi_wp2_with (first | (with_reducible refine pick_gateS 8 _ _ rfl ?_); obtain ⟨W4, hW4, b0, b1, b2, b3, hbe, hs4⟩ := pick_boxes w #[.int .i64 a0_0, .int .i64 a0_1, .int .i64 a0_2, .int .i64 a0_3, .int .i64 a0_4, .int .i64 a0_5, .int .i64 a0_6, .int .i64 a0_7, .int .i64 a0_8, .int .i64 a0_9, .int .i64 a0_10, .int .i64 a0_11] #[.int .i64 a1_0, .int .i64 a1_1, .slice A1_2 l1_2.length c1_2, .int .i64 a1_3, .int .i64 a1_4, .int .i64 a1_5, .int .i64 a1_6, .slice A1_7 l1_7.length c1_7, .int .i64 a1_8, .int .i64 a1_9, .bool a1_10, .int .i64 a1_11, .int .i64 a1_12, .bool a1_13, .int .i64 a1_14, .slice A1_15 l1_15.length c1_15, .int .i64 a1_16, .int .i64 a1_17, .slice A1_18 l1_18.length c1_18] (.slice A2 l2.length c2) .nilFunc (.func (.func 28) #[] #[.pointer (some ⟨w.heap.size + 1 + 1, 0, none⟩)]); refine pick_runS (fun _ => trivial) (by intro c h; cases h) rfl (w1 := W4) ?hr ?_; (case hr => rw [hW4]; exact pick_storeOne rfl _ _ rfl rfl rfl 65 .nilFunc (pick_new3 _ _ _ _ _) hi65); have B0 := Aside0.mk b0; have B1 := Aside0.mk b1; have B2 := Aside0.mk b2; have B3 := Aside0.mk b3; have HBE := Aside0.mk hbe; have hl4 : W4.cell? ⟨w.heap.size + 1 + 1, 0, none⟩ = some (.slice A2 l2.length c2) := pick_cell b2 0 rfl; clear b0 b1 b2 b3 hbe hW4 | (with_reducible refine pick_gate 12 rfl ?_); refine pick_run (fun _ => trivial) (by intro c h; cases h) rfl (v := .agg #[.int .i64 a0_0, .int .i64 a0_1, .int .i64 a0_2, .int .i64 a0_3, .int .i64 a0_4, .int .i64 a0_5, .int .i64 a0_6, .int .i64 a0_7, .int .i64 a0_8, .int .i64 a0_9, .int .i64 a0_10, .int .i64 a0_11]) (w1 := W4.alloc (.cells #[.int .i64 0] 3)) ?hr ?_; (case hr => exact pick_loadRow rfl w.heap.size rfl 23 _ (0, 0) _ ((Below.heap_alloc _ _ _ (by rw [hs4]; omega)).trans B0.out) hu23 rfl hi23) | (with_reducible refine pick_gate 13 rfl ?_); refine pick_run (fun _ => trivial) (by intro c h; cases h) rfl (v := .agg #[.int .i64 a1_0, .int .i64 a1_1, .slice A1_2 l1_2.length c1_2, .int .i64 a1_3, .int .i64 a1_4, .int .i64 a1_5, .int .i64 a1_6, .slice A1_7 l1_7.length c1_7, .int .i64 a1_8, .int .i64 a1_9, .bool a1_10, .int .i64 a1_11, .int .i64 a1_12, .bool a1_13, .int .i64 a1_14, .slice A1_15 l1_15.length c1_15, .int .i64 a1_16, .int .i64 a1_17, .slice A1_18 l1_18.length c1_18]) (w1 := W4.alloc (.cells #[.int .i64 0] 3)) ?hr ?_; (case hr => exact pick_loadRow rfl (w.heap.size + 1) rfl 37 _ (0, 0) _ ((Below.heap_alloc _ _ _ (by rw [hs4]; omega)).trans B1.out) hu37 rfl hi37) | (refine ⟨trivial, ?_⟩; gi_at_call 30; refine (callsIn_wide.2 (beating_calls a0_0 a0_1 a0_2 a0_3 a0_4 a0_5 a0_6 a0_7 a0_8 a0_9 a0_10 a0_11 a1_0 a1_1 a1_3 a1_4 a1_5 a1_6 a1_8 a1_9 a1_11 a1_12 a1_14 a1_16 a1_17 a1_10 a1_13 A1_2 A1_7 A1_15 A1_18 c1_2 c1_7 c1_15 c1_18 l1_2.length l1_7.length l1_15.length l1_18.length A2 l2.length c2 _)).mono ?_; rintro e w' ⟨rfl, rfl⟩))
  obtain ⟨W8, hW8, d0, d1, d2, d3, hbe8, hs8⟩ := pick_boxes2 W4 _ hs4 #[.int .i64 a0_0, .int .i64 a0_1, .int .i64 a0_2, .int .i64 a0_3, .int .i64 a0_4, .int .i64 a0_5, .int .i64 a0_6, .int .i64 a0_7, .int .i64 a0_8, .int .i64 a0_9, .int .i64 a0_10, .int .i64 a0_11] #[.int .i64 a1_0, .int .i64 a1_1, .slice A1_2 l1_2.length c1_2, .int .i64 a1_3, .int .i64 a1_4, .int .i64 a1_5, .int .i64 a1_6, .slice A1_7 l1_7.length c1_7, .int .i64 a1_8, .int .i64 a1_9, .bool a1_10, .int .i64 a1_11, .int .i64 a1_12, .bool a1_13, .int .i64 a1_14, .slice A1_15 l1_15.length c1_15, .int .i64 a1_16, .int .i64 a1_17, .slice A1_18 l1_18.length c1_18] (.slice A2 l2.length c2) (.int .i64 0)
  rw [← hW8]
  clear hW8
  have hB8 : Below w.heap.size w W8 := HBE.out.trans (hbe8.mono (by omega))
  have hfv : W8.cell? ⟨w.heap.size + 1 + 1 + 1, 0, none⟩ = some (.func (.func 28) #[] #[.pointer (some ⟨w.heap.size + 1 + 1, 0, none⟩)]) := pick_cell ((hbe8.block _ (by omega)).trans B3.out) 0 rfl
  have hsl : W8.cell? ⟨w.heap.size + 1 + 1, 0, none⟩ = some (.slice A2 l2.length c2) := (hbe8.cell (p := ⟨w.heap.size + 1 + 1, 0, none⟩) (by show w.heap.size + 1 + 1 < _; omega)).trans hl4
  refine wpIn_rangeFunc_ownG (w0 := W8) (S := fun ys => ys = plc (beats a0_7 a0_8 a0_9 l1_18 l2) l2.length l2.length) (Sp := fun _ => True) (N := l2.length) (Kp := keepsP w.heap.size (w.heap.size + 1 + 1 + 1 + 1 + 1) (w.heap.size + 1 + 1 + 1 + 1 + 1 + 1)) (encs := fun x : Plc l2.length => #[Value.int .i64 x.1]) hro h1 (gf := 40) (lb := #[.pointer (some ⟨w.heap.size + 1 + 1 + 1 + 1 + 1 + 2, 0, none⟩), .pointer (some ⟨w.heap.size + 1 + 1 + 1 + 1 + 1, 0, none⟩), .pointer (some ⟨w.heap.size + 1 + 1 + 1 + 1 + 1 + 1, 0, none⟩)]) rfl trivial (enters_of Try.func40 (by kernel_rfl) rfl)
    (fun l J Jx W hW hJ _ hY h0 => beat1_in (5 - 1) (by omega) l _ _ _ w a0_0 a0_1 a0_2 a0_3 a0_4 a0_5 a0_6 a0_7 a0_8 a0_9 a0_10 a0_11 #[.int .i64 a1_0, .int .i64 a1_1, .slice A1_2 l1_2.length c1_2, .int .i64 a1_3, .int .i64 a1_4, .int .i64 a1_5, .int .i64 a1_6, .slice A1_7 l1_7.length c1_7, .int .i64 a1_8, .int .i64 a1_9, .bool a1_10, .int .i64 a1_11, .int .i64 a1_12, .bool a1_13, .int .i64 a1_14, .slice A1_15 l1_15.length c1_15, .int .i64 a1_16, .int .i64 a1_17, .slice A1_18 l1_18.length c1_18] A1_18 c1_18 l1_18 A2 c2 l2 HR1.out hc1 HR2.out hc2 rfl J Jx W hJ (by have := hW.size; omega) (by have := hW.size; omega) hY (hB8.trans (hW.mono hB8.size)) (pick_cell ((hW.block _ (by omega)).trans d3) 0 rfl) ((hW.block _ (by omega)).trans d1) ((hW.block _ (by omega)).trans d2) h0)
    keepsP_t (keepsP_b (by omega) (by omega) (by omega)) (Below.refl _ _) (fun _ => rfl)
    (fun pre W => (W.cell? ⟨w.heap.size + 1 + 1 + 1 + 1, 0, none⟩ = some (.int .i64 (pickFold l2 pre)) ∧ W.frozen? ⟨w.heap.size + 1 + 1 + 1 + 1, 0, none⟩ = false ∧ W.cell? ⟨w.heap.size + 1 + 1 + 1, 0, none⟩ = some (.func (.func 28) #[] #[.pointer (some ⟨w.heap.size + 1 + 1, 0, none⟩)]) ∧ W.cell? ⟨w.heap.size + 1 + 1, 0, none⟩ = some (.slice A2 l2.length c2) ∧ w.heap.size + 8 ≤ W.heap.size) ∧ Below w.heap.size w W)
    (fun _ _ _ => False)
    (OwnFrom.and (Own.from (fun s A B row hs hg hr => ⟨cell_kept hs.1 hg hr, (frozen_kept hs.1 hg hr).trans hs.2.1, cell_kept hs.2.2.1 hg hr, cell_kept hs.2.2.2.1 hg hr, Nat.le_trans hs.2.2.2.2 hg.size⟩) _) (ownFrom_below (Nat.le_refl _) hB8.size))
    (fun _ _ _ _ _ hs _ _ => hs)
    ⟨⟨pick_cell d0 0 rfl, by simp [World.frozen?, d0], hfv, hsl, by omega⟩, hB8⟩
    (fun x => { tmps := #[.agg #[.int .i64 a0_0, .int .i64 a0_1, .int .i64 a0_2, .int .i64 a0_3, .int .i64 a0_4, .int .i64 a0_5, .int .i64 a0_6, .int .i64 a0_7, .int .i64 a0_8, .int .i64 a0_9, .int .i64 a0_10, .int .i64 a0_11], .agg #[.int .i64 a1_0, .int .i64 a1_1, .slice A1_2 l1_2.length c1_2, .int .i64 a1_3, .int .i64 a1_4, .int .i64 a1_5, .int .i64 a1_6, .slice A1_7 l1_7.length c1_7, .int .i64 a1_8, .int .i64 a1_9, .bool a1_10, .int .i64 a1_11, .int .i64 a1_12, .bool a1_13, .int .i64 a1_14, .slice A1_15 l1_15.length c1_15, .int .i64 a1_16, .int .i64 a1_17, .slice A1_18 l1_18.length c1_18], .slice A2 l2.length c2, .pointer (some ⟨w.heap.size, 0, none⟩), .pointer (some ⟨w.heap.size + 1, 0, none⟩), .pointer (some ⟨w.heap.size + 1 + 1, 0, none⟩), .int .i64 0, .bool false, .pointer (some ⟨w.heap.size + 1 + 1 + 1, 0, none⟩), .pointer (some ⟨w.heap.size + 1 + 1 + 1 + 1, 0, none⟩), .int .i64 x.1, .func (.func 28) #[] #[.pointer (some ⟨w.heap.size + 1 + 1, 0, none⟩)], .agg #[.int .i64 a0_0, .int .i64 a0_1, .int .i64 a0_2, .int .i64 a0_3, .int .i64 a0_4, .int .i64 a0_5, .int .i64 a0_6, .int .i64 a0_7, .int .i64 a0_8, .int .i64 a0_9, .int .i64 a0_10, .int .i64 a0_11], .agg #[.int .i64 a1_0, .int .i64 a1_1, .slice A1_2 l1_2.length c1_2, .int .i64 a1_3, .int .i64 a1_4, .int .i64 a1_5, .int .i64 a1_6, .slice A1_7 l1_7.length c1_7, .int .i64 a1_8, .int .i64 a1_9, .bool a1_10, .int .i64 a1_11, .int .i64 a1_12, .bool a1_13, .int .i64 a1_14, .slice A1_15 l1_15.length c1_15, .int .i64 a1_16, .int .i64 a1_17, .slice A1_18 l1_18.length c1_18], .slice A2 l2.length c2, .func (.func 40) #[] #[.pointer (some ⟨w.heap.size + 1 + 1 + 1 + 1 + 1 + 2, 0, none⟩), .pointer (some ⟨w.heap.size + 1 + 1 + 1 + 1 + 1, 0, none⟩), .pointer (some ⟨w.heap.size + 1 + 1 + 1 + 1 + 1 + 1, 0, none⟩)], .int .i64 x.1, undef, undef, undef, undef, undef, undef, undef, undef, undef, undef, undef, undef, undef, undef, undef], defers := [] }) ?assign ?body ?done ?stop
  case assign =>
    intro l x W K hK
    gi_wp2
    exact hK
  case stop =>
    rintro D c pre W _ _ h _
    exact h.elim
  case done =>
    rintro D ys W hD rfl ⟨⟨hc, hf, hfv, hsl, hsz⟩, hB⟩ hK
    gi_wp2
    gi_region
    gi_wp2
    refine ⟨by simp, .inl ⟨_, _, rfl, run_takeDeferred (w := W.drew) hK, ?_⟩⟩
    rw [show pickF a0_7 a0_8 a0_9 l1_18 l2 = pickFold l2 (plc (beats a0_7 a0_8 a0_9 l1_18 l2) l2.length l2.length) from rfl]
    exact ⟨_, by simp [results, Try.f12], rfl, (hB.drew).trans (belowK_b (w := w) (Nat.le_refl _) _ D _ _ (by have := hB8.size; omega) hK rfl rfl)⟩
  case body =>
    rintro l pre x W ⟨⟨hc, hf, hfv, hsl, hsz⟩, hB⟩ _
    have hin := pickFold_in l2 pre
    have hm : Try.prog.follows .mixedOrders = true := by kernel_rfl
    generalize (Value.agg #[.int .i64 a0_0, .int .i64 a0_1, .int .i64 a0_2, .int .i64 a0_3, .int .i64 a0_4, .int .i64 a0_5, .int .i64 a0_6, .int .i64 a0_7, .int .i64 a0_8, .int .i64 a0_9, .int .i64 a0_10, .int .i64 a0_11]) = g0
    generalize (Value.agg #[.int .i64 a1_0, .int .i64 a1_1, .slice A1_2 l1_2.length c1_2, .int .i64 a1_3, .int .i64 a1_4, .int .i64 a1_5, .int .i64 a1_6, .slice A1_7 l1_7.length c1_7, .int .i64 a1_8, .int .i64 a1_9, .bool a1_10, .int .i64 a1_11, .int .i64 a1_12, .bool a1_13, .int .i64 a1_14, .slice A1_15 l1_15.length c1_15, .int .i64 a1_16, .int .i64 a1_17, .slice A1_18 l1_18.length c1_18]) = g1
    generalize (Value.func (Fn.func 40) #[] #[Value.pointer (some ⟨w.heap.size + 1 + 1 + 1 + 1 + 1 + 2, 0, none⟩), Value.pointer (some ⟨w.heap.size + 1 + 1 + 1 + 1 + 1, 0, none⟩), Value.pointer (some ⟨w.heap.size + 1 + 1 + 1 + 1 + 1 + 1, 0, none⟩)]) = g2
    by_cases z : pickFold l2 pre = 0
    · rw [z] at hc
      gi_wp2
      refine wpIn_region_any hm ?_
      refine any_inv (I := (fun fuel listed a w' => Below W.heap.size W w' ∧ ((fuel = 11 ∧ listed = #[false, false, false, false, false, false, false, false, false, false, false] ∧ a = ({ tmps := #[g0, g1, .slice A2 l2.length c2, .pointer (some ⟨w.heap.size, 0, none⟩), .pointer (some ⟨w.heap.size + 1, 0, none⟩), .pointer (some ⟨w.heap.size + 1 + 1, 0, none⟩), .int .i64 0, .bool false, .pointer (some ⟨w.heap.size + 1 + 1 + 1, 0, none⟩), .pointer (some ⟨w.heap.size + 1 + 1 + 1 + 1, 0, none⟩), .int .i64 x.1, .func (.func 28) #[] #[.pointer (some ⟨w.heap.size + 1 + 1, 0, none⟩)], g0, g1, .slice A2 l2.length c2, g2, .int .i64 x.1, undef, undef, undef, undef, undef, undef, undef, undef, undef, undef, undef, undef, undef, undef, undef], defers := [] } : Act)) ∨ (fuel = 10 ∧ listed = #[true, false, false, false, false, false, false, false, false, false, false] ∧ a = ({ tmps := #[g0, g1, .slice A2 l2.length c2, .pointer (some ⟨w.heap.size, 0, none⟩), .pointer (some ⟨w.heap.size + 1, 0, none⟩), .pointer (some ⟨w.heap.size + 1 + 1, 0, none⟩), .int .i64 0, .bool false, .pointer (some ⟨w.heap.size + 1 + 1 + 1, 0, none⟩), .pointer (some ⟨w.heap.size + 1 + 1 + 1 + 1, 0, none⟩), .int .i64 x.1, .func (.func 28) #[] #[.pointer (some ⟨w.heap.size + 1 + 1, 0, none⟩)], g0, g1, .slice A2 l2.length c2, g2, .int .i64 x.1, .int .i64 0, undef, undef, undef, undef, undef, undef, undef, undef, undef, undef, undef, undef, undef, undef], defers := [] } : Act)) ∨ (fuel = 9 ∧ listed = #[true, true, false, false, false, false, false, false, false, false, false] ∧ a = ({ tmps := #[g0, g1, .slice A2 l2.length c2, .pointer (some ⟨w.heap.size, 0, none⟩), .pointer (some ⟨w.heap.size + 1, 0, none⟩), .pointer (some ⟨w.heap.size + 1 + 1, 0, none⟩), .int .i64 0, .bool false, .pointer (some ⟨w.heap.size + 1 + 1 + 1, 0, none⟩), .pointer (some ⟨w.heap.size + 1 + 1 + 1 + 1, 0, none⟩), .int .i64 x.1, .func (.func 28) #[] #[.pointer (some ⟨w.heap.size + 1 + 1, 0, none⟩)], g0, g1, .slice A2 l2.length c2, g2, .int .i64 x.1, .int .i64 0, .bool true, undef, undef, undef, undef, undef, undef, undef, undef, undef, undef, undef, undef, undef], defers := [] } : Act)) ∨ (fuel = 8 ∧ listed = #[true, true, true, false, false, false, false, false, false, false, false] ∧ a = ({ tmps := #[g0, g1, .slice A2 l2.length c2, .pointer (some ⟨w.heap.size, 0, none⟩), .pointer (some ⟨w.heap.size + 1, 0, none⟩), .pointer (some ⟨w.heap.size + 1 + 1, 0, none⟩), .int .i64 0, .bool false, .pointer (some ⟨w.heap.size + 1 + 1 + 1, 0, none⟩), .pointer (some ⟨w.heap.size + 1 + 1 + 1 + 1, 0, none⟩), .int .i64 x.1, .func (.func 28) #[] #[.pointer (some ⟨w.heap.size + 1 + 1, 0, none⟩)], g0, g1, .slice A2 l2.length c2, g2, .int .i64 x.1, .int .i64 0, .bool true, .bool true, undef, undef, undef, undef, undef, undef, undef, undef, undef, undef, undef, undef], defers := [] } : Act)) ∨ (fuel = 7 ∧ listed = #[true, true, true, true, false, false, false, false, false, false, false] ∧ a = ({ tmps := #[g0, g1, .slice A2 l2.length c2, .pointer (some ⟨w.heap.size, 0, none⟩), .pointer (some ⟨w.heap.size + 1, 0, none⟩), .pointer (some ⟨w.heap.size + 1 + 1, 0, none⟩), .int .i64 0, .bool false, .pointer (some ⟨w.heap.size + 1 + 1 + 1, 0, none⟩), .pointer (some ⟨w.heap.size + 1 + 1 + 1 + 1, 0, none⟩), .int .i64 x.1, .func (.func 28) #[] #[.pointer (some ⟨w.heap.size + 1 + 1, 0, none⟩)], g0, g1, .slice A2 l2.length c2, g2, .int .i64 x.1, .int .i64 0, .bool true, .bool true, undef, undef, undef, undef, undef, undef, undef, undef, undef, undef, undef, undef], defers := [] } : Act)) ∨ (fuel = 7 ∧ listed = #[true, true, true, false, true, false, false, false, false, false, false] ∧ a = ({ tmps := #[g0, g1, .slice A2 l2.length c2, .pointer (some ⟨w.heap.size, 0, none⟩), .pointer (some ⟨w.heap.size + 1, 0, none⟩), .pointer (some ⟨w.heap.size + 1 + 1, 0, none⟩), .int .i64 0, .bool false, .pointer (some ⟨w.heap.size + 1 + 1 + 1, 0, none⟩), .pointer (some ⟨w.heap.size + 1 + 1 + 1 + 1, 0, none⟩), .int .i64 x.1, .func (.func 28) #[] #[.pointer (some ⟨w.heap.size + 1 + 1, 0, none⟩)], g0, g1, .slice A2 l2.length c2, g2, .int .i64 x.1, .int .i64 0, .bool true, .bool true, undef, undef, undef, undef, undef, undef, undef, undef, undef, undef, undef, undef], defers := [] } : Act)) ∨ (fuel = 7 ∧ listed = #[true, true, true, false, false, false, true, false, false, false, false] ∧ a = ({ tmps := #[g0, g1, .slice A2 l2.length c2, .pointer (some ⟨w.heap.size, 0, none⟩), .pointer (some ⟨w.heap.size + 1, 0, none⟩), .pointer (some ⟨w.heap.size + 1 + 1, 0, none⟩), .int .i64 0, .bool false, .pointer (some ⟨w.heap.size + 1 + 1 + 1, 0, none⟩), .pointer (some ⟨w.heap.size + 1 + 1 + 1 + 1, 0, none⟩), .int .i64 x.1, .func (.func 28) #[] #[.pointer (some ⟨w.heap.size + 1 + 1, 0, none⟩)], g0, g1, .slice A2 l2.length c2, g2, .int .i64 x.1, .int .i64 0, .bool true, .bool true, undef, undef, undef, undef, undef, undef, undef, undef, undef, undef, undef, undef], defers := [] } : Act)) ∨ (fuel = 7 ∧ listed = #[true, true, true, false, false, false, false, true, false, false, false] ∧ a = ({ tmps := #[g0, g1, .slice A2 l2.length c2, .pointer (some ⟨w.heap.size, 0, none⟩), .pointer (some ⟨w.heap.size + 1, 0, none⟩), .pointer (some ⟨w.heap.size + 1 + 1, 0, none⟩), .int .i64 0, .bool false, .pointer (some ⟨w.heap.size + 1 + 1 + 1, 0, none⟩), .pointer (some ⟨w.heap.size + 1 + 1 + 1 + 1, 0, none⟩), .int .i64 x.1, .func (.func 28) #[] #[.pointer (some ⟨w.heap.size + 1 + 1, 0, none⟩)], g0, g1, .slice A2 l2.length c2, g2, .int .i64 x.1, .int .i64 0, .bool true, .bool true, undef, undef, undef, undef, undef, undef, undef, undef, undef, undef, undef, undef], defers := [] } : Act)) ∨ (fuel = 6 ∧ listed = #[true, true, true, true, true, false, false, false, false, false, false] ∧ a = ({ tmps := #[g0, g1, .slice A2 l2.length c2, .pointer (some ⟨w.heap.size, 0, none⟩), .pointer (some ⟨w.heap.size + 1, 0, none⟩), .pointer (some ⟨w.heap.size + 1 + 1, 0, none⟩), .int .i64 0, .bool false, .pointer (some ⟨w.heap.size + 1 + 1 + 1, 0, none⟩), .pointer (some ⟨w.heap.size + 1 + 1 + 1 + 1, 0, none⟩), .int .i64 x.1, .func (.func 28) #[] #[.pointer (some ⟨w.heap.size + 1 + 1, 0, none⟩)], g0, g1, .slice A2 l2.length c2, g2, .int .i64 x.1, .int .i64 0, .bool true, .bool true, undef, undef, undef, undef, undef, undef, undef, undef, undef, undef, undef, undef], defers := [] } : Act)) ∨ (fuel = 6 ∧ listed = #[true, true, true, true, false, false, true, false, false, false, false] ∧ a = ({ tmps := #[g0, g1, .slice A2 l2.length c2, .pointer (some ⟨w.heap.size, 0, none⟩), .pointer (some ⟨w.heap.size + 1, 0, none⟩), .pointer (some ⟨w.heap.size + 1 + 1, 0, none⟩), .int .i64 0, .bool false, .pointer (some ⟨w.heap.size + 1 + 1 + 1, 0, none⟩), .pointer (some ⟨w.heap.size + 1 + 1 + 1 + 1, 0, none⟩), .int .i64 x.1, .func (.func 28) #[] #[.pointer (some ⟨w.heap.size + 1 + 1, 0, none⟩)], g0, g1, .slice A2 l2.length c2, g2, .int .i64 x.1, .int .i64 0, .bool true, .bool true, undef, undef, undef, undef, undef, undef, undef, undef, undef, undef, undef, undef], defers := [] } : Act)) ∨ (fuel = 6 ∧ listed = #[true, true, true, true, false, false, false, true, false, false, false] ∧ a = ({ tmps := #[g0, g1, .slice A2 l2.length c2, .pointer (some ⟨w.heap.size, 0, none⟩), .pointer (some ⟨w.heap.size + 1, 0, none⟩), .pointer (some ⟨w.heap.size + 1 + 1, 0, none⟩), .int .i64 0, .bool false, .pointer (some ⟨w.heap.size + 1 + 1 + 1, 0, none⟩), .pointer (some ⟨w.heap.size + 1 + 1 + 1 + 1, 0, none⟩), .int .i64 x.1, .func (.func 28) #[] #[.pointer (some ⟨w.heap.size + 1 + 1, 0, none⟩)], g0, g1, .slice A2 l2.length c2, g2, .int .i64 x.1, .int .i64 0, .bool true, .bool true, undef, undef, undef, undef, undef, undef, undef, undef, undef, undef, undef, undef], defers := [] } : Act)) ∨ (fuel = 6 ∧ listed = #[true, true, true, false, true, false, true, false, false, false, false] ∧ a = ({ tmps := #[g0, g1, .slice A2 l2.length c2, .pointer (some ⟨w.heap.size, 0, none⟩), .pointer (some ⟨w.heap.size + 1, 0, none⟩), .pointer (some ⟨w.heap.size + 1 + 1, 0, none⟩), .int .i64 0, .bool false, .pointer (some ⟨w.heap.size + 1 + 1 + 1, 0, none⟩), .pointer (some ⟨w.heap.size + 1 + 1 + 1 + 1, 0, none⟩), .int .i64 x.1, .func (.func 28) #[] #[.pointer (some ⟨w.heap.size + 1 + 1, 0, none⟩)], g0, g1, .slice A2 l2.length c2, g2, .int .i64 x.1, .int .i64 0, .bool true, .bool true, undef, undef, undef, undef, undef, undef, undef, undef, undef, undef, undef, undef], defers := [] } : Act)) ∨ (fuel = 6 ∧ listed = #[true, true, true, false, true, false, false, true, false, false, false] ∧ a = ({ tmps := #[g0, g1, .slice A2 l2.length c2, .pointer (some ⟨w.heap.size, 0, none⟩), .pointer (some ⟨w.heap.size + 1, 0, none⟩), .pointer (some ⟨w.heap.size + 1 + 1, 0, none⟩), .int .i64 0, .bool false, .pointer (some ⟨w.heap.size + 1 + 1 + 1, 0, none⟩), .pointer (some ⟨w.heap.size + 1 + 1 + 1 + 1, 0, none⟩), .int .i64 x.1, .func (.func 28) #[] #[.pointer (some ⟨w.heap.size + 1 + 1, 0, none⟩)], g0, g1, .slice A2 l2.length c2, g2, .int .i64 x.1, .int .i64 0, .bool true, .bool true, undef, undef, undef, undef, undef, undef, undef, undef, undef, undef, undef, undef], defers := [] } : Act)) ∨ (fuel = 6 ∧ listed = #[true, true, true, false, false, false, true, true, false, false, false] ∧ a = ({ tmps := #[g0, g1, .slice A2 l2.length c2, .pointer (some ⟨w.heap.size, 0, none⟩), .pointer (some ⟨w.heap.size + 1, 0, none⟩), .pointer (some ⟨w.heap.size + 1 + 1, 0, none⟩), .int .i64 0, .bool false, .pointer (some ⟨w.heap.size + 1 + 1 + 1, 0, none⟩), .pointer (some ⟨w.heap.size + 1 + 1 + 1 + 1, 0, none⟩), .int .i64 x.1, .func (.func 28) #[] #[.pointer (some ⟨w.heap.size + 1 + 1, 0, none⟩)], g0, g1, .slice A2 l2.length c2, g2, .int .i64 x.1, .int .i64 0, .bool true, .bool true, undef, undef, undef, undef, undef, undef, undef, undef, undef, undef, undef, undef], defers := [] } : Act)) ∨ (fuel = 5 ∧ listed = #[true, true, true, true, true, true, false, false, false, false, false] ∧ a = ({ tmps := #[g0, g1, .slice A2 l2.length c2, .pointer (some ⟨w.heap.size, 0, none⟩), .pointer (some ⟨w.heap.size + 1, 0, none⟩), .pointer (some ⟨w.heap.size + 1 + 1, 0, none⟩), .int .i64 0, .bool false, .pointer (some ⟨w.heap.size + 1 + 1 + 1, 0, none⟩), .pointer (some ⟨w.heap.size + 1 + 1 + 1 + 1, 0, none⟩), .int .i64 x.1, .func (.func 28) #[] #[.pointer (some ⟨w.heap.size + 1 + 1, 0, none⟩)], g0, g1, .slice A2 l2.length c2, g2, .int .i64 x.1, .int .i64 0, .bool true, .bool true, undef, undef, undef, undef, undef, undef, undef, undef, undef, undef, undef, undef], defers := [] } : Act)) ∨ (fuel = 5 ∧ listed = #[true, true, true, true, true, false, true, false, false, false, false] ∧ a = ({ tmps := #[g0, g1, .slice A2 l2.length c2, .pointer (some ⟨w.heap.size, 0, none⟩), .pointer (some ⟨w.heap.size + 1, 0, none⟩), .pointer (some ⟨w.heap.size + 1 + 1, 0, none⟩), .int .i64 0, .bool false, .pointer (some ⟨w.heap.size + 1 + 1 + 1, 0, none⟩), .pointer (some ⟨w.heap.size + 1 + 1 + 1 + 1, 0, none⟩), .int .i64 x.1, .func (.func 28) #[] #[.pointer (some ⟨w.heap.size + 1 + 1, 0, none⟩)], g0, g1, .slice A2 l2.length c2, g2, .int .i64 x.1, .int .i64 0, .bool true, .bool true, undef, undef, undef, undef, undef, undef, undef, undef, undef, undef, undef, undef], defers := [] } : Act)) ∨ (fuel = 5 ∧ listed = #[true, true, true, true, true, false, false, true, false, false, false] ∧ a = ({ tmps := #[g0, g1, .slice A2 l2.length c2, .pointer (some ⟨w.heap.size, 0, none⟩), .pointer (some ⟨w.heap.size + 1, 0, none⟩), .pointer (some ⟨w.heap.size + 1 + 1, 0, none⟩), .int .i64 0, .bool false, .pointer (some ⟨w.heap.size + 1 + 1 + 1, 0, none⟩), .pointer (some ⟨w.heap.size + 1 + 1 + 1 + 1, 0, none⟩), .int .i64 x.1, .func (.func 28) #[] #[.pointer (some ⟨w.heap.size + 1 + 1, 0, none⟩)], g0, g1, .slice A2 l2.length c2, g2, .int .i64 x.1, .int .i64 0, .bool true, .bool true, undef, undef, undef, undef, undef, undef, undef, undef, undef, undef, undef, undef], defers := [] } : Act)) ∨ (fuel = 5 ∧ listed = #[true, true, true, true, false, false, true, true, false, false, false] ∧ a = ({ tmps := #[g0, g1, .slice A2 l2.length c2, .pointer (some ⟨w.heap.size, 0, none⟩), .pointer (some ⟨w.heap.size + 1, 0, none⟩), .pointer (some ⟨w.heap.size + 1 + 1, 0, none⟩), .int .i64 0, .bool false, .pointer (some ⟨w.heap.size + 1 + 1 + 1, 0, none⟩), .pointer (some ⟨w.heap.size + 1 + 1 + 1 + 1, 0, none⟩), .int .i64 x.1, .func (.func 28) #[] #[.pointer (some ⟨w.heap.size + 1 + 1, 0, none⟩)], g0, g1, .slice A2 l2.length c2, g2, .int .i64 x.1, .int .i64 0, .bool true, .bool true, undef, undef, undef, undef, undef, undef, undef, undef, undef, undef, undef, undef], defers := [] } : Act)) ∨ (fuel = 5 ∧ listed = #[true, true, true, false, true, false, true, true, false, false, false] ∧ a = ({ tmps := #[g0, g1, .slice A2 l2.length c2, .pointer (some ⟨w.heap.size, 0, none⟩), .pointer (some ⟨w.heap.size + 1, 0, none⟩), .pointer (some ⟨w.heap.size + 1 + 1, 0, none⟩), .int .i64 0, .bool false, .pointer (some ⟨w.heap.size + 1 + 1 + 1, 0, none⟩), .pointer (some ⟨w.heap.size + 1 + 1 + 1 + 1, 0, none⟩), .int .i64 x.1, .func (.func 28) #[] #[.pointer (some ⟨w.heap.size + 1 + 1, 0, none⟩)], g0, g1, .slice A2 l2.length c2, g2, .int .i64 x.1, .int .i64 0, .bool true, .bool true, undef, undef, undef, undef, undef, undef, undef, undef, undef, undef, undef, undef], defers := [] } : Act)) ∨ (fuel = 4 ∧ listed = #[true, true, true, true, true, true, true, false, false, false, false] ∧ a = ({ tmps := #[g0, g1, .slice A2 l2.length c2, .pointer (some ⟨w.heap.size, 0, none⟩), .pointer (some ⟨w.heap.size + 1, 0, none⟩), .pointer (some ⟨w.heap.size + 1 + 1, 0, none⟩), .int .i64 0, .bool false, .pointer (some ⟨w.heap.size + 1 + 1 + 1, 0, none⟩), .pointer (some ⟨w.heap.size + 1 + 1 + 1 + 1, 0, none⟩), .int .i64 x.1, .func (.func 28) #[] #[.pointer (some ⟨w.heap.size + 1 + 1, 0, none⟩)], g0, g1, .slice A2 l2.length c2, g2, .int .i64 x.1, .int .i64 0, .bool true, .bool true, undef, undef, undef, undef, undef, undef, undef, undef, undef, undef, undef, undef], defers := [] } : Act)) ∨ (fuel = 4 ∧ listed = #[true, true, true, true, true, true, false, true, false, false, false] ∧ a = ({ tmps := #[g0, g1, .slice A2 l2.length c2, .pointer (some ⟨w.heap.size, 0, none⟩), .pointer (some ⟨w.heap.size + 1, 0, none⟩), .pointer (some ⟨w.heap.size + 1 + 1, 0, none⟩), .int .i64 0, .bool false, .pointer (some ⟨w.heap.size + 1 + 1 + 1, 0, none⟩), .pointer (some ⟨w.heap.size + 1 + 1 + 1 + 1, 0, none⟩), .int .i64 x.1, .func (.func 28) #[] #[.pointer (some ⟨w.heap.size + 1 + 1, 0, none⟩)], g0, g1, .slice A2 l2.length c2, g2, .int .i64 x.1, .int .i64 0, .bool true, .bool true, undef, undef, undef, undef, undef, undef, undef, undef, undef, undef, undef, undef], defers := [] } : Act)) ∨ (fuel = 4 ∧ listed = #[true, true, true, true, true, false, true, true, false, false, false] ∧ a = ({ tmps := #[g0, g1, .slice A2 l2.length c2, .pointer (some ⟨w.heap.size, 0, none⟩), .pointer (some ⟨w.heap.size + 1, 0, none⟩), .pointer (some ⟨w.heap.size + 1 + 1, 0, none⟩), .int .i64 0, .bool false, .pointer (some ⟨w.heap.size + 1 + 1 + 1, 0, none⟩), .pointer (some ⟨w.heap.size + 1 + 1 + 1 + 1, 0, none⟩), .int .i64 x.1, .func (.func 28) #[] #[.pointer (some ⟨w.heap.size + 1 + 1, 0, none⟩)], g0, g1, .slice A2 l2.length c2, g2, .int .i64 x.1, .int .i64 0, .bool true, .bool true, undef, undef, undef, undef, undef, undef, undef, undef, undef, undef, undef, undef], defers := [] } : Act)) ∨ (fuel = 3 ∧ listed = #[true, true, true, true, true, true, true, true, false, false, false] ∧ a = ({ tmps := #[g0, g1, .slice A2 l2.length c2, .pointer (some ⟨w.heap.size, 0, none⟩), .pointer (some ⟨w.heap.size + 1, 0, none⟩), .pointer (some ⟨w.heap.size + 1 + 1, 0, none⟩), .int .i64 0, .bool false, .pointer (some ⟨w.heap.size + 1 + 1 + 1, 0, none⟩), .pointer (some ⟨w.heap.size + 1 + 1 + 1 + 1, 0, none⟩), .int .i64 x.1, .func (.func 28) #[] #[.pointer (some ⟨w.heap.size + 1 + 1, 0, none⟩)], g0, g1, .slice A2 l2.length c2, g2, .int .i64 x.1, .int .i64 0, .bool true, .bool true, undef, undef, undef, undef, undef, undef, undef, undef, undef, undef, undef, undef], defers := [] } : Act)) ∨ (fuel = 2 ∧ listed = #[true, true, true, true, true, true, true, true, true, false, false] ∧ a = ({ tmps := #[g0, g1, .slice A2 l2.length c2, .pointer (some ⟨w.heap.size, 0, none⟩), .pointer (some ⟨w.heap.size + 1, 0, none⟩), .pointer (some ⟨w.heap.size + 1 + 1, 0, none⟩), .int .i64 0, .bool false, .pointer (some ⟨w.heap.size + 1 + 1 + 1, 0, none⟩), .pointer (some ⟨w.heap.size + 1 + 1 + 1 + 1, 0, none⟩), .int .i64 x.1, .func (.func 28) #[] #[.pointer (some ⟨w.heap.size + 1 + 1, 0, none⟩)], g0, g1, .slice A2 l2.length c2, g2, .int .i64 x.1, .int .i64 0, .bool true, .bool true, undef, undef, undef, undef, undef, undef, undef, undef, undef, undef, undef, undef], defers := [] } : Act)) ∨ (fuel = 1 ∧ listed = #[true, true, true, true, true, true, true, true, true, true, false] ∧ a = ({ tmps := #[g0, g1, .slice A2 l2.length c2, .pointer (some ⟨w.heap.size, 0, none⟩), .pointer (some ⟨w.heap.size + 1, 0, none⟩), .pointer (some ⟨w.heap.size + 1 + 1, 0, none⟩), .int .i64 0, .bool false, .pointer (some ⟨w.heap.size + 1 + 1 + 1, 0, none⟩), .pointer (some ⟨w.heap.size + 1 + 1 + 1 + 1, 0, none⟩), .int .i64 x.1, .func (.func 28) #[] #[.pointer (some ⟨w.heap.size + 1 + 1, 0, none⟩)], g0, g1, .slice A2 l2.length c2, g2, .int .i64 x.1, .int .i64 0, .bool true, .bool true, undef, undef, undef, undef, undef, undef, undef, undef, undef, undef, undef, undef], defers := [] } : Act)) ∨ (fuel = 0 ∧ listed = #[true, true, true, true, true, true, true, true, true, true, true] ∧ a = ({ tmps := #[g0, g1, .slice A2 l2.length c2, .pointer (some ⟨w.heap.size, 0, none⟩), .pointer (some ⟨w.heap.size + 1, 0, none⟩), .pointer (some ⟨w.heap.size + 1 + 1, 0, none⟩), .int .i64 0, .bool false, .pointer (some ⟨w.heap.size + 1 + 1 + 1, 0, none⟩), .pointer (some ⟨w.heap.size + 1 + 1 + 1 + 1, 0, none⟩), .int .i64 x.1, .func (.func 28) #[] #[.pointer (some ⟨w.heap.size + 1 + 1, 0, none⟩)], g0, g1, .slice A2 l2.length c2, g2, .int .i64 x.1, .int .i64 0, .bool true, .bool true, undef, undef, undef, undef, undef, undef, undef, .bool true, undef, undef, undef, undef], defers := [] } : Act))))) ?_ _ _ _ _ ⟨(Below.refl _ W).drew, Or.inl ⟨rfl, rfl, rfl⟩⟩
      rintro fuel listed a w' ⟨hC, ⟨rfl, rfl, rfl⟩ | ⟨rfl, rfl, rfl⟩ | ⟨rfl, rfl, rfl⟩ | ⟨rfl, rfl, rfl⟩ | ⟨rfl, rfl, rfl⟩ | ⟨rfl, rfl, rfl⟩ | ⟨rfl, rfl, rfl⟩ | ⟨rfl, rfl, rfl⟩ | ⟨rfl, rfl, rfl⟩ | ⟨rfl, rfl, rfl⟩ | ⟨rfl, rfl, rfl⟩ | ⟨rfl, rfl, rfl⟩ | ⟨rfl, rfl, rfl⟩ | ⟨rfl, rfl, rfl⟩ | ⟨rfl, rfl, rfl⟩ | ⟨rfl, rfl, rfl⟩ | ⟨rfl, rfl, rfl⟩ | ⟨rfl, rfl, rfl⟩ | ⟨rfl, rfl, rfl⟩ | ⟨rfl, rfl, rfl⟩ | ⟨rfl, rfl, rfl⟩ | ⟨rfl, rfl, rfl⟩ | ⟨rfl, rfl, rfl⟩ | ⟨rfl, rfl, rfl⟩ | ⟨rfl, rfl, rfl⟩ | ⟨rfl, rfl, rfl⟩⟩
      · refine Or.inr ⟨_, [0], rfl, by kernel_rfl, by simp, ?_, trivial⟩
        all_goals (have hcn := pick_keep hC hc; have hfvn := pick_keep hC hfv; have hsln := pick_keep hC hsl)
        · refine wpOpIn_step rfl (fun K hK => ?_)
          go_simp
          first | refine hK _ _ ?_ | refine ⟨fun _ h => (by cases h), hK _ _ ?_⟩
          exact ⟨hC, Or.inr (Or.inl ⟨rfl, rfl, rfl⟩)⟩
      · refine Or.inr ⟨_, [1], rfl, by kernel_rfl, by simp, ?_, trivial⟩
        all_goals (have hcn := pick_keep hC hc; have hfvn := pick_keep hC hfv; have hsln := pick_keep hC hsl)
        · refine wpOpIn_step rfl (fun K hK => ?_)
          go_simp
          first | refine hK _ _ ?_ | refine ⟨fun _ h => (by cases h), hK _ _ ?_⟩
          exact ⟨hC, Or.inr (Or.inr (Or.inl ⟨rfl, rfl, rfl⟩))⟩
      · refine Or.inr ⟨_, [2], rfl, by kernel_rfl, by simp, ?_, trivial⟩
        all_goals (have hcn := pick_keep hC hc; have hfvn := pick_keep hC hfv; have hsln := pick_keep hC hsl)
        · refine wpOpIn_step rfl (fun K hK => ?_)
          go_simp
          first | refine hK _ _ ?_ | refine ⟨fun _ h => (by cases h), hK _ _ ?_⟩
          exact ⟨hC, Or.inr (Or.inr (Or.inr (Or.inl ⟨rfl, rfl, rfl⟩)))⟩
      · refine Or.inr ⟨_, [3, 4, 6, 7], rfl, by kernel_rfl, by simp, ?_, ?_, ?_, ?_, trivial⟩
        all_goals (have hcn := pick_keep hC hc; have hfvn := pick_keep hC hfv; have hsln := pick_keep hC hsl)
        · refine wpOpIn_step rfl (fun K hK => ?_)
          go_simp
          first | refine hK _ _ ?_ | refine ⟨fun _ h => (by cases h), hK _ _ ?_⟩
          exact ⟨hC, Or.inr (Or.inr (Or.inr (Or.inr (Or.inl ⟨rfl, rfl, rfl⟩))))⟩
        · refine wpOpIn_step rfl (fun K hK => ?_)
          go_simp
          first | refine hK _ _ ?_ | refine ⟨fun _ h => (by cases h), hK _ _ ?_⟩
          exact ⟨hC, Or.inr (Or.inr (Or.inr (Or.inr (Or.inr (Or.inl ⟨rfl, rfl, rfl⟩)))))⟩
        · refine wpOpIn_step rfl (fun K hK => ?_)
          go_simp
          first | refine hK _ _ ?_ | refine ⟨fun _ h => (by cases h), hK _ _ ?_⟩
          exact ⟨hC, Or.inr (Or.inr (Or.inr (Or.inr (Or.inr (Or.inr (Or.inl ⟨rfl, rfl, rfl⟩))))))⟩
        · refine wpOpIn_step rfl (fun K hK => ?_)
          go_simp
          first | refine hK _ _ ?_ | refine ⟨fun _ h => (by cases h), hK _ _ ?_⟩
          exact ⟨hC, Or.inr (Or.inr (Or.inr (Or.inr (Or.inr (Or.inr (Or.inr (Or.inl ⟨rfl, rfl, rfl⟩)))))))⟩
      · refine Or.inr ⟨_, [4, 6, 7], rfl, by kernel_rfl, by simp, ?_, ?_, ?_, trivial⟩
        all_goals (have hcn := pick_keep hC hc; have hfvn := pick_keep hC hfv; have hsln := pick_keep hC hsl)
        · refine wpOpIn_step rfl (fun K hK => ?_)
          go_simp
          first | refine hK _ _ ?_ | refine ⟨fun _ h => (by cases h), hK _ _ ?_⟩
          exact ⟨hC, Or.inr (Or.inr (Or.inr (Or.inr (Or.inr (Or.inr (Or.inr (Or.inr (Or.inl ⟨rfl, rfl, rfl⟩))))))))⟩
        · refine wpOpIn_step rfl (fun K hK => ?_)
          go_simp
          first | refine hK _ _ ?_ | refine ⟨fun _ h => (by cases h), hK _ _ ?_⟩
          exact ⟨hC, Or.inr (Or.inr (Or.inr (Or.inr (Or.inr (Or.inr (Or.inr (Or.inr (Or.inr (Or.inl ⟨rfl, rfl, rfl⟩)))))))))⟩
        · refine wpOpIn_step rfl (fun K hK => ?_)
          go_simp
          first | refine hK _ _ ?_ | refine ⟨fun _ h => (by cases h), hK _ _ ?_⟩
          exact ⟨hC, Or.inr (Or.inr (Or.inr (Or.inr (Or.inr (Or.inr (Or.inr (Or.inr (Or.inr (Or.inr (Or.inl ⟨rfl, rfl, rfl⟩))))))))))⟩
      · refine Or.inr ⟨_, [3, 6, 7], rfl, by kernel_rfl, by simp, ?_, ?_, ?_, trivial⟩
        all_goals (have hcn := pick_keep hC hc; have hfvn := pick_keep hC hfv; have hsln := pick_keep hC hsl)
        · refine wpOpIn_step rfl (fun K hK => ?_)
          go_simp
          first | refine hK _ _ ?_ | refine ⟨fun _ h => (by cases h), hK _ _ ?_⟩
          exact ⟨hC, Or.inr (Or.inr (Or.inr (Or.inr (Or.inr (Or.inr (Or.inr (Or.inr (Or.inl ⟨rfl, rfl, rfl⟩))))))))⟩
        · refine wpOpIn_step rfl (fun K hK => ?_)
          go_simp
          first | refine hK _ _ ?_ | refine ⟨fun _ h => (by cases h), hK _ _ ?_⟩
          exact ⟨hC, Or.inr (Or.inr (Or.inr (Or.inr (Or.inr (Or.inr (Or.inr (Or.inr (Or.inr (Or.inr (Or.inr (Or.inl ⟨rfl, rfl, rfl⟩)))))))))))⟩
        · refine wpOpIn_step rfl (fun K hK => ?_)
          go_simp
          first | refine hK _ _ ?_ | refine ⟨fun _ h => (by cases h), hK _ _ ?_⟩
          exact ⟨hC, Or.inr (Or.inr (Or.inr (Or.inr (Or.inr (Or.inr (Or.inr (Or.inr (Or.inr (Or.inr (Or.inr (Or.inr (Or.inl ⟨rfl, rfl, rfl⟩))))))))))))⟩
      · refine Or.inr ⟨_, [3, 4, 7], rfl, by kernel_rfl, by simp, ?_, ?_, ?_, trivial⟩
        all_goals (have hcn := pick_keep hC hc; have hfvn := pick_keep hC hfv; have hsln := pick_keep hC hsl)
        · refine wpOpIn_step rfl (fun K hK => ?_)
          go_simp
          first | refine hK _ _ ?_ | refine ⟨fun _ h => (by cases h), hK _ _ ?_⟩
          exact ⟨hC, Or.inr (Or.inr (Or.inr (Or.inr (Or.inr (Or.inr (Or.inr (Or.inr (Or.inr (Or.inl ⟨rfl, rfl, rfl⟩)))))))))⟩
        · refine wpOpIn_step rfl (fun K hK => ?_)
          go_simp
          first | refine hK _ _ ?_ | refine ⟨fun _ h => (by cases h), hK _ _ ?_⟩
          exact ⟨hC, Or.inr (Or.inr (Or.inr (Or.inr (Or.inr (Or.inr (Or.inr (Or.inr (Or.inr (Or.inr (Or.inr (Or.inl ⟨rfl, rfl, rfl⟩)))))))))))⟩
        · refine wpOpIn_step rfl (fun K hK => ?_)
          go_simp
          first | refine hK _ _ ?_ | refine ⟨fun _ h => (by cases h), hK _ _ ?_⟩
          exact ⟨hC, Or.inr (Or.inr (Or.inr (Or.inr (Or.inr (Or.inr (Or.inr (Or.inr (Or.inr (Or.inr (Or.inr (Or.inr (Or.inr (Or.inl ⟨rfl, rfl, rfl⟩)))))))))))))⟩
      · refine Or.inr ⟨_, [3, 4, 6], rfl, by kernel_rfl, by simp, ?_, ?_, ?_, trivial⟩
        all_goals (have hcn := pick_keep hC hc; have hfvn := pick_keep hC hfv; have hsln := pick_keep hC hsl)
        · refine wpOpIn_step rfl (fun K hK => ?_)
          go_simp
          first | refine hK _ _ ?_ | refine ⟨fun _ h => (by cases h), hK _ _ ?_⟩
          exact ⟨hC, Or.inr (Or.inr (Or.inr (Or.inr (Or.inr (Or.inr (Or.inr (Or.inr (Or.inr (Or.inr (Or.inl ⟨rfl, rfl, rfl⟩))))))))))⟩
        · refine wpOpIn_step rfl (fun K hK => ?_)
          go_simp
          first | refine hK _ _ ?_ | refine ⟨fun _ h => (by cases h), hK _ _ ?_⟩
          exact ⟨hC, Or.inr (Or.inr (Or.inr (Or.inr (Or.inr (Or.inr (Or.inr (Or.inr (Or.inr (Or.inr (Or.inr (Or.inr (Or.inl ⟨rfl, rfl, rfl⟩))))))))))))⟩
        · refine wpOpIn_step rfl (fun K hK => ?_)
          go_simp
          first | refine hK _ _ ?_ | refine ⟨fun _ h => (by cases h), hK _ _ ?_⟩
          exact ⟨hC, Or.inr (Or.inr (Or.inr (Or.inr (Or.inr (Or.inr (Or.inr (Or.inr (Or.inr (Or.inr (Or.inr (Or.inr (Or.inr (Or.inl ⟨rfl, rfl, rfl⟩)))))))))))))⟩
      · refine Or.inr ⟨_, [5, 6, 7], rfl, by kernel_rfl, by simp, ?_, ?_, ?_, trivial⟩
        all_goals (have hcn := pick_keep hC hc; have hfvn := pick_keep hC hfv; have hsln := pick_keep hC hsl)
        · refine wpOpIn_step rfl (fun K hK => ?_)
          go_simp
          first | refine hK _ _ ?_ | refine ⟨fun _ h => (by cases h), hK _ _ ?_⟩
          exact ⟨hC, Or.inr (Or.inr (Or.inr (Or.inr (Or.inr (Or.inr (Or.inr (Or.inr (Or.inr (Or.inr (Or.inr (Or.inr (Or.inr (Or.inr (Or.inl ⟨rfl, rfl, rfl⟩))))))))))))))⟩
        · refine wpOpIn_step rfl (fun K hK => ?_)
          go_simp
          first | refine hK _ _ ?_ | refine ⟨fun _ h => (by cases h), hK _ _ ?_⟩
          exact ⟨hC, Or.inr (Or.inr (Or.inr (Or.inr (Or.inr (Or.inr (Or.inr (Or.inr (Or.inr (Or.inr (Or.inr (Or.inr (Or.inr (Or.inr (Or.inr (Or.inl ⟨rfl, rfl, rfl⟩)))))))))))))))⟩
        · refine wpOpIn_step rfl (fun K hK => ?_)
          go_simp
          first | refine hK _ _ ?_ | refine ⟨fun _ h => (by cases h), hK _ _ ?_⟩
          exact ⟨hC, Or.inr (Or.inr (Or.inr (Or.inr (Or.inr (Or.inr (Or.inr (Or.inr (Or.inr (Or.inr (Or.inr (Or.inr (Or.inr (Or.inr (Or.inr (Or.inr (Or.inl ⟨rfl, rfl, rfl⟩))))))))))))))))⟩
      · refine Or.inr ⟨_, [4, 7], rfl, by kernel_rfl, by simp, ?_, ?_, trivial⟩
        all_goals (have hcn := pick_keep hC hc; have hfvn := pick_keep hC hfv; have hsln := pick_keep hC hsl)
        · refine wpOpIn_step rfl (fun K hK => ?_)
          go_simp
          first | refine hK _ _ ?_ | refine ⟨fun _ h => (by cases h), hK _ _ ?_⟩
          exact ⟨hC, Or.inr (Or.inr (Or.inr (Or.inr (Or.inr (Or.inr (Or.inr (Or.inr (Or.inr (Or.inr (Or.inr (Or.inr (Or.inr (Or.inr (Or.inr (Or.inl ⟨rfl, rfl, rfl⟩)))))))))))))))⟩
        · refine wpOpIn_step rfl (fun K hK => ?_)
          go_simp
          first | refine hK _ _ ?_ | refine ⟨fun _ h => (by cases h), hK _ _ ?_⟩
          exact ⟨hC, Or.inr (Or.inr (Or.inr (Or.inr (Or.inr (Or.inr (Or.inr (Or.inr (Or.inr (Or.inr (Or.inr (Or.inr (Or.inr (Or.inr (Or.inr (Or.inr (Or.inr (Or.inl ⟨rfl, rfl, rfl⟩)))))))))))))))))⟩
      · refine Or.inr ⟨_, [4, 6], rfl, by kernel_rfl, by simp, ?_, ?_, trivial⟩
        all_goals (have hcn := pick_keep hC hc; have hfvn := pick_keep hC hfv; have hsln := pick_keep hC hsl)
        · refine wpOpIn_step rfl (fun K hK => ?_)
          go_simp
          first | refine hK _ _ ?_ | refine ⟨fun _ h => (by cases h), hK _ _ ?_⟩
          exact ⟨hC, Or.inr (Or.inr (Or.inr (Or.inr (Or.inr (Or.inr (Or.inr (Or.inr (Or.inr (Or.inr (Or.inr (Or.inr (Or.inr (Or.inr (Or.inr (Or.inr (Or.inl ⟨rfl, rfl, rfl⟩))))))))))))))))⟩
        · refine wpOpIn_step rfl (fun K hK => ?_)
          go_simp
          first | refine hK _ _ ?_ | refine ⟨fun _ h => (by cases h), hK _ _ ?_⟩
          exact ⟨hC, Or.inr (Or.inr (Or.inr (Or.inr (Or.inr (Or.inr (Or.inr (Or.inr (Or.inr (Or.inr (Or.inr (Or.inr (Or.inr (Or.inr (Or.inr (Or.inr (Or.inr (Or.inl ⟨rfl, rfl, rfl⟩)))))))))))))))))⟩
      · refine Or.inr ⟨_, [3, 7], rfl, by kernel_rfl, by simp, ?_, ?_, trivial⟩
        all_goals (have hcn := pick_keep hC hc; have hfvn := pick_keep hC hfv; have hsln := pick_keep hC hsl)
        · refine wpOpIn_step rfl (fun K hK => ?_)
          go_simp
          first | refine hK _ _ ?_ | refine ⟨fun _ h => (by cases h), hK _ _ ?_⟩
          exact ⟨hC, Or.inr (Or.inr (Or.inr (Or.inr (Or.inr (Or.inr (Or.inr (Or.inr (Or.inr (Or.inr (Or.inr (Or.inr (Or.inr (Or.inr (Or.inr (Or.inl ⟨rfl, rfl, rfl⟩)))))))))))))))⟩
        · refine wpOpIn_step rfl (fun K hK => ?_)
          go_simp
          first | refine hK _ _ ?_ | refine ⟨fun _ h => (by cases h), hK _ _ ?_⟩
          exact ⟨hC, Or.inr (Or.inr (Or.inr (Or.inr (Or.inr (Or.inr (Or.inr (Or.inr (Or.inr (Or.inr (Or.inr (Or.inr (Or.inr (Or.inr (Or.inr (Or.inr (Or.inr (Or.inr (Or.inl ⟨rfl, rfl, rfl⟩))))))))))))))))))⟩
      · refine Or.inr ⟨_, [3, 6], rfl, by kernel_rfl, by simp, ?_, ?_, trivial⟩
        all_goals (have hcn := pick_keep hC hc; have hfvn := pick_keep hC hfv; have hsln := pick_keep hC hsl)
        · refine wpOpIn_step rfl (fun K hK => ?_)
          go_simp
          first | refine hK _ _ ?_ | refine ⟨fun _ h => (by cases h), hK _ _ ?_⟩
          exact ⟨hC, Or.inr (Or.inr (Or.inr (Or.inr (Or.inr (Or.inr (Or.inr (Or.inr (Or.inr (Or.inr (Or.inr (Or.inr (Or.inr (Or.inr (Or.inr (Or.inr (Or.inl ⟨rfl, rfl, rfl⟩))))))))))))))))⟩
        · refine wpOpIn_step rfl (fun K hK => ?_)
          go_simp
          first | refine hK _ _ ?_ | refine ⟨fun _ h => (by cases h), hK _ _ ?_⟩
          exact ⟨hC, Or.inr (Or.inr (Or.inr (Or.inr (Or.inr (Or.inr (Or.inr (Or.inr (Or.inr (Or.inr (Or.inr (Or.inr (Or.inr (Or.inr (Or.inr (Or.inr (Or.inr (Or.inr (Or.inl ⟨rfl, rfl, rfl⟩))))))))))))))))))⟩
      · refine Or.inr ⟨_, [3, 4], rfl, by kernel_rfl, by simp, ?_, ?_, trivial⟩
        all_goals (have hcn := pick_keep hC hc; have hfvn := pick_keep hC hfv; have hsln := pick_keep hC hsl)
        · refine wpOpIn_step rfl (fun K hK => ?_)
          go_simp
          first | refine hK _ _ ?_ | refine ⟨fun _ h => (by cases h), hK _ _ ?_⟩
          exact ⟨hC, Or.inr (Or.inr (Or.inr (Or.inr (Or.inr (Or.inr (Or.inr (Or.inr (Or.inr (Or.inr (Or.inr (Or.inr (Or.inr (Or.inr (Or.inr (Or.inr (Or.inr (Or.inl ⟨rfl, rfl, rfl⟩)))))))))))))))))⟩
        · refine wpOpIn_step rfl (fun K hK => ?_)
          go_simp
          first | refine hK _ _ ?_ | refine ⟨fun _ h => (by cases h), hK _ _ ?_⟩
          exact ⟨hC, Or.inr (Or.inr (Or.inr (Or.inr (Or.inr (Or.inr (Or.inr (Or.inr (Or.inr (Or.inr (Or.inr (Or.inr (Or.inr (Or.inr (Or.inr (Or.inr (Or.inr (Or.inr (Or.inl ⟨rfl, rfl, rfl⟩))))))))))))))))))⟩
      · refine Or.inr ⟨_, [6, 7], rfl, by kernel_rfl, by simp, ?_, ?_, trivial⟩
        all_goals (have hcn := pick_keep hC hc; have hfvn := pick_keep hC hfv; have hsln := pick_keep hC hsl)
        · refine wpOpIn_step rfl (fun K hK => ?_)
          go_simp
          first | refine hK _ _ ?_ | refine ⟨fun _ h => (by cases h), hK _ _ ?_⟩
          exact ⟨hC, Or.inr (Or.inr (Or.inr (Or.inr (Or.inr (Or.inr (Or.inr (Or.inr (Or.inr (Or.inr (Or.inr (Or.inr (Or.inr (Or.inr (Or.inr (Or.inr (Or.inr (Or.inr (Or.inr (Or.inl ⟨rfl, rfl, rfl⟩)))))))))))))))))))⟩
        · refine wpOpIn_step rfl (fun K hK => ?_)
          go_simp
          first | refine hK _ _ ?_ | refine ⟨fun _ h => (by cases h), hK _ _ ?_⟩
          exact ⟨hC, Or.inr (Or.inr (Or.inr (Or.inr (Or.inr (Or.inr (Or.inr (Or.inr (Or.inr (Or.inr (Or.inr (Or.inr (Or.inr (Or.inr (Or.inr (Or.inr (Or.inr (Or.inr (Or.inr (Or.inr (Or.inl ⟨rfl, rfl, rfl⟩))))))))))))))))))))⟩
      · refine Or.inr ⟨_, [5, 7], rfl, by kernel_rfl, by simp, ?_, ?_, trivial⟩
        all_goals (have hcn := pick_keep hC hc; have hfvn := pick_keep hC hfv; have hsln := pick_keep hC hsl)
        · refine wpOpIn_step rfl (fun K hK => ?_)
          go_simp
          first | refine hK _ _ ?_ | refine ⟨fun _ h => (by cases h), hK _ _ ?_⟩
          exact ⟨hC, Or.inr (Or.inr (Or.inr (Or.inr (Or.inr (Or.inr (Or.inr (Or.inr (Or.inr (Or.inr (Or.inr (Or.inr (Or.inr (Or.inr (Or.inr (Or.inr (Or.inr (Or.inr (Or.inr (Or.inl ⟨rfl, rfl, rfl⟩)))))))))))))))))))⟩
        · refine wpOpIn_step rfl (fun K hK => ?_)
          go_simp
          first | refine hK _ _ ?_ | refine ⟨fun _ h => (by cases h), hK _ _ ?_⟩
          exact ⟨hC, Or.inr (Or.inr (Or.inr (Or.inr (Or.inr (Or.inr (Or.inr (Or.inr (Or.inr (Or.inr (Or.inr (Or.inr (Or.inr (Or.inr (Or.inr (Or.inr (Or.inr (Or.inr (Or.inr (Or.inr (Or.inr (Or.inl ⟨rfl, rfl, rfl⟩)))))))))))))))))))))⟩
      · refine Or.inr ⟨_, [5, 6], rfl, by kernel_rfl, by simp, ?_, ?_, trivial⟩
        all_goals (have hcn := pick_keep hC hc; have hfvn := pick_keep hC hfv; have hsln := pick_keep hC hsl)
        · refine wpOpIn_step rfl (fun K hK => ?_)
          go_simp
          first | refine hK _ _ ?_ | refine ⟨fun _ h => (by cases h), hK _ _ ?_⟩
          exact ⟨hC, Or.inr (Or.inr (Or.inr (Or.inr (Or.inr (Or.inr (Or.inr (Or.inr (Or.inr (Or.inr (Or.inr (Or.inr (Or.inr (Or.inr (Or.inr (Or.inr (Or.inr (Or.inr (Or.inr (Or.inr (Or.inl ⟨rfl, rfl, rfl⟩))))))))))))))))))))⟩
        · refine wpOpIn_step rfl (fun K hK => ?_)
          go_simp
          first | refine hK _ _ ?_ | refine ⟨fun _ h => (by cases h), hK _ _ ?_⟩
          exact ⟨hC, Or.inr (Or.inr (Or.inr (Or.inr (Or.inr (Or.inr (Or.inr (Or.inr (Or.inr (Or.inr (Or.inr (Or.inr (Or.inr (Or.inr (Or.inr (Or.inr (Or.inr (Or.inr (Or.inr (Or.inr (Or.inr (Or.inl ⟨rfl, rfl, rfl⟩)))))))))))))))))))))⟩
      · refine Or.inr ⟨_, [4], rfl, by kernel_rfl, by simp, ?_, trivial⟩
        all_goals (have hcn := pick_keep hC hc; have hfvn := pick_keep hC hfv; have hsln := pick_keep hC hsl)
        · refine wpOpIn_step rfl (fun K hK => ?_)
          go_simp
          first | refine hK _ _ ?_ | refine ⟨fun _ h => (by cases h), hK _ _ ?_⟩
          exact ⟨hC, Or.inr (Or.inr (Or.inr (Or.inr (Or.inr (Or.inr (Or.inr (Or.inr (Or.inr (Or.inr (Or.inr (Or.inr (Or.inr (Or.inr (Or.inr (Or.inr (Or.inr (Or.inr (Or.inr (Or.inr (Or.inr (Or.inl ⟨rfl, rfl, rfl⟩)))))))))))))))))))))⟩
      · refine Or.inr ⟨_, [3], rfl, by kernel_rfl, by simp, ?_, trivial⟩
        all_goals (have hcn := pick_keep hC hc; have hfvn := pick_keep hC hfv; have hsln := pick_keep hC hsl)
        · refine wpOpIn_step rfl (fun K hK => ?_)
          go_simp
          first | refine hK _ _ ?_ | refine ⟨fun _ h => (by cases h), hK _ _ ?_⟩
          exact ⟨hC, Or.inr (Or.inr (Or.inr (Or.inr (Or.inr (Or.inr (Or.inr (Or.inr (Or.inr (Or.inr (Or.inr (Or.inr (Or.inr (Or.inr (Or.inr (Or.inr (Or.inr (Or.inr (Or.inr (Or.inr (Or.inr (Or.inl ⟨rfl, rfl, rfl⟩)))))))))))))))))))))⟩
      · refine Or.inr ⟨_, [7], rfl, by kernel_rfl, by simp, ?_, trivial⟩
        all_goals (have hcn := pick_keep hC hc; have hfvn := pick_keep hC hfv; have hsln := pick_keep hC hsl)
        · refine wpOpIn_step rfl (fun K hK => ?_)
          go_simp
          first | refine hK _ _ ?_ | refine ⟨fun _ h => (by cases h), hK _ _ ?_⟩
          exact ⟨hC, Or.inr (Or.inr (Or.inr (Or.inr (Or.inr (Or.inr (Or.inr (Or.inr (Or.inr (Or.inr (Or.inr (Or.inr (Or.inr (Or.inr (Or.inr (Or.inr (Or.inr (Or.inr (Or.inr (Or.inr (Or.inr (Or.inr (Or.inl ⟨rfl, rfl, rfl⟩))))))))))))))))))))))⟩
      · refine Or.inr ⟨_, [6], rfl, by kernel_rfl, by simp, ?_, trivial⟩
        all_goals (have hcn := pick_keep hC hc; have hfvn := pick_keep hC hfv; have hsln := pick_keep hC hsl)
        · refine wpOpIn_step rfl (fun K hK => ?_)
          go_simp
          first | refine hK _ _ ?_ | refine ⟨fun _ h => (by cases h), hK _ _ ?_⟩
          exact ⟨hC, Or.inr (Or.inr (Or.inr (Or.inr (Or.inr (Or.inr (Or.inr (Or.inr (Or.inr (Or.inr (Or.inr (Or.inr (Or.inr (Or.inr (Or.inr (Or.inr (Or.inr (Or.inr (Or.inr (Or.inr (Or.inr (Or.inr (Or.inl ⟨rfl, rfl, rfl⟩))))))))))))))))))))))⟩
      · refine Or.inr ⟨_, [5], rfl, by kernel_rfl, by simp, ?_, trivial⟩
        all_goals (have hcn := pick_keep hC hc; have hfvn := pick_keep hC hfv; have hsln := pick_keep hC hsl)
        · refine wpOpIn_step rfl (fun K hK => ?_)
          go_simp
          first | refine hK _ _ ?_ | refine ⟨fun _ h => (by cases h), hK _ _ ?_⟩
          exact ⟨hC, Or.inr (Or.inr (Or.inr (Or.inr (Or.inr (Or.inr (Or.inr (Or.inr (Or.inr (Or.inr (Or.inr (Or.inr (Or.inr (Or.inr (Or.inr (Or.inr (Or.inr (Or.inr (Or.inr (Or.inr (Or.inr (Or.inr (Or.inl ⟨rfl, rfl, rfl⟩))))))))))))))))))))))⟩
      · refine Or.inr ⟨_, [8], rfl, by kernel_rfl, by simp, ?_, trivial⟩
        all_goals (have hcn := pick_keep hC hc; have hfvn := pick_keep hC hfv; have hsln := pick_keep hC hsl)
        · refine wpOpIn_step rfl (fun K hK => ?_)
          go_simp
          first | refine hK _ _ ?_ | refine ⟨fun _ h => (by cases h), hK _ _ ?_⟩
          exact ⟨hC, Or.inr (Or.inr (Or.inr (Or.inr (Or.inr (Or.inr (Or.inr (Or.inr (Or.inr (Or.inr (Or.inr (Or.inr (Or.inr (Or.inr (Or.inr (Or.inr (Or.inr (Or.inr (Or.inr (Or.inr (Or.inr (Or.inr (Or.inr (Or.inl ⟨rfl, rfl, rfl⟩)))))))))))))))))))))))⟩
      · refine Or.inr ⟨_, [9], rfl, by kernel_rfl, by simp, ?_, trivial⟩
        all_goals (have hcn := pick_keep hC hc; have hfvn := pick_keep hC hfv; have hsln := pick_keep hC hsl)
        · refine wpOpIn_step rfl (fun K hK => ?_)
          go_simp
          first | refine hK _ _ ?_ | refine ⟨fun _ h => (by cases h), hK _ _ ?_⟩
          exact ⟨hC, Or.inr (Or.inr (Or.inr (Or.inr (Or.inr (Or.inr (Or.inr (Or.inr (Or.inr (Or.inr (Or.inr (Or.inr (Or.inr (Or.inr (Or.inr (Or.inr (Or.inr (Or.inr (Or.inr (Or.inr (Or.inr (Or.inr (Or.inr (Or.inr (Or.inl ⟨rfl, rfl, rfl⟩))))))))))))))))))))))))⟩
      · refine Or.inr ⟨_, [10], rfl, by kernel_rfl, by simp, ?_, trivial⟩
        all_goals (have hcn := pick_keep hC hc; have hfvn := pick_keep hC hfv; have hsln := pick_keep hC hsl)
        · refine wpOpIn_step rfl (fun K hK => ?_)
          go_simp
          first | refine hK _ _ ?_ | refine ⟨fun _ h => (by cases h), hK _ _ ?_⟩
          exact ⟨hC, Or.inr (Or.inr (Or.inr (Or.inr (Or.inr (Or.inr (Or.inr (Or.inr (Or.inr (Or.inr (Or.inr (Or.inr (Or.inr (Or.inr (Or.inr (Or.inr (Or.inr (Or.inr (Or.inr (Or.inr (Or.inr (Or.inr (Or.inr (Or.inr (Or.inr (⟨rfl, rfl, rfl⟩)))))))))))))))))))))))))⟩
      · refine Or.inl ⟨by kernel_rfl, ?_⟩
        have hcn := pick_keep hC hc
        have hkn := pick_keepF hC hc hf
        have hfvn := pick_keep hC hfv
        have hsln := pick_keep hC hsl
        gi_wp2
        have he : pickFold l2 (pre ++ [x]) = x.1 := by rw [pickFold_snoc]; unfold pickStep; rw [if_pos z]
        show KeepsFrom _ _ _ ∧ keepsP _ _ _ _ _ ∧ ((World.cell? _ _ = some (Value.int .i64 (pickFold l2 (pre ++ [x]))) ∧ _) ∧ _)
        rw [he]
        exact pick_end _ _ _ hC hB hsz hcn hkn hfvn hsln
    · have z1 : (pickFold l2 pre == 0) = false := by simp [z]
      have z2 : decide (pickFold l2 pre = 0) = false := by simp [z]
      generalize hpf : pickFold l2 pre = pf at *
      obtain ⟨cb, hcb⟩ : ∃ cb : Bool, decide (costF (rd_T37 l2 (x.1 - 1)).f4 < costF (rd_T37 l2 (pf - 1)).f4) = cb := ⟨_, rfl⟩
      gi_wp2
      refine wpIn_region_any hm ?_
      refine any_inv (I := (fun fuel listed a w' => Below W.heap.size W w' ∧ ((fuel = 11 ∧ listed = #[false, false, false, false, false, false, false, false, false, false, false] ∧ a = ({ tmps := #[g0, g1, .slice A2 l2.length c2, .pointer (some ⟨w.heap.size, 0, none⟩), .pointer (some ⟨w.heap.size + 1, 0, none⟩), .pointer (some ⟨w.heap.size + 1 + 1, 0, none⟩), .int .i64 0, .bool false, .pointer (some ⟨w.heap.size + 1 + 1 + 1, 0, none⟩), .pointer (some ⟨w.heap.size + 1 + 1 + 1 + 1, 0, none⟩), .int .i64 x.1, .func (.func 28) #[] #[.pointer (some ⟨w.heap.size + 1 + 1, 0, none⟩)], g0, g1, .slice A2 l2.length c2, g2, .int .i64 x.1, undef, undef, undef, undef, undef, undef, undef, undef, undef, undef, undef, undef, undef, undef, undef], defers := [] } : Act)) ∨ (fuel = 10 ∧ listed = #[true, false, false, false, false, false, false, false, false, false, false] ∧ a = ({ tmps := #[g0, g1, .slice A2 l2.length c2, .pointer (some ⟨w.heap.size, 0, none⟩), .pointer (some ⟨w.heap.size + 1, 0, none⟩), .pointer (some ⟨w.heap.size + 1 + 1, 0, none⟩), .int .i64 0, .bool false, .pointer (some ⟨w.heap.size + 1 + 1 + 1, 0, none⟩), .pointer (some ⟨w.heap.size + 1 + 1 + 1 + 1, 0, none⟩), .int .i64 x.1, .func (.func 28) #[] #[.pointer (some ⟨w.heap.size + 1 + 1, 0, none⟩)], g0, g1, .slice A2 l2.length c2, g2, .int .i64 x.1, .int .i64 pf, undef, undef, undef, undef, undef, undef, undef, undef, undef, undef, undef, undef, undef, undef], defers := [] } : Act)) ∨ (fuel = 9 ∧ listed = #[true, true, false, false, false, false, false, false, false, false, false] ∧ a = ({ tmps := #[g0, g1, .slice A2 l2.length c2, .pointer (some ⟨w.heap.size, 0, none⟩), .pointer (some ⟨w.heap.size + 1, 0, none⟩), .pointer (some ⟨w.heap.size + 1 + 1, 0, none⟩), .int .i64 0, .bool false, .pointer (some ⟨w.heap.size + 1 + 1 + 1, 0, none⟩), .pointer (some ⟨w.heap.size + 1 + 1 + 1 + 1, 0, none⟩), .int .i64 x.1, .func (.func 28) #[] #[.pointer (some ⟨w.heap.size + 1 + 1, 0, none⟩)], g0, g1, .slice A2 l2.length c2, g2, .int .i64 x.1, .int .i64 pf, .bool false, undef, undef, undef, undef, undef, undef, undef, undef, undef, undef, undef, undef, undef], defers := [] } : Act)) ∨ (fuel = 8 ∧ listed = #[true, true, true, false, false, false, false, false, false, false, false] ∧ a = ({ tmps := #[g0, g1, .slice A2 l2.length c2, .pointer (some ⟨w.heap.size, 0, none⟩), .pointer (some ⟨w.heap.size + 1, 0, none⟩), .pointer (some ⟨w.heap.size + 1 + 1, 0, none⟩), .int .i64 0, .bool false, .pointer (some ⟨w.heap.size + 1 + 1 + 1, 0, none⟩), .pointer (some ⟨w.heap.size + 1 + 1 + 1 + 1, 0, none⟩), .int .i64 x.1, .func (.func 28) #[] #[.pointer (some ⟨w.heap.size + 1 + 1, 0, none⟩)], g0, g1, .slice A2 l2.length c2, g2, .int .i64 x.1, .int .i64 pf, .bool false, .bool false, undef, undef, undef, undef, undef, undef, undef, undef, undef, undef, undef, undef], defers := [] } : Act)) ∨ (fuel = 7 ∧ listed = #[true, true, true, true, false, false, false, false, false, false, false] ∧ a = ({ tmps := #[g0, g1, .slice A2 l2.length c2, .pointer (some ⟨w.heap.size, 0, none⟩), .pointer (some ⟨w.heap.size + 1, 0, none⟩), .pointer (some ⟨w.heap.size + 1 + 1, 0, none⟩), .int .i64 0, .bool false, .pointer (some ⟨w.heap.size + 1 + 1 + 1, 0, none⟩), .pointer (some ⟨w.heap.size + 1 + 1 + 1 + 1, 0, none⟩), .int .i64 x.1, .func (.func 28) #[] #[.pointer (some ⟨w.heap.size + 1 + 1, 0, none⟩)], g0, g1, .slice A2 l2.length c2, g2, .int .i64 x.1, .int .i64 pf, .bool false, .bool false, .func (.func 28) #[] #[.pointer (some ⟨w.heap.size + 1 + 1, 0, none⟩)], undef, undef, undef, undef, undef, undef, undef, undef, undef, undef, undef], defers := [] } : Act)) ∨ (fuel = 7 ∧ listed = #[true, true, true, false, true, false, false, false, false, false, false] ∧ a = ({ tmps := #[g0, g1, .slice A2 l2.length c2, .pointer (some ⟨w.heap.size, 0, none⟩), .pointer (some ⟨w.heap.size + 1, 0, none⟩), .pointer (some ⟨w.heap.size + 1 + 1, 0, none⟩), .int .i64 0, .bool false, .pointer (some ⟨w.heap.size + 1 + 1 + 1, 0, none⟩), .pointer (some ⟨w.heap.size + 1 + 1 + 1 + 1, 0, none⟩), .int .i64 x.1, .func (.func 28) #[] #[.pointer (some ⟨w.heap.size + 1 + 1, 0, none⟩)], g0, g1, .slice A2 l2.length c2, g2, .int .i64 x.1, .int .i64 pf, .bool false, .bool false, undef, .int .i64 x.1, undef, undef, undef, undef, undef, undef, undef, undef, undef, undef], defers := [] } : Act)) ∨ (fuel = 7 ∧ listed = #[true, true, true, false, false, false, true, false, false, false, false] ∧ a = ({ tmps := #[g0, g1, .slice A2 l2.length c2, .pointer (some ⟨w.heap.size, 0, none⟩), .pointer (some ⟨w.heap.size + 1, 0, none⟩), .pointer (some ⟨w.heap.size + 1 + 1, 0, none⟩), .int .i64 0, .bool false, .pointer (some ⟨w.heap.size + 1 + 1 + 1, 0, none⟩), .pointer (some ⟨w.heap.size + 1 + 1 + 1 + 1, 0, none⟩), .int .i64 x.1, .func (.func 28) #[] #[.pointer (some ⟨w.heap.size + 1 + 1, 0, none⟩)], g0, g1, .slice A2 l2.length c2, g2, .int .i64 x.1, .int .i64 pf, .bool false, .bool false, undef, undef, undef, .func (.func 28) #[] #[.pointer (some ⟨w.heap.size + 1 + 1, 0, none⟩)], undef, undef, undef, undef, undef, undef, undef, undef], defers := [] } : Act)) ∨ (fuel = 7 ∧ listed = #[true, true, true, false, false, false, false, true, false, false, false] ∧ a = ({ tmps := #[g0, g1, .slice A2 l2.length c2, .pointer (some ⟨w.heap.size, 0, none⟩), .pointer (some ⟨w.heap.size + 1, 0, none⟩), .pointer (some ⟨w.heap.size + 1 + 1, 0, none⟩), .int .i64 0, .bool false, .pointer (some ⟨w.heap.size + 1 + 1 + 1, 0, none⟩), .pointer (some ⟨w.heap.size + 1 + 1 + 1 + 1, 0, none⟩), .int .i64 x.1, .func (.func 28) #[] #[.pointer (some ⟨w.heap.size + 1 + 1, 0, none⟩)], g0, g1, .slice A2 l2.length c2, g2, .int .i64 x.1, .int .i64 pf, .bool false, .bool false, undef, undef, undef, undef, .int .i64 pf, undef, undef, undef, undef, undef, undef, undef], defers := [] } : Act)) ∨ (fuel = 6 ∧ listed = #[true, true, true, true, true, false, false, false, false, false, false] ∧ a = ({ tmps := #[g0, g1, .slice A2 l2.length c2, .pointer (some ⟨w.heap.size, 0, none⟩), .pointer (some ⟨w.heap.size + 1, 0, none⟩), .pointer (some ⟨w.heap.size + 1 + 1, 0, none⟩), .int .i64 0, .bool false, .pointer (some ⟨w.heap.size + 1 + 1 + 1, 0, none⟩), .pointer (some ⟨w.heap.size + 1 + 1 + 1 + 1, 0, none⟩), .int .i64 x.1, .func (.func 28) #[] #[.pointer (some ⟨w.heap.size + 1 + 1, 0, none⟩)], g0, g1, .slice A2 l2.length c2, g2, .int .i64 x.1, .int .i64 pf, .bool false, .bool false, .func (.func 28) #[] #[.pointer (some ⟨w.heap.size + 1 + 1, 0, none⟩)], .int .i64 x.1, undef, undef, undef, undef, undef, undef, undef, undef, undef, undef], defers := [] } : Act)) ∨ (fuel = 6 ∧ listed = #[true, true, true, true, false, false, true, false, false, false, false] ∧ a = ({ tmps := #[g0, g1, .slice A2 l2.length c2, .pointer (some ⟨w.heap.size, 0, none⟩), .pointer (some ⟨w.heap.size + 1, 0, none⟩), .pointer (some ⟨w.heap.size + 1 + 1, 0, none⟩), .int .i64 0, .bool false, .pointer (some ⟨w.heap.size + 1 + 1 + 1, 0, none⟩), .pointer (some ⟨w.heap.size + 1 + 1 + 1 + 1, 0, none⟩), .int .i64 x.1, .func (.func 28) #[] #[.pointer (some ⟨w.heap.size + 1 + 1, 0, none⟩)], g0, g1, .slice A2 l2.length c2, g2, .int .i64 x.1, .int .i64 pf, .bool false, .bool false, .func (.func 28) #[] #[.pointer (some ⟨w.heap.size + 1 + 1, 0, none⟩)], undef, undef, .func (.func 28) #[] #[.pointer (some ⟨w.heap.size + 1 + 1, 0, none⟩)], undef, undef, undef, undef, undef, undef, undef, undef], defers := [] } : Act)) ∨ (fuel = 6 ∧ listed = #[true, true, true, true, false, false, false, true, false, false, false] ∧ a = ({ tmps := #[g0, g1, .slice A2 l2.length c2, .pointer (some ⟨w.heap.size, 0, none⟩), .pointer (some ⟨w.heap.size + 1, 0, none⟩), .pointer (some ⟨w.heap.size + 1 + 1, 0, none⟩), .int .i64 0, .bool false, .pointer (some ⟨w.heap.size + 1 + 1 + 1, 0, none⟩), .pointer (some ⟨w.heap.size + 1 + 1 + 1 + 1, 0, none⟩), .int .i64 x.1, .func (.func 28) #[] #[.pointer (some ⟨w.heap.size + 1 + 1, 0, none⟩)], g0, g1, .slice A2 l2.length c2, g2, .int .i64 x.1, .int .i64 pf, .bool false, .bool false, .func (.func 28) #[] #[.pointer (some ⟨w.heap.size + 1 + 1, 0, none⟩)], undef, undef, undef, .int .i64 pf, undef, undef, undef, undef, undef, undef, undef], defers := [] } : Act)) ∨ (fuel = 6 ∧ listed = #[true, true, true, false, true, false, true, false, false, false, false] ∧ a = ({ tmps := #[g0, g1, .slice A2 l2.length c2, .pointer (some ⟨w.heap.size, 0, none⟩), .pointer (some ⟨w.heap.size + 1, 0, none⟩), .pointer (some ⟨w.heap.size + 1 + 1, 0, none⟩), .int .i64 0, .bool false, .pointer (some ⟨w.heap.size + 1 + 1 + 1, 0, none⟩), .pointer (some ⟨w.heap.size + 1 + 1 + 1 + 1, 0, none⟩), .int .i64 x.1, .func (.func 28) #[] #[.pointer (some ⟨w.heap.size + 1 + 1, 0, none⟩)], g0, g1, .slice A2 l2.length c2, g2, .int .i64 x.1, .int .i64 pf, .bool false, .bool false, undef, .int .i64 x.1, undef, .func (.func 28) #[] #[.pointer (some ⟨w.heap.size + 1 + 1, 0, none⟩)], undef, undef, undef, undef, undef, undef, undef, undef], defers := [] } : Act)) ∨ (fuel = 6 ∧ listed = #[true, true, true, false, true, false, false, true, false, false, false] ∧ a = ({ tmps := #[g0, g1, .slice A2 l2.length c2, .pointer (some ⟨w.heap.size, 0, none⟩), .pointer (some ⟨w.heap.size + 1, 0, none⟩), .pointer (some ⟨w.heap.size + 1 + 1, 0, none⟩), .int .i64 0, .bool false, .pointer (some ⟨w.heap.size + 1 + 1 + 1, 0, none⟩), .pointer (some ⟨w.heap.size + 1 + 1 + 1 + 1, 0, none⟩), .int .i64 x.1, .func (.func 28) #[] #[.pointer (some ⟨w.heap.size + 1 + 1, 0, none⟩)], g0, g1, .slice A2 l2.length c2, g2, .int .i64 x.1, .int .i64 pf, .bool false, .bool false, undef, .int .i64 x.1, undef, undef, .int .i64 pf, undef, undef, undef, undef, undef, undef, undef], defers := [] } : Act)) ∨ (fuel = 6 ∧ listed = #[true, true, true, false, false, false, true, true, false, false, false] ∧ a = ({ tmps := #[g0, g1, .slice A2 l2.length c2, .pointer (some ⟨w.heap.size, 0, none⟩), .pointer (some ⟨w.heap.size + 1, 0, none⟩), .pointer (some ⟨w.heap.size + 1 + 1, 0, none⟩), .int .i64 0, .bool false, .pointer (some ⟨w.heap.size + 1 + 1 + 1, 0, none⟩), .pointer (some ⟨w.heap.size + 1 + 1 + 1 + 1, 0, none⟩), .int .i64 x.1, .func (.func 28) #[] #[.pointer (some ⟨w.heap.size + 1 + 1, 0, none⟩)], g0, g1, .slice A2 l2.length c2, g2, .int .i64 x.1, .int .i64 pf, .bool false, .bool false, undef, undef, undef, .func (.func 28) #[] #[.pointer (some ⟨w.heap.size + 1 + 1, 0, none⟩)], .int .i64 pf, undef, undef, undef, undef, undef, undef, undef], defers := [] } : Act)) ∨ (fuel = 5 ∧ listed = #[true, true, true, true, true, true, false, false, false, false, false] ∧ a = ({ tmps := #[g0, g1, .slice A2 l2.length c2, .pointer (some ⟨w.heap.size, 0, none⟩), .pointer (some ⟨w.heap.size + 1, 0, none⟩), .pointer (some ⟨w.heap.size + 1 + 1, 0, none⟩), .int .i64 0, .bool false, .pointer (some ⟨w.heap.size + 1 + 1 + 1, 0, none⟩), .pointer (some ⟨w.heap.size + 1 + 1 + 1 + 1, 0, none⟩), .int .i64 x.1, .func (.func 28) #[] #[.pointer (some ⟨w.heap.size + 1 + 1, 0, none⟩)], g0, g1, .slice A2 l2.length c2, g2, .int .i64 x.1, .int .i64 pf, .bool false, .bool false, .func (.func 28) #[] #[.pointer (some ⟨w.heap.size + 1 + 1, 0, none⟩)], .int .i64 x.1, .int .i64 (costF (rd_T37 l2 (x.1 - 1)).f4), undef, undef, undef, undef, undef, undef, undef, undef, undef], defers := [] } : Act)) ∨ (fuel = 5 ∧ listed = #[true, true, true, true, true, false, true, false, false, false, false] ∧ a = ({ tmps := #[g0, g1, .slice A2 l2.length c2, .pointer (some ⟨w.heap.size, 0, none⟩), .pointer (some ⟨w.heap.size + 1, 0, none⟩), .pointer (some ⟨w.heap.size + 1 + 1, 0, none⟩), .int .i64 0, .bool false, .pointer (some ⟨w.heap.size + 1 + 1 + 1, 0, none⟩), .pointer (some ⟨w.heap.size + 1 + 1 + 1 + 1, 0, none⟩), .int .i64 x.1, .func (.func 28) #[] #[.pointer (some ⟨w.heap.size + 1 + 1, 0, none⟩)], g0, g1, .slice A2 l2.length c2, g2, .int .i64 x.1, .int .i64 pf, .bool false, .bool false, .func (.func 28) #[] #[.pointer (some ⟨w.heap.size + 1 + 1, 0, none⟩)], .int .i64 x.1, undef, .func (.func 28) #[] #[.pointer (some ⟨w.heap.size + 1 + 1, 0, none⟩)], undef, undef, undef, undef, undef, undef, undef, undef], defers := [] } : Act)) ∨ (fuel = 5 ∧ listed = #[true, true, true, true, true, false, false, true, false, false, false] ∧ a = ({ tmps := #[g0, g1, .slice A2 l2.length c2, .pointer (some ⟨w.heap.size, 0, none⟩), .pointer (some ⟨w.heap.size + 1, 0, none⟩), .pointer (some ⟨w.heap.size + 1 + 1, 0, none⟩), .int .i64 0, .bool false, .pointer (some ⟨w.heap.size + 1 + 1 + 1, 0, none⟩), .pointer (some ⟨w.heap.size + 1 + 1 + 1 + 1, 0, none⟩), .int .i64 x.1, .func (.func 28) #[] #[.pointer (some ⟨w.heap.size + 1 + 1, 0, none⟩)], g0, g1, .slice A2 l2.length c2, g2, .int .i64 x.1, .int .i64 pf, .bool false, .bool false, .func (.func 28) #[] #[.pointer (some ⟨w.heap.size + 1 + 1, 0, none⟩)], .int .i64 x.1, undef, undef, .int .i64 pf, undef, undef, undef, undef, undef, undef, undef], defers := [] } : Act)) ∨ (fuel = 5 ∧ listed = #[true, true, true, true, false, false, true, true, false, false, false] ∧ a = ({ tmps := #[g0, g1, .slice A2 l2.length c2, .pointer (some ⟨w.heap.size, 0, none⟩), .pointer (some ⟨w.heap.size + 1, 0, none⟩), .pointer (some ⟨w.heap.size + 1 + 1, 0, none⟩), .int .i64 0, .bool false, .pointer (some ⟨w.heap.size + 1 + 1 + 1, 0, none⟩), .pointer (some ⟨w.heap.size + 1 + 1 + 1 + 1, 0, none⟩), .int .i64 x.1, .func (.func 28) #[] #[.pointer (some ⟨w.heap.size + 1 + 1, 0, none⟩)], g0, g1, .slice A2 l2.length c2, g2, .int .i64 x.1, .int .i64 pf, .bool false, .bool false, .func (.func 28) #[] #[.pointer (some ⟨w.heap.size + 1 + 1, 0, none⟩)], undef, undef, .func (.func 28) #[] #[.pointer (some ⟨w.heap.size + 1 + 1, 0, none⟩)], .int .i64 pf, undef, undef, undef, undef, undef, undef, undef], defers := [] } : Act)) ∨ (fuel = 5 ∧ listed = #[true, true, true, false, true, false, true, true, false, false, false] ∧ a = ({ tmps := #[g0, g1, .slice A2 l2.length c2, .pointer (some ⟨w.heap.size, 0, none⟩), .pointer (some ⟨w.heap.size + 1, 0, none⟩), .pointer (some ⟨w.heap.size + 1 + 1, 0, none⟩), .int .i64 0, .bool false, .pointer (some ⟨w.heap.size + 1 + 1 + 1, 0, none⟩), .pointer (some ⟨w.heap.size + 1 + 1 + 1 + 1, 0, none⟩), .int .i64 x.1, .func (.func 28) #[] #[.pointer (some ⟨w.heap.size + 1 + 1, 0, none⟩)], g0, g1, .slice A2 l2.length c2, g2, .int .i64 x.1, .int .i64 pf, .bool false, .bool false, undef, .int .i64 x.1, undef, .func (.func 28) #[] #[.pointer (some ⟨w.heap.size + 1 + 1, 0, none⟩)], .int .i64 pf, undef, undef, undef, undef, undef, undef, undef], defers := [] } : Act)) ∨ (fuel = 4 ∧ listed = #[true, true, true, true, true, true, true, false, false, false, false] ∧ a = ({ tmps := #[g0, g1, .slice A2 l2.length c2, .pointer (some ⟨w.heap.size, 0, none⟩), .pointer (some ⟨w.heap.size + 1, 0, none⟩), .pointer (some ⟨w.heap.size + 1 + 1, 0, none⟩), .int .i64 0, .bool false, .pointer (some ⟨w.heap.size + 1 + 1 + 1, 0, none⟩), .pointer (some ⟨w.heap.size + 1 + 1 + 1 + 1, 0, none⟩), .int .i64 x.1, .func (.func 28) #[] #[.pointer (some ⟨w.heap.size + 1 + 1, 0, none⟩)], g0, g1, .slice A2 l2.length c2, g2, .int .i64 x.1, .int .i64 pf, .bool false, .bool false, .func (.func 28) #[] #[.pointer (some ⟨w.heap.size + 1 + 1, 0, none⟩)], .int .i64 x.1, .int .i64 (costF (rd_T37 l2 (x.1 - 1)).f4), .func (.func 28) #[] #[.pointer (some ⟨w.heap.size + 1 + 1, 0, none⟩)], undef, undef, undef, undef, undef, undef, undef, undef], defers := [] } : Act)) ∨ (fuel = 4 ∧ listed = #[true, true, true, true, true, true, false, true, false, false, false] ∧ a = ({ tmps := #[g0, g1, .slice A2 l2.length c2, .pointer (some ⟨w.heap.size, 0, none⟩), .pointer (some ⟨w.heap.size + 1, 0, none⟩), .pointer (some ⟨w.heap.size + 1 + 1, 0, none⟩), .int .i64 0, .bool false, .pointer (some ⟨w.heap.size + 1 + 1 + 1, 0, none⟩), .pointer (some ⟨w.heap.size + 1 + 1 + 1 + 1, 0, none⟩), .int .i64 x.1, .func (.func 28) #[] #[.pointer (some ⟨w.heap.size + 1 + 1, 0, none⟩)], g0, g1, .slice A2 l2.length c2, g2, .int .i64 x.1, .int .i64 pf, .bool false, .bool false, .func (.func 28) #[] #[.pointer (some ⟨w.heap.size + 1 + 1, 0, none⟩)], .int .i64 x.1, .int .i64 (costF (rd_T37 l2 (x.1 - 1)).f4), undef, .int .i64 pf, undef, undef, undef, undef, undef, undef, undef], defers := [] } : Act)) ∨ (fuel = 4 ∧ listed = #[true, true, true, true, true, false, true, true, false, false, false] ∧ a = ({ tmps := #[g0, g1, .slice A2 l2.length c2, .pointer (some ⟨w.heap.size, 0, none⟩), .pointer (some ⟨w.heap.size + 1, 0, none⟩), .pointer (some ⟨w.heap.size + 1 + 1, 0, none⟩), .int .i64 0, .bool false, .pointer (some ⟨w.heap.size + 1 + 1 + 1, 0, none⟩), .pointer (some ⟨w.heap.size + 1 + 1 + 1 + 1, 0, none⟩), .int .i64 x.1, .func (.func 28) #[] #[.pointer (some ⟨w.heap.size + 1 + 1, 0, none⟩)], g0, g1, .slice A2 l2.length c2, g2, .int .i64 x.1, .int .i64 pf, .bool false, .bool false, .func (.func 28) #[] #[.pointer (some ⟨w.heap.size + 1 + 1, 0, none⟩)], .int .i64 x.1, undef, .func (.func 28) #[] #[.pointer (some ⟨w.heap.size + 1 + 1, 0, none⟩)], .int .i64 pf, undef, undef, undef, undef, undef, undef, undef], defers := [] } : Act)) ∨ (fuel = 3 ∧ listed = #[true, true, true, true, true, true, true, true, false, false, false] ∧ a = ({ tmps := #[g0, g1, .slice A2 l2.length c2, .pointer (some ⟨w.heap.size, 0, none⟩), .pointer (some ⟨w.heap.size + 1, 0, none⟩), .pointer (some ⟨w.heap.size + 1 + 1, 0, none⟩), .int .i64 0, .bool false, .pointer (some ⟨w.heap.size + 1 + 1 + 1, 0, none⟩), .pointer (some ⟨w.heap.size + 1 + 1 + 1 + 1, 0, none⟩), .int .i64 x.1, .func (.func 28) #[] #[.pointer (some ⟨w.heap.size + 1 + 1, 0, none⟩)], g0, g1, .slice A2 l2.length c2, g2, .int .i64 x.1, .int .i64 pf, .bool false, .bool false, .func (.func 28) #[] #[.pointer (some ⟨w.heap.size + 1 + 1, 0, none⟩)], .int .i64 x.1, .int .i64 (costF (rd_T37 l2 (x.1 - 1)).f4), .func (.func 28) #[] #[.pointer (some ⟨w.heap.size + 1 + 1, 0, none⟩)], .int .i64 pf, undef, undef, undef, undef, undef, undef, undef], defers := [] } : Act)) ∨ (fuel = 2 ∧ listed = #[true, true, true, true, true, true, true, true, true, false, false] ∧ a = ({ tmps := #[g0, g1, .slice A2 l2.length c2, .pointer (some ⟨w.heap.size, 0, none⟩), .pointer (some ⟨w.heap.size + 1, 0, none⟩), .pointer (some ⟨w.heap.size + 1 + 1, 0, none⟩), .int .i64 0, .bool false, .pointer (some ⟨w.heap.size + 1 + 1 + 1, 0, none⟩), .pointer (some ⟨w.heap.size + 1 + 1 + 1 + 1, 0, none⟩), .int .i64 x.1, .func (.func 28) #[] #[.pointer (some ⟨w.heap.size + 1 + 1, 0, none⟩)], g0, g1, .slice A2 l2.length c2, g2, .int .i64 x.1, .int .i64 pf, .bool false, .bool false, .func (.func 28) #[] #[.pointer (some ⟨w.heap.size + 1 + 1, 0, none⟩)], .int .i64 x.1, .int .i64 (costF (rd_T37 l2 (x.1 - 1)).f4), .func (.func 28) #[] #[.pointer (some ⟨w.heap.size + 1 + 1, 0, none⟩)], .int .i64 pf, .int .i64 (costF (rd_T37 l2 (pf - 1)).f4), undef, undef, undef, undef, undef, undef], defers := [] } : Act)) ∨ (fuel = 1 ∧ listed = #[true, true, true, true, true, true, true, true, true, true, false] ∧ a = ({ tmps := #[g0, g1, .slice A2 l2.length c2, .pointer (some ⟨w.heap.size, 0, none⟩), .pointer (some ⟨w.heap.size + 1, 0, none⟩), .pointer (some ⟨w.heap.size + 1 + 1, 0, none⟩), .int .i64 0, .bool false, .pointer (some ⟨w.heap.size + 1 + 1 + 1, 0, none⟩), .pointer (some ⟨w.heap.size + 1 + 1 + 1 + 1, 0, none⟩), .int .i64 x.1, .func (.func 28) #[] #[.pointer (some ⟨w.heap.size + 1 + 1, 0, none⟩)], g0, g1, .slice A2 l2.length c2, g2, .int .i64 x.1, .int .i64 pf, .bool false, .bool false, .func (.func 28) #[] #[.pointer (some ⟨w.heap.size + 1 + 1, 0, none⟩)], .int .i64 x.1, .int .i64 (costF (rd_T37 l2 (x.1 - 1)).f4), .func (.func 28) #[] #[.pointer (some ⟨w.heap.size + 1 + 1, 0, none⟩)], .int .i64 pf, .int .i64 (costF (rd_T37 l2 (pf - 1)).f4), .bool cb, undef, undef, undef, undef, undef], defers := [] } : Act)) ∨ (fuel = 0 ∧ listed = #[true, true, true, true, true, true, true, true, true, true, true] ∧ a = ({ tmps := #[g0, g1, .slice A2 l2.length c2, .pointer (some ⟨w.heap.size, 0, none⟩), .pointer (some ⟨w.heap.size + 1, 0, none⟩), .pointer (some ⟨w.heap.size + 1 + 1, 0, none⟩), .int .i64 0, .bool false, .pointer (some ⟨w.heap.size + 1 + 1 + 1, 0, none⟩), .pointer (some ⟨w.heap.size + 1 + 1 + 1 + 1, 0, none⟩), .int .i64 x.1, .func (.func 28) #[] #[.pointer (some ⟨w.heap.size + 1 + 1, 0, none⟩)], g0, g1, .slice A2 l2.length c2, g2, .int .i64 x.1, .int .i64 pf, .bool false, .bool false, .func (.func 28) #[] #[.pointer (some ⟨w.heap.size + 1 + 1, 0, none⟩)], .int .i64 x.1, .int .i64 (costF (rd_T37 l2 (x.1 - 1)).f4), .func (.func 28) #[] #[.pointer (some ⟨w.heap.size + 1 + 1, 0, none⟩)], .int .i64 pf, .int .i64 (costF (rd_T37 l2 (pf - 1)).f4), .bool cb, .bool cb, undef, undef, undef, undef], defers := [] } : Act))))) ?_ _ _ _ _ ⟨(Below.refl _ W).drew, Or.inl ⟨rfl, rfl, rfl⟩⟩
      rintro fuel listed a w' ⟨hC, ⟨rfl, rfl, rfl⟩ | ⟨rfl, rfl, rfl⟩ | ⟨rfl, rfl, rfl⟩ | ⟨rfl, rfl, rfl⟩ | ⟨rfl, rfl, rfl⟩ | ⟨rfl, rfl, rfl⟩ | ⟨rfl, rfl, rfl⟩ | ⟨rfl, rfl, rfl⟩ | ⟨rfl, rfl, rfl⟩ | ⟨rfl, rfl, rfl⟩ | ⟨rfl, rfl, rfl⟩ | ⟨rfl, rfl, rfl⟩ | ⟨rfl, rfl, rfl⟩ | ⟨rfl, rfl, rfl⟩ | ⟨rfl, rfl, rfl⟩ | ⟨rfl, rfl, rfl⟩ | ⟨rfl, rfl, rfl⟩ | ⟨rfl, rfl, rfl⟩ | ⟨rfl, rfl, rfl⟩ | ⟨rfl, rfl, rfl⟩ | ⟨rfl, rfl, rfl⟩ | ⟨rfl, rfl, rfl⟩ | ⟨rfl, rfl, rfl⟩ | ⟨rfl, rfl, rfl⟩ | ⟨rfl, rfl, rfl⟩ | ⟨rfl, rfl, rfl⟩⟩
      · refine Or.inr ⟨_, [0], rfl, by kernel_rfl, by simp, ?_, trivial⟩
        all_goals (have hcn := pick_keep hC hc; have hfvn := pick_keep hC hfv; have hsln := pick_keep hC hsl)
        · refine wpOpIn_step rfl (fun K hK => ?_)
          go_simp
          refine hK _ _ ?_
          exact ⟨hC, Or.inr (Or.inl ⟨rfl, rfl, rfl⟩)⟩
      · refine Or.inr ⟨_, [1], rfl, by kernel_rfl, by simp, ?_, trivial⟩
        all_goals (have hcn := pick_keep hC hc; have hfvn := pick_keep hC hfv; have hsln := pick_keep hC hsl)
        · refine wpOpIn_step rfl (fun K hK => ?_)
          go_simp
          refine hK _ _ ?_
          exact ⟨hC, Or.inr (Or.inr (Or.inl ⟨rfl, rfl, rfl⟩))⟩
      · refine Or.inr ⟨_, [2], rfl, by kernel_rfl, by simp, ?_, trivial⟩
        all_goals (have hcn := pick_keep hC hc; have hfvn := pick_keep hC hfv; have hsln := pick_keep hC hsl)
        · refine wpOpIn_step rfl (fun K hK => ?_)
          go_simp
          refine hK _ _ ?_
          exact ⟨hC, Or.inr (Or.inr (Or.inr (Or.inl ⟨rfl, rfl, rfl⟩)))⟩
      · refine Or.inr ⟨_, [3, 4, 6, 7], rfl, by kernel_rfl, by simp, ?_, ?_, ?_, ?_, trivial⟩
        all_goals (have hcn := pick_keep hC hc; have hfvn := pick_keep hC hfv; have hsln := pick_keep hC hsl)
        · refine wpOpIn_step rfl (fun K hK => ?_)
          go_simp
          refine hK _ _ ?_
          exact ⟨hC, Or.inr (Or.inr (Or.inr (Or.inr (Or.inl ⟨rfl, rfl, rfl⟩))))⟩
        · refine wpOpIn_step rfl (fun K hK => ?_)
          go_simp
          refine hK _ _ ?_
          exact ⟨hC, Or.inr (Or.inr (Or.inr (Or.inr (Or.inr (Or.inl ⟨rfl, rfl, rfl⟩)))))⟩
        · refine wpOpIn_step rfl (fun K hK => ?_)
          go_simp
          refine hK _ _ ?_
          exact ⟨hC, Or.inr (Or.inr (Or.inr (Or.inr (Or.inr (Or.inr (Or.inl ⟨rfl, rfl, rfl⟩))))))⟩
        · refine wpOpIn_step rfl (fun K hK => ?_)
          go_simp
          refine hK _ _ ?_
          exact ⟨hC, Or.inr (Or.inr (Or.inr (Or.inr (Or.inr (Or.inr (Or.inr (Or.inl ⟨rfl, rfl, rfl⟩)))))))⟩
      · refine Or.inr ⟨_, [4, 6, 7], rfl, by kernel_rfl, by simp, ?_, ?_, ?_, trivial⟩
        all_goals (have hcn := pick_keep hC hc; have hfvn := pick_keep hC hfv; have hsln := pick_keep hC hsl)
        · refine wpOpIn_step rfl (fun K hK => ?_)
          go_simp
          refine hK _ _ ?_
          exact ⟨hC, Or.inr (Or.inr (Or.inr (Or.inr (Or.inr (Or.inr (Or.inr (Or.inr (Or.inl ⟨rfl, rfl, rfl⟩))))))))⟩
        · refine wpOpIn_step rfl (fun K hK => ?_)
          go_simp
          refine hK _ _ ?_
          exact ⟨hC, Or.inr (Or.inr (Or.inr (Or.inr (Or.inr (Or.inr (Or.inr (Or.inr (Or.inr (Or.inl ⟨rfl, rfl, rfl⟩)))))))))⟩
        · refine wpOpIn_step rfl (fun K hK => ?_)
          go_simp
          refine hK _ _ ?_
          exact ⟨hC, Or.inr (Or.inr (Or.inr (Or.inr (Or.inr (Or.inr (Or.inr (Or.inr (Or.inr (Or.inr (Or.inl ⟨rfl, rfl, rfl⟩))))))))))⟩
      · refine Or.inr ⟨_, [3, 6, 7], rfl, by kernel_rfl, by simp, ?_, ?_, ?_, trivial⟩
        all_goals (have hcn := pick_keep hC hc; have hfvn := pick_keep hC hfv; have hsln := pick_keep hC hsl)
        · refine wpOpIn_step rfl (fun K hK => ?_)
          go_simp
          refine hK _ _ ?_
          exact ⟨hC, Or.inr (Or.inr (Or.inr (Or.inr (Or.inr (Or.inr (Or.inr (Or.inr (Or.inl ⟨rfl, rfl, rfl⟩))))))))⟩
        · refine wpOpIn_step rfl (fun K hK => ?_)
          go_simp
          refine hK _ _ ?_
          exact ⟨hC, Or.inr (Or.inr (Or.inr (Or.inr (Or.inr (Or.inr (Or.inr (Or.inr (Or.inr (Or.inr (Or.inr (Or.inl ⟨rfl, rfl, rfl⟩)))))))))))⟩
        · refine wpOpIn_step rfl (fun K hK => ?_)
          go_simp
          refine hK _ _ ?_
          exact ⟨hC, Or.inr (Or.inr (Or.inr (Or.inr (Or.inr (Or.inr (Or.inr (Or.inr (Or.inr (Or.inr (Or.inr (Or.inr (Or.inl ⟨rfl, rfl, rfl⟩))))))))))))⟩
      · refine Or.inr ⟨_, [3, 4, 7], rfl, by kernel_rfl, by simp, ?_, ?_, ?_, trivial⟩
        all_goals (have hcn := pick_keep hC hc; have hfvn := pick_keep hC hfv; have hsln := pick_keep hC hsl)
        · refine wpOpIn_step rfl (fun K hK => ?_)
          go_simp
          refine hK _ _ ?_
          exact ⟨hC, Or.inr (Or.inr (Or.inr (Or.inr (Or.inr (Or.inr (Or.inr (Or.inr (Or.inr (Or.inl ⟨rfl, rfl, rfl⟩)))))))))⟩
        · refine wpOpIn_step rfl (fun K hK => ?_)
          go_simp
          refine hK _ _ ?_
          exact ⟨hC, Or.inr (Or.inr (Or.inr (Or.inr (Or.inr (Or.inr (Or.inr (Or.inr (Or.inr (Or.inr (Or.inr (Or.inl ⟨rfl, rfl, rfl⟩)))))))))))⟩
        · refine wpOpIn_step rfl (fun K hK => ?_)
          go_simp
          refine hK _ _ ?_
          exact ⟨hC, Or.inr (Or.inr (Or.inr (Or.inr (Or.inr (Or.inr (Or.inr (Or.inr (Or.inr (Or.inr (Or.inr (Or.inr (Or.inr (Or.inl ⟨rfl, rfl, rfl⟩)))))))))))))⟩
      · refine Or.inr ⟨_, [3, 4, 6], rfl, by kernel_rfl, by simp, ?_, ?_, ?_, trivial⟩
        all_goals (have hcn := pick_keep hC hc; have hfvn := pick_keep hC hfv; have hsln := pick_keep hC hsl)
        · refine wpOpIn_step rfl (fun K hK => ?_)
          go_simp
          refine hK _ _ ?_
          exact ⟨hC, Or.inr (Or.inr (Or.inr (Or.inr (Or.inr (Or.inr (Or.inr (Or.inr (Or.inr (Or.inr (Or.inl ⟨rfl, rfl, rfl⟩))))))))))⟩
        · refine wpOpIn_step rfl (fun K hK => ?_)
          go_simp
          refine hK _ _ ?_
          exact ⟨hC, Or.inr (Or.inr (Or.inr (Or.inr (Or.inr (Or.inr (Or.inr (Or.inr (Or.inr (Or.inr (Or.inr (Or.inr (Or.inl ⟨rfl, rfl, rfl⟩))))))))))))⟩
        · refine wpOpIn_step rfl (fun K hK => ?_)
          go_simp
          refine hK _ _ ?_
          exact ⟨hC, Or.inr (Or.inr (Or.inr (Or.inr (Or.inr (Or.inr (Or.inr (Or.inr (Or.inr (Or.inr (Or.inr (Or.inr (Or.inr (Or.inl ⟨rfl, rfl, rfl⟩)))))))))))))⟩
      · refine Or.inr ⟨_, [5, 6, 7], rfl, by kernel_rfl, by simp, ?_, ?_, ?_, trivial⟩
        all_goals (have hcn := pick_keep hC hc; have hfvn := pick_keep hC hfv; have hsln := pick_keep hC hsl)
        · refine wpOpIn_step rfl (fun K hK => ?_)
          go_simp
          gi_wp2_with (refine ⟨trivial, ?_⟩; gi_at_call 28; refine (CallsIn.inRound l (callsIn_wide.2 (pick1_calls _ (w.heap.size + 1 + 1) A2 c2 l2 _ ?q1 ?q2 ?q3 ?q4))).mono ?_; (case q1 => first | exact x.2.1 | omega); (case q2 => first | exact x.2.2 | exact hin.2); (case q3 => exact hsln); (case q4 => exact Kd.C_below HR2.out (hB.trans (hC.mono hB.size))); rintro e W5 ⟨rfl, hb5⟩; have hC5 := below_step hC hb5)
          all_goals (try refine hK _ _ ?_)
          all_goals exact ⟨hC5, Or.inr (Or.inr (Or.inr (Or.inr (Or.inr (Or.inr (Or.inr (Or.inr (Or.inr (Or.inr (Or.inr (Or.inr (Or.inr (Or.inr (Or.inl ⟨rfl, rfl, rfl⟩))))))))))))))⟩
        · refine wpOpIn_step rfl (fun K hK => ?_)
          go_simp
          refine hK _ _ ?_
          exact ⟨hC, Or.inr (Or.inr (Or.inr (Or.inr (Or.inr (Or.inr (Or.inr (Or.inr (Or.inr (Or.inr (Or.inr (Or.inr (Or.inr (Or.inr (Or.inr (Or.inl ⟨rfl, rfl, rfl⟩)))))))))))))))⟩
        · refine wpOpIn_step rfl (fun K hK => ?_)
          go_simp
          refine hK _ _ ?_
          exact ⟨hC, Or.inr (Or.inr (Or.inr (Or.inr (Or.inr (Or.inr (Or.inr (Or.inr (Or.inr (Or.inr (Or.inr (Or.inr (Or.inr (Or.inr (Or.inr (Or.inr (Or.inl ⟨rfl, rfl, rfl⟩))))))))))))))))⟩
      · refine Or.inr ⟨_, [4, 7], rfl, by kernel_rfl, by simp, ?_, ?_, trivial⟩
        all_goals (have hcn := pick_keep hC hc; have hfvn := pick_keep hC hfv; have hsln := pick_keep hC hsl)
        · refine wpOpIn_step rfl (fun K hK => ?_)
          go_simp
          refine hK _ _ ?_
          exact ⟨hC, Or.inr (Or.inr (Or.inr (Or.inr (Or.inr (Or.inr (Or.inr (Or.inr (Or.inr (Or.inr (Or.inr (Or.inr (Or.inr (Or.inr (Or.inr (Or.inl ⟨rfl, rfl, rfl⟩)))))))))))))))⟩
        · refine wpOpIn_step rfl (fun K hK => ?_)
          go_simp
          refine hK _ _ ?_
          exact ⟨hC, Or.inr (Or.inr (Or.inr (Or.inr (Or.inr (Or.inr (Or.inr (Or.inr (Or.inr (Or.inr (Or.inr (Or.inr (Or.inr (Or.inr (Or.inr (Or.inr (Or.inr (Or.inl ⟨rfl, rfl, rfl⟩)))))))))))))))))⟩
      · refine Or.inr ⟨_, [4, 6], rfl, by kernel_rfl, by simp, ?_, ?_, trivial⟩
        all_goals (have hcn := pick_keep hC hc; have hfvn := pick_keep hC hfv; have hsln := pick_keep hC hsl)
        · refine wpOpIn_step rfl (fun K hK => ?_)
          go_simp
          refine hK _ _ ?_
          exact ⟨hC, Or.inr (Or.inr (Or.inr (Or.inr (Or.inr (Or.inr (Or.inr (Or.inr (Or.inr (Or.inr (Or.inr (Or.inr (Or.inr (Or.inr (Or.inr (Or.inr (Or.inl ⟨rfl, rfl, rfl⟩))))))))))))))))⟩
        · refine wpOpIn_step rfl (fun K hK => ?_)
          go_simp
          refine hK _ _ ?_
          exact ⟨hC, Or.inr (Or.inr (Or.inr (Or.inr (Or.inr (Or.inr (Or.inr (Or.inr (Or.inr (Or.inr (Or.inr (Or.inr (Or.inr (Or.inr (Or.inr (Or.inr (Or.inr (Or.inl ⟨rfl, rfl, rfl⟩)))))))))))))))))⟩
      · refine Or.inr ⟨_, [3, 7], rfl, by kernel_rfl, by simp, ?_, ?_, trivial⟩
        all_goals (have hcn := pick_keep hC hc; have hfvn := pick_keep hC hfv; have hsln := pick_keep hC hsl)
        · refine wpOpIn_step rfl (fun K hK => ?_)
          go_simp
          refine hK _ _ ?_
          exact ⟨hC, Or.inr (Or.inr (Or.inr (Or.inr (Or.inr (Or.inr (Or.inr (Or.inr (Or.inr (Or.inr (Or.inr (Or.inr (Or.inr (Or.inr (Or.inr (Or.inl ⟨rfl, rfl, rfl⟩)))))))))))))))⟩
        · refine wpOpIn_step rfl (fun K hK => ?_)
          go_simp
          refine hK _ _ ?_
          exact ⟨hC, Or.inr (Or.inr (Or.inr (Or.inr (Or.inr (Or.inr (Or.inr (Or.inr (Or.inr (Or.inr (Or.inr (Or.inr (Or.inr (Or.inr (Or.inr (Or.inr (Or.inr (Or.inr (Or.inl ⟨rfl, rfl, rfl⟩))))))))))))))))))⟩
      · refine Or.inr ⟨_, [3, 6], rfl, by kernel_rfl, by simp, ?_, ?_, trivial⟩
        all_goals (have hcn := pick_keep hC hc; have hfvn := pick_keep hC hfv; have hsln := pick_keep hC hsl)
        · refine wpOpIn_step rfl (fun K hK => ?_)
          go_simp
          refine hK _ _ ?_
          exact ⟨hC, Or.inr (Or.inr (Or.inr (Or.inr (Or.inr (Or.inr (Or.inr (Or.inr (Or.inr (Or.inr (Or.inr (Or.inr (Or.inr (Or.inr (Or.inr (Or.inr (Or.inl ⟨rfl, rfl, rfl⟩))))))))))))))))⟩
        · refine wpOpIn_step rfl (fun K hK => ?_)
          go_simp
          refine hK _ _ ?_
          exact ⟨hC, Or.inr (Or.inr (Or.inr (Or.inr (Or.inr (Or.inr (Or.inr (Or.inr (Or.inr (Or.inr (Or.inr (Or.inr (Or.inr (Or.inr (Or.inr (Or.inr (Or.inr (Or.inr (Or.inl ⟨rfl, rfl, rfl⟩))))))))))))))))))⟩
      · refine Or.inr ⟨_, [3, 4], rfl, by kernel_rfl, by simp, ?_, ?_, trivial⟩
        all_goals (have hcn := pick_keep hC hc; have hfvn := pick_keep hC hfv; have hsln := pick_keep hC hsl)
        · refine wpOpIn_step rfl (fun K hK => ?_)
          go_simp
          refine hK _ _ ?_
          exact ⟨hC, Or.inr (Or.inr (Or.inr (Or.inr (Or.inr (Or.inr (Or.inr (Or.inr (Or.inr (Or.inr (Or.inr (Or.inr (Or.inr (Or.inr (Or.inr (Or.inr (Or.inr (Or.inl ⟨rfl, rfl, rfl⟩)))))))))))))))))⟩
        · refine wpOpIn_step rfl (fun K hK => ?_)
          go_simp
          refine hK _ _ ?_
          exact ⟨hC, Or.inr (Or.inr (Or.inr (Or.inr (Or.inr (Or.inr (Or.inr (Or.inr (Or.inr (Or.inr (Or.inr (Or.inr (Or.inr (Or.inr (Or.inr (Or.inr (Or.inr (Or.inr (Or.inl ⟨rfl, rfl, rfl⟩))))))))))))))))))⟩
      · refine Or.inr ⟨_, [6, 7], rfl, by kernel_rfl, by simp, ?_, ?_, trivial⟩
        all_goals (have hcn := pick_keep hC hc; have hfvn := pick_keep hC hfv; have hsln := pick_keep hC hsl)
        · refine wpOpIn_step rfl (fun K hK => ?_)
          go_simp
          refine hK _ _ ?_
          exact ⟨hC, Or.inr (Or.inr (Or.inr (Or.inr (Or.inr (Or.inr (Or.inr (Or.inr (Or.inr (Or.inr (Or.inr (Or.inr (Or.inr (Or.inr (Or.inr (Or.inr (Or.inr (Or.inr (Or.inr (Or.inl ⟨rfl, rfl, rfl⟩)))))))))))))))))))⟩
        · refine wpOpIn_step rfl (fun K hK => ?_)
          go_simp
          refine hK _ _ ?_
          exact ⟨hC, Or.inr (Or.inr (Or.inr (Or.inr (Or.inr (Or.inr (Or.inr (Or.inr (Or.inr (Or.inr (Or.inr (Or.inr (Or.inr (Or.inr (Or.inr (Or.inr (Or.inr (Or.inr (Or.inr (Or.inr (Or.inl ⟨rfl, rfl, rfl⟩))))))))))))))))))))⟩
      · refine Or.inr ⟨_, [5, 7], rfl, by kernel_rfl, by simp, ?_, ?_, trivial⟩
        all_goals (have hcn := pick_keep hC hc; have hfvn := pick_keep hC hfv; have hsln := pick_keep hC hsl)
        · refine wpOpIn_step rfl (fun K hK => ?_)
          go_simp
          gi_wp2_with (refine ⟨trivial, ?_⟩; gi_at_call 28; refine (CallsIn.inRound l (callsIn_wide.2 (pick1_calls _ (w.heap.size + 1 + 1) A2 c2 l2 _ ?q1 ?q2 ?q3 ?q4))).mono ?_; (case q1 => first | exact x.2.1 | omega); (case q2 => first | exact x.2.2 | exact hin.2); (case q3 => exact hsln); (case q4 => exact Kd.C_below HR2.out (hB.trans (hC.mono hB.size))); rintro e W5 ⟨rfl, hb5⟩; have hC5 := below_step hC hb5)
          all_goals (try refine hK _ _ ?_)
          all_goals exact ⟨hC5, Or.inr (Or.inr (Or.inr (Or.inr (Or.inr (Or.inr (Or.inr (Or.inr (Or.inr (Or.inr (Or.inr (Or.inr (Or.inr (Or.inr (Or.inr (Or.inr (Or.inr (Or.inr (Or.inr (Or.inl ⟨rfl, rfl, rfl⟩)))))))))))))))))))⟩
        · refine wpOpIn_step rfl (fun K hK => ?_)
          go_simp
          refine hK _ _ ?_
          exact ⟨hC, Or.inr (Or.inr (Or.inr (Or.inr (Or.inr (Or.inr (Or.inr (Or.inr (Or.inr (Or.inr (Or.inr (Or.inr (Or.inr (Or.inr (Or.inr (Or.inr (Or.inr (Or.inr (Or.inr (Or.inr (Or.inr (Or.inl ⟨rfl, rfl, rfl⟩)))))))))))))))))))))⟩
      · refine Or.inr ⟨_, [5, 6], rfl, by kernel_rfl, by simp, ?_, ?_, trivial⟩
        all_goals (have hcn := pick_keep hC hc; have hfvn := pick_keep hC hfv; have hsln := pick_keep hC hsl)
        · refine wpOpIn_step rfl (fun K hK => ?_)
          go_simp
          gi_wp2_with (refine ⟨trivial, ?_⟩; gi_at_call 28; refine (CallsIn.inRound l (callsIn_wide.2 (pick1_calls _ (w.heap.size + 1 + 1) A2 c2 l2 _ ?q1 ?q2 ?q3 ?q4))).mono ?_; (case q1 => first | exact x.2.1 | omega); (case q2 => first | exact x.2.2 | exact hin.2); (case q3 => exact hsln); (case q4 => exact Kd.C_below HR2.out (hB.trans (hC.mono hB.size))); rintro e W5 ⟨rfl, hb5⟩; have hC5 := below_step hC hb5)
          all_goals (try refine hK _ _ ?_)
          all_goals exact ⟨hC5, Or.inr (Or.inr (Or.inr (Or.inr (Or.inr (Or.inr (Or.inr (Or.inr (Or.inr (Or.inr (Or.inr (Or.inr (Or.inr (Or.inr (Or.inr (Or.inr (Or.inr (Or.inr (Or.inr (Or.inr (Or.inl ⟨rfl, rfl, rfl⟩))))))))))))))))))))⟩
        · refine wpOpIn_step rfl (fun K hK => ?_)
          go_simp
          refine hK _ _ ?_
          exact ⟨hC, Or.inr (Or.inr (Or.inr (Or.inr (Or.inr (Or.inr (Or.inr (Or.inr (Or.inr (Or.inr (Or.inr (Or.inr (Or.inr (Or.inr (Or.inr (Or.inr (Or.inr (Or.inr (Or.inr (Or.inr (Or.inr (Or.inl ⟨rfl, rfl, rfl⟩)))))))))))))))))))))⟩
      · refine Or.inr ⟨_, [4], rfl, by kernel_rfl, by simp, ?_, trivial⟩
        all_goals (have hcn := pick_keep hC hc; have hfvn := pick_keep hC hfv; have hsln := pick_keep hC hsl)
        · refine wpOpIn_step rfl (fun K hK => ?_)
          go_simp
          refine hK _ _ ?_
          exact ⟨hC, Or.inr (Or.inr (Or.inr (Or.inr (Or.inr (Or.inr (Or.inr (Or.inr (Or.inr (Or.inr (Or.inr (Or.inr (Or.inr (Or.inr (Or.inr (Or.inr (Or.inr (Or.inr (Or.inr (Or.inr (Or.inr (Or.inl ⟨rfl, rfl, rfl⟩)))))))))))))))))))))⟩
      · refine Or.inr ⟨_, [3], rfl, by kernel_rfl, by simp, ?_, trivial⟩
        all_goals (have hcn := pick_keep hC hc; have hfvn := pick_keep hC hfv; have hsln := pick_keep hC hsl)
        · refine wpOpIn_step rfl (fun K hK => ?_)
          go_simp
          refine hK _ _ ?_
          exact ⟨hC, Or.inr (Or.inr (Or.inr (Or.inr (Or.inr (Or.inr (Or.inr (Or.inr (Or.inr (Or.inr (Or.inr (Or.inr (Or.inr (Or.inr (Or.inr (Or.inr (Or.inr (Or.inr (Or.inr (Or.inr (Or.inr (Or.inl ⟨rfl, rfl, rfl⟩)))))))))))))))))))))⟩
      · refine Or.inr ⟨_, [7], rfl, by kernel_rfl, by simp, ?_, trivial⟩
        all_goals (have hcn := pick_keep hC hc; have hfvn := pick_keep hC hfv; have hsln := pick_keep hC hsl)
        · refine wpOpIn_step rfl (fun K hK => ?_)
          go_simp
          refine hK _ _ ?_
          exact ⟨hC, Or.inr (Or.inr (Or.inr (Or.inr (Or.inr (Or.inr (Or.inr (Or.inr (Or.inr (Or.inr (Or.inr (Or.inr (Or.inr (Or.inr (Or.inr (Or.inr (Or.inr (Or.inr (Or.inr (Or.inr (Or.inr (Or.inr (Or.inl ⟨rfl, rfl, rfl⟩))))))))))))))))))))))⟩
      · refine Or.inr ⟨_, [6], rfl, by kernel_rfl, by simp, ?_, trivial⟩
        all_goals (have hcn := pick_keep hC hc; have hfvn := pick_keep hC hfv; have hsln := pick_keep hC hsl)
        · refine wpOpIn_step rfl (fun K hK => ?_)
          go_simp
          refine hK _ _ ?_
          exact ⟨hC, Or.inr (Or.inr (Or.inr (Or.inr (Or.inr (Or.inr (Or.inr (Or.inr (Or.inr (Or.inr (Or.inr (Or.inr (Or.inr (Or.inr (Or.inr (Or.inr (Or.inr (Or.inr (Or.inr (Or.inr (Or.inr (Or.inr (Or.inl ⟨rfl, rfl, rfl⟩))))))))))))))))))))))⟩
      · refine Or.inr ⟨_, [5], rfl, by kernel_rfl, by simp, ?_, trivial⟩
        all_goals (have hcn := pick_keep hC hc; have hfvn := pick_keep hC hfv; have hsln := pick_keep hC hsl)
        · refine wpOpIn_step rfl (fun K hK => ?_)
          go_simp
          gi_wp2_with (refine ⟨trivial, ?_⟩; gi_at_call 28; refine (CallsIn.inRound l (callsIn_wide.2 (pick1_calls _ (w.heap.size + 1 + 1) A2 c2 l2 _ ?q1 ?q2 ?q3 ?q4))).mono ?_; (case q1 => first | exact x.2.1 | omega); (case q2 => first | exact x.2.2 | exact hin.2); (case q3 => exact hsln); (case q4 => exact Kd.C_below HR2.out (hB.trans (hC.mono hB.size))); rintro e W5 ⟨rfl, hb5⟩; have hC5 := below_step hC hb5)
          all_goals (try refine hK _ _ ?_)
          all_goals exact ⟨hC5, Or.inr (Or.inr (Or.inr (Or.inr (Or.inr (Or.inr (Or.inr (Or.inr (Or.inr (Or.inr (Or.inr (Or.inr (Or.inr (Or.inr (Or.inr (Or.inr (Or.inr (Or.inr (Or.inr (Or.inr (Or.inr (Or.inr (Or.inl ⟨rfl, rfl, rfl⟩))))))))))))))))))))))⟩
      · refine Or.inr ⟨_, [8], rfl, by kernel_rfl, by simp, ?_, trivial⟩
        all_goals (have hcn := pick_keep hC hc; have hfvn := pick_keep hC hfv; have hsln := pick_keep hC hsl)
        · refine wpOpIn_step rfl (fun K hK => ?_)
          go_simp
          gi_wp2_with (refine ⟨trivial, ?_⟩; gi_at_call 28; refine (CallsIn.inRound l (callsIn_wide.2 (pick1_calls _ (w.heap.size + 1 + 1) A2 c2 l2 _ ?q1 ?q2 ?q3 ?q4))).mono ?_; (case q1 => first | exact x.2.1 | omega); (case q2 => first | exact x.2.2 | exact hin.2); (case q3 => exact hsln); (case q4 => exact Kd.C_below HR2.out (hB.trans (hC.mono hB.size))); rintro e W5 ⟨rfl, hb5⟩; have hC5 := below_step hC hb5)
          all_goals (try refine hK _ _ ?_)
          all_goals exact ⟨hC5, Or.inr (Or.inr (Or.inr (Or.inr (Or.inr (Or.inr (Or.inr (Or.inr (Or.inr (Or.inr (Or.inr (Or.inr (Or.inr (Or.inr (Or.inr (Or.inr (Or.inr (Or.inr (Or.inr (Or.inr (Or.inr (Or.inr (Or.inr (Or.inl ⟨rfl, rfl, rfl⟩)))))))))))))))))))))))⟩
      · refine Or.inr ⟨_, [9], rfl, by kernel_rfl, by simp, ?_, trivial⟩
        all_goals (have hcn := pick_keep hC hc; have hfvn := pick_keep hC hfv; have hsln := pick_keep hC hsl)
        · refine wpOpIn_step rfl (fun K hK => ?_)
          go_simp
          refine hK _ _ ?_
          exact ⟨hC, Or.inr (Or.inr (Or.inr (Or.inr (Or.inr (Or.inr (Or.inr (Or.inr (Or.inr (Or.inr (Or.inr (Or.inr (Or.inr (Or.inr (Or.inr (Or.inr (Or.inr (Or.inr (Or.inr (Or.inr (Or.inr (Or.inr (Or.inr (Or.inr (Or.inl ⟨rfl, rfl, rfl⟩))))))))))))))))))))))))⟩
      · refine Or.inr ⟨_, [10], rfl, by kernel_rfl, by simp, ?_, trivial⟩
        all_goals (have hcn := pick_keep hC hc; have hfvn := pick_keep hC hfv; have hsln := pick_keep hC hsl)
        · refine wpOpIn_step rfl (fun K hK => ?_)
          go_simp
          refine hK _ _ ?_
          exact ⟨hC, Or.inr (Or.inr (Or.inr (Or.inr (Or.inr (Or.inr (Or.inr (Or.inr (Or.inr (Or.inr (Or.inr (Or.inr (Or.inr (Or.inr (Or.inr (Or.inr (Or.inr (Or.inr (Or.inr (Or.inr (Or.inr (Or.inr (Or.inr (Or.inr (Or.inr (⟨rfl, rfl, rfl⟩)))))))))))))))))))))))))⟩
      · refine Or.inl ⟨by kernel_rfl, ?_⟩
        have hcn := pick_keep hC hc
        have hkn := pick_keepF hC hc hf
        have hfvn := pick_keep hC hfv
        have hsln := pick_keep hC hsl
        cases cb
        · gi_wp2
          have he : pickFold l2 (pre ++ [x]) = pf := by rw [pickFold_snoc, hpf]; unfold pickStep; rw [if_neg z, if_neg (of_decide_eq_false hcb)]
          show KeepsFrom _ _ _ ∧ keepsP _ _ _ _ _ ∧ ((World.cell? _ _ = some (Value.int .i64 (pickFold l2 (pre ++ [x]))) ∧ _) ∧ _)
          rw [he]
          exact ⟨pick_kf hC, ⟨hC.mono hB.size, hC.block _ (by omega), hC.block _ (by omega)⟩, ⟨hcn, hkn, hfvn, hsln, Nat.le_trans hsz hC.size⟩, hB.trans (hC.mono hB.size)⟩
        · gi_wp2
          have he : pickFold l2 (pre ++ [x]) = x.1 := by rw [pickFold_snoc, hpf]; unfold pickStep; rw [if_neg z, if_pos (of_decide_eq_true hcb)]
          show KeepsFrom _ _ _ ∧ keepsP _ _ _ _ _ ∧ ((World.cell? _ _ = some (Value.int .i64 (pickFold l2 (pre ++ [x]))) ∧ _) ∧ _)
          rw [he]
          exact pick_end _ _ _ hC hB hsz hcn hkn hfvn hsln
def promote_Pick.f (a0_0 : Int) (a0_1 : Int) (a0_2 : Int) (a0_3 : Int) (a0_4 : Int) (a0_5 : Int) (a0_6 : Int) (a0_7 : Int) (a0_8 : Int) (a0_9 : Int) (a0_10 : Int) (a0_11 : Int) (a1_0 : Int) (a1_1 : Int) (l1_2 : List (S72)) (a1_3 : Int) (a1_4 : Int) (a1_5 : Int) (a1_6 : Int) (l1_7 : List (S74)) (a1_8 : Int) (a1_9 : Int) (a1_10 : Bool) (a1_11 : Int) (a1_12 : Int) (a1_13 : Bool) (a1_14 : Int) (l1_15 : List Int) (a1_16 : Int) (a1_17 : Int) (l1_18 : List (S64)) (l2 : List (S37)) : Option (Int × Bool) := some (pickF a0_7 a0_8 a0_9 l1_18 l2, decide (0 < pickF a0_7 a0_8 a0_9 l1_18 l2))
theorem promote_Pick.calls (a0_0 : Int) (a0_1 : Int) (a0_2 : Int) (a0_3 : Int) (a0_4 : Int) (a0_5 : Int) (a0_6 : Int) (a0_7 : Int) (a0_8 : Int) (a0_9 : Int) (a0_10 : Int) (a0_11 : Int) (a1_0 : Int) (a1_1 : Int) (A1_2 : Option Addr) (c1_2 : Nat) (l1_2 : List (S72)) (a1_3 : Int) (a1_4 : Int) (a1_5 : Int) (a1_6 : Int) (A1_7 : Option Addr) (c1_7 : Nat) (l1_7 : List (S74)) (a1_8 : Int) (a1_9 : Int) (a1_10 : Bool) (a1_11 : Int) (a1_12 : Int) (a1_13 : Bool) (a1_14 : Int) (A1_15 : Option Addr) (c1_15 : Nat) (l1_15 : List Int) (a1_16 : Int) (a1_17 : Int) (A1_18 : Option Addr) (c1_18 : Nat) (l1_18 : List (S64)) (A2 : Option Addr) (c2 : Nat) (l2 : List (S37)) (r1 : Int) (r2 : Bool) (w : World) (hr1_2 : Kd.C k72 w A1_2 l1_2.length l1_2) (hc1_2 : l1_2.length ≤ c1_2) (hr1_7 : Kd.C k74 w A1_7 l1_7.length l1_7) (hc1_7 : l1_7.length ≤ c1_7) (hr1_15 : Kd.C (Kd.int .i64) w A1_15 l1_15.length l1_15) (hc1_15 : l1_15.length ≤ c1_15) (hr1_18 : Kd.C k64 w A1_18 l1_18.length l1_18) (hc1_18 : l1_18.length ≤ c1_18) (hr2 : Kd.C k37 w A2 l2.length l2) (hc2 : l2.length ≤ c2) (h : promote_Pick.f a0_0 a0_1 a0_2 a0_3 a0_4 a0_5 a0_6 a0_7 a0_8 a0_9 a0_10 a0_11 a1_0 a1_1 l1_2 a1_3 a1_4 a1_5 a1_6 l1_7 a1_8 a1_9 a1_10 a1_11 a1_12 a1_13 a1_14 l1_15 a1_16 a1_17 l1_18 l2 = some (r1, r2)) :
    Calls Try.prog 12 #[.agg #[.int .i64 a0_0, .int .i64 a0_1, .int .i64 a0_2, .int .i64 a0_3, .int .i64 a0_4, .int .i64 a0_5, .int .i64 a0_6, .int .i64 a0_7, .int .i64 a0_8, .int .i64 a0_9, .int .i64 a0_10, .int .i64 a0_11], .agg #[.int .i64 a1_0, .int .i64 a1_1, .slice A1_2 l1_2.length c1_2, .int .i64 a1_3, .int .i64 a1_4, .int .i64 a1_5, .int .i64 a1_6, .slice A1_7 l1_7.length c1_7, .int .i64 a1_8, .int .i64 a1_9, .bool a1_10, .int .i64 a1_11, .int .i64 a1_12, .bool a1_13, .int .i64 a1_14, .slice A1_15 l1_15.length c1_15, .int .i64 a1_16, .int .i64 a1_17, .slice A1_18 l1_18.length c1_18], .slice A2 l2.length c2] w fun e w' => e = .returned (.tuple #[.int .i64 r1, .bool r2]) ∧ Below w.heap.size w w' := by
  obtain ⟨rfl, rfl⟩ : pickF a0_7 a0_8 a0_9 l1_18 l2 = r1 ∧ decide (0 < pickF a0_7 a0_8 a0_9 l1_18 l2) = r2 := by
    have h1 := Option.some.inj h
    exact ⟨congrArg Prod.fst h1, congrArg Prod.snd h1⟩
  exact pick_calls a0_0 a0_1 a0_2 a0_3 a0_4 a0_5 a0_6 a0_7 a0_8 a0_9 a0_10 a0_11 a1_0 a1_1 A1_2 c1_2 l1_2 a1_3 a1_4 a1_5 a1_6 A1_7 c1_7 l1_7 a1_8 a1_9 a1_10 a1_11 a1_12 a1_13 a1_14 A1_15 c1_15 l1_15 a1_16 a1_17 A1_18 c1_18 l1_18 A2 c2 l2 w hr1_18 hc1_18 hr2 hc2
end
theorem k72_M_of_K {w : World} {base : Nat} {ok : Nat → Prop} {x : S72} {cs : List Value} (h : k72.K w x cs) : k72.M w base ok x cs := by
  obtain rfl := k72_open h
  exact k72_mkM _ _ _ _
def api_Band.f (l0 : List S72) : Option (List S72) := if l0.length < 8796093022208 then some l0 else none
theorem api_Band.calls (A0 : Option Addr) (c0 : Nat) (l0 : List S72) (r : List S72) (w : World) (hr0 : Kd.C k72 w A0 l0.length l0) (hc0 : l0.length ≤ c0) (h : api_Band.f l0 = some r) :
    Calls Try.prog 43 #[.slice A0 l0.length c0] w fun e w' => ∃ v0_ : Value, e = .returned v0_ ∧ Kd.R k72 72 w' w.heap.size (fun _ => True) v0_ r ∧ Below w.heap.size w w' := by
  unfold api_Band.f at h
  by_cases hl : l0.length < 8796093022208
  · rw [if_pos hl] at h
    obtain rfl := Option.some.inj h
    clear h
    have HR := Aside0.mk hr0
    have HB := Aside0.mk (Below.refl w.heap.size w)
    cases A0 with
    | none =>
      have h0 : l0 = [] := by
        cases l0 with
        | nil => rfl
        | cons x l => obtain ⟨ad, h, _⟩ := hr0.2.2 (by simp); cases h
      subst h0
      clear hr0
      have heq := fun W => Lib.run_eql_slice_nil (P := Try.prog) W 24 72 none 0 c0 0 0 Try.underlying24
      go_enter Try.func43, Try.ntmps43
      go_wp2
      go_ret
      exact ⟨_, rfl, Kd.R_nil _ _ _ _ _, HB.out⟩
    | some ad =>
      clear hr0
      have heq := fun W => Lib.run_eql_slice_nil (P := Try.prog) W 24 72 (some ad) l0.length c0 0 0 Try.underlying24
      go_enter Try.func43, Try.ntmps43
      go_wp2_with (first | ((with_reducible refine gate_dst (N := 5) rfl ?_); refine Kd.R_lit k72 _ 72 ?hg (N := 5) ?hd (xs := ([] : List S72)) (inner := []) (ok := fun _ => True) (okp := fun _ => True) ?hr ?hp (fun _ hk => hk) trivial (Below.refl _ _) (Nat.le_refl _) (by simp) ?_; (case hd => rfl); (case hg => rfl); (case hr => first | (go_simp; done) | (go_simp; rfl)); (case hp => exact (Reps.none _ _)); intro v135 w12 ho13 hb hg_ hnew_; clear hg_ hnew_; have HO := Aside0.mk ho13; have HB1 := Aside0.mk hb; clear HB ho13 hb) | ((with_reducible refine gate_builtin (b := .append) (xs := #[.tmp 5, .tmp 6]) rfl ?_); at_builtin; refine Kd.R_append_rows k72 (w0 := w) w.heap.size rfl (.tmp 5) (.tmp 6) 24 72 (.agg #[.int .i64 0, .int .i64 0]) 16 rfl Try.underlying24 info72 rfl (by decide) (by omega) v135 [] l0 _ _ _ (fun _ => True) (fun _ => False) rfl rfl HO.out (Kd.C_below HR.out HB1.out) (fun _ _ h => k72_M_of_K h) (fun _ h => h.elim) (fun _ _ => trivial) HB1.out HB1.out.size (by simp; omega) ?_; intro v138 w14 ho hb hg hat; have HO2 := Aside0.mk ho; have HB2 := Aside0.mk hb; clear HB1 HO ho hb hg hat))
      go_ret
      exact ⟨_, rfl, HO2.out, HB2.out⟩
  · rw [if_neg hl] at h; cases h
theorem k74_M_of_K {w : World} {base : Nat} {ok : Nat → Prop} {x : S74} {cs : List Value} (h : k74.K w x cs) : k74.M w base ok x cs := by
  obtain rfl := k74_open h
  exact k74_mkM _ _ _ _
def api_Slot.f (l0 : List S74) : Option (List S74) := if l0.length < 8796093022208 then some l0 else none
theorem api_Slot.calls (A0 : Option Addr) (c0 : Nat) (l0 : List S74) (r : List S74) (w : World) (hr0 : Kd.C k74 w A0 l0.length l0) (hc0 : l0.length ≤ c0) (h : api_Slot.f l0 = some r) :
    Calls Try.prog 44 #[.slice A0 l0.length c0] w fun e w' => ∃ v0_ : Value, e = .returned v0_ ∧ Kd.R k74 74 w' w.heap.size (fun _ => True) v0_ r ∧ Below w.heap.size w w' := by
  unfold api_Slot.f at h
  by_cases hl : l0.length < 8796093022208
  · rw [if_pos hl] at h
    obtain rfl := Option.some.inj h
    clear h
    have HR := Aside0.mk hr0
    have HB := Aside0.mk (Below.refl w.heap.size w)
    cases A0 with
    | none =>
      have h0 : l0 = [] := by
        cases l0 with
        | nil => rfl
        | cons x l => obtain ⟨ad, h, _⟩ := hr0.2.2 (by simp); cases h
      subst h0
      clear hr0
      have heq := fun W => Lib.run_eql_slice_nil (P := Try.prog) W 25 74 none 0 c0 0 0 Try.underlying25
      go_enter Try.func44, Try.ntmps44
      go_wp2
      go_ret
      exact ⟨_, rfl, Kd.R_nil _ _ _ _ _, HB.out⟩
    | some ad =>
      clear hr0
      have heq := fun W => Lib.run_eql_slice_nil (P := Try.prog) W 25 74 (some ad) l0.length c0 0 0 Try.underlying25
      go_enter Try.func44, Try.ntmps44
      go_wp2_with (first | ((with_reducible refine gate_dst (N := 5) rfl ?_); refine Kd.R_lit k74 _ 74 ?hg (N := 5) ?hd (xs := ([] : List S74)) (inner := []) (ok := fun _ => True) (okp := fun _ => True) ?hr ?hp (fun _ hk => hk) trivial (Below.refl _ _) (Nat.le_refl _) (by simp) ?_; (case hd => rfl); (case hg => rfl); (case hr => first | (go_simp; done) | (go_simp; rfl)); (case hp => exact (Reps.none _ _)); intro v135 w12 ho13 hb hg_ hnew_; clear hg_ hnew_; have HO := Aside0.mk ho13; have HB1 := Aside0.mk hb; clear HB ho13 hb) | ((with_reducible refine gate_builtin (b := .append) (xs := #[.tmp 5, .tmp 6]) rfl ?_); at_builtin; refine Kd.R_append_rows k74 (w0 := w) w.heap.size rfl (.tmp 5) (.tmp 6) 25 74 (.agg #[.int .i64 0, .int .i64 0]) 16 rfl Try.underlying25 info74 rfl (by decide) (by omega) v135 [] l0 _ _ _ (fun _ => True) (fun _ => False) rfl rfl HO.out (Kd.C_below HR.out HB1.out) (fun _ _ h => k74_M_of_K h) (fun _ h => h.elim) (fun _ _ => trivial) HB1.out HB1.out.size (by simp; omega) ?_; intro v138 w14 ho hb hg hat; have HO2 := Aside0.mk ho; have HB2 := Aside0.mk hb; clear HB1 HO ho hb hg hat))
      go_ret
      exact ⟨_, rfl, HO2.out, HB2.out⟩
  · rw [if_neg hl] at h; cases h
end Go.Proofs.Ytlenanfkphglaaa.Print
