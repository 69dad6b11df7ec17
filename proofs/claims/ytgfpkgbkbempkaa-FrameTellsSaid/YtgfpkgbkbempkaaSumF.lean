/- What the program's sum of bytes, over its table, and the reference's, bit by bit, come to: both walked through once. -/
import Derived.Test.YtgfpkgbkbempkaaProg
import Derived.Test.YtgfpkgbkbempkaaSumM
import Derived.Test.YtgfpkgbkbempkaaWWords
import Derived.WalkKit
import Derived.Lib.SlBytesConst
import Derived.Deep.WholeRow
import Derived.Deep.LoopGhost
import Derived.Laws.ResultCell
import Derived.Laws.CopyOwn
import Derived.Lib.Hide
set_option linter.unusedVariables false
namespace Go.Proofs.Ytgfpkgbkbempkaa.W
open Go.RowKit M

/-- The table's cells behind k rounds. -/
def cellsAt (k : Nat) : Array Value := Array.ofFn (n := 256) fun j => .int .u32 (if j.val < k then N (tab (B j.val)) else 0)
theorem cellsAt_size (k : Nat) : (cellsAt k).size = 256 := by simp [cellsAt]
theorem cellsAt_zero : cellsAt 0 = Array.replicate 256 (.int .u32 0) := by
  apply Array.ext
  · simp [cellsAt]
  · intro i h1 h2; simp [cellsAt]
theorem cellsAt_set (k : Nat) : (cellsAt k).setIfInBounds k (.int .u32 (N (tab (B k)))) = cellsAt (k + 1) := by
  apply Array.ext
  · simp [cellsAt]
  · intro i h1 h2
    rw [Array.getElem_setIfInBounds (by simpa using h1)]
    by_cases h : k = i
    · subst h; simp [cellsAt]
    · have h0 : i < 256 := by simpa [cellsAt] using h2
      rw [if_neg h]
      simp only [cellsAt, Array.getElem_ofFn]
      by_cases h3 : i < k
      · rw [if_pos h3, if_pos (by omega)]
      · rw [if_neg h3, if_neg (by omega)]
theorem cellsAt_one (k : Nat) : (cellsAt k).all (·.oneCell') = true := by
  rw [Array.all_eq_true]
  intro i h
  simp [cellsAt, Value.oneCell']
theorem step_num (r : BitVec 32) : bits .xor .u32 (N r / 2) (bits .and .u32 3988292384 (-(N (r &&& 1#32)) % 4294967296)) = N (stp r) := by
  rw [N_neg, N_shr1, ← N_poly, bits_and, bits_xor]
  rfl
set_option maxRecDepth 100000 in
theorem info33 : (Try.prog.info? 58).map (fun i => (i.zero, i.size)) = some (some (.agg (Array.replicate 256 (.int .u32 0))), 256) := by kernel_rfl
set_option maxRecDepth 100000 in
theorem table_calls (w : World) : Calls Try.prog 31 #[] w fun e w' => e = .returned (.agg (cellsAt 256)) ∧ Below w.heap.size w w' := by
  obtain ⟨hz, hsize⟩ := zero_of_info info33
  rw [← cellsAt_zero] at hz
  have hsz := cellsAt_size
  go_enter Try.func31, Try.ntmps31
  go_wp2
  go_loopg [4] 256 (fun g s4 wx => ∃ i : Nat, i + g = 256 ∧ s4 = .int .i64 i ∧ wx = (w.alloc (.cells (cellsAt 0) 58)).alloc (.cells (cellsAt i) 58))
  case atStart => exact ⟨0, by omega, rfl, rfl⟩
  case round =>
    obtain ⟨i, hig, rfl, rfl⟩ := hrel
    cases gk with
    | zero =>
      obtain rfl : i = 256 := by omega
      have hg1 : ((w.alloc (.cells (cellsAt 0) 58)).alloc (.cells (cellsAt 256) 58)).heap[w.heap.size + 1]? = some (.cells (cellsAt 256) 58 (0, 0)) := by
        rw [← World.size_alloc w (.cells (cellsAt 0) 58)]; exact heap_alloc_last _ _
      have hg0 : ((w.alloc (.cells (cellsAt 0) 58)).alloc (.cells (cellsAt 256) 58)).heap[w.heap.size]? = some (.cells (cellsAt 0) 58 (0, 0)) := by
        show ((w.heap.push _).push _)[w.heap.size]? = _
        simp [Array.getElem?_push]
      have hg2 : (((w.alloc (.cells (cellsAt 0) 58)).alloc (.cells (cellsAt 256) 58)).setRow w.heap.size (cellsAt 256)).heap[w.heap.size]? = some (.cells (cellsAt 256) 58 (0, 0)) := setRow_heap _ _ _ _ 58 _ hg0
      have hbel : Below w.heap.size w (((w.alloc (.cells (cellsAt 0) 58)).alloc (.cells (cellsAt 256) 58)).setRow w.heap.size (cellsAt 256)) := below_setRow (((Below.refl _ w).alloc (Nat.le_refl _) _).alloc (by simp) _) (Nat.le_refl _) _
      go_wp2_with (first | (refine wpList_load_row rfl 58 (.tmp 1) rfl (w.heap.size + 1) rfl 58 _ (0, 0) _ hg1 Try.underlying58 rfl (by rw [cellsAt_size]; exact hsize) ?_) | (refine wpList_store_row rfl 58 (.tmp 0) (.tmp 23) rfl w.heap.size (cellsAt 256) rfl rfl 58 (cellsAt 0) hg0 (by rw [cellsAt_size]; exact hsize) (by rw [cellsAt_size, cellsAt_size]) (cellsAt_one _) ?_))
      refine bodyPost_ret (v := .agg (cellsAt 256)) ?_ rfl ⟨rfl, ?_⟩
      · exact results_cell_row rfl _ _ w.heap.size 58 (cellsAt 256) (0, 0) _ rfl hg2 Try.underlying58 rfl (by rw [cellsAt_size]; exact hsize)
      · exact hbel
    | succ g =>
      have hi : i < 256 := by omega
      have HB := Lib.hid (show Value.int .u32 (i : Int) = .int .u32 (N (stps 0 (B i))) by
        show _ = Value.int .u32 (N (BitVec.ofInt 32 i)); rw [N_ofInt _ (by omega) (by omega)])
      go_wp2
      go_loopg [3, 9] 8 (fun g s3 s9 wy => ∃ j : Nat, j + g = 8 ∧ s9 = .int .i64 j ∧ s3 = .int .u32 (N (stps j (B i))) ∧ wy = (w.alloc (.cells (cellsAt 0) 58)).alloc (.cells (cellsAt i) 58))
      case atStart => exact ⟨0, by omega, rfl, HB.out, rfl⟩
      case round =>
        obtain ⟨j, hj, rfl, rfl, rfl⟩ := hrel
        have b0 := N_nonneg (stps j (B i))
        have b1 := N_lt (stps j (B i))
        generalize hr : stps j (B i) = r at *
        have Hr := Lib.hid hr
        clear hr
        have e1 : bits .and .u32 (N r) 1 = N (r &&& 1#32) := by rw [← N_one]; exact bits_and _ _
        cases gk with
        | zero =>
          obtain rfl : j = 8 := by omega
          go_wp2
          go_roundg g
          case measure => omega
          case rel => exact ⟨i + 1, by omega, by go_num, by rw [← Hr.out]; exact congrArg (fun x => World.alloc _ (.cells x 58)) (cellsAt_set i)⟩
        | succ g' =>
          have hj8 : j < 8 := by omega
          go_wp2
          go_roundg g'
          case measure => omega
          case rel => exact ⟨j + 1, by omega, by go_num, by rw [stps_snoc, Hr.out, step_num], rfl⟩

open Go.Proofs.YtgfpkgbkbempkaaW.PrintWords
theorem cellsAt_get (i : Nat) (h : i < 256) : (cellsAt 256)[i]? = some (.int .u32 (N (tab (B i)))) := by
  rw [Array.getElem?_eq_getElem (by rw [cellsAt_size]; exact h)]
  simp [cellsAt]
theorem ofB (x : Int) : M.B (N (M.B x)) = M.B x := ofInt_N _
theorem take_rd (l : List Int) (k : Nat) (h : k < l.length) : l.take (k + 1) = l.take k ++ [rd l k] := by
  rw [List.take_succ_eq_append_getElem h]
  unfold rd
  rw [Int.toNat_natCast, List.getD_eq_getElem?_getD, List.getElem?_eq_getElem h]
  rfl
def InByte (l : List Int) : Prop := ∀ x ∈ l, 0 ≤ x ∧ x ≤ 255
set_option maxRecDepth 100000 in
theorem more_calls (a0 : Int) (A : Option Addr) (l : List Int) (c : Nat) (w : World) (hr : Kd.C (Kd.int .u8) w A l.length l) (hc : l.length ≤ c) (h0 : 0 ≤ a0) (h1 : a0 ≤ 4294967295) (hb : InByte l) :
    Calls Try.prog 28 #[.int .u32 a0, .slice A l.length c] w fun e w' => e = .returned (.int .u32 (more a0 l)) ∧ Below w.heap.size w w' := by
  obtain ⟨hz, hsize⟩ := zero_of_info info33
  rw [← cellsAt_zero] at hz
  have HR := Aside0.mk hr
  have HBY := Aside0.mk hb
  clear hr hb
  have hl := HR.out.2.1
  have S0 := Lib.hid (show bits .xor .u32 IntKind.u32.max a0 = N (~~~(BitVec.ofInt 32 a0)) by rw [← bits_not, N_ofInt a0 h0 h1])
  have hsg : IntKind.u32.signed = false := rfl
  go_enter Try.func28, Try.ntmps28
  go_wp2_with fail
  refine (table_calls _).mono ?_
  rintro e w1 ⟨rfl, hb1⟩
  have hst := run_storeCells_new (P := Try.prog) w1 58 (cellsAt 0) (cellsAt 256) (by rw [cellsAt_size]; exact hsize) (by rw [cellsAt_size, cellsAt_size]) (cellsAt_one _)
  go_wp2_with fail
  have hbW : Below w.heap.size w (w1.alloc (.cells (cellsAt 256) 58)) := below_alloc hb1 _
  have hT : ∀ i, i < 256 → (w1.alloc (.cells (cellsAt 256) 58)).cell? ⟨w1.heap.size, i, none⟩ = some (.int .u32 (N (tab (M.B (i : Int))))) := fun i hi => by
    rw [cell_of_row _ _ i (cellsAt 256) 58 (0, 0) (heap_alloc_last w1 _), cellsAt_get i hi]
  have hRW := Kd.C_below HR.out hbW
  generalize w1.alloc (.cells (cellsAt 256) 58) = W at *
  generalize w1.heap.size = b at *
  have HT := Aside0.mk hT
  have HRW := Aside0.mk hRW
  have HB := Aside0.mk hbW
  clear hT hRW hbW hst hb1
  generalize hq : ~~~(BitVec.ofInt 32 a0) = q at *
  have Hq := Lib.hid hq
  clear hq
  have R0 := Lib.hid (show Value.int .u32 (bits .xor .u32 IntKind.u32.max a0) = .int .u32 (N (reg q (l.take 0))) by rw [S0.out]; rfl)
  go_loop [6, 14] (fun r i => ∃ k : Nat, k ≤ l.length ∧ i = .int .i64 k ∧ r = .int .u32 (N (reg q (l.take k)))) (fun _ i => l.length - (intOf i).toNat)
  case atStart => exact ⟨0, Nat.zero_le _, rfl, R0.out⟩
  case round =>
    obtain ⟨k, hk, rfl, rfl⟩ := hrel
    have b0 := N_nonneg (reg q (l.take k))
    have b1 := N_lt (reg q (l.take k))
    by_cases hlt : k < l.length
    · obtain ⟨ad, rfl, hcell⟩ := Kd.at_int HRW.out (k : Int) (by omega) (by omega)
      rw [Int.toNat_natCast] at hcell
      have hxr : 0 ≤ rd l k ∧ rd l k ≤ 255 := by
        have := HBY.out (l[k]) (List.getElem_mem _)
        unfold rd
        rw [Int.toNat_natCast, List.getD_eq_getElem?_getD, List.getElem?_eq_getElem hlt]
        exact this
      have htk := take_rd l k hlt
      generalize rd l k = x at *
      obtain ⟨hx0, hx1⟩ := hxr
      generalize hr : reg q (l.take k) = r at *
      have Hr := Lib.hid hr
      clear hr
      have hp := place r x hx0 hx1
      have hlw := low_lt (r ^^^ M.B x)
      have hcT := HT.out _ hlw
      rw [B_low] at hcT
      have hu := Lib.hid (upd_table r x hx0 hx1)
      have Htk := Lib.hid htk
      clear htk
      generalize (low (r ^^^ M.B x)).toNat = j at *
      go_wp2
      go_round
      case rel => exact ⟨k + 1, by omega, by go_num, by rw [N_shr8, bits_xor, hu.out, Htk.out, reg_snoc, Hr.out]⟩
      case measure => simp [intOf]; omega
    · go_wp2
      go_ret
      obtain rfl : k = l.length := by omega
      refine ⟨?_, HB.out⟩
      show Ending.returned (.int .u32 _) = _
      unfold more
      rw [Hq.out, bits_not, List.take_length]

set_option maxRecDepth 100000 in
theorem refmore_calls (a0 : Int) (A : Option Addr) (l : List Int) (c : Nat) (w : World) (hr : Kd.C (Kd.int .u8) w A l.length l) (hc : l.length ≤ c) (h0 : 0 ≤ a0) (h1 : a0 ≤ 4294967295) (hb : InByte l) :
    Calls Try.prog 29 #[.int .u32 a0, .slice A l.length c] w fun e w' => e = .returned (.int .u32 (more a0 l)) ∧ Drawn0 w w' := by
  have HRW := Aside0.mk hr
  have HBY := Aside0.mk hb
  clear hr hb
  have hl := HRW.out.2.1
  have S0 := Lib.hid (show bits .xor .u32 IntKind.u32.max a0 = N (~~~(BitVec.ofInt 32 a0)) by rw [← bits_not, N_ofInt a0 h0 h1])
  have hsg : IntKind.u32.signed = false := rfl
  generalize hq : ~~~(BitVec.ofInt 32 a0) = q at *
  have Hq := Lib.hid hq
  clear hq
  have R0 := Lib.hid (show Value.int .u32 (bits .xor .u32 IntKind.u32.max a0) = .int .u32 (N (reg q (l.take 0))) by rw [S0.out]; rfl)
  go_enter Try.func29, Try.ntmps29
  go_wp2
  go_loopg [5, 6] l.length (fun g r i wx => ∃ k : Nat, k + g = l.length ∧ i = .int .i64 k ∧ r = .int .u32 (N (reg q (l.take k))) ∧ w = wx)
  case atStart => exact ⟨0, by omega, rfl, R0.out, rfl⟩
  case round =>
    obtain ⟨k, hk, rfl, rfl, rfl⟩ := hrel
    have b0 := N_nonneg (reg q (l.take k))
    have b1 := N_lt (reg q (l.take k))
    cases gk with
    | zero =>
      obtain rfl : k = l.length := by omega
      have e2 : bits .xor .u32 IntKind.u32.max (N (reg q l)) = more a0 l := by rw [bits_not]; unfold more; rw [Hq.out]
      have e3 : reg q (l.take l.length) = reg q l := by rw [List.take_length]
      rw [e3] at b0 b1
      have HE := Lib.hid e2
      clear e2 e3
      go_wp2
      go_ret
      refine ⟨?_, Drawn0.refl _⟩
      rw [← HE.out]
      rw [bits_not]
      rfl
    | succ g =>
      have hlt : k < l.length := by omega
      obtain ⟨ad, rfl, hcell⟩ := Kd.at_int HRW.out (k : Int) (by omega) (by omega)
      rw [Int.toNat_natCast] at hcell
      have hxr : 0 ≤ rd l k ∧ rd l k ≤ 255 := by
        have := HBY.out (l[k]) (List.getElem_mem _)
        unfold rd
        rw [Int.toNat_natCast, List.getD_eq_getElem?_getD, List.getElem?_eq_getElem hlt]
        exact this
      have htk := take_rd l k hlt
      generalize rd l k = x at *
      obtain ⟨hx0, hx1⟩ := hxr
      generalize hr : reg q (l.take k) = r at *
      have Hr := Lib.hid hr
      clear hr
      have Htk := Lib.hid htk
      clear htk
      have HS := Lib.hid (show Value.int .u32 (bits .xor .u32 (N r) x) = .int .u32 (N (stps 0 (r ^^^ M.B x))) by
        rw [show x = N (M.B x) from (N_ofInt x hx0 (by omega)).symm, bits_xor, ofB]; rfl)
      go_wp2
      go_loopg [5, 7] 8 (fun g s5 s7 wy => ∃ j : Nat, j + g = 8 ∧ s7 = .int .i64 j ∧ s5 = .int .u32 (N (stps j (r ^^^ M.B x))) ∧ w = wy)
      case atStart => exact ⟨0, by omega, rfl, HS.out, rfl⟩
      case round =>
        obtain ⟨j, hj, rfl, rfl, rfl⟩ := hrel
        have d0 := N_nonneg (stps j (r ^^^ M.B x))
        have d1 := N_lt (stps j (r ^^^ M.B x))
        generalize hs : stps j (r ^^^ M.B x) = s at *
        have Hs := Lib.hid hs
        clear hs
        cases gk with
        | zero =>
          obtain rfl : j = 8 := by omega
          go_wp2
          go_roundg g
          case measure => omega
          case rel => exact ⟨k + 1, by omega, by go_num, by rw [Htk.out, reg_snoc, Hr.out, ← Hs.out]; rfl, rfl⟩
        | succ g' =>
          have hm := N_mod2 s
          have hst := stp_if s
          have hj8 : j < 8 := by omega
          cases hb : s.getLsbD 0
          · rw [hb] at hm hst
            simp only [Bool.false_eq_true, if_false] at hm hst
            have hm2 : (N s % (2 : Int) == 1) = false := by rw [hm]; rfl
            have Hst := Lib.hid hst
            clear hst hm hb
            go_wp2
            go_roundg g'
            case measure => omega
            case rel => exact ⟨j + 1, by omega, by go_num, by rw [stps_snoc, Hs.out, Hst.out, N_shr1], rfl⟩
          · rw [hb] at hm hst
            simp only [if_true] at hm hst
            have hm2 : (N s % (2 : Int) == 1) = true := by rw [hm]; rfl
            have Hst := Lib.hid hst
            clear hst hm hb
            go_wp2
            go_roundg g'
            case measure => omega
            case rel => exact ⟨j + 1, by omega, by go_num, by rw [stps_snoc, Hs.out, Hst.out, N_shr1, ← N_poly, bits_xor], rfl⟩

/-- May these be summed: a sum, and bytes. -/
def okB (a : Int) (l : List Int) : Bool := decide (0 ≤ a ∧ a ≤ 4294967295) && l.all fun x => decide (0 ≤ x ∧ x ≤ 255)
theorem okB_iff {a : Int} {l : List Int} : okB a l = true ↔ (0 ≤ a ∧ a ≤ 4294967295) ∧ InByte l := by
  unfold okB InByte
  rw [Bool.and_eq_true, decide_eq_true_iff, List.all_eq_true]
  simp only [decide_eq_true_iff]
/-- The sum, where there is one. -/
def sumF (a : Int) (l : List Int) : Option Int := if okB a l = true then some (more a l) else none
theorem sumF_some {a : Int} {l : List Int} {r : Int} (h : sumF a l = some r) : (0 ≤ a ∧ a ≤ 4294967295) ∧ InByte l ∧ r = more a l := by
  unfold sumF at h
  by_cases ho : okB a l = true
  · rw [if_pos ho] at h
    obtain ⟨h1, h2⟩ := okB_iff.1 ho
    exact ⟨h1, h2, (Option.some.inj h).symm⟩
  · rw [if_neg ho] at h
    cases h
theorem sumF_of {a : Int} {l : List Int} (h : 0 ≤ a ∧ a ≤ 4294967295) (hl : InByte l) : sumF a l = some (more a l) := by
  unfold sumF
  rw [if_pos (okB_iff.2 ⟨h, hl⟩)]
theorem sumF_calls (a0 : Int) (A1 : Option Addr) (c1 : Nat) (l1 : List Int) (r : Int) (w : World) (hr1 : Kd.C (Kd.int .u8) w A1 l1.length l1) (hc1 : l1.length ≤ c1) (h : sumF a0 l1 = some r) :
    Calls Try.prog 28 #[.int .u32 a0, .slice A1 l1.length c1] w fun e w' => e = .returned (.int .u32 r) ∧ Below w.heap.size w w' := by
  obtain ⟨⟨h0, h1⟩, hb, rfl⟩ := sumF_some h
  exact more_calls a0 A1 l1 c1 w hr1 hc1 h0 h1 hb
theorem sumF_calls_ref (a0 : Int) (A1 : Option Addr) (c1 : Nat) (l1 : List Int) (r : Int) (w : World) (hr1 : Kd.C (Kd.int .u8) w A1 l1.length l1) (hc1 : l1.length ≤ c1) (h : sumF a0 l1 = some r) :
    Calls Try.prog 29 #[.int .u32 a0, .slice A1 l1.length c1] w fun e w' => e = .returned (.int .u32 r) ∧ Drawn0 w w' := by
  obtain ⟨⟨h0, h1⟩, hb, rfl⟩ := sumF_some h
  exact refmore_calls a0 A1 l1 c1 w hr1 hc1 h0 h1 hb
theorem of_calls (A0 : Option Addr) (c0 : Nat) (l0 : List Int) (r : Int) (w : World) (hr0 : Kd.C (Kd.int .u8) w A0 l0.length l0) (hc0 : l0.length ≤ c0) (h : sumF 0 l0 = some r) :
    Calls Try.prog 20 #[.slice A0 l0.length c0] w fun e w' => e = .returned (.int .u32 r) ∧ Below w.heap.size w w' := by
  have HR := Aside0.mk hr0
  have H := Aside0.mk h
  clear hr0 h
  go_enter Try.func20, Try.ntmps20
  go_wp2_with fail
  refine (sumF_calls 0 A0 c0 l0 r _ HR.out hc0 H.out).mono ?_
  rintro e w1 ⟨rfl, hb1⟩
  have HB := Aside0.mk hb1
  clear hb1
  go_wp2_with fail
  go_ret
  exact ⟨rfl, HB.out⟩
/-- A literal of bytes reads as it stands, whatever its mark. -/
theorem reads_lit (w : World) (bs : List Int) (fr : Nat × Nat) (h : bs.length ≤ 1000) : Kd.C (Kd.int .u8) (w.alloc (.cells (nums .u8 bs).toArray 5 fr)) (some ⟨w.heap.size, 0, none⟩) bs.length bs := by
  refine Kd.C_of_reads (d := (0 : Int)) (h1 := fun _ => rfl) ⟨rfl, by omega, fun _ => ⟨_, rfl, fun j hj => ?_⟩⟩
  rw [add_plain, World.cell?_alloc_mark]
  simp [nums, List.getElem?_eq_getElem hj, List.getD_eq_getElem?_getD]
set_option maxRecDepth 100000 in
theorem ofref_calls (A0 : Option Addr) (c0 : Nat) (l0 : List Int) (r : Int) (w : World) (hr0 : Kd.C (Kd.int .u8) w A0 l0.length l0) (hc0 : l0.length ≤ c0) (h : sumF 0 l0 = some r) :
    Calls Try.prog 23 #[.slice A0 l0.length c0] w fun e w' => e = .returned (.int .u32 r) ∧ Drawn0 w w' := by
  have HR := Aside0.mk hr0
  have H := Aside0.mk h
  clear hr0 h
  go_enter Try.func23, Try.ntmps23
  go_wp2_with fail
  refine (sumF_calls_ref 0 A0 c0 l0 r _ HR.out hc0 H.out).mono ?_
  rintro e w1 ⟨rfl, hb1⟩
  have HB := Aside0.mk hb1
  clear hb1
  go_wp2_with fail
  go_ret
  exact ⟨rfl, HB.out⟩
end Go.Proofs.Ytgfpkgbkbempkaa.W
