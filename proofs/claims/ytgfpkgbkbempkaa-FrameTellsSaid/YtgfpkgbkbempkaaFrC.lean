/- Copies of bytes, rows of bytes one behind the other, and whether a frame may be so: walked through once. -/
import Derived.Test.YtgfpkgbkbempkaaProg
import Derived.Test.YtgfpkgbkbempkaaWWords
import Derived.WalkKit
import Derived.Lib.SliceRun
import Derived.Lib.AppendZerosOnto
import Derived.WalkSpells
import Derived.Maps.AppendAt
import Derived.Deep.LoopGhost
import Derived.Outline
import Derived.KernelRfl
import Derived.Deep.WholeRow
import Derived.Lib.Hide
set_option linter.unusedVariables false
set_option linter.unusedSimpArgs false
namespace Go.Proofs.Ytgfpkgbkbempkaa.W
open Go.RowKit Go.Proofs.YtgfpkgbkbempkaaW.PrintWords

theorem info5' : (Try.prog.info? 5).map (fun i => (i.zero, i.size, i.bytes)) = some (some (.int .u8 0), 1, 1) := by kernel_rfl
theorem readsC {w : World} {A : Option Addr} {n : Nat} {l : List Int} (h : Kd.C (Kd.int .u8) w A n l) : ReadsInt w .u8 A n l := by
  obtain ⟨h1, h2, h3⟩ := h
  refine ⟨h1, h2, fun hn => ?_⟩
  obtain ⟨ad, e, hc⟩ := h3 hn
  refine ⟨ad, e, fun j hj => ?_⟩
  obtain ⟨cc, _, hK, hcell⟩ := hc j (l[j]'(by omega)) (List.getElem?_eq_getElem _)
  have hK' : cc = [.int .u8 (l[j]'(by omega))] := hK
  have h0 := hcell 0 (.int .u8 (l[j]'(by omega))) (by rw [hK']; rfl)
  have e2 : (Kd.int .u8).sz = 1 := rfl
  rw [e2, Nat.mul_one, Nat.add_zero] at h0
  rw [h0, List.getD_eq_getElem?_getD, List.getElem?_eq_getElem (by omega)]
  rfl
theorem R_nums {w : World} {base : Nat} {v : Value} {xs : List Int} (h : w.ownsRow base 5 1 v xs.length (nums .u8 xs)) : Kd.R (Kd.int .u8) 5 w base (fun _ => True) v xs :=
  Kd.R_of_own h (fun _ _ => trivial)

set_option maxHeartbeats 1000000 in
theorem clone_calls (A : Option Addr) (c : Nat) (l : List Int) (w : World) (hR : ReadsInt w .u8 A l.length l) (hl : l.length ≤ 140737488351232) :
    Calls Try.prog 21 #[.slice A l.length c] w fun e w' => ∃ v, e = .returned v ∧ w'.ownsRow w.heap.size 5 1 v l.length (nums .u8 l) ∧ Below w.heap.size w w' := by
  have hu22 := Try.underlying22
  have hne := fun (w : World) (a : Option Addr) (n c : Nat) => Lib.run_eql_slice_nil (P := Try.prog) w 22 5 a n c 0 0 hu22
  have HR := Aside0.mk hR
  have hmax := hR.2.1
  cases A with
  | none =>
    have h0 : l = [] := by
      rcases Nat.eq_zero_or_pos l.length with h | h
      · exact List.eq_nil_of_length_eq_zero h
      · obtain ⟨ad, h', _⟩ := hR.2.2 h
        cases h'
    subst h0
    clear hR
    go_enter Try.func21, Try.ntmps21
    go_wp2
    go_ret
    exact ⟨_, rfl, own_nil _ _ _ _, Below.refl _ _⟩
  | some ad =>
    clear hR
    go_enter Try.func21, Try.ntmps21
    go_wp2_with (at_builtin; refine print_append_row (w0 := w) w.heap.size rfl _ _ 22 5 .u8 1 rfl hu22 info5' (by decide) (.slice (some ⟨w.heap.size, 0, none⟩) 0 0) [] l (some ad) l.length c rfl rfl (own_lit w w.heap.size 5 .u8 [] (Nat.le_refl _) (by simp)) (HR.out.allocS _) (below_alloc (Below.refl _ _) _) (by simp) (by simp; omega) ?_; intro v1 w1 hown hb hg hat; obtain ⟨A1, c1, rfl⟩ := own_slice hown; have HO := Aside0.mk hown; have HB := Aside0.mk hb; clear hown hb hg hat)
    go_ret
    exact ⟨_, rfl, HO.out, HB.out⟩

/-! ### Room for so many bytes -/
set_option maxHeartbeats 1000000 in
theorem grow_calls (n : Nat) (w : World) (h0 : 0 < n) (hn : n ≤ 140737488351232) :
    Calls Try.prog 30 #[.slice none 0 0, .int .i64 n] w fun e w' => ∃ v, e = .returned v ∧ w'.ownsRow w.heap.size 5 1 v ([] : List Int).length (nums .u8 []) ∧ Below w.heap.size w w' := by
  obtain ⟨i0, hi, hzz⟩ := Option.map_eq_some_iff.1 info5'
  simp only [Prod.mk.injEq] at hzz
  obtain ⟨hz0, hz1, hz2⟩ := hzz
  have hu22 := Try.underlying22
  have hu3 := Try.underlying3
  have hold : (Builtin.firstCells i0.size 0 (.slice none 0 0)).run Try.prog w.drew = .ok ([] : List Value).toArray w.drew := run_firstCells_none w.drew i0.size 0 0 0
  have hrz := Lib.run_append_grow_zeros (P := Try.prog) w 22 3 0 5 i0 (.int .u8 0) .i64 .i64 hu22 hu3 hi hz0 none 0 0 [] hold n h0 (by omega) (by omega) (by omega) (by rw [hz2]; omega)
    (by rw [hz2]; exact growslice_fits (by omega) (by omega))
  rw [show ((0 : Nat) + n) = n by omega] at hrz
  simp only [Array.empty_append] at hrz
  have hG := grownCap_ge w n 0 5
  have hGm := grownCap_le_maxLen w n 0 5 (by unfold maxLen; omega)
  have h3 : wrap64 ((n : Int) - 0) = (n : Int) := by unfold wrap64; omega
  have h4 : (n : Int) > 0 := by omega
  have h1 : ¬ ((n : Int) < 0) := by omega
  have hsz : (Builtin.zeroCells (Value.int .u8 0).cells n ++ Builtin.zeroCells (Value.int .u8 0).cells (grownCap w n 0 5 - n)).size = grownCap w n 0 5 := by
    simp [Builtin.zeroCells, Value.cells]
    omega
  generalize Builtin.zeroCells (Value.int .u8 0).cells n ++ Builtin.zeroCells (Value.int .u8 0).cells (grownCap w n 0 5 - n) = cs at *
  generalize grownCap w n 0 5 = G at *
  have HRZ := Aside0.mk hrz
  have HSZ := Aside0.mk hsz
  have HGm := Aside0.mk hGm
  have hG63 : G ≤ 9223372036854775807 := by unfold maxLen at hGm; omega
  clear hrz hsz hGm hi hz0 hz1 hz2 hold
  go_enter Try.func30, Try.ntmps30
  go_wp2_with (at_builtin; refine Lib.wpList_append_run _ rfl _ _ _ _ rfl _ _ rfl rfl _ _ HRZ.out ?_)
  go_ret
  refine ⟨_, rfl, ⟨by simp [nums], .inr ⟨w.heap.size, G, cs, rfl, Nat.le_refl _, heap_alloc_last w.drew _, by simp, HGm.out, by rw [HSZ.out]; simp, by simp [nums]⟩⟩, ?_⟩
  exact below_alloc (below_drew1 (Below.refl _ w)) _

/-! ### Rows of bytes, one behind the other -/
theorem at_row {w : World} {A : Option Addr} {n : Nat} {xs : List (List Int)} (h : Kd.C (Kd.slice 5 (Kd.int .u8)) w A n xs) (i : Nat) (h1 : i < n) (h2 : i < xs.length) :
    ∃ ad A2 c2, A = some ad ∧ w.cell? (ad.add i) = some (.slice A2 (xs[i]).length c2) ∧ (xs[i]).length ≤ c2 ∧ (Kd.int .u8).C w A2 (xs[i]).length (xs[i]) := by
  obtain ⟨ad, c, e, _, hK, hc0⟩ := Kd.C_get h [] (i : Int) (by omega) (by omega)
  rw [Int.toNat_natCast, List.getD_eq_getElem?_getD, List.getElem?_eq_getElem h2] at hK
  obtain ⟨A2, c2, rfl, l2, g2⟩ := hK
  have hc := hc0 0 _ rfl
  rw [Int.toNat_natCast, show (Kd.slice 5 (Kd.int .u8)).sz = 1 from rfl, Nat.mul_one, Nat.add_zero] at hc
  exact ⟨ad, A2, c2, e, hc, l2, g2⟩
/-- How many bytes the first rows have. -/
def sumL (xs : List (List Int)) (i : Nat) : Nat := ((xs.take i).flatten).length
theorem take_flat (xs : List (List Int)) (i : Nat) (h : i < xs.length) : (xs.take (i + 1)).flatten = (xs.take i).flatten ++ xs[i] := by
  rw [List.take_succ_eq_append_getElem h, List.flatten_append]
  simp
theorem sumL_succ (xs : List (List Int)) (i : Nat) (h : i < xs.length) : sumL xs (i + 1) = sumL xs i + (xs[i]).length := by
  unfold sumL
  rw [take_flat xs i h, List.length_append]
theorem sumL_le (xs : List (List Int)) (i : Nat) : sumL xs i ≤ xs.flatten.length := by
  unfold sumL
  conv => rhs; rw [← List.take_append_drop i xs, List.flatten_append, List.length_append]
  omega
theorem sumL_all (xs : List (List Int)) : sumL xs xs.length = xs.flatten.length := by unfold sumL; rw [List.take_length]

set_option maxHeartbeats 2000000 in
set_option maxRecDepth 100000 in
theorem concat_calls (A : Option Addr) (c : Nat) (xs : List (List Int)) (w : World) (hR : Kd.C (Kd.slice 5 (Kd.int .u8)) w A xs.length xs) (h0 : 0 < xs.flatten.length) (hl : xs.flatten.length ≤ 1000000000) :
    Calls Try.prog 25 #[.slice A xs.length c] w fun e w' => ∃ v, e = .returned v ∧ w'.ownsRow w.heap.size 5 1 v xs.flatten.length (nums .u8 xs.flatten) ∧ Below w.heap.size w w' := by
  have hu22 := Try.underlying22
  have hx63 := hR.2.1
  have HR := Aside0.mk hR
  clear hR
  have hT := sumL_all xs
  have hle := sumL_le xs
  go_enter Try.func25, Try.ntmps25
  go_wp2
  go_loopg [3, 11] xs.length (fun g s i wx => ∃ k : Nat, k + g = xs.length ∧ i = .int .i64 k ∧ s = .int .i64 (sumL xs k) ∧ w = wx)
  case atStart => exact ⟨0, by omega, rfl, rfl, rfl⟩
  case round =>
    obtain ⟨k, hk, rfl, rfl, rfl⟩ := hrel
    have hk1 := hle k
    cases gk with
    | zero =>
      obtain rfl : k = xs.length := by omega
      rw [hT]
      generalize hT' : xs.flatten.length = T at *
      have HT' := Aside0.mk hT'
      have HLE := Aside0.mk hle
      have HSS := Aside0.mk (sumL_succ xs)
      clear hle hT hk1 hT'
      go_wp2_with (go_at_call 30; refine (grow_calls T w h0 (by omega)).mono ?_; rintro e w1 ⟨v, rfl, hown, hb⟩; have HO := Aside0.mk hown; have HB := Aside0.mk hb; clear hown hb)
      go_loopg [6, 27] xs.length (fun g v i wx => ∃ k : Nat, k + g = xs.length ∧ i = .int .i64 k ∧ Aside0 (wx.ownsRow w.heap.size 5 1 v (xs.take k).flatten.length (nums .u8 (xs.take k).flatten)) ∧ Aside0 (Below w.heap.size w wx))
      case atStart => exact ⟨0, by omega, rfl, HO, HB⟩
      case round =>
        clear HO HB
        obtain ⟨k, hk, rfl, HO, HB⟩ := hrel
        have hk1 := HLE.out k
        cases gk with
        | zero =>
          obtain rfl : k = xs.length := by omega
          go_wp2
          go_ret
          refine ⟨_, rfl, ?_, HB.out⟩
          have := HO.out
          rw [List.take_length] at this
          exact this
        | succ g =>
          have hlt : k < xs.length := by omega
          obtain ⟨ad, A2, c2, rfl, hcell0, hc2, hr2⟩ := at_row HR.out k hlt hlt
          have hcell := (HB.out.cell (World.block_lt_of_cell? _ _ hcell0)).trans hcell0
          have hR2 := Aside0.mk (readsC (Kd.C_below hr2 HB.out))
          have hs := HSS.out k hlt
          have hk2 := HLE.out (k + 1)
          have hfl := Aside0.mk (take_flat xs k hlt)
          clear hr2 hcell0
          generalize hR3 : xs[k] = y at *
          have HY := Aside0.mk (Nat.le_refl 0)
          go_wp2_with (at_builtin; refine print_append_row (w0 := w) w.heap.size rfl _ _ 22 5 .u8 1 rfl hu22 info5' (by decide) _ (xs.take k).flatten y A2 y.length c2 rfl rfl HO.out hR2.out HB.out HB.out.size (by show ((xs.take k).flatten.length + y.length) * 1 ≤ _; rw [← show sumL xs k = (xs.take k).flatten.length from rfl]; omega) ?_; intro v1 w1 hown hb hg hat; have HO1 := Aside0.mk hown; have HB1 := Aside0.mk hb; clear hown hb hg hat)
          go_roundg g
          case measure => omega
          case rel => exact ⟨k + 1, by omega, by go_num, by rw [hfl.out]; exact HO1, HB1⟩
    | succ g =>
      have hlt : k < xs.length := by omega
      obtain ⟨ad, A2, c2, rfl, hcell, hc2, hr2⟩ := at_row HR.out k hlt hlt
      have hs := sumL_succ xs k hlt
      have hk2 := hle (k + 1)
      clear hr2
      go_wp2
      go_roundg g
      case measure => omega
      case rel => exact ⟨k + 1, by omega, by go_num, by rw [hs]; go_num, rfl⟩

/-! ### May a frame be so? -/
def rightB (a0 a1 : Int) (n : Nat) : Bool := decide (0 < a0 ∧ a0 ≤ 15 ∧ 0 ≤ a1 ∧ a1 ≤ 1073741824 ∧ n ≤ 1800)
theorem within_calls (n most : Int) (w : World) :
    Calls Try.prog 24 #[.int .i64 n, .int .i64 most] w fun e w' => e = .returned (.bool (decide (0 ≤ n ∧ n ≤ most))) ∧ w' = w := by
  by_cases h0 : 0 ≤ n
  · have b0 : decide (0 ≤ n) = true := decide_eq_true h0
    go_enter Try.func24, Try.ntmps24
    go_wp2
    go_ret
    exact ⟨by simp [h0], rfl⟩
  · have b0 : decide (0 ≤ n) = false := decide_eq_false h0
    go_enter Try.func24, Try.ntmps24
    go_wp2
    go_ret
    exact ⟨by simp [h0], rfl⟩
set_option maxRecDepth 100000 in
theorem right_calls (a0 a1 : Int) (A : Option Addr) (n c : Nat) (w : World) :
    Calls Try.prog 14 #[.agg #[.int .i64 a0, .int .i64 a1, .slice A n c]] w fun e w' => e = .returned (.bool (rightB a0 a1 n)) ∧ Below w.heap.size w w' := by
  have hu := Try.underlying24
  by_cases h0 : 0 < a0
  · have b0 : decide (0 < a0) = true := decide_eq_true h0
    go_enter Try.func14, Try.ntmps14
    go_wp2_with fail
    refine (within_calls a0 15 _).mono ?_
    rintro e w1 ⟨rfl, rfl⟩
    by_cases h1 : 0 ≤ a0 ∧ a0 ≤ 15
    · have b1 : decide (0 ≤ a0 ∧ a0 ≤ 15) = true := decide_eq_true h1
      rw [b1]
      go_wp2_with fail
      refine (within_calls a1 1073741824 _).mono ?_
      rintro e w1 ⟨rfl, rfl⟩
      by_cases h2 : 0 ≤ a1 ∧ a1 ≤ 1073741824
      · have b2 : decide (0 ≤ a1 ∧ a1 ≤ 1073741824) = true := decide_eq_true h2
        rw [b2]
        go_wp2_with fail
        go_ret
        refine ⟨?_, below_alloc (Below.refl _ w) _⟩
        have e : decide ((n : Int) ≤ 1800) = rightB a0 a1 n := by unfold rightB; exact decide_eq_decide.2 (by omega)
        rw [← e]
        rfl
      · have b2 : decide (0 ≤ a1 ∧ a1 ≤ 1073741824) = false := decide_eq_false h2
        rw [b2]
        go_wp2_with fail
        go_ret
        refine ⟨?_, below_alloc (Below.refl _ w) _⟩
        have e : false = rightB a0 a1 n := by unfold rightB; symm; exact decide_eq_false (by omega)
        rw [← e]
        rfl
    · have b1 : decide (0 ≤ a0 ∧ a0 ≤ 15) = false := decide_eq_false h1
      rw [b1]
      go_wp2_with fail
      go_ret
      refine ⟨?_, below_alloc (Below.refl _ w) _⟩
      have e : false = rightB a0 a1 n := by unfold rightB; symm; exact decide_eq_false (by omega)
      rw [← e]
      rfl
  · have b0 : decide (0 < a0) = false := decide_eq_false h0
    go_enter Try.func14, Try.ntmps14
    go_wp2_with fail
    go_ret
    refine ⟨?_, below_alloc (Below.refl _ w) _⟩
    have e : false = rightB a0 a1 n := by unfold rightB; symm; exact decide_eq_false (by omega)
    rw [← e]
    rfl
end Go.Proofs.Ytgfpkgbkbempkaa.W
