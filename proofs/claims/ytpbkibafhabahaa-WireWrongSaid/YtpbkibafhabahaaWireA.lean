/- The writer of numbers and texts, the program's and the reference's: walked through once. -/
import Derived.Test.YtpbkibafhabahaaProg
import Derived.Test.YtpbkibafhabahaaObj
import Derived.Test.YtpbkibafhabahaaWirePlain
import Derived.WalkKit
import Derived.Outline
import Derived.Maps.AppendAt
import Derived.Deep.LoopGhost
import Derived.Lib.Hide
namespace Go.Proofs.Ytpbkibafhabahaa.Wire
open Go.RowKit Go.Proofs.YtpbkibafhabahaaW.PrintWords Go.Proofs.Ytpbkibafhabahaa.Obj
set_option linter.unusedVariables false

/-! ### Bytes of one's own, in the one field of a struct behind a pointer -/
def wrA (T : TypeId) (g : Nat) (xs : List Int) : Asr where
  holds := fun w S => ∃ v, w.heap[g]? = some (.cells #[v] T (0, 0)) ∧ w.ownsRow 0 5 1 v xs.length (nums .u8 xs) ∧ S g ∧ (∀ k, v.ownBlock = some k → S k ∧ k ≠ g)
  keep := fun {w w' S} h ⟨v, h1, h2, h3, h4⟩ => ⟨v, (h g h3).trans h1, own_move h2 (fun k hk => h k (h4 k hk).1), h3, h4⟩
theorem nums_one (x : Int) : nums .u8 [x] = [.int .u8 x] := rfl
theorem xor_ones (a : Nat) (h : a < 18446744073709551616) : a ^^^ 18446744073709551615 = 18446744073709551615 - a := by
  have e := congrArg BitVec.toNat (BitVec.xor_allOnes (x := BitVec.ofNat 64 a))
  rw [BitVec.toNat_xor, BitVec.toNat_not, BitVec.toNat_allOnes, BitVec.toNat_ofNat, Nat.mod_eq_of_lt (by simpa using h)] at e
  simpa using e
theorem zig_bits (n : Int) (h0 : -9223372036854775808 ≤ n) (h1 : n ≤ 9223372036854775807) : bits .xor .u64 (IntKind.u64.wrap (IntKind.u64.wrap n * 2)) (IntKind.u64.wrap (n / 9223372036854775808)) = zig n := by
  have hw : ∀ m, IntKind.u64.wrap m = m % 18446744073709551616 := fun m => by simp [IntKind.wrap, IntKind.bits, IntKind.signed]
  simp only [hw]
  by_cases h : 0 ≤ n
  · rw [show n / 9223372036854775808 = 0 by omega, show n % 18446744073709551616 * 2 % 18446744073709551616 = 2 * n by omega]
    have e := u64_xor_nat (2 * n).toNat 0 (by omega) (by omega)
    rw [Int.toNat_of_nonneg (by omega)] at e
    simp only [Nat.xor_zero, Int.toNat_of_nonneg (show 0 ≤ 2 * n by omega)] at e
    unfold zig
    rw [if_pos h]
    exact e
  · rw [show n / 9223372036854775808 = -1 by omega, show n % 18446744073709551616 * 2 % 18446744073709551616 = 2 * n + 18446744073709551616 by omega, show (-1 : Int) % 18446744073709551616 = 18446744073709551615 by decide]
    have e := u64_xor_nat (2 * n + 18446744073709551616).toNat 18446744073709551615 (by omega) (by omega)
    rw [Int.toNat_of_nonneg (by omega), xor_ones _ (by omega)] at e
    unfold zig
    rw [if_neg h]
    refine e.trans ?_
    omega
theorem info5 : (Try.prog.info? 5).map (fun i => (i.zero, i.size, i.bytes)) = some (some (.int .u8 0), 1, 1) := by kernel_rfl

theorem byte_or (q : Int) (h0 : 0 ≤ q) : bits .or .u8 (q % 256) 128 = q % 128 + 128 := by
  have e := u8_or_nat (q % 256).toNat 128 (by omega) (by omega)
  rw [Int.toNat_of_nonneg (by omega)] at e
  refine e.trans ?_
  have h1 : (q % 256).toNat ||| 128 = (q % 128).toNat + 128 := by
    rcases (show (q % 256).toNat < 128 ∨ 128 ≤ (q % 256).toNat from by omega) with hlt | hge
    · have := nat_join 7 128 (q % 256).toNat (by decide) (by omega)
      rw [Nat.or_comm, this, show (q % 128).toNat = (q % 256).toNat by omega]; omega
    · have h2 := nat_join 7 128 (q % 128).toNat (by decide) (by omega)
      have h3 : (q % 256).toNat = 128 ||| (q % 128).toNat := by rw [h2]; omega
      rw [h3, Nat.or_comm, ← Nat.or_assoc, Nat.or_self, h2]; omega
  rw [h1]
  push_cast
  omega
/-- Behind an append to the field's row and the store of what it left: the object is the same, with more bytes. -/
theorem wr_put {T : TypeId} {g : Nat} {ys zs : List Int} {S S1 : Nat → Prop} {w wx wa w1 : World} {v v1 : Value} (hch : Ch S w wx) (hm : More S w S1 wx) (hg : wx.heap[g]? = some (.cells #[v] T (0, 0))) (hS1 : S1 g) (hv : ∀ k, v.ownBlock = some k → S1 k ∧ k ≠ g)
    (hb : Below wx.heap.size wx wa) (hgrow : wa.grownBy w1 v.ownBlock) (hown1 : w1.ownsRow 0 5 1 v1 (ys.length + zs.length) (nums .u8 ys ++ nums .u8 zs)) (hat : v1.ownBlock = v.ownBlock ∨ v1.ownBlock = some wa.heap.size) :
    w1.heap[g]? = some (.cells #[v] T (0, 0)) ∧ Upd (wrA T g (ys ++ zs)) S w (w1.setCell ⟨g, 0, none⟩ v1) := by
  have hlt : g < wx.heap.size := (Array.getElem?_eq_some_iff.1 hg).1
  have hne : some g ≠ v.ownBlock := fun e => (hv g e.symm).2 rfl
  have e1 : w1.heap[g]? = some (.cells #[v] T (0, 0)) := (hgrow.block g (Nat.lt_of_lt_of_le hlt hb.size) hne).trans ((hb.block g hlt).trans hg)
  have hv1 : ∀ k, v1.ownBlock = some k → k ≠ g := fun k hk => by
    rcases hat with h | h
    · exact (hv k (h.symm.trans hk)).2
    · rw [h] at hk; injection hk with hk; have := hb.size; omega
  have hc1 : Ch S w w1 := (hch.trans (Ch.ofBelow hb) (S' := fun _ => False) (fun _ h => h.elim)).grown hgrow (fun k hk => hm.1 k (hv k hk).1)
  refine ⟨e1, hc1.setCell (hm.1 g hS1) _, fun k => S1 k ∨ (wx.heap.size ≤ k ∧ k < w1.heap.size), ⟨fun k hk => ?_, fun k hk => ?_⟩, v1, ?_, ?_, .inl hS1, fun k hk => ⟨?_, hv1 k hk⟩⟩
  · rcases hk with h | h
    · exact hm.1 k h
    · exact .inr (Nat.le_trans hch.size h.1)
  · rw [show (w1.setCell ⟨g, 0, none⟩ v1).heap.size = w1.heap.size by simp [World.setCell]]
    rcases hk with h | h
    · exact Nat.lt_of_lt_of_le (hm.2 k h) (Nat.le_trans hb.size hgrow.size)
    · exact h.2
  · simp only [World.setCell, Array.getElem?_modify, e1]
    simp
  · rw [List.length_append, nums_append]
    exact own_move hown1 (fun k hk => Below.heap_setCell w1 ⟨g, 0, none⟩ v1 k (hv1 k hk))
  · rcases hat with h | h
    · exact .inl (hv k (h.symm.trans hk)).1
    · rw [h] at hk; injection hk with hk; subst hk
      refine .inr ⟨hb.size, ?_⟩
      exact own_lt hown1 _ h
set_option maxHeartbeats 1000000 in
theorem wnum_calls (g : Nat) (xs : List Int) (n : Int) (w : World) (S : Nat → Prop) (hA : (wrA 41 g xs).holds w S) (hS : ∀ k, S k → k < w.heap.size) (h0 : -9223372036854775808 ≤ n) (h1 : n ≤ 9223372036854775807) (hl : xs.length ≤ 1000000000) :
    Calls Try.prog 20 #[.pointer (some ⟨g, 0, none⟩), .int .i64 n] w fun e w' => e = .returned (.tuple #[]) ∧ Upd (wrA 41 g (xs ++ vb (zig n))) S w w' := by
  have hu41 := Try.underlying41
  have hu22 := Try.underlying22
  obtain ⟨i0, hi, hz0, hz1, hz2⟩ := info_parts info5
  have upd0 := Upd.refl0 hA hS
  clear hA hS
  have HZ := Lib.hid (zig_bits n h0 h1)
  have z0 := zig_nonneg n
  have z1 := Aside0.mk (show zig n < 2 * 128 ^ 9 by simpa using zig_lt n h0 h1)
  clear h0 h1
  go_enter Try.func20, Try.ntmps20
  go_wp2
  rw [HZ.out]
  go_loopg [4] 9 (fun gk s4 wx => ∃ (q : Int) (ys : List Int), s4 = .int .u64 q ∧ 0 ≤ q ∧ Aside0 (q < 2 * 128 ^ gk) ∧ ys.length + gk ≤ xs.length + 9 ∧ Aside0 (ys ++ vbF gk q = xs ++ vb (zig n)) ∧ Aside0 (Upd (wrA 41 g ys) S w wx))
  case atStart => exact ⟨_, xs, rfl, z0, z1, by omega, ⟨rfl⟩, ⟨upd0⟩⟩
  case round =>
    obtain ⟨q, ys, rfl, q0, Q1, hys, QE, HU⟩ := hrel
    obtain ⟨hch, S1, hm, v, hg, ho, hS1, hv⟩ := HU.out
    have hc : wr.cell? ⟨g, 0, none⟩ = some v := by simp [World.cell?, hg]
    have HCH := Aside0.mk hch
    have HM := Aside0.mk hm
    have HG := Aside0.mk hg
    have HO := Aside0.mk ho
    have HS1 := Aside0.mk hS1
    have HV := Aside0.mk hv
    clear hch hm hg ho hS1 hv HU
    by_cases hq : 128 ≤ q
    · cases gk with
      | zero => have := Q1.out; exfalso; simp at this; omega
      | succ k =>
        go_wp2_with (at_builtin; refine wpList_append_own_at _ rfl _ _ 22 rfl 0 5 i0 (.int .u8 0) 1 1 hu22 hi hz0 hz1 hz2 rfl (by decide) v ys.length (nums .u8 ys) rfl (pw_own_below HO.out (below_alloc (Below.refl _ _) _)) ⟨wr.heap.size, 0, none⟩ 1 1 [.int .u8 (bits BinOp.or .u8 (q % 256) 128)] rfl rfl (cell_one_new _ _ _) (by simp [Value.oneCell']) (by unfold maxLen; omega) (by omega) (Nat.zero_le _) ?_; intro v1 w1 hown hgrow _ hat; obtain ⟨A1, c1, rfl⟩ := own_slice hown; obtain ⟨e1, hU⟩ := wr_put (zs := [q % 128 + 128]) HCH.out HM.out HG.out HS1.out HV.out (below_alloc (Below.refl _ _) _) hgrow (by first | exact hown | (rw [byte_or q q0] at hown; exact hown)) hat; have hc1 : w1.cell? ⟨g, 0, none⟩ = some v := (by simp [World.cell?, e1]); have hf1 : w1.frozen? ⟨g, 0, none⟩ = false := (by simp [World.frozen?, e1]); have HU1 := Aside0.mk hU; clear e1 hU hown hgrow hat)
        go_roundg k
        case rel =>
          have h2 := Q1.out
          rw [Int.pow_succ] at h2
          refine ⟨q / 128, ys ++ [q % 128 + 128], rfl, by omega, ⟨by omega⟩, by simp; omega, ⟨?_⟩, HU1⟩
          rw [← QE.out, List.append_assoc]
          congr 1
          simp only [vbF]
          rw [if_neg (by omega)]
          rfl
        case measure => omega
    · go_wp2_with (at_builtin; refine wpList_append_own_at _ rfl _ _ 22 rfl 0 5 i0 (.int .u8 0) 1 1 hu22 hi hz0 hz1 hz2 rfl (by decide) v ys.length (nums .u8 ys) rfl (pw_own_below HO.out (below_alloc (Below.refl _ _) _)) ⟨wr.heap.size, 0, none⟩ 1 1 [.int .u8 (q)] rfl rfl (cell_one_new _ _ _) (by simp [Value.oneCell']) (by unfold maxLen; omega) (by omega) (Nat.zero_le _) ?_; intro v1 w1 hown hgrow _ hat; obtain ⟨A1, c1, rfl⟩ := own_slice hown; obtain ⟨e1, hU⟩ := wr_put (zs := [q]) HCH.out HM.out HG.out HS1.out HV.out (below_alloc (Below.refl _ _) _) hgrow (by first | exact hown | (rw [byte_or q q0] at hown; exact hown)) hat; have hc1 : w1.cell? ⟨g, 0, none⟩ = some v := (by simp [World.cell?, e1]); have hf1 : w1.frozen? ⟨g, 0, none⟩ = false := (by simp [World.frozen?, e1]); have HU1 := Aside0.mk hU; clear e1 hU hown hgrow hat)
      go_end0
      refine ⟨rfl, ?_⟩
      have h3 : vbF gk q = [q] := by
        cases gk with
        | zero => rfl
        | succ k => simp only [vbF]; rw [if_pos (by omega)]
      rw [← QE.out, h3]
      exact HU1.out

theorem tdiv_wrap (q : Int) (h0 : 0 ≤ q) (h : q < 18446744073709551616) : IntKind.u64.wrap (q.tdiv 128) = q / 128 := by
  rw [Int.tdiv_eq_ediv_of_nonneg h0]
  have hw : ∀ m, IntKind.u64.wrap m = m % 18446744073709551616 := fun m => by simp [IntKind.wrap, IntKind.bits, IntKind.signed]
  rw [hw]
  omega
set_option maxHeartbeats 1000000 in
theorem fnum_calls (g : Nat) (xs : List Int) (n : Int) (w : World) (S : Nat → Prop) (hA : (wrA 44 g xs).holds w S) (hS : ∀ k, S k → k < w.heap.size) (h0 : -9223372036854775808 ≤ n) (h1 : n ≤ 9223372036854775807) (hl : xs.length ≤ 1000000000) :
    Calls Try.prog 21 #[.pointer (some ⟨g, 0, none⟩), .int .i64 n] w fun e w' => e = .returned (.tuple #[]) ∧ Upd (wrA 44 g (xs ++ vb (zig n))) S w w' := by
  have hu44 := Try.underlying44
  have hu22 := Try.underlying22
  obtain ⟨i0, hi, hz0, hz1, hz2⟩ := info_parts info5
  have upd0 := Upd.refl0 hA hS
  have z0 := zig_nonneg n
  have z1 := Aside0.mk (show zig n < 2 * 128 ^ 9 by simpa using zig_lt n h0 h1)
  have z2 := Aside0.mk (zig_lt n h0 h1)
  clear hA hS
  by_cases hn : n < 0
  · have HZ := Lib.hid (show -(n + 1) * 2 + 1 = zig n by unfold zig; rw [if_neg (by omega)]; omega)
    go_enter Try.func21, Try.ntmps21
    go_wp2
    rw [HZ.out]
    clear h0 h1 hn HZ
    go_loopg [4] 9 (fun gk s4 wx => ∃ (q : Int) (ys : List Int), s4 = .int .u64 q ∧ 0 ≤ q ∧ Aside0 (q < 18446744073709551616) ∧ Aside0 (q < 2 * 128 ^ gk) ∧ ys.length + gk ≤ xs.length + 9 ∧ Aside0 (ys ++ vbF gk q = xs ++ vb (zig n)) ∧ Aside0 (Upd (wrA 44 g ys) S w wx))
    case atStart => exact ⟨_, xs, rfl, z0, z2, z1, by omega, ⟨rfl⟩, ⟨upd0⟩⟩
    case round =>
      obtain ⟨q, ys, rfl, q0, QM, Q1, hys, QE, HU⟩ := hrel
      obtain ⟨hch, S1, hm, v, hg, ho, hS1, hv⟩ := HU.out
      have hc : wr.cell? ⟨g, 0, none⟩ = some v := by simp [World.cell?, hg]
      have HCH := Aside0.mk hch
      have HM := Aside0.mk hm
      have HG := Aside0.mk hg
      have HO := Aside0.mk ho
      have HS1 := Aside0.mk hS1
      have HV := Aside0.mk hv
      clear hch hm hg ho hS1 hv HU
      by_cases hq : 128 ≤ q
      · cases gk with
        | zero => have := Q1.out; exfalso; simp at this; omega
        | succ k =>
          go_wp2_with (at_builtin; refine wpList_append_own_at _ rfl _ _ 22 rfl 0 5 i0 (.int .u8 0) 1 1 hu22 hi hz0 hz1 hz2 rfl (by decide) v ys.length (nums .u8 ys) rfl (pw_own_below HO.out (below_alloc (Below.refl _ _) _)) ⟨wr.heap.size, 0, none⟩ 1 1 [.int .u8 (q % 128 + 128)] rfl rfl (cell_one_new _ _ _) (by simp [Value.oneCell']) (by unfold maxLen; omega) (by omega) (Nat.zero_le _) ?_; intro v1 w1 hown hgrow _ hat; obtain ⟨A1, c1, rfl⟩ := own_slice hown; obtain ⟨e1, hU⟩ := wr_put (zs := [q % 128 + 128]) HCH.out HM.out HG.out HS1.out HV.out (below_alloc (Below.refl _ _) _) hgrow (by first | exact hown | (rw [byte_or q q0] at hown; exact hown)) hat; have hc1 : w1.cell? ⟨g, 0, none⟩ = some v := (by simp [World.cell?, e1]); have hf1 : w1.frozen? ⟨g, 0, none⟩ = false := (by simp [World.frozen?, e1]); have HU1 := Aside0.mk hU; clear e1 hU hown hgrow hat)
          go_roundg k
          case rel =>
            have h2 := Q1.out
            rw [Int.pow_succ] at h2
            have hQM := QM.out
            refine ⟨q / 128, ys ++ [q % 128 + 128], congrArg (Value.int .u64) (tdiv_wrap q q0 hQM), by omega, ⟨by omega⟩, ⟨by omega⟩, by simp; omega, ⟨?_⟩, HU1⟩
            rw [← QE.out, List.append_assoc]
            congr 1
            simp only [vbF]
            rw [if_neg (by omega)]
            rfl
          case measure => omega
      · go_wp2_with (at_builtin; refine wpList_append_own_at _ rfl _ _ 22 rfl 0 5 i0 (.int .u8 0) 1 1 hu22 hi hz0 hz1 hz2 rfl (by decide) v ys.length (nums .u8 ys) rfl (pw_own_below HO.out (below_alloc (Below.refl _ _) _)) ⟨wr.heap.size, 0, none⟩ 1 1 [.int .u8 (q)] rfl rfl (cell_one_new _ _ _) (by simp [Value.oneCell']) (by unfold maxLen; omega) (by omega) (Nat.zero_le _) ?_; intro v1 w1 hown hgrow _ hat; obtain ⟨A1, c1, rfl⟩ := own_slice hown; obtain ⟨e1, hU⟩ := wr_put (zs := [q]) HCH.out HM.out HG.out HS1.out HV.out (below_alloc (Below.refl _ _) _) hgrow (by first | exact hown | (rw [byte_or q q0] at hown; exact hown)) hat; have hc1 : w1.cell? ⟨g, 0, none⟩ = some v := (by simp [World.cell?, e1]); have hf1 : w1.frozen? ⟨g, 0, none⟩ = false := (by simp [World.frozen?, e1]); have HU1 := Aside0.mk hU; clear e1 hU hown hgrow hat)
        go_end0
        refine ⟨rfl, ?_⟩
        have h3 : vbF gk q = [q] := by
          cases gk with
          | zero => rfl
          | succ k => simp only [vbF]; rw [if_pos (by omega)]
        rw [← QE.out, h3]
        exact HU1.out
  · have HZ := Lib.hid (show n * 2 = zig n by unfold zig; rw [if_pos (by omega)]; omega)
    go_enter Try.func21, Try.ntmps21
    go_wp2
    rw [HZ.out]
    clear h0 h1 hn HZ
    go_loopg [4] 9 (fun gk s4 wx => ∃ (q : Int) (ys : List Int), s4 = .int .u64 q ∧ 0 ≤ q ∧ Aside0 (q < 18446744073709551616) ∧ Aside0 (q < 2 * 128 ^ gk) ∧ ys.length + gk ≤ xs.length + 9 ∧ Aside0 (ys ++ vbF gk q = xs ++ vb (zig n)) ∧ Aside0 (Upd (wrA 44 g ys) S w wx))
    case atStart => exact ⟨_, xs, rfl, z0, z2, z1, by omega, ⟨rfl⟩, ⟨upd0⟩⟩
    case round =>
      obtain ⟨q, ys, rfl, q0, QM, Q1, hys, QE, HU⟩ := hrel
      obtain ⟨hch, S1, hm, v, hg, ho, hS1, hv⟩ := HU.out
      have hc : wr.cell? ⟨g, 0, none⟩ = some v := by simp [World.cell?, hg]
      have HCH := Aside0.mk hch
      have HM := Aside0.mk hm
      have HG := Aside0.mk hg
      have HO := Aside0.mk ho
      have HS1 := Aside0.mk hS1
      have HV := Aside0.mk hv
      clear hch hm hg ho hS1 hv HU
      by_cases hq : 128 ≤ q
      · cases gk with
        | zero => have := Q1.out; exfalso; simp at this; omega
        | succ k =>
          go_wp2_with (at_builtin; refine wpList_append_own_at _ rfl _ _ 22 rfl 0 5 i0 (.int .u8 0) 1 1 hu22 hi hz0 hz1 hz2 rfl (by decide) v ys.length (nums .u8 ys) rfl (pw_own_below HO.out (below_alloc (Below.refl _ _) _)) ⟨wr.heap.size, 0, none⟩ 1 1 [.int .u8 (q % 128 + 128)] rfl rfl (cell_one_new _ _ _) (by simp [Value.oneCell']) (by unfold maxLen; omega) (by omega) (Nat.zero_le _) ?_; intro v1 w1 hown hgrow _ hat; obtain ⟨A1, c1, rfl⟩ := own_slice hown; obtain ⟨e1, hU⟩ := wr_put (zs := [q % 128 + 128]) HCH.out HM.out HG.out HS1.out HV.out (below_alloc (Below.refl _ _) _) hgrow (by first | exact hown | (rw [byte_or q q0] at hown; exact hown)) hat; have hc1 : w1.cell? ⟨g, 0, none⟩ = some v := (by simp [World.cell?, e1]); have hf1 : w1.frozen? ⟨g, 0, none⟩ = false := (by simp [World.frozen?, e1]); have HU1 := Aside0.mk hU; clear e1 hU hown hgrow hat)
          go_roundg k
          case rel =>
            have h2 := Q1.out
            rw [Int.pow_succ] at h2
            have hQM := QM.out
            refine ⟨q / 128, ys ++ [q % 128 + 128], congrArg (Value.int .u64) (tdiv_wrap q q0 hQM), by omega, ⟨by omega⟩, ⟨by omega⟩, by simp; omega, ⟨?_⟩, HU1⟩
            rw [← QE.out, List.append_assoc]
            congr 1
            simp only [vbF]
            rw [if_neg (by omega)]
            rfl
          case measure => omega
      · go_wp2_with (at_builtin; refine wpList_append_own_at _ rfl _ _ 22 rfl 0 5 i0 (.int .u8 0) 1 1 hu22 hi hz0 hz1 hz2 rfl (by decide) v ys.length (nums .u8 ys) rfl (pw_own_below HO.out (below_alloc (Below.refl _ _) _)) ⟨wr.heap.size, 0, none⟩ 1 1 [.int .u8 (q)] rfl rfl (cell_one_new _ _ _) (by simp [Value.oneCell']) (by unfold maxLen; omega) (by omega) (Nat.zero_le _) ?_; intro v1 w1 hown hgrow _ hat; obtain ⟨A1, c1, rfl⟩ := own_slice hown; obtain ⟨e1, hU⟩ := wr_put (zs := [q]) HCH.out HM.out HG.out HS1.out HV.out (below_alloc (Below.refl _ _) _) hgrow (by first | exact hown | (rw [byte_or q q0] at hown; exact hown)) hat; have hc1 : w1.cell? ⟨g, 0, none⟩ = some v := (by simp [World.cell?, e1]); have hf1 : w1.frozen? ⟨g, 0, none⟩ = false := (by simp [World.frozen?, e1]); have HU1 := Aside0.mk hU; clear e1 hU hown hgrow hat)
        go_end0
        refine ⟨rfl, ?_⟩
        have h3 : vbF gk q = [q] := by
          cases gk with
          | zero => rfl
          | succ k => simp only [vbF]; rw [if_pos (by omega)]
        rw [← QE.out, h3]
        exact HU1.out
end Go.Proofs.Ytpbkibafhabahaa.Wire
