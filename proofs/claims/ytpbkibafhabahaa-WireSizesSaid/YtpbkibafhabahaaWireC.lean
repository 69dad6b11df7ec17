/- The program's reader of numbers and texts: walked through once. -/
import Derived.Test.YtpbkibafhabahaaWireB
namespace Go.Proofs.Ytpbkibafhabahaa.Wire
open Go.RowKit Go.Proofs.YtpbkibafhabahaaW.PrintWords Go.Proofs.Ytpbkibafhabahaa.Obj
set_option linter.unusedVariables false

/-- The program's reader: what is left, what is wrong. -/
def rdA (g : Nat) (l : List Int) (e : Int) : Asr where
  holds := fun w S => ∃ A c, w.heap[g]? = some (.cells #[.slice A l.length c, .int .i64 e] 56 (0, 0)) ∧ l.length ≤ c ∧ RB w (fun k => S k ∧ k ≠ g) A l ∧ S g
  keep := fun {w w' S} h ⟨A, c, h1, h2, h3, h4⟩ => ⟨A, c, (h g h4).trans h1, h2, Foot.step h3 (fun k hk _ => h k hk.1), h4⟩
set_option maxHeartbeats 1000000 in
theorem newReader_calls (A : Option Addr) (c : Nat) (l : List Int) (w : World) (hR : ReadsInt w .u8 A l.length l) (hl : l.length ≤ 140737488351232) :
    Calls Try.prog 10 #[.slice A l.length c] w fun e w' => ∃ g, e = .returned (.pointer (some ⟨g, 0, none⟩)) ∧ One (rdA g l 0) w.heap.size w' ∧ Below w.heap.size w w' := by
  have hu56 := Try.underlying56
  have HR := Aside0.mk hR
  clear hR
  go_enter Try.func10, Try.ntmps10
  go_wp2_with (go_at_call 26; refine (clone_calls A c l w HR.out hl).mono ?_; rintro e w1 ⟨v1, rfl, hown, hb⟩; obtain ⟨A1, c1, rfl⟩ := own_slice hown; have HO := Aside0.mk hown; have HB := Aside0.mk hb; clear hown hb)
  go_ret
  have ho := HO.out
  have hb := HB.out
  have hr := own_reads' ho
  have hlc : l.length ≤ c1 := by
    rcases ho.2 with ⟨h, h'⟩ | ⟨g, cap, cur, h, _, _, h1, _⟩
    · omega
    · injection h with _ _ h; omega
  have hlt : ∀ ad, A1 = some ad → w.heap.size ≤ ad.block ∧ ad.block < w1.heap.size := fun ad e => ⟨own_base ho _ (by rw [e]; rfl), own_lt ho _ (by rw [e]; rfl)⟩
  refine ⟨w1.heap.size, rfl, ⟨fun k => w.heap.size ≤ k ∧ k < w1.heap.size + 1, fun k hk => ⟨hk.1, by simpa using hk.2⟩, A1, c1, heap_alloc_new w1 _, hlc, ?_, ⟨hb.size, by omega⟩⟩, below_alloc hb _⟩
  refine RB.mk (hr.below (below_alloc (Below.refl _ _) _)) (fun ad e _ => ?_)
  have := hlt ad e
  exact ⟨⟨this.1, by omega⟩, by omega⟩

theorem dec_step {l : List Int} {k : Nat} (h : k < l.length) (q : Int) : decG k q (l.drop k) = if k = 9 ∧ 1 < rd l k ∨ 0 < k ∧ rd l k = 0 then (0, 0, 12) else if rd l k < 128 then (unzig (q + rd l k * 128 ^ k), (k : Int) + 1, 0) else decG (k + 1) (q + (rd l k - 128) * 128 ^ k) (l.drop (k + 1)) := by
  rw [List.drop_eq_getElem_cons h]
  have e : l[k] = rd l k := by simp [rd, List.getD_eq_getElem?_getD, List.getElem?_eq_getElem h]
  rw [e]
  rfl
theorem u64w (m : Int) : IntKind.u64.wrap m = m % 18446744073709551616 := by simp [IntKind.wrap, IntKind.bits, IntKind.signed]
theorem pow128_le {k : Nat} (h : k ≤ 8) : (128 : Nat) ^ k ≤ 128 ^ 8 := Nat.pow_le_pow_right (by omega) h
theorem or_step (q x : Int) (k : Nat) (q0 : 0 ≤ q) (hq : q < 128 ^ k) (x0 : 0 ≤ x) (x1 : x < 256) (hk : k ≤ 9) (h9 : k = 9 → x ≤ 1) : bits BinOp.or IntKind.u64 q (IntKind.u64.wrap (IntKind.u64.wrap (bits BinOp.andNot IntKind.u8 x 128) * 2 ^ (7 * k))) = q + x % 128 * 128 ^ k ∧ q + x % 128 * 128 ^ k < 18446744073709551616 := by
  obtain ⟨qn, rfl⟩ := Int.eq_ofNat_of_zero_le q0
  obtain ⟨xn, rfl⟩ := Int.eq_ofNat_of_zero_le x0
  have hq' : qn < 128 ^ k := by exact_mod_cast hq
  have e1 : bits BinOp.andNot IntKind.u8 (xn : Int) 128 = ((xn % 128 : Nat) : Int) := by
    have e := u8_andNot_nat xn 128 (by omega) (by omega)
    refine e.trans ?_
    rw [show 255 - 128 = 127 from rfl, nat_mask7]
  have hp : (2 : Nat) ^ (7 * k) = 128 ^ k := by rw [Nat.pow_mul]
  have hb : xn % 128 * 128 ^ k + 128 ^ k ≤ 18446744073709551616 := by
    rcases Nat.lt_or_ge k 9 with h | h
    · have h1 := pow128_le (k := k) (by omega)
      have h2 : xn % 128 * 128 ^ k + 128 ^ k ≤ 128 * 128 ^ k := by
        have : xn % 128 * 128 ^ k + 128 ^ k = (xn % 128 + 1) * 128 ^ k := by rw [Nat.add_mul, Nat.one_mul]
        rw [this]; exact Nat.mul_le_mul_right _ (by omega)
      simp only [Nat.reducePow] at h1
      omega
    · obtain rfl : k = 9 := by omega
      have := h9 rfl
      have : xn ≤ 1 := by omega
      simp only [Nat.reducePow]; omega
  have e2 : IntKind.u64.wrap (IntKind.u64.wrap ((xn % 128 : Nat) : Int) * 2 ^ (7 * k)) = ((xn % 128 * 128 ^ k : Nat) : Int) := by
    rw [u64w, u64w, show ((xn % 128 : Nat) : Int) % 18446744073709551616 = ((xn % 128 : Nat) : Int) by omega, show (2 : Int) ^ (7 * k) = ((128 ^ k : Nat) : Int) by rw [← hp]; push_cast; rfl, ← Int.natCast_mul]
    have : xn % 128 * 128 ^ k < 18446744073709551616 := by have := Nat.pow_pos (n := k) (show 0 < 128 by omega); omega
    omega
  rw [e1, e2]
  have h3 : qn < 18446744073709551616 ∧ xn % 128 * 128 ^ k < 18446744073709551616 := by
    have h0 : xn % 128 * 128 ^ k + qn < xn % 128 * 128 ^ k + 128 ^ k := by omega
    constructor
    · have : qn ≤ xn % 128 * 128 ^ k + qn := Nat.le_add_left _ _
      omega
    · omega
  have e3 := u64_or_nat qn (xn % 128 * 128 ^ k) h3.1 h3.2
  have e4 : qn ||| xn % 128 * 128 ^ k = qn + xn % 128 * 128 ^ k := by
    rw [Nat.or_comm, nat_join (7 * k) _ qn (by rw [hp, Nat.mul_mod_left]) (by rw [hp]; exact hq'), Nat.add_comm]
  rw [e3, e4]
  constructor
  · push_cast; rfl
  · have h5 : (qn : Int) + (xn : Int) % 128 * 128 ^ k = ((qn + xn % 128 * 128 ^ k : Nat) : Int) := by push_cast; rfl
    rw [h5]
    omega
theorem i64w (m : Int) (h0 : -9223372036854775808 ≤ m) (h1 : m ≤ 9223372036854775807) : wrap64 m = m := by unfold wrap64; omega
theorem xor_i64_zero (a : Int) (h0 : 0 ≤ a) (h1 : a < 9223372036854775808) : bits BinOp.xor IntKind.i64 a 0 = a := by
  show IntKind.i64.wrap ((BitVec.ofInt 64 a ^^^ BitVec.ofInt 64 0).toNat : Int) = a
  obtain ⟨n, rfl⟩ := Int.eq_ofNat_of_zero_le h0
  rw [show BitVec.ofInt 64 0 = 0#64 from rfl, BitVec.xor_zero, BitVec.ofInt_natCast, BitVec.toNat_ofNat, IntKind.wrap_i64]
  omega
theorem xor_i64_neg (a : Int) (h0 : 0 ≤ a) (h1 : a < 9223372036854775808) : bits BinOp.xor IntKind.i64 a (-1) = -a - 1 := by
  show IntKind.i64.wrap ((BitVec.ofInt 64 a ^^^ BitVec.ofInt 64 (-1)).toNat : Int) = _
  obtain ⟨n, rfl⟩ := Int.eq_ofNat_of_zero_le h0
  rw [show BitVec.ofInt 64 (-1) = BitVec.allOnes 64 from by decide, BitVec.xor_allOnes, BitVec.toNat_not, BitVec.ofInt_natCast, BitVec.toNat_ofNat, IntKind.wrap_i64]
  omega
theorem unzig_bits (q : Int) (q0 : 0 ≤ q) (q1 : q < 18446744073709551616) : bits BinOp.xor IntKind.i64 (wrap64 (q / 2)) (wrap64 (-wrap64 (bits BinOp.and IntKind.u64 q 1))) = unzig q := by
  obtain ⟨n, rfl⟩ := Int.eq_ofNat_of_zero_le q0
  have e := u64_and_nat n 1 (by omega) (by omega)
  rw [nat_mask1] at e
  rw [show (1 : Int) = ((1 : Nat) : Int) from rfl, e, i64w _ (by omega) (by omega), i64w ((n % 2 : Nat) : Int) (by omega) (by omega), i64w (-((n % 2 : Nat) : Int)) (by omega) (by omega)]
  unfold unzig
  by_cases h : (n : Int) % 2 = 0
  · rw [if_pos h, show -((n % 2 : Nat) : Int) = 0 by omega, xor_i64_zero _ (by omega) (by omega)]
  · rw [if_neg h, show -((n % 2 : Nat) : Int) = -1 by omega, xor_i64_neg _ (by omega) (by omega)]
theorem ret3 {a b c a' b' c' : Int} (h : (a, b, c) = (a', b', c')) : Ending.returned (.tuple #[.int .i64 a, .int .i64 b, .int .i64 c]) = .returned (.tuple #[.int .i64 a', .int .i64 b', .int .i64 c']) := by
  simp only [Prod.mk.injEq] at h
  rw [h.1, h.2.1, h.2.2]
set_option maxHeartbeats 2000000 in
theorem number_calls (A : Option Addr) (c : Nat) (l : List Int) (w : World) (hR : ReadsInt w .u8 A l.length l) (hc : l.length ≤ c) (hby : ∀ x ∈ l, 0 ≤ x ∧ x < 256) :
    Calls Try.prog 31 #[.slice A l.length c] w fun e w' => e = .returned (.tuple #[.int .i64 (dec l).1, .int .i64 (dec l).2.1, .int .i64 (dec l).2.2]) ∧ w = w' := by
  have hu22 := Try.underlying22
  have HR := Aside0.mk hR
  have HBY := Aside0.mk hby
  have hmax := hR.2.1
  clear hR hby
  obtain ⟨d1, d2, d3, hd⟩ : ∃ d1 d2 d3, dec l = (d1, d2, d3) := ⟨_, _, _, rfl⟩
  rw [hd]
  have HD := Aside0.mk hd
  clear hd
  by_cases h10 : l.length < 10
  · go_enter Try.func31, Try.ntmps31
    go_wp2_with fail
    go_loop [14, 5] (fun i s => ∃ (k : Nat) (q : Int), k ≤ l.length ∧ i = .int .i64 k ∧ s = .int .u64 q ∧ 0 ≤ q ∧ Aside0 (q < 128 ^ k ∧ (d1, d2, d3) = decG k q (l.drop k))) (fun i _ => l.length - (intOf i).toNat)
    case atStart => exact ⟨0, 0, Nat.zero_le _, rfl, rfl, by omega, ⟨by simp, HD.out.symm⟩⟩
    case round =>
      obtain ⟨k, q, hk, rfl, rfl, q0, HQ⟩ := hrel
      by_cases hlt : k < l.length
      · obtain ⟨ad, rfl, hcell⟩ := HR.out.at_ (k : Int) (by omega) (by omega)
        obtain ⟨x, hx⟩ : ∃ x, rd l k = x := ⟨_, rfl⟩
        have hxr : 0 ≤ x ∧ x < 256 := by
          rw [← hx]
          refine HBY.out _ ?_
          simp [rd, List.getD_eq_getElem?_getD, List.getElem?_eq_getElem (show k < l.length by omega)]
        obtain ⟨x0, x1⟩ := hxr
        rw [hx, Int.toNat_natCast] at hcell
        have hde := HQ.out.2
        rw [dec_step (show k < l.length by omega) q, hx] at hde
        have HQ1 := Aside0.mk HQ.out.1
        clear hx HQ
        by_cases c1 : k = 9 ∧ 1 < x ∨ 0 < k ∧ x = 0
        · rw [if_pos c1] at hde
          have HDE := Aside0.mk hde
          clear hde
          have kk : (((k : Int) == 9) = true ∧ 1 < x) ∨ ((((k : Int) == 9) = true ∧ ¬ 1 < x) ∨ ((k : Int) == 9) = false) ∧ 0 < k ∧ (x == 0) = true := by
            rcases c1 with ⟨h1, h2⟩ | ⟨h1, h2⟩
            · exact .inl ⟨by simp [h1], h2⟩
            · refine .inr ⟨?_, h1, by simp [h2]⟩
              by_cases h9 : k = 9
              · exact .inl ⟨by simp [h9], by omega⟩
              · exact .inr (by simp; omega)
          clear c1
          rcases kk with ⟨b1, b2⟩ | ⟨⟨b1, b2⟩ | b1, b3, b4⟩
          all_goals go_wp2_with fail
          all_goals go_ret3
          all_goals exact ⟨ret3 HDE.out.symm, rfl⟩
        · rw [if_neg c1] at hde
          have HDE := Aside0.mk hde
          clear hde
          obtain ⟨hor, hle⟩ := or_step q x k q0 HQ1.out x0 x1 (by omega) (by intro h; by_cases h2 : 1 < x; exact absurd (.inl ⟨h, h2⟩) c1; omega)
          obtain ⟨q2, hq2⟩ : ∃ q2, q + x % 128 * 128 ^ k = q2 := ⟨_, rfl⟩
          rw [hq2] at hor hle
          have HLE := Aside0.mk hle
          have HQ2 := Aside0.mk hq2
          have q20 : 0 ≤ q2 := by rw [← hq2]; have : (0 : Int) ≤ x % 128 * 128 ^ k := Int.mul_nonneg (by omega) (Int.le_of_lt (Int.pow_pos (by omega))); omega
          clear hq2 hle
          by_cases hx128 : x < 128
          · have HF := HDE.out
            rw [if_pos hx128] at HF
            have HFF := Aside0.mk HF
            clear HF
            have kk : (((k : Int) == 9) = true ∧ ¬ 1 < x ∧ 0 < k ∧ (x == 0) = false) ∨ (((k : Int) == 9) = false ∧ 0 < k ∧ (x == 0) = false) ∨ (((k : Int) == 9) = false ∧ ¬ 0 < k) := by
              by_cases h9 : k = 9
              · refine .inl ⟨by simp [h9], fun h => c1 (.inl ⟨h9, h⟩), by omega, ?_⟩
                simp; intro h; exact c1 (.inr ⟨by omega, h⟩)
              · by_cases h0 : 0 < k
                · refine .inr (.inl ⟨by simp; omega, h0, ?_⟩)
                  simp; intro h; exact c1 (.inr ⟨h0, h⟩)
                · exact .inr (.inr ⟨by simp; omega, h0⟩)
            clear c1
            rcases kk with ⟨b1, b2, b3, b4⟩ | ⟨b1, b3, b4⟩ | ⟨b1, b3⟩
            all_goals go_wp2_with fail
            all_goals go_ret3
            all_goals refine ⟨ret3 ?_, rfl⟩
            all_goals rw [HFF.out, unzig_bits q2 q20 HLE.out, ← HQ2.out, show x % 128 = x by omega]
          · have HF := HDE.out
            rw [if_neg hx128] at HF
            have HFF := Aside0.mk HF
            clear HF
            have kk : (((k : Int) == 9) = true ∧ ¬ 1 < x ∧ 0 < k ∧ (x == 0) = false) ∨ (((k : Int) == 9) = false ∧ 0 < k ∧ (x == 0) = false) ∨ (((k : Int) == 9) = false ∧ ¬ 0 < k) := by
              by_cases h9 : k = 9
              · refine .inl ⟨by simp [h9], fun h => c1 (.inl ⟨h9, h⟩), by omega, ?_⟩
                simp; intro h; exact c1 (.inr ⟨by omega, h⟩)
              · by_cases h0 : 0 < k
                · refine .inr (.inl ⟨by simp; omega, h0, ?_⟩)
                  simp; intro h; exact c1 (.inr ⟨h0, h⟩)
                · exact .inr (.inr ⟨by simp; omega, h0⟩)
            clear c1
            rcases kk with ⟨b1, b2, b3, b4⟩ | ⟨b1, b3, b4⟩ | ⟨b1, b3⟩
            · exfalso; omega
            all_goals
              go_wp2_with fail
              go_round
              case rel =>
                refine ⟨k + 1, q2, by first | omega | (have b5 : ¬ (k : Int) = 9 := (by simpa using b1); omega), by go_num, rfl, q20, ⟨?_, ?_⟩⟩
                · rw [← HQ2.out, Int.pow_succ]
                  have h6 : x % 128 * 128 ^ k + 128 ^ k = (x % 128 + 1) * (128 : Int) ^ k := by rw [Int.add_mul, Int.one_mul]
                  have h7 : (x % 128 + 1) * (128 : Int) ^ k ≤ 128 * 128 ^ k := Int.mul_le_mul_of_nonneg_right (by omega) (Int.le_of_lt (Int.pow_pos (by omega)))
                  have h8 := HQ1.out
                  have h9 : (128 : Int) ^ k * 128 = 128 * 128 ^ k := Int.mul_comm _ _
                  omega
                · rw [HFF.out, ← HQ2.out, show x % 128 = x - 128 by omega]
              case measure => simp [intOf]; omega
      · obtain rfl : k = l.length := by omega
        have HDE := Aside0.mk HQ.out.2
        clear HQ
        go_wp2_with fail
        go_ret3
        refine ⟨ret3 ?_, rfl⟩
        rw [HDE.out, List.drop_length]
        rfl
  · go_enter Try.func31, Try.ntmps31
    go_wp2_with fail
    all_goals
      go_loop [14, 5] (fun i s => ∃ (k : Nat) (q : Int), k ≤ 9 ∧ i = .int .i64 k ∧ s = .int .u64 q ∧ 0 ≤ q ∧ Aside0 (q < 128 ^ k ∧ (d1, d2, d3) = decG k q (l.drop k))) (fun i _ => 10 - (intOf i).toNat)
      case atStart => exact ⟨0, 0, Nat.zero_le _, rfl, rfl, by omega, ⟨by simp, HD.out.symm⟩⟩
      case round =>
        obtain ⟨k, q, hk, rfl, rfl, q0, HQ⟩ := hrel
        · obtain ⟨ad, rfl, hcell⟩ := HR.out.at_ (k : Int) (by omega) (by omega)
          obtain ⟨x, hx⟩ : ∃ x, rd l k = x := ⟨_, rfl⟩
          have hxr : 0 ≤ x ∧ x < 256 := by
            rw [← hx]
            refine HBY.out _ ?_
            simp [rd, List.getD_eq_getElem?_getD, List.getElem?_eq_getElem (show k < l.length by omega)]
          obtain ⟨x0, x1⟩ := hxr
          rw [hx, Int.toNat_natCast] at hcell
          have hde := HQ.out.2
          rw [dec_step (show k < l.length by omega) q, hx] at hde
          have HQ1 := Aside0.mk HQ.out.1
          clear hx HQ
          by_cases c1 : k = 9 ∧ 1 < x ∨ 0 < k ∧ x = 0
          · rw [if_pos c1] at hde
            have HDE := Aside0.mk hde
            clear hde
            have kk : (((k : Int) == 9) = true ∧ 1 < x) ∨ ((((k : Int) == 9) = true ∧ ¬ 1 < x) ∨ ((k : Int) == 9) = false) ∧ 0 < k ∧ (x == 0) = true := by
              rcases c1 with ⟨h1, h2⟩ | ⟨h1, h2⟩
              · exact .inl ⟨by simp [h1], h2⟩
              · refine .inr ⟨?_, h1, by simp [h2]⟩
                by_cases h9 : k = 9
                · exact .inl ⟨by simp [h9], by omega⟩
                · exact .inr (by simp; omega)
            clear c1
            rcases kk with ⟨b1, b2⟩ | ⟨⟨b1, b2⟩ | b1, b3, b4⟩
            all_goals go_wp2_with fail
            all_goals go_ret3
            all_goals exact ⟨ret3 HDE.out.symm, rfl⟩
          · rw [if_neg c1] at hde
            have HDE := Aside0.mk hde
            clear hde
            obtain ⟨hor, hle⟩ := or_step q x k q0 HQ1.out x0 x1 (by omega) (by intro h; by_cases h2 : 1 < x; exact absurd (.inl ⟨h, h2⟩) c1; omega)
            obtain ⟨q2, hq2⟩ : ∃ q2, q + x % 128 * 128 ^ k = q2 := ⟨_, rfl⟩
            rw [hq2] at hor hle
            have HLE := Aside0.mk hle
            have HQ2 := Aside0.mk hq2
            have q20 : 0 ≤ q2 := by rw [← hq2]; have : (0 : Int) ≤ x % 128 * 128 ^ k := Int.mul_nonneg (by omega) (Int.le_of_lt (Int.pow_pos (by omega))); omega
            clear hq2 hle
            by_cases hx128 : x < 128
            · have HF := HDE.out
              rw [if_pos hx128] at HF
              have HFF := Aside0.mk HF
              clear HF
              have kk : (((k : Int) == 9) = true ∧ ¬ 1 < x ∧ 0 < k ∧ (x == 0) = false) ∨ (((k : Int) == 9) = false ∧ 0 < k ∧ (x == 0) = false) ∨ (((k : Int) == 9) = false ∧ ¬ 0 < k) := by
                by_cases h9 : k = 9
                · refine .inl ⟨by simp [h9], fun h => c1 (.inl ⟨h9, h⟩), by omega, ?_⟩
                  simp; intro h; exact c1 (.inr ⟨by omega, h⟩)
                · by_cases h0 : 0 < k
                  · refine .inr (.inl ⟨by simp; omega, h0, ?_⟩)
                    simp; intro h; exact c1 (.inr ⟨h0, h⟩)
                  · exact .inr (.inr ⟨by simp; omega, h0⟩)
              clear c1
              rcases kk with ⟨b1, b2, b3, b4⟩ | ⟨b1, b3, b4⟩ | ⟨b1, b3⟩
              all_goals go_wp2_with fail
              all_goals go_ret3
              all_goals refine ⟨ret3 ?_, rfl⟩
              all_goals rw [HFF.out, unzig_bits q2 q20 HLE.out, ← HQ2.out, show x % 128 = x by omega]
            · have HF := HDE.out
              rw [if_neg hx128] at HF
              have HFF := Aside0.mk HF
              clear HF
              have kk : (((k : Int) == 9) = true ∧ ¬ 1 < x ∧ 0 < k ∧ (x == 0) = false) ∨ (((k : Int) == 9) = false ∧ 0 < k ∧ (x == 0) = false) ∨ (((k : Int) == 9) = false ∧ ¬ 0 < k) := by
                by_cases h9 : k = 9
                · refine .inl ⟨by simp [h9], fun h => c1 (.inl ⟨h9, h⟩), by omega, ?_⟩
                  simp; intro h; exact c1 (.inr ⟨by omega, h⟩)
                · by_cases h0 : 0 < k
                  · refine .inr (.inl ⟨by simp; omega, h0, ?_⟩)
                    simp; intro h; exact c1 (.inr ⟨h0, h⟩)
                  · exact .inr (.inr ⟨by simp; omega, h0⟩)
              clear c1
              rcases kk with ⟨b1, b2, b3, b4⟩ | ⟨b1, b3, b4⟩ | ⟨b1, b3⟩
              · exfalso; omega
              all_goals
                go_wp2_with fail
                go_round
                case rel =>
                  refine ⟨k + 1, q2, by first | omega | (have b5 : ¬ (k : Int) = 9 := (by simpa using b1); omega), by go_num, rfl, q20, ⟨?_, ?_⟩⟩
                  · rw [← HQ2.out, Int.pow_succ]
                    have h6 : x % 128 * 128 ^ k + 128 ^ k = (x % 128 + 1) * (128 : Int) ^ k := by rw [Int.add_mul, Int.one_mul]
                    have h7 : (x % 128 + 1) * (128 : Int) ^ k ≤ 128 * 128 ^ k := Int.mul_le_mul_of_nonneg_right (by omega) (Int.le_of_lt (Int.pow_pos (by omega)))
                    have h8 := HQ1.out
                    have h9 : (128 : Int) ^ k * 128 = 128 * 128 ^ k := Int.mul_comm _ _
                    omega
                  · rw [HFF.out, ← HQ2.out, show x % 128 = x - 128 by omega]
                case measure => simp [intOf]; omega
end Go.Proofs.Ytpbkibafhabahaa.Wire
