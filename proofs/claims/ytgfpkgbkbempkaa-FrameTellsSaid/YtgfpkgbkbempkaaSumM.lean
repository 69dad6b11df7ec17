/- Sums of bytes over 32 bits, in plain Lean: one bit's step, eight of them, a byte's, a row's; what steps do to an exclusive or; no program in sight. -/
import Derived.Laws.Entries
import Derived.Laws.BitsLemmas
namespace Go.Proofs.Ytgfpkgbkbempkaa.M
open Go

/-- A register as the number that Go has. -/
def N (r : BitVec 32) : Int := (r.toNat : Int)
theorem N_nonneg (r : BitVec 32) : 0 ≤ N r := Int.natCast_nonneg _
theorem N_lt (r : BitVec 32) : N r ≤ 4294967295 := by unfold N; have := r.isLt; omega
theorem N_inj {a b : BitVec 32} : N a = N b ↔ a = b := by
  unfold N
  rw [Int.natCast_inj, BitVec.toNat_inj]
theorem ofInt_N (r : BitVec 32) : BitVec.ofInt 32 (N r) = r := by
  unfold N
  rw [BitVec.ofInt_natCast, BitVec.ofNat_toNat, BitVec.setWidth_eq]
theorem N_ofInt (x : Int) (h0 : 0 ≤ x) (h1 : x ≤ 4294967295) : N (BitVec.ofInt 32 x) = x := by
  unfold N
  rw [BitVec.toNat_ofInt]
  omega
theorem wrapN (r : BitVec 32) : IntKind.u32.wrap (r.toNat : Int) = N r := by
  rw [IntKind.wrap_u32]
  unfold N
  have := r.isLt
  omega
theorem bits_xor (a b : BitVec 32) : bits .xor .u32 (N a) (N b) = N (a ^^^ b) := by
  show IntKind.u32.wrap ((BitVec.ofInt 32 (N a) ^^^ BitVec.ofInt 32 (N b)).toNat : Int) = _
  rw [ofInt_N, ofInt_N, wrapN]
theorem bits_and (a b : BitVec 32) : bits .and .u32 (N a) (N b) = N (a &&& b) := by
  show IntKind.u32.wrap ((BitVec.ofInt 32 (N a) &&& BitVec.ofInt 32 (N b)).toNat : Int) = _
  rw [ofInt_N, ofInt_N, wrapN]
theorem N_shr1 (a : BitVec 32) : N a / (2 : Int) = N (a >>> 1) := by
  unfold N
  rw [BitVec.toNat_ushiftRight, Nat.shiftRight_eq_div_pow]
  omega
theorem N_shr8 (a : BitVec 32) : N a / (256 : Int) = N (a >>> 8) := by
  unfold N
  rw [BitVec.toNat_ushiftRight, Nat.shiftRight_eq_div_pow]
  omega
theorem N_neg (a : BitVec 32) : (-(N a)) % (4294967296 : Int) = N (-a) := by
  unfold N
  rw [BitVec.toNat_neg]
  have := a.isLt
  omega
theorem N_not (a : BitVec 32) : (4294967295 : Int) - N a = N (~~~a) := by
  unfold N
  rw [BitVec.toNat_not]
  have := a.isLt
  omega
theorem bits_not (a : BitVec 32) : bits .xor .u32 IntKind.u32.max (N a) = N (~~~a) := by
  have e : IntKind.u32.max = N (BitVec.allOnes 32) := by decide
  rw [e, bits_xor, BitVec.allOnes_xor]
theorem N_poly : N 0xedb88320#32 = 3988292384 := by decide
theorem N_one : N 1#32 = 1 := by decide
theorem N_zero : N 0#32 = 0 := by decide
theorem N_mod2 (a : BitVec 32) : N a % (2 : Int) = if a.getLsbD 0 then 1 else 0 := by
  unfold N
  rw [BitVec.getLsbD, Nat.testBit_zero]
  by_cases h : a.toNat % 2 = 1
  · rw [if_pos (by simpa using h)]; omega
  · rw [if_neg (by simpa using h)]; omega

/-- One bit goes out, below. -/
def stp (r : BitVec 32) : BitVec 32 := (r >>> 1) ^^^ (0xedb88320#32 &&& -(r &&& 1#32))
theorem and_one (r : BitVec 32) : r &&& 1#32 = if r.getLsbD 0 then 1#32 else 0#32 := by
  apply BitVec.eq_of_getLsbD_eq
  intro i hi
  rw [BitVec.getLsbD_and]
  cases i with
  | zero => cases h : r.getLsbD 0 <;> simp
  | succ i => cases h : r.getLsbD 0 <;> simp [BitVec.getLsbD_one]
theorem stp_if (r : BitVec 32) : stp r = if r.getLsbD 0 then (r >>> 1) ^^^ 0xedb88320#32 else r >>> 1 := by
  unfold stp
  rw [and_one]
  cases h : r.getLsbD 0
  · have e : 0xedb88320#32 &&& -(0#32) = 0#32 := by decide
    simp only [Bool.false_eq_true, if_false]
    rw [e, BitVec.xor_zero]
  · have e : 0xedb88320#32 &&& -(1#32) = 0xedb88320#32 := by decide
    simp only [if_true]
    rw [e]
theorem stp_xor (a b : BitVec 32) : stp (a ^^^ b) = stp a ^^^ stp b := by
  rw [stp_if, stp_if, stp_if, BitVec.getLsbD_xor, BitVec.ushiftRight_xor_distrib]
  cases ha : a.getLsbD 0 <;> cases hb : b.getLsbD 0 <;> simp only [Bool.xor_false, Bool.xor_true, Bool.not_true, Bool.not_false, Bool.false_eq_true, if_true, if_false]
  · rw [BitVec.xor_assoc]
  · rw [BitVec.xor_assoc, BitVec.xor_assoc, BitVec.xor_comm (b >>> 1)]
  · rw [BitVec.xor_assoc (a >>> 1), BitVec.xor_comm (b >>> 1) 0xedb88320#32, ← BitVec.xor_assoc 0xedb88320#32, BitVec.xor_self, BitVec.zero_xor]
theorem stp_zero : stp 0#32 = 0#32 := by decide
/-- What goes out tells: the highest bit behind the step is the bit that went out. -/
theorem stp_high (r : BitVec 32) : (stp r).getLsbD 31 = r.getLsbD 0 := by
  rw [stp_if]
  cases h : r.getLsbD 0
  · simp only [Bool.false_eq_true, if_false]
    rw [BitVec.getLsbD_ushiftRight]
    exact BitVec.getLsbD_of_ge _ _ (by omega)
  · simp only [if_true]
    rw [BitVec.getLsbD_xor, BitVec.getLsbD_ushiftRight, BitVec.getLsbD_of_ge r _ (by omega)]
    decide
theorem eq_zero_of_stp (r : BitVec 32) (h : stp r = 0#32) : r = 0#32 := by
  have h0 : r.getLsbD 0 = false := by
    rw [← stp_high, h]
    decide
  rw [stp_if, h0] at h
  simp only [Bool.false_eq_true, if_false] at h
  apply BitVec.eq_of_getLsbD_eq
  intro i hi
  cases i with
  | zero => rw [h0]; simp
  | succ i =>
    have := congrArg (fun x => x.getLsbD i) h
    simp only [BitVec.getLsbD_ushiftRight, BitVec.getLsbD_zero] at this
    rw [Nat.add_comm] at this
    rw [this]
    simp
theorem eq_of_xor_zero {a b : BitVec 32} (h : a ^^^ b = 0#32) : a = b := by
  have := congrArg (fun x => x ^^^ b) h
  simpa [BitVec.xor_assoc] using this
theorem stp_inj {a b : BitVec 32} (h : stp a = stp b) : a = b :=
  eq_of_xor_zero (eq_zero_of_stp _ (by rw [stp_xor, h, BitVec.xor_self]))

/-- So many steps. -/
def stps : Nat → BitVec 32 → BitVec 32
  | 0, r => r
  | n + 1, r => stps n (stp r)
theorem stps_snoc (n : Nat) (r : BitVec 32) : stps (n + 1) r = stp (stps n r) := by
  induction n generalizing r with
  | zero => rfl
  | succ n ih =>
    rw [stps, ih]
    rfl
theorem stps_xor (n : Nat) (a b : BitVec 32) : stps n (a ^^^ b) = stps n a ^^^ stps n b := by
  induction n generalizing a b with
  | zero => rfl
  | succ n ih => rw [stps, stp_xor, ih]; rfl
theorem stps_inj (n : Nat) {a b : BitVec 32} (h : stps n a = stps n b) : a = b := by
  induction n generalizing a b with
  | zero => exact h
  | succ n ih => exact stp_inj (ih h)
theorem stps_zero (n : Nat) : stps n 0#32 = 0#32 := by
  induction n with
  | zero => rfl
  | succ n ih => rw [stps, stp_zero, ih]
/-- Where the lowest bits are none, the register just goes down. -/
theorem stps_down (n : Nat) (r : BitVec 32) (h : ∀ i, i < n → r.getLsbD i = false) : stps n r = r >>> n := by
  induction n generalizing r with
  | zero => simp [stps]
  | succ n ih =>
    have h0 : stp r = r >>> 1 := by rw [stp_if, h 0 (by omega)]; simp
    rw [stps, h0, ih _ (fun i hi => by rw [BitVec.getLsbD_ushiftRight, Nat.add_comm]; exact h _ (by omega))]
    rw [← BitVec.shiftRight_add, Nat.add_comm]
def tab (i : BitVec 32) : BitVec 32 := stps 8 i
def low (r : BitVec 32) : BitVec 32 := r &&& 0xff#32
theorem stps8_split (r : BitVec 32) : stps 8 r = (r >>> 8) ^^^ tab (low r) := by
  have e : r = (r &&& 0xffffff00#32) ^^^ low r := by
    apply BitVec.eq_of_getLsbD_eq
    intro i hi
    unfold low
    rw [BitVec.getLsbD_xor, BitVec.getLsbD_and, BitVec.getLsbD_and]
    have hh : ∀ i, i < 32 → ((0xffffff00#32).getLsbD i) = !((0xff#32).getLsbD i) := by decide
    rw [hh i hi]
    cases r.getLsbD i <;> cases (0xff#32).getLsbD i <;> rfl
  have hd : stps 8 (r &&& 0xffffff00#32) = (r &&& 0xffffff00#32) >>> 8 := by
    apply stps_down
    intro i hi
    rw [BitVec.getLsbD_and]
    have hh : ∀ i, i < 8 → ((0xffffff00#32).getLsbD i) = false := by decide
    rw [hh i hi, Bool.and_false]
  have hs : (r &&& 0xffffff00#32) >>> 8 = r >>> 8 := by
    apply BitVec.eq_of_getLsbD_eq
    intro i hi
    rw [BitVec.getLsbD_ushiftRight, BitVec.getLsbD_ushiftRight, BitVec.getLsbD_and]
    by_cases h : 8 + i < 32
    · have hh : ∀ i, i < 24 → ((0xffffff00#32).getLsbD (8 + i)) = true := by decide
      rw [hh i (by omega), Bool.and_true]
    · rw [BitVec.getLsbD_of_ge r _ (by omega), Bool.false_and]
  show stps 8 r = (r >>> 8) ^^^ stps 8 (low r)
  calc stps 8 r = stps 8 ((r &&& 0xffffff00#32) ^^^ low r) := by rw [← e]
    _ = _ := by rw [stps_xor, hd, hs]

/-- A byte. -/
def B (c : Int) : BitVec 32 := BitVec.ofInt 32 c
def upd (r : BitVec 32) (c : Int) : BitVec 32 := stps 8 (r ^^^ B c)
def reg (r : BitVec 32) (l : List Int) : BitVec 32 := l.foldl upd r
def more (s : Int) (l : List Int) : Int := N (~~~(reg (~~~(BitVec.ofInt 32 s)) l))
theorem reg_nil (r : BitVec 32) : reg r [] = r := rfl
theorem reg_cons (r : BitVec 32) (c : Int) (l : List Int) : reg r (c :: l) = reg (upd r c) l := rfl
theorem reg_append (r : BitVec 32) (a b : List Int) : reg r (a ++ b) = reg (reg r a) b := by unfold reg; rw [List.foldl_append]
theorem reg_snoc (r : BitVec 32) (a : List Int) (c : Int) : reg r (a ++ [c]) = upd (reg r a) c := by rw [reg_append]; rfl


theorem B_shr8 (c : Int) (h0 : 0 ≤ c) (h1 : c ≤ 255) : B c >>> 8 = 0#32 := by
  apply BitVec.eq_of_toNat_eq
  rw [BitVec.toNat_ushiftRight, Nat.shiftRight_eq_div_pow]
  unfold B
  rw [BitVec.toNat_ofInt]
  simp
  omega
theorem upd_table (r : BitVec 32) (c : Int) (h0 : 0 ≤ c) (h1 : c ≤ 255) : (r >>> 8) ^^^ tab (low (r ^^^ B c)) = upd r c := by
  unfold upd
  rw [stps8_split, BitVec.ushiftRight_xor_distrib, B_shr8 c h0 h1, BitVec.xor_zero]
theorem low_toNat (r : BitVec 32) : (low r).toNat = r.toNat % 256 := by
  unfold low
  rw [BitVec.toNat_and]
  exact Nat.and_two_pow_sub_one_eq_mod r.toNat 8
theorem low_lt (r : BitVec 32) : (low r).toNat < 256 := by rw [low_toNat]; omega
theorem B_low (r : BitVec 32) : B ((low r).toNat : Int) = low r := by
  unfold B
  rw [BitVec.ofInt_natCast, BitVec.ofNat_toNat, BitVec.setWidth_eq]
/-- Which place of the table: the lowest byte and the next byte, turned into one. -/
theorem place (r : BitVec 32) (c : Int) (h0 : 0 ≤ c) (h1 : c ≤ 255) : bits .xor .u8 (N r % (256 : Int)) c = ((low (r ^^^ B c)).toNat : Int) := by
  show IntKind.u8.wrap ((BitVec.ofInt 8 (N r % 256) ^^^ BitVec.ofInt 8 c).toNat : Int) = _
  rw [IntKind.wrap_u8, low_toNat, BitVec.toNat_xor, BitVec.toNat_xor]
  obtain ⟨n, rfl⟩ := Int.eq_ofNat_of_zero_le h0
  have hn : n < 2 ^ 8 := by omega
  have e1 : (BitVec.ofInt 8 (N r % (256 : Int))).toNat = r.toNat % 2 ^ 8 := by
    unfold N
    rw [BitVec.toNat_ofInt]
    omega
  have e2 : (BitVec.ofInt 8 (n : Int)).toNat = n := by
    rw [BitVec.ofInt_natCast, BitVec.toNat_ofNat]
    omega
  have e3 : (B (n : Int)).toNat = n := by
    unfold B
    rw [BitVec.ofInt_natCast, BitVec.toNat_ofNat]
    omega
  rw [e1, e2, e3, show (256 : Nat) = 2 ^ 8 from rfl, Nat.xor_mod_two_pow, Nat.mod_eq_of_lt hn]
  have hx : r.toNat % 2 ^ 8 ^^^ n < 2 ^ 8 := Nat.xor_lt_two_pow (Nat.mod_lt _ (by decide)) hn
  omega
end Go.Proofs.Ytgfpkgbkbempkaa.M
