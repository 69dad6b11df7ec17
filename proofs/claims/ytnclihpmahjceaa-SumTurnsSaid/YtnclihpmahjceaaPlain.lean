/- Plain facts on sums of rows of bytes: parts, one byte more, three rows turned into one, the sum behind a row. -/
import Derived.Test.YtnclihpmahjceaaSumW
import Derived.Test.YtnclihpmahjceaaWLast
namespace Go.Proofs.Ytnclihpmahjceaa.Plain
open Go.RowKit Go.Proofs.Ytnclihpmahjceaa W Go.Proofs.YtnclihpmahjceaaW.PrintWords

theorem wf_u8 {x : Int} (h : (Lit.int .u8 x).wf = true) : 0 ≤ x ∧ x ≤ 255 := by
  simp [Lit.wf, IntKind.min, IntKind.max, IntKind.bits, IntKind.signed] at h
  omega
theorem wf_u16 {x : Int} (h : (Lit.int .u16 x).wf = true) : 0 ≤ x ∧ x ≤ 65535 := by
  simp [Lit.wf, IntKind.min, IntKind.max, IntKind.bits, IntKind.signed] at h
  omega
theorem wf_u32 {x : Int} (h : (Lit.int .u32 x).wf = true) : 0 ≤ x ∧ x ≤ 4294967295 := by
  simp [Lit.wf, IntKind.min, IntKind.max, IntKind.bits, IntKind.signed] at h
  omega
theorem inByte_of {l : List Int} (h : ∀ x ∈ l, (Lit.int .u8 x).wf = true) : InByte l := fun x hx => wf_u8 (h x hx)
theorem inByte_take {l : List Int} (h : InByte l) (n : Nat) : InByte (l.take n) := fun x hx => h x (List.mem_of_mem_take hx)
theorem inByte_drop {l : List Int} (h : InByte l) (n : Nat) : InByte (l.drop n) := fun x hx => h x (List.mem_of_mem_drop hx)
theorem inByte_append {a b : List Int} (h : InByte a) (k : InByte b) : InByte (a ++ b) := fun x hx => (List.mem_append.1 hx).elim (h x) (k x)
theorem inByte_nil : InByte [] := fun x hx => by cases hx
theorem more_range (s : Int) (l : List Int) : 0 ≤ M.more s l ∧ M.more s l ≤ 4294967295 := ⟨M.N_nonneg _, M.N_lt _⟩
theorem more_more (s : Int) (a b : List Int) : M.more (M.more s a) b = M.more s (a ++ b) := by
  unfold M.more
  rw [M.ofInt_N, BitVec.not_not, M.reg_append]
theorem more_nil (s : Int) (h0 : 0 ≤ s) (h1 : s ≤ 4294967295) : M.more s [] = s := by
  unfold M.more
  rw [M.reg_nil, BitVec.not_not, M.N_ofInt s h0 h1]
theorem sumF_more {s : Int} {l m : List Int} (hm : InByte m) : sumF (M.more s l) m = some (M.more s (l ++ m)) := by
  rw [sumF_of (more_range _ _) hm, more_more]
theorem sumF0 {l : List Int} (h : InByte l) : sumF 0 l = some (M.more 0 l) := sumF_of (by omega) h

/-- Sums that are alike go on alike; unlike ones, unlike. -/
theorem upd_inj {a b : BitVec 32} {c : Int} (h : M.upd a c = M.upd b c) : a = b := by
  have := M.stps_inj 8 h
  have e := congrArg (fun x => x ^^^ M.B c) this
  simpa [BitVec.xor_assoc] using e
theorem reg_inj {a b : BitVec 32} (l : List Int) (h : M.reg a l = M.reg b l) : a = b := by
  induction l generalizing a b with
  | nil => exact h
  | cons c l ih => exact upd_inj (ih (by rwa [M.reg_cons, M.reg_cons] at h))
theorem not_inj {a b : BitVec 32} (h : ~~~a = ~~~b) : a = b := by
  have := congrArg (fun x => ~~~x) h
  simpa using this
theorem more_inj {s t : Int} (l : List Int) (hs : 0 ≤ s ∧ s ≤ 4294967295) (ht : 0 ≤ t ∧ t ≤ 4294967295) (h : M.more s l = M.more t l) : s = t := by
  unfold M.more at h
  have h2 := not_inj (reg_inj l (not_inj (M.N_inj.1 h)))
  have h3 := congrArg M.N h2
  rwa [M.N_ofInt s hs.1 hs.2, M.N_ofInt t ht.1 ht.2] at h3

/-- Three rows turned into one. -/
theorem byte_xor (a b : Int) (h0 : 0 ≤ a ∧ a ≤ 255) (k0 : 0 ≤ b ∧ b ≤ 255) : (0 ≤ bits .xor .u8 a b ∧ bits .xor .u8 a b ≤ 255) ∧ M.B (bits .xor .u8 a b) = M.B a ^^^ M.B b := by
  obtain ⟨n, rfl⟩ := Int.eq_ofNat_of_zero_le h0.1
  obtain ⟨m, rfl⟩ := Int.eq_ofNat_of_zero_le k0.1
  have hn : n < 2 ^ 8 := by omega
  have hm : m < 2 ^ 8 := by omega
  have hx : n ^^^ m < 2 ^ 8 := Nat.xor_lt_two_pow hn hm
  have e : bits .xor .u8 (n : Int) (m : Int) = ((n ^^^ m : Nat) : Int) := by
    show IntKind.u8.wrap ((BitVec.ofInt 8 (n : Int) ^^^ BitVec.ofInt 8 (m : Int)).toNat : Int) = _
    rw [IntKind.wrap_u8, BitVec.toNat_xor, BitVec.ofInt_natCast, BitVec.ofInt_natCast, BitVec.toNat_ofNat, BitVec.toNat_ofNat, Nat.mod_eq_of_lt hn, Nat.mod_eq_of_lt hm]
    omega
  refine ⟨by rw [e]; omega, ?_⟩
  rw [e]
  unfold M.B
  apply BitVec.eq_of_toNat_eq
  rw [BitVec.toNat_xor, BitVec.ofInt_natCast, BitVec.ofInt_natCast, BitVec.ofInt_natCast, BitVec.toNat_ofNat, BitVec.toNat_ofNat, BitVec.toNat_ofNat, Nat.mod_eq_of_lt (by omega), Nat.mod_eq_of_lt (by omega), Nat.mod_eq_of_lt (by omega)]
def turn (a b c : Int) : Int := bits .xor .u8 (bits .xor .u8 a b) c
theorem turn_ok (a b c : Int) (ha : 0 ≤ a ∧ a ≤ 255) (hb : 0 ≤ b ∧ b ≤ 255) (hc : 0 ≤ c ∧ c ≤ 255) : (0 ≤ turn a b c ∧ turn a b c ≤ 255) ∧ M.B (turn a b c) = (M.B a ^^^ M.B b) ^^^ M.B c := by
  have h1 := byte_xor a b ha hb
  have h2 := byte_xor (bits .xor .u8 a b) c h1.1 hc
  exact ⟨h2.1, by rw [show turn a b c = bits .xor .u8 (bits .xor .u8 a b) c from rfl, h2.2, h1.2]⟩
theorem upd_three (p q r : BitVec 32) (a b c : Int) (ha : 0 ≤ a ∧ a ≤ 255) (hb : 0 ≤ b ∧ b ≤ 255) (hc : 0 ≤ c ∧ c ≤ 255) :
    M.upd ((p ^^^ q) ^^^ r) (turn a b c) = (M.upd p a ^^^ M.upd q b) ^^^ M.upd r c := by
  unfold M.upd
  rw [(turn_ok a b c ha hb hc).2, ← M.stps_xor, ← M.stps_xor]
  congr 1
  generalize M.B a = x
  generalize M.B b = y
  generalize M.B c = z
  apply BitVec.eq_of_getLsbD_eq
  intro i hi
  simp only [BitVec.getLsbD_xor]
  cases p.getLsbD i <;> cases q.getLsbD i <;> cases r.getLsbD i <;> cases x.getLsbD i <;> cases y.getLsbD i <;> cases z.getLsbD i <;> rfl
/-- The row that is turned, up to a place. -/
def turned (x y z : List Int) : Nat → List Int
  | 0 => []
  | k + 1 => turned x y z k ++ [turn (rd x k) (rd y k) (rd z k)]
theorem turned_length (x y z : List Int) (k : Nat) : (turned x y z k).length = k := by
  induction k with
  | zero => rfl
  | succ k ih => simp [turned, ih]
theorem rd_byte {l : List Int} (h : InByte l) (k : Nat) (hk : k < l.length) : 0 ≤ rd l k ∧ rd l k ≤ 255 := by
  have := h l[k] (List.getElem_mem _)
  unfold rd
  rw [Int.toNat_natCast, List.getD_eq_getElem?_getD, List.getElem?_eq_getElem hk]
  exact this
theorem turned_byte {x y z : List Int} (hx : InByte x) (hy : InByte y) (hz : InByte z) (k : Nat) (h1 : k ≤ x.length) (h2 : k ≤ y.length) (h3 : k ≤ z.length) : InByte (turned x y z k) := by
  induction k with
  | zero => exact inByte_nil
  | succ k ih =>
    refine inByte_append (ih (by omega) (by omega) (by omega)) fun u hu => ?_
    rw [List.mem_singleton.1 hu]
    exact (turn_ok _ _ _ (rd_byte hx k (by omega)) (rd_byte hy k (by omega)) (rd_byte hz k (by omega))).1
theorem reg_turned {x y z : List Int} (hx : InByte x) (hy : InByte y) (hz : InByte z) (p q r : BitVec 32) (k : Nat) (h1 : k ≤ x.length) (h2 : k ≤ y.length) (h3 : k ≤ z.length) :
    M.reg ((p ^^^ q) ^^^ r) (turned x y z k) = (M.reg p (x.take k) ^^^ M.reg q (y.take k)) ^^^ M.reg r (z.take k) := by
  induction k with
  | zero => simp [turned, M.reg_nil]
  | succ k ih =>
    rw [turned, M.reg_snoc, ih (by omega) (by omega) (by omega), take_rd x k (by omega), take_rd y k (by omega), take_rd z k (by omega), M.reg_snoc, M.reg_snoc, M.reg_snoc]
    exact upd_three _ _ _ _ _ _ (rd_byte hx k (by omega)) (rd_byte hy k (by omega)) (rd_byte hz k (by omega))
theorem more_turned {x y z : List Int} (hx : InByte x) (hy : InByte y) (hz : InByte z) (k : Nat) (h1 : k ≤ x.length) (h2 : k ≤ y.length) (h3 : k ≤ z.length) :
    M.more 0 (turned x y z k) = bits .xor .u32 (bits .xor .u32 (M.more 0 (x.take k)) (M.more 0 (y.take k))) (M.more 0 (z.take k)) := by
  unfold M.more
  rw [M.bits_xor, M.bits_xor]
  congr 1
  have e : ~~~(BitVec.ofInt 32 0) = ((~~~(BitVec.ofInt 32 0) ^^^ ~~~(BitVec.ofInt 32 0)) ^^^ ~~~(BitVec.ofInt 32 0)) := by decide
  have h := reg_turned hx hy hz (~~~(BitVec.ofInt 32 0)) (~~~(BitVec.ofInt 32 0)) (~~~(BitVec.ofInt 32 0)) k h1 h2 h3
  rw [← e] at h
  rw [h]
  generalize M.reg (~~~(BitVec.ofInt 32 0)) (x.take k) = a
  generalize M.reg (~~~(BitVec.ofInt 32 0)) (y.take k) = b
  generalize M.reg (~~~(BitVec.ofInt 32 0)) (z.take k) = c
  apply BitVec.eq_of_getLsbD_eq
  intro i hi
  simp only [BitVec.getLsbD_xor, BitVec.getLsbD_not, hi, decide_true, Bool.true_and]
  cases a.getLsbD i <;> cases b.getLsbD i <;> cases c.getLsbD i <;> rfl

/-- A register and four bytes, the lowest first: 32 steps of both, laid upon one another. -/
theorem word_step (r s : BitVec 32) : M.stps 8 (r ^^^ s) = M.upd r (M.N s % 256) ^^^ (s >>> 8) := by
  have e : M.low (r ^^^ s) = M.low (r ^^^ M.B (M.N s % 256)) := by
    apply BitVec.eq_of_toNat_eq
    rw [M.low_toNat, M.low_toNat, BitVec.toNat_xor, BitVec.toNat_xor, show (256 : Nat) = 2 ^ 8 from rfl, Nat.xor_mod_two_pow, Nat.xor_mod_two_pow]
    congr 1
    unfold M.B M.N
    rw [BitVec.toNat_ofInt]
    omega
  have hu := M.upd_table r (M.N s % 256) (by omega) (by omega)
  rw [M.stps8_split, BitVec.ushiftRight_xor_distrib, e, ← hu]
  generalize r >>> 8 = a
  generalize s >>> 8 = b
  generalize M.tab _ = c
  rw [BitVec.xor_assoc, BitVec.xor_comm b, ← BitVec.xor_assoc]
theorem N_shr (s : BitVec 32) (n : Nat) : M.N (s >>> n) = M.N s / (2 ^ n : Nat) := by
  unfold M.N
  rw [BitVec.toNat_ushiftRight, Nat.shiftRight_eq_div_pow]
  rfl
theorem upd_word (r s : BitVec 32) :
    M.reg r [M.N s % 256, M.N s / 256 % 256, M.N s / 65536 % 256, M.N s / 16777216 % 256] = M.stps 8 (M.stps 8 (M.stps 8 (M.stps 8 (r ^^^ s)))) := by
  rw [word_step, word_step, word_step, word_step]
  have e1 : s >>> 8 >>> 8 = s >>> 16 := by rw [← BitVec.shiftRight_add]
  have e2 : s >>> 16 >>> 8 = s >>> 24 := by rw [← BitVec.shiftRight_add]
  have e3 : s >>> 24 >>> 8 = 0#32 := by
    apply BitVec.eq_of_toNat_eq
    rw [BitVec.toNat_ushiftRight, BitVec.toNat_ushiftRight, Nat.shiftRight_eq_div_pow, Nat.shiftRight_eq_div_pow]
    have := s.isLt
    show s.toNat / 2 ^ 24 / 2 ^ 8 = 0
    omega
  rw [e1, e2, e3, BitVec.xor_zero, N_shr, N_shr, N_shr]
  rfl
/-- With its own sum behind it, every row has one and the same sum. -/
theorem more_zero (l : List Int) : M.more (M.more 0 l) [M.more 0 l % 256, M.more 0 l / 256 % 256, M.more 0 l / 65536 % 256, M.more 0 l / 16777216 % 256] = 558161692 := by
  unfold M.more
  generalize M.reg (~~~(BitVec.ofInt 32 0)) l = q
  rw [M.ofInt_N, BitVec.not_not, upd_word]
  have e : q ^^^ ~~~q = BitVec.allOnes 32 := by
    apply BitVec.eq_of_getLsbD_eq
    intro i hi
    simp only [BitVec.getLsbD_xor, BitVec.getLsbD_not, BitVec.getLsbD_allOnes, hi, decide_true, Bool.true_and]
    cases q.getLsbD i <;> rfl
  rw [e]
  decide +kernel
theorem bytes_of_sum (s : Int) : InByte [s % 256, s / 256 % 256, s / 65536 % 256, s / 16777216 % 256] := fun x hx => by
  simp only [List.mem_cons, List.not_mem_nil, or_false] at hx
  rcases hx with rfl | rfl | rfl | rfl <;> omega
end Go.Proofs.Ytnclihpmahjceaa.Plain
