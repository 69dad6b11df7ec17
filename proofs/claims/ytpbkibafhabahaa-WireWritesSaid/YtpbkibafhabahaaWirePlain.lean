/- Numbers and texts as bytes: the plain arithmetic of it. -/
import Derived.Laws.BitsAllLaws
namespace Go.Proofs.Ytpbkibafhabahaa.Wire
open Go
set_option linter.unusedVariables false

def zig (n : Int) : Int := if 0 ≤ n then 2 * n else -2 * n - 1
def unzig (c : Int) : Int := if c % 2 = 0 then c / 2 else -(c / 2) - 1
theorem zig_nonneg (n : Int) : 0 ≤ zig n := by unfold zig; split <;> omega
theorem zig_lt (n : Int) (h0 : -9223372036854775808 ≤ n) (h1 : n ≤ 9223372036854775807) : zig n < 18446744073709551616 := by unfold zig; split <;> omega
theorem unzig_zig (n : Int) : unzig (zig n) = n := by unfold unzig zig; split <;> split <;> omega
theorem zig_unzig (c : Int) (h : 0 ≤ c) : zig (unzig c) = c := by unfold unzig zig; split <;> split <;> omega
theorem unzig_range (c : Int) (h0 : 0 ≤ c) (h : c < 18446744073709551616) : -9223372036854775808 ≤ unzig c ∧ unzig c ≤ 9223372036854775807 := by unfold unzig; split <;> omega

def vbF : Nat → Int → List Int
  | 0, c => [c]
  | k + 1, c => if c < 128 then [c] else (c % 128 + 128) :: vbF k (c / 128)
/-- A count's bytes. -/
def vb (c : Int) : List Int := vbF 9 c
theorem vbF_len (k : Nat) : ∀ c, 1 ≤ (vbF k c).length ∧ (vbF k c).length ≤ k + 1 := by
  induction k with
  | zero => intro c; simp [vbF]
  | succ k ih =>
    intro c
    unfold vbF
    have := ih (c / 128)
    split
    · simp
    · simp only [List.length_cons]; omega
theorem vb_len (c : Int) : 1 ≤ (vb c).length ∧ (vb c).length ≤ 10 := vbF_len 9 c
theorem vbF_byte (k : Nat) : ∀ c, 0 ≤ c → c < 2 * 128 ^ k → ∀ x ∈ vbF k c, 0 ≤ x ∧ x < 256 := by
  induction k with
  | zero => intro c h0 h1 x hx; simp [vbF] at hx; subst hx; omega
  | succ k ih =>
    intro c h0 h1 x hx
    unfold vbF at hx
    rw [Int.pow_succ] at h1
    split at hx
    · simp at hx; omega
    · rw [List.mem_cons] at hx
      rcases hx with rfl | hx
      · omega
      · exact ih (c / 128) (by omega) (by omega) x hx
theorem vb_byte (c : Int) (h0 : 0 ≤ c) (h : c < 18446744073709551616) : ∀ x ∈ vb c, 0 ≤ x ∧ x < 256 := vbF_byte 9 c h0 (by simpa using h)

/-- What bytes begin with: the number, how many bytes it has, what is wrong. -/
def decG : Nat → Int → List Int → Int × Int × Int
  | _, _, [] => (0, 0, 13)
  | i, c, x :: r => if i = 9 ∧ 1 < x ∨ 0 < i ∧ x = 0 then (0, 0, 12) else if x < 128 then (unzig (c + x * 128 ^ i), (i : Int) + 1, 0) else decG (i + 1) (c + (x - 128) * 128 ^ i) r
def dec (l : List Int) : Int × Int × Int := decG 0 0 l
theorem decG_vb (k : Nat) : ∀ (i : Nat) (c q : Int) (r : List Int), i + k = 9 → 0 ≤ q → q < 2 * 128 ^ k → (0 < i → 0 < q) → decG i c (vbF k q ++ r) = (unzig (c + q * 128 ^ i), (i : Int) + (vbF k q).length, 0) := by
  induction k with
  | zero =>
    intro i c q r hi h0 h1 hp
    have : q < 2 := by simpa using h1
    simp only [vbF, List.cons_append, List.nil_append, decG]
    rw [if_neg (by omega), if_pos (by omega)]
    rfl
  | succ k ih =>
    intro i c q r hi h0 h1 hp
    rw [Int.pow_succ] at h1
    unfold vbF
    split
    · simp only [List.cons_append, List.nil_append, decG]
      rw [if_neg (by omega), if_pos (by omega)]
      rfl
    · simp only [List.cons_append, decG]
      rw [if_neg (by omega), if_neg (by omega), ih (i + 1) _ (q / 128) r (by omega) (by omega) (by omega) (by omega)]
      have e : c + (q % 128 + 128 - 128) * 128 ^ i + q / 128 * 128 ^ (i + 1) = c + q * 128 ^ i := by
        have h2 : q / 128 * 128 ^ (i + 1) = (q / 128 * 128) * (128 : Int) ^ i := by rw [Int.pow_succ, Int.mul_comm (128 ^ i) 128, ← Int.mul_assoc]
        rw [h2, show q % 128 + 128 - 128 = q % 128 by omega, Int.add_assoc, ← Int.add_mul, show q % 128 + q / 128 * 128 = q by omega]
      rw [e]
      simp only [List.length_cons]
      congr 2
      push_cast
      omega
theorem dec_vb (c : Int) (r : List Int) (h0 : 0 ≤ c) (h : c < 18446744073709551616) : dec (vb c ++ r) = (unzig c, ((vb c).length : Int), 0) := by
  unfold dec vb
  rw [decG_vb 9 0 0 c r rfl h0 (by simpa using h) (by omega)]
  simp
theorem decG_cut (k : Nat) : ∀ (i : Nat) (c q : Int) (j : Nat), i + k = 9 → 0 ≤ q → q < 2 * 128 ^ k → j < (vbF k q).length → decG i c ((vbF k q).take j) = (0, 0, 13) := by
  induction k with
  | zero =>
    intro i c q j hi h0 h1 hj
    obtain rfl : j = 0 := by simp [vbF] at hj; exact hj
    rfl
  | succ k ih =>
    intro i c q j hi h0 h1 hj
    rw [Int.pow_succ] at h1
    unfold vbF at hj ⊢
    split at hj
    · obtain rfl : j = 0 := by simp at hj; exact hj
      rfl
    · rename_i hge
      rw [if_neg hge]
      cases j with
      | zero => rfl
      | succ j =>
        simp only [List.take_succ_cons, decG]
        rw [if_neg (by omega), if_neg (by omega)]
        exact ih (i + 1) _ (q / 128) j (by omega) (by omega) (by omega) (by simpa using hj)
theorem dec_cut (c : Int) (j : Nat) (h0 : 0 ≤ c) (h : c < 18446744073709551616) (hj : j < (vb c).length) : dec ((vb c).take j) = (0, 0, 13) := decG_cut 9 0 0 c j rfl h0 (by simpa using h) hj
/-- What is got has just those bytes. -/
theorem decG_form : ∀ (l : List Int) (i : Nat) (c x n : Int), (∀ y ∈ l, 0 ≤ y ∧ y < 256) → i ≤ 9 → decG i c l = (x, n, 0) →
    ∃ q : Int, 0 ≤ q ∧ q < 2 * 128 ^ (9 - i) ∧ (0 < i → 0 < q) ∧ x = unzig (c + q * 128 ^ i) ∧ n = (i : Int) + (vbF (9 - i) q).length ∧ (vbF (9 - i) q).length ≤ l.length ∧ l.take (vbF (9 - i) q).length = vbF (9 - i) q
  | [], i, c, x, n, _, _, h => by simp [decG] at h
  | y :: r, i, c, x, n, hb, hi, h => by
    have hy := hb y (by simp)
    simp only [decG] at h
    split at h
    · simp at h
    · split at h
      · rename_i h1 h2
        simp only [Prod.mk.injEq] at h
        have hv : vbF (9 - i) y = [y] := by
          rcases Nat.eq_zero_or_pos (9 - i) with e | e
          · rw [e]; rfl
          · obtain ⟨m, hm⟩ : ∃ m, 9 - i = m + 1 := ⟨9 - i - 1, by omega⟩
            rw [hm]; simp only [vbF]; rw [if_pos h2]
        refine ⟨y, hy.1, ?_, by omega, h.1.symm, by rw [hv]; simp; omega, by rw [hv]; simp, by rw [hv]; rfl⟩
        rcases Nat.eq_zero_or_pos (9 - i) with e | e
        · rw [e]; have : i = 9 := by omega
          simp; omega
        · obtain ⟨m, hm⟩ : ∃ m, 9 - i = m + 1 := ⟨9 - i - 1, by omega⟩
          rw [hm, Int.pow_succ]
          have : (1 : Int) ≤ 128 ^ m := Int.pow_pos (by omega)
          omega
      · rename_i h1 h2
        have hi9 : i < 9 := by omega
        obtain ⟨q, q0, q1, q2, rfl, rfl, ql, qt⟩ := decG_form r (i + 1) _ x n (fun z hz => hb z (by simp [hz])) (by omega) h
        obtain ⟨m, hm⟩ : ∃ m, 9 - i = m + 1 := ⟨9 - i - 1, by omega⟩
        have hm' : 9 - (i + 1) = m := by omega
        rw [hm'] at q1 ql qt ⊢
        have hv : vbF (9 - i) ((y - 128) + q * 128) = y :: vbF m q := by
          rw [hm]; simp only [vbF]
          have := q2 (by omega)
          rw [if_neg (by omega), show (y - 128 + q * 128) % 128 + 128 = y by omega, show (y - 128 + q * 128) / 128 = q by omega]
        refine ⟨(y - 128) + q * 128, by omega, ?_, ?_, ?_, ?_, ?_, ?_⟩
        · rw [hm, Int.pow_succ]; omega
        · intro _; have := q2 (by omega); omega
        · congr 1
          have h3 : q * 128 ^ (i + 1) = (q * 128) * (128 : Int) ^ i := by rw [Int.pow_succ, Int.mul_comm (128 ^ i) 128, ← Int.mul_assoc]
          rw [h3, Int.add_assoc, ← Int.add_mul]
        · rw [hv]; simp only [List.length_cons]; push_cast; omega
        · rw [hv]; simp only [List.length_cons]; omega
        · rw [hv]; simp only [List.length_cons, List.take_succ_cons]; rw [qt]
theorem dec_form (l : List Int) (x n : Int) (hb : ∀ y ∈ l, 0 ≤ y ∧ y < 256) (h : dec l = (x, n, 0)) :
    n = (vb (zig x)).length ∧ (vb (zig x)).length ≤ l.length ∧ l.take (vb (zig x)).length = vb (zig x) ∧ -9223372036854775808 ≤ x ∧ x ≤ 9223372036854775807 := by
  obtain ⟨q, q0, q1, _, hx, hn, ql, qt⟩ := decG_form l 0 0 x n hb (by omega) h
  have e : zig x = q := by rw [hx]; simp [zig_unzig q q0]
  have hr := unzig_range q q0 (by simpa using q1)
  have hx' : x = unzig q := by rw [hx]; simp
  unfold vb
  rw [e]
  refine ⟨by simpa using hn, ql, qt, by omega, by omega⟩
/-- What a try tells: a number within int64, and no error; or nothing, and an error. -/
theorem decG_cases : ∀ (l : List Int) (i : Nat) (c : Int), i ≤ 9 → (∃ x n, decG i c l = (x, n, 0) ∧ (i : Int) < n ∧ n ≤ i + l.length ∧ n ≤ 10) ∨ decG i c l = (0, 0, 12) ∨ decG i c l = (0, 0, 13)
  | [], i, c, hi => .inr (.inr rfl)
  | y :: r, i, c, hi => by
    simp only [decG]
    split
    · exact .inr (.inl rfl)
    · split
      · exact .inl ⟨_, _, rfl, by omega, by simp only [List.length_cons]; push_cast; omega, by omega⟩
      · rename_i h1 h2
        rcases decG_cases r (i + 1) (c + (y - 128) * 128 ^ i) (by omega) with ⟨x, n, h, ha, hb, hc⟩ | h | h
        · exact .inl ⟨x, n, h, by push_cast at ha; omega, by simp only [List.length_cons]; push_cast at hb ⊢; omega, hc⟩
        · exact .inr (.inl h)
        · exact .inr (.inr h)
theorem dec_cases (l : List Int) : (∃ x n, dec l = (x, n, 0) ∧ 0 < n ∧ n ≤ l.length ∧ n ≤ 10) ∨ dec l = (0, 0, 12) ∨ dec l = (0, 0, 13) := by
  rcases decG_cases l 0 0 (by omega) with ⟨x, n, h, h1, h2, h3⟩ | h
  · exact .inl ⟨x, n, h, by simpa using h1, by simpa using h2, h3⟩
  · exact .inr h

/-! ### A reader: what is left, what is wrong -/
def within (least most : Int) (l : List Int) : Int × Int × Int := if (dec l).2.2 = 0 ∧ ((dec l).1 < least ∨ most < (dec l).1) then ((dec l).1, (dec l).2.1, 12) else dec l
def rStep (t : Int × Int × Int) (l : List Int) : Int × List Int × Int := if t.2.2 = 0 then (t.1, l.drop t.2.1.toNat, 0) else (0, l, t.2.2)
def rNum (l : List Int) (e : Int) : Int × List Int × Int := if e = 0 then rStep (dec l) l else (0, l, e)
def rInt (least most : Int) (l : List Int) (e : Int) : Int × List Int × Int := if e = 0 then rStep (within least most l) l else (0, l, e)
def textOf (most : Int) (l : List Int) : List Int × Int × Int :=
  let t := within 0 most l
  if t.2.2 = 0 then (if t.1 ≤ l.length - t.2.1 then ((l.drop t.2.1.toNat).take t.1.toNat, t.2.1 + t.1, 0) else ([], 0, 13)) else ([], 0, t.2.2)
def rText (most : Int) (l : List Int) (e : Int) : List Int × List Int × Int := if e = 0 then (if (textOf most l).2.2 = 0 then ((textOf most l).1, l.drop (textOf most l).2.1.toNat, 0) else ([], l, (textOf most l).2.2)) else ([], l, e)
def rEnd (l : List Int) (e : Int) : Int := if e = 0 ∧ l ≠ [] then 12 else e
end Go.Proofs.Ytpbkibafhabahaa.Wire
