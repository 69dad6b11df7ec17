/- Frames in plain Lean: alike, and bytes that are alike. -/
import Derived.Test.YtgfpkgbkbempkaaPlainB
import Derived.Lib.Bytes
namespace Go.Proofs.Ytgfpkgbkbempkaa.Plain
open Go.RowKit Go.Proofs.Ytgfpkgbkbempkaa.W Go.Proofs.Ytgfpkgbkbempkaa.M Go.Proofs.Ytgfpkgbkbempkaa.Print Go.Proofs.YtgfpkgbkbempkaaW.PrintWords
set_option linter.unusedVariables false
set_option linter.unusedSimpArgs false

theorem u8_inj {a b : Int} (ha : 0 ≤ a ∧ a ≤ 255) (hb : 0 ≤ b ∧ b ≤ 255) (h : UInt8.ofNat a.toNat = UInt8.ofNat b.toNat) : a = b := by
  have h1 := congrArg UInt8.toNat h
  rw [UInt8.toNat_ofNat_of_lt' (by show a.toNat < 256; omega), UInt8.toNat_ofNat_of_lt' (by show b.toNat < 256; omega)] at h1
  omega
theorem map_inj : ∀ {xs ys : List Int}, InByte xs → InByte ys → (xs.map fun n => UInt8.ofNat n.toNat) = (ys.map fun n => UInt8.ofNat n.toNat) → xs = ys
  | [], [], _, _, _ => rfl
  | [], _ :: _, _, _, h => by cases h
  | _ :: _, [], _, _, h => by cases h
  | x :: xs, y :: ys, hx, hy, h => by
    rw [List.map_cons, List.map_cons] at h
    injection h with h1 h2
    rw [u8_inj (hx x (List.mem_cons_self ..)) (hy y (List.mem_cons_self ..)) h1, map_inj (fun z hz => hx z (List.mem_cons_of_mem _ hz)) (fun z hz => hy z (List.mem_cons_of_mem _ hz)) h2]
theorem str_inj {xs ys : List Int} (hx : InByte xs) (hy : InByte ys) (h : (strOfNums xs).toList = (strOfNums ys).toList) : xs = ys := by
  rw [Go.Lib.strOfNums_toList, Go.Lib.strOfNums_toList] at h
  exact map_inj hx hy h
theorem str_eq {xs ys : List Int} (hx : InByte xs) (hy : InByte ys) : ((strOfNums xs).toList == (strOfNums ys).toList) = decide (xs = ys) := by
  by_cases h : xs = ys
  · subst h; rw [decide_eq_true rfl]; exact beq_self_eq_true _
  · rw [decide_eq_false h]
    exact beq_eq_false_iff_ne.2 fun e => h (str_inj hx hy e)
theorem sameF_self (x : S24) : sameF x x = true := by
  unfold sameF
  rw [beq_self_eq_true, beq_self_eq_true, beq_self_eq_true]
  rfl
theorem sameL_self : ∀ l : List S24, sameL l l = true
  | [] => rfl
  | x :: l => by rw [sameL, sameF_self, sameL_self l]; rfl
theorem sameF_eq {x y : S24} (hx : InByte x.f2) (hy : InByte y.f2) : sameF x y = decide (x.f0 = y.f0 ∧ x.f1 = y.f1 ∧ x.f2 = y.f2) := by
  unfold sameF
  rw [str_eq hx hy]
  by_cases h0 : x.f0 = y.f0
  · by_cases h1 : x.f1 = y.f1
    · simp [h0, h1]
    · simp [h0, h1]
  · simp [h0]
theorem put_inj {a b : S24} (ha : InByte a.f2) (hb : InByte b.f2) (hra : rightB a.f0 a.f1 a.f2.length = true) (hrb : rightB b.f0 b.f1 b.f2.length = true) (h : putF a.f0 a.f1 a.f2 = putF b.f0 b.f1 b.f2) : a.f0 = b.f0 ∧ a.f1 = b.f1 ∧ a.f2 = b.f2 := by
  have h1 := get_put [] ha hra
  rw [h, get_put [] hb hrb] at h1
  simp only [Prod.mk.injEq] at h1
  exact ⟨h1.1.symm, h1.2.1.symm, h1.2.2.1.symm⟩
/-- Neither of two right frames that are unlike has bytes that begin the other's. -/
theorem put_prefix {a b : S24} (ha : InByte a.f2) (hb : InByte b.f2) (hra : rightB a.f0 a.f1 a.f2.length = true) (hrb : rightB b.f0 b.f1 b.f2.length = true) (n : Nat) (hn : n = min (putF a.f0 a.f1 a.f2).length (putF b.f0 b.f1 b.f2).length) :
    ((putF a.f0 a.f1 a.f2).take n = (putF b.f0 b.f1 b.f2).take n) ↔ (a.f0 = b.f0 ∧ a.f1 = b.f1 ∧ a.f2 = b.f2) := by
  have la := put_len hra
  have lb := put_len hrb
  have ba := (right_iff.1 hra).2.2.2.2
  have bb := (right_iff.1 hrb).2.2.2.2
  constructor
  · intro h
    have take2 : ∀ {t s : Int} {l : List Int}, rightB t s l.length = true → (putF t s l).take 2 = be 2 l.length := fun {t s l} hr => by
      unfold putF
      rw [if_pos hr]
      unfold preB
      rw [List.append_assoc, List.take_left' (be_length 2 _)]
    have h2 := congrArg (List.take 2) h
    rw [List.take_take, List.take_take, Nat.min_eq_left (by omega), take2 hra, take2 hrb] at h2
    have h3 := congrArg beN h2
    rw [beN_be 2 _ (by omega) (by have : ((256 : Int) ^ 2) = 65536 := rfl; omega), beN_be 2 _ (by omega) (by have : ((256 : Int) ^ 2) = 65536 := rfl; omega)] at h3
    have e1 : n = (putF a.f0 a.f1 a.f2).length := by omega
    have e2 : n = (putF b.f0 b.f1 b.f2).length := by omega
    rw [List.take_of_length_le (Nat.le_of_eq e1.symm), List.take_of_length_le (Nat.le_of_eq e2.symm)] at h
    exact put_inj ha hb hra hrb h
  · rintro ⟨h0, h1, h2⟩
    rw [h0, h1, h2]
end Go.Proofs.Ytgfpkgbkbempkaa.Plain
