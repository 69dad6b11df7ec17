/- Frames in plain Lean: what is got is right; cut bytes, and bytes that are turned, are none. -/
import Derived.Test.YtgfpkgbkbempkaaPlain
namespace Go.Proofs.Ytgfpkgbkbempkaa.Plain
open Go.RowKit Go.Proofs.Ytgfpkgbkbempkaa.W Go.Proofs.Ytgfpkgbkbempkaa.M Go.Proofs.Ytgfpkgbkbempkaa.Print Go.Proofs.YtgfpkgbkbempkaaW.PrintWords
set_option linter.unusedVariables false
set_option linter.unusedSimpArgs false

theorem get_err {l : List Int} (h : (getF l).2.2.2.2 ≠ 0) : ∃ e, e ≠ 0 ∧ getF l = (0, 0, [], 0, e) := by
  unfold getF at h ⊢
  repeat' split
  all_goals first
    | exact ⟨_, by decide, rfl⟩
    | (exfalso; apply h; simp only [*, if_false, if_true, not_false_eq_true, reduceIte]; done)
    | skip
  all_goals (exfalso; apply h; repeat' split <;> first | rfl | contradiction)
theorem be_two {l : List Int} (h : InByte l) (n : Nat) (hn : beN (l.take 2) = n) (h2 : 2 ≤ l.length) : be 2 n = l.take 2 := by
  have e := be_beN (l.take 2) (in_take h 2)
  rwa [List.length_take, Nat.min_eq_left h2, hn] at e
theorem be_one {t : Int} (h : 0 ≤ t ∧ t ≤ 255) : be 1 t = [t] := by
  show be 0 (t / 256) ++ [t % 256] = [t]
  rw [show t % 256 = t by omega]
  rfl
theorem split7 (l : List Int) (n : Nat) (h : n + 7 ≤ l.length) : l.take 2 ++ ([rd l 2] ++ ((l.take 7).drop 3 ++ (l.take (n + 7)).drop 7)) = l.take (n + 7) := by
  have e1 : (l.take (n + 7)).take 2 = l.take 2 := by rw [List.take_take, Nat.min_eq_left (by omega)]
  have e2 : (l.take (n + 7)).drop 2 = [rd l 2] ++ (l.take (n + 7)).drop 3 := by
    rw [List.drop_eq_getElem_cons (by rw [List.length_take]; omega), List.getElem_take]
    unfold rd
    rw [List.getD_eq_getElem?_getD, show (2 : Int).toNat = 2 from rfl, List.getElem?_eq_getElem (by omega)]
    rfl
  have e3 : (l.take (n + 7)).drop 3 = (l.take 7).drop 3 ++ (l.take (n + 7)).drop 7 := by
    have e : ((l.take (n + 7)).drop 3).take 4 = (l.take 7).drop 3 := by
      rw [List.take_drop, List.take_take, show min (3 + 4) (n + 7) = 7 by omega]
    rw [← e, show 7 = 3 + 4 from rfl, ← List.drop_drop, show n + (3 + 4) = n + 7 from rfl, List.take_append_drop]
  rw [← e3, ← e2, ← e1, List.take_append_drop]
/-- What is got is right, and has just the bytes that were read. -/
theorem get_ok {l : List Int} (h : InByte l) (h0 : (getF l).2.2.2.2 = 0) : ∃ t s b, getF l = (t, s, b, ((b.length + 11 : Nat) : Int), 0) ∧ rightB t s b.length = true ∧ b.length + 11 ≤ l.length ∧ putF t s b = l.take (b.length + 11) ∧ InByte b := by
  generalize hu : getF l = G at h0 ⊢
  unfold getF at hu
  by_cases h2 : l.length < 2
  · rw [if_pos h2] at hu; subst hu; cases h0
  obtain ⟨n, hn, hn2⟩ := two_range h h2
  rw [hn, Int.toNat_natCast, if_neg h2] at hu
  by_cases h3 : 1800 < (n : Int)
  · rw [if_pos h3] at hu; subst hu; cases h0
  rw [if_neg h3] at hu
  by_cases h4 : l.length < n + 11
  · rw [if_pos h4] at hu; subst hu; cases h0
  rw [if_neg h4] at hu
  by_cases h5' : beN ((l.take (n + 11)).drop (n + 7)) ≠ more 0 (l.take (n + 7))
  · rw [if_pos h5'] at hu; subst hu; cases h0
  rw [if_neg h5'] at hu
  have h5 := Decidable.not_not.1 h5'
  by_cases h6 : rightB (rd l 2) (beN ((l.take 7).drop 3)) n = false
  · rw [if_pos h6] at hu; subst hu; cases h0
  rw [if_neg h6] at hu
  have hbl : ((l.take (n + 7)).drop 7).length = n := by rw [List.length_drop, List.length_take]; omega
  have hr : rightB (rd l 2) (beN ((l.take 7).drop 3)) ((l.take (n + 7)).drop 7).length = true := by rw [hbl]; simpa using h6
  refine ⟨rd l 2, beN ((l.take 7).drop 3), (l.take (n + 7)).drop 7, by rw [← hu, hbl], hr, by rw [hbl]; omega, ?_, in_drop (in_take h _) _⟩
  have e4 : be 4 (beN ((l.take 7).drop 3)) = (l.take 7).drop 3 := by
    have e := be_beN ((l.take 7).drop 3) (in_drop (in_take h _) _)
    rwa [show ((l.take 7).drop 3).length = 4 by rw [List.length_drop, List.length_take]; omega] at e
  have e5 : be 4 (more 0 (l.take (n + 7))) = (l.take (n + 11)).drop (n + 7) := by
    have e := be_beN ((l.take (n + 11)).drop (n + 7)) (in_drop (in_take h _) _)
    rwa [show ((l.take (n + 11)).drop (n + 7)).length = 4 by rw [List.length_drop, List.length_take]; omega, h5] at e
  have hrd : 0 ≤ rd l 2 ∧ rd l 2 ≤ 255 := rd_byte h 2 (by omega)
  have hP : preB (rd l 2) (beN ((l.take 7).drop 3)) ((l.take (n + 7)).drop 7) = l.take (n + 7) := by
    unfold preB
    rw [hbl, be_two h n hn (by omega), be_one hrd, e4]
    exact split7 l n (by omega)
  unfold putF
  rw [if_pos hr, hP, e5, hbl]
  have e6 : (l.take (n + 11)).take (n + 7) = l.take (n + 7) := by rw [List.take_take, Nat.min_eq_left (by omega)]
  rw [← e6, List.take_append_drop]
/-- Cut bytes of a right frame are none. -/
theorem get_cut {t s : Int} {b : List Int} (hb : InByte b) (hr : rightB t s b.length = true) (k : Nat) (hk : k < b.length + 11) : getF ((putF t s b).take k) = (0, 0, [], 0, 13) := by
  have hl : ((putF t s b).take k).length = k := by rw [List.length_take, put_len hr]; omega
  have h5 := (right_iff.1 hr).2.2.2.2
  unfold getF
  rw [hl]
  by_cases h2 : k < 2
  · rw [if_pos h2]
  rw [if_neg h2]
  have a1 : ((putF t s b).take k).take 2 = be 2 b.length := by
    rw [List.take_take, Nat.min_eq_left (by omega)]
    unfold putF
    rw [if_pos hr]
    unfold preB
    rw [List.append_assoc, List.take_left' (be_length 2 _)]
  have v1 : beN (be 2 b.length) = b.length := beN_be 2 _ (by omega) (by have : ((256 : Int) ^ 2) = 65536 := rfl; omega)
  rw [a1, v1, Int.toNat_natCast, if_neg (by omega), if_pos (by omega)]
end Go.Proofs.Ytgfpkgbkbempkaa.Plain
