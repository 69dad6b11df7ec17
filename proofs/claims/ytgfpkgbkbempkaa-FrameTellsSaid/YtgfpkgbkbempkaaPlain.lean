/- Frames in plain Lean: bytes of a frame, what bytes begin with, one the other's inverse. -/
import Derived.Test.YtgfpkgbkbempkaaPrint4
namespace Go.Proofs.Ytgfpkgbkbempkaa.Plain
open Go.RowKit Go.Proofs.Ytgfpkgbkbempkaa.W Go.Proofs.Ytgfpkgbkbempkaa.M Go.Proofs.Ytgfpkgbkbempkaa.Print Go.Proofs.YtgfpkgbkbempkaaW.PrintWords
set_option linter.unusedVariables false
set_option linter.unusedSimpArgs false

def preB (t s : Int) (b : List Int) : List Int := be 2 b.length ++ (be 1 t ++ (be 4 s ++ b))
def putF (t s : Int) (b : List Int) : List Int := if rightB t s b.length = true then preB t s b ++ be 4 (more 0 (preB t s b)) else []
theorem be_in : ∀ (m : Nat) (n : Int), InByte (be m n)
  | 0, _ => fun x hx => by simp [be] at hx
  | m + 1, n => fun x hx => by
    rw [be, List.mem_append] at hx
    rcases hx with hx | hx
    · exact be_in m _ x hx
    · rw [List.mem_singleton] at hx
      subst hx
      omega
theorem pre_in {t s : Int} {b : List Int} (h : InByte b) : InByte (preB t s b) := fun x hx => by
  unfold preB at hx
  rw [List.mem_append, List.mem_append, List.mem_append] at hx
  rcases hx with hx | hx | hx | hx
  · exact be_in _ _ x hx
  · exact be_in _ _ x hx
  · exact be_in _ _ x hx
  · exact h x hx
theorem put_in {t s : Int} {b : List Int} (h : InByte b) : InByte (putF t s b) := fun x hx => by
  unfold putF at hx
  split at hx
  · rw [List.mem_append] at hx
    rcases hx with hx | hx
    · exact pre_in h x hx
    · exact be_in _ _ x hx
  · cases hx
theorem pre_len (t s : Int) (b : List Int) : (preB t s b).length = b.length + 7 := by
  unfold preB
  rw [List.length_append, List.length_append, List.length_append, be_length, be_length, be_length]
  omega
theorem right_iff {t s : Int} {n : Nat} : rightB t s n = true ↔ 0 < t ∧ t ≤ 15 ∧ 0 ≤ s ∧ s ≤ 1073741824 ∧ n ≤ 1800 := by unfold rightB; exact decide_eq_true_iff
theorem put_len {t s : Int} {b : List Int} (h : rightB t s b.length = true) : (putF t s b).length = b.length + 11 := by
  unfold putF
  rw [if_pos h, List.length_append, pre_len, be_length]
theorem all_in {l : List Int} (h : InByte l) : (l.all fun x => decide (0 ≤ x ∧ x ≤ 255)) = true := List.all_eq_true.2 fun x hx => decide_eq_true (h x hx)
theorem read_eq {l : List Int} (h : InByte l) (hl : l.length ≤ 4) : frame_read.f l = some (beN l) := by
  unfold frame_read.f
  rw [if_pos ⟨hl, all_in h⟩]
theorem of_eq {l : List Int} (h : InByte l) : sum_Of.f l = some (more 0 l) := by
  unfold sum_Of.f sum_More.f
  rw [sumF_of (by omega) h, Option.bind_some]
theorem refof_eq {l : List Int} (h : InByte l) : governorref02_Of.f l = some (more 0 l) := by
  unfold governorref02_Of.f governorref02_More.f
  rw [sumF_of (by omega) h, Option.bind_some]
theorem w64 {n : Int} (h0 : -9223372036854775808 ≤ n) (h1 : n ≤ 9223372036854775807) : wrap64 n = n := by
  unfold wrap64
  omega
theorem mod32 {n : Int} (h0 : 0 ≤ n) (h1 : n ≤ 4294967295) : n % 4294967296 = n := by omega
theorem parts_eq (a b c : Int) : partsB [⟨a, 2⟩, ⟨b, 1⟩, ⟨c, 4⟩] = be 2 a ++ (be 1 b ++ be 4 c) := by
  simp [partsB]
theorem put_eq {t s : Int} {b : List Int} (h : InByte b) : frame_Put.f t s b = some (putF t s b) := by
  unfold frame_Put.f frame_Right.f putF
  rw [Option.bind_some]
  by_cases hr : rightB t s b.length = true
  · rw [if_pos hr, if_pos hr]
    obtain ⟨h1, h2, h3, h4, h5⟩ := right_iff.1 hr
    rw [mod32 (n := (b.length : Int)) (by omega) (by omega), mod32 (n := t) (by omega) (by omega), mod32 (n := s) (by omega) (by omega)]
    have e1 : frame_number.f [⟨(b.length : Int), 2⟩, ⟨t, 1⟩, ⟨s, 4⟩] = some (be 2 b.length ++ (be 1 t ++ be 4 s)) := by
      unfold frame_number.f
      rw [if_pos ⟨by simp, by simp [okPart]; omega⟩, parts_eq]
    rw [e1, Option.bind_some]
    have e2 : slices_Concat_byte_byte.f [be 2 b.length ++ (be 1 t ++ be 4 s), b] = some (preB t s b) := by
      unfold slices_Concat_byte_byte.f
      have : [be 2 b.length ++ (be 1 t ++ be 4 s), b].flatten = preB t s b := by simp [preB]
      rw [this, pre_len, if_pos (by omega)]
    rw [e2, Option.bind_some, of_eq (pre_in h), Option.bind_some]
    have hm := more_range 0 (preB t s b)
    have e3 : frame_number.f [⟨more 0 (preB t s b), 4⟩] = some (be 4 (more 0 (preB t s b))) := by
      unfold frame_number.f
      rw [if_pos ⟨by simp, by simp [okPart]; omega⟩]
      simp [partsB]
    rw [e3, Option.bind_some, pre_len, be_length, if_pos (by omega)]
  · rw [if_neg hr, if_neg hr]
theorem refright_eq (t s : Int) (b : List Int) : governorref03_Right.f t s b = some (rightB t s b.length) := by
  unfold governorref03_Right.f
  by_cases h1 : t ≥ 1
  · rw [if_pos h1]
    by_cases h2 : t ≤ 15
    · rw [if_pos h2]
      by_cases h3 : s ≥ 0
      · rw [if_pos h3]
        by_cases h4 : s ≤ 1073741824
        · rw [if_pos h4]
          congr 1
          unfold rightB
          exact decide_eq_decide.2 (by omega)
        · rw [if_neg h4]
          congr 1
          unfold rightB
          exact (decide_eq_false (by omega)).symm
      · rw [if_neg h3]
        congr 1
        unfold rightB
        exact (decide_eq_false (by omega)).symm
    · rw [if_neg h2]
      congr 1
      unfold rightB
      exact (decide_eq_false (by omega)).symm
  · rw [if_neg h1]
    congr 1
    unfold rightB
    exact (decide_eq_false (by omega)).symm
theorem u64w {n : Int} (h0 : 0 ≤ n) (h1 : n ≤ 18446744073709551615) : IntKind.u64.wrap n = n := by
  rw [show IntKind.u64.wrap n = n % 18446744073709551616 by simp [IntKind.wrap, IntKind.bits, IntKind.signed]]
  omega
theorem refnum_eq {n : Int} (m : Nat) (h0 : 0 ≤ n) (h1 : n ≤ 18446744073709551615) (hm : m ≤ 8) : governorref03_Number.f n m = some (be m n) := by
  unfold governorref03_Number.f
  rw [if_pos ⟨h0, h1, by omega, by omega⟩, Int.toNat_natCast]
theorem refnum2 {n : Int} (h0 : 0 ≤ n) (h1 : n ≤ 18446744073709551615) : governorref03_Number.f n 2 = some (be 2 n) := refnum_eq 2 h0 h1 (by decide)
theorem refnum4 {n : Int} (h0 : 0 ≤ n) (h1 : n ≤ 18446744073709551615) : governorref03_Number.f n 4 = some (be 4 n) := refnum_eq 4 h0 h1 (by decide)
theorem refput_eq {t s : Int} {b : List Int} (h : InByte b) : governorref03_Put.f t s b = some (putF t s b) := by
  unfold governorref03_Put.f putF
  rw [refright_eq, Option.bind_some]
  by_cases hr : rightB t s b.length = true
  · rw [if_pos hr, if_pos hr]
    obtain ⟨h1, h2, h3, h4, h5⟩ := right_iff.1 hr
    have hm := more_range 0 (preB t s b)
    have e1 : be 1 t = [t % 256] := by simp [be]
    have e2 : (be 2 b.length ++ [t % 256] ++ be 4 s ++ b) = preB t s b := by simp [preB, e1]
    rw [u64w (n := (b.length : Int)) (by omega) (by omega), refnum2 (by omega) (by omega), Option.bind_some, Option.bind_some, if_pos (by rw [be_length]; simp), Option.bind_some,
      u64w (n := s) (by omega) (by omega), refnum4 (by omega) (by omega), Option.bind_some, if_pos (by simp [be_length]), Option.bind_some, if_pos (by simp [be_length]; omega), Option.bind_some, e2, refof_eq (pre_in h), Option.bind_some,
      u64w (by omega) (by omega), refnum4 (by omega) (by omega), Option.bind_some, if_pos (by rw [pre_len, be_length]; omega)]
  · rw [if_neg hr, if_neg hr]

theorem two_range {l : List Int} (h : InByte l) (h2 : ¬ l.length < 2) : ∃ n : Nat, beN (l.take 2) = (n : Int) ∧ n ≤ 65535 := by
  have hr := beN_range (l.take 2) (in_take h 2)
  rw [List.length_take, Nat.min_eq_left (by omega)] at hr
  exact ⟨(beN (l.take 2)).toNat, by omega, by have := hr.2; omega⟩
theorem get_eq {l : List Int} (h : InByte l) (hl : l.length ≤ 1000000) : frame_Get.f l = some (getF l) := by
  unfold frame_Get.f getF
  by_cases h2 : l.length < 2
  · rw [if_pos (by omega), if_pos h2]
  rw [if_neg (by omega), if_neg h2, if_pos (by omega), read_eq (in_take h 2) (by rw [List.length_take]; omega), Option.bind_some]
  obtain ⟨n, hn, hn2⟩ := two_range h h2
  rw [hn, w64 (n := (n : Int)) (by omega) (by omega), Int.toNat_natCast]
  by_cases h3 : (n : Int) > 1800
  · rw [if_pos h3, if_pos (by omega)]
  rw [if_neg h3, if_neg (show ¬ 1800 < (n : Int) by omega), w64 (n := 11 + (n : Int)) (by omega) (by omega), w64 (n := 7 + (n : Int)) (by omega) (by omega)]
  by_cases h4 : l.length < n + 11
  · rw [if_pos (by omega), if_pos h4]
  rw [if_neg (by omega), if_neg h4, if_pos (by omega), w64 (n := 7 + (n : Int) + 4) (by omega) (by omega), if_pos (by omega), if_pos (by omega)]
  rw [show (7 + (n : Int) + 4).toNat = n + 11 by omega, show (7 + (n : Int)).toNat = n + 7 by omega]
  rw [read_eq (in_drop (in_take h _) _) (by rw [List.length_drop, List.length_take]; omega), Option.bind_some, if_pos (by omega), of_eq (in_take h _), Option.bind_some]
  by_cases h5 : beN ((l.take (n + 11)).drop (n + 7)) = more 0 (l.take (n + 7))
  · rw [if_pos h5, if_neg (show ¬ (beN ((l.take (n + 11)).drop (n + 7)) ≠ more 0 (l.take (n + 7))) from fun hne => hne h5), if_pos (by omega), if_pos (by omega), if_pos (by omega), read_eq (in_drop (in_take h _) _) (by rw [List.length_drop, List.length_take]; omega), Option.bind_some, if_pos (by omega)]
    have hc : slices_Clone_byte_byte.f ((l.take (n + 7)).drop 7) = some ((l.take (n + 7)).drop 7) := by
      unfold slices_Clone_byte_byte.f
      rw [if_pos (by rw [List.length_drop, List.length_take]; omega)]
    have hs := beN_range ((l.take 7).drop 3) (in_drop (in_take h _) _)
    rw [List.length_drop, List.length_take, Nat.min_eq_left (by omega)] at hs
    have hr : 0 ≤ rd l 2 ∧ rd l 2 ≤ 255 := rd_byte h 2 (by omega)
    rw [hc, Option.bind_some, w64 (n := beN ((l.take 7).drop 3)) (by omega) (by omega), w64 (n := rd l 2) (by have := hr.1; omega) (by have := hr.2; omega)]
    unfold frame_Right.f
    rw [Option.bind_some, show ((l.take (n + 7)).drop 7).length = n by rw [List.length_drop, List.length_take]; omega]
    by_cases h6 : rightB (rd l 2) (beN ((l.take 7).drop 3)) n = true
    · rw [if_pos h6, if_neg (show ¬ (rightB (rd l 2) (beN ((l.take 7).drop 3)) n = false) by simp [h6]), show (11 : Int) + (n : Int) = ((n + 11 : Nat) : Int) by omega]
    · rw [if_neg h6, if_pos (by simpa using h6)]
  · rw [if_neg h5, if_pos h5]
theorem refget_eq {l : List Int} (h : InByte l) (hl : l.length ≤ 1000000) : governorref03_Get.f l = some (getF l) := by
  unfold governorref03_Get.f
  rw [if_pos ⟨hl, all_in h⟩]
/-- Whatever stands behind a right frame's bytes: they begin with it. -/
theorem get_put {t s : Int} {b : List Int} (rest : List Int) (hb : InByte b) (hr : rightB t s b.length = true) : getF (putF t s b ++ rest) = (t, s, b, ((b.length + 11 : Nat) : Int), 0) := by
  obtain ⟨h1, h2, h3, h4, h5⟩ := right_iff.1 hr
  have hp : putF t s b = preB t s b ++ be 4 (more 0 (preB t s b)) := by unfold putF; rw [if_pos hr]
  have hpl := pre_len t s b
  have hm := more_range 0 (preB t s b)
  have e0 : putF t s b ++ rest = be 2 b.length ++ ((be 1 t ++ (be 4 s ++ b)) ++ (be 4 (more 0 (preB t s b)) ++ rest)) := by rw [hp]; simp [preB]
  have l0 : (putF t s b ++ rest).length = b.length + 11 + rest.length := by rw [List.length_append, put_len hr]
  have a1 : (putF t s b ++ rest).take 2 = be 2 b.length := by rw [e0, List.take_left' (be_length 2 _)]
  have a2 : (putF t s b ++ rest).take (b.length + 7) = preB t s b := by rw [hp, List.append_assoc, List.take_left' hpl]
  have a3 : ((putF t s b ++ rest).take (b.length + 11)).drop (b.length + 7) = be 4 (more 0 (preB t s b)) := by
    rw [List.take_left' (put_len hr), hp, List.drop_left' hpl]
  have e1 : be 1 t = [t] := by
    show be 0 (t / 256) ++ [t % 256] = [t]
    rw [show t % 256 = t by omega]
    rfl
  have a4 : rd (putF t s b ++ rest) 2 = t := by
    have hg : (putF t s b ++ rest)[2]? = some t := by
      rw [e0, List.getElem?_append_right (by rw [be_length]; exact Nat.le_refl 2), be_length, e1]
      rfl
    unfold rd
    rw [List.getD_eq_getElem?_getD, show (2 : Int).toNat = 2 from rfl, hg]
    rfl
  have a5 : ((putF t s b ++ rest).take 7).drop 3 = be 4 s := by
    have e : putF t s b ++ rest = (be 2 b.length ++ be 1 t) ++ (be 4 s ++ (b ++ (be 4 (more 0 (preB t s b)) ++ rest))) := by rw [e0]; simp
    rw [e, show 7 = 3 + 4 from rfl, ← List.take_drop, List.drop_left' (by rw [List.length_append, be_length, be_length]), List.take_left' (be_length 4 _)]
  have a6 : ((putF t s b ++ rest).take (b.length + 7)).drop 7 = b := by
    rw [a2]
    have e : preB t s b = (be 2 b.length ++ (be 1 t ++ be 4 s)) ++ b := by simp [preB]
    rw [e, List.drop_left' (by rw [List.length_append, List.length_append, be_length, be_length, be_length])]
  have v1 : beN (be 2 b.length) = b.length := beN_be 2 _ (by omega) (by have : ((256 : Int) ^ 2) = 65536 := rfl; omega)
  have v2 : beN (be 4 (more 0 (preB t s b))) = more 0 (preB t s b) := beN_be 4 _ hm.1 (by have : ((256 : Int) ^ 4) = 4294967296 := rfl; omega)
  have v3 : beN (be 4 s) = s := beN_be 4 _ h3 (by have : ((256 : Int) ^ 4) = 4294967296 := rfl; omega)
  unfold getF
  rw [a1, v1, Int.toNat_natCast, a2, a3, a4, a5, v2, v3, if_neg (by omega), if_neg (by omega), if_neg (by omega), if_neg (by simp), if_neg (by simp [hr])]
  rw [← a2, a6]
end Go.Proofs.Ytgfpkgbkbempkaa.Plain
