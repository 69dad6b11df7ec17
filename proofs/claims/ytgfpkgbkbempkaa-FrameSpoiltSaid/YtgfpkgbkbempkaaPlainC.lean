/- Frames in plain Lean: one byte turned. -/
import Derived.Test.YtgfpkgbkbempkaaPlainB
namespace Go.Proofs.Ytgfpkgbkbempkaa.Plain
open Go.RowKit Go.Proofs.Ytgfpkgbkbempkaa.W Go.Proofs.Ytgfpkgbkbempkaa.M Go.Proofs.Ytgfpkgbkbempkaa.Print Go.Proofs.YtgfpkgbkbempkaaW.PrintWords
set_option linter.unusedVariables false
set_option linter.unusedSimpArgs false

theorem upd_inj {a b : BitVec 32} {c : Int} (h : upd a c = upd b c) : a = b := by
  have := stps_inj 8 h
  have e := congrArg (fun x => x ^^^ B c) this
  simpa [BitVec.xor_assoc] using e
theorem upd_byte {r : BitVec 32} {x y : Int} (hx : 0 ≤ x ∧ x ≤ 255) (hy : 0 ≤ y ∧ y ≤ 255) (h : upd r x = upd r y) : x = y := by
  have e := stps_inj 8 h
  have e2 : B x = B y := by
    have e' := congrArg (fun z => r ^^^ z) e
    simpa [← BitVec.xor_assoc] using e'
  have e3 := congrArg N e2
  unfold B at e3
  rwa [N_ofInt x hx.1 (by omega), N_ofInt y hy.1 (by omega)] at e3
theorem reg_inj {a b : BitVec 32} (l : List Int) (h : reg a l = reg b l) : a = b := by
  induction l generalizing a b with
  | nil => exact h
  | cons c l ih => exact upd_inj (ih (by rwa [reg_cons, reg_cons] at h))
theorem not_inj {a b : BitVec 32} (h : ~~~a = ~~~b) : a = b := by
  have := congrArg (fun x => ~~~x) h
  simpa using this
theorem more_turn (A R : List Int) {x c : Int} (hx : 0 ≤ x ∧ x ≤ 255) (hc : 0 ≤ c ∧ c ≤ 255) (hne : c ≠ x) : more 0 (A ++ x :: R) ≠ more 0 (A ++ c :: R) := by
  intro h
  unfold more at h
  have h1 := not_inj (N_inj.1 h)
  rw [reg_append, reg_append, reg_cons, reg_cons] at h1
  exact hne (upd_byte hx hc (reg_inj R h1)).symm
theorem more_set {P : List Int} (hP : InByte P) (k : Nat) (hk : k < P.length) {c : Int} (hc : 0 ≤ c ∧ c ≤ 255) (hne : c ≠ P[k]) : more 0 P ≠ more 0 (P.set k c) := by
  have e1 : P = P.take k ++ P[k] :: P.drop (k + 1) := by rw [← List.drop_eq_getElem_cons hk, List.take_append_drop]
  have e2 : P.set k c = P.take k ++ c :: P.drop (k + 1) := List.set_eq_take_append_cons_drop.trans (if_pos hk)
  rw [e2]
  intro h
  exact more_turn (P.take k) (P.drop (k + 1)) (hP _ (List.getElem_mem hk)) hc hne (by rw [← h, ← e1])
/-- A right frame's bytes with one that is turned, but for its size, are none. -/
theorem get_spoilt {t s : Int} {b : List Int} (hb : InByte b) (hr : rightB t s b.length = true) (k : Nat) (h2 : 2 ≤ k) (hk : k < (putF t s b).length) {c : Int} (hc : 0 ≤ c ∧ c ≤ 255) (hne : c ≠ (putF t s b)[k]) :
    getF ((putF t s b).set k c) = (0, 0, [], 0, 14) := by
  have hlen := put_len hr
  have h5 := (right_iff.1 hr).2.2.2.2
  have hpl := pre_len t s b
  have hm := more_range 0 (preB t s b)
  have hp : putF t s b = preB t s b ++ be 4 (more 0 (preB t s b)) := by unfold putF; rw [if_pos hr]
  have v1 : beN (be 2 b.length) = b.length := beN_be 2 _ (by omega) (by have : ((256 : Int) ^ 2) = 65536 := rfl; omega)
  have v2 : beN (be 4 (more 0 (preB t s b))) = more 0 (preB t s b) := beN_be 4 _ hm.1 (by have : ((256 : Int) ^ 4) = 4294967296 := rfl; omega)
  have a0 : (putF t s b).take 2 = be 2 b.length := by
    rw [hp]
    unfold preB
    rw [List.append_assoc, List.take_left' (be_length 2 _)]
  have a1 : ((putF t s b).set k c).take 2 = be 2 b.length := by
    rw [List.take_set, a0, List.set_eq_of_length_le (by rw [be_length]; exact h2)]
  have l0 : ((putF t s b).set k c).length = b.length + 11 := by rw [List.length_set, hlen]
  have key : beN ((((putF t s b).set k c).take (b.length + 11)).drop (b.length + 7)) ≠ more 0 (((putF t s b).set k c).take (b.length + 7)) := by
    rw [List.take_of_length_le (by rw [l0]; exact Nat.le_refl _)]
    by_cases hk7 : k < b.length + 7
    · have e : (putF t s b).set k c = (preB t s b).set k c ++ be 4 (more 0 (preB t s b)) := by rw [hp, List.set_append_left _ _ (by rw [hpl]; exact hk7)]
      rw [e, List.drop_left' (by rw [List.length_set, hpl]), List.take_left' (by rw [List.length_set, hpl]), v2]
      refine more_set (pre_in hb) k (by rw [hpl]; exact hk7) hc ?_
      intro h
      apply hne
      rw [h]
      simp only [hp]
      rw [List.getElem_append_left]
    · have e : (putF t s b).set k c = preB t s b ++ (be 4 (more 0 (preB t s b))).set (k - (preB t s b).length) c := by rw [hp, List.set_append_right _ _ (by rw [hpl]; omega)]
      rw [e, List.drop_left' hpl, List.take_left' hpl]
      intro h
      have hin : InByte ((be 4 (more 0 (preB t s b))).set (k - (preB t s b).length) c) := fun x hx => by
        rcases List.mem_or_eq_of_mem_set hx with hx | rfl
        · exact be_in _ _ x hx
        · exact hc
      have hbb := be_beN _ hin
      rw [List.length_set, be_length, h] at hbb
      have hj : k - (preB t s b).length < (be 4 (more 0 (preB t s b))).length := by rw [be_length, hpl]; rw [hlen] at hk; omega
      have hg : (be 4 (more 0 (preB t s b)))[k - (preB t s b).length]? = some c := by
        conv => lhs; rw [hbb]
        rw [List.getElem?_set_self hj]
      apply hne
      have hg2 : (putF t s b)[k]? = some c := by rw [hp, List.getElem?_append_right (by rw [hpl]; omega), hg]
      rw [List.getElem?_eq_getElem hk] at hg2
      exact (Option.some.inj hg2).symm
  unfold getF
  rw [l0, a1, v1, Int.toNat_natCast, if_neg (by omega), if_neg (by omega), if_neg (by omega), if_pos key]
end Go.Proofs.Ytgfpkgbkbempkaa.Plain
