/- Frames in plain Lean: rows of frames, scanned. -/
import Derived.Test.YtgfpkgbkbempkaaPlainB
namespace Go.Proofs.Ytgfpkgbkbempkaa.Plain
open Go.RowKit Go.Proofs.Ytgfpkgbkbempkaa.W Go.Proofs.Ytgfpkgbkbempkaa.M Go.Proofs.Ytgfpkgbkbempkaa.Print Go.Proofs.YtgfpkgbkbempkaaW.PrintWords
set_option linter.unusedVariables false
set_option linter.unusedSimpArgs false

/-- The frames that bytes begin with, from a number on, and how many bytes they have. -/
def scanF : Nat → List Int → Int → List S24 × Nat
  | 0, _, _ => ([], 0)
  | k + 1, l, want => if (getF l).2.2.2.2 = 0 ∧ (getF l).2.1 = want then ((⟨(getF l).1, (getF l).2.1, (getF l).2.2.1⟩ : S24) :: (scanF k (l.drop ((getF l).2.2.1.length + 11)) (want + 1)).1, (getF l).2.2.1.length + 11 + (scanF k (l.drop ((getF l).2.2.1.length + 11)) (want + 1)).2) else ([], 0)
theorem scan_loop : ∀ (k : Nat) (x0 : List Int) (want : Int) (acc : List S24) (at_ : Nat), InByte x0 → x0.length ≤ 1000000 → at_ ≤ x0.length → acc.length ≤ at_ → x0.length - at_ < k →
    frame_Scan.l0 k x0 want acc at_ = some (acc ++ (scanF k (x0.drop at_) want).1, (at_ : Int) + (scanF k (x0.drop at_) want).2)
  | 0, _, _, _, _, _, _, _, _, h => absurd h (Nat.not_lt_zero _)
  | k + 1, x0, want, acc, at_, hb, hl, ha, hc, hk => by
    have hd := in_drop hb at_
    rw [frame_Scan.l0, if_pos (by omega), if_pos (by omega), Int.toNat_natCast, get_eq hd (by rw [List.length_drop]; omega), Option.bind_some, scanF]
    by_cases h0 : (getF (x0.drop at_)).2.2.2.2 = 0
    · rw [if_pos h0]
      by_cases h1 : (getF (x0.drop at_)).2.1 = want
      · rw [if_pos h1, if_pos (show acc.length < 3518437208883 by omega), if_pos ⟨h0, h1⟩]
        obtain ⟨t, s, b, hg, hr, hbl, hp, hib⟩ := get_ok hd h0
        have hr' := right_iff.1 hr
        rw [hg] at h1 ⊢
        simp only at h1 ⊢
        subst h1
        rw [List.length_drop] at hbl
        rw [w64 (n := s + 1) (by omega) (by omega), w64 (n := (at_ : Int) + ((b.length + 11 : Nat) : Int)) (by omega) (by omega), show (at_ : Int) + ((b.length + 11 : Nat) : Int) = ((at_ + (b.length + 11) : Nat) : Int) by omega]
        rw [scan_loop k x0 (s + 1) (acc ++ [(⟨t, s, b⟩ : S24)]) (at_ + (b.length + 11)) hb hl (by omega) (by rw [List.length_append, List.length_singleton]; omega) (by omega), List.drop_drop, List.append_assoc]
        congr 2
        omega
      · rw [if_neg h1, if_neg (fun h => h1 h.2)]
        simp
    · rw [if_neg h0, if_neg (fun h => h0 h.1)]
      simp
theorem scan_eq {l : List Int} (hb : InByte l) (hl : l.length ≤ 1000000) (want : Int) (k : Nat) (hk : l.length < k) : frame_Scan.f k l want = some ((scanF k l want).1, ((scanF k l want).2 : Int)) := by
  unfold frame_Scan.f
  have h := scan_loop k l want [] 0 hb hl (Nat.zero_le _) (Nat.le_refl _) (by omega)
  rw [show ((0 : Nat) : Int) = 0 from rfl] at h
  rw [h, List.drop_zero, List.nil_append, Int.zero_add]
theorem refscan_loop : ∀ (k : Nat) (x0 : List Int) (want : Int) (acc : List S24) (at_ : Nat), InByte x0 → x0.length ≤ 1000000 → at_ ≤ x0.length → acc.length ≤ at_ → x0.length - at_ < k →
    governorref03_Scan.l0 k x0 acc at_ want = some (acc ++ (scanF k (x0.drop at_) want).1, (at_ : Int) + (scanF k (x0.drop at_) want).2)
  | 0, _, _, _, _, _, _, _, _, h => absurd h (Nat.not_lt_zero _)
  | k + 1, x0, want, acc, at_, hb, hl, ha, hc, hk => by
    have hd := in_drop hb at_
    rw [governorref03_Scan.l0, if_pos (by omega), if_pos (by omega), Int.toNat_natCast, refget_eq hd (by rw [List.length_drop]; omega), Option.bind_some, scanF]
    by_cases h0 : (getF (x0.drop at_)).2.2.2.2 = 0
    · rw [if_pos h0]
      by_cases h1 : (getF (x0.drop at_)).2.1 = want
      · rw [if_pos h1, if_pos (show acc.length < 3518437208883 by omega), if_pos ⟨h0, h1⟩]
        obtain ⟨t, s, b, hg, hr, hbl, hp, hib⟩ := get_ok hd h0
        have hr' := right_iff.1 hr
        rw [hg] at h1 ⊢
        simp only at h1 ⊢
        subst h1
        rw [List.length_drop] at hbl
        rw [w64 (n := s + 1) (by omega) (by omega), w64 (n := (at_ : Int) + ((b.length + 11 : Nat) : Int)) (by omega) (by omega), show (at_ : Int) + ((b.length + 11 : Nat) : Int) = ((at_ + (b.length + 11) : Nat) : Int) by omega]
        rw [refscan_loop k x0 (s + 1) (acc ++ [(⟨t, s, b⟩ : S24)]) (at_ + (b.length + 11)) hb hl (by omega) (by rw [List.length_append, List.length_singleton]; omega) (by omega), List.drop_drop, List.append_assoc]
        congr 2
        omega
      · rw [if_neg h1, if_neg (fun h => h1 h.2)]
        simp
    · rw [if_neg h0, if_neg (fun h => h0 h.1)]
      simp
theorem refscan_eq {l : List Int} (hb : InByte l) (hl : l.length ≤ 1000000) (want : Int) (k : Nat) (hk : l.length < k) : governorref03_Scan.f k l want = some ((scanF k l want).1, ((scanF k l want).2 : Int)) := by
  unfold governorref03_Scan.f
  have h := refscan_loop k l want [] 0 hb hl (Nat.zero_le _) (Nat.le_refl _) (by omega)
  rw [show ((0 : Nat) : Int) = 0 from rfl] at h
  rw [h, List.drop_zero, List.nil_append, Int.zero_add]
def bytesF : List S24 → List Int
  | [] => []
  | f :: fs => putF f.f0 f.f1 f.f2 ++ bytesF fs
/-- Frames whose numbers rise by one, and bytes behind them that begin with none that goes on. -/
theorem scan_row : ∀ (fs : List S24) (want : Int) (tail : List Int) (k : Nat), fs.length < k → (∀ f ∈ fs, InByte f.f2 ∧ rightB f.f0 f.f1 f.f2.length = true) → (∀ (i : Nat) (f : S24), fs[i]? = some f → f.f1 = want + i) → ¬ ((getF tail).2.2.2.2 = 0 ∧ (getF tail).2.1 = want + fs.length) →
    scanF k (bytesF fs ++ tail) want = (fs, (bytesF fs).length)
  | _, _, _, 0, h, _, _, _ => absurd h (Nat.not_lt_zero _)
  | [], want, tail, k + 1, _, _, _, ht => by
    rw [bytesF, List.nil_append, scanF, if_neg (by simpa using ht)]
    rfl
  | f :: fs, want, tail, k + 1, hk, hf, hs, ht => by
    obtain ⟨h1, h2⟩ := hf f (List.mem_cons_self ..)
    have hw : f.f1 = want := by simpa using hs 0 f rfl
    rw [bytesF, List.append_assoc, scanF, get_put _ h1 h2]
    simp only
    rw [if_pos (by simp [hw]), List.drop_left' (put_len h2)]
    rw [scan_row fs (want + 1) tail k (by simpa using hk) (fun g hg => hf g (List.mem_cons_of_mem _ hg)) (fun i g hg => by rw [hs (i + 1) g (by simpa using hg)]; push_cast; omega) (by
      intro h
      apply ht
      refine ⟨h.1, ?_⟩
      rw [h.2, List.length_cons]
      push_cast
      omega)]
    simp only [List.length_append, put_len h2]
end Go.Proofs.Ytgfpkgbkbempkaa.Plain
