/- Frames in plain Lean: bytes of rows of frames. -/
import Derived.Test.YtgfpkgbkbempkaaPlainD
import Derived.Test.YtgfpkgbkbempkaaPlainE
namespace Go.Proofs.Ytgfpkgbkbempkaa.Plain
open Go.RowKit Go.Proofs.Ytgfpkgbkbempkaa.W Go.Proofs.Ytgfpkgbkbempkaa.M Go.Proofs.Ytgfpkgbkbempkaa.Print Go.Proofs.YtgfpkgbkbempkaaW.PrintWords
set_option linter.unusedVariables false
set_option linter.unusedSimpArgs false

theorem bytesF_append : ∀ (a b : List S24), bytesF (a ++ b) = bytesF a ++ bytesF b
  | [], _ => rfl
  | x :: a, b => by rw [List.cons_append, bytesF, bytesF, bytesF_append a b, List.append_assoc]
theorem bytesF_in : ∀ {fs : List S24}, (∀ f ∈ fs, InByte f.f2) → InByte (bytesF fs)
  | [], _ => fun x hx => by cases hx
  | f :: fs, h => fun x hx => by
    rw [bytesF, List.mem_append] at hx
    rcases hx with hx | hx
    · exact put_in (h f (List.mem_cons_self ..)) x hx
    · exact bytesF_in (fun g hg => h g (List.mem_cons_of_mem _ hg)) x hx
theorem bytesF_split (fs : List S24) (n : Nat) : bytesF fs = bytesF (fs.take n) ++ bytesF (fs.drop n) := by rw [← bytesF_append, List.take_append_drop]
theorem bytesF_one (f : S24) : bytesF [f] = putF f.f0 f.f1 f.f2 := by rw [bytesF, bytesF, List.append_nil]
theorem bytesF_len_le : ∀ {fs : List S24} {m : Nat}, (∀ f ∈ fs, f.f2.length ≤ m) → (bytesF fs).length ≤ fs.length * (m + 11)
  | [], _, _ => Nat.le_of_eq (by rw [bytesF]; simp)
  | f :: fs, m, h => by
    have h1 := h f (List.mem_cons_self ..)
    have h2 := bytesF_len_le (fun g hg => h g (List.mem_cons_of_mem _ hg))
    have h3 : (putF f.f0 f.f1 f.f2).length ≤ m + 11 := by
      unfold putF
      split
      · rw [List.length_append, pre_len, be_length]; omega
      · simp
    rw [bytesF, List.length_append, List.length_cons, Nat.succ_mul]
    omega
theorem get_nil : (getF []).2.2.2.2 ≠ 0 := by decide
/-- What stands behind the first frames, where it goes on with another number, or not at all. -/
theorem tail_row {fs : List S24} (hf : ∀ f ∈ fs, InByte f.f2 ∧ rightB f.f0 f.f1 f.f2.length = true) (want : Int) (h : ∀ f, fs[0]? = some f → f.f1 ≠ want) : ¬ ((getF (bytesF fs)).2.2.2.2 = 0 ∧ (getF (bytesF fs)).2.1 = want) := by
  cases fs with
  | nil => exact fun h => get_nil h.1
  | cons f fs =>
    obtain ⟨h1, h2⟩ := hf f (List.mem_cons_self ..)
    rw [bytesF, get_put _ h1 h2]
    exact fun hh => h f rfl hh.2
theorem tail_cut {fs : List S24} (hf : ∀ f ∈ fs, InByte f.f2 ∧ rightB f.f0 f.f1 f.f2.length = true) (k : Nat) (h : ∀ f, fs[0]? = some f → k < f.f2.length + 11) : (getF ((bytesF fs).take k)).2.2.2.2 ≠ 0 := by
  cases fs with
  | nil => rw [bytesF, List.take_nil]; exact get_nil
  | cons f fs =>
    obtain ⟨h1, h2⟩ := hf f (List.mem_cons_self ..)
    have hk := h f rfl
    rw [bytesF, List.take_append_of_le_length (by rw [put_len h2]; omega), get_cut h1 h2 k hk]
    decide
end Go.Proofs.Ytgfpkgbkbempkaa.Plain
