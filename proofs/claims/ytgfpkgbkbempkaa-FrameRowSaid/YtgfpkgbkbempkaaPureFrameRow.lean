/- The law FrameRow, in plain Lean: of frames one behind the other Scan tells just those from the first on whose numbers rise by one. -/
import Derived.Test.YtgfpkgbkbempkaaStFrameRow
import Derived.Test.YtgfpkgbkbempkaaPlainF
namespace Go.Proofs.Ytgfpkgbkbempkaa.Pure
open Go.RowKit Go.Proofs.Ytgfpkgbkbempkaa.Print Go.Proofs.YtgfpkgbkbempkaaW.PrintWords Go.Proofs.YtgfpkgbkbempkaaW.PrintLast Go.Proofs.Ytgfpkgbkbempkaa.Plain Go.Proofs.Ytgfpkgbkbempkaa.W
set_option linter.unusedVariables false
set_option linter.unusedSimpArgs false

def rowF (s : Int) : S24 := ⟨3, wrap64 (Int.tmod s 6), []⟩
theorem tmod6 {s : Int} (h : 0 ≤ s) : 0 ≤ Int.tmod s 6 ∧ Int.tmod s 6 ≤ 5 := by
  have h1 := Int.tmod_nonneg (a := s) 6 h
  have h2 := Int.tmod_lt_of_pos s (b := 6) (by omega)
  omega
theorem rowF_right {s : Int} (h : 0 ≤ s) : InByte (rowF s).f2 ∧ rightB (rowF s).f0 (rowF s).f1 (rowF s).f2.length = true := by
  have h6 := tmod6 h
  refine ⟨(fun x hx => by cases hx), right_iff.2 ?_⟩
  show 0 < (3 : Int) ∧ (3 : Int) ≤ 15 ∧ 0 ≤ wrap64 (Int.tmod s 6) ∧ wrap64 (Int.tmod s 6) ≤ 1073741824 ∧ ([] : List Int).length ≤ 1800
  rw [w64 (by omega) (by omega)]
  simp
  omega
theorem rd_mid (a : List Int) (s : Int) (b : List Int) : rd (a ++ s :: b) a.length = s := by
  unfold rd
  rw [Int.toNat_natCast, List.getD_eq_getElem?_getD, List.getElem?_append_right (Nat.le_refl _), Nat.sub_self]
  rfl
theorem row_l0 (x1 : Int) (k : Nat) : ∀ (rest done : List Int), done.length + rest.length ≤ 60 → (∀ s ∈ rest, 0 ≤ s) →
    governorlaw03_FrameRow.l0 (rest.length + (k + 1)) (done ++ rest) x1 true (bytesF (done.map rowF)) (done.map rowF) done.length = governorlaw03_FrameRow.l1 k x1 true (bytesF ((done ++ rest).map rowF)) ((done ++ rest).map rowF) 0
  | [], done, hl, hs => by
    rw [List.append_nil, List.length_nil, Nat.zero_add, governorlaw03_FrameRow.l0, if_neg (by omega)]
  | s :: rest, done, hl, hs => by
    rw [List.length_cons] at hl
    have hn : InByte ([] : List Int) := fun x hx => by cases hx
    have hlen : (bytesF (done.map rowF)).length ≤ 60 * 11 := by
      have h := bytesF_len_le (fs := done.map rowF) (m := 0) (fun f hf => by
        obtain ⟨q, _, rfl⟩ := List.mem_map.1 hf
        exact Nat.le_refl 0)
      rw [List.length_map] at h
      omega
    have hp : (putF 3 (wrap64 (Int.tmod s 6)) []).length = 11 := put_len (rowF_right (hs s (List.mem_cons_self ..))).2
    rw [show (s :: rest).length + (k + 1) = (rest.length + (k + 1)) + 1 by rw [List.length_cons]; omega, governorlaw03_FrameRow.l0, if_pos (by rw [List.length_append, List.length_cons]; omega), if_pos (by omega), if_pos (by rw [List.length_map]; omega), rd_mid,
      put_eq hn, Option.bind_some, if_pos (by rw [hp]; omega), w64 (n := (done.length : Int) + 1) (by omega) (by omega)]
    have ih := row_l0 x1 k rest (done ++ [s]) (by rw [List.length_append, List.length_singleton]; omega) (fun q hq => hs q (List.mem_cons_of_mem _ hq))
    rw [List.append_assoc, List.singleton_append, List.map_append, bytesF_append, List.map_singleton, bytesF_one, List.length_append, List.length_singleton] at ih
    exact ih
theorem row_end {fs : List S24} {w : Int} (n : Nat) (hn : n ≤ fs.length) (hl : fs.length ≤ 60) (hf : ∀ f ∈ fs, f.f2 = [] ∧ rightB f.f0 f.f1 f.f2.length = true) (hi : ∀ (i : Nat) (f : S24), i < n → fs[i]? = some f → f.f1 = w + i) (ht : ∀ f, fs[n]? = some f → f.f1 ≠ w + n) (k : Nat) (hk : 1000 ≤ k) :
    frame_Scan.f k (bytesF fs) w = some (fs.take n, ((11 * n : Nat) : Int)) := by
  have hb : ∀ f ∈ fs, InByte f.f2 ∧ rightB f.f0 f.f1 f.f2.length = true := fun f h => ⟨(by rw [(hf f h).1]; exact (fun x hx => by cases hx)), (hf f h).2⟩
  have hlen : (bytesF fs).length ≤ 60 * 11 := by
    have h := bytesF_len_le (fs := fs) (m := 0) (fun f h => by rw [(hf f h).1]; exact Nat.le_refl 0)
    omega
  have hln : (fs.take n).length = n := by rw [List.length_take]; omega
  rw [scan_eq (bytesF_in (fun f h => (hb f h).1)) (by omega) w k (by omega)]
  have e := scan_row (fs.take n) w (bytesF (fs.drop n)) k (by omega) (fun f h => hb f (List.mem_of_mem_take h)) (fun i f h => by
    have hin : i < n := by
      have := (List.getElem?_eq_some_iff.1 h).1
      omega
    rw [List.getElem?_take_of_lt hin] at h
    exact hi i f hin h) (by
    rw [hln]
    exact tail_row (fun f h => hb f (List.mem_of_mem_drop h)) (w + n) (fun f h => ht f (by rw [List.getElem?_drop, Nat.add_zero] at h; exact h)))
  rw [← bytesF_split] at e
  rw [e]
  have hlb : ∀ gs : List S24, (∀ f ∈ gs, f.f2 = [] ∧ rightB f.f0 f.f1 f.f2.length = true) → (bytesF gs).length = 11 * gs.length := by
    intro gs
    induction gs with
    | nil => intro _; rfl
    | cons g gs ih =>
      intro h
      rw [bytesF, List.length_append, put_len (h g (List.mem_cons_self ..)).2, (h g (List.mem_cons_self ..)).1, ih (fun f hf => h f (List.mem_cons_of_mem _ hf)), List.length_cons, List.length_nil]
      omega
  rw [hlb _ (fun f h => hf f (List.mem_of_mem_take h)), hln]
theorem rd_at (fs : List S24) (n : Nat) (f : S24) (h : fs[n]? = some f) : rd_T24 fs n = f := by
  unfold rd_T24
  rw [Int.toNat_natCast, List.getD_eq_getElem?_getD, h]
  rfl
theorem row_l1 (x1 : Int) (hx : 0 ≤ x1) : ∀ (m n : Nat) (fs : List S24) (k : Nat), n + m = fs.length → fs.length ≤ 60 → (∀ f ∈ fs, f.f2 = [] ∧ rightB f.f0 f.f1 f.f2.length = true) → (∀ (i : Nat) (f : S24), i < n → fs[i]? = some f → f.f1 = Int.tmod x1 6 + i) → m + 1001 ≤ k →
    governorlaw03_FrameRow.l1 k x1 true (bytesF fs) fs n = some true
  | _, _, _, 0, _, _, _, _, h => by omega
  | 0, n, fs, k + 1, hn, hl, hf, hi, hk => by
    have h6 := tmod6 hx
    have e := row_end (w := Int.tmod x1 6) n (by omega) hl hf hi (fun f h => by have := (List.getElem?_eq_some_iff.1 h).1; omega) k (by omega)
    rw [governorlaw03_FrameRow.l1, if_neg (by omega), w64 (n := Int.tmod x1 6) (by omega) (by omega), e, Option.bind_some, if_pos rfl, if_pos (by omega), if_pos (by omega), Int.toNat_natCast]
    rw [show governorref03_Same.f (fs.take n) (fs.take n) = some (sameL (fs.take n) (fs.take n)) from rfl, sameL_self, Option.bind_some, if_pos rfl, w64 (by omega) (by omega)]
    congr 1
    exact beq_iff_eq.2 (by push_cast; rfl)
  | m + 1, n, fs, k + 1, hn, hl, hf, hi, hk => by
    have h6 := tmod6 hx
    have hlt : n < fs.length := by omega
    have hg := List.getElem?_eq_getElem hlt
    rw [governorlaw03_FrameRow.l1, if_pos (by omega), if_pos (by omega), rd_at fs n _ hg, w64 (n := Int.tmod x1 6) (by omega) (by omega), w64 (n := Int.tmod x1 6 + (n : Int)) (by omega) (by omega)]
    by_cases hc : fs[n].f1 = Int.tmod x1 6 + (n : Int)
    · rw [if_pos hc, w64 (n := (n : Int) + 1) (by omega) (by omega)]
      exact row_l1 x1 hx m (n + 1) fs k (by omega) hl hf (fun i f h1 h2 => by
        by_cases h3 : i < n
        · exact hi i f h3 h2
        · obtain rfl : i = n := by omega
          rw [hg] at h2
          rw [← Option.some.inj h2]
          exact hc) (by omega)
    · have e := row_end (w := Int.tmod x1 6) n (by omega) hl hf hi (fun f h => by rw [hg] at h; rw [← Option.some.inj h]; exact hc) k (by omega)
      rw [if_neg hc, e, Option.bind_some, if_pos rfl, if_pos (by omega), Int.toNat_natCast]
      rw [show governorref03_Same.f (fs.take n) (fs.take n) = some (sameL (fs.take n) (fs.take n)) from rfl, sameL_self, Option.bind_some, if_pos rfl, w64 (by omega) (by omega)]
      congr 1
      exact beq_iff_eq.2 (by push_cast; rfl)
theorem FrameRow : governorlaw03_FrameRow.Pure := by
  intro l0 a1 h0 h1
  have hw : ∀ s ∈ l0, 0 ≤ s := fun s hs => by
    have := h0.2 s hs
    have h : 0 ≤ s ∧ s ≤ 255 := by simpa [Lit.wf, IntKind.min, IntKind.max, IntKind.bits, IntKind.signed] using this
    exact h.1
  have w1 : 0 ≤ a1 ∧ a1 ≤ 255 := by simpa [Lit.wf, IntKind.min, IntKind.max, IntKind.bits, IntKind.signed] using h1
  refine ⟨l0.length + (2000 + 1), ?_⟩
  unfold governorlaw03_FrameRow.f
  rw [show governorlaw03_head.f = some true from rfl, Option.bind_some]
  by_cases hl : (l0.length : Int) > 60
  · rw [if_pos hl]
  rw [if_neg hl]
  have e := row_l0 a1 2000 l0 [] (by simp; omega) hw
  rw [List.nil_append] at e
  have e' : governorlaw03_FrameRow.l0 (l0.length + (2000 + 1)) l0 a1 true [] [] 0 = governorlaw03_FrameRow.l1 2000 a1 true (bytesF (l0.map rowF)) (l0.map rowF) 0 := e
  rw [e']
  exact row_l1 a1 w1.1 l0.length 0 (l0.map rowF) 2000 (by simp) (by rw [List.length_map]; omega) (fun f hf => by
    obtain ⟨s, hs, rfl⟩ := List.mem_map.1 hf
    exact ⟨rfl, (rowF_right (hw s hs)).2⟩) (fun i f h _ => absurd h (Nat.not_lt_zero _)) (by omega)
end Go.Proofs.Ytgfpkgbkbempkaa.Pure
