/- The law FrameCuts, in plain Lean: cut bytes of frames scan to the first ones of the same frames, wherever they are cut. -/
import Derived.Test.YtgfpkgbkbempkaaStFrameCuts
import Derived.Test.YtgfpkgbkbempkaaPlainF
namespace Go.Proofs.Ytgfpkgbkbempkaa.Pure
open Go.RowKit Go.Proofs.Ytgfpkgbkbempkaa.Print Go.Proofs.YtgfpkgbkbempkaaW.PrintWords Go.Proofs.YtgfpkgbkbempkaaW.PrintLast Go.Proofs.Ytgfpkgbkbempkaa.Plain Go.Proofs.Ytgfpkgbkbempkaa.W
set_option linter.unusedVariables false
set_option linter.unusedSimpArgs false

/-- The frame of the body that stands at i. -/
def cutF (first : Int) (i : Nat) (b : List Int) : S24 := ⟨wrap64 (1 + (Int.tmod (i : Int) 15)), wrap64 ((wrap64 first) + (i : Int)), b.take ((mn (b.length : Int) 900) : Int).toNat⟩
def cutFs (first : Int) : Nat → List (List Int) → List S24
  | _, [] => []
  | i, b :: bs => cutF first i b :: cutFs first (i + 1) bs
theorem cutFs_len (first : Int) : ∀ (i : Nat) (bs : List (List Int)), (cutFs first i bs).length = bs.length
  | _, [] => rfl
  | i, b :: bs => by rw [cutFs, List.length_cons, List.length_cons, cutFs_len first (i + 1) bs]
theorem cutFs_get (first : Int) : ∀ (i : Nat) (bs : List (List Int)) (j : Nat) (f : S24), (cutFs first i bs)[j]? = some f → ∃ b, bs[j]? = some b ∧ f = cutF first (i + j) b
  | _, [], j, f, h => by simp [cutFs] at h
  | i, b :: bs, 0, f, h => by
    rw [cutFs] at h
    exact ⟨b, rfl, by simpa using h.symm⟩
  | i, b :: bs, j + 1, f, h => by
    rw [cutFs] at h
    obtain ⟨c, h1, h2⟩ := cutFs_get first (i + 1) bs j f (by simpa using h)
    exact ⟨c, by simpa using h1, by rw [h2, show i + 1 + j = i + (j + 1) by omega]⟩
theorem mn_le (b : List Int) : 0 ≤ mn (b.length : Int) 900 ∧ mn (b.length : Int) 900 ≤ b.length ∧ mn (b.length : Int) 900 ≤ 900 := by
  unfold mn
  split <;> omega
theorem cutF_ok {first : Int} (h0 : 0 ≤ first ∧ first ≤ 65535) {i : Nat} (hi : i ≤ 20) {b : List Int} (hb : InByte b) : InByte (cutF first i b).f2 ∧ rightB (cutF first i b).f0 (cutF first i b).f1 (cutF first i b).f2.length = true ∧ (cutF first i b).f1 = first + i ∧ (cutF first i b).f2.length ≤ 900 := by
  have hm := mn_le b
  have t1 := Int.tmod_nonneg (a := (i : Int)) 15 (by omega)
  have t2 := Int.tmod_lt_of_pos (i : Int) (b := 15) (by omega)
  have hl : (cutF first i b).f2.length ≤ 900 := by
    show (b.take ((mn (b.length : Int) 900) : Int).toNat).length ≤ 900
    rw [List.length_take]
    omega
  have hs : (cutF first i b).f1 = first + i := by
    show wrap64 ((wrap64 first) + (i : Int)) = first + i
    rw [w64 (n := first) (by omega) (by omega), w64 (by omega) (by omega)]
  have ht : (cutF first i b).f0 = 1 + Int.tmod (i : Int) 15 := by
    show wrap64 (1 + (Int.tmod (i : Int) 15)) = _
    rw [w64 (by omega) (by omega)]
  refine ⟨in_take hb _, right_iff.2 ?_, hs, hl⟩
  rw [ht, hs]
  omega
theorem rdL_mid (a : List (List Int)) (s : List Int) (b : List (List Int)) : rd_L2 (a ++ s :: b) a.length = s := by
  unfold rd_L2
  rw [Int.toNat_natCast, List.getD_eq_getElem?_getD, List.getElem?_append_right (Nat.le_refl _), Nat.sub_self]
  rfl
theorem cutFs_snoc (first : Int) : ∀ (i : Nat) (a : List (List Int)) (s : List Int), cutFs first i (a ++ [s]) = cutFs first i a ++ [cutF first (i + a.length) s]
  | i, [], s => by simp [cutFs]
  | i, b :: a, s => by
    rw [List.cons_append, cutFs, cutFs, cutFs_snoc first (i + 1) a s, List.cons_append, List.length_cons, show i + 1 + a.length = i + (a.length + 1) by omega]
/-- What stands behind the loop that makes the frames. -/
def cutEnd (k : Nat) (x1 x2 : Int) (x8 : List Int) (x9 : List S24) : Option Bool := if (wrap64 ((x8.length : Int) + 1)) = 0 then (none) else (if 0 ≤ (Int.tmod (wrap64 (x2)) (wrap64 ((x8.length : Int) + 1))) then (if (Int.tmod (wrap64 (x2)) (wrap64 ((x8.length : Int) + 1))) ≤ (x8.length : Int) then ((frame_Scan.f k (x8.take ((Int.tmod (wrap64 (x2)) (wrap64 ((x8.length : Int) + 1))) : Int).toNat) (wrap64 (x1))).bind fun bt305 => (governorlaw03_FrameCuts.l1 k x1 true x8 x9 (Int.tmod (wrap64 (x2)) (wrap64 ((x8.length : Int) + 1))) bt305.1 bt305.2 0 0)) else (none)) else (none))
theorem cut_l0 (x1 x2 : Int) (h0 : 0 ≤ x1 ∧ x1 ≤ 65535) (k : Nat) : ∀ (rest done : List (List Int)), done.length + rest.length ≤ 20 → (∀ b ∈ rest, InByte b) → (bytesF (cutFs x1 0 done)).length ≤ done.length * 911 →
    governorlaw03_FrameCuts.l0 (rest.length + (k + 1)) (done ++ rest) x1 x2 true (bytesF (cutFs x1 0 done)) (cutFs x1 0 done) done.length = cutEnd k x1 x2 (bytesF (cutFs x1 0 (done ++ rest))) (cutFs x1 0 (done ++ rest))
  | [], done, hl, hs, hd => by
    rw [List.append_nil, List.length_nil, Nat.zero_add, governorlaw03_FrameCuts.l0, if_neg (by omega)]
    rfl
  | b :: rest, done, hl, hs, hd => by
    rw [List.length_cons] at hl
    have hb := hs b (List.mem_cons_self ..)
    have hm := mn_le b
    obtain ⟨c1, c2, c3, c4⟩ := cutF_ok h0 (i := done.length) (by omega) hb
    have hp := put_len c2
    rw [show (b :: rest).length + (k + 1) = (rest.length + (k + 1)) + 1 by rw [List.length_cons]; omega, governorlaw03_FrameCuts.l0, if_pos (by rw [List.length_append, List.length_cons]; omega), if_pos (by omega), rdL_mid, if_pos hm.1, if_pos hm.2.1, Option.bind_some, if_pos (by rw [cutFs_len]; omega)]
    have e : frame_Put.f (wrap64 (1 + (Int.tmod (done.length : Int) 15))) (wrap64 ((wrap64 x1) + (done.length : Int))) (b.take ((mn (b.length : Int) 900) : Int).toNat) = some (putF (cutF x1 done.length b).f0 (cutF x1 done.length b).f1 (cutF x1 done.length b).f2) := put_eq c1
    rw [e, Option.bind_some, if_pos (by rw [hp]; omega), w64 (n := (done.length : Int) + 1) (by omega) (by omega)]
    have es : cutFs x1 0 (done ++ [b]) = cutFs x1 0 done ++ [cutF x1 done.length b] := by rw [cutFs_snoc, Nat.zero_add]
    have ih := cut_l0 x1 x2 h0 k rest (done ++ [b]) (by rw [List.length_append, List.length_singleton]; omega) (fun q hq => hs q (List.mem_cons_of_mem _ hq)) (by
      rw [es, bytesF_append, bytesF_one, List.length_append, hp, List.length_append, List.length_singleton, Nat.succ_mul]
      omega)
    rw [List.append_assoc, List.singleton_append, es, bytesF_append, bytesF_one, List.length_append, List.length_singleton] at ih
    exact ih
/-- How many bytes the first frames have. -/
theorem bytes_step (fs : List S24) (n : Nat) (f : S24) (h : fs[n]? = some f) : bytesF (fs.take (n + 1)) = bytesF (fs.take n) ++ putF f.f0 f.f1 f.f2 := by
  have hlt := (List.getElem?_eq_some_iff.1 h).1
  rw [List.take_succ_eq_append_getElem hlt, bytesF_append, bytesF_one]
  rw [List.getElem?_eq_getElem hlt] at h
  rw [Option.some.inj h]
theorem rd_atC (fs : List S24) (n : Nat) (f : S24) (h : fs[n]? = some f) : rd_T24 fs n = f := by
  unfold rd_T24
  rw [Int.toNat_natCast, List.getD_eq_getElem?_getD, h]
  rfl
/-- What cut bytes of frames scan to. -/
theorem cut_scan {fs : List S24} {w : Int} (hf : ∀ f ∈ fs, InByte f.f2 ∧ rightB f.f0 f.f1 f.f2.length = true) (hs : ∀ (i : Nat) (f : S24), fs[i]? = some f → f.f1 = w + i) (n c : Nat) (hn : n ≤ fs.length) (hc : (bytesF (fs.take n)).length ≤ c) (hnext : ∀ f, fs[n]? = some f → c < (bytesF (fs.take n)).length + (f.f2.length + 11)) (hl : (bytesF fs).length ≤ 1000000) (k : Nat) (hk : 1000000 < k) :
    frame_Scan.f k ((bytesF fs).take c) w = some (fs.take n, ((bytesF (fs.take n)).length : Int)) := by
  have hb : InByte ((bytesF fs).take c) := in_take (bytesF_in (fun f h => (hf f h).1)) c
  have hln : (fs.take n).length = n := by rw [List.length_take]; omega
  have hsub : fs.length ≤ (bytesF fs).length := by
    clear hs hn hc hnext hl hk hb hln
    induction fs with
    | nil => exact Nat.le_refl _
    | cons f fs ih =>
      have h := put_len (hf f (List.mem_cons_self ..)).2
      have := ih (fun g hg => hf g (List.mem_cons_of_mem _ hg))
      rw [bytesF, List.length_append, List.length_cons]
      omega
  rw [scan_eq hb (by rw [List.length_take]; omega) w k (by rw [List.length_take]; omega)]
  have e0 : (bytesF fs).take c = bytesF (fs.take n) ++ (bytesF (fs.drop n)).take (c - (bytesF (fs.take n)).length) := by
    conv => lhs; rw [bytesF_split fs n]
    rw [List.take_append, List.take_of_length_le hc]
  rw [e0]
  have e := scan_row (fs.take n) w ((bytesF (fs.drop n)).take (c - (bytesF (fs.take n)).length)) k (by omega) (fun f h => hf f (List.mem_of_mem_take h)) (fun i f h => by
    have hin : i < n := by
      have := (List.getElem?_eq_some_iff.1 h).1
      omega
    rw [List.getElem?_take_of_lt hin] at h
    exact hs i f h) (by
    intro hh
    exact tail_cut (fun f h => hf f (List.mem_of_mem_drop h)) _ (fun f h => by
      rw [List.getElem?_drop, Nat.add_zero] at h
      have := hnext f h
      omega) hh.1)
  rw [e]
theorem cut_l1 (x1 : Int) (fs : List S24) (hx : wrap64 x1 = x1) (hf : ∀ f ∈ fs, InByte f.f2 ∧ rightB f.f0 f.f1 f.f2.length = true) (hs : ∀ (i : Nat) (f : S24), fs[i]? = some f → f.f1 = x1 + i) (hl : (bytesF fs).length ≤ 1000000) (hfl : fs.length ≤ 20) (c : Nat) (hcl : c ≤ (bytesF fs).length) (N : Nat) (hN : N ≤ fs.length) (hc : (bytesF (fs.take N)).length ≤ c) (hnext : ∀ f, fs[N]? = some f → c < (bytesF (fs.take N)).length + (f.f2.length + 11)) :
    ∀ (m n : Nat) (k : Nat), n + m = N → (bytesF (fs.take n)).length ≤ c → m + 1000002 ≤ k →
    governorlaw03_FrameCuts.l1 k x1 true (bytesF fs) fs c (fs.take N) ((bytesF (fs.take N)).length : Int) n ((bytesF (fs.take n)).length : Int) = some true := by
  have whole : ∀ k, 1000000 < k → frame_Scan.f k (bytesF fs) (wrap64 x1) = some (fs, ((bytesF fs).length : Int)) := fun k hk => by
    have e := cut_scan (w := x1) hf hs fs.length (bytesF fs).length (Nat.le_refl _) (by rw [List.take_of_length_le (Nat.le_refl _)]; exact Nat.le_refl _) (fun f h => by have := (List.getElem?_eq_some_iff.1 h).1; omega) hl k hk
    rw [List.take_of_length_le (Nat.le_refl _), List.take_of_length_le (Nat.le_refl _)] at e
    rw [hx, e]
  have same : ∀ gs : List S24, governorref03_Same.f gs gs = some true := fun gs => by
    rw [show governorref03_Same.f gs gs = some (sameL gs gs) from rfl, sameL_self]
  intro m
  induction m with
  | zero =>
    intro n k hn hnc hk
    obtain ⟨k, rfl⟩ : ∃ q, k = q + 1 := ⟨k - 1, by omega⟩
    obtain rfl : n = N := by omega
    rw [governorlaw03_FrameCuts.l1]
    by_cases hlt : n < fs.length
    · have hg := List.getElem?_eq_getElem hlt
      have h1 := hnext _ hg
      have hp := (right_iff.1 (hf _ (List.getElem_mem hlt)).2).2.2.2.2
      rw [if_pos (by omega), if_pos (by omega), rd_atC fs n _ hg, w64 (n := ((bytesF (fs.take n)).length : Int) + 11) (by omega) (by omega), w64 (n := ((bytesF (fs.take n)).length : Int) + 11 + (fs[n].f2.length : Int)) (by omega) (by omega), if_neg (by omega),
        whole k (by omega), Option.bind_some, if_pos rfl, if_pos (by omega), Int.toNat_natCast, same, Option.bind_some, if_pos rfl, if_pos rfl, same, Option.bind_some, if_pos rfl]
      congr 1
      exact beq_self_eq_true _
    · rw [if_neg (by omega), whole k (by omega), Option.bind_some, if_pos rfl, if_pos (by omega), if_pos (by omega), Int.toNat_natCast, same, Option.bind_some, if_pos rfl, if_pos rfl, same, Option.bind_some, if_pos rfl]
      congr 1
      exact beq_self_eq_true _
  | succ m ih =>
    intro n k hn hnc hk
    obtain ⟨k, rfl⟩ : ∃ q, k = q + 1 := ⟨k - 1, by omega⟩
    have hlt : n < fs.length := by omega
    have hg := List.getElem?_eq_getElem hlt
    have hr := (hf _ (List.getElem_mem hlt)).2
    have hp := (right_iff.1 hr).2.2.2.2
    have est := bytes_step fs n _ hg
    have elen : (bytesF (fs.take (n + 1))).length = (bytesF (fs.take n)).length + (fs[n].f2.length + 11) := by rw [est, List.length_append, put_len hr]
    have hle : (bytesF (fs.take (n + 1))).length ≤ c := by
      refine Nat.le_trans ?_ hc
      have e : bytesF (fs.take N) = bytesF ((fs.take N).take (n + 1)) ++ bytesF ((fs.take N).drop (n + 1)) := bytesF_split _ _
      rw [List.take_take, Nat.min_eq_left (by omega)] at e
      rw [e, List.length_append]
      omega
    rw [governorlaw03_FrameCuts.l1, if_pos (by omega), if_pos (by omega), rd_atC fs n _ hg, w64 (n := ((bytesF (fs.take n)).length : Int) + 11) (by omega) (by omega), w64 (n := ((bytesF (fs.take n)).length : Int) + 11 + (fs[n].f2.length : Int)) (by omega) (by omega), if_pos (by omega), w64 (n := (n : Int) + 1) (by omega) (by omega)]
    have h := ih (n + 1) k (by omega) hle (by omega)
    rw [show (((n + 1 : Nat) : Int)) = (n : Int) + 1 from by push_cast; rfl, show ((bytesF (fs.take (n + 1))).length : Int) = ((bytesF (fs.take n)).length : Int) + 11 + (fs[n].f2.length : Int) from by rw [elen]; push_cast; omega] at h
    exact h
/-- Where a cut of so many bytes ends: behind how many frames. -/
theorem cut_at (fs : List S24) (c : Nat) : ∃ N, N ≤ fs.length ∧ (bytesF (fs.take N)).length ≤ c ∧ ∀ f, fs[N]? = some f → c < (bytesF (fs.take N)).length + (putF f.f0 f.f1 f.f2).length := by
  induction fs generalizing c with
  | nil => exact ⟨0, Nat.le_refl _, Nat.zero_le _, fun f h => by cases h⟩
  | cons f fs ih =>
    by_cases h : c < (putF f.f0 f.f1 f.f2).length
    · exact ⟨0, Nat.zero_le _, Nat.zero_le _, fun g hg => by
        obtain rfl : f = g := by simpa using hg
        rw [List.take_zero, bytesF, List.length_nil, Nat.zero_add]
        exact h⟩
    · obtain ⟨N, h1, h2, h3⟩ := ih (c - (putF f.f0 f.f1 f.f2).length)
      refine ⟨N + 1, by rw [List.length_cons]; omega, by rw [List.take_succ_cons, bytesF, List.length_append]; omega, fun g hg => ?_⟩
      have := h3 g (by simpa using hg)
      rw [List.take_succ_cons, bytesF, List.length_append]
      omega
theorem FrameCuts : governorlaw03_FrameCuts.Pure := by
  intro l0 a1 a2 h0 h1 h2
  have w1 : 0 ≤ a1 ∧ a1 ≤ 65535 := by simpa [Lit.wf, IntKind.min, IntKind.max, IntKind.bits, IntKind.signed] using h1
  have w2 : 0 ≤ a2 ∧ a2 ≤ 65535 := by simpa [Lit.wf, IntKind.min, IntKind.max, IntKind.bits, IntKind.signed] using h2
  have hb : ∀ b ∈ l0, InByte b := fun b hb x hx => by
    have := (h0.2 b hb).2 x hx
    simpa [Lit.wf, IntKind.min, IntKind.max, IntKind.bits, IntKind.signed] using this
  obtain ⟨K, hK⟩ : ∃ K : Nat, 2000000 ≤ K := ⟨2000000, Nat.le_refl _⟩
  refine ⟨l0.length + (K + 1), ?_⟩
  unfold governorlaw03_FrameCuts.f
  rw [show governorlaw03_head.f = some true from rfl, Option.bind_some]
  by_cases hl : (l0.length : Int) > 20
  · rw [if_pos hl]
  rw [if_neg hl]
  have e := cut_l0 a1 a2 w1 K l0 [] (by simp; omega) hb (by simp [cutFs, bytesF])
  rw [List.nil_append] at e
  have e' : governorlaw03_FrameCuts.l0 (l0.length + (K + 1)) l0 a1 a2 true [] [] 0 = cutEnd K a1 a2 (bytesF (cutFs a1 0 l0)) (cutFs a1 0 l0) := e
  rw [e']
  have hfl := cutFs_len a1 0 l0
  have ok : ∀ (j : Nat) (f : S24), (cutFs a1 0 l0)[j]? = some f → InByte f.f2 ∧ rightB f.f0 f.f1 f.f2.length = true ∧ f.f1 = a1 + j ∧ f.f2.length ≤ 900 := fun j f h => by
    have hj := (List.getElem?_eq_some_iff.1 h).1
    obtain ⟨b, hbj, rfl⟩ := cutFs_get a1 0 l0 j f h
    rw [Nat.zero_add]
    exact cutF_ok w1 (by omega) (hb b (List.mem_of_getElem? hbj))
  have hf : ∀ f ∈ cutFs a1 0 l0, InByte f.f2 ∧ rightB f.f0 f.f1 f.f2.length = true := fun f h => by
    obtain ⟨j, hj⟩ := List.mem_iff_getElem?.1 h
    exact ⟨(ok j f hj).1, (ok j f hj).2.1⟩
  have hlen : (bytesF (cutFs a1 0 l0)).length ≤ 20 * 911 := by
    have h := bytesF_len_le (fs := cutFs a1 0 l0) (m := 900) (fun f h => by
      obtain ⟨j, hj⟩ := List.mem_iff_getElem?.1 h
      exact (ok j f hj).2.2.2)
    rw [hfl] at h
    exact Nat.le_trans h (Nat.mul_le_mul_right (900 + 11) (show l0.length ≤ 20 by omega))
  generalize cutFs a1 0 l0 = fs at *
  unfold cutEnd
  have t1 := Int.tmod_nonneg (a := a2) ((bytesF fs).length + 1 : Int) w2.1
  have t2 := Int.tmod_lt_of_pos a2 (b := ((bytesF fs).length + 1 : Int)) (by omega)
  rw [w64 (n := ((bytesF fs).length : Int) + 1) (by omega) (by omega), w64 (n := a2) (by omega) (by omega), w64 (n := a1) (by omega) (by omega)]
  obtain ⟨c, hc⟩ : ∃ c : Nat, Int.tmod a2 ((bytesF fs).length + 1 : Int) = (c : Int) := ⟨_, (Int.toNat_of_nonneg t1).symm⟩
  rw [hc] at t2 ⊢
  rw [if_neg (by omega), if_pos (by omega), if_pos (by omega), Int.toNat_natCast]
  obtain ⟨N, n1, n2, n3⟩ := cut_at fs c
  have n3' : ∀ f, fs[N]? = some f → c < (bytesF (fs.take N)).length + (f.f2.length + 11) := fun f h => by
    have := n3 f h
    rwa [put_len (hf f (List.mem_of_getElem? h)).2] at this
  have hs : ∀ (i : Nat) (f : S24), fs[i]? = some f → f.f1 = a1 + i := fun i f h => (ok i f h).2.2.1
  rw [cut_scan (w := a1) hf hs N c n1 n2 n3' (by omega) K (by omega), Option.bind_some]
  have := cut_l1 a1 fs (w64 (by omega) (by omega)) hf hs (by omega) (by omega) c (by omega) N n1 n2 n3' N 0 K (by omega) (by rw [List.take_zero]; exact Nat.zero_le _) (by omega)
  rw [List.take_zero] at this
  exact this
end Go.Proofs.Ytgfpkgbkbempkaa.Pure
