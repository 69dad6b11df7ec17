/- The reference's reader: numbers within bounds, texts, and what was wrong, walked through once. -/
import Derived.Test.YtpbkibafhabahaaWireF
namespace Go.Proofs.Ytpbkibafhabahaa.Wire
open Go.RowKit Go.Proofs.YtpbkibafhabahaaW.PrintWords Go.Proofs.Ytpbkibafhabahaa.Obj
set_option linter.unusedVariables false

theorem rInt_num (least most : Int) (l : List Int) (e : Int) : rInt least most l e = if (rNum l e).2.2 = 0 then (if (rNum l e).1 < least ∨ most < (rNum l e).1 then (0, l, 12) else rNum l e) else (0, (rNum l e).2.1, (rNum l e).2.2) := by
  unfold rInt rNum within rStep
  by_cases he : e = 0 <;> by_cases h3 : (dec l).2.2 = 0 <;> by_cases h1 : (dec l).1 < least ∨ most < (dec l).1 <;> simp [he, h3, h1]
/-- The number of what was read, and what was wrong, written back. -/
theorem rf_back {g : Nat} {A : Option Addr} {c : Nat} {N N' : Int} {B : List Int} {e f : Int} {w : World} {S : Nat → Prop} (h1 : w.heap[g]? = some (.cells #[.slice A B.length c, .int .i64 N, .int .i64 e] 58 (0, 0))) (h2 : B.length ≤ c ∧ B.length ≤ 140737488351232) (h3 : 0 ≤ N' ∧ N' ≤ B.length) (h5 : RB w (fun k => S k ∧ k ≠ g) A B) (h6 : S g) :
    Same (rfB g B N' f) S w ((w.setCell ⟨g, 2, none⟩ (.int .i64 f)).setCell ⟨g, 1, none⟩ (.int .i64 N')) :=
  rf_set h1 h2 h3 h5 h6 (ch_set (ch_set (Ch.refl _ w) _) _) (set_at (set_at h1 2 _) 1 _)
theorem same_trans {A A' : Asr} {S : Nat → Prop} {w w1 w2 : World} (h : Same A S w w1) (k : Same A' S w1 w2) : Same A' S w w2 := ⟨h.1.trans k.1 (fun _ => .inl), k.2⟩
set_option maxRecDepth 100000 in
set_option maxHeartbeats 4000000 in
theorem fintB_calls (g : Nat) (least most : Int) (B l : List Int) (N : Int) (e : Int) (w : World) (S : Nat → Prop) (hA : (rfB g B N e).holds w S) (h4 : B.drop N.toNat = l) (hby : ∀ x ∈ l, 0 ≤ x ∧ x < 256) :
    Calls Try.prog 13 #[.pointer (some ⟨g, 0, none⟩), .int .i64 least, .int .i64 most] w (NumPostB g B S w (rInt least most l e)) := by
  have hu58 := Try.underlying58
  have hu22 := Try.underlying22
  have HN := Aside0.mk (fnumB_calls g B l N e w S hA h4 hby)
  obtain ⟨A0, c0, k1, k2, k3, k5, k6⟩ := hA
  have hw1 : w.cell? ⟨g, 1, none⟩ = some (.int .i64 N) := cellOf k1 1 rfl
  have H4 := Aside0.mk h4
  have K3 := Aside0.mk k3
  have HRI := Aside0.mk (rInt_num least most l e)
  clear k1 k2 k3 k5 k6 h4 hby
  obtain ⟨x, l1, e1, ht⟩ : ∃ x l1 e1, rNum l e = (x, l1, e1) := ⟨_, _, _, rfl⟩
  rw [ht] at HN
  rw [ht] at HRI
  dsimp only at HRI
  clear ht
  have fin : ∀ w1 : World, (∃ N1 : Int, B.drop N1.toNat = l1 ∧ Same (rfB g B N1 e1) S w w1) → True := fun _ _ => trivial
  by_cases he : e1 = 0
  · have HR1 := Aside0.mk (HRI.out.trans (if_pos he))
    have b0 : (e1 == 0) = true := by simp [he]
    have b1 : (e1 != 0) = false := by simp [he]
    have HE := Aside0.mk he
    clear he
    by_cases hx : x < least ∨ most < x
    · have HR2 := Aside0.mk (HR1.out.trans (if_pos hx))
      have kx : x < least ∨ (¬ x < least ∧ most < x) := by omega
      clear hx
      rcases kx with z1 | ⟨z1, z2⟩
      all_goals
        go_enter Try.func13, Try.ntmps13
        go_wp2_with fail
        refine HN.out.mono ?_
        rintro r w1 ⟨rfl, N1, hd, hs⟩
        have HS := Aside0.mk hs
        obtain ⟨A, c, h1, h2, h3, h5, h6⟩ := hs.2
        have hc0 : w1.cell? ⟨g, 0, none⟩ = some (.slice A B.length c) := cellOf h1 0 rfl
        have hc1 : w1.cell? ⟨g, 1, none⟩ = some (.int .i64 N1) := cellOf h1 1 rfl
        have hc2 : w1.cell? ⟨g, 2, none⟩ = some (.int .i64 e1) := cellOf h1 2 rfl
        have hf1 : w1.frozen? ⟨g, 1, none⟩ = false := by simp [World.frozen?, h1]
        have hf2 : w1.frozen? ⟨g, 2, none⟩ = false := by simp [World.frozen?, h1]
        have H1 := Aside0.mk h1
        have H5 := Aside0.mk h5
        have H6 := Aside0.mk h6
        have H2 := Aside0.mk h2
        clear hd hs h1 h5 h6
        go_wp2_with fail
        go_ret
        unfold NumPostB
        rw [HR2.out]
        exact ⟨rfl, N, H4.out, same_trans HS.out (rf_back H1.out H2.out K3.out H5.out H6.out)⟩
    · have HR2 := Aside0.mk (HR1.out.trans (if_neg hx))
      have z1 : ¬ x < least := fun h => hx (.inl h)
      have z2 : ¬ most < x := fun h => hx (.inr h)
      clear hx
      go_enter Try.func13, Try.ntmps13
      go_wp2_with fail
      refine HN.out.mono ?_
      rintro r w1 ⟨rfl, N1, hd, hs⟩
      have HS := Aside0.mk hs
      have HD := Aside0.mk hd
      obtain ⟨A, c, h1, h2, h3, h5, h6⟩ := hs.2
      have hc0 : w1.cell? ⟨g, 0, none⟩ = some (.slice A B.length c) := cellOf h1 0 rfl
      have hc1 : w1.cell? ⟨g, 1, none⟩ = some (.int .i64 N1) := cellOf h1 1 rfl
      have hc2 : w1.cell? ⟨g, 2, none⟩ = some (.int .i64 e1) := cellOf h1 2 rfl
      have hf1 : w1.frozen? ⟨g, 1, none⟩ = false := by simp [World.frozen?, h1]
      have hf2 : w1.frozen? ⟨g, 2, none⟩ = false := by simp [World.frozen?, h1]
      clear hd hs h1 h5 h6
      go_wp2_with fail
      go_ret
      unfold NumPostB
      rw [HR2.out]
      exact ⟨rfl, N1, HD.out, HS.out⟩
  · have HR1 := Aside0.mk (HRI.out.trans (if_neg he))
    have b0 : (e1 == 0) = false := by simp [he]
    have b1 : (e1 != 0) = true := by simp [he]
    clear he
    go_enter Try.func13, Try.ntmps13
    go_wp2_with fail
    refine HN.out.mono ?_
    rintro r w1 ⟨rfl, N1, hd, hs⟩
    have HS := Aside0.mk hs
    have HD := Aside0.mk hd
    obtain ⟨A, c, h1, h2, h3, h5, h6⟩ := hs.2
    have hc0 : w1.cell? ⟨g, 0, none⟩ = some (.slice A B.length c) := cellOf h1 0 rfl
    have hc1 : w1.cell? ⟨g, 1, none⟩ = some (.int .i64 N1) := cellOf h1 1 rfl
    have hc2 : w1.cell? ⟨g, 2, none⟩ = some (.int .i64 e1) := cellOf h1 2 rfl
    have hf1 : w1.frozen? ⟨g, 1, none⟩ = false := by simp [World.frozen?, h1]
    have hf2 : w1.frozen? ⟨g, 2, none⟩ = false := by simp [World.frozen?, h1]
    clear hd hs h1 h5 h6
    go_wp2_with fail
    go_ret
    unfold NumPostB
    rw [HR1.out]
    exact ⟨rfl, N1, HD.out, HS.out⟩
theorem fintR_calls (g : Nat) (least most : Int) (l : List Int) (e : Int) (w : World) (S : Nat → Prop) (hA : (rfA g l e).holds w S) (hby : ∀ x ∈ l, 0 ≤ x ∧ x < 256) :
    Calls Try.prog 13 #[.pointer (some ⟨g, 0, none⟩), .int .i64 least, .int .i64 most] w (NumPostF g S w (rInt least most l e)) := by
  obtain ⟨B, N, h4, hB⟩ := hA
  refine (fintB_calls g least most B l N e w S hB h4 hby).mono ?_
  rintro r w' ⟨rfl, N', h, hs⟩
  exact ⟨rfl, hs.1, B, N', h, hs.2⟩
set_option maxRecDepth 100000 in
set_option maxHeartbeats 1000000 in
theorem fend_calls (g : Nat) (l : List Int) (e : Int) (w : World) (S : Nat → Prop) (hA : (rfA g l e).holds w S) :
    Calls Try.prog 19 #[.pointer (some ⟨g, 0, none⟩)] w fun r w' => r = .returned (.int .i64 (rEnd l e)) ∧ Drawn0 w w' := by
  have hu58 := Try.underlying58
  have hu22 := Try.underlying22
  obtain ⟨B, N, h4, A, c, h1, ⟨h2, h2'⟩, ⟨h3, h3'⟩, h5, h6⟩ := hA
  have hc0 : w.cell? ⟨g, 0, none⟩ = some (.slice A B.length c) := cellOf h1 0 rfl
  have hc1 : w.cell? ⟨g, 1, none⟩ = some (.int .i64 N) := cellOf h1 1 rfl
  have hc2 : w.cell? ⟨g, 2, none⟩ = some (.int .i64 e) := cellOf h1 2 rfl
  have hln : l = [] ↔ (B.length : Int) ≤ N := by
    rw [← h4, List.drop_eq_nil_iff]; omega
  clear h1 h5 h6 h4
  by_cases he : e = 0
  · have b0 : (e == 0) = true := by simp [he]
    by_cases hl : N < (B.length : Int)
    · have hr : rEnd l e = 12 := if_pos ⟨he, fun h => by have := hln.1 h; omega⟩
      rw [hr]
      have d0 : decide (N < (B.length : Int)) = true := by simpa using hl
      clear he hr hln
      go_enter Try.func19, Try.ntmps19
      go_wp2
      go_quiet (fail)
      go_wp2
      go_ret
      exact ⟨rfl, ⟨_, rfl⟩⟩
    · have hr : rEnd l e = e := if_neg (fun h => h.2 (hln.2 (by omega)))
      rw [hr]
      have d0 : decide (N < (B.length : Int)) = false := by simpa using hl
      clear he hr hln
      go_enter Try.func19, Try.ntmps19
      go_wp2
      go_quiet (fail)
      go_wp2
      go_ret
      exact ⟨rfl, ⟨_, rfl⟩⟩
  · have b0 : (e == 0) = false := by simp [he]
    have hr : rEnd l e = e := if_neg (fun h => he h.1)
    rw [hr]
    clear he hr hln
    go_enter Try.func19, Try.ntmps19
    go_wp2
    go_quiet (fail)
    go_wp2
    go_ret
    exact ⟨rfl, ⟨_, rfl⟩⟩

def TextPostB (g : Nat) (B : List Int) (S : Nat → Prop) (w : World) (t : List Int × List Int × Int) (r : Ending) (w' : World) : Prop := ∃ v, r = .returned v ∧ w'.ownsRow w.heap.size 5 1 v t.1.length (nums .u8 t.1) ∧ ∃ N : Int, B.drop N.toNat = t.2.1 ∧ Same (rfB g B N t.2.2) S w w'
theorem within_nonneg (most : Int) (l : List Int) : (within 0 most l).2.2 = 0 → 0 ≤ (within 0 most l).1 := by
  unfold within
  split
  · simp
  · rename_i h
    intro h0
    by_cases h1 : (dec l).1 < 0
    · exact absurd ⟨h0, .inl h1⟩ h
    · omega
theorem rText_int (most : Int) (l : List Int) (e : Int) : rText most l e = if (rInt 0 most l e).2.2 = 0 then (if (rInt 0 most l e).1 ≤ (rInt 0 most l e).2.1.length then ((rInt 0 most l e).2.1.take (rInt 0 most l e).1.toNat, (rInt 0 most l e).2.1.drop (rInt 0 most l e).1.toNat, 0) else ([], l, 13)) else ([], (rInt 0 most l e).2.1, (rInt 0 most l e).2.2) := by
  have hr := within_range 0 most l
  have h0 := within_nonneg most l
  unfold rText rInt textOf rStep
  generalize within 0 most l = t at *
  obtain ⟨d1, d2, d3⟩ := t
  dsimp only at hr h0 ⊢
  by_cases he : e = 0
  · by_cases h3 : d3 = 0
    · have hd := h0 h3
      have hl : ((l.drop d2.toNat).length : Int) = (l.length : Int) - d2 := by rw [List.length_drop]; omega
      by_cases h1 : d1 ≤ (l.length : Int) - d2
      · have h2 : d1 ≤ ((l.drop d2.toNat).length : Int) := by omega
        simp only [he, h3, if_true, h1, h2, List.drop_drop]
        rw [show (d2 + d1).toNat = d2.toNat + d1.toNat by omega]
      · have h2 : ¬ d1 ≤ ((l.drop d2.toNat).length : Int) := by omega
        simp only [he, h3, if_true, h1, h2, if_false]
        rfl
    · simp [he, h3]
  · simp [he]
theorem rInt_nonneg (most : Int) (l : List Int) (e : Int) (h : (rInt 0 most l e).2.2 = 0) : 0 ≤ (rInt 0 most l e).1 := by
  have h0 := within_nonneg most l
  unfold rInt rStep at *
  by_cases he : e = 0
  · simp only [if_pos he] at *
    by_cases h3 : (within 0 most l).2.2 = 0
    · simp only [if_pos h3] at *
      exact h0 h3
    · simp only [if_neg h3] at *
      exact absurd h h3
  · simp only [if_neg he] at *
    exact absurd h he
/-! ### An append of bytes that are read, as one step of a region that draws its order -/
theorem run_append_reads (W : World) (ty : TypeId) (base : Nat) (v : Value) (xs ys : List Int) (A : Option Addr) (c : Nat) (HO : W.ownsRow base 5 1 v xs.length (nums .u8 xs)) (HR : ReadsInt W .u8 A ys.length ys) (hbase : base ≤ W.heap.size) (hl : xs.length + ys.length ≤ 140737488355328) :
    ∃ v1 w1, (Builtin.append_ #[22, 22] ty #[v, .slice A ys.length c]).run Try.prog W = .ok v1 w1 ∧ w1.ownsRow base 5 1 v1 (xs ++ ys).length (nums .u8 (xs ++ ys)) ∧ W.grownBy w1 v.ownBlock ∧ (v1.ownBlock = v.ownBlock ∨ v1.ownBlock = some W.heap.size) := by
  obtain ⟨i0, hi, hz0, hz1, hz2⟩ := info_parts info5
  have ht := Try.underlying22
  cases A with
  | none =>
    have h0 : ys = [] := by
      rcases Nat.eq_zero_or_pos ys.length with h | h
      · exact List.eq_nil_of_length_eq_zero h
      · obtain ⟨ad, h', _⟩ := HR.2.2 h
        cases h'
    subst h0
    refine ⟨v, W, ?_, by simpa using HO, World.grownBy.refl W _, .inl rfl⟩
    rcases HO.2 with ⟨rfl, hn⟩ | ⟨g, cap, cur, rfl, _, _, hnc, _⟩
    · simp [Builtin.append_, run_underlying ht, sizeOf, typeInfo, hi, Builtin.lenOf, Builtin.firstCells]
    · simp [Builtin.append_, run_underlying ht, sizeOf, typeInfo, hi, Builtin.lenOf, Builtin.firstCells, hnc, storeCells]
  | some ad =>
    obtain ⟨v1, w1, hr, h1, h2, _, h3⟩ := run_append_own_at (P := Try.prog) W base 22 ty 5 i0 (.int .u8 0) 1 1 ht hi hz0 hz1 hz2 rfl (by decide) v xs.length (nums .u8 xs) HO ad ys.length c (nums .u8 ys) (by simp [nums]) (fun j u hu => by
        have hj : j < ys.length := by have := (List.getElem?_eq_some_iff.1 hu).1; simpa [nums] using this
        obtain ⟨ad', e, hc⟩ := HR.2.2 (by omega)
        obtain rfl : ad = ad' := by injection e
        rw [hc j hj]
        simp [nums, List.getElem?_eq_getElem hj] at hu
        simp [List.getD_eq_getElem?_getD, List.getElem?_eq_getElem hj, hu]) (fun u hu => by simp [nums] at hu; obtain ⟨x, _, rfl⟩ := hu; rfl) (by unfold maxLen; omega) (by omega) hbase
    refine ⟨v1, w1, hr, ?_, h2, h3⟩
    rw [List.length_append, nums_append]
    exact h1
theorem step_append_reads {ops : Array Oper} {o : Oper} {a : Act} {K : Act → World → Prop} {Q : Exit → Act → World → Prop} {E : Prop} {W : World} (hgd : o.guard = none) (s x : Operand)
    (ho : o.op = .call { callee := .builtin .append, args := #[s, x], argTypes := #[22, 22] })
    (base : Nat) (v : Value) (xs ys : List Int) (A : Option Addr) (c : Nat) (hs : a.eval s = v) (hx : a.eval x = .slice A ys.length c) (HO : W.ownsRow base 5 1 v xs.length (nums .u8 xs)) (HR : ReadsInt W .u8 A ys.length ys) (hbase : base ≤ W.heap.size) (hl : xs.length + ys.length ≤ 140737488355328)
    (h : ∀ v1 w1, w1.ownsRow base 5 1 v1 (xs ++ ys).length (nums .u8 (xs ++ ys)) → W.grownBy w1 v.ownBlock → (v1.ownBlock = v.ownBlock ∨ v1.ownBlock = some W.heap.size) → K (a.put o.dst v1) w1) :
    if Region.wanted o (yielded ops a.tmps) = true then Oper.wp Try.prog o a W K Q else E := by
  rw [if_pos (by simp [Region.wanted, hgd])]
  obtain ⟨v1, w1, hr, h1, h2, h3⟩ := run_append_reads W o.type base v xs ys A c HO HR hbase hl
  unfold Oper.wp execOp
  simp only [ho, resolve, invoke, builtin, Sem.run_bind, Sem.run_pure, Result.andThen_ok, List.map_toArray, List.map_cons, List.map_nil, hs, hx, hr]
  exact h v1 w1 h1 h2 h3
set_option maxRecDepth 100000 in
set_option maxHeartbeats 8000000 in
theorem ftextB_calls (g : Nat) (most : Int) (B l : List Int) (N : Int) (e : Int) (w : World) (S : Nat → Prop) (hA : (rfB g B N e).holds w S) (h4 : B.drop N.toNat = l) (hby : ∀ x ∈ l, 0 ≤ x ∧ x < 256) (hm : -9223372036854775808 ≤ most) (hm' : most ≤ 9223372036854775807) :
    Calls Try.prog 15 #[.pointer (some ⟨g, 0, none⟩), .int .i64 most] w (TextPostB g B S w (rText most l e)) := by
  have hu58 := Try.underlying58
  have hu22 := Try.underlying22
  have HN := Aside0.mk (fintB_calls g 0 most B l N e w S hA h4 hby)
  obtain ⟨A0, c0, k1, k2, k3, k5, k6⟩ := hA
  have hw1 : w.cell? ⟨g, 1, none⟩ = some (.int .i64 N) := cellOf k1 1 rfl
  have H4 := Aside0.mk h4
  have K3 := Aside0.mk k3
  have HRI := Aside0.mk (rText_int most l e)
  clear k1 k2 k3 k5 k6 h4 hby
  obtain ⟨x, l1, e1, ht⟩ : ∃ x l1 e1, rInt 0 most l e = (x, l1, e1) := ⟨_, _, _, rfl⟩
  have hxx : e1 = 0 → 0 ≤ x := by have h := rInt_nonneg most l e; rw [ht] at h; exact h
  rw [ht] at HN
  rw [ht] at HRI
  dsimp only at HRI
  clear ht
  by_cases he : e1 = 0
  · have HR1 := Aside0.mk (HRI.out.trans (if_pos he))
    have b0 : (e1 == 0) = true := by simp [he]
    have b1 : (e1 != 0) = false := by simp [he]
    have x0 := hxx he
    have HE := Aside0.mk he
    clear he hxx
    go_enter Try.func15, Try.ntmps15
    go_wp2_with fail
    refine HN.out.mono ?_
    rintro r w1 ⟨rfl, N1, hd, hs⟩
    have HS := Aside0.mk hs
    obtain ⟨A, c, h1, ⟨h2, h2'⟩, ⟨h3, h3'⟩, h5, h6⟩ := hs.2
    have hc0 : w1.cell? ⟨g, 0, none⟩ = some (.slice A B.length c) := cellOf h1 0 rfl
    have hc1 : w1.cell? ⟨g, 1, none⟩ = some (.int .i64 N1) := cellOf h1 1 rfl
    have hc2 : w1.cell? ⟨g, 2, none⟩ = some (.int .i64 e1) := cellOf h1 2 rfl
    have hf1 : w1.frozen? ⟨g, 1, none⟩ = false := by simp [World.frozen?, h1]
    have hf2 : w1.frozen? ⟨g, 2, none⟩ = false := by simp [World.frozen?, h1]
    have H1 := Aside0.mk h1
    have H5 := Aside0.mk h5
    have H6 := Aside0.mk h6
    have hd' : B.drop N1.toNat = l1 := hd
    have HD := Aside0.mk hd'
    have hll : (l1.length : Int) = B.length - N1 := by rw [← hd', List.length_drop]; omega
    have s1 : IntKind.i64.wrap ((B.length : Int) - N1) = (B.length : Int) - N1 := IntWalk.i64_in _ (by omega)
    clear hd hd' hs h1 h5 h6
    by_cases hx : x ≤ l1.length
    · have HR2 := Aside0.mk (HR1.out.trans (if_pos hx))
      have z1 : decide ((B.length : Int) - N1 < x) = false := by simp; omega
      have hx0 : x.toNat ≤ l1.length := by omega
      obtain ⟨l2, hl2⟩ : ∃ l2, l1.take x.toNat = l2 := ⟨_, rfl⟩
      have hl2n : l2.length = x.toNat := by rw [← hl2, List.length_take]; omega
      have hcut := cutM A B.length c N1 (N1 + x) h3 (by omega) (by omega) h2
      rw [show (N1 + x).toNat - N1.toNat = l2.length by rw [hl2n]; omega] at hcut
      have hr' : ∀ w2 : World, Below w1.heap.size w1 w2 → ReadsInt w2 .u8 (if c = N1.toNat then A else A.map (·.add N1.toNat)) l2.length l2 := fun w2 hb => by
        have h := ((H5.out.now.below hb).drop_ N1.toNat (by omega) h2).take_ x.toNat (by have := hll; omega)
        rw [hl2n, ← hl2, ← HD.out]
        exact h
      obtain ⟨C, hC⟩ : ∃ C, (if c = N1.toNat then A else A.map (·.add N1.toNat)) = C := ⟨_, rfl⟩
      rw [hC] at hcut
      simp only [hC] at hr'
      have HR' := Aside0.mk hr'
      have HL2 := Aside0.mk hl2
      have s2 : IntKind.i64.wrap (N1 + x) = N1 + x := IntWalk.i64_in _ (by omega)
      have hnew0 := World.new_ne w1 _ hc0
      have hnew1 := World.new_ne w1 _ hc1
      have hll2 : l2.length ≤ 140737488351232 := by omega
      have z3 : N1 + x ≤ B.length := by omega
      clear hC hr' hl2 hl2n hx0 hx
      go_wp2_with fail
      go_quiet (fail)
      go_wp2_with fail
      go_region_held3 (fun w' => w'.cell? ⟨g, 0, none⟩ = some (.slice A B.length c) ∧ w'.cell? ⟨g, 1, none⟩ = some (.int .i64 N1)) (first | go_keep | exact ⟨pw_cell_below hb2 hc0, pw_cell_below hb2 hc1⟩)
        ((refine step_append_reads rfl _ _ rfl w1.heap.size (.slice (some ⟨w1.heap.size, 0, none⟩) 0 0) [] l2 C _ (by rfl) (by rfl) (own_lit w1 w1.heap.size 5 .u8 [] (Nat.le_refl _) (by simp)) (HR'.out _ (by repeat (first | exact Below.refl _ _ | refine below_alloc ?_ _ | refine below_drew ?_ | refine pw_below_drewN ?_ _))) (by simp) (by simp; omega) ?_; intro v1 w2 hown hgrow hat; have hb2 : Below w1.heap.size w1 w2 := Below.grown (w := _) (by repeat (first | exact Below.refl _ _ | refine below_alloc ?_ _ | refine below_drew ?_ | refine pw_below_drewN ?_ _)) hgrow (by simp) (fun k hk => by cases hk; exact Nat.le_refl _)))
      obtain ⟨A1, c1, rfl⟩ := own_slice hown
      have h1' := (hb2.block g (Array.getElem?_eq_some_iff.1 H1.out).1).trans H1.out
      have H1' := Aside0.mk h1'
      have hd0 : w2.cell? ⟨g, 0, none⟩ = some (.slice A B.length c) := cellOf h1' 0 rfl
      have hd1 : w2.cell? ⟨g, 1, none⟩ = some (.int .i64 N1) := cellOf h1' 1 rfl
      have hg1 : w2.frozen? ⟨g, 1, none⟩ = false := by simp [World.frozen?, h1']
      have HOW := Aside0.mk hown
      have HB2 := Aside0.mk hb2
      clear s1 s2 hcut hnew0 hnew1 hown hgrow hat hb2 h1' hc0 hc1 hc2 hf1 hf2
      go_wp2_with fail
      go_ret
      refine ⟨_, rfl, ?_⟩
      rw [HR2.out, HL2.out]
      have hE := HE.out
      subst hE
      have hn : ∀ k, w1.heap.size ≤ k → k ≠ g := fun k hk e => by have := (Array.getElem?_eq_some_iff.1 H1.out).1; omega
      refine ⟨own_weaken (own_move HOW.out (fun k hk => Below.heap_setCell w2 ⟨g, 1, none⟩ _ k (hn k (own_base HOW.out k hk)))) HS.out.1.size, N1 + x, ?_, same_trans HS.out ?_⟩
      · show B.drop (N1 + x).toNat = l1.drop x.toNat
        rw [← HD.out, List.drop_drop, show (N1 + x).toNat = N1.toNat + x.toNat by omega]
      · exact rf_set H1.out ⟨h2, h2'⟩ ⟨by omega, z3⟩ H5.out H6.out (ch_set (Ch.ofBelow HB2.out) _) (set_at H1'.out 1 _)
    · have HR2 := Aside0.mk (HR1.out.trans (if_neg hx))
      have z1 : decide ((B.length : Int) - N1 < x) = true := by simp; omega
      clear hx
      go_wp2_with fail
      go_quiet (fail)
      go_wp2_with fail
      go_ret
      refine ⟨_, rfl, ?_⟩
      rw [HR2.out]
      refine ⟨own_nil _ _ _ _, N, H4.out, same_trans HS.out ?_⟩
      exact rf_set H1.out ⟨h2, h2'⟩ K3.out H5.out H6.out (ch_set (ch_set (ch_drewN _ w1 _) _) _) (set_at (set_at (w := w1.drewN _) H1.out 2 _) 1 _)
  · have HR1 := Aside0.mk (HRI.out.trans (if_neg he))
    have b0 : (e1 == 0) = false := by simp [he]
    have b1 : (e1 != 0) = true := by simp [he]
    clear he hxx
    go_enter Try.func15, Try.ntmps15
    go_wp2_with fail
    refine HN.out.mono ?_
    rintro r w1 ⟨rfl, N1, hd, hs⟩
    have HS := Aside0.mk hs
    have HD := Aside0.mk hd
    obtain ⟨A, c, h1, h2, h3, h5, h6⟩ := hs.2
    have hc0 : w1.cell? ⟨g, 0, none⟩ = some (.slice A B.length c) := cellOf h1 0 rfl
    have hc1 : w1.cell? ⟨g, 1, none⟩ = some (.int .i64 N1) := cellOf h1 1 rfl
    have hc2 : w1.cell? ⟨g, 2, none⟩ = some (.int .i64 e1) := cellOf h1 2 rfl
    have hf1 : w1.frozen? ⟨g, 1, none⟩ = false := by simp [World.frozen?, h1]
    have hf2 : w1.frozen? ⟨g, 2, none⟩ = false := by simp [World.frozen?, h1]
    clear hd hs h1 h5 h6
    go_wp2_with fail
    go_ret
    unfold TextPostB
    rw [HR1.out]
    exact ⟨_, rfl, own_nil _ _ _ _, N1, HD.out, HS.out⟩

theorem ftextR_calls (g : Nat) (most : Int) (l : List Int) (e : Int) (w : World) (S : Nat → Prop) (hA : (rfA g l e).holds w S) (hby : ∀ x ∈ l, 0 ≤ x ∧ x < 256) (hm : -9223372036854775808 ≤ most) (hm' : most ≤ 9223372036854775807) :
    Calls Try.prog 15 #[.pointer (some ⟨g, 0, none⟩), .int .i64 most] w (TextPostF g S w (rText most l e)) := by
  obtain ⟨B, N, h4, hB⟩ := hA
  refine (ftextB_calls g most B l N e w S hB h4 hby hm hm').mono ?_
  rintro r w' ⟨v, rfl, ho, N', h, hs⟩
  exact ⟨v, rfl, ho, hs.1, B, N', h, hs.2⟩
end Go.Proofs.Ytpbkibafhabahaa.Wire
