/- The program's reader: its methods, walked through once. -/
import Derived.Test.YtpbkibafhabahaaWireC
namespace Go.Proofs.Ytpbkibafhabahaa.Wire
open Go.RowKit Go.Proofs.YtpbkibafhabahaaW.PrintWords Go.Proofs.Ytpbkibafhabahaa.Obj
set_option linter.unusedVariables false

set_option maxHeartbeats 1000000 in
theorem within1_calls (A : Option Addr) (c p q : Nat) (least most : Int) (l : List Int) (w : World) (hR : ReadsInt w .u8 A l.length l) (hc : l.length ≤ c) (hby : ∀ x ∈ l, 0 ≤ x ∧ x < 256) (hp : w.cell? ⟨p, 0, none⟩ = some (.int .i64 least)) (hq : w.cell? ⟨q, 0, none⟩ = some (.int .i64 most)) :
    Calls Try.prog 32 #[.slice A l.length c, .pointer (some ⟨p, 0, none⟩), .pointer (some ⟨q, 0, none⟩)] w fun e w' => e = .returned (.tuple #[.int .i64 (within least most l).1, .int .i64 (within least most l).2.1, .int .i64 (within least most l).2.2]) ∧ w = w' := by
  have hu22 := Try.underlying22
  have HN := Aside0.mk (number_calls A c l w hR hc hby)
  clear hR hc hby
  have hw : within least most l = if (dec l).2.2 = 0 ∧ ((dec l).1 < least ∨ most < (dec l).1) then ((dec l).1, (dec l).2.1, 12) else dec l := rfl
  obtain ⟨d1, d2, d3, hd⟩ : ∃ d1 d2 d3, dec l = (d1, d2, d3) := ⟨_, _, _, rfl⟩
  rw [hd] at hw
  rw [hd] at HN
  clear hd
  rw [hw]
  clear hw
  by_cases h0 : d3 = 0
  · by_cases h1 : d1 < least
    · rw [if_pos ⟨h0, .inl h1⟩]
      have b0 : (d3 == 0) = true := by simp [h0]
      clear h0
      go_enter Try.func32, Try.ntmps32
      go_wp2_with (go_at_call 31; refine HN.out.mono ?_; rintro e w' ⟨rfl, rfl⟩)
      go_ret3
      exact ⟨rfl, rfl⟩
    · by_cases h2 : most < d1
      · rw [if_pos ⟨h0, .inr h2⟩]
        have b0 : (d3 == 0) = true := by simp [h0]
        clear h0
        go_enter Try.func32, Try.ntmps32
        go_wp2_with (go_at_call 31; refine HN.out.mono ?_; rintro e w' ⟨rfl, rfl⟩)
        go_ret3
        exact ⟨rfl, rfl⟩
      · rw [if_neg (fun h => h.2.elim h1 h2)]
        have b0 : (d3 == 0) = true := by simp [h0]
        clear h0
        go_enter Try.func32, Try.ntmps32
        go_wp2_with (go_at_call 31; refine HN.out.mono ?_; rintro e w' ⟨rfl, rfl⟩)
        go_ret3
        exact ⟨rfl, rfl⟩
  · rw [if_neg (fun h => h0 h.1)]
    have b0 : (d3 == 0) = false := by simp [h0]
    clear h0
    go_enter Try.func32, Try.ntmps32
    go_wp2_with (go_at_call 31; refine HN.out.mono ?_; rintro e w' ⟨rfl, rfl⟩)
    go_ret3
    exact ⟨rfl, rfl⟩

theorem cellOf {w : World} {b : Nat} {cs : Array Value} {t : TypeId} {fr : Nat × Nat} (h : w.heap[b]? = some (.cells cs t fr)) (j : Nat) {v : Value} (hv : cs[j]? = some v) : w.cell? ⟨b, j, none⟩ = some v := by
  simp [World.cell?, h, hv]
theorem box2 (w : World) (a b : Obj) : ((w.alloc a).alloc b).heap[w.heap.size]? = some a ∧ ((w.alloc a).alloc b).heap[(w.alloc a).heap.size]? = some b :=
  ⟨(Below.heap_alloc _ b _ (by simp)).trans (heap_alloc_new w a), heap_alloc_new _ b⟩
set_option maxHeartbeats 1000000 in
theorem within_calls (least most : Int) (w : World) :
    Calls Try.prog 28 #[.int .i64 least, .int .i64 most] w fun e w' => ∃ p q : Nat, e = .returned (.func (.func 32) #[] #[.pointer (some ⟨p, 0, none⟩), .pointer (some ⟨q, 0, none⟩)]) ∧ w'.cell? ⟨p, 0, none⟩ = some (.int .i64 least) ∧ w'.cell? ⟨q, 0, none⟩ = some (.int .i64 most) ∧ Below w.heap.size w w' := by
  have hmf : ∀ (fn : Fn) (first cap : Array Value) (w : World), (Instr.makeFunc fn first cap).run Try.prog w = .ok (.func fn first cap) w := fun _ _ _ _ => rfl
  go_enter Try.func28, Try.ntmps28
  go_wp2
  go_ret
  have h2 := box2 w (.cells #[.int .i64 least] 2) (.cells #[.int .i64 most] 2)
  simp only [World.size_alloc] at h2
  exact ⟨_, _, rfl, cellOf h2.1 0 rfl, cellOf h2.2 0 rfl, ((Below.refl _ _).alloc (Nat.le_refl _) _).alloc (by simp) _⟩

/-! ### A step of the reader -/
/-- What a read of a number leaves. -/
def NumPost (g : Nat) (S : Nat → Prop) (w : World) (t : Int × List Int × Int) (r : Ending) (w' : World) : Prop := r = .returned (.int .i64 t.1) ∧ Same (rdA g t.2.1 t.2.2) S w w'
theorem info5i : ∃ i, Try.prog.info? 5 = some i ∧ i.size = 1 := by
  obtain ⟨i0, hi, hz0, hz1, hz2⟩ := info_parts info5
  exact ⟨i0, hi, hz1⟩
theorem set_block {w w1 : World} {g : Nat} {cs : Array Value} {T : TypeId} {fr : Nat × Nat} (hg : w.heap[g]? = some (.cells cs T fr)) (hb : Below w.heap.size w w1) (j : Nat) (u : Value) : (w1.setCell ⟨g, j, none⟩ u).heap[g]? = some (.cells (cs.setIfInBounds j u) T fr) := by
  have e := (hb.block g (Array.getElem?_eq_some_iff.1 hg).1).trans hg
  simp only [World.setCell, Array.getElem?_modify, e]
  simp
/-- An error is laid down. -/
theorem rd_wrong {g : Nat} {l : List Int} {e f : Int} {w w1 : World} {S : Nat → Prop} (hA : (rdA g l e).holds w S) (hS : ∀ k, S k → k < w.heap.size) (hb : Below w.heap.size w w1) : Same (rdA g l f) S w (w1.setCell ⟨g, 1, none⟩ (.int .i64 f)) := by
  obtain ⟨A, c, h1, h2, h3, h4⟩ := hA
  exact ⟨(Ch.ofBelow hb).setCell (.inl h4) _, A, c, set_block h1 hb 1 _, h2, Foot.step h3 (fun k hk hlt => (Below.heap_setCell w1 ⟨g, 1, none⟩ _ k hk.2).trans (hb.block k hlt)), h4⟩
/-- What was read is passed by. -/
theorem rd_pass {g n : Nat} {l : List Int} {e : Int} {A : Option Addr} {c : Nat} {w w1 : World} {S : Nat → Prop} (h1 : w.heap[g]? = some (.cells #[.slice A l.length c, .int .i64 e] 56 (0, 0))) (h2 : l.length ≤ c) (h3 : RB w (fun k => S k ∧ k ≠ g) A l) (h4 : S g) (hS : ∀ k, S k → k < w.heap.size) (hb : Below w.heap.size w w1) (hn : n ≤ l.length) :
    Same (rdA g (l.drop n) e) S w (w1.setCell ⟨g, 0, none⟩ (.slice (if c = n then A else A.map (·.add n)) (l.length - n) (c - n))) := by
  refine ⟨(Ch.ofBelow hb).setCell (.inl h4) _, (if c = n then A else A.map (·.add n)), c - n, ?_, by rw [List.length_drop]; omega, ?_, h4⟩
  · rw [List.length_drop]
    exact set_block h1 hb 0 _
  · have h5 : RB w1 (fun k => S k ∧ k ≠ g) A l := Foot.step h3 (fun k hk hlt => hb.block k hlt)
    have h6 : RB (w1.setCell ⟨g, 0, none⟩ (.slice (if c = n then A else A.map (·.add n)) (l.length - n) (c - n))) (fun k => S k ∧ k ≠ g) A l := Foot.step h5 (fun k hk hlt => Below.heap_setCell w1 ⟨g, 0, none⟩ _ k hk.2)
    refine Foot.imp h6 (fun W' hW => ?_)
    rw [List.length_drop]
    exact hW.drop_ n hn h2
theorem cutL (A : Option Addr) (n c : Nat) (j : Int) (h0 : 0 ≤ j) (hm : j ≤ n) : ∀ W : World, (Instr.slice 22 (.slice A n c) (some (.int .i64 j)) none none).run Try.prog W = .ok (.slice (if c = j.toNat then A else A.map (·.add j.toNat)) (n - j.toNat) (c - j.toNat)) W := by
  obtain ⟨i, hi, hs⟩ := info5i
  have h := cut_from 22 5 .i64 Try.underlying22 hi 1 hs A n c j h0 hm
  simpa only [Nat.mul_one] using h

set_option maxHeartbeats 2000000 in
theorem step_num (g : Nat) (l : List Int) (e : Int) (w : World) (S : Nat → Prop) (hA : (rdA g l e).holds w S) (hS : ∀ k, S k → k < w.heap.size) (t : Int × Int × Int) (ht : (0 ≤ t.2.1 ∧ t.2.1 ≤ l.length))
    (hf : ∀ A c, ReadsInt w .u8 A l.length l → l.length ≤ c → Calls Try.prog 31 #[.slice A l.length c] w fun e w' => e = .returned (.tuple #[.int .i64 t.1, .int .i64 t.2.1, .int .i64 t.2.2]) ∧ w = w') :
    Calls Try.prog 27 #[.pointer (some ⟨g, 0, none⟩), .func (.func 31) #[] #[]] w (NumPost g S w (if e = 0 then rStep t l else (0, l, e))) := by
  have hu56 := Try.underlying56
  have hu22 := Try.underlying22
  have U0 := Aside0.mk (Same.refl0 hA)
  have HA := Aside0.mk hA
  have HS := Aside0.mk hS
  obtain ⟨t1, t2, t3⟩ := t
  obtain ⟨A, c, h1, h2, h3, h4⟩ := hA
  have hc0 : w.cell? ⟨g, 0, none⟩ = some (.slice A l.length c) := by simp [World.cell?, h1]
  have hc1 : w.cell? ⟨g, 1, none⟩ = some (.int .i64 e) := by simp [World.cell?, h1]
  have hf0 : w.frozen? ⟨g, 0, none⟩ = false := by simp [World.frozen?, h1]
  have hf1 : w.frozen? ⟨g, 1, none⟩ = false := by simp [World.frozen?, h1]
  have HF := Aside0.mk (hf A c h3.now h2)
  have H1 := Aside0.mk h1
  have H3 := Aside0.mk h3
  have H4 := Aside0.mk h4
  dsimp only at ht
  obtain ⟨ht0, ht1⟩ := ht
  clear hf h1 h3 h4 hS
  by_cases he : e = 0
  · have b0 : (e == 0) = true := by simp [he]
    have b1 : (e != 0) = false := by simp [he]
    rw [if_pos he]
    clear he
    by_cases h0 : t3 = 0
    · have c0 : (t3 == 0) = true := by simp [h0]
      have c1 : (t3 != 0) = false := by simp [h0]
      rw [show rStep (t1, t2, t3) l = (t1, l.drop t2.toNat, 0) from if_pos h0]
      have HE := Aside0.mk (show e = 0 by simpa using b0)
      clear h0
      have hcut := cutL A l.length c t2 ht0 ht1
      obtain ⟨B, hB⟩ : ∃ B, (if c = t2.toNat then A else A.map (·.add t2.toNat)) = B := ⟨_, rfl⟩
      rw [hB] at hcut
      have HB := Aside0.mk hB
      clear hB
      go_enter Try.func27, Try.ntmps27
      go_wp2_with (go_at_call 31; refine HF.out.mono ?_; rintro e w' ⟨rfl, rfl⟩)
      go_ret
      refine ⟨rfl, ?_⟩
      have hp := rd_pass (n := t2.toNat) H1.out h2 H3.out H4.out HS.out (Below.refl _ _) (by omega)
      rw [HB.out, HE.out] at hp
      exact hp
    · have c0 : (t3 == 0) = false := by simp [h0]
      have c1 : (t3 != 0) = true := by simp [h0]
      rw [show rStep (t1, t2, t3) l = (0, l, t3) from if_neg h0]
      clear h0
      go_enter Try.func27, Try.ntmps27
      go_wp2_with (go_at_call 31; refine HF.out.mono ?_; rintro e w' ⟨rfl, rfl⟩)
      go_ret
      exact ⟨rfl, rd_wrong HA.out HS.out (Below.refl _ _)⟩
  · have b0 : (e == 0) = false := by simp [he]
    have b1 : (e != 0) = true := by simp [he]
    rw [if_neg he]
    clear he
    go_enter Try.func27, Try.ntmps27
    go_wp2
    go_ret
    exact ⟨rfl, U0.out⟩

set_option maxHeartbeats 2000000 in
theorem step_int (g : Nat) (p q : Nat) (l : List Int) (e : Int) (w : World) (S : Nat → Prop) (hA : (rdA g l e).holds w S) (hS : ∀ k, S k → k < w.heap.size) (t : Int × Int × Int) (ht : (0 ≤ t.2.1 ∧ t.2.1 ≤ l.length))
    (hf : ∀ A c, ReadsInt w .u8 A l.length l → l.length ≤ c → Calls Try.prog 32 #[.slice A l.length c, .pointer (some ⟨p, 0, none⟩), .pointer (some ⟨q, 0, none⟩)] w fun e w' => e = .returned (.tuple #[.int .i64 t.1, .int .i64 t.2.1, .int .i64 t.2.2]) ∧ w = w') :
    Calls Try.prog 27 #[.pointer (some ⟨g, 0, none⟩), .func (.func 32) #[] #[.pointer (some ⟨p, 0, none⟩), .pointer (some ⟨q, 0, none⟩)]] w (NumPost g S w (if e = 0 then rStep t l else (0, l, e))) := by
  have hu56 := Try.underlying56
  have hu22 := Try.underlying22
  have U0 := Aside0.mk (Same.refl0 hA)
  have HA := Aside0.mk hA
  have HS := Aside0.mk hS
  obtain ⟨t1, t2, t3⟩ := t
  obtain ⟨A, c, h1, h2, h3, h4⟩ := hA
  have hc0 : w.cell? ⟨g, 0, none⟩ = some (.slice A l.length c) := by simp [World.cell?, h1]
  have hc1 : w.cell? ⟨g, 1, none⟩ = some (.int .i64 e) := by simp [World.cell?, h1]
  have hf0 : w.frozen? ⟨g, 0, none⟩ = false := by simp [World.frozen?, h1]
  have hf1 : w.frozen? ⟨g, 1, none⟩ = false := by simp [World.frozen?, h1]
  have HF := Aside0.mk (hf A c h3.now h2)
  have H1 := Aside0.mk h1
  have H3 := Aside0.mk h3
  have H4 := Aside0.mk h4
  dsimp only at ht
  obtain ⟨ht0, ht1⟩ := ht
  clear hf h1 h3 h4 hS
  by_cases he : e = 0
  · have b0 : (e == 0) = true := by simp [he]
    have b1 : (e != 0) = false := by simp [he]
    rw [if_pos he]
    clear he
    by_cases h0 : t3 = 0
    · have c0 : (t3 == 0) = true := by simp [h0]
      have c1 : (t3 != 0) = false := by simp [h0]
      rw [show rStep (t1, t2, t3) l = (t1, l.drop t2.toNat, 0) from if_pos h0]
      have HE := Aside0.mk (show e = 0 by simpa using b0)
      clear h0
      have hcut := cutL A l.length c t2 ht0 ht1
      obtain ⟨B, hB⟩ : ∃ B, (if c = t2.toNat then A else A.map (·.add t2.toNat)) = B := ⟨_, rfl⟩
      rw [hB] at hcut
      have HB := Aside0.mk hB
      clear hB
      go_enter Try.func27, Try.ntmps27
      go_wp2_with (go_at_call 32; refine HF.out.mono ?_; rintro e w' ⟨rfl, rfl⟩)
      go_ret
      refine ⟨rfl, ?_⟩
      have hp := rd_pass (n := t2.toNat) H1.out h2 H3.out H4.out HS.out (Below.refl _ _) (by omega)
      rw [HB.out, HE.out] at hp
      exact hp
    · have c0 : (t3 == 0) = false := by simp [h0]
      have c1 : (t3 != 0) = true := by simp [h0]
      rw [show rStep (t1, t2, t3) l = (0, l, t3) from if_neg h0]
      clear h0
      go_enter Try.func27, Try.ntmps27
      go_wp2_with (go_at_call 32; refine HF.out.mono ?_; rintro e w' ⟨rfl, rfl⟩)
      go_ret
      exact ⟨rfl, rd_wrong HA.out HS.out (Below.refl _ _)⟩
  · have b0 : (e == 0) = false := by simp [he]
    have b1 : (e != 0) = true := by simp [he]
    rw [if_neg he]
    clear he
    go_enter Try.func27, Try.ntmps27
    go_wp2
    go_ret
    exact ⟨rfl, U0.out⟩

theorem within_range (least most : Int) (l : List Int) : 0 ≤ (within least most l).2.1 ∧ (within least most l).2.1 ≤ l.length := by
  have h : 0 ≤ (dec l).2.1 ∧ (dec l).2.1 ≤ l.length := by
    rcases dec_cases l with ⟨x, n, h, h1, h2, h3⟩ | h | h <;> rw [h]
    · exact ⟨show 0 ≤ n by omega, h2⟩
    · exact ⟨by simp, by simp⟩
    · exact ⟨by simp, by simp⟩
  unfold within
  split
  · exact h
  · exact h
theorem dec_range (l : List Int) : 0 ≤ (dec l).2.1 ∧ (dec l).2.1 ≤ l.length := by
  rcases dec_cases l with ⟨x, n, h, h1, h2, h3⟩ | h | h <;> rw [h]
  · exact ⟨show 0 ≤ n by omega, h2⟩
  · exact ⟨by simp, by simp⟩
  · exact ⟨by simp, by simp⟩
set_option maxHeartbeats 1000000 in
theorem rnum_calls (g : Nat) (l : List Int) (e : Int) (w : World) (S : Nat → Prop) (hA : (rdA g l e).holds w S) (hS : ∀ k, S k → k < w.heap.size) (hby : ∀ x ∈ l, 0 ≤ x ∧ x < 256) :
    Calls Try.prog 16 #[.pointer (some ⟨g, 0, none⟩)] w (NumPost g S w (rNum l e)) := by
  have HC := Aside0.mk (show Calls Try.prog 27 #[.pointer (some ⟨g, 0, none⟩), .func (.func 31) #[] #[]] w (NumPost g S w (rNum l e)) from step_num g l e w S hA hS (dec l) (dec_range l) (fun A c hR hc => number_calls A c l w hR hc hby))
  clear hA hS hby
  go_enter Try.func16, Try.ntmps16
  go_wp2_with (go_at_call 27; refine HC.out.mono ?_; rintro r w' ⟨rfl, hU⟩; have HU := Aside0.mk hU; clear hU)
  go_ret
  exact ⟨rfl, HU.out⟩
set_option maxHeartbeats 1000000 in
theorem rint_calls (g : Nat) (least most : Int) (l : List Int) (e : Int) (w : World) (S : Nat → Prop) (hA : (rdA g l e).holds w S) (hS : ∀ k, S k → k < w.heap.size) (hby : ∀ x ∈ l, 0 ≤ x ∧ x < 256) :
    Calls Try.prog 12 #[.pointer (some ⟨g, 0, none⟩), .int .i64 least, .int .i64 most] w (NumPost g S w (rInt least most l e)) := by
  have HA := Aside0.mk hA
  have HS := Aside0.mk hS
  have HBY := Aside0.mk hby
  clear hA hS hby
  go_enter Try.func12, Try.ntmps12
  go_wp2_with fail
  refine (within_calls least most w).mono ?_
  rintro r w1 ⟨p, q, rfl, hp, hq, hb⟩
  have HP := Aside0.mk hp
  have HQ := Aside0.mk hq
  have HB := Aside0.mk hb
  clear hp hq hb
  go_wp2_with fail
  have hA1 : (rdA g l e).holds w1 S := (rdA g l e).keep (fun k hk => HB.out.block k (HS.out k hk)) HA.out
  refine (show Calls Try.prog 27 _ w1 (NumPost g S w1 (rInt least most l e)) from step_int g p q l e w1 S hA1 (fun k hk => Nat.lt_of_lt_of_le (HS.out k hk) HB.out.size) (within least most l) (within_range least most l) (fun A c hR hc => within1_calls A c p q least most l w1 hR hc HBY.out HP.out HQ.out)).mono ?_
  rintro r w2 ⟨rfl, hU⟩
  have HU := Aside0.mk (same_after HB.out hU)
  clear hU hA1
  go_wp2_with fail
  go_ret
  exact ⟨rfl, HU.out⟩
end Go.Proofs.Ytpbkibafhabahaa.Wire
