/- The program's reader: texts, and what was wrong, walked through once. -/
import Derived.Test.YtpbkibafhabahaaWireD
namespace Go.Proofs.Ytpbkibafhabahaa.Wire
open Go.RowKit Go.Proofs.YtpbkibafhabahaaW.PrintWords Go.Proofs.Ytpbkibafhabahaa.Obj
set_option linter.unusedVariables false

/-- What the try at a text leaves: bytes of its own. -/
def TryPost (w : World) (t : List Int × Int × Int) (r : Ending) (w' : World) : Prop := ∃ v, r = .returned (.tuple #[v, .int .i64 t.2.1, .int .i64 t.2.2]) ∧ w'.ownsRow w.heap.size 5 1 v t.1.length (nums .u8 t.1) ∧ Below w.heap.size w w'
def TextPost (g : Nat) (S : Nat → Prop) (w : World) (t : List Int × List Int × Int) (r : Ending) (w' : World) : Prop := ∃ v, r = .returned v ∧ w'.ownsRow w.heap.size 5 1 v t.1.length (nums .u8 t.1) ∧ Same (rdA g t.2.1 t.2.2) S w w'
theorem cutM (A : Option Addr) (n c : Nat) (i j : Int) (h0 : 0 ≤ i) (h1 : i ≤ j) (hm : j ≤ n) (hc : n ≤ c) : ∀ W : World, (Instr.slice 22 (.slice A n c) (some (.int .i64 i)) (some (.int .i64 j)) none).run Try.prog W = .ok (.slice (if c = i.toNat then A else A.map (·.add i.toNat)) (j.toNat - i.toNat) (c - i.toNat)) W := by
  obtain ⟨k, hi, hs⟩ := info5i
  have h := cut_mid 22 5 .i64 .i64 Try.underlying22 hi 1 hs A n c i j h0 h1 hm hc
  simpa only [Nat.mul_one] using h
theorem within_int (least most : Int) (l : List Int) (hby : ∀ x ∈ l, 0 ≤ x ∧ x < 256) : -9223372036854775808 ≤ (within least most l).1 ∧ (within least most l).1 ≤ 9223372036854775807 := by
  have h : -9223372036854775808 ≤ (dec l).1 ∧ (dec l).1 ≤ 9223372036854775807 := by
    rcases dec_cases l with ⟨x, n, h, h1, h2, h3⟩ | h | h
    · have := dec_form l x n hby h
      rw [h]
      exact ⟨this.2.2.2.1, this.2.2.2.2⟩
    · rw [h]; exact ⟨by simp, by simp⟩
    · rw [h]; exact ⟨by simp, by simp⟩
  unfold within
  split
  · exact h
  · exact h
set_option maxHeartbeats 2000000 in
theorem text1_calls (A : Option Addr) (c p : Nat) (most : Int) (l : List Int) (w : World) (hR : ReadsInt w .u8 A l.length l) (hc : l.length ≤ c) (hl : l.length ≤ 140737488351232) (hby : ∀ x ∈ l, 0 ≤ x ∧ x < 256) (hp : w.cell? ⟨p, 0, none⟩ = some (.int .i64 most)) :
    Calls Try.prog 30 #[.slice A l.length c, .pointer (some ⟨p, 0, none⟩)] w (TryPost w (textOf most l)) := by
  have hu22 := Try.underlying22
  have HW := Aside0.mk (within_calls 0 most w)
  have HN := Aside0.mk (fun (p q : Nat) (w1 : World) (hb : Below w.heap.size w w1) (hp : w1.cell? ⟨p, 0, none⟩ = some (.int .i64 0)) (hq : w1.cell? ⟨q, 0, none⟩ = some (.int .i64 most)) => within1_calls A c p q 0 most l w1 (hR.below hb) hc hby hp hq)
  have HR := Aside0.mk hR
  have hrg := within_range 0 most l
  have hri := within_int 0 most l hby
  have hw : textOf most l = if (within 0 most l).2.2 = 0 then (if (within 0 most l).1 ≤ l.length - (within 0 most l).2.1 then ((l.drop (within 0 most l).2.1.toNat).take (within 0 most l).1.toNat, (within 0 most l).2.1 + (within 0 most l).1, 0) else ([], 0, 13)) else ([], 0, (within 0 most l).2.2) := rfl
  have hnn : (within 0 most l).2.2 = 0 → 0 ≤ (within 0 most l).1 := by
    unfold within
    split
    · simp
    · rename_i h
      intro h0
      by_cases h1 : (dec l).1 < 0
      · exact absurd ⟨h0, .inl h1⟩ h
      · omega
  clear hR hby
  obtain ⟨d1, d2, d3, hd⟩ : ∃ d1 d2 d3, within 0 most l = (d1, d2, d3) := ⟨_, _, _, rfl⟩
  simp only [hd] at hw hrg hri hnn HN
  clear hd
  rw [hw]
  clear hw
  obtain ⟨g0, g1⟩ := hrg
  obtain ⟨g2, g3⟩ := hri
  by_cases h0 : d3 = 0
  · rw [if_pos h0]
    have g4 := hnn h0
    have b0 : (d3 != 0) = false := by simp [h0]
    clear h0 hnn
    by_cases h1 : d1 ≤ l.length - d2
    · rw [if_pos h1]
      obtain ⟨l', hl'⟩ : ∃ l', (l.drop d2.toNat).take d1.toNat = l' := ⟨_, rfl⟩
      have hlen : l'.length = d1.toNat := by rw [← hl', List.length_take, List.length_drop]; omega
      have hcut := cutM A l.length c d2 (d2 + d1) g0 (by omega) (by omega) hc
      rw [show (d2 + d1).toNat - d2.toNat = l'.length by rw [hlen]; omega] at hcut
      have hr' : ∀ w1 : World, Below w.heap.size w w1 → ReadsInt w1 .u8 (if c = d2.toNat then A else A.map (·.add d2.toNat)) l'.length l' := fun w1 hb => by
        have h := ((HR.out.below hb).drop_ d2.toNat (by omega) hc).take_ d1.toNat (by omega)
        rw [hlen, ← hl']
        exact h
      obtain ⟨B, hB⟩ : ∃ B, (if c = d2.toNat then A else A.map (·.add d2.toNat)) = B := ⟨_, rfl⟩
      rw [hl']
      rw [hB] at hcut
      simp only [hB] at hr'
      have HR' := Aside0.mk hr'
      have hll : l'.length ≤ 140737488351232 := by omega
      clear hB hr' hl' hlen
      go_enter Try.func30, Try.ntmps30
      go_wp2_with fail
      refine HW.out.mono ?_
      rintro r w1 ⟨p1, q1, rfl, hp1, hq1, hb1⟩
      have HP1 := Aside0.mk hp1
      have HQ1 := Aside0.mk hq1
      have HB1 := Aside0.mk hb1
      clear hp1 hq1 hb1
      go_wp2_with fail
      refine (HN.out p1 q1 w1 HB1.out HP1.out HQ1.out).mono ?_
      rintro r w2 ⟨rfl, rfl⟩
      go_wp2_with fail
      refine (clone_calls B _ l' w1 (HR'.out w1 HB1.out) hll).mono ?_
      rintro r w3 ⟨v, rfl, ho, hb⟩
      have HO := Aside0.mk ho
      have HB := Aside0.mk hb
      clear ho hb
      go_wp2_with fail
      go_ret3
      exact ⟨v, rfl, own_weaken HO.out HB1.out.size, below_then HB1.out HB1.out.size HB.out⟩
    · rw [if_neg h1]
      go_enter Try.func30, Try.ntmps30
      go_wp2_with fail
      refine HW.out.mono ?_
      rintro r w1 ⟨p1, q1, rfl, hp1, hq1, hb1⟩
      have HP1 := Aside0.mk hp1
      have HQ1 := Aside0.mk hq1
      have HB1 := Aside0.mk hb1
      clear hp1 hq1 hb1
      go_wp2_with fail
      refine (HN.out p1 q1 w1 HB1.out HP1.out HQ1.out).mono ?_
      rintro r w2 ⟨rfl, rfl⟩
      go_wp2_with fail
      go_ret3
      exact ⟨_, rfl, own_nil _ _ _ _, HB1.out⟩
  · rw [if_neg h0]
    have b0 : (d3 != 0) = true := by simp [h0]
    clear h0 hnn
    go_enter Try.func30, Try.ntmps30
    go_wp2_with fail
    refine HW.out.mono ?_
    rintro r w1 ⟨p1, q1, rfl, hp1, hq1, hb1⟩
    have HP1 := Aside0.mk hp1
    have HQ1 := Aside0.mk hq1
    have HB1 := Aside0.mk hb1
    clear hp1 hq1 hb1
    go_wp2_with fail
    refine (HN.out p1 q1 w1 HB1.out HP1.out HQ1.out).mono ?_
    rintro r w2 ⟨rfl, rfl⟩
    go_wp2_with fail
    go_ret3
    exact ⟨_, rfl, own_nil _ _ _ _, HB1.out⟩

theorem rd_pass' {g n : Nat} {l : List Int} {e : Int} {A : Option Addr} {c : Nat} {w w1 : World} {S : Nat → Prop} (h1 : w.heap[g]? = some (.cells #[.slice A l.length c, .int .i64 e] 56 (0, 0))) (h2 : l.length ≤ c) (h3 : RB w (fun k => S k ∧ k ≠ g) A l) (h4 : S g) (hS : ∀ k, S k → k < w.heap.size) (hb : Below w.heap.size w w1) (hn : n ≤ l.length) {v : Value} {t : List Int} (ho : w1.ownsRow w.heap.size 5 1 v t.length (nums .u8 t)) :
    (w1.setCell ⟨g, 0, none⟩ (.slice (if c = n then A else A.map (·.add n)) (l.length - n) (c - n))).ownsRow w.heap.size 5 1 v t.length (nums .u8 t) ∧ Same (rdA g (l.drop n) e) S w (w1.setCell ⟨g, 0, none⟩ (.slice (if c = n then A else A.map (·.add n)) (l.length - n) (c - n))) :=
  ⟨own_move ho (fun k hk => Below.heap_setCell w1 ⟨g, 0, none⟩ _ k (fun e => by have h5 := own_base ho k hk; have h6 := hS g h4; have h7 : k = g := e; omega)), rd_pass h1 h2 h3 h4 hS hb hn⟩
set_option maxHeartbeats 2000000 in
theorem step_text (g p : Nat) (most : Int) (l : List Int) (e : Int) (w : World) (S : Nat → Prop) (hA : (rdA g l e).holds w S) (hS : ∀ k, S k → k < w.heap.size) (hl : l.length ≤ 140737488351232) (hby : ∀ x ∈ l, 0 ≤ x ∧ x < 256) (hp : w.cell? ⟨p, 0, none⟩ = some (.int .i64 most)) :
    Calls Try.prog 29 #[.pointer (some ⟨g, 0, none⟩), .func (.func 30) #[] #[.pointer (some ⟨p, 0, none⟩)]] w (TextPost g S w (rText most l e)) := by
  have hu56 := Try.underlying56
  have hu22 := Try.underlying22
  have U0 := Aside0.mk (Same.refl0 hA)
  have HA := Aside0.mk hA
  have HS := Aside0.mk hS
  have HT := Aside0.mk (show 0 ≤ (textOf most l).2.1 ∧ (textOf most l).2.1 ≤ l.length by
    have h := within_range 0 most l
    unfold textOf
    dsimp only
    split
    · split
      · rename_i h0 h1
        have : 0 ≤ (within 0 most l).1 := by
          unfold within at h0 ⊢
          split at h0
          · simp at h0
          · rename_i h2
            rw [if_neg h2]
            by_cases h3 : (dec l).1 < 0
            · exact absurd ⟨h0, .inl h3⟩ h2
            · omega
        exact ⟨show 0 ≤ (within 0 most l).2.1 + (within 0 most l).1 by omega, show (within 0 most l).2.1 + (within 0 most l).1 ≤ l.length by omega⟩
      · exact ⟨by simp, by simp⟩
    · exact ⟨by simp, by simp⟩)
  obtain ⟨A, c, h1, h2, h3, h4⟩ := hA
  have hc0 : w.cell? ⟨g, 0, none⟩ = some (.slice A l.length c) := by simp [World.cell?, h1]
  have hc1 : w.cell? ⟨g, 1, none⟩ = some (.int .i64 e) := by simp [World.cell?, h1]
  have HF := Aside0.mk (text1_calls A c p most l w h3.now h2 hl hby hp)
  have H1 := Aside0.mk h1
  have H3 := Aside0.mk h3
  have H4 := Aside0.mk h4
  obtain ⟨t, ht⟩ : ∃ t, textOf most l = t := ⟨_, rfl⟩
  have hrt : rText most l e = if e = 0 then (if t.2.2 = 0 then (t.1, l.drop t.2.1.toNat, 0) else ([], l, t.2.2)) else ([], l, e) := by rw [← ht]; rfl
  rw [hrt]
  rw [ht] at HF HT
  clear h1 h3 h4 hS hby hp ht hrt
  obtain ⟨t1, t2, t3⟩ := t
  have ht0 : 0 ≤ t2 := HT.out.1
  have ht1 : t2 ≤ l.length := HT.out.2
  by_cases he : e = 0
  · have b0 : (e == 0) = true := by simp [he]
    have b1 : (e != 0) = false := by simp [he]
    rw [if_pos he]
    clear he
    by_cases h0 : t3 = 0
    · have c0 : (t3 == 0) = true := by simp [h0]
      have c1 : (t3 != 0) = false := by simp [h0]
      rw [show (if (t1, t2, t3).2.2 = 0 then ((t1, t2, t3).1, l.drop (t1, t2, t3).2.1.toNat, 0) else ([], l, (t1, t2, t3).2.2)) = (t1, l.drop t2.toNat, 0) from if_pos h0]
      have HE := Aside0.mk (show e = 0 by simpa using b0)
      clear h0
      have hcut := cutL A l.length c t2 ht0 ht1
      obtain ⟨B, hB⟩ : ∃ B, (if c = t2.toNat then A else A.map (·.add t2.toNat)) = B := ⟨_, rfl⟩
      rw [hB] at hcut
      have HB := Aside0.mk hB
      clear hB
      go_enter Try.func29, Try.ntmps29
      go_wp2_with fail
      refine HF.out.mono ?_
      rintro r w1 ⟨v, rfl, ho, hb⟩
      have hc0' : w1.cell? ⟨g, 0, none⟩ = some (.slice A l.length c) := pw_cell_below hb hc0
      have hf0' : w1.frozen? ⟨g, 0, none⟩ = false := by have e := (hb.block g (HS.out g H4.out)).trans H1.out; simp [World.frozen?, e]
      have HO := Aside0.mk ho
      have HBE := Aside0.mk hb
      clear ho hb
      go_wp2_with fail
      go_ret
      have hp := rd_pass' (n := t2.toNat) H1.out h2 H3.out H4.out HS.out HBE.out (by omega) HO.out
      rw [HB.out, HE.out] at hp
      exact ⟨v, rfl, hp.1, hp.2⟩
    · have c0 : (t3 == 0) = false := by simp [h0]
      have c1 : (t3 != 0) = true := by simp [h0]
      rw [show (if (t1, t2, t3).2.2 = 0 then ((t1, t2, t3).1, l.drop (t1, t2, t3).2.1.toNat, 0) else ([], l, (t1, t2, t3).2.2)) = ([], l, t3) from if_neg h0]
      clear h0
      go_enter Try.func29, Try.ntmps29
      go_wp2_with fail
      refine HF.out.mono ?_
      rintro r w1 ⟨v, rfl, ho, hb⟩
      have hc1' : w1.cell? ⟨g, 1, none⟩ = some (.int .i64 e) := pw_cell_below hb hc1
      have hf1' : w1.frozen? ⟨g, 1, none⟩ = false := by have e := (hb.block g (HS.out g H4.out)).trans H1.out; simp [World.frozen?, e]
      have HBE := Aside0.mk hb
      clear ho hb
      go_wp2_with fail
      go_ret
      exact ⟨_, rfl, own_nil _ _ _ _, rd_wrong HA.out HS.out HBE.out⟩
  · have b0 : (e == 0) = false := by simp [he]
    have b1 : (e != 0) = true := by simp [he]
    rw [if_neg he]
    clear he
    go_enter Try.func29, Try.ntmps29
    go_wp2
    go_ret
    exact ⟨_, rfl, own_nil _ _ _ _, U0.out⟩
set_option maxHeartbeats 1000000 in
theorem rtext_calls (g : Nat) (most : Int) (l : List Int) (e : Int) (w : World) (S : Nat → Prop) (hA : (rdA g l e).holds w S) (hS : ∀ k, S k → k < w.heap.size) (hl : l.length ≤ 140737488351232) (hby : ∀ x ∈ l, 0 ≤ x ∧ x < 256) :
    Calls Try.prog 14 #[.pointer (some ⟨g, 0, none⟩), .int .i64 most] w (TextPost g S w (rText most l e)) := by
  have hmf : ∀ (fn : Fn) (first cap : Array Value) (w : World), (Instr.makeFunc fn first cap).run Try.prog w = .ok (.func fn first cap) w := fun _ _ _ _ => rfl
  have hb : Below w.heap.size w (w.alloc (.cells #[.int .i64 most] 3)) := below_alloc (Below.refl _ _) _
  have HA := Aside0.mk (step_text g w.heap.size most l e (w.alloc (.cells #[.int .i64 most] 3)) S ((rdA g l e).keep (fun k hk => hb.block k (hS k hk)) hA) (fun k hk => Nat.lt_of_lt_of_le (hS k hk) hb.size) hl hby (cellOf (heap_alloc_new w _) 0 rfl))
  have HB := Aside0.mk hb
  clear hb hA hS hby
  go_enter Try.func14, Try.ntmps14
  go_wp2_with fail
  refine HA.out.mono ?_
  rintro r w1 ⟨v, rfl, ho, hs⟩
  have HO := Aside0.mk ho
  have HSM := Aside0.mk (same_after HB.out hs)
  clear ho hs
  go_wp2_with fail
  go_ret
  exact ⟨v, rfl, own_weaken HO.out HB.out.size, HSM.out⟩
set_option maxHeartbeats 1000000 in
theorem rend_calls (g : Nat) (l : List Int) (e : Int) (w : World) (S : Nat → Prop) (hA : (rdA g l e).holds w S) :
    Calls Try.prog 18 #[.pointer (some ⟨g, 0, none⟩)] w fun r w' => r = .returned (.int .i64 (rEnd l e)) ∧ w = w' := by
  have hu56 := Try.underlying56
  have hu22 := Try.underlying22
  obtain ⟨A, c, h1, h2, h3, h4⟩ := hA
  have hmax := h3.now.2.1
  have hc0 : w.cell? ⟨g, 0, none⟩ = some (.slice A l.length c) := by simp [World.cell?, h1]
  have hc1 : w.cell? ⟨g, 1, none⟩ = some (.int .i64 e) := by simp [World.cell?, h1]
  clear h1 h3 h4
  by_cases he : e = 0
  · have b0 : (e == 0) = true := by simp [he]
    by_cases hl : 0 < l.length
    · have hr : rEnd l e = 12 := if_pos ⟨he, fun h => by rw [h] at hl; simp at hl⟩
      rw [hr]
      clear he hr
      go_enter Try.func18, Try.ntmps18
      go_wp2
      go_ret
      exact ⟨rfl, rfl⟩
    · have hr : rEnd l e = e := if_neg (fun h => hl (List.length_pos_iff.2 h.2))
      rw [hr]
      clear he hr
      go_enter Try.func18, Try.ntmps18
      go_wp2
      go_ret
      exact ⟨rfl, rfl⟩
  · have b0 : (e == 0) = false := by simp [he]
    have hr : rEnd l e = e := if_neg (fun h => he h.1)
    rw [hr]
    clear he hr
    go_enter Try.func18, Try.ntmps18
    go_wp2
    go_ret
    exact ⟨rfl, rfl⟩
end Go.Proofs.Ytpbkibafhabahaa.Wire
