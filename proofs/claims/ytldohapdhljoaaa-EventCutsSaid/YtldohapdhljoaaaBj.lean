/- Several texts of this claim, one behind the other. -/
import Derived.Test.YtldohapdhljoaaaBh
import Derived.Deep.Slices
import Derived.ChangeArms
import Derived.ChangeReads
import Derived.Test.YtldohapdhljoaaaBb
namespace Go.Proofs.Ytldohapdhljoaaa.Wire
open Go.RowKit Go.Proofs.YtldohapdhljoaaaW.PrintWords Go.Proofs.Ytldohapdhljoaaa.Obj Go.Proofs.Ytldohapdhljoaaa.Print
set_option linter.unusedVariables false
set_option linter.unusedSimpArgs false
set_option maxRecDepth 100000
def Byt (l : List Int) : Prop := ∀ x ∈ l, 0 ≤ x ∧ x < 256
def CutP (L l : List Int) (e : Int) : Prop := e = 13 ∨ (e = 0 ∧ ∃ m, m < L.length ∧ l = L.take m)
abbrev Pr (α : Type) := List Int → Int → α × List Int × Int
structure StepP {α : Type} (p : Pr α) (bs : α → List Int) (ok : α → Prop) : Prop where
  fwd : ∀ a L, ok a → p (bs a ++ L) 0 = (a, L, 0)
  cut : ∀ a L l e, ok a → CutP (bs a ++ L) l e → CutP L (p l e).2.1 (p l e).2.2
  conv : ∀ l e, Byt l → (p l e).2.2 = 0 → e = 0 ∧ l = bs (p l e).1 ++ (p l e).2.1 ∧ ok (p l e).1
  byt : ∀ l e, Byt l → Byt (p l e).2.1
  err : ∀ l e, (p l e).2.2 = 0 ∨ (p l e).2.2 = 12 ∨ (p l e).2.2 = 13 ∨ (p l e).2.2 = e
theorem take_app {α : Type} (a b : List α) (m : Nat) (h : a.length ≤ m) : (a ++ b).take m = a ++ b.take (m - a.length) := by
  rw [List.take_append, List.take_of_length_le h]
theorem num_fwd {x : Int} {l : List Int} (h : I64 x) : rNum (vb (zig x) ++ l) 0 = (x, l, 0) := by
  simp [rNum, rStep, dec_vb _ l (zig_nonneg x) (zig_lt x h.1 h.2), unzig_zig]
theorem num_13 (l : List Int) : rNum l 13 = (0, l, 13) := by simp [rNum]
theorem num_cut {x : Int} {L l : List Int} {e : Int} (h : I64 x) (hc : CutP (vb (zig x) ++ L) l e) : CutP L (rNum l e).2.1 (rNum l e).2.2 ∧ ((rNum l e).2.2 = 0 → (rNum l e).1 = x) := by
  rcases hc with rfl | ⟨rfl, m, hm, rfl⟩
  · rw [num_13]; exact ⟨.inl rfl, fun h => by cases h⟩
  · rcases Nat.lt_or_ge m (vb (zig x)).length with hlt | hge
    · have e1 : (vb (zig x) ++ L).take m = (vb (zig x)).take m := List.take_append_of_le_length (by omega)
      have hd := dec_cut _ m (zig_nonneg x) (zig_lt x h.1 h.2) hlt
      rw [e1]
      have e2 : rNum ((vb (zig x)).take m) 0 = (0, (vb (zig x)).take m, 13) := by simp [rNum, rStep, hd]
      rw [e2]
      exact ⟨.inl rfl, fun h => by cases h⟩
    · rw [take_app _ _ _ hge, num_fwd h]
      rw [List.length_append] at hm
      exact ⟨.inr ⟨rfl, m - (vb (zig x)).length, by omega, rfl⟩, fun _ => rfl⟩
theorem num_conv {l : List Int} {e : Int} (hb : Byt l) (h : (rNum l e).2.2 = 0) : e = 0 ∧ l = vb (zig (rNum l e).1) ++ (rNum l e).2.1 ∧ I64 (rNum l e).1 := by
  by_cases he : e = 0
  · subst he
    refine ⟨rfl, ?_⟩
    have hn : rNum l 0 = rStep (dec l) l := by simp [rNum]
    rw [hn] at h ⊢
    by_cases hd : (dec l).2.2 = 0
    · have e1 : rStep (dec l) l = ((dec l).1, l.drop (dec l).2.1.toNat, 0) := by unfold rStep; rw [if_pos hd]
      rw [e1]
      obtain ⟨q1, q2, q3, q4, q5⟩ := dec_form l (dec l).1 (dec l).2.1 hb (by rw [← hd])
      refine ⟨?_, q4, q5⟩
      (try dsimp only)
      rw [q1, Int.toNat_natCast]
      conv => lhs; rw [← List.take_append_drop (vb (zig (dec l).1)).length l]
      rw [q3]
    · have e1 : rStep (dec l) l = (0, l, (dec l).2.2) := by unfold rStep; rw [if_neg hd]
      rw [e1] at h
      exact absurd h hd
  · have e1 : rNum l e = (0, l, e) := by unfold rNum; rw [if_neg he]
    rw [e1] at h
    exact absurd h he
theorem num_err (l : List Int) (e : Int) : (rNum l e).2.2 = 0 ∨ (rNum l e).2.2 = 12 ∨ (rNum l e).2.2 = 13 ∨ (rNum l e).2.2 = e := by
  unfold rNum rStep
  split
  · split
    · exact .inl rfl
    · rename_i h2
      rcases dec_cases l with ⟨x, n, h, _⟩ | h | h
      · rw [h] at h2; exact absurd rfl h2
      · rw [h]; exact .inr (.inl rfl)
      · rw [h]; exact .inr (.inr (.inl rfl))
  · exact .inr (.inr (.inr rfl))
theorem stepNum : StepP rNum (fun x => vb (zig x)) I64 := ⟨fun a L h => num_fwd h, fun a L l e h hc => (num_cut h hc).1, fun l e hb h => num_conv hb h, fun l e hb => rNum_bytes hb, num_err⟩
theorem int_fwd {x m : Int} {l : List Int} (h : 0 ≤ x ∧ x ≤ m) (hm : m ≤ 100000) : rInt 0 m (vb (zig x) ++ l) 0 = (x, l, 0) := by
  have hi : I64 x := ⟨by omega, by omega⟩
  rw [rInt_num, num_fwd hi]
  simp only [if_true]
  rw [if_neg (by omega)]
theorem int_13 (m : Int) (l : List Int) : rInt 0 m l 13 = (0, l, 13) := by rw [rInt_num, num_13]; rfl
theorem int_cut {x m : Int} {L l : List Int} {e : Int} (h : 0 ≤ x ∧ x ≤ m) (hm : m ≤ 100000) (hc : CutP (vb (zig x) ++ L) l e) : CutP L (rInt 0 m l e).2.1 (rInt 0 m l e).2.2 ∧ ((rInt 0 m l e).2.2 = 0 → (rInt 0 m l e).1 = x) ∧ ((rInt 0 m l e).2.2 ≠ 0 → (rInt 0 m l e).2.2 = 13 ∧ (rInt 0 m l e).1 = 0) := by
  have hi : I64 x := ⟨by omega, by omega⟩
  obtain ⟨h1, h2⟩ := num_cut hi hc
  rw [rInt_num]
  by_cases h0 : (rNum l e).2.2 = 0
  · rw [if_pos h0, if_neg (by rw [h2 h0]; omega)]
    exact ⟨h1, h2, fun h => absurd h0 h⟩
  · rw [if_neg h0]
    refine ⟨h1, fun h => absurd h h0, fun _ => ⟨?_, rfl⟩⟩
    rcases h1 with h | ⟨h, _⟩
    · exact h
    · exact absurd h h0
theorem int_conv {m : Int} {l : List Int} {e : Int} (hb : Byt l) (h : (rInt 0 m l e).2.2 = 0) : e = 0 ∧ l = vb (zig (rInt 0 m l e).1) ++ (rInt 0 m l e).2.1 ∧ 0 ≤ (rInt 0 m l e).1 ∧ (rInt 0 m l e).1 ≤ m := by
  rw [rInt_num] at h ⊢
  by_cases h0 : (rNum l e).2.2 = 0
  · rw [if_pos h0] at h ⊢
    by_cases h1 : (rNum l e).1 < 0 ∨ m < (rNum l e).1
    · rw [if_pos h1] at h; cases h
    · rw [if_neg h1] at h ⊢
      obtain ⟨a, b, c⟩ := num_conv hb h0
      exact ⟨a, b, by omega, by omega⟩
  · rw [if_neg h0] at h
    exact absurd h h0
theorem int_err (m : Int) (l : List Int) (e : Int) : (rInt 0 m l e).2.2 = 0 ∨ (rInt 0 m l e).2.2 = 12 ∨ (rInt 0 m l e).2.2 = 13 ∨ (rInt 0 m l e).2.2 = e := by
  rw [rInt_num]
  split
  · split
    · exact .inr (.inl rfl)
    · exact num_err l e
  · exact num_err l e
def okPair (p : Int × Int) : Prop := I64 p.1 ∧ I64 p.2
theorem encL_app (a b : List (Int × Int)) : encL (a ++ b) = encL a ++ encL b := by unfold encL; rw [List.flatMap_append]
theorem encL_one (p : Int × Int) : encL [p] = vb (zig p.1) ++ vb (zig p.2) := by simp [encL]
theorem pairs_fwd : ∀ (k : Nat) (ps : List (Int × Int)) (L : List Int), ps.length = k → (∀ p ∈ ps, okPair p) → rPairs k (encL ps ++ L) 0 = (ps, L, 0)
  | 0, ps, L, h, _ => by
    obtain rfl := List.length_eq_zero_iff.1 h
    rfl
  | k + 1, ps, L, h, hk => by
    obtain ⟨qs, q, rfl⟩ : ∃ qs q, ps = qs ++ [q] := ⟨ps.dropLast, ps.getLast (by intro h0; rw [h0] at h; cases h), (List.dropLast_concat_getLast _).symm⟩
    rw [List.length_append] at h
    have hq := hk q (by simp)
    unfold rPairs
    (try dsimp only)
    rw [encL_app, encL_one, List.append_assoc, pairs_fwd k qs _ (by simpa using h) (fun p hp => hk p (by simp [hp]))]
    (try dsimp only)
    rw [List.append_assoc, num_fwd hq.1]
    (try dsimp only)
    rw [num_fwd hq.2]
theorem pairs_cut : ∀ (k : Nat) (ps : List (Int × Int)) (L l : List Int) (e : Int), ps.length = k → (∀ p ∈ ps, okPair p) → CutP (encL ps ++ L) l e → CutP L (rPairs k l e).2.1 (rPairs k l e).2.2
  | 0, ps, L, l, e, h, _, hc => by
    obtain rfl := List.length_eq_zero_iff.1 h
    exact hc
  | k + 1, ps, L, l, e, h, hk, hc => by
    obtain ⟨qs, q, rfl⟩ : ∃ qs q, ps = qs ++ [q] := ⟨ps.dropLast, ps.getLast (by intro h0; rw [h0] at h; cases h), (List.dropLast_concat_getLast _).symm⟩
    rw [List.length_append] at h
    have hq := hk q (by simp)
    rw [encL_app, encL_one, List.append_assoc] at hc
    have h1 := pairs_cut k qs _ l e (by simpa using h) (fun p hp => hk p (by simp [hp])) hc
    rw [List.append_assoc] at h1
    unfold rPairs
    (try dsimp only)
    exact (num_cut hq.2 (num_cut hq.1 h1).1).1
theorem pairs_conv {l : List Int} {e : Int} (hb : Byt l) : ∀ k, (rPairs k l e).2.2 = 0 → e = 0 ∧ l = encL (rPairs k l e).1 ++ (rPairs k l e).2.1
  | 0, h => ⟨h, rfl⟩
  | k + 1, h => by
    unfold rPairs at h ⊢
    (try dsimp only at h ⊢)
    have b1 : Byt (rPairs k l e).2.1 := rPairs_bytes hb k
    obtain ⟨h1, h2, _⟩ := num_conv (rNum_bytes b1) h
    obtain ⟨h3, h4, _⟩ := num_conv b1 h1
    obtain ⟨h5, h6⟩ := pairs_conv hb k h3
    refine ⟨h5, ?_⟩
    rw [encL_app, encL_one]
    (try dsimp only)
    rw [List.append_assoc, List.append_assoc, ← h2, ← h4]
    exact h6
theorem pairs_err (l : List Int) (e : Int) : ∀ k, (rPairs k l e).2.2 = 0 ∨ (rPairs k l e).2.2 = 12 ∨ (rPairs k l e).2.2 = 13 ∨ (rPairs k l e).2.2 = e
  | 0 => .inr (.inr (.inr rfl))
  | k + 1 => by
    unfold rPairs
    (try dsimp only)
    have h1 := pairs_err l e k
    have h2 := num_err (rPairs k l e).2.1 (rPairs k l e).2.2
    have h3 := num_err (rNum (rPairs k l e).2.1 (rPairs k l e).2.2).2.1 (rNum (rPairs k l e).2.1 (rPairs k l e).2.2).2.2
    omega
def okList (ps : List (Int × Int)) : Prop := ps.length ≤ 8 ∧ ∀ p ∈ ps, okPair p
theorem stepList : StepP (rList 8) (fun ps => vb (zig ps.length) ++ encL ps) okList := by
  refine ⟨fun ps L h => ?_, fun ps L l e h hc => ?_, fun l e hb h => ?_, fun l e hb => rList_bytes hb, fun l e => ?_⟩
  · unfold rList
    rw [List.append_assoc, int_fwd ⟨by omega, by have := h.1; omega⟩ (by omega)]
    (try dsimp only)
    rw [Int.toNat_natCast]
    exact pairs_fwd _ ps L rfl h.2
  · (try dsimp only at hc)
    rw [List.append_assoc] at hc
    obtain ⟨h1, h2, h3⟩ := int_cut (m := 8) ⟨by omega, by have := h.1; omega⟩ (by omega) hc
    unfold rList
    by_cases h0 : (rInt 0 8 l e).2.2 = 0
    · rw [h2 h0, Int.toNat_natCast]
      exact pairs_cut _ ps L _ _ rfl h.2 h1
    · obtain ⟨h4, h5⟩ := h3 h0
      rw [h5]
      exact .inl h4
  · unfold rList at h ⊢
    obtain ⟨h1, h2⟩ := pairs_conv (rInt_bytes 0 8 hb) _ h
    obtain ⟨h3, h4, h5, h6⟩ := int_conv hb h1
    refine ⟨h3, ?_, ?_, fun p hp => rPairs_range (rInt_bytes 0 8 hb) _ p hp⟩
    · rw [rPairs_len, Int.toNat_of_nonneg h5, List.append_assoc, ← h2]
      exact h4
    · rw [rPairs_len]; omega
  · unfold rList
    have h1 := int_err 8 l e
    have h2 := pairs_err (rInt 0 8 l e).2.1 (rInt 0 8 l e).2.2 (rInt 0 8 l e).1.toNat
    omega
def okText (t : List Int) : Prop := t.length ≤ 1700
theorem text_13 (l : List Int) : rText 1700 l 13 = ([], l, 13) := by simp [rText]
theorem stepText : StepP (rText 1700) (fun t => vb (zig t.length) ++ t) okText := by
  refine ⟨fun t L h => ?_, fun t L l e h hc => ?_, fun l e hb h => ?_, fun l e hb => ?_, fun l e => ?_⟩
  · have h' : t.length ≤ 1700 := h
    (try dsimp only)
    rw [rText_int, List.append_assoc, int_fwd ⟨by omega, by omega⟩ (by omega)]
    simp only [if_true]
    rw [if_pos (by rw [List.length_append]; omega), Int.toNat_natCast, List.take_left, List.drop_left]
  · have h' : t.length ≤ 1700 := h
    (try dsimp only at hc)
    rw [List.append_assoc] at hc
    obtain ⟨h1, h2, h3⟩ := int_cut (m := 1700) ⟨by omega, by omega⟩ (by omega) hc
    rw [rText_int]
    by_cases h0 : (rInt 0 1700 l e).2.2 = 0
    · rw [if_pos h0, h2 h0]
      rcases h1 with h1 | ⟨_, m, hm, h1⟩
      · rw [h0] at h1; cases h1
      · rw [h1]
        rw [List.length_append] at hm
        by_cases hmt : t.length ≤ m
        · rw [if_pos (by rw [List.length_take, List.length_append]; omega), take_app _ _ _ hmt, Int.toNat_natCast, List.drop_left]
          exact .inr ⟨rfl, m - t.length, by omega, rfl⟩
        · rw [if_neg (by rw [List.length_take, List.length_append]; omega)]
          exact .inl rfl
    · rw [if_neg h0]
      exact .inl (h3 h0).1
  · rw [rText_int] at h ⊢
    by_cases h0 : (rInt 0 1700 l e).2.2 = 0
    · rw [if_pos h0] at h ⊢
      obtain ⟨a, b, c, d⟩ := int_conv hb h0
      by_cases h1 : (rInt 0 1700 l e).1 ≤ (rInt 0 1700 l e).2.1.length
      · rw [if_pos h1] at h ⊢
        have hlen : ((rInt 0 1700 l e).2.1.take (rInt 0 1700 l e).1.toNat).length = (rInt 0 1700 l e).1.toNat := by rw [List.length_take]; omega
        refine ⟨a, ?_, ?_⟩
        · (try dsimp only)
          rw [hlen, Int.toNat_of_nonneg c, List.append_assoc, List.take_append_drop]
          exact b
        · show ((rInt 0 1700 l e).2.1.take (rInt 0 1700 l e).1.toNat).length ≤ 1700
          rw [hlen]; omega
      · rw [if_neg h1] at h; cases h
    · rw [if_neg h0] at h
      exact absurd h h0
  · rw [rText_int]
    have hb1 : Byt (rInt 0 1700 l e).2.1 := rInt_bytes 0 1700 hb
    split
    · split
      · exact fun x hx => hb1 x (List.mem_of_mem_drop hx)
      · exact hb
    · exact hb1
  · rw [rText_int]
    have h1 := int_err 1700 l e
    split
    · split
      · exact .inl rfl
      · exact .inr (.inr (.inl rfl))
    · exact h1
def seqR {α β : Type} (p : Pr α) (q : Pr β) : Pr (α × β) := fun l e => (((p l e).1, (q (p l e).2.1 (p l e).2.2).1), (q (p l e).2.1 (p l e).2.2).2)
theorem StepP.seq {α β : Type} {p : Pr α} {q : Pr β} {b1 : α → List Int} {b2 : β → List Int} {k1 : α → Prop} {k2 : β → Prop} (hp : StepP p b1 k1) (hq : StepP q b2 k2) : StepP (seqR p q) (fun x => b1 x.1 ++ b2 x.2) (fun x => k1 x.1 ∧ k2 x.2) := by
  refine ⟨fun x L h => ?_, fun x L l e h hc => ?_, fun l e hb h => ?_, fun l e hb => ?_, fun l e => ?_⟩
  · unfold seqR
    (try dsimp only)
    rw [List.append_assoc, hp.fwd _ _ h.1]
    (try dsimp only)
    rw [hq.fwd _ _ h.2]
  · (try dsimp only at hc)
    rw [List.append_assoc] at hc
    exact hq.cut _ _ _ _ h.2 (hp.cut _ _ _ _ h.1 hc)
  · unfold seqR at h ⊢
    (try dsimp only at h ⊢)
    obtain ⟨h1, h2, h3⟩ := hq.conv _ _ (hp.byt _ _ hb) h
    obtain ⟨h4, h5, h6⟩ := hp.conv _ _ hb h1
    exact ⟨h4, by rw [List.append_assoc, ← h2]; exact h5, h6, h3⟩
  · exact hq.byt _ _ (hp.byt _ _ hb)
  · have h1 := hp.err l e
    have h2 := hq.err (p l e).2.1 (p l e).2.2
    unfold seqR
    (try dsimp only)
    omega
theorem StepP.map {α β : Type} {p : Pr α} {bs : α → List Int} {ok : α → Prop} (h : StepP p bs ok) (f : α → β) (g : β → α) (q : Pr β) (b2 : β → List Int) (k2 : β → Prop) (hq : ∀ l e, q l e = (f (p l e).1, (p l e).2)) (hfg : ∀ b, k2 b → f (g b) = b) (hgf : ∀ a, ok a → g (f a) = a) (hb : ∀ b, k2 b → b2 b = bs (g b)) (hk : ∀ b, k2 b → ok (g b)) (hk' : ∀ a, ok a → k2 (f a)) : StepP q b2 k2 := by
  refine ⟨fun x L hx => ?_, fun x L l e hx hc => ?_, fun l e hbt h0 => ?_, fun l e hbt => ?_, fun l e => ?_⟩
  · rw [hq, hb x hx, h.fwd _ _ (hk x hx)]
    (try dsimp only)
    rw [hfg x hx]
  · rw [hq]
    rw [hb x hx] at hc
    exact h.cut _ _ _ _ (hk x hx) hc
  · rw [hq] at h0 ⊢
    obtain ⟨a, b, c⟩ := h.conv l e hbt h0
    (try dsimp only)
    refine ⟨a, ?_, hk' _ c⟩
    rw [hb _ (hk' _ c), hgf _ c]
    exact b
  · rw [hq]; exact h.byt l e hbt
  · rw [hq]; exact h.err l e
end Go.Proofs.Ytldohapdhljoaaa.Wire
namespace Go.Proofs.Ytldohapdhljoaaa.Wire
open Go.RowKit Go.Proofs.YtldohapdhljoaaaW.PrintWords Go.Proofs.Ytldohapdhljoaaa.Obj Go.Proofs.Ytldohapdhljoaaa.Print
set_option linter.unusedVariables false
set_option linter.unusedSimpArgs false
set_option maxRecDepth 100000
theorem prB_toB (l : List S46) : (l.map prB).map toB = l := by rw [List.map_map]; exact List.map_id'' (fun _ => rfl) l
theorem prS_toS (l : List S48) : (l.map prS).map toS = l := by rw [List.map_map]; exact List.map_id'' (fun _ => rfl) l
def bP (x : Pol) : List Int := vb (zig x.k) ++ (vb (zig x.t) ++ ((vb (zig (x.bs.map prB).length) ++ encL (x.bs.map prB)) ++ (vb (zig x.p) ++ (vb (zig x.i) ++ (vb (zig x.d) ++ (vb (zig x.per) ++ (vb (zig (x.ss.map prS).length) ++ encL (x.ss.map prS))))))))
def okP (x : Pol) : Prop := I64 x.k ∧ I64 x.t ∧ okList (x.bs.map prB) ∧ I64 x.p ∧ I64 x.i ∧ I64 x.d ∧ I64 x.per ∧ okList (x.ss.map prS)
theorem stepP : StepP getP bP okP := by
  have h := stepNum.seq (stepNum.seq (stepList.seq (stepNum.seq (stepNum.seq (stepNum.seq (stepNum.seq stepList))))))
  refine h.map (fun x => (⟨x.1, x.2.1, x.2.2.1.map toB, x.2.2.2.1, x.2.2.2.2.1, x.2.2.2.2.2.1, x.2.2.2.2.2.2.1, x.2.2.2.2.2.2.2.map toS⟩ : Pol)) (fun x => (x.k, x.t, x.bs.map prB, x.p, x.i, x.d, x.per, x.ss.map prS)) getP bP okP (fun l e => rfl) (fun b _ => ?_) (fun a _ => ?_) (fun b _ => rfl) (fun b hb => hb) (fun a ha => ?_)
  · show (⟨b.k, b.t, (b.bs.map prB).map toB, b.p, b.i, b.d, b.per, (b.ss.map prS).map toS⟩ : Pol) = b
    rw [prB_toB, prS_toS]
  · show (a.1, a.2.1, (a.2.2.1.map toB).map prB, a.2.2.2.1, a.2.2.2.2.1, a.2.2.2.2.2.1, a.2.2.2.2.2.2.1, (a.2.2.2.2.2.2.2.map toS).map prS) = a
    rw [pr_toB, pr_toS]
  · show I64 a.1 ∧ I64 a.2.1 ∧ okList ((a.2.2.1.map toB).map prB) ∧ I64 a.2.2.2.1 ∧ I64 a.2.2.2.2.1 ∧ I64 a.2.2.2.2.2.1 ∧ I64 a.2.2.2.2.2.2.1 ∧ okList ((a.2.2.2.2.2.2.2.map toS).map prS)
    rw [pr_toB, pr_toS]
    exact ha
theorem encP_eq (xs : List Int) (x : Pol) : encP xs x = xs ++ bP x := by
  unfold encP bP
  simp only [List.append_assoc]
def bC (c : Cnf) : List Int := (vb (zig c.mi) ++ (vb (zig c.ma) ++ (vb (zig c.ra) ++ (vb (zig c.st) ++ (vb (zig c.ca) ++ (vb (zig c.de) ++ (vb (zig c.sl) ++ (vb (zig c.wi) ++ (vb (zig c.mg) ++ (vb (zig c.ce) ++ (vb (zig c.pr) ++ vb (zig c.br))))))))))))
def okC (c : Cnf) : Prop := I64 c.mi ∧ I64 c.ma ∧ I64 c.ra ∧ I64 c.st ∧ I64 c.ca ∧ I64 c.de ∧ I64 c.sl ∧ I64 c.wi ∧ I64 c.mg ∧ I64 c.ce ∧ I64 c.pr ∧ I64 c.br
theorem stepC : StepP getC bC okC := by
  have h := stepNum.seq (stepNum.seq (stepNum.seq (stepNum.seq (stepNum.seq (stepNum.seq (stepNum.seq (stepNum.seq (stepNum.seq (stepNum.seq (stepNum.seq (stepNum)))))))))))
  exact h.map (fun x => (⟨x.1, x.2.1, x.2.2.1, x.2.2.2.1, x.2.2.2.2.1, x.2.2.2.2.2.1, x.2.2.2.2.2.2.1, x.2.2.2.2.2.2.2.1, x.2.2.2.2.2.2.2.2.1, x.2.2.2.2.2.2.2.2.2.1, x.2.2.2.2.2.2.2.2.2.2.1, x.2.2.2.2.2.2.2.2.2.2.2⟩ : Cnf)) (fun c => (c.mi, c.ma, c.ra, c.st, c.ca, c.de, c.sl, c.wi, c.mg, c.ce, c.pr, c.br)) getC bC okC (fun l e => rfl) (fun b _ => rfl) (fun a _ => rfl) (fun b _ => rfl) (fun b hb => hb) (fun a ha => ha)
theorem encC_eq (xs : List Int) (c : Cnf) : encC xs c = xs ++ bC c := by
  unfold encC bC
  simp only [List.append_assoc]
def okE (k : Int) (e : Ev) : Prop :=
  if k = 1 then e = { ev0 k with u := e.u, dm := e.dm } ∧ I64 e.u ∧ I64 e.dm
  else if k = 2 then e = { ev0 k with T := e.T } ∧ I64 e.T
  else if k = 3 then e = { ev0 k with id := e.id, pol := e.pol } ∧ I64 e.id ∧ okP e.pol
  else if k = 4 then e = { ev0 k with c := e.c } ∧ okC e.c
  else if k = 5 then e = { ev0 k with T := e.T, n := e.n } ∧ I64 e.T ∧ I64 e.n
  else if k = 6 ∨ k = 7 then e = { ev0 k with id := e.id } ∧ I64 e.id
  else if k = 8 then e = { ev0 k with body := e.body } ∧ okText e.body
  else False
theorem stepE1 : StepP (getE 1) (encE []) (okE 1) := by
  have h := stepNum.seq stepNum
  have ek : ∀ e, okE 1 e ↔ e = { ev0 1 with u := e.u, dm := e.dm } ∧ I64 e.u ∧ I64 e.dm := fun e => by unfold okE; rw [if_pos rfl]
  refine h.map (fun x => ({ ev0 1 with u := x.1, dm := x.2 } : Ev)) (fun e => (e.u, e.dm)) _ _ _ (fun l e => ?_) (fun b hb => ((ek b).1 hb).1.symm) (fun a _ => rfl) (fun b hb => ?_) (fun b hb => ((ek b).1 hb).2) (fun a ha => (ek _).2 ⟨rfl, ha⟩)
  · unfold getE
    rw [if_pos rfl]
    try rfl
  · have hk : b.k = 1 := by rw [((ek b).1 hb).1]; rfl
    unfold encE
    rw [if_pos hk]
    try (rfl)
theorem stepE2 : StepP (getE 2) (encE []) (okE 2) := by
  have h := stepNum
  have ek : ∀ e, okE 2 e ↔ e = { ev0 2 with T := e.T } ∧ I64 e.T := fun e => by unfold okE; rw [if_neg (by decide), if_pos rfl]
  refine h.map (fun x => ({ ev0 2 with T := x } : Ev)) (fun e => e.T) _ _ _ (fun l e => ?_) (fun b hb => ((ek b).1 hb).1.symm) (fun a _ => rfl) (fun b hb => ?_) (fun b hb => ((ek b).1 hb).2) (fun a ha => (ek _).2 ⟨rfl, ha⟩)
  · unfold getE
    rw [if_neg (by decide), if_pos rfl]
    try rfl
  · have hk : b.k = 2 := by rw [((ek b).1 hb).1]; rfl
    unfold encE
    rw [if_neg (by omega), if_pos hk]
    try (rfl)
theorem stepE3 : StepP (getE 3) (encE []) (okE 3) := by
  have h := stepNum.seq stepP
  have ek : ∀ e, okE 3 e ↔ e = { ev0 3 with id := e.id, pol := e.pol } ∧ I64 e.id ∧ okP e.pol := fun e => by unfold okE; rw [if_neg (by decide), if_neg (by decide), if_pos rfl]
  refine h.map (fun x => ({ ev0 3 with id := x.1, pol := x.2 } : Ev)) (fun e => (e.id, e.pol)) _ _ _ (fun l e => ?_) (fun b hb => ((ek b).1 hb).1.symm) (fun a _ => rfl) (fun b hb => ?_) (fun b hb => ((ek b).1 hb).2) (fun a ha => (ek _).2 ⟨rfl, ha⟩)
  · unfold getE
    rw [if_neg (by decide), if_neg (by decide), if_pos rfl]
    try rfl
  · have hk : b.k = 3 := by rw [((ek b).1 hb).1]; rfl
    unfold encE
    rw [if_neg (by omega), if_neg (by omega), if_pos hk]
    try (rw [encP_eq]; rfl)
theorem stepE4 : StepP (getE 4) (encE []) (okE 4) := by
  have h := stepC
  have ek : ∀ e, okE 4 e ↔ e = { ev0 4 with c := e.c } ∧ okC e.c := fun e => by unfold okE; rw [if_neg (by decide), if_neg (by decide), if_neg (by decide), if_pos rfl]
  refine h.map (fun x => ({ ev0 4 with c := x } : Ev)) (fun e => e.c) _ _ _ (fun l e => ?_) (fun b hb => ((ek b).1 hb).1.symm) (fun a _ => rfl) (fun b hb => ?_) (fun b hb => ((ek b).1 hb).2) (fun a ha => (ek _).2 ⟨rfl, ha⟩)
  · unfold getE
    rw [if_neg (by decide), if_neg (by decide), if_neg (by decide), if_pos rfl]
    try rfl
  · have hk : b.k = 4 := by rw [((ek b).1 hb).1]; rfl
    unfold encE
    rw [if_neg (by omega), if_neg (by omega), if_neg (by omega), if_pos hk]
    try (rw [encC_eq]; rfl)
theorem stepE5 : StepP (getE 5) (encE []) (okE 5) := by
  have h := stepNum.seq stepNum
  have ek : ∀ e, okE 5 e ↔ e = { ev0 5 with T := e.T, n := e.n } ∧ I64 e.T ∧ I64 e.n := fun e => by unfold okE; rw [if_neg (by decide), if_neg (by decide), if_neg (by decide), if_neg (by decide), if_pos rfl]
  refine h.map (fun x => ({ ev0 5 with T := x.1, n := x.2 } : Ev)) (fun e => (e.T, e.n)) _ _ _ (fun l e => ?_) (fun b hb => ((ek b).1 hb).1.symm) (fun a _ => rfl) (fun b hb => ?_) (fun b hb => ((ek b).1 hb).2) (fun a ha => (ek _).2 ⟨rfl, ha⟩)
  · unfold getE
    rw [if_neg (by decide), if_neg (by decide), if_neg (by decide), if_neg (by decide), if_pos rfl]
    try rfl
  · have hk : b.k = 5 := by rw [((ek b).1 hb).1]; rfl
    unfold encE
    rw [if_neg (by omega), if_neg (by omega), if_neg (by omega), if_neg (by omega), if_pos hk]
    try (rfl)
theorem stepE6 : StepP (getE 6) (encE []) (okE 6) := by
  have h := stepNum
  have ek : ∀ e, okE 6 e ↔ e = { ev0 6 with id := e.id } ∧ I64 e.id := fun e => by unfold okE; rw [if_neg (by decide), if_neg (by decide), if_neg (by decide), if_neg (by decide), if_neg (by decide), if_pos (.inl rfl)]
  refine h.map (fun x => ({ ev0 6 with id := x } : Ev)) (fun e => e.id) _ _ _ (fun l e => ?_) (fun b hb => ((ek b).1 hb).1.symm) (fun a _ => rfl) (fun b hb => ?_) (fun b hb => ((ek b).1 hb).2) (fun a ha => (ek _).2 ⟨rfl, ha⟩)
  · unfold getE
    rw [if_neg (by decide), if_neg (by decide), if_neg (by decide), if_neg (by decide), if_neg (by decide), if_pos (.inl rfl)]
    try rfl
  · have hk : b.k = 6 := by rw [((ek b).1 hb).1]; rfl
    unfold encE
    rw [if_neg (by omega), if_neg (by omega), if_neg (by omega), if_neg (by omega), if_neg (by omega), if_pos hk]
    try (rfl)
theorem stepE7 : StepP (getE 7) (encE []) (okE 7) := by
  have h := stepNum
  have ek : ∀ e, okE 7 e ↔ e = { ev0 7 with id := e.id } ∧ I64 e.id := fun e => by unfold okE; rw [if_neg (by decide), if_neg (by decide), if_neg (by decide), if_neg (by decide), if_neg (by decide), if_pos (.inr rfl)]
  refine h.map (fun x => ({ ev0 7 with id := x } : Ev)) (fun e => e.id) _ _ _ (fun l e => ?_) (fun b hb => ((ek b).1 hb).1.symm) (fun a _ => rfl) (fun b hb => ?_) (fun b hb => ((ek b).1 hb).2) (fun a ha => (ek _).2 ⟨rfl, ha⟩)
  · unfold getE
    rw [if_neg (by decide), if_neg (by decide), if_neg (by decide), if_neg (by decide), if_neg (by decide), if_pos (.inr rfl)]
    try rfl
  · have hk : b.k = 7 := by rw [((ek b).1 hb).1]; rfl
    unfold encE
    rw [if_neg (by omega), if_neg (by omega), if_neg (by omega), if_neg (by omega), if_neg (by omega), if_neg (by omega), if_pos hk]
    try (rfl)
theorem stepE8 : StepP (getE 8) (encE []) (okE 8) := by
  have h := stepText
  have ek : ∀ e, okE 8 e ↔ e = { ev0 8 with body := e.body } ∧ okText e.body := fun e => by unfold okE; rw [if_neg (by decide), if_neg (by decide), if_neg (by decide), if_neg (by decide), if_neg (by decide), if_neg (by decide), if_pos rfl]
  refine h.map (fun x => ({ ev0 8 with body := x } : Ev)) (fun e => e.body) _ _ _ (fun l e => ?_) (fun b hb => ((ek b).1 hb).1.symm) (fun a _ => rfl) (fun b hb => ?_) (fun b hb => ((ek b).1 hb).2) (fun a ha => (ek _).2 ⟨rfl, ha⟩)
  · unfold getE
    rw [if_neg (by decide), if_neg (by decide), if_neg (by decide), if_neg (by decide), if_neg (by decide), if_neg (by decide), if_pos rfl]
    try rfl
  · have hk : b.k = 8 := by rw [((ek b).1 hb).1]; rfl
    unfold encE
    rw [if_neg (by omega), if_neg (by omega), if_neg (by omega), if_neg (by omega), if_neg (by omega), if_neg (by omega), if_neg (by omega), if_pos hk]
    try (rfl)
theorem stepE (k : Int) (hk : 1 ≤ k ∧ k ≤ 8) : StepP (getE k) (encE []) (okE k) := by
  have : k = 1 ∨ k = 2 ∨ k = 3 ∨ k = 4 ∨ k = 5 ∨ k = 6 ∨ k = 7 ∨ k = 8 := by omega
  rcases this with rfl | rfl | rfl | rfl | rfl | rfl | rfl | rfl
  · exact stepE1
  · exact stepE2
  · exact stepE3
  · exact stepE4
  · exact stepE5
  · exact stepE6
  · exact stepE7
  · exact stepE8
theorem okE_k {k : Int} {e : Ev} (h : okE k e) : e.k = k ∧ 1 ≤ k ∧ k ≤ 8 := by
  unfold okE at h
  repeat' split at h
  all_goals first | (refine ⟨?_, by omega, by omega⟩; rw [h.1]; rfl) | exact h.elim
theorem zeroP_eq {x : Pol} (h : zeroP x = true) (hl : x.bs.length ≤ 1000000) (hl' : x.ss.length ≤ 1000000) : x = zPol := by
  obtain ⟨k, t, bs, p, i, d, per, ss⟩ := x
  unfold zeroP at h
  simp only [Bool.and_eq_true, decide_eq_true_eq, beq_iff_eq] at h hl hl'
  obtain ⟨rfl, rfl, h3, rfl, rfl, rfl, rfl⟩ := h
  have h4 : bs.length = 0 ∧ ss.length = 0 := by unfold wrap64 at h3; omega
  obtain rfl := List.length_eq_zero_iff.1 h4.1
  obtain rfl := List.length_eq_zero_iff.1 h4.2
  rfl
theorem cnfZ_eq {c : Cnf} (h : cnfZ c = true) : c = zCnf := by
  obtain ⟨a0, a1, a2, a3, a4, a5, a6, a7, a8, a9, a10, a11⟩ := c
  unfold cnfZ at h
  simp only [Bool.and_eq_true, beq_iff_eq] at h
  obtain ⟨rfl, rfl, rfl, rfl, rfl, rfl, rfl, rfl, rfl, rfl, rfl, rfl⟩ := h
  rfl
theorem policy_lens {x : Pol} (h : policyF x = true) (hl : x.bs.length ≤ 1000000) (hl' : x.ss.length ≤ 1000000) : x.bs.length ≤ 8 ∧ x.ss.length ≤ 8 := by
  unfold policyF at h
  rw [Bool.and_eq_true] at h
  obtain ⟨h1, h2⟩ := h
  unfold barePol at h1
  unfold polKind at h2
  by_cases k1 : x.k = 1
  · rw [if_pos k1] at h1
    have := zeroP_eq h1 hl hl'
    simp only [zPol, Pol.mk.injEq] at this
    rw [this.2.2.1, this.2.2.2.2.2.2.2]; decide
  rw [if_neg k1] at h1 h2
  by_cases k2 : x.k = 2
  · rw [if_pos k2] at h1 h2
    have := zeroP_eq h1 (Nat.zero_le _) hl'
    simp only [zPol, Pol.mk.injEq] at this
    simp only [Bool.and_eq_true, inR, decide_eq_true_eq] at h2
    rw [this.2.2.2.2.2.2.2]
    exact ⟨by omega, by decide⟩
  rw [if_neg k2] at h1 h2
  by_cases k3 : x.k = 3
  · rw [if_pos k3] at h1
    have := zeroP_eq h1 hl hl'
    simp only [zPol, Pol.mk.injEq] at this
    rw [this.2.2.1, this.2.2.2.2.2.2.2]; decide
  rw [if_neg k3] at h1 h2
  by_cases k4 : x.k = 4
  · rw [if_pos k4] at h1 h2
    have := zeroP_eq h1 hl (Nat.zero_le _)
    simp only [zPol, Pol.mk.injEq] at this
    simp only [Bool.and_eq_true, inR, decide_eq_true_eq] at h2
    rw [this.2.2.1]
    exact ⟨by decide, by omega⟩
  · rw [if_neg k4] at h2
    cases h2
theorem greatE_lens {e : Ev} (h : greatE e = false) : e.pol.bs.length ≤ 60 ∧ e.pol.ss.length ≤ 60 ∧ e.body.length ≤ 3000 := by
  unfold greatE at h
  simp only [Bool.or_eq_false_iff, decide_eq_false_iff_not] at h
  omega
theorem right_ok {e : Ev} (h : rightF e = true) (hx : EvIn e) (hg : greatE e = false) : okE e.k e := by
  obtain ⟨l1, l2, l3⟩ := greatE_lens hg
  have l1' : e.pol.bs.length ≤ 1000000 := by omega
  have l2' : e.pol.ss.length ≤ 1000000 := by omega
  obtain ⟨hu, hdm, hT, hid, hn, hpol, hcnf⟩ := hx
  obtain ⟨k, u, dm, T, id, n, pol, c, body⟩ := e
  dsimp only at hu hdm hT hid hn hpol hcnf l1' l2' l1 l2 l3
  unfold rightF leftEv at h
  unfold okE
  dsimp only at h ⊢
  by_cases k1 : k = 1
  · rw [if_pos k1] at h ⊢
    unfold restF at h
    simp only [Bool.and_eq_true, beq_iff_eq] at h
    obtain ⟨⟨⟨⟨⟨⟨⟨⟨_, _⟩, _⟩, rfl⟩, rfl⟩, rfl⟩, hz⟩, hc⟩, hb⟩ := h
    obtain rfl := zeroP_eq hz l1' l2'
    obtain rfl := cnfZ_eq hc
    obtain rfl : body = [] := List.length_eq_zero_iff.1 (by omega)
    exact ⟨rfl, hu, hdm⟩
  rw [if_neg k1] at h ⊢
  by_cases k2 : k = 2
  · rw [if_pos k2] at h ⊢
    unfold restF at h
    simp only [Bool.and_eq_true, beq_iff_eq] at h
    obtain ⟨⟨⟨⟨⟨⟨⟨⟨_, rfl⟩, rfl⟩, _⟩, rfl⟩, rfl⟩, hz⟩, hc⟩, hb⟩ := h
    obtain rfl := zeroP_eq hz l1' l2'
    obtain rfl := cnfZ_eq hc
    obtain rfl : body = [] := List.length_eq_zero_iff.1 (by omega)
    exact ⟨rfl, hT⟩
  rw [if_neg k2] at h ⊢
  by_cases k3 : k = 3
  · rw [if_pos k3] at h ⊢
    unfold restF at h
    simp only [Bool.and_eq_true, beq_iff_eq, Bool.or_eq_true] at h
    obtain ⟨⟨⟨⟨⟨⟨⟨⟨⟨_, hp⟩, rfl⟩, rfl⟩, rfl⟩, _⟩, rfl⟩, hz⟩, hc⟩, hb⟩ := h
    obtain rfl := cnfZ_eq hc
    obtain rfl : body = [] := List.length_eq_zero_iff.1 (by omega)
    have hlens : pol.bs.length ≤ 8 ∧ pol.ss.length ≤ 8 := by
      rcases hp with hp | hp
      · exact policy_lens hp l1' l2'
      · obtain rfl := zeroP_eq hp.2 l1' l2'; decide
    exact ⟨rfl, hid, hpol.k, hpol.t, ⟨by rw [List.length_map]; exact hlens.1, hpol.bs⟩, hpol.p, hpol.i, hpol.d, hpol.per, ⟨by rw [List.length_map]; exact hlens.2, hpol.ss⟩⟩
  rw [if_neg k3] at h ⊢
  by_cases k4 : k = 4
  · rw [if_pos k4] at h ⊢
    unfold restF at h
    simp only [Bool.and_eq_true, beq_iff_eq] at h
    obtain ⟨⟨⟨⟨⟨⟨⟨⟨_, rfl⟩, rfl⟩, rfl⟩, rfl⟩, rfl⟩, hz⟩, hc⟩, hb⟩ := h
    obtain rfl := zeroP_eq hz l1' l2'
    obtain rfl : body = [] := List.length_eq_zero_iff.1 (by omega)
    exact ⟨rfl, hcnf.mi, hcnf.ma, hcnf.ra, hcnf.st, hcnf.ca, hcnf.de, hcnf.sl, hcnf.wi, hcnf.mg, hcnf.ce, hcnf.pr, hcnf.br⟩
  rw [if_neg k4] at h ⊢
  by_cases k5 : k = 5
  · rw [if_pos k5] at h ⊢
    unfold restF at h
    simp only [Bool.and_eq_true, beq_iff_eq] at h
    obtain ⟨⟨⟨⟨⟨⟨⟨⟨_, rfl⟩, rfl⟩, _⟩, rfl⟩, _⟩, hz⟩, hc⟩, hb⟩ := h
    obtain rfl := zeroP_eq hz l1' l2'
    obtain rfl := cnfZ_eq hc
    obtain rfl : body = [] := List.length_eq_zero_iff.1 (by omega)
    exact ⟨rfl, hT, hn⟩
  rw [if_neg k5] at h ⊢
  by_cases k6 : k = 6 ∨ k = 7
  · rw [if_pos k6] at h ⊢
    unfold restF at h
    simp only [Bool.and_eq_true, beq_iff_eq] at h
    obtain ⟨⟨⟨⟨⟨⟨⟨⟨_, rfl⟩, rfl⟩, rfl⟩, _⟩, rfl⟩, hz⟩, hc⟩, hb⟩ := h
    obtain rfl := zeroP_eq hz l1' l2'
    obtain rfl := cnfZ_eq hc
    obtain rfl : body = [] := List.length_eq_zero_iff.1 (by omega)
    exact ⟨rfl, hid⟩
  rw [if_neg k6] at h ⊢
  by_cases k8 : k = 8
  · rw [if_pos k8] at h ⊢
    unfold restF at h
    simp only [Bool.and_eq_true, beq_iff_eq, decide_eq_true_eq] at h
    obtain ⟨⟨⟨⟨⟨⟨⟨⟨hb, rfl⟩, rfl⟩, rfl⟩, rfl⟩, rfl⟩, hz⟩, hc⟩, _⟩ := h
    obtain rfl := zeroP_eq hz l1' l2'
    obtain rfl := cnfZ_eq hc
    exact ⟨rfl, show body.length ≤ 1700 by omega⟩
  · rw [if_neg k8] at h
    unfold restF at h
    simp at h
theorem i64_0 : I64 0 := ⟨by decide, by decide⟩
theorem zPol_in : PolIn zPol := ⟨i64_0, i64_0, i64_0, i64_0, i64_0, i64_0, (by decide), (by decide)⟩
theorem zCnf_in : CnfIn zCnf := ⟨i64_0, i64_0, i64_0, i64_0, i64_0, i64_0, i64_0, i64_0, i64_0, i64_0, i64_0, i64_0⟩
theorem okE_in {k : Int} {e : Ev} (h : okE k e) : EvIn e ∧ (e.pol.bs.length ≤ 8 ∧ e.pol.ss.length ≤ 8) ∧ (encE [] e).length ≤ 1800 := by
  obtain ⟨hek, hk1, hk2⟩ := okE_k h
  unfold okE at h
  unfold encE
  rw [hek]
  have v1 := fun n : Int => vb_len (zig n)
  by_cases k1 : k = 1
  · rw [if_pos k1] at h ⊢
    obtain ⟨h0, h1, h2⟩ := h
    rw [h0]
    refine ⟨⟨h1, h2, i64_0, i64_0, i64_0, zPol_in, zCnf_in⟩, ⟨Nat.zero_le _, Nat.zero_le _⟩, ?_⟩
    have := v1 e.u; have := v1 e.dm
    simp only [List.nil_append, List.length_append]; omega
  rw [if_neg k1] at h ⊢
  by_cases k2 : k = 2
  · rw [if_pos k2] at h ⊢
    obtain ⟨h0, h1⟩ := h
    rw [h0]
    refine ⟨⟨i64_0, i64_0, h1, i64_0, i64_0, zPol_in, zCnf_in⟩, ⟨Nat.zero_le _, Nat.zero_le _⟩, ?_⟩
    have := v1 e.T
    simp only [List.nil_append]; omega
  rw [if_neg k2] at h ⊢
  by_cases k3 : k = 3
  · rw [if_pos k3] at h ⊢
    obtain ⟨h0, h1, p1, p2, p3, p4, p5, p6, p7, p8⟩ := h
    have q3 := p3.1
    have q8 := p8.1
    rw [List.length_map] at q3 q8
    have hl := encP_len ([] ++ vb (zig e.id)) e.pol
    rw [h0]
    refine ⟨⟨i64_0, i64_0, i64_0, h1, i64_0, ⟨p1, p2, p4, p5, p6, p7, p3.2, p8.2⟩, zCnf_in⟩, ⟨q3, q8⟩, ?_⟩
    have := v1 e.id
    simp only [List.nil_append] at hl ⊢
    omega
  rw [if_neg k3] at h ⊢
  by_cases k4 : k = 4
  · rw [if_pos k4] at h ⊢
    obtain ⟨h0, c0, c1, c2, c3, c4, c5, c6, c7, c8, c9, c10, c11⟩ := h
    have hl := encC_len [] e.c
    rw [h0]
    refine ⟨⟨i64_0, i64_0, i64_0, i64_0, i64_0, zPol_in, ⟨c0, c1, c2, c3, c4, c5, c6, c7, c8, c9, c10, c11⟩⟩, ⟨Nat.zero_le _, Nat.zero_le _⟩, ?_⟩
    simp only [List.length_nil] at hl ⊢
    omega
  rw [if_neg k4] at h ⊢
  by_cases k5 : k = 5
  · rw [if_pos k5] at h ⊢
    obtain ⟨h0, h1, h2⟩ := h
    rw [h0]
    refine ⟨⟨i64_0, i64_0, h1, i64_0, h2, zPol_in, zCnf_in⟩, ⟨Nat.zero_le _, Nat.zero_le _⟩, ?_⟩
    have := v1 e.T; have := v1 e.n
    simp only [List.nil_append, List.length_append]; omega
  rw [if_neg k5] at h ⊢
  have fin6 : okE 6 e ∨ True := .inr trivial
  by_cases k6 : k = 6 ∨ k = 7
  · rw [if_pos k6] at h
    obtain ⟨h0, h1⟩ := h
    rw [h0]
    refine ⟨⟨i64_0, i64_0, i64_0, h1, i64_0, zPol_in, zCnf_in⟩, ⟨Nat.zero_le _, Nat.zero_le _⟩, ?_⟩
    have := v1 e.id
    rcases k6 with rfl | rfl
    · rw [if_pos rfl]
      simp only [List.nil_append]; omega
    · rw [if_neg (by decide), if_pos rfl]
      simp only [List.nil_append]; omega
  rw [if_neg k6] at h
  rw [if_neg (fun h => k6 (.inl h)), if_neg (fun h => k6 (.inr h))]
  by_cases k8 : k = 8
  · rw [if_pos k8] at h ⊢
    obtain ⟨h0, h1⟩ := h
    have h1' : e.body.length ≤ 1700 := h1
    rw [h0]
    refine ⟨⟨i64_0, i64_0, i64_0, i64_0, i64_0, zPol_in, zCnf_in⟩, ⟨Nat.zero_le _, Nat.zero_le _⟩, ?_⟩
    have := v1 (e.body.length : Int)
    simp only [List.nil_append, List.length_append]; omega
  · omega
theorem put_right {e : Ev} (h : rightF e = true) (hx : EvIn e) (hg : greatE e = false) : putE e = encE [] e := by
  unfold putE
  rw [if_pos h, if_pos (okE_in (right_ok h hx hg)).2.2]
theorem put_wrong {e : Ev} (h : rightF e = false) : putE e = [] := by
  unfold putE
  rw [h]
  rfl
theorem get_put {e : Ev} (h : rightF e = true) (hx : EvIn e) (hg : greatE e = false) : getF e.k (putE e) = (e, 0) := by
  have ho := right_ok h hx hg
  have hk := (okE_k ho).2
  have hf := (stepE e.k hk).fwd e [] ho
  rw [List.append_nil] at hf
  rw [put_right h hx hg]
  unfold getF
  rw [if_pos hk, hf]
  dsimp only
  have : rEnd [] 0 = 0 := by decide
  rw [if_pos this, if_pos h]
theorem get_more {e : Ev} (m : Int) (h : rightF e = true) (hx : EvIn e) (hg : greatE e = false) : getF e.k (putE e ++ [m]) = (ev0 0, 12) := by
  have ho := right_ok h hx hg
  have hk := (okE_k ho).2
  have hf := (stepE e.k hk).fwd e [m] ho
  rw [put_right h hx hg]
  unfold getF
  rw [if_pos hk, hf]
  dsimp only
  have : rEnd [m] 0 = 12 := by simp [rEnd]
  rw [this]
  rfl
theorem get_cut {e : Ev} (j : Nat) (h : rightF e = true) (hx : EvIn e) (hg : greatE e = false) (hj : j < (putE e).length) : getF e.k ((putE e).take j) = (ev0 0, 13) := by
  have ho := right_ok h hx hg
  have hk := (okE_k ho).2
  rw [put_right h hx hg] at hj ⊢
  have hc := (stepE e.k hk).cut e [] ((encE [] e).take j) 0 ho (.inr ⟨rfl, j, by rw [List.append_nil]; exact hj, by rw [List.append_nil]⟩)
  have h13 : (getE e.k ((encE [] e).take j) 0).2.2 = 13 := by
    rcases hc with hc | ⟨_, m, hm, _⟩
    · exact hc
    · cases hm
  unfold getF
  rw [if_pos hk, h13]
  rw [if_neg (by unfold rEnd; simp)]
  unfold rEnd
  rfl
theorem get_conv (k : Int) (b : List Int) (hb : Byt b) : (getF k b = (ev0 0, 12) ∨ getF k b = (ev0 0, 13)) ∨ (∃ y, getF k b = (y, 0) ∧ rightF y = true ∧ y.k = k ∧ putE y = b ∧ EvIn y ∧ y.pol.bs.length ≤ 8 ∧ y.pol.ss.length ≤ 8 ∧ y.body.length ≤ 3000) := by
  unfold getF
  by_cases hk : 1 ≤ k ∧ k ≤ 8
  · rw [if_pos hk]
    have herr := (stepE k hk).err b 0
    by_cases h0 : (getE k b 0).2.2 = 0
    · obtain ⟨_, hl, ho⟩ := (stepE k hk).conv b 0 hb h0
      by_cases hn : (getE k b 0).2.1 = []
      · have he : rEnd (getE k b 0).2.1 (getE k b 0).2.2 = 0 := by rw [hn, h0]; decide
        rw [if_pos he]
        cases hr : rightF (getE k b 0).1
        · exact .inl (.inl rfl)
        · refine .inr ⟨_, rfl, hr, (okE_k ho).1, ?_, (okE_in ho).1, (okE_in ho).2.1.1, (okE_in ho).2.1.2, ?_⟩
          · rw [hn, List.append_nil] at hl
            unfold putE
            rw [if_pos hr, if_pos (okE_in ho).2.2]
            exact hl.symm
          · have hbody : (getE k b 0).1.body.length ≤ 1700 := by
              have ho' := ho
              unfold okE at ho'
              repeat' split at ho'
              all_goals first | (rw [ho'.1]; exact Nat.zero_le _) | exact ho'.2 | exact ho'.elim
            omega
      · have he : rEnd (getE k b 0).2.1 (getE k b 0).2.2 = 12 := by unfold rEnd; rw [if_pos ⟨h0, hn⟩]
        rw [he]
        exact .inl (.inl rfl)
    · have he : rEnd (getE k b 0).2.1 (getE k b 0).2.2 = (getE k b 0).2.2 := by unfold rEnd; rw [if_neg (fun h => h0 h.1)]
      rw [he, if_neg h0]
      rcases herr with h | h | h | h
      · exact absurd h h0
      · rw [h]; exact .inl (.inl rfl)
      · rw [h]; exact .inl (.inr rfl)
      · exact absurd h h0
  · rw [if_neg hk]
    exact .inl (.inl rfl)
theorem get_kind {k : Int} {b : List Int} (hk : ¬ (1 ≤ k ∧ k ≤ 8)) : getF k b = (ev0 0, 12) := by unfold getF; rw [if_neg hk]
end Go.Proofs.Ytldohapdhljoaaa.Wire
namespace Go.Proofs.Ytldohapdhljoaaa.Wire
open Go.RowKit Go.Proofs.YtldohapdhljoaaaW.PrintWords Go.Proofs.Ytldohapdhljoaaa.Obj Go.Proofs.Ytldohapdhljoaaa.Print
set_option linter.unusedVariables false
set_option maxRecDepth 100000
theorem add_block (a : Addr) (j : Nat) : (a.add j).block = a.block ∧ (a.add j).off = a.off + j := by
  unfold Addr.add
  by_cases h : j = 0 <;> simp [h]
theorem nf_slice {H : Type} {enc : TypeId × Value → H} {w : World} {t e : TypeId} {fuel : Nat} {A : Option Addr} {n c : Nat} {x : DataW H × List MemPlace} (ht : Try.prog.underlying t = some (.slice e)) (hc : Try.prog.cellsOf e = 2) (h : DataW.trod enc Try.prog w 0 (fun _ => true) true fuel t [.slice A n c] = some x) (hn : 0 < n) (hf : ∀ b off, MemPlace.cell b off ∈ x.2 → w.frozen? ⟨b, off, none⟩ = false) :
    ∃ ad, A = some ad ∧ ∀ j, j < n → w.frozen? ⟨(ad.add (j * 2)).block, (ad.add (j * 2)).off + 1, none⟩ = false := by
  rcases Deep.open_slice ht h with ⟨h0, _⟩ | ⟨a, len, cap, m, k, D, Pl, h1, hb, hl, hm, hmm, rfl, _⟩
  · simp at h0; omega
  · simp at h1
    obtain ⟨rfl, rfl, rfl⟩ := h1
    refine ⟨a, rfl, fun j hj => ?_⟩
    obtain ⟨e1, e2⟩ := add_block a (j * 2)
    rw [e1, e2]
    refine hf _ _ (List.mem_append_left _ (MemPlace.mem_row.2 ⟨j * 2 + 1, ?_, by rw [Nat.add_assoc]⟩))
    rw [hc, hmm]
    simp only [if_true]
    omega
theorem nf_pol {H : Type} {enc : TypeId × Value → H} {w : World} {fuel : Nat} (x : Pol) {A2 A7 : Option Addr} {c2 c7 : Nat} {y : DataW H × List MemPlace} (h : DataW.trod enc Try.prog w 0 (fun _ => true) true fuel 25 (polC x A2 A7 c2 c7) = some y) (hf : ∀ b off, MemPlace.cell b off ∈ y.2 → w.frozen? ⟨b, off, none⟩ = false) :
    ∃ ad2 ad7 : Addr, (0 < x.bs.length → A2 = some ad2) ∧ (0 < x.ss.length → A7 = some ad7) ∧ (∀ j, j < x.bs.length → w.frozen? ⟨(ad2.add (j * 2)).block, (ad2.add (j * 2)).off + 1, none⟩ = false) ∧ ∀ j, j < x.ss.length → w.frozen? ⟨(ad7.add (j * 2)).block, (ad7.add (j * 2)).off + 1, none⟩ = false := by
  obtain ⟨xs, n, rfl, rfl, hl, hsz, hi⟩ := DataW.trod_struct Try.underlying25 h
  have h2 : DataW.trod enc Try.prog w 0 (fun _ => true) true n 22 (((polC x A2 A7 c2 c7).drop 2).take (Try.prog.cellsOf 22)) = xs[2]? := hi 2 _ rfl
  have h7 : DataW.trod enc Try.prog w 0 (fun _ => true) true n 23 (((polC x A2 A7 c2 c7).drop 7).take (Try.prog.cellsOf 23)) = xs[7]? := hi 7 _ rfl
  have c22 : Try.prog.cellsOf 22 = 1 := by kernel_rfl
  have c23 : Try.prog.cellsOf 23 = 1 := by kernel_rfl
  have c46 : Try.prog.cellsOf 46 = 2 := by kernel_rfl
  have c48 : Try.prog.cellsOf 48 = 2 := by kernel_rfl
  (try dsimp only at h2 h7)
  rw [c22] at h2
  rw [c23] at h7
  have e2 : ((polC x A2 A7 c2 c7).drop 2).take 1 = [.slice A2 x.bs.length c2] := rfl
  have e7 : ((polC x A2 A7 c2 c7).drop 7).take 1 = [.slice A7 x.ss.length c7] := rfl
  rw [e2] at h2
  rw [e7] at h7
  have hlt : ∀ i, i < 8 → i < xs.length := fun i h => by rw [hsz]; exact h
  rw [List.getElem?_eq_getElem (hlt 2 (by decide))] at h2
  rw [List.getElem?_eq_getElem (hlt 7 (by decide))] at h7
  have hf' : ∀ (i : Nat) (hi : i < xs.length), ∀ b off, MemPlace.cell b off ∈ (xs[i]'hi).2 → w.frozen? ⟨b, off, none⟩ = false := fun i hi b off hm => hf b off (List.mem_flatMap.2 ⟨_, List.getElem_mem hi, hm⟩)
  have r2 : ∃ ad2 : Addr, (0 < x.bs.length → A2 = some ad2) ∧ ∀ j, j < x.bs.length → w.frozen? ⟨(ad2.add (j * 2)).block, (ad2.add (j * 2)).off + 1, none⟩ = false := by
    rcases Nat.eq_zero_or_pos x.bs.length with e | e
    · exact ⟨⟨0, 0, none⟩, fun h => by omega, fun j h => by omega⟩
    · obtain ⟨ad, q1, q2⟩ := nf_slice Try.underlying22 c46 h2 e (hf' 2 _)
      exact ⟨ad, fun _ => q1, q2⟩
  have r7 : ∃ ad7 : Addr, (0 < x.ss.length → A7 = some ad7) ∧ ∀ j, j < x.ss.length → w.frozen? ⟨(ad7.add (j * 2)).block, (ad7.add (j * 2)).off + 1, none⟩ = false := by
    rcases Nat.eq_zero_or_pos x.ss.length with e | e
    · exact ⟨⟨0, 0, none⟩, fun h => by omega, fun j h => by omega⟩
    · obtain ⟨ad, q1, q2⟩ := nf_slice Try.underlying23 c48 h7 e (hf' 7 _)
      exact ⟨ad, fun _ => q1, q2⟩
  obtain ⟨ad2, a1, a2⟩ := r2
  obtain ⟨ad7, b1, b2⟩ := r7
  exact ⟨ad2, ad7, a1, b1, a2, b2⟩
def EvNF (e : Ev) (w : World) (A2 A7 : Option Addr) : Prop := ∃ ad2 ad7, NF e w ad2 ad7 ∧ (0 < e.pol.bs.length → A2 = some ad2) ∧ (0 < e.pol.ss.length → A7 = some ad7)
theorem nf_arg {H : Type} {enc : TypeId × Value → H} {w : World} (e : Ev) {A2 A7 A8 : Option Addr} {c2 c7 c8 : Nat} {d : DataW H} {p : List MemPlace} (h : DataW.Trod enc Try.prog w 0 (fun _ => true) true 30 (.agg (evC e A2 A7 A8 c2 c7 c8).toArray) d p) (hf : w.noneFrozen p) : EvNF e w A2 A7 := by
  obtain ⟨fuel, h⟩ := h
  obtain ⟨xs, n, rfl, hy, hl, hsz, hi⟩ := DataW.trod_struct Try.underlying30 h
  have h6 : DataW.trod enc Try.prog w 0 (fun _ => true) true n 25 (((Value.cells (.agg (evC e A2 A7 A8 c2 c7 c8).toArray)).toList.drop 6).take (Try.prog.cellsOf 25)) = xs[6]? := hi 6 _ rfl
  have c25 : Try.prog.cellsOf 25 = 8 := by kernel_rfl
  (try dsimp only at h6)
  rw [c25] at h6
  have e6 : ((Value.cells (.agg (evC e A2 A7 A8 c2 c7 c8).toArray)).toList.drop 6).take 8 = polC e.pol A2 A7 c2 c7 := rfl
  rw [e6] at h6
  have hlt : 6 < xs.length := by rw [hsz]; decide
  rw [List.getElem?_eq_getElem hlt] at h6
  obtain ⟨ad2, ad7, a, b, c, d'⟩ := nf_pol e.pol h6 (fun b off hm => hf b off (by
    injection hy with _ hp
    rw [hp]
    exact List.mem_flatMap.2 ⟨_, List.getElem_mem hlt, hm⟩))
  exact ⟨ad2, ad7, ⟨c, d'⟩, a, b⟩
end Go.Proofs.Ytldohapdhljoaaa.Wire
namespace Go.Proofs.Ytldohapdhljoaaa.Wire
open Go.RowKit Go.Proofs.YtldohapdhljoaaaW.PrintWords Go.Proofs.Ytldohapdhljoaaa.Obj Go.Proofs.Ytldohapdhljoaaa.Print
set_option linter.unusedVariables false
set_option linter.unusedSimpArgs false
set_option maxRecDepth 100000
theorem wrap_up (i : Nat) (h : i ≤ 1000) : wrap64 ((i : Int) + 1) = ((i + 1 : Nat) : Int) := by unfold wrap64; omega
theorem l1_refl (x : Pol) (h : x.ss.length ≤ 100) : ∀ (n i k : Nat), i + n = x.ss.length → n < k → governorref09_SamePolicy.l1 k (i : Int) x.k x.t x.bs x.p x.i x.d x.per x.ss x.k x.t x.bs x.p x.i x.d x.per x.ss = some true
  | n, i, 0, _, h2 => by omega
  | 0, i, k + 1, h1, _ => by
    unfold governorref09_SamePolicy.l1
    rw [if_neg (by omega)]
  | n + 1, i, k + 1, h1, h2 => by
    unfold governorref09_SamePolicy.l1
    rw [if_pos (by omega), if_pos (by omega), if_pos (by omega)]
    simp only [beq_self_eq_true, Bool.not_true, Bool.or_self, Bool.false_eq_true, if_false]
    rw [wrap_up i (by omega)]
    exact l1_refl x h n (i + 1) k (by omega) (by omega)
theorem l0_refl (x : Pol) (h : x.bs.length ≤ 100) (h' : x.ss.length ≤ 100) : ∀ (n i k : Nat), i + n = x.bs.length → n + 101 < k → governorref09_SamePolicy.l0 k (i : Int) x.k x.t x.bs x.p x.i x.d x.per x.ss x.k x.t x.bs x.p x.i x.d x.per x.ss = some true
  | n, i, 0, _, h2 => by omega
  | 0, i, k + 1, h1, _ => by
    unfold governorref09_SamePolicy.l0
    rw [if_neg (by omega)]
    exact l1_refl x h' x.ss.length 0 k (by omega) (by omega)
  | n + 1, i, k + 1, h1, h2 => by
    unfold governorref09_SamePolicy.l0
    rw [if_pos (by omega), if_pos (by omega), if_pos (by omega)]
    simp only [beq_self_eq_true, Bool.not_true, Bool.or_self, Bool.false_eq_true, if_false]
    rw [wrap_up i (by omega)]
    exact l0_refl x h h' n (i + 1) k (by omega) (by omega)
theorem j0_false (x : Pol) (k : Nat) : governorref09_SamePolicy.j0 (k + 1) false x.k x.t x.bs x.p x.i x.d x.per x.ss x.k x.t x.bs x.p x.i x.d x.per x.ss = governorref09_SamePolicy.l0 k ((0 : Nat) : Int) x.k x.t x.bs x.p x.i x.d x.per x.ss x.k x.t x.bs x.p x.i x.d x.per x.ss := by
  unfold governorref09_SamePolicy.j0
  dsimp only
  rw [if_neg (by decide)]
  rfl
theorem pol_refl (x : Pol) (h : x.bs.length ≤ 100) (h' : x.ss.length ≤ 100) : governorref09_SamePolicy.f 300 x.k x.t x.bs x.p x.i x.d x.per x.ss x.k x.t x.bs x.p x.i x.d x.per x.ss = some true := by
  unfold governorref09_SamePolicy.f
  simp only [if_true]
  have e : ((x.ss.length : Int) != (x.ss.length : Int)) = false := by simp
  rw [e]
  refine (j0_false x 299).trans ?_
  exact l0_refl x h h' x.bs.length 0 299 (by omega) (by omega)
theorem ev_refl (x : Ev) (h : x.pol.bs.length ≤ 100) (h' : x.pol.ss.length ≤ 100) : governorref09_Same.f 300 x.k x.u x.dm x.T x.id x.n x.pol.k x.pol.t x.pol.bs x.pol.p x.pol.i x.pol.d x.pol.per x.pol.ss x.c.mi x.c.ma x.c.ra x.c.st x.c.ca x.c.de x.c.sl x.c.wi x.c.mg x.c.ce x.c.pr x.c.br x.body x.k x.u x.dm x.T x.id x.n x.pol.k x.pol.t x.pol.bs x.pol.p x.pol.i x.pol.d x.pol.per x.pol.ss x.c.mi x.c.ma x.c.ra x.c.st x.c.ca x.c.de x.c.sl x.c.wi x.c.mg x.c.ce x.c.pr x.c.br x.body = some true := by
  unfold governorref09_Same.f
  simp only [if_true, pol_refl x.pol h h', Option.bind_some, beq_self_eq_true, Bool.and_self]
theorem same_self (x : Ev) (cs ds : Array Value) (A2 A7 A8 B2 B7 B8 : Option Addr) (A2c A7c A8c B2c B7c B8c : Nat) (w : World) (hcs : cs = (evC x A2 A7 A8 A2c A7c A8c).toArray) (hds : ds = (evC x B2 B7 B8 B2c B7c B8c).toArray) (hx : EvAt x w A2 A7 A8 A2c A7c A8c) (hy : EvAt x w B2 B7 B8 B2c B7c B8c) (h : x.pol.bs.length ≤ 100) (h' : x.pol.ss.length ≤ 100) :
    Calls Try.prog 21 #[.agg cs, .agg ds] w fun e w' => e = .returned (.bool true) ∧ Below w.heap.size w w' :=
  same_ev 300 x x cs ds A2 A7 A8 B2 B7 B8 A2c A7c A8c B2c B7c B8c true w hcs hds hx hy (ev_refl x h h')
def EvB (e : Ev) (W : World) (A2 A7 A8 : Option Addr) (c2 c7 c8 : Nat) : Prop := EvAt e W A2 A7 A8 c2 c7 c8 ∧ EvNF e W A2 A7
theorem EvB.later {e : Ev} {w w' : World} {A2 A7 A8 : Option Addr} {c2 c7 c8 : Nat} (h : EvB e w A2 A7 A8 c2 c7 c8) (hb : Below w.heap.size w w') : EvB e w' A2 A7 A8 c2 c7 c8 := by
  obtain ⟨h1, ad2, ad7, h2, h3, h4⟩ := h
  refine ⟨h1.later hb, ad2, ad7, ⟨fun j hj => ?_, fun j hj => ?_⟩, h3, h4⟩
  · obtain ⟨ad, hA, q1, q2⟩ := at_T46 h1.pol.r2 (j : Int) (by omega) (by omega)
    have := h3 (by omega)
    rw [hA] at this
    injection this with this
    subst this
    rw [Int.toNat_natCast] at q2
    exact (hb.frozen (World.block_lt_of_cell? w _ q2)).trans (h2.bs j hj)
  · obtain ⟨ad, hA, q1, q2⟩ := at_T48 h1.pol.r7 (j : Int) (by omega) (by omega)
    have := h4 (by omega)
    rw [hA] at this
    injection this with this
    subst this
    rw [Int.toNat_natCast] at q2
    exact (hb.frozen (World.block_lt_of_cell? w _ q2)).trans (h2.ss j hj)
theorem put_B (e : Ev) (bs : List Int) (W : World) (A2 A7 A8 : Option Addr) (c2 c7 c8 : Nat) (h : EvB e W A2 A7 A8 c2 c7 c8) (hx : EvIn e) (hg : greatE e = false) (hb : putE e = bs) :
    Calls Try.prog 19 #[.agg (evC e A2 A7 A8 c2 c7 c8).toArray] W fun r W' => ∃ A c, r = .returned (.slice A bs.length c) ∧ bs.length ≤ c ∧ Kd.C (Kd.int .u8) W' A bs.length bs ∧ Below W.heap.size W W' := by
  obtain ⟨h1, ad2, ad7, h2, h3, h4⟩ := h
  obtain ⟨l1, l2, l3⟩ := greatE_lens hg
  exact put_ev e bs W _ A2 A7 A8 ad2 ad7 c2 c7 c8 rfl h1 h2 hx h3 h4 (by omega) hb
theorem byt_app {a b : List Int} (h : Byt a) (k : Byt b) : Byt (a ++ b) := fun x hx => (List.mem_append.1 hx).elim (h x) (k x)
theorem byt_vb {n : Int} (h : I64 n) : Byt (vb (zig n)) := vb_byte _ (zig_nonneg n) (zig_lt n h.1 h.2)
theorem byt_L : ∀ (l : List (Int × Int)), (∀ p ∈ l, okPair p) → Byt (encL l)
  | [], _ => fun x h => by cases h
  | p :: r, h => by
    have h1 := h p List.mem_cons_self
    have h2 := byt_L r (fun q hq => h q (List.mem_cons_of_mem _ hq))
    unfold encL at *
    rw [List.flatMap_cons]
    exact byt_app (byt_app (byt_vb h1.1) (byt_vb h1.2)) h2
theorem byt_P {x : Pol} (h : okP x) : Byt (bP x) := by
  obtain ⟨h1, h2, h3, h4, h5, h6, h7, h8⟩ := h
  unfold bP
  exact byt_app (byt_vb h1) (byt_app (byt_vb h2) (byt_app (byt_app (byt_vb ⟨by omega, by have := h3.1; omega⟩) (byt_L _ h3.2)) (byt_app (byt_vb h4) (byt_app (byt_vb h5) (byt_app (byt_vb h6) (byt_app (byt_vb h7) (byt_app (byt_vb ⟨by omega, by have := h8.1; omega⟩) (byt_L _ h8.2))))))))
theorem byt_C {c : Cnf} (h : okC c) : Byt (bC c) := by
  obtain ⟨h0, h1, h2, h3, h4, h5, h6, h7, h8, h9, h10, h11⟩ := h
  unfold bC
  exact byt_app (byt_vb h0) (byt_app (byt_vb h1) (byt_app (byt_vb h2) (byt_app (byt_vb h3) (byt_app (byt_vb h4) (byt_app (byt_vb h5) (byt_app (byt_vb h6) (byt_app (byt_vb h7) (byt_app (byt_vb h8) (byt_app (byt_vb h9) (byt_app (byt_vb h10) (byt_vb h11)))))))))))
theorem byt_nil : Byt [] := fun x h => by cases h
theorem byt_E {k : Int} {e : Ev} (h : okE k e) (hb : Byt e.body) : Byt (encE [] e) := by
  obtain ⟨hek, hk1, hk2⟩ := okE_k h
  unfold okE at h
  unfold encE
  rw [hek]
  by_cases k1 : k = 1
  · rw [if_pos k1] at h ⊢
    exact byt_app byt_nil (byt_app (byt_vb h.2.1) (byt_vb h.2.2))
  rw [if_neg k1] at h ⊢
  by_cases k2 : k = 2
  · rw [if_pos k2] at h ⊢
    exact byt_app byt_nil (byt_vb h.2)
  rw [if_neg k2] at h ⊢
  by_cases k3 : k = 3
  · rw [if_pos k3] at h ⊢
    rw [encP_eq]
    exact byt_app (byt_app byt_nil (byt_vb h.2.1)) (byt_P h.2.2)
  rw [if_neg k3] at h ⊢
  by_cases k4 : k = 4
  · rw [if_pos k4] at h ⊢
    rw [encC_eq]
    exact byt_app byt_nil (byt_C h.2)
  rw [if_neg k4] at h ⊢
  by_cases k5 : k = 5
  · rw [if_pos k5] at h ⊢
    exact byt_app (byt_app byt_nil (byt_vb h.2.1)) (byt_vb h.2.2)
  rw [if_neg k5] at h ⊢
  by_cases k6 : k = 6 ∨ k = 7
  · rw [if_pos k6] at h
    rcases k6 with rfl | rfl
    · rw [if_pos rfl]
      exact byt_app byt_nil (byt_vb h.2)
    · rw [if_neg (by decide), if_pos rfl]
      exact byt_app byt_nil (byt_vb h.2)
  rw [if_neg k6] at h
  rw [if_neg (fun h => k6 (.inl h)), if_neg (fun h => k6 (.inr h))]
  by_cases k8 : k = 8
  · rw [if_pos k8] at h ⊢
    have h1 : e.body.length ≤ 1700 := h.2
    exact byt_app (byt_app byt_nil (byt_vb ⟨by omega, by omega⟩)) hb
  · omega
theorem byt_put {e : Ev} (hx : EvIn e) (hg : greatE e = false) (hb : Byt e.body) : Byt (putE e) := by
  cases hr : rightF e
  · rw [put_wrong hr]; exact byt_nil
  · rw [put_right hr hx hg]; exact byt_E (right_ok hr hx hg) hb
theorem put_len {e : Ev} (hx : EvIn e) (hg : greatE e = false) : (putE e).length ≤ 1800 := by
  cases hr : rightF e
  · rw [put_wrong hr]; decide
  · rw [put_right hr hx hg]; exact (okE_in (right_ok hr hx hg)).2.2
theorem put_some {e : Ev} (h : rightF e = true) (hx : EvIn e) (hg : greatE e = false) : 0 < (putE e).length := by
  have ho := right_ok h hx hg
  have hk := (okE_k ho).2
  have hf := (stepE e.k hk).fwd e [] ho
  rw [put_right h hx hg]
  rcases Nat.eq_zero_or_pos (encE [] e).length with h0 | h0
  · have h1 := List.length_eq_zero_iff.1 h0
    obtain ⟨hek, _⟩ := okE_k ho
    exfalso
    have v := fun n : Int => (vb_len (zig n)).1
    unfold encE at h0
    repeat' split at h0
    all_goals first
      | (simp only [List.nil_append, List.length_append] at h0; have := v e.u; omega)
      | (simp only [List.nil_append, List.length_append] at h0; have := v e.T; omega)
      | (rw [encP_eq] at h0; simp only [List.nil_append, List.length_append] at h0; have := v e.id; omega)
      | (rw [encC_eq] at h0; unfold bC at h0; simp only [List.nil_append, List.length_append] at h0; have := v e.c.mi; omega)
      | (simp only [List.nil_append, List.length_append] at h0; have := v e.id; omega)
      | (simp only [List.nil_append, List.length_append] at h0; have := v (e.body.length : Int); omega)
      | omega
  · exact h0
end Go.Proofs.Ytldohapdhljoaaa.Wire
namespace Go.Proofs.Ytldohapdhljoaaa.Wire
open Go.RowKit Go.Proofs.YtldohapdhljoaaaW.PrintWords Go.Proofs.Ytldohapdhljoaaa.Obj Go.Proofs.Ytldohapdhljoaaa.Print
set_option linter.unusedVariables false
set_option maxRecDepth 100000
theorem wf_pol (x : S25) (h : wf25 x) : PolIn ⟨x.f0, x.f1, x.f2, x.f3, x.f4, x.f5, x.f6, x.f7⟩ := by
  obtain ⟨h0, h1, ⟨_, h2⟩, h3, h4, h5, h6, ⟨_, h7⟩⟩ := h
  refine ⟨wf_i64 h0, wf_i64 h1, wf_i64 h3, wf_i64 h4, wf_i64 h5, wf_i64 h6, fun p hp => ?_, fun p hp => ?_⟩
  · obtain ⟨b, hb, rfl⟩ := List.mem_map.1 hp
    exact ⟨wf_i64 (h2 b hb).1, wf_i64 (h2 b hb).2⟩
  · obtain ⟨b, hb, rfl⟩ := List.mem_map.1 hp
    exact ⟨wf_i64 (h7 b hb).1, wf_i64 (h7 b hb).2⟩
theorem wf_ev (x : S30) (h : wf30 x) : EvIn ⟨x.f0, x.f1, x.f2, x.f3, x.f4, x.f5, ⟨x.f6.f0, x.f6.f1, x.f6.f2, x.f6.f3, x.f6.f4, x.f6.f5, x.f6.f6, x.f6.f7⟩, ⟨x.f7.f0, x.f7.f1, x.f7.f2, x.f7.f3, x.f7.f4, x.f7.f5, x.f7.f6, x.f7.f7, x.f7.f8, x.f7.f9, x.f7.f10, x.f7.f11⟩, x.f8⟩ ∧ Byt x.f8 := by
  obtain ⟨h0, h1, h2, h3, h4, h5, h6, ⟨c0, c1, c2, c3, c4, c5, c6, c7, c8, c9, c10, c11⟩, _, h8⟩ := h
  exact ⟨⟨wf_i64 h1, wf_i64 h2, wf_i64 h3, wf_i64 h4, wf_i64 h5, wf_pol _ h6, ⟨wf_i64 c0, wf_i64 c1, wf_i64 c2, wf_i64 c3, wf_i64 c4, wf_i64 c5, wf_i64 c6, wf_i64 c7, wf_i64 c8, wf_i64 c9, wf_i64 c10, wf_i64 c11⟩⟩, fun a ha => wf_u8 (h8 a ha)⟩
theorem wf_bytes (l : List Int) (h : l.length ≤ 9223372036854775807 ∧ ∀ a ∈ l, (Lit.int .u8 a).wf = true) : Byt l := fun a ha => wf_u8 (h.2 a ha)
end Go.Proofs.Ytldohapdhljoaaa.Wire
