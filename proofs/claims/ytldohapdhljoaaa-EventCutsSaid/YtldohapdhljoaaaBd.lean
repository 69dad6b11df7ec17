/- Several texts of this claim, one behind the other. -/
import Derived.Test.YtldohapdhljoaaaBa
import Derived.Laws.BitsAllLaws
import Derived.Test.YtldohapdhljoaaaProg
import Derived.WalkKit
import Derived.Outline
import Derived.Maps.AppendAt
import Derived.Deep.LoopGhost
import Derived.Lib.Hide
import Derived.Lib.SliceRun
import Derived.WalkSpells
import Derived.Deep.QuietTactic
import Derived.BigQuiet
import Derived.IntWalk
import Derived.Deep.DeepCutAuto
import Derived.Below
import Derived.Deep.MidRow
import Derived.Laws.Tables
import Derived.Laws.Rows
import Derived.Laws.CopyOwn
import Derived.Great.BuildSlice
import Derived.Orders
namespace Go.Proofs.Ytldohapdhljoaaa.Obj
open Go.RowKit Go.Proofs.YtldohapdhljoaaaW.PrintWords
set_option linter.unusedVariables false
set_option maxRecDepth 100000
structure Ch (S : Nat → Prop) (w w' : World) : Prop where
  os : w'.os = w.os
  tape : w'.tape = w.tape
  output : w'.output = w.output
  size : w.heap.size ≤ w'.heap.size
  block : ∀ k, k < w.heap.size → ¬ S k → w'.heap[k]? = w.heap[k]?
theorem Ch.refl (S : Nat → Prop) (w : World) : Ch S w w := ⟨rfl, rfl, rfl, Nat.le_refl _, fun _ _ _ => rfl⟩
theorem Ch.mono {S S' : Nat → Prop} {w w' : World} (h : Ch S w w') (hs : ∀ k, k < w.heap.size → S k → S' k) : Ch S' w w' := ⟨h.os, h.tape, h.output, h.size, fun k hk hn => h.block k hk (fun hS => hn (hs k hk hS))⟩
theorem Ch.trans {S S' : Nat → Prop} {a b c : World} (h : Ch S a b) (k : Ch S' b c) (hs : ∀ i, S' i → S i ∨ a.heap.size ≤ i) : Ch S a c :=
  ⟨k.os.trans h.os, k.tape.trans h.tape, k.output.trans h.output, Nat.le_trans h.size k.size, fun i hi hn => (k.block i (Nat.lt_of_lt_of_le hi h.size) (fun hS => by
    rcases hs i hS with h1 | h1
    · exact hn h1
    · omega)).trans (h.block i hi hn)⟩
theorem Ch.ofBelow {S : Nat → Prop} {w w' : World} (h : Below w.heap.size w w') : Ch S w w' := ⟨h.os, h.tape, h.output, h.size, fun k hk _ => h.block k hk⟩
theorem Ch.below {S : Nat → Prop} {w w' : World} {B : Nat} (h : Ch S w w') (hB : B ≤ w.heap.size) (hs : ∀ k, S k → B ≤ k) : Below B w w' :=
  ⟨h.os, h.tape, h.output, h.size, fun k hk => h.block k (by omega) (fun hS => by have := hs k hS; omega)⟩
theorem Ch.alloc {S : Nat → Prop} {a w : World} (h : Ch S a w) (o : Obj) : Ch S a (w.alloc o) := h.trans (Ch.ofBelow ((Below.refl _ w).alloc (Nat.le_refl _) o)) (S' := fun _ => False) (fun _ h => h.elim)
theorem Ch.drew {S : Nat → Prop} {a w : World} (h : Ch S a w) : Ch S a w.drew := ⟨h.os, h.tape, h.output, h.size, h.block⟩
theorem Ch.setCell {S : Nat → Prop} {a w : World} (h : Ch S a w) {p : Addr} (hp : S p.block ∨ a.heap.size ≤ p.block) (u : Value) : Ch S a (w.setCell p u) :=
  h.trans ⟨rfl, rfl, rfl, by simp [World.setCell], fun k hk hn => Below.heap_setCell w p u k hn⟩ (S' := fun k => k = p.block) (fun i hi => by rw [hi]; exact hp)
theorem Ch.grown {S : Nat → Prop} {a w w' : World} {row : Option Nat} (h : Ch S a w) (hg : w.grownBy w' row) (hr : ∀ k, row = some k → S k ∨ a.heap.size ≤ k) : Ch S a w' :=
  h.trans ⟨hg.os, hg.tape, hg.output, hg.size, fun k hk hn => hg.block k hk (fun e => hn e.symm)⟩ (S' := fun k => row = some k) hr
theorem Ch.keep {S : Nat → Prop} {w w' : World} (h : Ch S w w') {k : Nat} (hk : k < w.heap.size) (hn : ¬ S k) : w'.heap[k]? = w.heap[k]? := h.block k hk hn
def More (S : Nat → Prop) (w : World) (S' : Nat → Prop) (w' : World) : Prop := (∀ k, S' k → S k ∨ w.heap.size ≤ k) ∧ (∀ k, S' k → k < w'.heap.size)
structure Asr where
  holds : World → (Nat → Prop) → Prop
  keep : ∀ {w w' : World} {S : Nat → Prop}, (∀ k, S k → w'.heap[k]? = w.heap[k]?) → holds w S → holds w' S
def Upd (A : Asr) (S : Nat → Prop) (w w' : World) : Prop := Ch S w w' ∧ ∃ S', More S w S' w' ∧ A.holds w' S'
theorem Upd.refl0 {A : Asr} {S : Nat → Prop} {w : World} (h : A.holds w S) (hS : ∀ k, S k → k < w.heap.size) : Upd A S w w := ⟨Ch.refl _ _, S, ⟨fun _ => .inl, hS⟩, h⟩
def Same (A : Asr) (S : Nat → Prop) (w w' : World) : Prop := Ch S w w' ∧ A.holds w' S
theorem Same.upd {A : Asr} {S : Nat → Prop} {w w' : World} (h : Same A S w w') (hS : ∀ k, S k → k < w.heap.size) : Upd A S w w' := ⟨h.1, S, ⟨fun _ => .inl, fun k hk => Nat.lt_of_lt_of_le (hS k hk) h.1.size⟩, h.2⟩
theorem Same.refl0 {A : Asr} {S : Nat → Prop} {w : World} (h : A.holds w S) : Same A S w w := ⟨Ch.refl _ _, h⟩
theorem same_after {A : Asr} {S : Nat → Prop} {w w1 w2 : World} (hb : Below w.heap.size w w1) (h : Same A S w1 w2) : Same A S w w2 := ⟨(Ch.ofBelow (S := S) hb).trans h.1 (fun i hi => .inl hi), h.2⟩
def One (A : Asr) (base : Nat) (w : World) : Prop := ∃ S, (∀ k, S k → base ≤ k ∧ k < w.heap.size) ∧ A.holds w S
def sepA (A B : Asr) : Asr where
  holds := fun w U => ∃ S T : Nat → Prop, (∀ k, S k → U k) ∧ (∀ k, T k → U k) ∧ (∀ k, S k → ¬ T k) ∧ A.holds w S ∧ B.holds w T
  keep := fun {w w' U} h ⟨S, T, h1, h2, h3, h4, h5⟩ => ⟨S, T, h1, h2, h3, A.keep (fun k hk => h k (h1 k hk)) h4, B.keep (fun k hk => h k (h2 k hk)) h5⟩
theorem One.step {A B A' : Asr} {base : Nat} {w w' : World} {S T : Nat → Prop} (hS : ∀ k, S k → base ≤ k ∧ k < w.heap.size) (hT : ∀ k, T k → base ≤ k ∧ k < w.heap.size) (hd : ∀ k, S k → ¬ T k) (hb : base ≤ w.heap.size) (hB : B.holds w T) (hU : Upd A' S w w') : One (sepA A' B) base w' ∧ Below base w w' := by
  obtain ⟨hc, S', ⟨m1, m2⟩, hA⟩ := hU
  refine ⟨⟨fun k => S' k ∨ T k, fun k hk => ?_, S', T, fun _ => .inl, fun _ => .inr, fun k hs ht => ?_, hA, B.keep (fun k hk => hc.block k (hT k hk).2 (fun hs => hd k hs hk)) hB⟩, hc.below hb (fun k hk => (hS k hk).1)⟩
  · rcases hk with hk | hk
    · rcases m1 k hk with h | h
      · exact ⟨(hS k h).1, m2 k hk⟩
      · exact ⟨Nat.le_trans hb h, m2 k hk⟩
    · exact ⟨(hT k hk).1, Nat.lt_of_lt_of_le (hT k hk).2 hc.size⟩
  · rcases m1 k hs with h | h
    · exact hd k h ht
    · have := (hT k ht).2; omega
end Go.Proofs.Ytldohapdhljoaaa.Obj
namespace Go.Proofs.Ytldohapdhljoaaa.Wire
open Go
set_option linter.unusedVariables false
set_option maxRecDepth 100000
def zig (n : Int) : Int := if 0 ≤ n then 2 * n else -2 * n - 1
def unzig (c : Int) : Int := if c % 2 = 0 then c / 2 else -(c / 2) - 1
theorem zig_nonneg (n : Int) : 0 ≤ zig n := by unfold zig; split <;> omega
theorem zig_lt (n : Int) (h0 : -9223372036854775808 ≤ n) (h1 : n ≤ 9223372036854775807) : zig n < 18446744073709551616 := by unfold zig; split <;> omega
theorem unzig_zig (n : Int) : unzig (zig n) = n := by unfold unzig zig; split <;> split <;> omega
theorem zig_unzig (c : Int) (h : 0 ≤ c) : zig (unzig c) = c := by unfold unzig zig; split <;> split <;> omega
theorem unzig_range (c : Int) (h0 : 0 ≤ c) (h : c < 18446744073709551616) : -9223372036854775808 ≤ unzig c ∧ unzig c ≤ 9223372036854775807 := by unfold unzig; split <;> omega
def vbF : Nat → Int → List Int
  | 0, c => [c]
  | k + 1, c => if c < 128 then [c] else (c % 128 + 128) :: vbF k (c / 128)
def vb (c : Int) : List Int := vbF 9 c
theorem vbF_len (k : Nat) : ∀ c, 1 ≤ (vbF k c).length ∧ (vbF k c).length ≤ k + 1 := by
  induction k with
  | zero => intro c; simp [vbF]
  | succ k ih =>
    intro c
    unfold vbF
    have := ih (c / 128)
    split
    · simp
    · simp only [List.length_cons]; omega
theorem vb_len (c : Int) : 1 ≤ (vb c).length ∧ (vb c).length ≤ 10 := vbF_len 9 c
theorem vbF_byte (k : Nat) : ∀ c, 0 ≤ c → c < 2 * 128 ^ k → ∀ x ∈ vbF k c, 0 ≤ x ∧ x < 256 := by
  induction k with
  | zero => intro c h0 h1 x hx; simp [vbF] at hx; subst hx; omega
  | succ k ih =>
    intro c h0 h1 x hx
    unfold vbF at hx
    rw [Int.pow_succ] at h1
    split at hx
    · simp at hx; omega
    · rw [List.mem_cons] at hx
      rcases hx with rfl | hx
      · omega
      · exact ih (c / 128) (by omega) (by omega) x hx
theorem vb_byte (c : Int) (h0 : 0 ≤ c) (h : c < 18446744073709551616) : ∀ x ∈ vb c, 0 ≤ x ∧ x < 256 := vbF_byte 9 c h0 (by simpa using h)
def decG : Nat → Int → List Int → Int × Int × Int
  | _, _, [] => (0, 0, 13)
  | i, c, x :: r => if i = 9 ∧ 1 < x ∨ 0 < i ∧ x = 0 then (0, 0, 12) else if x < 128 then (unzig (c + x * 128 ^ i), (i : Int) + 1, 0) else decG (i + 1) (c + (x - 128) * 128 ^ i) r
def dec (l : List Int) : Int × Int × Int := decG 0 0 l
theorem decG_vb (k : Nat) : ∀ (i : Nat) (c q : Int) (r : List Int), i + k = 9 → 0 ≤ q → q < 2 * 128 ^ k → (0 < i → 0 < q) → decG i c (vbF k q ++ r) = (unzig (c + q * 128 ^ i), (i : Int) + (vbF k q).length, 0) := by
  induction k with
  | zero =>
    intro i c q r hi h0 h1 hp
    have : q < 2 := by simpa using h1
    simp only [vbF, List.cons_append, List.nil_append, decG]
    rw [if_neg (by omega), if_pos (by omega)]
    rfl
  | succ k ih =>
    intro i c q r hi h0 h1 hp
    rw [Int.pow_succ] at h1
    unfold vbF
    split
    · simp only [List.cons_append, List.nil_append, decG]
      rw [if_neg (by omega), if_pos (by omega)]
      rfl
    · simp only [List.cons_append, decG]
      rw [if_neg (by omega), if_neg (by omega), ih (i + 1) _ (q / 128) r (by omega) (by omega) (by omega) (by omega)]
      have e : c + (q % 128 + 128 - 128) * 128 ^ i + q / 128 * 128 ^ (i + 1) = c + q * 128 ^ i := by
        have h2 : q / 128 * 128 ^ (i + 1) = (q / 128 * 128) * (128 : Int) ^ i := by rw [Int.pow_succ, Int.mul_comm (128 ^ i) 128, ← Int.mul_assoc]
        rw [h2, show q % 128 + 128 - 128 = q % 128 by omega, Int.add_assoc, ← Int.add_mul, show q % 128 + q / 128 * 128 = q by omega]
      rw [e]
      simp only [List.length_cons]
      congr 2
      push_cast
      omega
theorem dec_vb (c : Int) (r : List Int) (h0 : 0 ≤ c) (h : c < 18446744073709551616) : dec (vb c ++ r) = (unzig c, ((vb c).length : Int), 0) := by
  unfold dec vb
  rw [decG_vb 9 0 0 c r rfl h0 (by simpa using h) (by omega)]
  simp
theorem decG_cut (k : Nat) : ∀ (i : Nat) (c q : Int) (j : Nat), i + k = 9 → 0 ≤ q → q < 2 * 128 ^ k → j < (vbF k q).length → decG i c ((vbF k q).take j) = (0, 0, 13) := by
  induction k with
  | zero =>
    intro i c q j hi h0 h1 hj
    obtain rfl : j = 0 := by simp [vbF] at hj; exact hj
    rfl
  | succ k ih =>
    intro i c q j hi h0 h1 hj
    rw [Int.pow_succ] at h1
    unfold vbF at hj ⊢
    split at hj
    · obtain rfl : j = 0 := by simp at hj; exact hj
      rfl
    · rename_i hge
      rw [if_neg hge]
      cases j with
      | zero => rfl
      | succ j =>
        simp only [List.take_succ_cons, decG]
        rw [if_neg (by omega), if_neg (by omega)]
        exact ih (i + 1) _ (q / 128) j (by omega) (by omega) (by omega) (by simpa using hj)
theorem dec_cut (c : Int) (j : Nat) (h0 : 0 ≤ c) (h : c < 18446744073709551616) (hj : j < (vb c).length) : dec ((vb c).take j) = (0, 0, 13) := decG_cut 9 0 0 c j rfl h0 (by simpa using h) hj
theorem decG_form : ∀ (l : List Int) (i : Nat) (c x n : Int), (∀ y ∈ l, 0 ≤ y ∧ y < 256) → i ≤ 9 → decG i c l = (x, n, 0) →
    ∃ q : Int, 0 ≤ q ∧ q < 2 * 128 ^ (9 - i) ∧ (0 < i → 0 < q) ∧ x = unzig (c + q * 128 ^ i) ∧ n = (i : Int) + (vbF (9 - i) q).length ∧ (vbF (9 - i) q).length ≤ l.length ∧ l.take (vbF (9 - i) q).length = vbF (9 - i) q
  | [], i, c, x, n, _, _, h => by simp [decG] at h
  | y :: r, i, c, x, n, hb, hi, h => by
    have hy := hb y (by simp)
    simp only [decG] at h
    split at h
    · simp at h
    · split at h
      · rename_i h1 h2
        simp only [Prod.mk.injEq] at h
        have hv : vbF (9 - i) y = [y] := by
          rcases Nat.eq_zero_or_pos (9 - i) with e | e
          · rw [e]; rfl
          · obtain ⟨m, hm⟩ : ∃ m, 9 - i = m + 1 := ⟨9 - i - 1, by omega⟩
            rw [hm]; simp only [vbF]; rw [if_pos h2]
        refine ⟨y, hy.1, ?_, by omega, h.1.symm, by rw [hv]; simp; omega, by rw [hv]; simp, by rw [hv]; rfl⟩
        rcases Nat.eq_zero_or_pos (9 - i) with e | e
        · rw [e]; have : i = 9 := by omega
          simp; omega
        · obtain ⟨m, hm⟩ : ∃ m, 9 - i = m + 1 := ⟨9 - i - 1, by omega⟩
          rw [hm, Int.pow_succ]
          have : (1 : Int) ≤ 128 ^ m := Int.pow_pos (by omega)
          omega
      · rename_i h1 h2
        have hi9 : i < 9 := by omega
        obtain ⟨q, q0, q1, q2, rfl, rfl, ql, qt⟩ := decG_form r (i + 1) _ x n (fun z hz => hb z (by simp [hz])) (by omega) h
        obtain ⟨m, hm⟩ : ∃ m, 9 - i = m + 1 := ⟨9 - i - 1, by omega⟩
        have hm' : 9 - (i + 1) = m := by omega
        rw [hm'] at q1 ql qt ⊢
        have hv : vbF (9 - i) ((y - 128) + q * 128) = y :: vbF m q := by
          rw [hm]; simp only [vbF]
          have := q2 (by omega)
          rw [if_neg (by omega), show (y - 128 + q * 128) % 128 + 128 = y by omega, show (y - 128 + q * 128) / 128 = q by omega]
        refine ⟨(y - 128) + q * 128, by omega, ?_, ?_, ?_, ?_, ?_, ?_⟩
        · rw [hm, Int.pow_succ]; omega
        · intro _; have := q2 (by omega); omega
        · congr 1
          have h3 : q * 128 ^ (i + 1) = (q * 128) * (128 : Int) ^ i := by rw [Int.pow_succ, Int.mul_comm (128 ^ i) 128, ← Int.mul_assoc]
          rw [h3, Int.add_assoc, ← Int.add_mul]
        · rw [hv]; simp only [List.length_cons]; push_cast; omega
        · rw [hv]; simp only [List.length_cons]; omega
        · rw [hv]; simp only [List.length_cons, List.take_succ_cons]; rw [qt]
theorem dec_form (l : List Int) (x n : Int) (hb : ∀ y ∈ l, 0 ≤ y ∧ y < 256) (h : dec l = (x, n, 0)) :
    n = (vb (zig x)).length ∧ (vb (zig x)).length ≤ l.length ∧ l.take (vb (zig x)).length = vb (zig x) ∧ -9223372036854775808 ≤ x ∧ x ≤ 9223372036854775807 := by
  obtain ⟨q, q0, q1, _, hx, hn, ql, qt⟩ := decG_form l 0 0 x n hb (by omega) h
  have e : zig x = q := by rw [hx]; simp [zig_unzig q q0]
  have hr := unzig_range q q0 (by simpa using q1)
  have hx' : x = unzig q := by rw [hx]; simp
  unfold vb
  rw [e]
  refine ⟨by simpa using hn, ql, qt, by omega, by omega⟩
theorem decG_cases : ∀ (l : List Int) (i : Nat) (c : Int), i ≤ 9 → (∃ x n, decG i c l = (x, n, 0) ∧ (i : Int) < n ∧ n ≤ i + l.length ∧ n ≤ 10) ∨ decG i c l = (0, 0, 12) ∨ decG i c l = (0, 0, 13)
  | [], i, c, hi => .inr (.inr rfl)
  | y :: r, i, c, hi => by
    simp only [decG]
    split
    · exact .inr (.inl rfl)
    · split
      · exact .inl ⟨_, _, rfl, by omega, by simp only [List.length_cons]; push_cast; omega, by omega⟩
      · rename_i h1 h2
        rcases decG_cases r (i + 1) (c + (y - 128) * 128 ^ i) (by omega) with ⟨x, n, h, ha, hb, hc⟩ | h | h
        · exact .inl ⟨x, n, h, by push_cast at ha; omega, by simp only [List.length_cons]; push_cast at hb ⊢; omega, hc⟩
        · exact .inr (.inl h)
        · exact .inr (.inr h)
theorem dec_cases (l : List Int) : (∃ x n, dec l = (x, n, 0) ∧ 0 < n ∧ n ≤ l.length ∧ n ≤ 10) ∨ dec l = (0, 0, 12) ∨ dec l = (0, 0, 13) := by
  rcases decG_cases l 0 0 (by omega) with ⟨x, n, h, h1, h2, h3⟩ | h
  · exact .inl ⟨x, n, h, by simpa using h1, by simpa using h2, h3⟩
  · exact .inr h
def within (least most : Int) (l : List Int) : Int × Int × Int := if (dec l).2.2 = 0 ∧ ((dec l).1 < least ∨ most < (dec l).1) then ((dec l).1, (dec l).2.1, 12) else dec l
def rStep (t : Int × Int × Int) (l : List Int) : Int × List Int × Int := if t.2.2 = 0 then (t.1, l.drop t.2.1.toNat, 0) else (0, l, t.2.2)
def rNum (l : List Int) (e : Int) : Int × List Int × Int := if e = 0 then rStep (dec l) l else (0, l, e)
def rInt (least most : Int) (l : List Int) (e : Int) : Int × List Int × Int := if e = 0 then rStep (within least most l) l else (0, l, e)
def textOf (most : Int) (l : List Int) : List Int × Int × Int :=
  let t := within 0 most l
  if t.2.2 = 0 then (if t.1 ≤ l.length - t.2.1 then ((l.drop t.2.1.toNat).take t.1.toNat, t.2.1 + t.1, 0) else ([], 0, 13)) else ([], 0, t.2.2)
def rText (most : Int) (l : List Int) (e : Int) : List Int × List Int × Int := if e = 0 then (if (textOf most l).2.2 = 0 then ((textOf most l).1, l.drop (textOf most l).2.1.toNat, 0) else ([], l, (textOf most l).2.2)) else ([], l, e)
def rEnd (l : List Int) (e : Int) : Int := if e = 0 ∧ l ≠ [] then 12 else e
end Go.Proofs.Ytldohapdhljoaaa.Wire
namespace Go.Proofs.Ytldohapdhljoaaa.Wire
open Go.RowKit Go.Proofs.YtldohapdhljoaaaW.PrintWords Go.Proofs.Ytldohapdhljoaaa.Obj
set_option linter.unusedVariables false
set_option maxRecDepth 100000
variable {TY : TypeId}
def wrA (T : TypeId) (g : Nat) (xs : List Int) : Asr where
  holds := fun w S => ∃ v, w.heap[g]? = some (.cells #[v] T (0, 0)) ∧ w.ownsRow 0 5 1 v xs.length (nums .u8 xs) ∧ S g ∧ (∀ k, v.ownBlock = some k → S k ∧ k ≠ g)
  keep := fun {w w' S} h ⟨v, h1, h2, h3, h4⟩ => ⟨v, (h g h3).trans h1, own_move h2 (fun k hk => h k (h4 k hk).1), h3, h4⟩
theorem xor_ones (a : Nat) (h : a < 18446744073709551616) : a ^^^ 18446744073709551615 = 18446744073709551615 - a := by
  have e := congrArg BitVec.toNat (BitVec.xor_allOnes (x := BitVec.ofNat 64 a))
  rw [BitVec.toNat_xor, BitVec.toNat_not, BitVec.toNat_allOnes, BitVec.toNat_ofNat, Nat.mod_eq_of_lt (by simpa using h)] at e
  simpa using e
theorem zig_bits (n : Int) (h0 : -9223372036854775808 ≤ n) (h1 : n ≤ 9223372036854775807) : bits .xor .u64 (IntKind.u64.wrap (IntKind.u64.wrap n * 2)) (IntKind.u64.wrap (n / 9223372036854775808)) = zig n := by
  have hw : ∀ m, IntKind.u64.wrap m = m % 18446744073709551616 := fun m => by simp [IntKind.wrap, IntKind.bits, IntKind.signed]
  simp only [hw]
  by_cases h : 0 ≤ n
  · rw [show n / 9223372036854775808 = 0 by omega, show n % 18446744073709551616 * 2 % 18446744073709551616 = 2 * n by omega]
    have e := u64_xor_nat (2 * n).toNat 0 (by omega) (by omega)
    rw [Int.toNat_of_nonneg (by omega)] at e
    simp only [Nat.xor_zero, Int.toNat_of_nonneg (show 0 ≤ 2 * n by omega)] at e
    unfold zig
    rw [if_pos h]
    exact e
  · rw [show n / 9223372036854775808 = -1 by omega, show n % 18446744073709551616 * 2 % 18446744073709551616 = 2 * n + 18446744073709551616 by omega, show (-1 : Int) % 18446744073709551616 = 18446744073709551615 by decide]
    have e := u64_xor_nat (2 * n + 18446744073709551616).toNat 18446744073709551615 (by omega) (by omega)
    rw [Int.toNat_of_nonneg (by omega), xor_ones _ (by omega)] at e
    unfold zig
    rw [if_neg h]
    refine e.trans ?_
    omega
theorem info5 : (Try.prog.info? 5).map (fun i => (i.zero, i.size, i.bytes)) = some (some (.int .u8 0), 1, 1) := by kernel_rfl
theorem byte_or (q : Int) (h0 : 0 ≤ q) : bits .or .u8 (q % 256) 128 = q % 128 + 128 := by
  have e := u8_or_nat (q % 256).toNat 128 (by omega) (by omega)
  rw [Int.toNat_of_nonneg (by omega)] at e
  refine e.trans ?_
  have h1 : (q % 256).toNat ||| 128 = (q % 128).toNat + 128 := by
    rcases (show (q % 256).toNat < 128 ∨ 128 ≤ (q % 256).toNat from by omega) with hlt | hge
    · have := nat_join 7 128 (q % 256).toNat (by decide) (by omega)
      rw [Nat.or_comm, this, show (q % 128).toNat = (q % 256).toNat by omega]; omega
    · have h2 := nat_join 7 128 (q % 128).toNat (by decide) (by omega)
      have h3 : (q % 256).toNat = 128 ||| (q % 128).toNat := by rw [h2]; omega
      rw [h3, Nat.or_comm, ← Nat.or_assoc, Nat.or_self, h2]; omega
  rw [h1]
  push_cast
  omega
theorem wr_put {T : TypeId} {g : Nat} {ys zs : List Int} {S S1 : Nat → Prop} {w wx wa w1 : World} {v v1 : Value} (hch : Ch S w wx) (hm : More S w S1 wx) (hg : wx.heap[g]? = some (.cells #[v] T (0, 0))) (hS1 : S1 g) (hv : ∀ k, v.ownBlock = some k → S1 k ∧ k ≠ g)
    (hb : Below wx.heap.size wx wa) (hgrow : wa.grownBy w1 v.ownBlock) (hown1 : w1.ownsRow 0 5 1 v1 (ys.length + zs.length) (nums .u8 ys ++ nums .u8 zs)) (hat : v1.ownBlock = v.ownBlock ∨ v1.ownBlock = some wa.heap.size) :
    w1.heap[g]? = some (.cells #[v] T (0, 0)) ∧ Upd (wrA T g (ys ++ zs)) S w (w1.setCell ⟨g, 0, none⟩ v1) := by
  have hlt : g < wx.heap.size := (Array.getElem?_eq_some_iff.1 hg).1
  have hne : some g ≠ v.ownBlock := fun e => (hv g e.symm).2 rfl
  have e1 : w1.heap[g]? = some (.cells #[v] T (0, 0)) := (hgrow.block g (Nat.lt_of_lt_of_le hlt hb.size) hne).trans ((hb.block g hlt).trans hg)
  have hv1 : ∀ k, v1.ownBlock = some k → k ≠ g := fun k hk => by
    rcases hat with h | h
    · exact (hv k (h.symm.trans hk)).2
    · rw [h] at hk; injection hk with hk; have := hb.size; omega
  have hc1 : Ch S w w1 := (hch.trans (Ch.ofBelow hb) (S' := fun _ => False) (fun _ h => h.elim)).grown hgrow (fun k hk => hm.1 k (hv k hk).1)
  refine ⟨e1, hc1.setCell (hm.1 g hS1) _, fun k => S1 k ∨ (wx.heap.size ≤ k ∧ k < w1.heap.size), ⟨fun k hk => ?_, fun k hk => ?_⟩, v1, ?_, ?_, .inl hS1, fun k hk => ⟨?_, hv1 k hk⟩⟩
  · rcases hk with h | h
    · exact hm.1 k h
    · exact .inr (Nat.le_trans hch.size h.1)
  · rw [show (w1.setCell ⟨g, 0, none⟩ v1).heap.size = w1.heap.size by simp [World.setCell]]
    rcases hk with h | h
    · exact Nat.lt_of_lt_of_le (hm.2 k h) (Nat.le_trans hb.size hgrow.size)
    · exact h.2
  · simp only [World.setCell, Array.getElem?_modify, e1]
    simp
  · rw [List.length_append, nums_append]
    exact own_move hown1 (fun k hk => Below.heap_setCell w1 ⟨g, 0, none⟩ v1 k (hv1 k hk))
  · rcases hat with h | h
    · exact .inl (hv k (h.symm.trans hk)).1
    · rw [h] at hk; injection hk with hk; subst hk
      refine .inr ⟨hb.size, ?_⟩
      exact own_lt hown1 _ h
set_option maxHeartbeats 1000000 in
theorem wnum_calls (g : Nat) (xs : List Int) (n : Int) (w : World) (S : Nat → Prop) (hA : (wrA TY g xs).holds w S) (hS : ∀ k, S k → k < w.heap.size) (h0 : -9223372036854775808 ≤ n) (h1 : n ≤ 9223372036854775807) (hl : xs.length ≤ 1000000000) :
    Calls Try.prog 90 #[.pointer (some ⟨g, 0, none⟩), .int .i64 n] w fun e w' => e = .returned (.tuple #[]) ∧ Upd (wrA TY g (xs ++ vb (zig n))) S w w' := by
  have hu41 := Try.underlying77
  have hu22 := Try.underlying28
  obtain ⟨i0, hi, hz0, hz1, hz2⟩ := info_parts info5
  have upd0 := Upd.refl0 hA hS
  clear hA hS
  have HZ := Lib.hid (zig_bits n h0 h1)
  have z0 := zig_nonneg n
  have z1 := Aside0.mk (show zig n < 2 * 128 ^ 9 by simpa using zig_lt n h0 h1)
  clear h0 h1
  go_enter Try.func90, Try.ntmps90
  go_wp2
  rw [HZ.out]
  go_loopg [4] 9 (fun gk s4 wx => ∃ (q : Int) (ys : List Int), s4 = .int .u64 q ∧ 0 ≤ q ∧ Aside0 (q < 2 * 128 ^ gk) ∧ ys.length + gk ≤ xs.length + 9 ∧ Aside0 (ys ++ vbF gk q = xs ++ vb (zig n)) ∧ Aside0 (Upd (wrA TY g ys) S w wx))
  case atStart => exact ⟨_, xs, rfl, z0, z1, by omega, ⟨rfl⟩, ⟨upd0⟩⟩
  case round =>
    obtain ⟨q, ys, rfl, q0, Q1, hys, QE, HU⟩ := hrel
    obtain ⟨hch, S1, hm, v, hg, ho, hS1, hv⟩ := HU.out
    have hc : wr.cell? ⟨g, 0, none⟩ = some v := by simp [World.cell?, hg]
    have HCH := Aside0.mk hch
    have HM := Aside0.mk hm
    have HG := Aside0.mk hg
    have HO := Aside0.mk ho
    have HS1 := Aside0.mk hS1
    have HV := Aside0.mk hv
    clear hch hm hg ho hS1 hv HU
    by_cases hq : 128 ≤ q
    · cases gk with
      | zero => have := Q1.out; exfalso; simp at this; omega
      | succ k =>
        go_wp2_with (at_builtin; refine wpList_append_own_at _ rfl _ _ 28 rfl 0 5 i0 (.int .u8 0) 1 1 hu22 hi hz0 hz1 hz2 rfl (by decide) v ys.length (nums .u8 ys) rfl (pw_own_below HO.out (below_alloc (Below.refl _ _) _)) ⟨wr.heap.size, 0, none⟩ 1 1 [.int .u8 (bits BinOp.or .u8 (q % 256) 128)] rfl rfl (cell_one_new _ _ _) (by simp [Value.oneCell']) (by unfold maxLen; omega) (by omega) (Nat.zero_le _) ?_; intro v1 w1 hown hgrow _ hat; obtain ⟨A1, c1, rfl⟩ := own_slice hown; obtain ⟨e1, hU⟩ := wr_put (zs := [q % 128 + 128]) HCH.out HM.out HG.out HS1.out HV.out (below_alloc (Below.refl _ _) _) hgrow (by first | exact hown | (rw [byte_or q q0] at hown; exact hown)) hat; have hc1 : w1.cell? ⟨g, 0, none⟩ = some v := (by simp [World.cell?, e1]); have hf1 : w1.frozen? ⟨g, 0, none⟩ = false := (by simp [World.frozen?, e1]); have HU1 := Aside0.mk hU; clear e1 hU hown hgrow hat)
        go_roundg k
        case rel =>
          have h2 := Q1.out
          rw [Int.pow_succ] at h2
          refine ⟨q / 128, ys ++ [q % 128 + 128], rfl, by omega, ⟨by omega⟩, by simp; omega, ⟨?_⟩, HU1⟩
          rw [← QE.out, List.append_assoc]
          congr 1
          simp only [vbF]
          rw [if_neg (by omega)]
          rfl
        case measure => omega
    · go_wp2_with (at_builtin; refine wpList_append_own_at _ rfl _ _ 28 rfl 0 5 i0 (.int .u8 0) 1 1 hu22 hi hz0 hz1 hz2 rfl (by decide) v ys.length (nums .u8 ys) rfl (pw_own_below HO.out (below_alloc (Below.refl _ _) _)) ⟨wr.heap.size, 0, none⟩ 1 1 [.int .u8 (q)] rfl rfl (cell_one_new _ _ _) (by simp [Value.oneCell']) (by unfold maxLen; omega) (by omega) (Nat.zero_le _) ?_; intro v1 w1 hown hgrow _ hat; obtain ⟨A1, c1, rfl⟩ := own_slice hown; obtain ⟨e1, hU⟩ := wr_put (zs := [q]) HCH.out HM.out HG.out HS1.out HV.out (below_alloc (Below.refl _ _) _) hgrow (by first | exact hown | (rw [byte_or q q0] at hown; exact hown)) hat; have hc1 : w1.cell? ⟨g, 0, none⟩ = some v := (by simp [World.cell?, e1]); have hf1 : w1.frozen? ⟨g, 0, none⟩ = false := (by simp [World.frozen?, e1]); have HU1 := Aside0.mk hU; clear e1 hU hown hgrow hat)
      go_end0
      refine ⟨rfl, ?_⟩
      have h3 : vbF gk q = [q] := by
        cases gk with
        | zero => rfl
        | succ k => simp only [vbF]; rw [if_pos (by omega)]
      rw [← QE.out, h3]
      exact HU1.out
end Go.Proofs.Ytldohapdhljoaaa.Wire
namespace Go.Proofs.Ytldohapdhljoaaa.Wire
open Go.RowKit Go.Proofs.YtldohapdhljoaaaW.PrintWords Go.Proofs.Ytldohapdhljoaaa.Obj
set_option linter.unusedVariables false
set_option maxRecDepth 100000
variable {TY : TypeId}
theorem wr_put2 {T : TypeId} {g : Nat} {ys zs : List Int} {S S1 : Nat → Prop} {w wx wa w1 : World} {v v1 : Value} (hch : Ch S w wx) (hm : More S w S1 wx) (hg : wx.heap[g]? = some (.cells #[v] T (0, 0))) (hS1 : S1 g) (hv : ∀ k, v.ownBlock = some k → S1 k ∧ k ≠ g)
    (hb : Below wx.heap.size wx wa) (hgrow : wa.grownBy w1 v.ownBlock) (hown1 : w1.ownsRow 0 5 1 v1 (ys ++ zs).length (nums .u8 (ys ++ zs))) (hat : v1.ownBlock = v.ownBlock ∨ ∃ b, v1.ownBlock = some b ∧ wa.heap.size ≤ b) :
    w1.heap[g]? = some (.cells #[v] T (0, 0)) ∧ Upd (wrA T g (ys ++ zs)) S w (w1.setCell ⟨g, 0, none⟩ v1) := by
  have hlt : g < wx.heap.size := (Array.getElem?_eq_some_iff.1 hg).1
  have hne : some g ≠ v.ownBlock := fun e => (hv g e.symm).2 rfl
  have e1 : w1.heap[g]? = some (.cells #[v] T (0, 0)) := (hgrow.block g (Nat.lt_of_lt_of_le hlt hb.size) hne).trans ((hb.block g hlt).trans hg)
  have hv1 : ∀ k, v1.ownBlock = some k → k ≠ g := fun k hk => by
    rcases hat with h | ⟨b, h, hb'⟩
    · exact (hv k (h.symm.trans hk)).2
    · rw [h] at hk; injection hk with hk; have := hb.size; omega
  have hc1 : Ch S w w1 := (hch.trans (Ch.ofBelow hb) (S' := fun _ => False) (fun _ h => h.elim)).grown hgrow (fun k hk => hm.1 k (hv k hk).1)
  refine ⟨e1, hc1.setCell (hm.1 g hS1) _, fun k => S1 k ∨ (wx.heap.size ≤ k ∧ k < w1.heap.size), ⟨fun k hk => ?_, fun k hk => ?_⟩, v1, ?_, ?_, .inl hS1, fun k hk => ⟨?_, hv1 k hk⟩⟩
  · rcases hk with h | h
    · exact hm.1 k h
    · exact .inr (Nat.le_trans hch.size h.1)
  · rw [show (w1.setCell ⟨g, 0, none⟩ v1).heap.size = w1.heap.size by simp [World.setCell]]
    rcases hk with h | h
    · exact Nat.lt_of_lt_of_le (hm.2 k h) (Nat.le_trans hb.size hgrow.size)
    · exact h.2
  · simp only [World.setCell, Array.getElem?_modify, e1]
    simp
  · exact own_move hown1 (fun k hk => Below.heap_setCell w1 ⟨g, 0, none⟩ v1 k (hv1 k hk))
  · rcases hat with h | ⟨b, h, hb'⟩
    · exact .inl (hv k (h.symm.trans hk)).1
    · rw [h] at hk; injection hk with hk; subst hk
      exact .inr ⟨Nat.le_trans hb.size hb', own_lt hown1 _ h⟩
def RB (w : World) (T : Nat → Prop) (A : Option Addr) (l : List Int) : Prop := Foot (fun W => ReadsInt W .u8 A l.length l) w T
theorem RB.now {w : World} {T : Nat → Prop} {A : Option Addr} {l : List Int} (h : RB w T A l) : ReadsInt w .u8 A l.length l := Foot.now h
theorem RB.ch {w w' : World} {T S : Nat → Prop} {A : Option Addr} {l : List Int} (h : RB w T A l) (hc : Ch S w w') (hd : ∀ k, T k → ¬ S k) : RB w' T A l := Foot.step h (fun k hk hlt => hc.block k hlt (hd k hk))
theorem reads_block {w w' : World} {A : Option Addr} {l : List Int} (h : ReadsInt w .u8 A l.length l) (hb : ∀ ad, A = some ad → 0 < l.length → w'.heap[ad.block]? = w.heap[ad.block]?) : ReadsInt w' .u8 A l.length l := by
  refine ⟨h.1, h.2.1, fun hn => ?_⟩
  obtain ⟨ad, e, hc⟩ := h.2.2 hn
  refine ⟨ad, e, fun j hj => ?_⟩
  have e2 : (ad.add j).block = ad.block := by unfold Addr.add; split <;> rfl
  rw [← hc j hj]
  exact World.cell?_of_block (by rw [e2]; exact hb ad e hn)
theorem RB.mk {w : World} {A : Option Addr} {l : List Int} {T : Nat → Prop} (h : ReadsInt w .u8 A l.length l) (hT : ∀ ad, A = some ad → 0 < l.length → T ad.block) : RB w T A l := fun W' hW => by
  refine reads_block h (fun ad e hn => hW _ (hT ad e hn) ?_)
  obtain ⟨ad', e', hc⟩ := h.2.2 hn
  obtain rfl : ad = ad' := by rw [e] at e'; injection e'
  have e2 : (ad.add 0).block = ad.block := by unfold Addr.add; split <;> rfl
  have := World.block_lt_of_cell? w _ (hc 0 hn)
  omega
theorem RB.old {w : World} {A : Option Addr} {l : List Int} (h : ReadsInt w .u8 A l.length l) : RB w (fun k => k < w.heap.size) A l := RB.mk h (fun ad e hn => by
  obtain ⟨ad', e', hc⟩ := h.2.2 hn
  obtain rfl : ad = ad' := by rw [e] at e'; injection e'
  have e2 : (ad.add 0).block = ad.block := by unfold Addr.add; split <;> rfl
  have := World.block_lt_of_cell? w _ (hc 0 hn)
  omega)
theorem info5' : (Try.prog.info? 5).map (fun i => (i.zero, i.size, i.bytes)) = some (some (.int .u8 0), 1, 1) := by kernel_rfl
set_option maxHeartbeats 1000000 in
theorem clone_calls (A : Option Addr) (c : Nat) (l : List Int) (w : World) (hR : ReadsInt w .u8 A l.length l) (hl : l.length ≤ 140737488351232) :
    Calls Try.prog 52 #[.slice A l.length c] w fun e w' => ∃ v, e = .returned v ∧ w'.ownsRow w.heap.size 5 1 v l.length (nums .u8 l) ∧ Below w.heap.size w w' := by
  have hu22 := Try.underlying28
  have hne := fun (w : World) (a : Option Addr) (n c : Nat) => Lib.run_eql_slice_nil (P := Try.prog) w 28 5 a n c 0 0 hu22
  have HR := Aside0.mk hR
  have hmax := hR.2.1
  cases A with
  | none =>
    have h0 : l = [] := by
      rcases Nat.eq_zero_or_pos l.length with h | h
      · exact List.eq_nil_of_length_eq_zero h
      · obtain ⟨ad, h', _⟩ := hR.2.2 h
        cases h'
    subst h0
    clear hR
    go_enter Try.func52, Try.ntmps52
    go_wp2
    go_ret
    exact ⟨_, rfl, own_nil _ _ _ _, Below.refl _ _⟩
  | some ad =>
    clear hR
    go_enter Try.func52, Try.ntmps52
    go_wp2_with (at_builtin; refine print_append_row (w0 := w) w.heap.size rfl _ _ 28 5 .u8 1 rfl hu22 info5' (by decide) (.slice (some ⟨w.heap.size, 0, none⟩) 0 0) [] l (some ad) l.length c rfl rfl (own_lit w w.heap.size 5 .u8 [] (Nat.le_refl _) (by simp)) (HR.out.allocS _) (below_alloc (Below.refl _ _) _) (by simp) (by simp; omega) ?_; intro v1 w1 hown hb hg hat; obtain ⟨A1, c1, rfl⟩ := own_slice hown; have HO := Aside0.mk hown; have HB := Aside0.mk hb; clear hown hb hg hat)
    go_ret
    exact ⟨_, rfl, HO.out, HB.out⟩
set_option maxHeartbeats 1000000 in
theorem wtext_calls (g : Nat) (xs : List Int) (A : Option Addr) (c : Nat) (l : List Int) (w : World) (S T : Nat → Prop) (hA : (wrA TY g xs).holds w S) (hS : ∀ k, S k → k < w.heap.size) (hR : RB w T A l) (hd : ∀ k, T k → ¬ S k) (hl : xs.length + l.length ≤ 999999990) :
    Calls Try.prog 94 #[.pointer (some ⟨g, 0, none⟩), .slice A l.length c] w fun e w' => e = .returned (.tuple #[]) ∧ Upd (wrA TY g ((xs ++ vb (zig l.length)) ++ l)) S w w' := by
  have hu41 := Try.underlying77
  have hu22 := Try.underlying28
  have HR := Aside0.mk hR
  have HS := Aside0.mk hS
  have HD := Aside0.mk hd
  have HA := Aside0.mk hA
  have hv := (vb_len (zig l.length)).2
  clear hA hS hR hd
  go_enter Try.func94, Try.ntmps94
  go_wp2_with fail
  refine (wnum_calls g xs l.length w S HA.out HS.out (by omega) (by omega) (by omega)).mono ?_
  rintro e w1 ⟨rfl, hch, S1, hm, v, hg, ho, hS1, hv⟩
  have hc : w1.cell? ⟨g, 0, none⟩ = some v := by simp [World.cell?, hg]
  have HR1 := Aside0.mk (HR.out.ch hch HD.out).now
  have HCH := Aside0.mk hch
  have HM := Aside0.mk hm
  have HG := Aside0.mk hg
  have HO := Aside0.mk ho
  have HS1 := Aside0.mk hS1
  have HV := Aside0.mk hv
  clear hch hm hg ho hS1 hv
  go_wp2_with (at_builtin; refine print_append_row (w0 := w1) 0 rfl _ _ 28 5 .u8 1 rfl hu22 info5' (by decide) v (xs ++ vb (zig l.length)) l A l.length c rfl rfl HO.out HR1.out (Below.refl _ _) (Nat.zero_le _) (by simp; omega) ?_; intro v1 w2 hown _ hgrow hat; obtain ⟨A1, c1, rfl⟩ := own_slice hown; obtain ⟨e1, hU⟩ := wr_put2 HCH.out HM.out HG.out HS1.out HV.out (Below.refl _ _) hgrow hown hat; have hc1 : w2.cell? ⟨g, 0, none⟩ = some v := (by simp [World.cell?, e1]); have hf1 : w2.frozen? ⟨g, 0, none⟩ = false := (by simp [World.frozen?, e1]); have HU1 := Aside0.mk hU; clear e1 hU hown hgrow hat)
  go_end0
  refine ⟨rfl, ?_⟩
  have h := HU1.out
  rw [show (xs ++ vb (zig l.length) ++ l).length = xs.length + ((vb (zig l.length)).length + l.length) from by simp] at h
  exact h
set_option maxHeartbeats 1000000 in
theorem wbytes_calls (g : Nat) (xs : List Int) (w : World) (S : Nat → Prop) (hA : (wrA TY g xs).holds w S) (hl : xs.length ≤ 2000000000) :
    Calls Try.prog 47 #[.pointer (some ⟨g, 0, none⟩)] w fun e w' => ∃ v, e = .returned v ∧ w'.ownsRow w.heap.size 5 1 v xs.length (nums .u8 xs) ∧ Below w.heap.size w w' := by
  have hu41 := Try.underlying77
  have hu22 := Try.underlying28
  obtain ⟨v, hg, ho, hS1, hv⟩ := hA
  obtain ⟨A, c, rfl, hr⟩ := own_reads ho
  have hc : w.cell? ⟨g, 0, none⟩ = some (.slice A xs.length c) := by simp [World.cell?, hg]
  have hc2 : (w.alloc (.cells #[] 5)).cell? ⟨g, 0, none⟩ = some (.slice A xs.length c) := pw_cell_below (below_alloc (Below.refl _ _) _) hc
  have HR := Aside0.mk hr
  clear hg ho hS1 hv hr
  go_enter Try.func47, Try.ntmps47
  go_wp2_with (go_at_call 52; refine (clone_calls A c xs w HR.out (by omega)).mono ?_; rintro e w1 ⟨v1, rfl, hown, hb⟩; have HO := Aside0.mk hown; have HB := Aside0.mk hb; clear hown hb)
  go_ret
  exact ⟨_, rfl, HO.out, HB.out⟩
end Go.Proofs.Ytldohapdhljoaaa.Wire
namespace Go.Proofs.Ytldohapdhljoaaa.Wire
open Go.RowKit Go.Proofs.YtldohapdhljoaaaW.PrintWords Go.Proofs.Ytldohapdhljoaaa.Obj
set_option linter.unusedVariables false
set_option maxRecDepth 100000
def rdA (g : Nat) (l : List Int) (e : Int) : Asr where
  holds := fun w S => ∃ A c, w.heap[g]? = some (.cells #[.slice A l.length c, .int .i64 e] 90 (0, 0)) ∧ l.length ≤ c ∧ RB w (fun k => S k ∧ k ≠ g) A l ∧ S g
  keep := fun {w w' S} h ⟨A, c, h1, h2, h3, h4⟩ => ⟨A, c, (h g h4).trans h1, h2, Foot.step h3 (fun k hk _ => h k hk.1), h4⟩
set_option maxHeartbeats 1000000 in
theorem newReader_calls (A : Option Addr) (c : Nat) (l : List Int) (w : World) (hR : ReadsInt w .u8 A l.length l) (hl : l.length ≤ 140737488351232) :
    Calls Try.prog 24 #[.slice A l.length c] w fun e w' => ∃ g, e = .returned (.pointer (some ⟨g, 0, none⟩)) ∧ One (rdA g l 0) w.heap.size w' ∧ Below w.heap.size w w' := by
  have hu56 := Try.underlying90
  have HR := Aside0.mk hR
  clear hR
  go_enter Try.func24, Try.ntmps24
  go_wp2_with (go_at_call 52; refine (clone_calls A c l w HR.out hl).mono ?_; rintro e w1 ⟨v1, rfl, hown, hb⟩; obtain ⟨A1, c1, rfl⟩ := own_slice hown; have HO := Aside0.mk hown; have HB := Aside0.mk hb; clear hown hb)
  go_ret
  have ho := HO.out
  have hb := HB.out
  have hr := own_reads' ho
  have hlc : l.length ≤ c1 := by
    rcases ho.2 with ⟨h, h'⟩ | ⟨g, cap, cur, h, _, _, h1, _⟩
    · omega
    · injection h with _ _ h; omega
  have hlt : ∀ ad, A1 = some ad → w.heap.size ≤ ad.block ∧ ad.block < w1.heap.size := fun ad e => ⟨own_base ho _ (by rw [e]; rfl), own_lt ho _ (by rw [e]; rfl)⟩
  refine ⟨w1.heap.size, rfl, ⟨fun k => w.heap.size ≤ k ∧ k < w1.heap.size + 1, fun k hk => ⟨hk.1, by simpa using hk.2⟩, A1, c1, heap_alloc_new w1 _, hlc, ?_, ⟨hb.size, by omega⟩⟩, below_alloc hb _⟩
  refine RB.mk (hr.below (below_alloc (Below.refl _ _) _)) (fun ad e _ => ?_)
  have := hlt ad e
  exact ⟨⟨this.1, by omega⟩, by omega⟩
theorem dec_step {l : List Int} {k : Nat} (h : k < l.length) (q : Int) : decG k q (l.drop k) = if k = 9 ∧ 1 < rd l k ∨ 0 < k ∧ rd l k = 0 then (0, 0, 12) else if rd l k < 128 then (unzig (q + rd l k * 128 ^ k), (k : Int) + 1, 0) else decG (k + 1) (q + (rd l k - 128) * 128 ^ k) (l.drop (k + 1)) := by
  rw [List.drop_eq_getElem_cons h]
  have e : l[k] = rd l k := by simp [rd, List.getD_eq_getElem?_getD, List.getElem?_eq_getElem h]
  rw [e]
  rfl
theorem u64w (m : Int) : IntKind.u64.wrap m = m % 18446744073709551616 := by simp [IntKind.wrap, IntKind.bits, IntKind.signed]
theorem pow128_le {k : Nat} (h : k ≤ 8) : (128 : Nat) ^ k ≤ 128 ^ 8 := Nat.pow_le_pow_right (by omega) h
theorem or_step (q x : Int) (k : Nat) (q0 : 0 ≤ q) (hq : q < 128 ^ k) (x0 : 0 ≤ x) (x1 : x < 256) (hk : k ≤ 9) (h9 : k = 9 → x ≤ 1) : bits BinOp.or IntKind.u64 q (IntKind.u64.wrap (IntKind.u64.wrap (bits BinOp.andNot IntKind.u8 x 128) * 2 ^ (7 * k))) = q + x % 128 * 128 ^ k ∧ q + x % 128 * 128 ^ k < 18446744073709551616 := by
  obtain ⟨qn, rfl⟩ := Int.eq_ofNat_of_zero_le q0
  obtain ⟨xn, rfl⟩ := Int.eq_ofNat_of_zero_le x0
  have hq' : qn < 128 ^ k := by exact_mod_cast hq
  have e1 : bits BinOp.andNot IntKind.u8 (xn : Int) 128 = ((xn % 128 : Nat) : Int) := by
    have e := u8_andNot_nat xn 128 (by omega) (by omega)
    refine e.trans ?_
    rw [show 255 - 128 = 127 from rfl, nat_mask7]
  have hp : (2 : Nat) ^ (7 * k) = 128 ^ k := by rw [Nat.pow_mul]
  have hb : xn % 128 * 128 ^ k + 128 ^ k ≤ 18446744073709551616 := by
    rcases Nat.lt_or_ge k 9 with h | h
    · have h1 := pow128_le (k := k) (by omega)
      have h2 : xn % 128 * 128 ^ k + 128 ^ k ≤ 128 * 128 ^ k := by
        have : xn % 128 * 128 ^ k + 128 ^ k = (xn % 128 + 1) * 128 ^ k := by rw [Nat.add_mul, Nat.one_mul]
        rw [this]; exact Nat.mul_le_mul_right _ (by omega)
      simp only [Nat.reducePow] at h1
      omega
    · obtain rfl : k = 9 := by omega
      have := h9 rfl
      have : xn ≤ 1 := by omega
      simp only [Nat.reducePow]; omega
  have e2 : IntKind.u64.wrap (IntKind.u64.wrap ((xn % 128 : Nat) : Int) * 2 ^ (7 * k)) = ((xn % 128 * 128 ^ k : Nat) : Int) := by
    rw [u64w, u64w, show ((xn % 128 : Nat) : Int) % 18446744073709551616 = ((xn % 128 : Nat) : Int) by omega, show (2 : Int) ^ (7 * k) = ((128 ^ k : Nat) : Int) by rw [← hp]; push_cast; rfl, ← Int.natCast_mul]
    have : xn % 128 * 128 ^ k < 18446744073709551616 := by have := Nat.pow_pos (n := k) (show 0 < 128 by omega); omega
    omega
  rw [e1, e2]
  have h3 : qn < 18446744073709551616 ∧ xn % 128 * 128 ^ k < 18446744073709551616 := by
    have h0 : xn % 128 * 128 ^ k + qn < xn % 128 * 128 ^ k + 128 ^ k := by omega
    constructor
    · have : qn ≤ xn % 128 * 128 ^ k + qn := Nat.le_add_left _ _
      omega
    · omega
  have e3 := u64_or_nat qn (xn % 128 * 128 ^ k) h3.1 h3.2
  have e4 : qn ||| xn % 128 * 128 ^ k = qn + xn % 128 * 128 ^ k := by
    rw [Nat.or_comm, nat_join (7 * k) _ qn (by rw [hp, Nat.mul_mod_left]) (by rw [hp]; exact hq'), Nat.add_comm]
  rw [e3, e4]
  constructor
  · push_cast; rfl
  · have h5 : (qn : Int) + (xn : Int) % 128 * 128 ^ k = ((qn + xn % 128 * 128 ^ k : Nat) : Int) := by push_cast; rfl
    rw [h5]
    omega
theorem i64w (m : Int) (h0 : -9223372036854775808 ≤ m) (h1 : m ≤ 9223372036854775807) : wrap64 m = m := by unfold wrap64; omega
theorem xor_i64_zero (a : Int) (h0 : 0 ≤ a) (h1 : a < 9223372036854775808) : bits BinOp.xor IntKind.i64 a 0 = a := by
  show IntKind.i64.wrap ((BitVec.ofInt 64 a ^^^ BitVec.ofInt 64 0).toNat : Int) = a
  obtain ⟨n, rfl⟩ := Int.eq_ofNat_of_zero_le h0
  rw [show BitVec.ofInt 64 0 = 0#64 from rfl, BitVec.xor_zero, BitVec.ofInt_natCast, BitVec.toNat_ofNat, IntKind.wrap_i64]
  omega
theorem xor_i64_neg (a : Int) (h0 : 0 ≤ a) (h1 : a < 9223372036854775808) : bits BinOp.xor IntKind.i64 a (-1) = -a - 1 := by
  show IntKind.i64.wrap ((BitVec.ofInt 64 a ^^^ BitVec.ofInt 64 (-1)).toNat : Int) = _
  obtain ⟨n, rfl⟩ := Int.eq_ofNat_of_zero_le h0
  rw [show BitVec.ofInt 64 (-1) = BitVec.allOnes 64 from by decide, BitVec.xor_allOnes, BitVec.toNat_not, BitVec.ofInt_natCast, BitVec.toNat_ofNat, IntKind.wrap_i64]
  omega
theorem unzig_bits (q : Int) (q0 : 0 ≤ q) (q1 : q < 18446744073709551616) : bits BinOp.xor IntKind.i64 (wrap64 (q / 2)) (wrap64 (-wrap64 (bits BinOp.and IntKind.u64 q 1))) = unzig q := by
  obtain ⟨n, rfl⟩ := Int.eq_ofNat_of_zero_le q0
  have e := u64_and_nat n 1 (by omega) (by omega)
  rw [nat_mask1] at e
  rw [show (1 : Int) = ((1 : Nat) : Int) from rfl, e, i64w _ (by omega) (by omega), i64w ((n % 2 : Nat) : Int) (by omega) (by omega), i64w (-((n % 2 : Nat) : Int)) (by omega) (by omega)]
  unfold unzig
  by_cases h : (n : Int) % 2 = 0
  · rw [if_pos h, show -((n % 2 : Nat) : Int) = 0 by omega, xor_i64_zero _ (by omega) (by omega)]
  · rw [if_neg h, show -((n % 2 : Nat) : Int) = -1 by omega, xor_i64_neg _ (by omega) (by omega)]
theorem ret3 {a b c a' b' c' : Int} (h : (a, b, c) = (a', b', c')) : Ending.returned (.tuple #[.int .i64 a, .int .i64 b, .int .i64 c]) = .returned (.tuple #[.int .i64 a', .int .i64 b', .int .i64 c']) := by
  simp only [Prod.mk.injEq] at h
  rw [h.1, h.2.1, h.2.2]
set_option maxHeartbeats 2000000 in
theorem number_calls (A : Option Addr) (c : Nat) (l : List Int) (w : World) (hR : ReadsInt w .u8 A l.length l) (hc : l.length ≤ c) (hby : ∀ x ∈ l, 0 ≤ x ∧ x < 256) :
    Calls Try.prog 84 #[.slice A l.length c] w fun e w' => e = .returned (.tuple #[.int .i64 (dec l).1, .int .i64 (dec l).2.1, .int .i64 (dec l).2.2]) ∧ w = w' := by
  have hu22 := Try.underlying28
  have HR := Aside0.mk hR
  have HBY := Aside0.mk hby
  have hmax := hR.2.1
  clear hR hby
  obtain ⟨d1, d2, d3, hd⟩ : ∃ d1 d2 d3, dec l = (d1, d2, d3) := ⟨_, _, _, rfl⟩
  rw [hd]
  have HD := Aside0.mk hd
  clear hd
  by_cases h10 : l.length < 10
  · go_enter Try.func84, Try.ntmps84
    go_wp2_with fail
    go_loop [14, 5] (fun i s => ∃ (k : Nat) (q : Int), k ≤ l.length ∧ i = .int .i64 k ∧ s = .int .u64 q ∧ 0 ≤ q ∧ Aside0 (q < 128 ^ k ∧ (d1, d2, d3) = decG k q (l.drop k))) (fun i _ => l.length - (intOf i).toNat)
    case atStart => exact ⟨0, 0, Nat.zero_le _, rfl, rfl, by omega, ⟨by simp, HD.out.symm⟩⟩
    case round =>
      obtain ⟨k, q, hk, rfl, rfl, q0, HQ⟩ := hrel
      by_cases hlt : k < l.length
      · obtain ⟨ad, rfl, hcell⟩ := HR.out.at_ (k : Int) (by omega) (by omega)
        obtain ⟨x, hx⟩ : ∃ x, rd l k = x := ⟨_, rfl⟩
        have hxr : 0 ≤ x ∧ x < 256 := by
          rw [← hx]
          refine HBY.out _ ?_
          simp [rd, List.getD_eq_getElem?_getD, List.getElem?_eq_getElem (show k < l.length by omega)]
        obtain ⟨x0, x1⟩ := hxr
        rw [hx, Int.toNat_natCast] at hcell
        have hde := HQ.out.2
        rw [dec_step (show k < l.length by omega) q, hx] at hde
        have HQ1 := Aside0.mk HQ.out.1
        clear hx HQ
        by_cases c1 : k = 9 ∧ 1 < x ∨ 0 < k ∧ x = 0
        · rw [if_pos c1] at hde
          have HDE := Aside0.mk hde
          clear hde
          have kk : (((k : Int) == 9) = true ∧ 1 < x) ∨ ((((k : Int) == 9) = true ∧ ¬ 1 < x) ∨ ((k : Int) == 9) = false) ∧ 0 < k ∧ (x == 0) = true := by
            rcases c1 with ⟨h1, h2⟩ | ⟨h1, h2⟩
            · exact .inl ⟨by simp [h1], h2⟩
            · refine .inr ⟨?_, h1, by simp [h2]⟩
              by_cases h9 : k = 9
              · exact .inl ⟨by simp [h9], by omega⟩
              · exact .inr (by simp; omega)
          clear c1
          rcases kk with ⟨b1, b2⟩ | ⟨⟨b1, b2⟩ | b1, b3, b4⟩
          all_goals go_wp2_with fail
          all_goals go_ret3
          all_goals exact ⟨ret3 HDE.out.symm, rfl⟩
        · rw [if_neg c1] at hde
          have HDE := Aside0.mk hde
          clear hde
          obtain ⟨hor, hle⟩ := or_step q x k q0 HQ1.out x0 x1 (by omega) (by intro h; by_cases h2 : 1 < x; exact absurd (.inl ⟨h, h2⟩) c1; omega)
          obtain ⟨q2, hq2⟩ : ∃ q2, q + x % 128 * 128 ^ k = q2 := ⟨_, rfl⟩
          rw [hq2] at hor hle
          have HLE := Aside0.mk hle
          have HQ2 := Aside0.mk hq2
          have q20 : 0 ≤ q2 := by rw [← hq2]; have : (0 : Int) ≤ x % 128 * 128 ^ k := Int.mul_nonneg (by omega) (Int.le_of_lt (Int.pow_pos (by omega))); omega
          clear hq2 hle
          by_cases hx128 : x < 128
          · have HF := HDE.out
            rw [if_pos hx128] at HF
            have HFF := Aside0.mk HF
            clear HF
            have kk : (((k : Int) == 9) = true ∧ ¬ 1 < x ∧ 0 < k ∧ (x == 0) = false) ∨ (((k : Int) == 9) = false ∧ 0 < k ∧ (x == 0) = false) ∨ (((k : Int) == 9) = false ∧ ¬ 0 < k) := by
              by_cases h9 : k = 9
              · refine .inl ⟨by simp [h9], fun h => c1 (.inl ⟨h9, h⟩), by omega, ?_⟩
                simp; intro h; exact c1 (.inr ⟨by omega, h⟩)
              · by_cases h0 : 0 < k
                · refine .inr (.inl ⟨by simp; omega, h0, ?_⟩)
                  simp; intro h; exact c1 (.inr ⟨h0, h⟩)
                · exact .inr (.inr ⟨by simp; omega, h0⟩)
            clear c1
            rcases kk with ⟨b1, b2, b3, b4⟩ | ⟨b1, b3, b4⟩ | ⟨b1, b3⟩
            all_goals go_wp2_with fail
            all_goals go_ret3
            all_goals refine ⟨ret3 ?_, rfl⟩
            all_goals rw [HFF.out, unzig_bits q2 q20 HLE.out, ← HQ2.out, show x % 128 = x by omega]
          · have HF := HDE.out
            rw [if_neg hx128] at HF
            have HFF := Aside0.mk HF
            clear HF
            have kk : (((k : Int) == 9) = true ∧ ¬ 1 < x ∧ 0 < k ∧ (x == 0) = false) ∨ (((k : Int) == 9) = false ∧ 0 < k ∧ (x == 0) = false) ∨ (((k : Int) == 9) = false ∧ ¬ 0 < k) := by
              by_cases h9 : k = 9
              · refine .inl ⟨by simp [h9], fun h => c1 (.inl ⟨h9, h⟩), by omega, ?_⟩
                simp; intro h; exact c1 (.inr ⟨by omega, h⟩)
              · by_cases h0 : 0 < k
                · refine .inr (.inl ⟨by simp; omega, h0, ?_⟩)
                  simp; intro h; exact c1 (.inr ⟨h0, h⟩)
                · exact .inr (.inr ⟨by simp; omega, h0⟩)
            clear c1
            rcases kk with ⟨b1, b2, b3, b4⟩ | ⟨b1, b3, b4⟩ | ⟨b1, b3⟩
            · exfalso; omega
            all_goals
              go_wp2_with fail
              go_round
              case rel =>
                refine ⟨k + 1, q2, by first | omega | (have b5 : ¬ (k : Int) = 9 := (by simpa using b1); omega), by go_num, rfl, q20, ⟨?_, ?_⟩⟩
                · rw [← HQ2.out, Int.pow_succ]
                  have h6 : x % 128 * 128 ^ k + 128 ^ k = (x % 128 + 1) * (128 : Int) ^ k := by rw [Int.add_mul, Int.one_mul]
                  have h7 : (x % 128 + 1) * (128 : Int) ^ k ≤ 128 * 128 ^ k := Int.mul_le_mul_of_nonneg_right (by omega) (Int.le_of_lt (Int.pow_pos (by omega)))
                  have h8 := HQ1.out
                  have h9 : (128 : Int) ^ k * 128 = 128 * 128 ^ k := Int.mul_comm _ _
                  omega
                · rw [HFF.out, ← HQ2.out, show x % 128 = x - 128 by omega]
              case measure => simp [intOf]; omega
      · obtain rfl : k = l.length := by omega
        have HDE := Aside0.mk HQ.out.2
        clear HQ
        go_wp2_with fail
        go_ret3
        refine ⟨ret3 ?_, rfl⟩
        rw [HDE.out, List.drop_length]
        rfl
  · go_enter Try.func84, Try.ntmps84
    go_wp2_with fail
    all_goals
      go_loop [14, 5] (fun i s => ∃ (k : Nat) (q : Int), k ≤ 9 ∧ i = .int .i64 k ∧ s = .int .u64 q ∧ 0 ≤ q ∧ Aside0 (q < 128 ^ k ∧ (d1, d2, d3) = decG k q (l.drop k))) (fun i _ => 10 - (intOf i).toNat)
      case atStart => exact ⟨0, 0, Nat.zero_le _, rfl, rfl, by omega, ⟨by simp, HD.out.symm⟩⟩
      case round =>
        obtain ⟨k, q, hk, rfl, rfl, q0, HQ⟩ := hrel
        · obtain ⟨ad, rfl, hcell⟩ := HR.out.at_ (k : Int) (by omega) (by omega)
          obtain ⟨x, hx⟩ : ∃ x, rd l k = x := ⟨_, rfl⟩
          have hxr : 0 ≤ x ∧ x < 256 := by
            rw [← hx]
            refine HBY.out _ ?_
            simp [rd, List.getD_eq_getElem?_getD, List.getElem?_eq_getElem (show k < l.length by omega)]
          obtain ⟨x0, x1⟩ := hxr
          rw [hx, Int.toNat_natCast] at hcell
          have hde := HQ.out.2
          rw [dec_step (show k < l.length by omega) q, hx] at hde
          have HQ1 := Aside0.mk HQ.out.1
          clear hx HQ
          by_cases c1 : k = 9 ∧ 1 < x ∨ 0 < k ∧ x = 0
          · rw [if_pos c1] at hde
            have HDE := Aside0.mk hde
            clear hde
            have kk : (((k : Int) == 9) = true ∧ 1 < x) ∨ ((((k : Int) == 9) = true ∧ ¬ 1 < x) ∨ ((k : Int) == 9) = false) ∧ 0 < k ∧ (x == 0) = true := by
              rcases c1 with ⟨h1, h2⟩ | ⟨h1, h2⟩
              · exact .inl ⟨by simp [h1], h2⟩
              · refine .inr ⟨?_, h1, by simp [h2]⟩
                by_cases h9 : k = 9
                · exact .inl ⟨by simp [h9], by omega⟩
                · exact .inr (by simp; omega)
            clear c1
            rcases kk with ⟨b1, b2⟩ | ⟨⟨b1, b2⟩ | b1, b3, b4⟩
            all_goals go_wp2_with fail
            all_goals go_ret3
            all_goals exact ⟨ret3 HDE.out.symm, rfl⟩
          · rw [if_neg c1] at hde
            have HDE := Aside0.mk hde
            clear hde
            obtain ⟨hor, hle⟩ := or_step q x k q0 HQ1.out x0 x1 (by omega) (by intro h; by_cases h2 : 1 < x; exact absurd (.inl ⟨h, h2⟩) c1; omega)
            obtain ⟨q2, hq2⟩ : ∃ q2, q + x % 128 * 128 ^ k = q2 := ⟨_, rfl⟩
            rw [hq2] at hor hle
            have HLE := Aside0.mk hle
            have HQ2 := Aside0.mk hq2
            have q20 : 0 ≤ q2 := by rw [← hq2]; have : (0 : Int) ≤ x % 128 * 128 ^ k := Int.mul_nonneg (by omega) (Int.le_of_lt (Int.pow_pos (by omega))); omega
            clear hq2 hle
            by_cases hx128 : x < 128
            · have HF := HDE.out
              rw [if_pos hx128] at HF
              have HFF := Aside0.mk HF
              clear HF
              have kk : (((k : Int) == 9) = true ∧ ¬ 1 < x ∧ 0 < k ∧ (x == 0) = false) ∨ (((k : Int) == 9) = false ∧ 0 < k ∧ (x == 0) = false) ∨ (((k : Int) == 9) = false ∧ ¬ 0 < k) := by
                by_cases h9 : k = 9
                · refine .inl ⟨by simp [h9], fun h => c1 (.inl ⟨h9, h⟩), by omega, ?_⟩
                  simp; intro h; exact c1 (.inr ⟨by omega, h⟩)
                · by_cases h0 : 0 < k
                  · refine .inr (.inl ⟨by simp; omega, h0, ?_⟩)
                    simp; intro h; exact c1 (.inr ⟨h0, h⟩)
                  · exact .inr (.inr ⟨by simp; omega, h0⟩)
              clear c1
              rcases kk with ⟨b1, b2, b3, b4⟩ | ⟨b1, b3, b4⟩ | ⟨b1, b3⟩
              all_goals go_wp2_with fail
              all_goals go_ret3
              all_goals refine ⟨ret3 ?_, rfl⟩
              all_goals rw [HFF.out, unzig_bits q2 q20 HLE.out, ← HQ2.out, show x % 128 = x by omega]
            · have HF := HDE.out
              rw [if_neg hx128] at HF
              have HFF := Aside0.mk HF
              clear HF
              have kk : (((k : Int) == 9) = true ∧ ¬ 1 < x ∧ 0 < k ∧ (x == 0) = false) ∨ (((k : Int) == 9) = false ∧ 0 < k ∧ (x == 0) = false) ∨ (((k : Int) == 9) = false ∧ ¬ 0 < k) := by
                by_cases h9 : k = 9
                · refine .inl ⟨by simp [h9], fun h => c1 (.inl ⟨h9, h⟩), by omega, ?_⟩
                  simp; intro h; exact c1 (.inr ⟨by omega, h⟩)
                · by_cases h0 : 0 < k
                  · refine .inr (.inl ⟨by simp; omega, h0, ?_⟩)
                    simp; intro h; exact c1 (.inr ⟨h0, h⟩)
                  · exact .inr (.inr ⟨by simp; omega, h0⟩)
              clear c1
              rcases kk with ⟨b1, b2, b3, b4⟩ | ⟨b1, b3, b4⟩ | ⟨b1, b3⟩
              · exfalso; omega
              all_goals
                go_wp2_with fail
                go_round
                case rel =>
                  refine ⟨k + 1, q2, by first | omega | (have b5 : ¬ (k : Int) = 9 := (by simpa using b1); omega), by go_num, rfl, q20, ⟨?_, ?_⟩⟩
                  · rw [← HQ2.out, Int.pow_succ]
                    have h6 : x % 128 * 128 ^ k + 128 ^ k = (x % 128 + 1) * (128 : Int) ^ k := by rw [Int.add_mul, Int.one_mul]
                    have h7 : (x % 128 + 1) * (128 : Int) ^ k ≤ 128 * 128 ^ k := Int.mul_le_mul_of_nonneg_right (by omega) (Int.le_of_lt (Int.pow_pos (by omega)))
                    have h8 := HQ1.out
                    have h9 : (128 : Int) ^ k * 128 = 128 * 128 ^ k := Int.mul_comm _ _
                    omega
                  · rw [HFF.out, ← HQ2.out, show x % 128 = x - 128 by omega]
                case measure => simp [intOf]; omega
end Go.Proofs.Ytldohapdhljoaaa.Wire
namespace Go.Proofs.Ytldohapdhljoaaa.Wire
open Go.RowKit Go.Proofs.YtldohapdhljoaaaW.PrintWords Go.Proofs.Ytldohapdhljoaaa.Obj
set_option linter.unusedVariables false
set_option maxRecDepth 100000
set_option maxHeartbeats 1000000 in
theorem within1_calls (A : Option Addr) (c p q : Nat) (least most : Int) (l : List Int) (w : World) (hR : ReadsInt w .u8 A l.length l) (hc : l.length ≤ c) (hby : ∀ x ∈ l, 0 ≤ x ∧ x < 256) (hp : w.cell? ⟨p, 0, none⟩ = some (.int .i64 least)) (hq : w.cell? ⟨q, 0, none⟩ = some (.int .i64 most)) :
    Calls Try.prog 89 #[.slice A l.length c, .pointer (some ⟨p, 0, none⟩), .pointer (some ⟨q, 0, none⟩)] w fun e w' => e = .returned (.tuple #[.int .i64 (within least most l).1, .int .i64 (within least most l).2.1, .int .i64 (within least most l).2.2]) ∧ w = w' := by
  have hu22 := Try.underlying28
  have HN := Aside0.mk (number_calls A c l w hR hc hby)
  clear hR hc hby
  have hw : within least most l = if (dec l).2.2 = 0 ∧ ((dec l).1 < least ∨ most < (dec l).1) then ((dec l).1, (dec l).2.1, 12) else dec l := rfl
  obtain ⟨d1, d2, d3, hd⟩ : ∃ d1 d2 d3, dec l = (d1, d2, d3) := ⟨_, _, _, rfl⟩
  rw [hd] at hw
  rw [hd] at HN
  clear hd
  rw [hw]
  clear hw
  by_cases h0 : d3 = 0
  · by_cases h1 : d1 < least
    · rw [if_pos ⟨h0, .inl h1⟩]
      have b0 : (d3 == 0) = true := by simp [h0]
      clear h0
      go_enter Try.func89, Try.ntmps89
      go_wp2_with (go_at_call 84; refine HN.out.mono ?_; rintro e w' ⟨rfl, rfl⟩)
      go_ret3
      exact ⟨rfl, rfl⟩
    · by_cases h2 : most < d1
      · rw [if_pos ⟨h0, .inr h2⟩]
        have b0 : (d3 == 0) = true := by simp [h0]
        clear h0
        go_enter Try.func89, Try.ntmps89
        go_wp2_with (go_at_call 84; refine HN.out.mono ?_; rintro e w' ⟨rfl, rfl⟩)
        go_ret3
        exact ⟨rfl, rfl⟩
      · rw [if_neg (fun h => h.2.elim h1 h2)]
        have b0 : (d3 == 0) = true := by simp [h0]
        clear h0
        go_enter Try.func89, Try.ntmps89
        go_wp2_with (go_at_call 84; refine HN.out.mono ?_; rintro e w' ⟨rfl, rfl⟩)
        go_ret3
        exact ⟨rfl, rfl⟩
  · rw [if_neg (fun h => h0 h.1)]
    have b0 : (d3 == 0) = false := by simp [h0]
    clear h0
    go_enter Try.func89, Try.ntmps89
    go_wp2_with (go_at_call 84; refine HN.out.mono ?_; rintro e w' ⟨rfl, rfl⟩)
    go_ret3
    exact ⟨rfl, rfl⟩
theorem cellOf {w : World} {b : Nat} {cs : Array Value} {t : TypeId} {fr : Nat × Nat} (h : w.heap[b]? = some (.cells cs t fr)) (j : Nat) {v : Value} (hv : cs[j]? = some v) : w.cell? ⟨b, j, none⟩ = some v := by
  simp [World.cell?, h, hv]
theorem box2 (w : World) (a b : Obj) : ((w.alloc a).alloc b).heap[w.heap.size]? = some a ∧ ((w.alloc a).alloc b).heap[(w.alloc a).heap.size]? = some b :=
  ⟨(Below.heap_alloc _ b _ (by simp)).trans (heap_alloc_new w a), heap_alloc_new _ b⟩
set_option maxHeartbeats 1000000 in
theorem within_calls (least most : Int) (w : World) :
    Calls Try.prog 86 #[.int .i64 least, .int .i64 most] w fun e w' => ∃ p q : Nat, e = .returned (.func (.func 89) #[] #[.pointer (some ⟨p, 0, none⟩), .pointer (some ⟨q, 0, none⟩)]) ∧ w'.cell? ⟨p, 0, none⟩ = some (.int .i64 least) ∧ w'.cell? ⟨q, 0, none⟩ = some (.int .i64 most) ∧ Below w.heap.size w w' := by
  have hmf : ∀ (fn : Fn) (first cap : Array Value) (w : World), (Instr.makeFunc fn first cap).run Try.prog w = .ok (.func fn first cap) w := fun _ _ _ _ => rfl
  go_enter Try.func86, Try.ntmps86
  go_wp2
  go_ret
  have h2 := box2 w (.cells #[.int .i64 least] 2) (.cells #[.int .i64 most] 2)
  simp only [World.size_alloc] at h2
  exact ⟨_, _, rfl, cellOf h2.1 0 rfl, cellOf h2.2 0 rfl, ((Below.refl _ _).alloc (Nat.le_refl _) _).alloc (by simp) _⟩
def NumPost (g : Nat) (S : Nat → Prop) (w : World) (t : Int × List Int × Int) (r : Ending) (w' : World) : Prop := r = .returned (.int .i64 t.1) ∧ Same (rdA g t.2.1 t.2.2) S w w'
theorem info5i : ∃ i, Try.prog.info? 5 = some i ∧ i.size = 1 := by
  obtain ⟨i0, hi, hz0, hz1, hz2⟩ := info_parts info5
  exact ⟨i0, hi, hz1⟩
theorem set_block {w w1 : World} {g : Nat} {cs : Array Value} {T : TypeId} {fr : Nat × Nat} (hg : w.heap[g]? = some (.cells cs T fr)) (hb : Below w.heap.size w w1) (j : Nat) (u : Value) : (w1.setCell ⟨g, j, none⟩ u).heap[g]? = some (.cells (cs.setIfInBounds j u) T fr) := by
  have e := (hb.block g (Array.getElem?_eq_some_iff.1 hg).1).trans hg
  simp only [World.setCell, Array.getElem?_modify, e]
  simp
theorem rd_wrong {g : Nat} {l : List Int} {e f : Int} {w w1 : World} {S : Nat → Prop} (hA : (rdA g l e).holds w S) (hS : ∀ k, S k → k < w.heap.size) (hb : Below w.heap.size w w1) : Same (rdA g l f) S w (w1.setCell ⟨g, 1, none⟩ (.int .i64 f)) := by
  obtain ⟨A, c, h1, h2, h3, h4⟩ := hA
  exact ⟨(Ch.ofBelow hb).setCell (.inl h4) _, A, c, set_block h1 hb 1 _, h2, Foot.step h3 (fun k hk hlt => (Below.heap_setCell w1 ⟨g, 1, none⟩ _ k hk.2).trans (hb.block k hlt)), h4⟩
theorem rd_pass {g n : Nat} {l : List Int} {e : Int} {A : Option Addr} {c : Nat} {w w1 : World} {S : Nat → Prop} (h1 : w.heap[g]? = some (.cells #[.slice A l.length c, .int .i64 e] 90 (0, 0))) (h2 : l.length ≤ c) (h3 : RB w (fun k => S k ∧ k ≠ g) A l) (h4 : S g) (hS : ∀ k, S k → k < w.heap.size) (hb : Below w.heap.size w w1) (hn : n ≤ l.length) :
    Same (rdA g (l.drop n) e) S w (w1.setCell ⟨g, 0, none⟩ (.slice (if c = n then A else A.map (·.add n)) (l.length - n) (c - n))) := by
  refine ⟨(Ch.ofBelow hb).setCell (.inl h4) _, (if c = n then A else A.map (·.add n)), c - n, ?_, by rw [List.length_drop]; omega, ?_, h4⟩
  · rw [List.length_drop]
    exact set_block h1 hb 0 _
  · have h5 : RB w1 (fun k => S k ∧ k ≠ g) A l := Foot.step h3 (fun k hk hlt => hb.block k hlt)
    have h6 : RB (w1.setCell ⟨g, 0, none⟩ (.slice (if c = n then A else A.map (·.add n)) (l.length - n) (c - n))) (fun k => S k ∧ k ≠ g) A l := Foot.step h5 (fun k hk hlt => Below.heap_setCell w1 ⟨g, 0, none⟩ _ k hk.2)
    refine Foot.imp h6 (fun W' hW => ?_)
    rw [List.length_drop]
    exact hW.drop_ n hn h2
theorem cutL (A : Option Addr) (n c : Nat) (j : Int) (h0 : 0 ≤ j) (hm : j ≤ n) : ∀ W : World, (Instr.slice 28 (.slice A n c) (some (.int .i64 j)) none none).run Try.prog W = .ok (.slice (if c = j.toNat then A else A.map (·.add j.toNat)) (n - j.toNat) (c - j.toNat)) W := by
  obtain ⟨i, hi, hs⟩ := info5i
  have h := cut_from 28 5 .i64 Try.underlying28 hi 1 hs A n c j h0 hm
  simpa only [Nat.mul_one] using h
set_option maxHeartbeats 2000000 in
theorem step_num (g : Nat) (l : List Int) (e : Int) (w : World) (S : Nat → Prop) (hA : (rdA g l e).holds w S) (hS : ∀ k, S k → k < w.heap.size) (t : Int × Int × Int) (ht : (0 ≤ t.2.1 ∧ t.2.1 ≤ l.length))
    (hf : ∀ A c, ReadsInt w .u8 A l.length l → l.length ≤ c → Calls Try.prog 84 #[.slice A l.length c] w fun e w' => e = .returned (.tuple #[.int .i64 t.1, .int .i64 t.2.1, .int .i64 t.2.2]) ∧ w = w') :
    Calls Try.prog 83 #[.pointer (some ⟨g, 0, none⟩), .func (.func 84) #[] #[]] w (NumPost g S w (if e = 0 then rStep t l else (0, l, e))) := by
  have hu56 := Try.underlying90
  have hu22 := Try.underlying28
  have U0 := Aside0.mk (Same.refl0 hA)
  have HA := Aside0.mk hA
  have HS := Aside0.mk hS
  obtain ⟨t1, t2, t3⟩ := t
  obtain ⟨A, c, h1, h2, h3, h4⟩ := hA
  have hc0 : w.cell? ⟨g, 0, none⟩ = some (.slice A l.length c) := by simp [World.cell?, h1]
  have hc1 : w.cell? ⟨g, 1, none⟩ = some (.int .i64 e) := by simp [World.cell?, h1]
  have hf0 : w.frozen? ⟨g, 0, none⟩ = false := by simp [World.frozen?, h1]
  have hf1 : w.frozen? ⟨g, 1, none⟩ = false := by simp [World.frozen?, h1]
  have HF := Aside0.mk (hf A c h3.now h2)
  have H1 := Aside0.mk h1
  have H3 := Aside0.mk h3
  have H4 := Aside0.mk h4
  dsimp only at ht
  obtain ⟨ht0, ht1⟩ := ht
  clear hf h1 h3 h4 hS
  by_cases he : e = 0
  · have b0 : (e == 0) = true := by simp [he]
    have b1 : (e != 0) = false := by simp [he]
    rw [if_pos he]
    clear he
    by_cases h0 : t3 = 0
    · have c0 : (t3 == 0) = true := by simp [h0]
      have c1 : (t3 != 0) = false := by simp [h0]
      rw [show rStep (t1, t2, t3) l = (t1, l.drop t2.toNat, 0) from if_pos h0]
      have HE := Aside0.mk (show e = 0 by simpa using b0)
      clear h0
      have hcut := cutL A l.length c t2 ht0 ht1
      obtain ⟨B, hB⟩ : ∃ B, (if c = t2.toNat then A else A.map (·.add t2.toNat)) = B := ⟨_, rfl⟩
      rw [hB] at hcut
      have HB := Aside0.mk hB
      clear hB
      go_enter Try.func83, Try.ntmps83
      go_wp2_with (go_at_call 84; refine HF.out.mono ?_; rintro e w' ⟨rfl, rfl⟩)
      go_ret
      refine ⟨rfl, ?_⟩
      have hp := rd_pass (n := t2.toNat) H1.out h2 H3.out H4.out HS.out (Below.refl _ _) (by omega)
      rw [HB.out, HE.out] at hp
      exact hp
    · have c0 : (t3 == 0) = false := by simp [h0]
      have c1 : (t3 != 0) = true := by simp [h0]
      rw [show rStep (t1, t2, t3) l = (0, l, t3) from if_neg h0]
      clear h0
      go_enter Try.func83, Try.ntmps83
      go_wp2_with (go_at_call 84; refine HF.out.mono ?_; rintro e w' ⟨rfl, rfl⟩)
      go_ret
      exact ⟨rfl, rd_wrong HA.out HS.out (Below.refl _ _)⟩
  · have b0 : (e == 0) = false := by simp [he]
    have b1 : (e != 0) = true := by simp [he]
    rw [if_neg he]
    clear he
    go_enter Try.func83, Try.ntmps83
    go_wp2
    go_ret
    exact ⟨rfl, U0.out⟩
set_option maxHeartbeats 2000000 in
theorem step_int (g : Nat) (p q : Nat) (l : List Int) (e : Int) (w : World) (S : Nat → Prop) (hA : (rdA g l e).holds w S) (hS : ∀ k, S k → k < w.heap.size) (t : Int × Int × Int) (ht : (0 ≤ t.2.1 ∧ t.2.1 ≤ l.length))
    (hf : ∀ A c, ReadsInt w .u8 A l.length l → l.length ≤ c → Calls Try.prog 89 #[.slice A l.length c, .pointer (some ⟨p, 0, none⟩), .pointer (some ⟨q, 0, none⟩)] w fun e w' => e = .returned (.tuple #[.int .i64 t.1, .int .i64 t.2.1, .int .i64 t.2.2]) ∧ w = w') :
    Calls Try.prog 83 #[.pointer (some ⟨g, 0, none⟩), .func (.func 89) #[] #[.pointer (some ⟨p, 0, none⟩), .pointer (some ⟨q, 0, none⟩)]] w (NumPost g S w (if e = 0 then rStep t l else (0, l, e))) := by
  have hu56 := Try.underlying90
  have hu22 := Try.underlying28
  have U0 := Aside0.mk (Same.refl0 hA)
  have HA := Aside0.mk hA
  have HS := Aside0.mk hS
  obtain ⟨t1, t2, t3⟩ := t
  obtain ⟨A, c, h1, h2, h3, h4⟩ := hA
  have hc0 : w.cell? ⟨g, 0, none⟩ = some (.slice A l.length c) := by simp [World.cell?, h1]
  have hc1 : w.cell? ⟨g, 1, none⟩ = some (.int .i64 e) := by simp [World.cell?, h1]
  have hf0 : w.frozen? ⟨g, 0, none⟩ = false := by simp [World.frozen?, h1]
  have hf1 : w.frozen? ⟨g, 1, none⟩ = false := by simp [World.frozen?, h1]
  have HF := Aside0.mk (hf A c h3.now h2)
  have H1 := Aside0.mk h1
  have H3 := Aside0.mk h3
  have H4 := Aside0.mk h4
  dsimp only at ht
  obtain ⟨ht0, ht1⟩ := ht
  clear hf h1 h3 h4 hS
  by_cases he : e = 0
  · have b0 : (e == 0) = true := by simp [he]
    have b1 : (e != 0) = false := by simp [he]
    rw [if_pos he]
    clear he
    by_cases h0 : t3 = 0
    · have c0 : (t3 == 0) = true := by simp [h0]
      have c1 : (t3 != 0) = false := by simp [h0]
      rw [show rStep (t1, t2, t3) l = (t1, l.drop t2.toNat, 0) from if_pos h0]
      have HE := Aside0.mk (show e = 0 by simpa using b0)
      clear h0
      have hcut := cutL A l.length c t2 ht0 ht1
      obtain ⟨B, hB⟩ : ∃ B, (if c = t2.toNat then A else A.map (·.add t2.toNat)) = B := ⟨_, rfl⟩
      rw [hB] at hcut
      have HB := Aside0.mk hB
      clear hB
      go_enter Try.func83, Try.ntmps83
      go_wp2_with (go_at_call 89; refine HF.out.mono ?_; rintro e w' ⟨rfl, rfl⟩)
      go_ret
      refine ⟨rfl, ?_⟩
      have hp := rd_pass (n := t2.toNat) H1.out h2 H3.out H4.out HS.out (Below.refl _ _) (by omega)
      rw [HB.out, HE.out] at hp
      exact hp
    · have c0 : (t3 == 0) = false := by simp [h0]
      have c1 : (t3 != 0) = true := by simp [h0]
      rw [show rStep (t1, t2, t3) l = (0, l, t3) from if_neg h0]
      clear h0
      go_enter Try.func83, Try.ntmps83
      go_wp2_with (go_at_call 89; refine HF.out.mono ?_; rintro e w' ⟨rfl, rfl⟩)
      go_ret
      exact ⟨rfl, rd_wrong HA.out HS.out (Below.refl _ _)⟩
  · have b0 : (e == 0) = false := by simp [he]
    have b1 : (e != 0) = true := by simp [he]
    rw [if_neg he]
    clear he
    go_enter Try.func83, Try.ntmps83
    go_wp2
    go_ret
    exact ⟨rfl, U0.out⟩
theorem within_range (least most : Int) (l : List Int) : 0 ≤ (within least most l).2.1 ∧ (within least most l).2.1 ≤ l.length := by
  have h : 0 ≤ (dec l).2.1 ∧ (dec l).2.1 ≤ l.length := by
    rcases dec_cases l with ⟨x, n, h, h1, h2, h3⟩ | h | h <;> rw [h]
    · exact ⟨show 0 ≤ n by omega, h2⟩
    · exact ⟨by simp, by simp⟩
    · exact ⟨by simp, by simp⟩
  unfold within
  split
  · exact h
  · exact h
theorem dec_range (l : List Int) : 0 ≤ (dec l).2.1 ∧ (dec l).2.1 ≤ l.length := by
  rcases dec_cases l with ⟨x, n, h, h1, h2, h3⟩ | h | h <;> rw [h]
  · exact ⟨show 0 ≤ n by omega, h2⟩
  · exact ⟨by simp, by simp⟩
  · exact ⟨by simp, by simp⟩
set_option maxHeartbeats 1000000 in
theorem rnum_calls (g : Nat) (l : List Int) (e : Int) (w : World) (S : Nat → Prop) (hA : (rdA g l e).holds w S) (hS : ∀ k, S k → k < w.heap.size) (hby : ∀ x ∈ l, 0 ≤ x ∧ x < 256) :
    Calls Try.prog 78 #[.pointer (some ⟨g, 0, none⟩)] w (NumPost g S w (rNum l e)) := by
  have HC := Aside0.mk (show Calls Try.prog 83 #[.pointer (some ⟨g, 0, none⟩), .func (.func 84) #[] #[]] w (NumPost g S w (rNum l e)) from step_num g l e w S hA hS (dec l) (dec_range l) (fun A c hR hc => number_calls A c l w hR hc hby))
  clear hA hS hby
  go_enter Try.func78, Try.ntmps78
  go_wp2_with (go_at_call 83; refine HC.out.mono ?_; rintro r w' ⟨rfl, hU⟩; have HU := Aside0.mk hU; clear hU)
  go_ret
  exact ⟨rfl, HU.out⟩
set_option maxHeartbeats 1000000 in
theorem rint_calls (g : Nat) (least most : Int) (l : List Int) (e : Int) (w : World) (S : Nat → Prop) (hA : (rdA g l e).holds w S) (hS : ∀ k, S k → k < w.heap.size) (hby : ∀ x ∈ l, 0 ≤ x ∧ x < 256) :
    Calls Try.prog 82 #[.pointer (some ⟨g, 0, none⟩), .int .i64 least, .int .i64 most] w (NumPost g S w (rInt least most l e)) := by
  have HA := Aside0.mk hA
  have HS := Aside0.mk hS
  have HBY := Aside0.mk hby
  clear hA hS hby
  go_enter Try.func82, Try.ntmps82
  go_wp2_with fail
  refine (within_calls least most w).mono ?_
  rintro r w1 ⟨p, q, rfl, hp, hq, hb⟩
  have HP := Aside0.mk hp
  have HQ := Aside0.mk hq
  have HB := Aside0.mk hb
  clear hp hq hb
  go_wp2_with fail
  have hA1 : (rdA g l e).holds w1 S := (rdA g l e).keep (fun k hk => HB.out.block k (HS.out k hk)) HA.out
  refine (show Calls Try.prog 83 _ w1 (NumPost g S w1 (rInt least most l e)) from step_int g p q l e w1 S hA1 (fun k hk => Nat.lt_of_lt_of_le (HS.out k hk) HB.out.size) (within least most l) (within_range least most l) (fun A c hR hc => within1_calls A c p q least most l w1 hR hc HBY.out HP.out HQ.out)).mono ?_
  rintro r w2 ⟨rfl, hU⟩
  have HU := Aside0.mk (same_after HB.out hU)
  clear hU hA1
  go_wp2_with fail
  go_ret
  exact ⟨rfl, HU.out⟩
end Go.Proofs.Ytldohapdhljoaaa.Wire
namespace Go.Proofs.Ytldohapdhljoaaa.Wire
open Go.RowKit Go.Proofs.YtldohapdhljoaaaW.PrintWords Go.Proofs.Ytldohapdhljoaaa.Obj
set_option linter.unusedVariables false
set_option maxRecDepth 100000
def TryPost (w : World) (t : List Int × Int × Int) (r : Ending) (w' : World) : Prop := ∃ v, r = .returned (.tuple #[v, .int .i64 t.2.1, .int .i64 t.2.2]) ∧ w'.ownsRow w.heap.size 5 1 v t.1.length (nums .u8 t.1) ∧ Below w.heap.size w w'
def TextPost (g : Nat) (S : Nat → Prop) (w : World) (t : List Int × List Int × Int) (r : Ending) (w' : World) : Prop := ∃ v, r = .returned v ∧ w'.ownsRow w.heap.size 5 1 v t.1.length (nums .u8 t.1) ∧ Same (rdA g t.2.1 t.2.2) S w w'
theorem cutM (A : Option Addr) (n c : Nat) (i j : Int) (h0 : 0 ≤ i) (h1 : i ≤ j) (hm : j ≤ n) (hc : n ≤ c) : ∀ W : World, (Instr.slice 28 (.slice A n c) (some (.int .i64 i)) (some (.int .i64 j)) none).run Try.prog W = .ok (.slice (if c = i.toNat then A else A.map (·.add i.toNat)) (j.toNat - i.toNat) (c - i.toNat)) W := by
  obtain ⟨k, hi, hs⟩ := info5i
  have h := cut_mid 28 5 .i64 .i64 Try.underlying28 hi 1 hs A n c i j h0 h1 hm hc
  simpa only [Nat.mul_one] using h
theorem within_int (least most : Int) (l : List Int) (hby : ∀ x ∈ l, 0 ≤ x ∧ x < 256) : -9223372036854775808 ≤ (within least most l).1 ∧ (within least most l).1 ≤ 9223372036854775807 := by
  have h : -9223372036854775808 ≤ (dec l).1 ∧ (dec l).1 ≤ 9223372036854775807 := by
    rcases dec_cases l with ⟨x, n, h, h1, h2, h3⟩ | h | h
    · have := dec_form l x n hby h
      rw [h]
      exact ⟨this.2.2.2.1, this.2.2.2.2⟩
    · rw [h]; exact ⟨by simp, by simp⟩
    · rw [h]; exact ⟨by simp, by simp⟩
  unfold within
  split
  · exact h
  · exact h
set_option maxHeartbeats 2000000 in
theorem text1_calls (A : Option Addr) (c p : Nat) (most : Int) (l : List Int) (w : World) (hR : ReadsInt w .u8 A l.length l) (hc : l.length ≤ c) (hl : l.length ≤ 140737488351232) (hby : ∀ x ∈ l, 0 ≤ x ∧ x < 256) (hp : w.cell? ⟨p, 0, none⟩ = some (.int .i64 most)) :
    Calls Try.prog 88 #[.slice A l.length c, .pointer (some ⟨p, 0, none⟩)] w (TryPost w (textOf most l)) := by
  have hu22 := Try.underlying28
  have HW := Aside0.mk (within_calls 0 most w)
  have HN := Aside0.mk (fun (p q : Nat) (w1 : World) (hb : Below w.heap.size w w1) (hp : w1.cell? ⟨p, 0, none⟩ = some (.int .i64 0)) (hq : w1.cell? ⟨q, 0, none⟩ = some (.int .i64 most)) => within1_calls A c p q 0 most l w1 (hR.below hb) hc hby hp hq)
  have HR := Aside0.mk hR
  have hrg := within_range 0 most l
  have hri := within_int 0 most l hby
  have hw : textOf most l = if (within 0 most l).2.2 = 0 then (if (within 0 most l).1 ≤ l.length - (within 0 most l).2.1 then ((l.drop (within 0 most l).2.1.toNat).take (within 0 most l).1.toNat, (within 0 most l).2.1 + (within 0 most l).1, 0) else ([], 0, 13)) else ([], 0, (within 0 most l).2.2) := rfl
  have hnn : (within 0 most l).2.2 = 0 → 0 ≤ (within 0 most l).1 := by
    unfold within
    split
    · simp
    · rename_i h
      intro h0
      by_cases h1 : (dec l).1 < 0
      · exact absurd ⟨h0, .inl h1⟩ h
      · omega
  clear hR hby
  obtain ⟨d1, d2, d3, hd⟩ : ∃ d1 d2 d3, within 0 most l = (d1, d2, d3) := ⟨_, _, _, rfl⟩
  simp only [hd] at hw hrg hri hnn HN
  clear hd
  rw [hw]
  clear hw
  obtain ⟨g0, g1⟩ := hrg
  obtain ⟨g2, g3⟩ := hri
  by_cases h0 : d3 = 0
  · rw [if_pos h0]
    have g4 := hnn h0
    have b0 : (d3 != 0) = false := by simp [h0]
    clear h0 hnn
    by_cases h1 : d1 ≤ l.length - d2
    · rw [if_pos h1]
      obtain ⟨l', hl'⟩ : ∃ l', (l.drop d2.toNat).take d1.toNat = l' := ⟨_, rfl⟩
      have hlen : l'.length = d1.toNat := by rw [← hl', List.length_take, List.length_drop]; omega
      have hcut := cutM A l.length c d2 (d2 + d1) g0 (by omega) (by omega) hc
      rw [show (d2 + d1).toNat - d2.toNat = l'.length by rw [hlen]; omega] at hcut
      have hr' : ∀ w1 : World, Below w.heap.size w w1 → ReadsInt w1 .u8 (if c = d2.toNat then A else A.map (·.add d2.toNat)) l'.length l' := fun w1 hb => by
        have h := ((HR.out.below hb).drop_ d2.toNat (by omega) hc).take_ d1.toNat (by omega)
        rw [hlen, ← hl']
        exact h
      obtain ⟨B, hB⟩ : ∃ B, (if c = d2.toNat then A else A.map (·.add d2.toNat)) = B := ⟨_, rfl⟩
      rw [hl']
      rw [hB] at hcut
      simp only [hB] at hr'
      have HR' := Aside0.mk hr'
      have hll : l'.length ≤ 140737488351232 := by omega
      clear hB hr' hl' hlen
      go_enter Try.func88, Try.ntmps88
      go_wp2_with fail
      refine HW.out.mono ?_
      rintro r w1 ⟨p1, q1, rfl, hp1, hq1, hb1⟩
      have HP1 := Aside0.mk hp1
      have HQ1 := Aside0.mk hq1
      have HB1 := Aside0.mk hb1
      clear hp1 hq1 hb1
      go_wp2_with fail
      refine (HN.out p1 q1 w1 HB1.out HP1.out HQ1.out).mono ?_
      rintro r w2 ⟨rfl, rfl⟩
      go_wp2_with fail
      refine (clone_calls B _ l' w1 (HR'.out w1 HB1.out) hll).mono ?_
      rintro r w3 ⟨v, rfl, ho, hb⟩
      have HO := Aside0.mk ho
      have HB := Aside0.mk hb
      clear ho hb
      go_wp2_with fail
      go_ret3
      exact ⟨v, rfl, own_weaken HO.out HB1.out.size, below_then HB1.out HB1.out.size HB.out⟩
    · rw [if_neg h1]
      go_enter Try.func88, Try.ntmps88
      go_wp2_with fail
      refine HW.out.mono ?_
      rintro r w1 ⟨p1, q1, rfl, hp1, hq1, hb1⟩
      have HP1 := Aside0.mk hp1
      have HQ1 := Aside0.mk hq1
      have HB1 := Aside0.mk hb1
      clear hp1 hq1 hb1
      go_wp2_with fail
      refine (HN.out p1 q1 w1 HB1.out HP1.out HQ1.out).mono ?_
      rintro r w2 ⟨rfl, rfl⟩
      go_wp2_with fail
      go_ret3
      exact ⟨_, rfl, own_nil _ _ _ _, HB1.out⟩
  · rw [if_neg h0]
    have b0 : (d3 != 0) = true := by simp [h0]
    clear h0 hnn
    go_enter Try.func88, Try.ntmps88
    go_wp2_with fail
    refine HW.out.mono ?_
    rintro r w1 ⟨p1, q1, rfl, hp1, hq1, hb1⟩
    have HP1 := Aside0.mk hp1
    have HQ1 := Aside0.mk hq1
    have HB1 := Aside0.mk hb1
    clear hp1 hq1 hb1
    go_wp2_with fail
    refine (HN.out p1 q1 w1 HB1.out HP1.out HQ1.out).mono ?_
    rintro r w2 ⟨rfl, rfl⟩
    go_wp2_with fail
    go_ret3
    exact ⟨_, rfl, own_nil _ _ _ _, HB1.out⟩
theorem rd_pass' {g n : Nat} {l : List Int} {e : Int} {A : Option Addr} {c : Nat} {w w1 : World} {S : Nat → Prop} (h1 : w.heap[g]? = some (.cells #[.slice A l.length c, .int .i64 e] 90 (0, 0))) (h2 : l.length ≤ c) (h3 : RB w (fun k => S k ∧ k ≠ g) A l) (h4 : S g) (hS : ∀ k, S k → k < w.heap.size) (hb : Below w.heap.size w w1) (hn : n ≤ l.length) {v : Value} {t : List Int} (ho : w1.ownsRow w.heap.size 5 1 v t.length (nums .u8 t)) :
    (w1.setCell ⟨g, 0, none⟩ (.slice (if c = n then A else A.map (·.add n)) (l.length - n) (c - n))).ownsRow w.heap.size 5 1 v t.length (nums .u8 t) ∧ Same (rdA g (l.drop n) e) S w (w1.setCell ⟨g, 0, none⟩ (.slice (if c = n then A else A.map (·.add n)) (l.length - n) (c - n))) :=
  ⟨own_move ho (fun k hk => Below.heap_setCell w1 ⟨g, 0, none⟩ _ k (fun e => by have h5 := own_base ho k hk; have h6 := hS g h4; have h7 : k = g := e; omega)), rd_pass h1 h2 h3 h4 hS hb hn⟩
set_option maxHeartbeats 2000000 in
theorem step_text (g p : Nat) (most : Int) (l : List Int) (e : Int) (w : World) (S : Nat → Prop) (hA : (rdA g l e).holds w S) (hS : ∀ k, S k → k < w.heap.size) (hl : l.length ≤ 140737488351232) (hby : ∀ x ∈ l, 0 ≤ x ∧ x < 256) (hp : w.cell? ⟨p, 0, none⟩ = some (.int .i64 most)) :
    Calls Try.prog 87 #[.pointer (some ⟨g, 0, none⟩), .func (.func 88) #[] #[.pointer (some ⟨p, 0, none⟩)]] w (TextPost g S w (rText most l e)) := by
  have hu56 := Try.underlying90
  have hu22 := Try.underlying28
  have U0 := Aside0.mk (Same.refl0 hA)
  have HA := Aside0.mk hA
  have HS := Aside0.mk hS
  have HT := Aside0.mk (show 0 ≤ (textOf most l).2.1 ∧ (textOf most l).2.1 ≤ l.length by
    have h := within_range 0 most l
    unfold textOf
    dsimp only
    split
    · split
      · rename_i h0 h1
        have : 0 ≤ (within 0 most l).1 := by
          unfold within at h0 ⊢
          split at h0
          · simp at h0
          · rename_i h2
            rw [if_neg h2]
            by_cases h3 : (dec l).1 < 0
            · exact absurd ⟨h0, .inl h3⟩ h2
            · omega
        exact ⟨show 0 ≤ (within 0 most l).2.1 + (within 0 most l).1 by omega, show (within 0 most l).2.1 + (within 0 most l).1 ≤ l.length by omega⟩
      · exact ⟨by simp, by simp⟩
    · exact ⟨by simp, by simp⟩)
  obtain ⟨A, c, h1, h2, h3, h4⟩ := hA
  have hc0 : w.cell? ⟨g, 0, none⟩ = some (.slice A l.length c) := by simp [World.cell?, h1]
  have hc1 : w.cell? ⟨g, 1, none⟩ = some (.int .i64 e) := by simp [World.cell?, h1]
  have HF := Aside0.mk (text1_calls A c p most l w h3.now h2 hl hby hp)
  have H1 := Aside0.mk h1
  have H3 := Aside0.mk h3
  have H4 := Aside0.mk h4
  obtain ⟨t, ht⟩ : ∃ t, textOf most l = t := ⟨_, rfl⟩
  have hrt : rText most l e = if e = 0 then (if t.2.2 = 0 then (t.1, l.drop t.2.1.toNat, 0) else ([], l, t.2.2)) else ([], l, e) := by rw [← ht]; rfl
  rw [hrt]
  rw [ht] at HF HT
  clear h1 h3 h4 hS hby hp ht hrt
  obtain ⟨t1, t2, t3⟩ := t
  have ht0 : 0 ≤ t2 := HT.out.1
  have ht1 : t2 ≤ l.length := HT.out.2
  by_cases he : e = 0
  · have b0 : (e == 0) = true := by simp [he]
    have b1 : (e != 0) = false := by simp [he]
    rw [if_pos he]
    clear he
    by_cases h0 : t3 = 0
    · have c0 : (t3 == 0) = true := by simp [h0]
      have c1 : (t3 != 0) = false := by simp [h0]
      rw [show (if (t1, t2, t3).2.2 = 0 then ((t1, t2, t3).1, l.drop (t1, t2, t3).2.1.toNat, 0) else ([], l, (t1, t2, t3).2.2)) = (t1, l.drop t2.toNat, 0) from if_pos h0]
      have HE := Aside0.mk (show e = 0 by simpa using b0)
      clear h0
      have hcut := cutL A l.length c t2 ht0 ht1
      obtain ⟨B, hB⟩ : ∃ B, (if c = t2.toNat then A else A.map (·.add t2.toNat)) = B := ⟨_, rfl⟩
      rw [hB] at hcut
      have HB := Aside0.mk hB
      clear hB
      go_enter Try.func87, Try.ntmps87
      go_wp2_with fail
      refine HF.out.mono ?_
      rintro r w1 ⟨v, rfl, ho, hb⟩
      have hc0' : w1.cell? ⟨g, 0, none⟩ = some (.slice A l.length c) := pw_cell_below hb hc0
      have hf0' : w1.frozen? ⟨g, 0, none⟩ = false := by have e := (hb.block g (HS.out g H4.out)).trans H1.out; simp [World.frozen?, e]
      have HO := Aside0.mk ho
      have HBE := Aside0.mk hb
      clear ho hb
      go_wp2_with fail
      go_ret
      have hp := rd_pass' (n := t2.toNat) H1.out h2 H3.out H4.out HS.out HBE.out (by omega) HO.out
      rw [HB.out, HE.out] at hp
      exact ⟨v, rfl, hp.1, hp.2⟩
    · have c0 : (t3 == 0) = false := by simp [h0]
      have c1 : (t3 != 0) = true := by simp [h0]
      rw [show (if (t1, t2, t3).2.2 = 0 then ((t1, t2, t3).1, l.drop (t1, t2, t3).2.1.toNat, 0) else ([], l, (t1, t2, t3).2.2)) = ([], l, t3) from if_neg h0]
      clear h0
      go_enter Try.func87, Try.ntmps87
      go_wp2_with fail
      refine HF.out.mono ?_
      rintro r w1 ⟨v, rfl, ho, hb⟩
      have hc1' : w1.cell? ⟨g, 1, none⟩ = some (.int .i64 e) := pw_cell_below hb hc1
      have hf1' : w1.frozen? ⟨g, 1, none⟩ = false := by have e := (hb.block g (HS.out g H4.out)).trans H1.out; simp [World.frozen?, e]
      have HBE := Aside0.mk hb
      clear ho hb
      go_wp2_with fail
      go_ret
      exact ⟨_, rfl, own_nil _ _ _ _, rd_wrong HA.out HS.out HBE.out⟩
  · have b0 : (e == 0) = false := by simp [he]
    have b1 : (e != 0) = true := by simp [he]
    rw [if_neg he]
    clear he
    go_enter Try.func87, Try.ntmps87
    go_wp2
    go_ret
    exact ⟨_, rfl, own_nil _ _ _ _, U0.out⟩
set_option maxHeartbeats 1000000 in
theorem rtext_calls (g : Nat) (most : Int) (l : List Int) (e : Int) (w : World) (S : Nat → Prop) (hA : (rdA g l e).holds w S) (hS : ∀ k, S k → k < w.heap.size) (hl : l.length ≤ 140737488351232) (hby : ∀ x ∈ l, 0 ≤ x ∧ x < 256) :
    Calls Try.prog 85 #[.pointer (some ⟨g, 0, none⟩), .int .i64 most] w (TextPost g S w (rText most l e)) := by
  have hmf : ∀ (fn : Fn) (first cap : Array Value) (w : World), (Instr.makeFunc fn first cap).run Try.prog w = .ok (.func fn first cap) w := fun _ _ _ _ => rfl
  have hb : Below w.heap.size w (w.alloc (.cells #[.int .i64 most] 3)) := below_alloc (Below.refl _ _) _
  have HA := Aside0.mk (step_text g w.heap.size most l e (w.alloc (.cells #[.int .i64 most] 3)) S ((rdA g l e).keep (fun k hk => hb.block k (hS k hk)) hA) (fun k hk => Nat.lt_of_lt_of_le (hS k hk) hb.size) hl hby (cellOf (heap_alloc_new w _) 0 rfl))
  have HB := Aside0.mk hb
  clear hb hA hS hby
  go_enter Try.func85, Try.ntmps85
  go_wp2_with fail
  refine HA.out.mono ?_
  rintro r w1 ⟨v, rfl, ho, hs⟩
  have HO := Aside0.mk ho
  have HSM := Aside0.mk (same_after HB.out hs)
  clear ho hs
  go_wp2_with fail
  go_ret
  exact ⟨v, rfl, own_weaken HO.out HB.out.size, HSM.out⟩
set_option maxHeartbeats 1000000 in
theorem rend_calls (g : Nat) (l : List Int) (e : Int) (w : World) (S : Nat → Prop) (hA : (rdA g l e).holds w S) :
    Calls Try.prog 26 #[.pointer (some ⟨g, 0, none⟩)] w fun r w' => r = .returned (.int .i64 (rEnd l e)) ∧ w = w' := by
  have hu56 := Try.underlying90
  have hu22 := Try.underlying28
  obtain ⟨A, c, h1, h2, h3, h4⟩ := hA
  have hmax := h3.now.2.1
  have hc0 : w.cell? ⟨g, 0, none⟩ = some (.slice A l.length c) := by simp [World.cell?, h1]
  have hc1 : w.cell? ⟨g, 1, none⟩ = some (.int .i64 e) := by simp [World.cell?, h1]
  clear h1 h3 h4
  by_cases he : e = 0
  · have b0 : (e == 0) = true := by simp [he]
    by_cases hl : 0 < l.length
    · have hr : rEnd l e = 12 := if_pos ⟨he, fun h => by rw [h] at hl; simp at hl⟩
      rw [hr]
      clear he hr
      go_enter Try.func26, Try.ntmps26
      go_wp2
      go_ret
      exact ⟨rfl, rfl⟩
    · have hr : rEnd l e = e := if_neg (fun h => hl (List.length_pos_iff.2 h.2))
      rw [hr]
      clear he hr
      go_enter Try.func26, Try.ntmps26
      go_wp2
      go_ret
      exact ⟨rfl, rfl⟩
  · have b0 : (e == 0) = false := by simp [he]
    have hr : rEnd l e = e := if_neg (fun h => he h.1)
    rw [hr]
    clear he hr
    go_enter Try.func26, Try.ntmps26
    go_wp2
    go_ret
    exact ⟨rfl, rfl⟩
end Go.Proofs.Ytldohapdhljoaaa.Wire
namespace Go.Proofs.Ytldohapdhljoaaa.Wire
open Go.RowKit Go.Proofs.YtldohapdhljoaaaW.PrintWords Go.Proofs.Ytldohapdhljoaaa.Obj
set_option linter.unusedVariables false
set_option maxRecDepth 100000
end Go.Proofs.Ytldohapdhljoaaa.Wire
namespace Go.Proofs.Ytldohapdhljoaaa.Wire
open Go.RowKit Go.Proofs.YtldohapdhljoaaaW.PrintWords Go.Proofs.Ytldohapdhljoaaa.Obj
set_option linter.unusedVariables false
set_option maxRecDepth 100000
theorem rInt_num (least most : Int) (l : List Int) (e : Int) : rInt least most l e = if (rNum l e).2.2 = 0 then (if (rNum l e).1 < least ∨ most < (rNum l e).1 then (0, l, 12) else rNum l e) else (0, (rNum l e).2.1, (rNum l e).2.2) := by
  unfold rInt rNum within rStep
  by_cases he : e = 0 <;> by_cases h3 : (dec l).2.2 = 0 <;> by_cases h1 : (dec l).1 < least ∨ most < (dec l).1 <;> simp [he, h3, h1]
theorem within_nonneg (most : Int) (l : List Int) : (within 0 most l).2.2 = 0 → 0 ≤ (within 0 most l).1 := by
  unfold within
  split
  · simp
  · rename_i h
    intro h0
    by_cases h1 : (dec l).1 < 0
    · exact absurd ⟨h0, .inl h1⟩ h
    · omega
theorem rText_int (most : Int) (l : List Int) (e : Int) : rText most l e = if (rInt 0 most l e).2.2 = 0 then (if (rInt 0 most l e).1 ≤ (rInt 0 most l e).2.1.length then ((rInt 0 most l e).2.1.take (rInt 0 most l e).1.toNat, (rInt 0 most l e).2.1.drop (rInt 0 most l e).1.toNat, 0) else ([], l, 13)) else ([], (rInt 0 most l e).2.1, (rInt 0 most l e).2.2) := by
  have hr := within_range 0 most l
  have h0 := within_nonneg most l
  unfold rText rInt textOf rStep
  generalize within 0 most l = t at *
  obtain ⟨d1, d2, d3⟩ := t
  dsimp only at hr h0 ⊢
  by_cases he : e = 0
  · by_cases h3 : d3 = 0
    · have hd := h0 h3
      have hl : ((l.drop d2.toNat).length : Int) = (l.length : Int) - d2 := by rw [List.length_drop]; omega
      by_cases h1 : d1 ≤ (l.length : Int) - d2
      · have h2 : d1 ≤ ((l.drop d2.toNat).length : Int) := by omega
        simp only [he, h3, if_true, h1, h2, List.drop_drop]
        rw [show (d2 + d1).toNat = d2.toNat + d1.toNat by omega]
      · have h2 : ¬ d1 ≤ ((l.drop d2.toNat).length : Int) := by omega
        simp only [he, h3, if_true, h1, h2, if_false]
        rfl
    · simp [he, h3]
  · simp [he]
theorem run_append_reads (W : World) (ty : TypeId) (base : Nat) (v : Value) (xs ys : List Int) (A : Option Addr) (c : Nat) (HO : W.ownsRow base 5 1 v xs.length (nums .u8 xs)) (HR : ReadsInt W .u8 A ys.length ys) (hbase : base ≤ W.heap.size) (hl : xs.length + ys.length ≤ 140737488355328) :
    ∃ v1 w1, (Builtin.append_ #[28, 28] ty #[v, .slice A ys.length c]).run Try.prog W = .ok v1 w1 ∧ w1.ownsRow base 5 1 v1 (xs ++ ys).length (nums .u8 (xs ++ ys)) ∧ W.grownBy w1 v.ownBlock ∧ (v1.ownBlock = v.ownBlock ∨ v1.ownBlock = some W.heap.size) := by
  obtain ⟨i0, hi, hz0, hz1, hz2⟩ := info_parts info5
  have ht := Try.underlying28
  cases A with
  | none =>
    have h0 : ys = [] := by
      rcases Nat.eq_zero_or_pos ys.length with h | h
      · exact List.eq_nil_of_length_eq_zero h
      · obtain ⟨ad, h', _⟩ := HR.2.2 h
        cases h'
    subst h0
    refine ⟨v, W, ?_, by simpa using HO, World.grownBy.refl W _, .inl rfl⟩
    rcases HO.2 with ⟨rfl, hn⟩ | ⟨g, cap, cur, rfl, _, _, hnc, _⟩
    · simp [Builtin.append_, run_underlying ht, sizeOf, typeInfo, hi, Builtin.lenOf, Builtin.firstCells]
    · simp [Builtin.append_, run_underlying ht, sizeOf, typeInfo, hi, Builtin.lenOf, Builtin.firstCells, hnc, storeCells]
  | some ad =>
    obtain ⟨v1, w1, hr, h1, h2, _, h3⟩ := run_append_own_at (P := Try.prog) W base 28 ty 5 i0 (.int .u8 0) 1 1 ht hi hz0 hz1 hz2 rfl (by decide) v xs.length (nums .u8 xs) HO ad ys.length c (nums .u8 ys) (by simp [nums]) (fun j u hu => by
        have hj : j < ys.length := by have := (List.getElem?_eq_some_iff.1 hu).1; simpa [nums] using this
        obtain ⟨ad', e, hc⟩ := HR.2.2 (by omega)
        obtain rfl : ad = ad' := by injection e
        rw [hc j hj]
        simp [nums, List.getElem?_eq_getElem hj] at hu
        simp [List.getD_eq_getElem?_getD, List.getElem?_eq_getElem hj, hu]) (fun u hu => by simp [nums] at hu; obtain ⟨x, _, rfl⟩ := hu; rfl) (by unfold maxLen; omega) (by omega) hbase
    refine ⟨v1, w1, hr, ?_, h2, h3⟩
    rw [List.length_append, nums_append]
    exact h1
end Go.Proofs.Ytldohapdhljoaaa.Wire
namespace Go.Proofs.Ytldohapdhljoaaa.Obj
open Go.RowKit Go.Proofs.YtldohapdhljoaaaW.PrintWords
set_option linter.unusedVariables false
set_option maxRecDepth 100000
structure AllF (base : Nat) (As : List Asr) (w : World) (F : Nat → Nat → Prop) (n : Nat) : Prop where
  lies : ∀ i k, F i k → base ≤ k ∧ k < n
  apart : ∀ i j k, F i k → F j k → i = j
  each : ∀ (i : Nat) (A : Asr), As[i]? = some A → A.holds w (F i)
def AllS (base : Nat) (As : List Asr) (w : World) : Prop := base ≤ w.heap.size ∧ ∃ F : Nat → Nat → Prop, AllF base As w F w.heap.size
theorem AllS.nil {base : Nat} {w : World} (h : base ≤ w.heap.size) : AllS base [] w := ⟨h, fun _ _ => False, fun _ _ h => h.elim, fun _ _ _ h => h.elim, fun i A h => by simp at h⟩
theorem AllF.more {base : Nat} {As : List Asr} {w : World} {F : Nat → Nat → Prop} {n m : Nat} (h : AllF base As w F n) (hm : n ≤ m) : AllF base As w F m := ⟨fun i k hk => ⟨(h.lies i k hk).1, Nat.lt_of_lt_of_le (h.lies i k hk).2 hm⟩, h.apart, h.each⟩
theorem AllF.below {base : Nat} {As : List Asr} {w w' : World} {F : Nat → Nat → Prop} (h : AllF base As w F w.heap.size) (hb : Below w.heap.size w w') : AllF base As w' F w.heap.size := ⟨h.lies, h.apart, fun i A hA => A.keep (fun k hk => hb.block k (h.lies i k hk).2) (h.each i A hA)⟩
theorem AllF.push {base : Nat} {As : List Asr} {A : Asr} {w : World} {F : Nat → Nat → Prop} {n : Nat} (h : AllF base As w F n) (h0 : base ≤ n) (hn : n ≤ w.heap.size) (hA : One A n w) : AllS base (As ++ [A]) w := by
  obtain ⟨S, s1, s2⟩ := hA
  refine ⟨Nat.le_trans h0 hn, fun i k => if i = As.length then S k else i < As.length ∧ F i k, fun i k hk => ?_, fun i j k hi hj => ?_, fun i B hB => ?_⟩
  · try dsimp only at hk
    split at hk
    · exact ⟨Nat.le_trans h0 (s1 k hk).1, (s1 k hk).2⟩
    · exact ⟨(h.lies i k hk.2).1, Nat.lt_of_lt_of_le (h.lies i k hk.2).2 hn⟩
  · try dsimp only at hi hj
    split at hi <;> split at hj
    · omega
    · have := (s1 k hi).1; have := (h.lies j k hj.2).2; omega
    · have := (s1 k hj).1; have := (h.lies i k hi.2).2; omega
    · exact h.apart i j k hi.2 hj.2
  · rcases Nat.lt_trichotomy i As.length with hi | hi | hi
    · rw [List.getElem?_append_left hi] at hB
      have e : (fun k => if i = As.length then S k else i < As.length ∧ F i k) = F i := by
        funext k; rw [if_neg (by omega)]; exact propext ⟨fun h => h.2, fun h => ⟨hi, h⟩⟩
      show B.holds w (fun k => if i = As.length then S k else i < As.length ∧ F i k)
      rw [e]; exact h.each i B hB
    · subst hi
      rw [List.getElem?_append_right (Nat.le_refl _), Nat.sub_self] at hB
      simp only [List.getElem?_cons_zero, Option.some.injEq] at hB
      subst hB
      have e : (fun k => if As.length = As.length then S k else As.length < As.length ∧ F As.length k) = S := by funext k; rw [if_pos rfl]
      show A.holds w (fun k => if As.length = As.length then S k else As.length < As.length ∧ F As.length k)
      rw [e]; exact s2
    · rw [List.getElem?_append_right (by omega)] at hB
      obtain ⟨m, hm⟩ : ∃ m, i - As.length = m + 1 := ⟨i - As.length - 1, by omega⟩
      rw [hm] at hB
      simp at hB
theorem AllF.step {base : Nat} {As : List Asr} {w w' : World} {F : Nat → Nat → Prop} (h : AllF base As w F w.heap.size) (h0 : base ≤ w.heap.size) (i : Nat) (hil : i < As.length) {A' : Asr} (hU : Upd A' (F i) w w') : AllS base (As.set i A') w' := by
  obtain ⟨hc, S', ⟨m1, m2⟩, hA⟩ := hU
  refine ⟨Nat.le_trans h0 hc.size, fun j k => if j = i then S' k else F j k, fun j k hk => ?_, fun j l k hj hl => ?_, fun j B hB => ?_⟩
  · try dsimp only at hk
    split at hk
    · rcases m1 k hk with h' | h'
      · exact ⟨(h.lies i k h').1, m2 k hk⟩
      · exact ⟨Nat.le_trans h0 h', m2 k hk⟩
    · exact ⟨(h.lies j k hk).1, Nat.lt_of_lt_of_le (h.lies j k hk).2 hc.size⟩
  · try dsimp only at hj hl
    have apart : ∀ l, l ≠ i → S' k → F l k → False := fun l hl hs hf => by
      rcases m1 k hs with h' | h'
      · exact hl (h.apart l i k hf h')
      · have := (h.lies l k hf).2; omega
    split at hj <;> split at hl
    · omega
    · exact (apart l (by assumption) hj hl).elim
    · exact (apart j (by assumption) hl hj).elim
    · exact h.apart j l k hj hl
  · by_cases e : j = i
    · subst e
      rw [List.getElem?_set_self hil] at hB
      injection hB with hB
      subst hB
      have e : (fun k => if j = j then S' k else F j k) = S' := by funext k; rw [if_pos rfl]
      show A'.holds w' (fun k => if j = j then S' k else F j k)
      rw [e]; exact hA
    · rw [List.getElem?_set_ne (Ne.symm e)] at hB
      have e2 : (fun k => if j = i then S' k else F j k) = F j := by funext k; rw [if_neg e]
      show B.holds w' (fun k => if j = i then S' k else F j k)
      rw [e2]
      exact B.keep (fun k hk => hc.block k (h.lies j k hk).2 (fun hs => e (h.apart j i k hk hs))) (h.each j B hB)
theorem AllF.same {base : Nat} {As : List Asr} {w w' : World} {F : Nat → Nat → Prop} (h : AllF base As w F w.heap.size) (i : Nat) (hil : i < As.length) {A' : Asr} (hU : Same A' (F i) w w') : AllF base (As.set i A') w' F w.heap.size := by
  refine ⟨h.lies, h.apart, fun j B hB => ?_⟩
  by_cases e : j = i
  · subst e
    rw [List.getElem?_set_self hil] at hB
    injection hB with hB
    subst hB
    exact hU.2
  · rw [List.getElem?_set_ne (Ne.symm e)] at hB
    exact B.keep (fun k hk => hU.1.block k (h.lies j k hk).2 (fun hs => e (h.apart j i k hk hs))) (h.each j B hB)
def St (w0 : World) (As : List Asr) (w : World) : Prop := AllS w0.heap.size As w ∧ Below w0.heap.size w0 w
theorem St.start (w : World) : St w [] w := ⟨AllS.nil (Nat.le_refl _), Below.refl _ _⟩
theorem St.below {w0 w w' : World} {As : List Asr} (h : St w0 As w) (hb : Below w.heap.size w w') : St w0 As w' := by
  obtain ⟨⟨h0, F, hF⟩, h2⟩ := h
  exact ⟨⟨Nat.le_trans h0 hb.size, F, (hF.below hb).more hb.size⟩, below_then h2 h2.size hb⟩
theorem St.push {w0 w w' : World} {As : List Asr} {A : Asr} (h : St w0 As w) (hb : Below w.heap.size w w') (hA : One A w.heap.size w') : St w0 (As ++ [A]) w' := by
  obtain ⟨⟨h0, F, hF⟩, h2⟩ := h
  exact ⟨(hF.below hb).push h0 hb.size hA, below_then h2 h2.size hb⟩
theorem St.at_ {w0 w : World} {As : List Asr} (h : St w0 As w) (i : Nat) {A : Asr} (hi : As[i]? = some A) :
    ∃ S : Nat → Prop, (∀ k, S k → w0.heap.size ≤ k ∧ k < w.heap.size) ∧ A.holds w S ∧ (∀ {A' : Asr} {w' : World}, Upd A' S w w' → St w0 (As.set i A') w') ∧
      ∀ {A' N : Asr} {w' : World}, Same A' S w w' → One N w.heap.size w' → St w0 (As.set i A' ++ [N]) w' := by
  obtain ⟨⟨h0, F, hF⟩, h2⟩ := h
  have hil : i < As.length := (List.getElem?_eq_some_iff.1 hi).1
  exact ⟨F i, hF.lies i, hF.each i A hi, fun {A' w'} hU => ⟨hF.step h0 i hil hU, h2.trans (hU.1.below h0 (fun k hk => (hF.lies i k hk).1))⟩,
    fun {A' N w'} hU hN => ⟨(hF.same i hil hU).push h0 hU.1.size hN, h2.trans (hU.1.below h0 (fun k hk => (hF.lies i k hk).1))⟩⟩
theorem St.left {w0 w : World} {As Bs : List Asr} (h : St w0 (As ++ Bs) w) : St w0 As w := by
  obtain ⟨⟨h0, F, hF⟩, h2⟩ := h
  refine ⟨⟨h0, F, hF.lies, hF.apart, fun i A hA => hF.each i A ?_⟩, h2⟩
  rw [List.getElem?_append_left (List.getElem?_eq_some_iff.1 hA).1]
  exact hA
end Go.Proofs.Ytldohapdhljoaaa.Obj
namespace Go.Proofs.Ytldohapdhljoaaa.Wire
open Go.RowKit Go.Proofs.YtldohapdhljoaaaW.PrintWords Go.Proofs.Ytldohapdhljoaaa.Obj
set_option linter.unusedVariables false
set_option maxRecDepth 100000
variable {TY : TypeId}
def byA (v : Value) (xs : List Int) : Asr where
  holds := fun w S => w.ownsRow 0 5 1 v xs.length (nums .u8 xs) ∧ ∀ k, v.ownBlock = some k → S k
  keep := fun {w w' S} h ⟨h1, h2⟩ => ⟨own_move h1 (fun k hk => h k (h2 k hk)), h2⟩
theorem byA_one {w w' : World} {v : Value} {xs : List Int} (h : w'.ownsRow w.heap.size 5 1 v xs.length (nums .u8 xs)) : One (byA v xs) w.heap.size w' :=
  ⟨fun k => v.ownBlock = some k, fun k hk => ⟨own_base h k hk, own_lt h k hk⟩, own_weaken h (Nat.zero_le _), fun _ hk => hk⟩
theorem _root_.Go.Proofs.Ytldohapdhljoaaa.Obj.St.bytes {w0 w : World} {As : List Asr} (h : St w0 As w) (i : Nat) {v : Value} {xs : List Int} (hi : As[i]? = some (byA v xs)) : ∃ A c, v = .slice A xs.length c ∧ xs.length ≤ c ∧ ReadsInt w .u8 A xs.length xs ∧ xs.length ≤ 9223372036854775807 := by
  obtain ⟨S, _, ⟨h2, _⟩, _, _⟩ := h.at_ i hi
  obtain ⟨A, c, rfl, hr⟩ := own_reads h2
  refine ⟨A, c, rfl, ?_, hr, hr.2.1⟩
  rcases h2.2 with ⟨h, h'⟩ | ⟨g, cap, cur, h, _, _, h1, _⟩
  · injection h with _ h _; omega
  · injection h with _ _ h; omega
theorem _root_.Go.Proofs.Ytldohapdhljoaaa.Obj.St.wnum {w0 w : World} {As : List Asr} (h : St w0 As w) (i g : Nat) (xs : List Int) (n : Int) (hi : As[i]? = some (wrA TY g xs)) (h0 : -9223372036854775808 ≤ n) (h1 : n ≤ 9223372036854775807) (hl : xs.length ≤ 1000000000) :
    Calls Try.prog 90 #[.pointer (some ⟨g, 0, none⟩), .int .i64 n] w fun e w' => e = .returned (.tuple #[]) ∧ St w0 (As.set i (wrA TY g (xs ++ vb (zig n)))) w' := by
  obtain ⟨S, s1, s2, s3, s4⟩ := h.at_ i hi
  exact (wnum_calls g xs n w S s2 (fun k hk => (s1 k hk).2) h0 h1 hl).mono fun e w' ⟨he, hU⟩ => ⟨he, s3 hU⟩
theorem _root_.Go.Proofs.Ytldohapdhljoaaa.Obj.St.wtext {w0 w : World} {As : List Asr} (h : St w0 As w) (i g : Nat) (xs : List Int) (A : Option Addr) (c : Nat) (l : List Int) (hi : As[i]? = some (wrA TY g xs)) (hR : ReadsInt w0 .u8 A l.length l) (hl : xs.length + l.length ≤ 999999990) :
    Calls Try.prog 94 #[.pointer (some ⟨g, 0, none⟩), .slice A l.length c] w fun e w' => e = .returned (.tuple #[]) ∧ St w0 (As.set i (wrA TY g ((xs ++ vb (zig l.length)) ++ l))) w' := by
  obtain ⟨S, s1, s2, s3, s4⟩ := h.at_ i hi
  have hR1 : RB w (fun k => k < w0.heap.size) A l := Foot.step (RB.old hR) (fun k hk _ => h.2.block k hk)
  exact (wtext_calls g xs A c l w S _ s2 (fun k hk => (s1 k hk).2) hR1 (fun k hk hs => by have := (s1 k hs).1; omega) hl).mono fun e w' ⟨he, hU⟩ => ⟨he, s3 hU⟩
theorem _root_.Go.Proofs.Ytldohapdhljoaaa.Obj.St.wbytes {w0 w : World} {As : List Asr} (h : St w0 As w) (i g : Nat) (xs : List Int) (hi : As[i]? = some (wrA TY g xs)) (hl : xs.length ≤ 2000000000) :
    Calls Try.prog 47 #[.pointer (some ⟨g, 0, none⟩)] w fun e w' => ∃ v, e = .returned v ∧ St w0 (As ++ [byA v xs]) w' := by
  obtain ⟨S, s1, s2, s3, s4⟩ := h.at_ i hi
  exact (wbytes_calls g xs w S s2 hl).mono fun e w' ⟨v, he, ho, hb⟩ => ⟨v, he, h.push hb (byA_one ho)⟩
theorem _root_.Go.Proofs.Ytldohapdhljoaaa.Obj.St.newR {w0 w : World} {As : List Asr} (h : St w0 As w) (A : Option Addr) (c : Nat) (l : List Int) (hR : ReadsInt w .u8 A l.length l) (hl : l.length ≤ 140737488351232) :
    Calls Try.prog 24 #[.slice A l.length c] w fun e w' => ∃ g, e = .returned (.pointer (some ⟨g, 0, none⟩)) ∧ St w0 (As ++ [rdA g l 0]) w' :=
  (newReader_calls A c l w hR hl).mono fun e w' ⟨g, he, ho, hb⟩ => ⟨g, he, h.push hb ho⟩
theorem _root_.Go.Proofs.Ytldohapdhljoaaa.Obj.St.rnum {w0 w : World} {As : List Asr} (h : St w0 As w) (i g : Nat) (l : List Int) (e : Int) (hi : As[i]? = some (rdA g l e)) (hby : ∀ x ∈ l, 0 ≤ x ∧ x < 256) :
    Calls Try.prog 78 #[.pointer (some ⟨g, 0, none⟩)] w fun r w' => r = .returned (.int .i64 (rNum l e).1) ∧ St w0 (As.set i (rdA g (rNum l e).2.1 (rNum l e).2.2)) w' := by
  obtain ⟨S, s1, s2, s3, s4⟩ := h.at_ i hi
  exact (rnum_calls g l e w S s2 (fun k hk => (s1 k hk).2) hby).mono fun r w' ⟨hr, hS⟩ => ⟨hr, s3 (hS.upd (fun k hk => (s1 k hk).2))⟩
theorem _root_.Go.Proofs.Ytldohapdhljoaaa.Obj.St.rint {w0 w : World} {As : List Asr} (h : St w0 As w) (i g : Nat) (least most : Int) (l : List Int) (e : Int) (hi : As[i]? = some (rdA g l e)) (hby : ∀ x ∈ l, 0 ≤ x ∧ x < 256) :
    Calls Try.prog 82 #[.pointer (some ⟨g, 0, none⟩), .int .i64 least, .int .i64 most] w fun r w' => r = .returned (.int .i64 (rInt least most l e).1) ∧ St w0 (As.set i (rdA g (rInt least most l e).2.1 (rInt least most l e).2.2)) w' := by
  obtain ⟨S, s1, s2, s3, s4⟩ := h.at_ i hi
  exact (rint_calls g least most l e w S s2 (fun k hk => (s1 k hk).2) hby).mono fun r w' ⟨hr, hS⟩ => ⟨hr, s3 (hS.upd (fun k hk => (s1 k hk).2))⟩
theorem _root_.Go.Proofs.Ytldohapdhljoaaa.Obj.St.rtext {w0 w : World} {As : List Asr} (h : St w0 As w) (i g : Nat) (most : Int) (l : List Int) (e : Int) (hi : As[i]? = some (rdA g l e)) (hl : l.length ≤ 140737488351232) (hby : ∀ x ∈ l, 0 ≤ x ∧ x < 256) (hm : -9223372036854775808 ≤ most) (hm' : most ≤ 9223372036854775807) :
    Calls Try.prog 85 #[.pointer (some ⟨g, 0, none⟩), .int .i64 most] w fun r w' => ∃ v, r = .returned v ∧ St w0 (As.set i (rdA g (rText most l e).2.1 (rText most l e).2.2) ++ [byA v (rText most l e).1]) w' := by
  obtain ⟨S, s1, s2, s3, s4⟩ := h.at_ i hi
  refine (rtext_calls g most l e w S s2 (fun k hk => (s1 k hk).2) hl hby).mono fun r w' ⟨v, hr, ho, hS⟩ => ⟨v, hr, ?_⟩
  exact s4 hS (byA_one ho)
theorem reads_of_C {w : World} {A : Option Addr} {n : Nat} {l : List Int} (h : Kd.C (Kd.int .u8) w A n l) : ReadsInt w .u8 A n l := by
  obtain ⟨h1, h2, h3⟩ := h
  refine ⟨h1, h2, fun hn => ?_⟩
  obtain ⟨ad, e, hc⟩ := h3 hn
  refine ⟨ad, e, fun j hj => ?_⟩
  obtain ⟨cc, _, hK, hcell⟩ := hc j (l[j]'(by omega)) (List.getElem?_eq_getElem _)
  have hK' : cc = [.int .u8 (l[j]'(by omega))] := hK
  have h0 := hcell 0 (.int .u8 (l[j]'(by omega))) (by rw [hK']; rfl)
  have e2 : (Kd.int .u8).sz = 1 := rfl
  rw [e2, Nat.mul_one, Nat.add_zero] at h0
  rw [h0, List.getD_eq_getElem?_getD, List.getElem?_eq_getElem (by omega)]
  rfl
theorem wf_u16 {n : Int} (h : (Lit.int .u16 n).wf = true) : 0 ≤ n ∧ n ≤ 65535 := by
  have e1 : IntKind.u16.min = 0 := by decide
  have e2 : IntKind.u16.max = 65535 := by decide
  simp [Lit.wf, e1, e2] at h
  omega
theorem wf_i64 {n : Int} (h : (Lit.int .i64 n).wf = true) : -9223372036854775808 ≤ n ∧ n ≤ 9223372036854775807 := by
  have e1 : IntKind.i64.min = -9223372036854775808 := by decide
  have e2 : IntKind.i64.max = 9223372036854775807 := by decide
  simp [Lit.wf, e1, e2] at h
  omega
theorem wf_u8 {n : Int} (h : (Lit.int .u8 n).wf = true) : 0 ≤ n ∧ n < 256 := by
  have e1 : IntKind.u8.min = 0 := by decide
  have e2 : IntKind.u8.max = 255 := by decide
  simp [Lit.wf, e1, e2] at h
  omega
theorem by_put {w w1 : World} {v v1 : Value} {xs ys : List Int} {S : Nat → Prop} {m : Nat} (h : (byA v xs).holds w S) (hS : ∀ k, S k → m ≤ k ∧ k < w.heap.size) (hg : w.grownBy w1 v.ownBlock) (ho : w1.ownsRow 0 5 1 v1 ys.length (nums .u8 ys)) (hat : v1.ownBlock = v.ownBlock ∨ ∃ b, v1.ownBlock = some b ∧ w.heap.size ≤ b) : Upd (byA v1 ys) S w w1 := by
  refine ⟨(Ch.refl S w).grown hg (fun k hk => .inl (h.2 k hk)), fun k => S k ∨ (w.heap.size ≤ k ∧ k < w1.heap.size), ⟨fun k hk => hk.imp id (fun h => h.1), fun k hk => ?_⟩, ho, fun k hk => ?_⟩
  · rcases hk with hk | hk
    · exact Nat.lt_of_lt_of_le (hS k hk).2 hg.size
    · exact hk.2
  · rcases hat with e | ⟨b, e, hb⟩
    · exact .inl (h.2 k (e.symm.trans hk))
    · rw [e] at hk; injection hk with hk; subst hk
      exact .inr ⟨hb, own_lt ho _ e⟩
theorem newW (w : World) (T : TypeId) : One (wrA T w.heap.size []) w.heap.size (w.alloc (.cells #[.slice none 0 0] T)) :=
  ⟨fun k => k = w.heap.size, fun k hk => ⟨by omega, by simp [hk]⟩, _, heap_alloc_new w _, own_nil _ _ _ _, rfl, fun k hk => by cases hk⟩
theorem newB (w : World) (xs : List Int) (hm : xs.length ≤ 9223372036854775807) : One (byA (.slice (some ⟨w.heap.size, 0, none⟩) xs.length xs.length) xs) w.heap.size (w.alloc (.cells (nums .u8 xs).toArray 5)) :=
  byA_one (own_lit w w.heap.size 5 .u8 xs (Nat.le_refl _) hm)
theorem _root_.Go.Proofs.Ytldohapdhljoaaa.Obj.St.rend {w0 w : World} {As : List Asr} (h : St w0 As w) (i g : Nat) (l : List Int) (e : Int) (hi : As[i]? = some (rdA g l e)) :
    Calls Try.prog 26 #[.pointer (some ⟨g, 0, none⟩)] w fun r w' => r = .returned (.int .i64 (rEnd l e)) ∧ w = w' := by
  obtain ⟨S, s1, s2, s3, s4⟩ := h.at_ i hi
  exact rend_calls g l e w S s2
end Go.Proofs.Ytldohapdhljoaaa.Wire
namespace Go.Proofs.Ytldohapdhljoaaa.Print
open Go.RowKit Go.Proofs.YtldohapdhljoaaaW.PrintWords Go.Proofs.YtldohapdhljoaaaW.PrintLast
set_option linter.unusedVariables false
theorem pick_load {P : Program} {o : Oper} {ρ : Operand → Value} {ty : TypeId} {x : Operand} {w w1 : World} {v pv : Value} (ho : o.op = .load ty x) (hx : ρ x = pv) (h : (Instr.loadAt ty pv).run P w = .ok v w1) : (execOp ρ o).run P w = .ok (.value v) w1 := by
  unfold execOp
  simp only [ho, hx, Sem.run_bind, h, Result.andThen_ok, Sem.run_pure]
theorem pick_loadRow {P : Program} {o : Oper} {ρ : Operand → Value} {ty : TypeId} {x : Operand} {w : World} (ho : o.op = .load ty x) (g : Nat) (hx : ρ x = .pointer (some ⟨g, 0, none⟩)) (t : TypeId) (cs : Array Value) (fr : Nat × Nat) (d : TypeDesc) (hg : w.heap[g]? = some (.cells cs t fr))
    (hu : P.underlying ty = some d) (hd : (match d with | .struct _ | .array _ _ => true | _ => false) = true) (hi : (P.info? ty).map (·.size) = some cs.size) : (execOp ρ o).run P w = .ok (.value (.agg cs)) w := by
  unfold execOp
  simp only [ho, hx, Instr.loadAt, Instr.sureAddr, Sem.run_bind, Sem.run_pure, Result.andThen_ok, run_loadVar_row w g t ty cs fr d hg hu hd hi]
theorem pick_store {P : Program} {o : Oper} {ρ : Operand → Value} {ty : TypeId} {x y : Operand} {w : World} (ho : o.op = .store ty x y) (g : Nat) (cells : Array Value) (hx : ρ x = .pointer (some ⟨g, 0, none⟩)) (hy : ρ y = .agg cells)
    (t : TypeId) (old : Array Value) (hg : w.heap[g]? = some (.cells old t (0, 0))) (hi : (P.info? ty).map (·.size) = some cells.size) (hold : old.size = cells.size) (h1 : cells.all (·.oneCell') = true) : (execOp ρ o).run P w = .ok .skip (w.setRow g cells) := by
  unfold execOp
  simp only [ho, hx, hy, Instr.storeAt, Instr.sureAddr, Sem.run_bind, Sem.run_pure, Result.andThen_ok, run_storeVar_row w g t ty old cells hg hi hold h1]
theorem pick_new (w : World) (o : Obj) : (w.alloc o).heap[w.heap.size]? = some o := heap_alloc_new w o
theorem pick_cell {w : World} {b : Nat} {cs : Array Value} {t : TypeId} {fr : Nat × Nat} (h : w.heap[b]? = some (.cells cs t fr)) (j : Nat) {v : Value} (hv : cs[j]? = some v) : w.cell? ⟨b, j, none⟩ = some v := by
  simp [World.cell?, h, hv]
theorem pick_loadAt {P : Program} (w : World) (p : Addr) (ty : TypeId) (cs : List Value) (d : TypeDesc) (hc : ∀ j v, cs[j]? = some v → w.cell? (p.add j) = some v)
    (hu : P.underlying ty = some d) (hd : d.isRow = true) (hi : (P.info? ty).map (·.size) = some cs.length) : (Instr.loadAt ty (.pointer (some p))).run P w = .ok (.agg cs.toArray) w := by
  have hl : (loadCells p cs.length).run P w = .ok cs.toArray w := run_loadCells_list (P := P) w p cs hc
  obtain ⟨i, hq, hs⟩ := Option.map_eq_some_iff.1 hi
  have hagg : (isAgg ty).run P w = .ok true w := by
    unfold isAgg
    rw [Sem.run_bind, run_underlying hu w]
    cases d <;> simp_all
  simp [Instr.loadAt, Instr.sureAddr, loadVar, Sem.run_bind, hagg, sizeOf, typeInfo, hq, hs, hl]
theorem hd_gate {P : Program} {ops : Array Oper} {Q : Exit → Act → World → Prop} {rest : List Oper} {o : Oper} {a : Act} {w : World} (N : Tmp) (_h : o.dst = some N) (h : wpList P ops Q (o :: rest) a w) : wpList P ops Q (o :: rest) a w := h
theorem hd_gateS {P : Program} {ops : Array Oper} {Q : Exit → Act → World → Prop} {rest : List Oper} {o : Oper} {a : Act} {w : World} (p : Tmp) (x : Operand) (t : TypeId) (_h : o.op = .store t (.tmp p) x) (h : wpList P ops Q (o :: rest) a w) : wpList P ops Q (o :: rest) a w := h
theorem hd_run {P : Program} {ops : Array Oper} {Q : Exit → Act → World → Prop} {rest : List Oper} {o : Oper} {a : Act} {w : World} (hgd : Region.wanted o (yielded ops a.tmps) = true) {v : Value} {w1 : World}
    (hrun : (execOp a.eval o).run P w = .ok (.value v) w1) (h : wpList P ops Q rest (a.put o.dst v) w1) : wpList P ops Q (o :: rest) a w :=
  wpList_step fun K hK => by
    rw [if_pos hgd]
    unfold Oper.wp
    rw [hrun, Oper.upon_value]
    exact hK _ _ h
theorem hd_runS {P : Program} {ops : Array Oper} {Q : Exit → Act → World → Prop} {rest : List Oper} {o : Oper} {a : Act} {w : World} (hgd : Region.wanted o (yielded ops a.tmps) = true) {w1 : World}
    (hrun : (execOp a.eval o).run P w = .ok .skip w1) (h : wpList P ops Q rest (a.put o.dst undef) w1) : wpList P ops Q (o :: rest) a w :=
  wpList_step fun K hK => by
    rw [if_pos hgd]
    unfold Oper.wp
    rw [hrun, Oper.upon_skip]
    exact hK _ _ h
theorem hd_later {W W' : World} {b : Nat} {o : Obj} (h : W.heap[b]? = some o) (hb : Below W.heap.size W W') : W'.heap[b]? = some o := (hb.block b (Array.getElem?_eq_some_iff.1 h).1).trans h
end Go.Proofs.Ytldohapdhljoaaa.Print
