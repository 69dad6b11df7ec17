/- What a call may write: the blocks of one object, and new ones. -/
import Derived.Test.YtpbkibafhabahaaWWords
import Derived.Test.YtpbkibafhabahaaWMore
import Derived.Test.YtpbkibafhabahaaWShare
namespace Go.Proofs.Ytpbkibafhabahaa.Obj
open Go.RowKit Go.Proofs.YtpbkibafhabahaaW.PrintWords
set_option linter.unusedVariables false

/-- Of the blocks that were there those in S alone may have turned. -/
structure Ch (S : Nat → Prop) (w w' : World) : Prop where
  os : w'.os = w.os
  tape : w'.tape = w.tape
  output : w'.output = w.output
  size : w.heap.size ≤ w'.heap.size
  block : ∀ k, k < w.heap.size → ¬ S k → w'.heap[k]? = w.heap[k]?
theorem Ch.refl (S : Nat → Prop) (w : World) : Ch S w w := ⟨rfl, rfl, rfl, Nat.le_refl _, fun _ _ _ => rfl⟩
theorem Ch.mono {S S' : Nat → Prop} {w w' : World} (h : Ch S w w') (hs : ∀ k, k < w.heap.size → S k → S' k) : Ch S' w w' := ⟨h.os, h.tape, h.output, h.size, fun k hk hn => h.block k hk (fun hS => hn (hs k hk hS))⟩
/-- Two steps: the second one may write what the first may, and what the first has made. -/
theorem Ch.trans {S S' : Nat → Prop} {a b c : World} (h : Ch S a b) (k : Ch S' b c) (hs : ∀ i, S' i → S i ∨ a.heap.size ≤ i) : Ch S a c :=
  ⟨k.os.trans h.os, k.tape.trans h.tape, k.output.trans h.output, Nat.le_trans h.size k.size, fun i hi hn => (k.block i (Nat.lt_of_lt_of_le hi h.size) (fun hS => by
    rcases hs i hS with h1 | h1
    · exact hn h1
    · omega)).trans (h.block i hi hn)⟩
theorem Ch.ofBelow {S : Nat → Prop} {w w' : World} (h : Below w.heap.size w w') : Ch S w w' := ⟨h.os, h.tape, h.output, h.size, fun k hk _ => h.block k hk⟩
theorem Ch.below {S : Nat → Prop} {w w' : World} {B : Nat} (h : Ch S w w') (hB : B ≤ w.heap.size) (hs : ∀ k, S k → B ≤ k) : Below B w w' :=
  ⟨h.os, h.tape, h.output, h.size, fun k hk => h.block k (by omega) (fun hS => by have := hs k hS; omega)⟩
theorem Ch.alloc {S : Nat → Prop} {a w : World} (h : Ch S a w) (o : Obj) : Ch S a (w.alloc o) := h.trans (Ch.ofBelow ((Below.refl _ w).alloc (Nat.le_refl _) o)) (S' := fun _ => False) (fun _ h => h.elim)
theorem Ch.drew {S : Nat → Prop} {a w : World} (h : Ch S a w) : Ch S a w.drew := ⟨h.os, h.tape, h.output, h.size, h.block⟩
theorem Ch.setCell {S : Nat → Prop} {a w : World} (h : Ch S a w) {p : Addr} (hp : S p.block ∨ a.heap.size ≤ p.block) (u : Value) : Ch S a (w.setCell p u) :=
  h.trans ⟨rfl, rfl, rfl, by simp [World.setCell], fun k hk hn => Below.heap_setCell w p u k hn⟩ (S' := fun k => k = p.block) (fun i hi => by rw [hi]; exact hp)
theorem Ch.grown {S : Nat → Prop} {a w w' : World} {row : Option Nat} (h : Ch S a w) (hg : w.grownBy w' row) (hr : ∀ k, row = some k → S k ∨ a.heap.size ≤ k) : Ch S a w' :=
  h.trans ⟨hg.os, hg.tape, hg.output, hg.size, fun k hk hn => hg.block k hk (fun e => hn e.symm)⟩ (S' := fun k => row = some k) hr
/-- What lies apart from S lies as it lay. -/
theorem Ch.keep {S : Nat → Prop} {w w' : World} (h : Ch S w w') {k : Nat} (hk : k < w.heap.size) (hn : ¬ S k) : w'.heap[k]? = w.heap[k]? := h.block k hk hn

/-- What an object's blocks may be behind a step: those that they were, and new ones. -/
def More (S : Nat → Prop) (w : World) (S' : Nat → Prop) (w' : World) : Prop := (∀ k, S' k → S k ∨ w.heap.size ≤ k) ∧ (∀ k, S' k → k < w'.heap.size)
/-- An object that lies in S, of which P is known. -/
structure Asr where
  holds : World → (Nat → Prop) → Prop
  keep : ∀ {w w' : World} {S : Nat → Prop}, (∀ k, S k → w'.heap[k]? = w.heap[k]?) → holds w S → holds w' S
/-- The object is now like this, and nothing else that was there has turned. -/
def Upd (A : Asr) (S : Nat → Prop) (w w' : World) : Prop := Ch S w w' ∧ ∃ S', More S w S' w' ∧ A.holds w' S'
theorem Upd.refl0 {A : Asr} {S : Nat → Prop} {w : World} (h : A.holds w S) (hS : ∀ k, S k → k < w.heap.size) : Upd A S w w := ⟨Ch.refl _ _, S, ⟨fun _ => .inl, hS⟩, h⟩
/-- New blocks first, then the step. -/
theorem upd_after {A : Asr} {S : Nat → Prop} {w w1 w2 : World} (hb : Below w.heap.size w w1) (h : Upd A S w1 w2) : Upd A S w w2 := by
  obtain ⟨hc, S', ⟨m1, m2⟩, hA⟩ := h
  refine ⟨(Ch.ofBelow (S := S) hb).trans hc (fun i hi => .inl hi), S', ⟨fun k hk => ?_, m2⟩, hA⟩
  rcases m1 k hk with h | h
  · exact .inl h
  · exact .inr (Nat.le_trans hb.size h)
/-- The object, in its own blocks still, is now like this; nothing else that was there has turned. -/
def Same (A : Asr) (S : Nat → Prop) (w w' : World) : Prop := Ch S w w' ∧ A.holds w' S
theorem Same.upd {A : Asr} {S : Nat → Prop} {w w' : World} (h : Same A S w w') (hS : ∀ k, S k → k < w.heap.size) : Upd A S w w' := ⟨h.1, S, ⟨fun _ => .inl, fun k hk => Nat.lt_of_lt_of_le (hS k hk) h.1.size⟩, h.2⟩
theorem Same.refl0 {A : Asr} {S : Nat → Prop} {w : World} (h : A.holds w S) : Same A S w w := ⟨Ch.refl _ _, h⟩
theorem same_after {A : Asr} {S : Nat → Prop} {w w1 w2 : World} (hb : Below w.heap.size w w1) (h : Same A S w1 w2) : Same A S w w2 := ⟨(Ch.ofBelow (S := S) hb).trans h.1 (fun i hi => .inl hi), h.2⟩
/-- An object that the world holds, in blocks from base on. -/
def One (A : Asr) (base : Nat) (w : World) : Prop := ∃ S, (∀ k, S k → base ≤ k ∧ k < w.heap.size) ∧ A.holds w S
/-- Two objects that lie apart. -/
def Two (A B : Asr) (base : Nat) (w : World) : Prop := ∃ S T, (∀ k, S k → base ≤ k ∧ k < w.heap.size) ∧ (∀ k, T k → base ≤ k ∧ k < w.heap.size) ∧ (∀ k, S k → ¬ T k) ∧ A.holds w S ∧ B.holds w T
def sepA (A B : Asr) : Asr where
  holds := fun w U => ∃ S T : Nat → Prop, (∀ k, S k → U k) ∧ (∀ k, T k → U k) ∧ (∀ k, S k → ¬ T k) ∧ A.holds w S ∧ B.holds w T
  keep := fun {w w' U} h ⟨S, T, h1, h2, h3, h4, h5⟩ => ⟨S, T, h1, h2, h3, A.keep (fun k hk => h k (h1 k hk)) h4, B.keep (fun k hk => h k (h2 k hk)) h5⟩
theorem sep_comm {A B : Asr} {w : World} {U : Nat → Prop} (h : (sepA A B).holds w U) : (sepA B A).holds w U := by
  obtain ⟨S, T, h1, h2, h3, h4, h5⟩ := h
  exact ⟨T, S, h2, h1, fun k ht hs => h3 k hs ht, h5, h4⟩
theorem sep_left {A B C : Asr} {w : World} {U : Nat → Prop} (h : (sepA A (sepA B C)).holds w U) : (sepA B (sepA A C)).holds w U := by
  obtain ⟨S, T, h1, h2, h3, h4, S', T', k1, k2, k3, k4, k5⟩ := h
  refine ⟨S', fun k => S k ∨ T' k, fun k hk => h2 k (k1 k hk), fun k hk => hk.elim (h1 k) (fun ht => h2 k (k2 k ht)), fun k hs ht => ht.elim (fun h => h3 k h (k1 k hs)) (k3 k hs), k4, S, T', fun _ => .inl, fun _ => .inr, fun k hs ht => h3 k hs (k2 k ht), h4, k5⟩
/-- A step on the first of several objects leaves the others. -/
theorem One.step {A B A' : Asr} {base : Nat} {w w' : World} {S T : Nat → Prop} (hS : ∀ k, S k → base ≤ k ∧ k < w.heap.size) (hT : ∀ k, T k → base ≤ k ∧ k < w.heap.size) (hd : ∀ k, S k → ¬ T k) (hb : base ≤ w.heap.size) (hB : B.holds w T) (hU : Upd A' S w w') : One (sepA A' B) base w' ∧ Below base w w' := by
  obtain ⟨hc, S', ⟨m1, m2⟩, hA⟩ := hU
  refine ⟨⟨fun k => S' k ∨ T k, fun k hk => ?_, S', T, fun _ => .inl, fun _ => .inr, fun k hs ht => ?_, hA, B.keep (fun k hk => hc.block k (hT k hk).2 (fun hs => hd k hs hk)) hB⟩, hc.below hb (fun k hk => (hS k hk).1)⟩
  · rcases hk with hk | hk
    · rcases m1 k hk with h | h
      · exact ⟨(hS k h).1, m2 k hk⟩
      · exact ⟨Nat.le_trans hb h, m2 k hk⟩
    · exact ⟨(hT k hk).1, Nat.lt_of_lt_of_le (hT k hk).2 hc.size⟩
  · rcases m1 k hs with h | h
    · exact hd k h ht
    · have := (hT k ht).2; omega
end Go.Proofs.Ytpbkibafhabahaa.Obj
