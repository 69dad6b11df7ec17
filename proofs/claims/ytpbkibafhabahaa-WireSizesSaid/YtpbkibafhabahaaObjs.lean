/- Several objects that lie apart, in blocks of the call's own. -/
import Derived.Test.YtpbkibafhabahaaObj
namespace Go.Proofs.Ytpbkibafhabahaa.Obj
open Go.RowKit Go.Proofs.YtpbkibafhabahaaW.PrintWords
set_option linter.unusedVariables false

/-- The objects As lie apart, object i in F i, in blocks from base on, ahead of block n. -/
structure AllF (base : Nat) (As : List Asr) (w : World) (F : Nat → Nat → Prop) (n : Nat) : Prop where
  lies : ∀ i k, F i k → base ≤ k ∧ k < n
  apart : ∀ i j k, F i k → F j k → i = j
  each : ∀ (i : Nat) (A : Asr), As[i]? = some A → A.holds w (F i)
/-- The objects As lie apart, in blocks from base on. -/
def AllS (base : Nat) (As : List Asr) (w : World) : Prop := base ≤ w.heap.size ∧ ∃ F : Nat → Nat → Prop, AllF base As w F w.heap.size
theorem AllS.nil {base : Nat} {w : World} (h : base ≤ w.heap.size) : AllS base [] w := ⟨h, fun _ _ => False, fun _ _ h => h.elim, fun _ _ _ h => h.elim, fun i A h => by simp at h⟩
theorem AllF.more {base : Nat} {As : List Asr} {w : World} {F : Nat → Nat → Prop} {n m : Nat} (h : AllF base As w F n) (hm : n ≤ m) : AllF base As w F m := ⟨fun i k hk => ⟨(h.lies i k hk).1, Nat.lt_of_lt_of_le (h.lies i k hk).2 hm⟩, h.apart, h.each⟩
theorem AllF.below {base : Nat} {As : List Asr} {w w' : World} {F : Nat → Nat → Prop} (h : AllF base As w F w.heap.size) (hb : Below w.heap.size w w') : AllF base As w' F w.heap.size := ⟨h.lies, h.apart, fun i A hA => A.keep (fun k hk => hb.block k (h.lies i k hk).2) (h.each i A hA)⟩
/-- Another object, in new blocks. -/
theorem AllF.push {base : Nat} {As : List Asr} {A : Asr} {w : World} {F : Nat → Nat → Prop} {n : Nat} (h : AllF base As w F n) (h0 : base ≤ n) (hn : n ≤ w.heap.size) (hA : One A n w) : AllS base (As ++ [A]) w := by
  obtain ⟨S, s1, s2⟩ := hA
  refine ⟨Nat.le_trans h0 hn, fun i k => if i = As.length then S k else i < As.length ∧ F i k, fun i k hk => ?_, fun i j k hi hj => ?_, fun i B hB => ?_⟩
  · try dsimp only at hk
    split at hk
    · exact ⟨Nat.le_trans h0 (s1 k hk).1, (s1 k hk).2⟩
    · exact ⟨(h.lies i k hk.2).1, Nat.lt_of_lt_of_le (h.lies i k hk.2).2 hn⟩
  · try dsimp only at hi hj
    split at hi <;> split at hj
    · omega
    · have := (s1 k hi).1; have := (h.lies j k hj.2).2; omega
    · have := (s1 k hj).1; have := (h.lies i k hi.2).2; omega
    · exact h.apart i j k hi.2 hj.2
  · rcases Nat.lt_trichotomy i As.length with hi | hi | hi
    · rw [List.getElem?_append_left hi] at hB
      have e : (fun k => if i = As.length then S k else i < As.length ∧ F i k) = F i := by
        funext k; rw [if_neg (by omega)]; exact propext ⟨fun h => h.2, fun h => ⟨hi, h⟩⟩
      show B.holds w (fun k => if i = As.length then S k else i < As.length ∧ F i k)
      rw [e]; exact h.each i B hB
    · subst hi
      rw [List.getElem?_append_right (Nat.le_refl _), Nat.sub_self] at hB
      simp only [List.getElem?_cons_zero, Option.some.injEq] at hB
      subst hB
      have e : (fun k => if As.length = As.length then S k else As.length < As.length ∧ F As.length k) = S := by funext k; rw [if_pos rfl]
      show A.holds w (fun k => if As.length = As.length then S k else As.length < As.length ∧ F As.length k)
      rw [e]; exact s2
    · rw [List.getElem?_append_right (by omega)] at hB
      obtain ⟨m, hm⟩ : ∃ m, i - As.length = m + 1 := ⟨i - As.length - 1, by omega⟩
      rw [hm] at hB
      simp at hB
/-- One of them takes a step. -/
theorem AllF.step {base : Nat} {As : List Asr} {w w' : World} {F : Nat → Nat → Prop} (h : AllF base As w F w.heap.size) (h0 : base ≤ w.heap.size) (i : Nat) (hil : i < As.length) {A' : Asr} (hU : Upd A' (F i) w w') : AllS base (As.set i A') w' := by
  obtain ⟨hc, S', ⟨m1, m2⟩, hA⟩ := hU
  refine ⟨Nat.le_trans h0 hc.size, fun j k => if j = i then S' k else F j k, fun j k hk => ?_, fun j l k hj hl => ?_, fun j B hB => ?_⟩
  · try dsimp only at hk
    split at hk
    · rcases m1 k hk with h' | h'
      · exact ⟨(h.lies i k h').1, m2 k hk⟩
      · exact ⟨Nat.le_trans h0 h', m2 k hk⟩
    · exact ⟨(h.lies j k hk).1, Nat.lt_of_lt_of_le (h.lies j k hk).2 hc.size⟩
  · try dsimp only at hj hl
    have apart : ∀ l, l ≠ i → S' k → F l k → False := fun l hl hs hf => by
      rcases m1 k hs with h' | h'
      · exact hl (h.apart l i k hf h')
      · have := (h.lies l k hf).2; omega
    split at hj <;> split at hl
    · omega
    · exact (apart l (by assumption) hj hl).elim
    · exact (apart j (by assumption) hl hj).elim
    · exact h.apart j l k hj hl
  · by_cases e : j = i
    · subst e
      rw [List.getElem?_set_self hil] at hB
      injection hB with hB
      subst hB
      have e : (fun k => if j = j then S' k else F j k) = S' := by funext k; rw [if_pos rfl]
      show A'.holds w' (fun k => if j = j then S' k else F j k)
      rw [e]; exact hA
    · rw [List.getElem?_set_ne (Ne.symm e)] at hB
      have e2 : (fun k => if j = i then S' k else F j k) = F j := by funext k; rw [if_neg e]
      show B.holds w' (fun k => if j = i then S' k else F j k)
      rw [e2]
      exact B.keep (fun k hk => hc.block k (h.lies j k hk).2 (fun hs => e (h.apart j i k hk hs))) (h.each j B hB)
/-- One of them takes a step where it lies. -/
theorem AllF.same {base : Nat} {As : List Asr} {w w' : World} {F : Nat → Nat → Prop} (h : AllF base As w F w.heap.size) (i : Nat) (hil : i < As.length) {A' : Asr} (hU : Same A' (F i) w w') : AllF base (As.set i A') w' F w.heap.size := by
  refine ⟨h.lies, h.apart, fun j B hB => ?_⟩
  by_cases e : j = i
  · subst e
    rw [List.getElem?_set_self hil] at hB
    injection hB with hB
    subst hB
    exact hU.2
  · rw [List.getElem?_set_ne (Ne.symm e)] at hB
    exact B.keep (fun k hk => hU.1.block k (h.lies j k hk).2 (fun hs => e (h.apart j i k hk hs))) (h.each j B hB)

/-- The world holds these, apart, in new blocks; nothing else has turned. -/
def St (w0 : World) (As : List Asr) (w : World) : Prop := AllS w0.heap.size As w ∧ Below w0.heap.size w0 w
theorem St.start (w : World) : St w [] w := ⟨AllS.nil (Nat.le_refl _), Below.refl _ _⟩
theorem St.below {w0 w w' : World} {As : List Asr} (h : St w0 As w) (hb : Below w.heap.size w w') : St w0 As w' := by
  obtain ⟨⟨h0, F, hF⟩, h2⟩ := h
  exact ⟨⟨Nat.le_trans h0 hb.size, F, (hF.below hb).more hb.size⟩, below_then h2 h2.size hb⟩
theorem St.push {w0 w w' : World} {As : List Asr} {A : Asr} (h : St w0 As w) (hb : Below w.heap.size w w') (hA : One A w.heap.size w') : St w0 (As ++ [A]) w' := by
  obtain ⟨⟨h0, F, hF⟩, h2⟩ := h
  exact ⟨(hF.below hb).push h0 hb.size hA, below_then h2 h2.size hb⟩
theorem St.at_ {w0 w : World} {As : List Asr} (h : St w0 As w) (i : Nat) {A : Asr} (hi : As[i]? = some A) :
    ∃ S : Nat → Prop, (∀ k, S k → w0.heap.size ≤ k ∧ k < w.heap.size) ∧ A.holds w S ∧ (∀ {A' : Asr} {w' : World}, Upd A' S w w' → St w0 (As.set i A') w') ∧
      ∀ {A' N : Asr} {w' : World}, Same A' S w w' → One N w.heap.size w' → St w0 (As.set i A' ++ [N]) w' := by
  obtain ⟨⟨h0, F, hF⟩, h2⟩ := h
  have hil : i < As.length := (List.getElem?_eq_some_iff.1 hi).1
  exact ⟨F i, hF.lies i, hF.each i A hi, fun {A' w'} hU => ⟨hF.step h0 i hil hU, h2.trans (hU.1.below h0 (fun k hk => (hF.lies i k hk).1))⟩,
    fun {A' N w'} hU hN => ⟨(hF.same i hil hU).push h0 hU.1.size hN, h2.trans (hU.1.below h0 (fun k hk => (hF.lies i k hk).1))⟩⟩
/-- Some of them. -/
theorem St.left {w0 w : World} {As Bs : List Asr} (h : St w0 (As ++ Bs) w) : St w0 As w := by
  obtain ⟨⟨h0, F, hF⟩, h2⟩ := h
  refine ⟨⟨h0, F, hF.lies, hF.apart, fun i A hA => hF.each i A ?_⟩, h2⟩
  rw [List.getElem?_append_left (List.getElem?_eq_some_iff.1 hA).1]
  exact hA
/-- Two of them lie apart. -/
theorem St.at2 {w0 w : World} {As : List Asr} (h : St w0 As w) (i j : Nat) (hij : i ≠ j) {A B : Asr} (hi : As[i]? = some A) (hj : As[j]? = some B) :
    ∃ S T : Nat → Prop, (∀ k, S k → w0.heap.size ≤ k ∧ k < w.heap.size) ∧ (∀ k, T k → w0.heap.size ≤ k ∧ k < w.heap.size) ∧ (∀ k, T k → ¬ S k) ∧ A.holds w S ∧ B.holds w T ∧ (∀ {A' : Asr} {w' : World}, Upd A' S w w' → St w0 (As.set i A') w') := by
  obtain ⟨⟨h0, F, hF⟩, h2⟩ := h
  have hil : i < As.length := (List.getElem?_eq_some_iff.1 hi).1
  exact ⟨F i, F j, hF.lies i, hF.lies j, fun k ht hs => hij (hF.apart i j k hs ht), hF.each i A hi, hF.each j B hj, fun {A' w'} hU => ⟨hF.step h0 i hil hU, h2.trans (hU.1.below h0 (fun k hk => (hF.lies i k hk).1))⟩⟩
end Go.Proofs.Ytpbkibafhabahaa.Obj
