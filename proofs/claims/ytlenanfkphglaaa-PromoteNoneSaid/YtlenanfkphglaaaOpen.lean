/- Pruned: a text of this claim's: words and walks that the claim's theorem uses. -/
import Derived.Test.YtlenanfkphglaaaWWords
import Derived.Deep.Slices
import Derived.WideShapes
import Derived.DataReads
import Derived.ProofKit
namespace Go.Proofs.YtlenanfkphglaaaW.Open
open Go.RowKit Go.Deep Go.WideShapes Go.ChangeShapes Go.Proofs.YtlenanfkphglaaaW.PrintWords
structure Opens {α : Type} (P : Program) (t : TypeId) (d : Kd α) (wf : α → Prop) : Prop where
  out : ∀ (H : Type) (enc : TypeId × Value → H) (w : World) (base : Nat) (spare : Nat → Bool) (held : Bool) (fuel : Nat) (cs : List Value) (x : DataW H × List MemPlace),
    DataW.trod enc P w base spare held fuel t cs = some x → ∃ a, d.K w a cs ∧ wf a
theorem opens_int {P : Program} {t : TypeId} {k : IntKind} (ht : P.underlying t = some (.int k)) : Opens P t (Kd.int k) (fun x => (Lit.int k x).wf = true) := by
  constructor
  intro H enc w base spare held fuel cs x h
  cases fuel with
  | zero => simp [DataW.trod] at h
  | succ fuel =>
    rcases cs with _ | ⟨c, _ | ⟨c', cs⟩⟩
    · simp [DataW.trod, ht] at h
    · cases c <;> simp [DataW.trod, ht] at h
      obtain ⟨⟨rfl, h1⟩, _⟩ := h
      exact ⟨_, rfl, h1⟩
    · simp [DataW.trod, ht] at h
theorem opens_bool {P : Program} {t : TypeId} (ht : P.underlying t = some .bool) : Opens P t Kd.bool (fun _ => True) := by
  constructor
  intro H enc w base spare held fuel cs x h
  cases fuel with
  | zero => simp [DataW.trod] at h
  | succ fuel =>
    rcases cs with _ | ⟨c, _ | ⟨c', cs⟩⟩
    · simp [DataW.trod, ht] at h
    · cases c <;> simp [DataW.trod, ht] at h
      exact ⟨_, rfl, trivial⟩
    · simp [DataW.trod, ht] at h
theorem add_add (a : Addr) (m n : Nat) : (a.add m).add n = a.add (m + n) := by
  unfold Addr.add
  by_cases h1 : m = 0 <;> by_cases h2 : n = 0 <;> simp [h1, h2, Nat.add_assoc]
theorem choose_list {α : Type} {n : Nat} {p : Nat → α → Prop} (h : ∀ i, i < n → ∃ a, p i a) : ∃ l : List α, l.length = n ∧ ∀ i a, l[i]? = some a → p i a := by
  induction n with
  | zero => exact ⟨[], rfl, fun i a h => by simp at h⟩
  | succ n ih =>
    obtain ⟨l, hl, hp⟩ := ih (fun i hi => h i (by omega))
    obtain ⟨a, ha⟩ := h n (by omega)
    refine ⟨l ++ [a], by simp [hl], fun i b hb => ?_⟩
    rcases Nat.lt_or_ge i l.length with hi | hi
    · rw [List.getElem?_append_left hi] at hb
      exact hp i b hb
    · rw [List.getElem?_append_right hi] at hb
      have hi0 : i - l.length = 0 := by
        rcases Nat.eq_zero_or_pos (i - l.length) with h0 | h0
        · exact h0
        · rw [List.getElem?_eq_none (by simp; omega)] at hb; cases hb
      rw [hi0] at hb
      have hb' : a = b := by simpa using hb
      subst hb'
      obtain rfl : i = n := by omega
      exact ha
theorem opens_slice {α : Type} {P : Program} {t e : TypeId} {d : Kd α} {wf : α → Prop} (ht : P.underlying t = some (.slice e)) (he : P.cellsOf e = d.sz) (h : Opens P e d wf) :
    Opens P t (Kd.slice e d) (fun l => l.length ≤ 9223372036854775807 ∧ ∀ a ∈ l, wf a) := by
  constructor
  intro H enc w base spare held fuel cs x hx
  rcases open_slice ht hx with ⟨rfl, _⟩ | ⟨a, len, cap, m, n, D, Pl, rfl, hb, hl, hm, hmm, _, hel⟩
  · exact ⟨[], ⟨none, 0, rfl, Nat.le_refl _, rfl, by simp, fun h => absurd h (by simp)⟩, by simp, fun a ha => by cases ha⟩
  · have hle : len ≤ m := by rw [hmm]; split <;> omega
    have hm' : cap ≤ 9223372036854775807 := by simpa [maxLen] using hm
    obtain ⟨l, hlen, hp⟩ := choose_list (n := len) (p := fun i y => ∃ c, w.cells? base (a.add (i * P.cellsOf e)) (P.cellsOf e) = some c ∧ d.K w y c ∧ wf y) (fun i hi => by
      obtain ⟨c, h1, h2⟩ := hel i (by omega)
      obtain ⟨y, hy, hw⟩ := h.out H enc w base spare held n c _ h2
      exact ⟨y, c, h1, hy, hw⟩)
    refine ⟨l, ⟨some a, cap, by rw [hlen], by omega, rfl, by omega, fun _ => ⟨a, rfl, fun j p hj => ?_⟩⟩, by omega, fun y hy => ?_⟩
    · obtain ⟨c, h1, h2, _⟩ := hp j p hj
      refine ⟨c, d.K_len h2, h2, fun i u hu => ?_⟩
      obtain ⟨_, hcl, hcc⟩ := World.cells?_some h1
      have hi : i < c.length := (List.getElem?_eq_some_iff.1 hu).1
      rw [he] at hcc
      have h3 := hcc i (by rw [← he, ← hcl]; exact hi)
      rw [add_add, hu] at h3
      exact h3
    · obtain ⟨i, hi, rfl⟩ := List.mem_iff_getElem.1 hy
      obtain ⟨_, _, _, hw⟩ := hp i _ (List.getElem?_eq_getElem hi)
      exact hw
structure OpensF {α : Type} (P : Program) (fs : List Field) (o : Nat) (d : Kd α) (wf : α → Prop) : Prop where
  out : ∀ (H : Type) (enc : TypeId × Value → H) (w : World) (base : Nat) (spare : Nat → Bool) (held : Bool) (fuel : Nat) (cs : List Value) (xs : List (DataW H × List MemPlace)),
    cs.length = o + d.sz → fs.mapM (fun f => DataW.trod enc P w base spare held fuel f.type ((cs.drop f.offset).take (P.cellsOf f.type))) = some xs → ∃ a, d.K w a (cs.drop o) ∧ wf a
theorem opens_last {α : Type} {P : Program} {f : Field} {o : Nat} {d : Kd α} {wf : α → Prop} (ho : f.offset = o) (hc : P.cellsOf f.type = d.sz) (h : Opens P f.type d wf) : OpensF P [f] o d wf := by
  constructor
  intro H enc w base spare held fuel cs xs hl hx
  simp only [List.mapM_cons, List.mapM_nil, Option.pure_def, Option.bind_eq_bind, Option.bind_eq_some_iff] at hx
  obtain ⟨y, hy, _⟩ := hx
  rw [ho, hc, List.take_of_length_le (by rw [List.length_drop]; omega)] at hy
  exact h.out H enc w base spare held fuel _ y hy
theorem opens_field {α β : Type} {P : Program} {f : Field} {fs : List Field} {o : Nat} {d : Kd α} {d' : Kd β} {wf : α → Prop} {wf' : β → Prop} (ho : f.offset = o) (hc : P.cellsOf f.type = d.sz) (h : Opens P f.type d wf)
    (h' : OpensF P fs (o + d.sz) d' wf') : OpensF P (f :: fs) o (Kd.pair d d') (fun x => wf x.1 ∧ wf' x.2) := by
  constructor
  intro H enc w base spare held fuel cs xs hl hx
  simp only [List.mapM_cons, Option.pure_def, Option.bind_eq_bind, Option.bind_eq_some_iff] at hx
  obtain ⟨y, hy, ys, hys, _⟩ := hx
  have hl' : cs.length = o + (d.sz + d'.sz) := hl
  rw [ho, hc] at hy
  obtain ⟨a, ha, hwa⟩ := h.out H enc w base spare held fuel _ y hy
  obtain ⟨b, hb, hwb⟩ := h'.out H enc w base spare held fuel cs ys (by omega) hys
  refine ⟨(a, b), ⟨_, _, ?_, ha, hb⟩, hwa, hwb⟩
  rw [← List.drop_drop, List.take_append_drop]
theorem opens_struct {α β : Type} {P : Program} {t : TypeId} {fs : Array Field} {d : Kd α} {wf : α → Prop} (ht : P.underlying t = some (.struct fs)) (f : β → α) (g : α → β) (hfg : ∀ a, f (g a) = a)
    (h : OpensF P fs.toList 0 d wf) (hc : P.cellsOf t = d.sz) : Opens P t (Kd.iso d f) (fun b => wf (f b)) := by
  constructor
  intro H enc w base spare held fuel cs x hx
  cases fuel with
  | zero => simp [DataW.trod] at hx
  | succ fuel =>
    have hx' : (if cs.length = P.cellsOf t then (fs.toList.mapM fun f => DataW.trod enc P w base spare held fuel f.type ((cs.drop f.offset).take (P.cellsOf f.type))).map fun xs => ((DataW.agg (xs.map (·.1)), xs.flatMap (·.2)) : DataW H × List MemPlace) else none) = some x := by
      rw [← hx]
      rcases cs with _ | ⟨c, _ | ⟨c', cs⟩⟩ <;> simp [DataW.trod, ht]
    by_cases hl : cs.length = P.cellsOf t
    · rw [if_pos hl] at hx'
      obtain ⟨ys, hys, _⟩ := Option.map_eq_some_iff.1 hx'
      obtain ⟨a, ha, hw⟩ := h.out H enc w base spare held fuel cs ys (by omega) hys
      rw [List.drop_zero] at ha
      exact ⟨g a, by show d.K w (f (g a)) cs; rw [hfg]; exact ha, by show wf (f (g a)); rw [hfg]; exact hw⟩
    · rw [if_neg hl] at hx'
      cases hx'
theorem slice_arg {α : Type} {P : Program} {t e : TypeId} {d : Kd α} {wf : List α → Prop} {r : Reach} {b0 : Nat} {H : Type} {enc : TypeId × Value → H} {w : World} {base : Nat} {spare : Nat → Bool} {held : Bool} {v : Value} {D : DataW H} {p : List MemPlace}
    (ht : P.underlying t = some (.slice e)) (ho : Opens P t (Kd.slice e d) wf) (hv : Value.okWide P w r b0 t v) (h : DataW.Trod enc P w base spare held t v D p) :
    ∃ (A : Option Addr) (c : Nat) (l : List α), v = .slice A l.length c ∧ l.length ≤ c ∧ d.C w A l.length l ∧ wf l := by
  obtain ⟨a, len, cap, rfl⟩ := okWide_slice ht hv
  obtain ⟨fuel, hf⟩ := h
  obtain ⟨l, ⟨A, c, hcs, hl, hC⟩, hw⟩ := ho.out H enc w base spare held fuel _ _ hf
  have e1 : Value.slice a len cap = .slice A l.length c := by simpa [Value.cells] using hcs
  exact ⟨A, c, l, e1, hl, hC, hw⟩
theorem struct_arg {α : Type} {P : Program} {t : TypeId} {fs : Array Field} {d : Kd α} {wf : α → Prop} {r : Reach} {b0 : Nat} {H : Type} {enc : TypeId × Value → H} {w : World} {base : Nat} {spare : Nat → Bool} {held : Bool} {v : Value} {D : DataW H} {p : List MemPlace}
    (ht : P.underlying t = some (.struct fs)) (ho : Opens P t d wf) (hv : Value.okWide P w r b0 t v) (h : DataW.Trod enc P w base spare held t v D p) :
    ∃ (cs : List Value) (x : α), v = .agg cs.toArray ∧ d.K w x cs ∧ wf x := by
  obtain ⟨cs, rfl, _⟩ := okWide_struct ht hv
  obtain ⟨fuel, hf⟩ := h
  obtain ⟨x, hx, hw⟩ := ho.out H enc w base spare held fuel _ _ hf
  exact ⟨cs.toList, x, by simp, by simpa [Value.cells] using hx, hw⟩
end Go.Proofs.YtlenanfkphglaaaW.Open
