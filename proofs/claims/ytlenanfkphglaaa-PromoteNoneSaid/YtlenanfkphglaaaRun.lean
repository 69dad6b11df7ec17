/- Pruned: a text of this claim's: words and walks that the claim's theorem uses. -/
import Derived.Test.YtlenanfkphglaaaProg
import Derived.Test.YtlenanfkphglaaaWWords
import Derived.Test.YtlenanfkphglaaaWLast
import Derived.Below
import Derived.WalkKit
import Derived.Deep.MidRow
import Derived.Laws.Tables
import Derived.Laws.Rows
import Derived.Laws.CopyOwn
import Derived.Great.BuildSlice
import Derived.Lib.Hide
import Derived.Orders
namespace Go.Proofs.Ytlenanfkphglaaa.Print
open Go.RowKit Go.Proofs.YtlenanfkphglaaaW.PrintWords Go.Proofs.YtlenanfkphglaaaW.PrintLast
set_option linter.unusedVariables false
theorem pick_load {P : Program} {o : Oper} {ρ : Operand → Value} {ty : TypeId} {x : Operand} {w w1 : World} {v pv : Value} (ho : o.op = .load ty x) (hx : ρ x = pv) (h : (Instr.loadAt ty pv).run P w = .ok v w1) : (execOp ρ o).run P w = .ok (.value v) w1 := by
  unfold execOp
  simp only [ho, hx, Sem.run_bind, h, Result.andThen_ok, Sem.run_pure]
theorem pick_loadRow {P : Program} {o : Oper} {ρ : Operand → Value} {ty : TypeId} {x : Operand} {w : World} (ho : o.op = .load ty x) (g : Nat) (hx : ρ x = .pointer (some ⟨g, 0, none⟩)) (t : TypeId) (cs : Array Value) (fr : Nat × Nat) (d : TypeDesc) (hg : w.heap[g]? = some (.cells cs t fr))
    (hu : P.underlying ty = some d) (hd : (match d with | .struct _ | .array _ _ => true | _ => false) = true) (hi : (P.info? ty).map (·.size) = some cs.size) : (execOp ρ o).run P w = .ok (.value (.agg cs)) w := by
  unfold execOp
  simp only [ho, hx, Instr.loadAt, Instr.sureAddr, Sem.run_bind, Sem.run_pure, Result.andThen_ok, run_loadVar_row w g t ty cs fr d hg hu hd hi]
theorem pick_store {P : Program} {o : Oper} {ρ : Operand → Value} {ty : TypeId} {x y : Operand} {w : World} (ho : o.op = .store ty x y) (g : Nat) (cells : Array Value) (hx : ρ x = .pointer (some ⟨g, 0, none⟩)) (hy : ρ y = .agg cells)
    (t : TypeId) (old : Array Value) (hg : w.heap[g]? = some (.cells old t (0, 0))) (hi : (P.info? ty).map (·.size) = some cells.size) (hold : old.size = cells.size) (h1 : cells.all (·.oneCell') = true) : (execOp ρ o).run P w = .ok .skip (w.setRow g cells) := by
  unfold execOp
  simp only [ho, hx, hy, Instr.storeAt, Instr.sureAddr, Sem.run_bind, Sem.run_pure, Result.andThen_ok, run_storeVar_row w g t ty old cells hg hi hold h1]
theorem pick_storeOne {P : Program} {o : Oper} {ρ : Operand → Value} {ty : TypeId} {x y : Operand} {w : World} (ho : o.op = .store ty x y) (g : Nat) (v : Value) (hx : ρ x = .pointer (some ⟨g, 0, none⟩)) (hy : ρ y = v) (h1 : v.oneCell' = true)
    (t : TypeId) (old : Value) (hg : w.heap[g]? = some (.cells #[old] t (0, 0))) (hi : (P.info? ty).map (·.size) = some 1) : (execOp ρ o).run P w = .ok .skip (w.setRow g #[v]) := by
  unfold execOp
  simp only [ho, hx, hy, Instr.storeAt, Instr.sureAddr, Sem.run_bind, Sem.run_pure, Result.andThen_ok, run_storeVar_one w g t ty old v hg hi h1]
theorem pick_below_grown {w w' : World} (h : Below w.heap.size w w') : w.grownBy w' none := ⟨h.os, h.tape, h.output, h.size, fun k hk _ => h.block k hk⟩
theorem pick_new (w : World) (o : Obj) : (w.alloc o).heap[w.heap.size]? = some o := heap_alloc_new w o
theorem pick_new3 (w : World) (a b c d : Obj) : ((((w.alloc a).alloc b).alloc c).alloc d).heap[w.heap.size + 1 + 1 + 1]? = some d := by
  have e3 := pick_new (((w.alloc a).alloc b).alloc c) d
  simpa only [World.size_alloc] using e3
theorem pick_cell {w : World} {b : Nat} {cs : Array Value} {t : TypeId} {fr : Nat × Nat} (h : w.heap[b]? = some (.cells cs t fr)) (j : Nat) {v : Value} (hv : cs[j]? = some v) : w.cell? ⟨b, j, none⟩ = some v := by
  simp [World.cell?, h, hv]
theorem pick_addadd (w : World) (a : Addr) (m j : Nat) : w.cell? ((a.add m).add j) = w.cell? (a.add (m + j)) := by
  unfold Addr.add World.cell?
  by_cases h1 : m = 0 <;> by_cases h2 : j = 0 <;> simp [h1, h2, Nat.add_assoc]
theorem pick_loadAt {P : Program} (w : World) (p : Addr) (ty : TypeId) (cs : List Value) (d : TypeDesc) (hc : ∀ j v, cs[j]? = some v → w.cell? (p.add j) = some v)
    (hu : P.underlying ty = some d) (hd : d.isRow = true) (hi : (P.info? ty).map (·.size) = some cs.length) : (Instr.loadAt ty (.pointer (some p))).run P w = .ok (.agg cs.toArray) w := by
  have hl : (loadCells p cs.length).run P w = .ok cs.toArray w := run_loadCells_list (P := P) w p cs hc
  obtain ⟨i, hq, hs⟩ := Option.map_eq_some_iff.1 hi
  have hagg : (isAgg ty).run P w = .ok true w := by
    unfold isAgg
    rw [Sem.run_bind, run_underlying hu w]
    cases d <;> simp_all
  simp [Instr.loadAt, Instr.sureAddr, loadVar, Sem.run_bind, hagg, sizeOf, typeInfo, hq, hs, hl]
theorem pick_setNew (w : World) (Z C : Array Value) (t : TypeId) : ∃ W2, W2 = (w.alloc (.cells Z t)).setRow w.heap.size C ∧ W2.heap[w.heap.size]? = some (.cells C t (0, 0)) ∧ Below w.heap.size w W2 := by
  refine ⟨_, rfl, setRow_heap _ _ Z _ _ _ (pick_new w _), ?_⟩
  exact below_setRow (below_alloc (Below.refl _ _) _) (Nat.le_refl _) _
theorem pick_prefix {w : World} {b : Nat} {t : TypeId} {fr : Nat × Nat} (p q : List Value) (h : w.heap[b]? = some (.cells (p ++ q).toArray t fr)) : ∀ j v, p[j]? = some v → w.cell? ((⟨b, 0, none⟩ : Addr).add j) = some v := fun j v hj => by
  rw [Addr.add_mid, Nat.zero_add]
  refine pick_cell h j ?_
  have hlt : j < p.length := (List.getElem?_eq_some_iff.1 hj).1
  rw [List.getElem?_toArray, List.getElem?_append_left hlt, hj]
theorem hd_gate {P : Program} {ops : Array Oper} {Q : Exit → Act → World → Prop} {rest : List Oper} {o : Oper} {a : Act} {w : World} (N : Tmp) (_h : o.dst = some N) (h : wpList P ops Q (o :: rest) a w) : wpList P ops Q (o :: rest) a w := h
theorem hd_gateS {P : Program} {ops : Array Oper} {Q : Exit → Act → World → Prop} {rest : List Oper} {o : Oper} {a : Act} {w : World} (p : Tmp) (x : Operand) (t : TypeId) (_h : o.op = .store t (.tmp p) x) (h : wpList P ops Q (o :: rest) a w) : wpList P ops Q (o :: rest) a w := h
theorem hd_run {P : Program} {ops : Array Oper} {Q : Exit → Act → World → Prop} {rest : List Oper} {o : Oper} {a : Act} {w : World} (hgd : Region.wanted o (yielded ops a.tmps) = true) {v : Value} {w1 : World}
    (hrun : (execOp a.eval o).run P w = .ok (.value v) w1) (h : wpList P ops Q rest (a.put o.dst v) w1) : wpList P ops Q (o :: rest) a w :=
  wpList_step fun K hK => by
    rw [if_pos hgd]
    unfold Oper.wp
    rw [hrun, Oper.upon_value]
    exact hK _ _ h
theorem hd_runS {P : Program} {ops : Array Oper} {Q : Exit → Act → World → Prop} {rest : List Oper} {o : Oper} {a : Act} {w : World} (hgd : Region.wanted o (yielded ops a.tmps) = true) {w1 : World}
    (hrun : (execOp a.eval o).run P w = .ok .skip w1) (h : wpList P ops Q rest (a.put o.dst undef) w1) : wpList P ops Q (o :: rest) a w :=
  wpList_step fun K hK => by
    rw [if_pos hgd]
    unfold Oper.wp
    rw [hrun, Oper.upon_skip]
    exact hK _ _ h
theorem hd_call {P : Program} {ops : Array Oper} {Q : Exit → Act → World → Prop} {rest : List Oper} {o : Oper} {a : Act} {w : World} (hgd : Region.wanted o (yielded ops a.tmps) = true) {f : FuncId} {args : Array Value} {R : Ending → World → Prop}
    (hrun : (execOp a.eval o).run P w = .ok (.enter f args) w) (hc : Calls P f args w R) (h : ∀ e w1, R e w1 → ∃ v, e = .returned v ∧ wpList P ops Q rest (a.put o.dst v) w1) : wpList P ops Q (o :: rest) a w :=
  wpList_step fun K hK => by
    rw [if_pos hgd]
    unfold Oper.wp
    rw [hrun, Oper.upon_enter]
    refine hc.mono ?_
    intro e w1 hr
    obtain ⟨v, rfl, hk⟩ := h e w1 hr
    exact hK _ _ hk
theorem hd_later {W W' : World} {b : Nat} {o : Obj} (h : W.heap[b]? = some o) (hb : Below W.heap.size W W') : W'.heap[b]? = some o := (hb.block b (Array.getElem?_eq_some_iff.1 h).1).trans h
theorem flat_get {n : Nat} : ∀ (css : List (List Value)) (j i : Nat) (c : List Value) (u : Value), (∀ c ∈ css, c.length = n) → css[j]? = some c → c[i]? = some u → css.flatten[j * n + i]? = some u
  | [], _, _, _, _, _, h, _ => by simp at h
  | d :: css, 0, i, c, u, hl, h, hu => by
    obtain rfl : d = c := by simpa using h
    have hi := (List.getElem?_eq_some_iff.1 hu).1
    rw [List.flatten_cons, Nat.zero_mul, Nat.zero_add, List.getElem?_append_left hi, hu]
  | d :: css, j + 1, i, c, u, hl, h, hu => by
    have hd : d.length = n := hl d (by simp)
    have hr := flat_get css j i c u (fun c hc => hl c (by simp [hc])) (by simpa using h) hu
    rw [List.flatten_cons, List.getElem?_append_right (by rw [hd, Nat.succ_mul]; omega), hd, show (j + 1) * n + i - n = j * n + i by rw [Nat.succ_mul]; omega, hr]
theorem opP_run {P : Program} {ops : Array Oper} {Q : Exit → Act → World → Prop} {i : Nat} {o : Oper} {K : Act → World → Prop} {a : Act} {w : World} (ho : ops[i]? = some o) (hw : Region.wanted o (yielded ops a.tmps) = true) {v : Value} {w1 : World}
    (hrun : (execOp a.eval o).run P w = .ok (.value v) w1) (h : K (a.put o.dst v) w1) : wpOp P ops Q i K a w :=
  wpOp_step ho fun K' hK => by
    rw [if_pos hw]
    unfold Oper.wp
    rw [hrun, Oper.upon_value]
    exact hK _ _ h
theorem opP_call {P : Program} {ops : Array Oper} {Q : Exit → Act → World → Prop} {i : Nat} {o : Oper} {K : Act → World → Prop} {a : Act} {w : World} (ho : ops[i]? = some o) (hw : Region.wanted o (yielded ops a.tmps) = true) {f : FuncId} {args : Array Value} {R : Ending → World → Prop}
    (hrun : (execOp a.eval o).run P w = .ok (.enter f args) w) (hc : Calls P f args w R) (h : ∀ e w1, R e w1 → ∃ v, e = .returned v ∧ K (a.put o.dst v) w1) : wpOp P ops Q i K a w :=
  wpOp_step ho fun K' hK => by
    rw [if_pos hw]
    unfold Oper.wp
    rw [hrun, Oper.upon_enter]
    refine hc.mono ?_
    intro e w1 hr
    obtain ⟨v, rfl, hk⟩ := h e w1 hr
    exact hK _ _ hk
def AllP (P : Program) (ops : Array Oper) (Q : Exit → Act → World → Prop) (I : Nat → Act → World → Prop) (a : Act) (w : World) : List Nat → Prop
  | [] => True
  | i :: r => wpOp P ops Q i (I i) a w ∧ AllP P ops Q I a w r
theorem allP_mem {P : Program} {ops : Array Oper} {Q : Exit → Act → World → Prop} {I K : Nat → Act → World → Prop} {a : Act} {w : World} (hk : ∀ i a w, I i a w → K i a w) : ∀ {rs : List Nat}, AllP P ops Q I a w rs → ∀ i ∈ rs, wpOp P ops Q i (K i) a w
  | [], _, _, h => by cases h
  | j :: r, h, i, hi => by
    rcases List.mem_cons.1 hi with rfl | hi
    · exact wpOp_mono (fun a w => hk _ a w) h.1
    · exact allP_mem hk h.2 i hi
theorem anyP_inv {P : Program} {md : Region.Mode} {ops : Array Oper} {Q : Exit → Act → World → Prop} (I : Nat → Array Bool → Act → World → Prop)
    (h : ∀ fuel listed a w, I fuel listed a w → (Region.ready md ops listed = [] ∧ Q .normal a w) ∨ ∃ f rs, fuel = f + 1 ∧ Region.ready md ops listed = rs ∧ rs ≠ [] ∧ AllP P ops Q (fun i => I f (listed.setIfInBounds i true)) a w rs) :
    ∀ fuel listed a w, I fuel listed a w → wpAny P md ops Q fuel listed a w := by
  intro fuel
  induction fuel with
  | zero =>
    intro listed a w hi
    rcases h _ _ _ _ hi with h1 | ⟨f, rs, e, _⟩
    · exact h1
    · cases e
  | succ fuel ih =>
    intro listed a w hi
    rcases h _ _ _ _ hi with ⟨h1, h2⟩ | ⟨f, rs, e, hr, hne, ho⟩
    · exact wpAny_done h1 h2 _
    · obtain rfl : fuel = f := by omega
      exact wpAny_all hr hne (allP_mem (fun i a w => ih _ a w) ho)
end Go.Proofs.Ytlenanfkphglaaa.Print
