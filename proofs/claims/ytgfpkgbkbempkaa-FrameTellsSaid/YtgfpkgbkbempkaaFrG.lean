/- What bytes begin with: plain; and the reference's Get, walked through once. -/
import Derived.Test.YtgfpkgbkbempkaaFrD
import Derived.Test.YtgfpkgbkbempkaaWMore
import Derived.Laws.ResultCell
import Derived.Laws.CopyOwn
import Derived.Deep.WholeRow
import Derived.Deep.QuietTactic
import Derived.BigQuiet
import Derived.Deep.RegionHeld3
set_option linter.unusedVariables false
set_option linter.unusedSimpArgs false
namespace Go.Proofs.Ytgfpkgbkbempkaa.W
open Go.RowKit Go.Proofs.YtgfpkgbkbempkaaW.PrintWords M

/-- The frame that bytes begin with (type, number, body), how many bytes it has, and what is wrong. -/
def getF (l : List Int) : Int × Int × List Int × Int × Int :=
  if l.length < 2 then (0, 0, [], 0, 13)
  else if 1800 < beN (l.take 2) then (0, 0, [], 0, 12)
  else if l.length < (beN (l.take 2)).toNat + 11 then (0, 0, [], 0, 13)
  else if beN ((l.take ((beN (l.take 2)).toNat + 11)).drop ((beN (l.take 2)).toNat + 7)) ≠ more 0 (l.take ((beN (l.take 2)).toNat + 7)) then (0, 0, [], 0, 14)
  else if rightB (rd l 2) (beN ((l.take 7).drop 3)) (beN (l.take 2)).toNat = false then (0, 0, [], 0, 12)
  else (rd l 2, beN ((l.take 7).drop 3), (l.take ((beN (l.take 2)).toNat + 7)).drop 7, ((beN (l.take 2)).toNat + 11 : Nat), 0)
/-- The reference's 'right' is the program's. -/
theorem refright_calls (a0 a1 : Int) (A : Option Addr) (n c : Nat) (w : World) :
    Calls Try.prog 15 #[.agg #[.int .i64 a0, .int .i64 a1, .slice A n c]] w fun e w' => e = .returned (.bool (rightB a0 a1 n)) ∧ Below w.heap.size w w' := by
  have hu := Try.underlying24
  by_cases h0 : 1 ≤ a0
  · have b0 : decide (1 ≤ a0) = true := decide_eq_true h0
    by_cases h1 : a0 ≤ 15
    · have b1 : decide (a0 ≤ 15) = true := decide_eq_true h1
      by_cases h2 : 0 ≤ a1
      · have b2 : decide (0 ≤ a1) = true := decide_eq_true h2
        by_cases h3 : a1 ≤ 1073741824
        · have b3 : decide (a1 ≤ 1073741824) = true := decide_eq_true h3
          rw [show rightB a0 a1 n = decide ((n : Int) ≤ 1800) from by unfold rightB; exact decide_eq_decide.2 (by omega)]
          go_enter Try.func15, Try.ntmps15
          go_wp2
          go_ret
          exact ⟨rfl, below_alloc (Below.refl _ w) _⟩
        · have b3 : decide (a1 ≤ 1073741824) = false := decide_eq_false h3
          rw [show rightB a0 a1 n = false from by unfold rightB; exact decide_eq_false (by omega)]
          go_enter Try.func15, Try.ntmps15
          go_wp2
          go_ret
          exact ⟨rfl, below_alloc (Below.refl _ w) _⟩
      · have b2 : decide (0 ≤ a1) = false := decide_eq_false h2
        rw [show rightB a0 a1 n = false from by unfold rightB; exact decide_eq_false (by omega)]
        go_enter Try.func15, Try.ntmps15
        go_wp2
        go_ret
        exact ⟨rfl, below_alloc (Below.refl _ w) _⟩
    · have b1 : decide (a0 ≤ 15) = false := decide_eq_false h1
      rw [show rightB a0 a1 n = false from by unfold rightB; exact decide_eq_false (by omega)]
      go_enter Try.func15, Try.ntmps15
      go_wp2
      go_ret
      exact ⟨rfl, below_alloc (Below.refl _ w) _⟩
  · have b0 : decide (1 ≤ a0) = false := decide_eq_false h0
    rw [show rightB a0 a1 n = false from by unfold rightB; exact decide_eq_false (by omega)]
    go_enter Try.func15, Try.ntmps15
    go_wp2
    go_ret
    exact ⟨rfl, below_alloc (Below.refl _ w) _⟩

theorem in_take {l : List Int} (h : InByte l) (n : Nat) : InByte (l.take n) := fun x hx => h x (List.mem_of_mem_take hx)
theorem in_drop {l : List Int} (h : InByte l) (n : Nat) : InByte (l.drop n) := fun x hx => h x (List.mem_of_mem_drop hx)
theorem more_range (s : Int) (l : List Int) : 0 ≤ M.more s l ∧ M.more s l ≤ 4294967295 := ⟨M.N_nonneg _, M.N_lt _⟩
theorem run_append_reads (W : World) (ty : TypeId) (base : Nat) (v : Value) (xs ys : List Int) (A : Option Addr) (c : Nat) (HO : W.ownsRow base 5 1 v xs.length (nums .u8 xs)) (HR : ReadsInt W .u8 A ys.length ys) (hbase : base ≤ W.heap.size) (hl : xs.length + ys.length ≤ 140737488355328) :
    ∃ v1 w1, (Builtin.append_ #[22, 22] ty #[v, .slice A ys.length c]).run Try.prog W = .ok v1 w1 ∧ w1.ownsRow base 5 1 v1 (xs ++ ys).length (nums .u8 (xs ++ ys)) ∧ W.grownBy w1 v.ownBlock ∧ (v1.ownBlock = v.ownBlock ∨ v1.ownBlock = some W.heap.size) := by
  obtain ⟨i0, hi, hz0, hz1, hz2⟩ := info_parts info5'
  have ht := Try.underlying22
  cases A with
  | none =>
    have h0 : ys = [] := by
      rcases Nat.eq_zero_or_pos ys.length with h | h
      · exact List.eq_nil_of_length_eq_zero h
      · obtain ⟨ad, h', _⟩ := HR.2.2 h
        cases h'
    subst h0
    refine ⟨v, W, ?_, by simpa using HO, World.grownBy.refl W _, .inl rfl⟩
    rcases HO.2 with ⟨rfl, hn⟩ | ⟨g, cap, cur, rfl, _, _, hnc, _⟩
    · simp [Builtin.append_, run_underlying ht, sizeOf, typeInfo, hi, Builtin.lenOf, Builtin.firstCells]
    · simp [Builtin.append_, run_underlying ht, sizeOf, typeInfo, hi, Builtin.lenOf, Builtin.firstCells, hnc, storeCells]
  | some ad =>
    obtain ⟨v1, w1, hr, h1, h2, _, h3⟩ := run_append_own_at (P := Try.prog) W base 22 ty 5 i0 (.int .u8 0) 1 1 ht hi hz0 hz1 hz2 rfl (by decide) v xs.length (nums .u8 xs) HO ad ys.length c (nums .u8 ys) (by simp [nums]) (fun j u hu => by
        have hj : j < ys.length := by have := (List.getElem?_eq_some_iff.1 hu).1; simpa [nums] using this
        obtain ⟨ad', e, hc⟩ := HR.2.2 (by omega)
        obtain rfl : ad = ad' := by injection e
        rw [hc j hj]
        simp [nums, List.getElem?_eq_getElem hj] at hu
        simp [List.getD_eq_getElem?_getD, List.getElem?_eq_getElem hj, hu]) (fun u hu => by simp [nums] at hu; obtain ⟨x, _, rfl⟩ := hu; rfl) (by unfold maxLen; omega) (by omega) hbase
    refine ⟨v1, w1, hr, ?_, h2, h3⟩
    rw [List.length_append, nums_append]
    exact h1
theorem step_append_in {ops : Array Oper} {o : Oper} {a : Act} {K : Act → World → Prop} {Q : Exit → Act → World → Prop} {E : Prop} {W : World} (s x : Operand)
    (ho : o.guard = none ∧ o.op = .call { callee := .builtin .append, args := #[s, x], argTypes := #[22, 22] })
    (h : ∃ base v xs ys A n c, a.eval s = v ∧ a.eval x = .slice A n c ∧ n = ys.length ∧ W.ownsRow base 5 1 v xs.length (nums .u8 xs) ∧ ReadsInt W .u8 A ys.length ys ∧ base ≤ W.heap.size ∧ xs.length + ys.length ≤ 140737488351232 ∧
      ∀ v1 w1, w1.ownsRow base 5 1 v1 (xs ++ ys).length (nums .u8 (xs ++ ys)) → W.grownBy w1 v.ownBlock → (v1.ownBlock = v.ownBlock ∨ v1.ownBlock = some W.heap.size) → K (a.put o.dst v1) w1) :
    if Region.wanted o (yielded ops a.tmps) = true then Oper.wp Try.prog o a W K Q else E := by
  obtain ⟨hgd, ho⟩ := ho
  obtain ⟨base, v, xs, ys, A, n, c, hs, hx, rfl, HO, HR, hbase, hl, h⟩ := h
  rw [if_pos (by simp [Region.wanted, hgd])]
  obtain ⟨v1, w1, hr, h1, h2, h3⟩ := run_append_reads W o.type base v xs ys A c HO HR hbase (by omega)
  unfold Oper.wp execOp
  simp only [ho, resolve, invoke, builtin, Sem.run_bind, Sem.run_pure, Result.andThen_ok, List.map_toArray, List.map_cons, List.map_nil, hs, hx, hr]
  exact h v1 w1 h1 h2 h3
theorem step_store_in {ops : Array Oper} {o : Oper} {a : Act} {K : Act → World → Prop} {Q : Exit → Act → World → Prop} {E : Prop} {W : World} (ty : TypeId) (x y : Operand)
    (ho : o.guard = none ∧ o.op = .store ty x y)
    (h : ∃ g cells t old, a.eval x = .pointer (some ⟨g, 0, none⟩) ∧ a.eval y = .agg cells ∧ W.heap[g]? = some (.cells old t (0, 0)) ∧ (Try.prog.info? ty).map (·.size) = some cells.size ∧
      old.size = cells.size ∧ cells.all (·.oneCell') = true ∧ K (a.put o.dst undef) (W.setRow g cells)) : if Region.wanted o (yielded ops a.tmps) = true then Oper.wp Try.prog o a W K Q else E := by
  obtain ⟨hgd, ho⟩ := ho
  obtain ⟨g, cells, t, old, hx, hy, hg, hi, hold, h1, h⟩ := h
  rw [if_pos (by simp [Region.wanted, hgd])]
  exact wp_store_row ty x y ho g cells hx hy t old hg hi hold h1 h
theorem cellOf {w : World} {g : Nat} {cs : Array Value} {T : TypeId} (h : w.heap[g]? = some (.cells cs T (0, 0))) (i : Nat) {v : Value} (hi : cs[i]? = some v) : w.cell? ⟨g, i, none⟩ = some v := by
  simp [World.cell?, h, hi]
theorem frozOf {w : World} {g : Nat} {cs : Array Value} {T : TypeId} (h : w.heap[g]? = some (.cells cs T (0, 0))) (i : Nat) : w.frozen? ⟨g, i, none⟩ = false := by
  simp [World.frozen?, h]
theorem set3 {w : World} {g : Nat} {a b c x y z : Value} {T : TypeId} (h : w.heap[g]? = some (.cells #[a, b, c] T (0, 0))) : (((w.setCell ⟨g, 0, none⟩ x).setCell ⟨g, 1, none⟩ y).setCell ⟨g, 2, none⟩ z).heap[g]? = some (.cells #[x, y, z] T (0, 0)) := by
  simp [World.setCell, Array.getElem?_modify, h]
theorem hd_set {w : World} {k : Nat} {o : Obj} (h : w.heap[k]? = some o) (p : Addr) (u : Value) (hne : k ≠ p.block) : (w.setCell p u).heap[k]? = some o := (Below.heap_setCell w p u k hne).trans h
theorem absorb {p G : Prop} (h : p) (k : p → G) : G := k h
theorem grown_keep {W w6 : World} {row : Option Nat} {k : Nat} {o : Obj} (hg : W.grownBy w6 row) (hne : some k ≠ row) (h : W.heap[k]? = some o) : w6.heap[k]? = some o := (hg.block k (Array.getElem?_eq_some_iff.1 h).1 hne).trans h
theorem ne_own {k g a b : Nat} (h : k ≠ g) : some k ≠ (Value.slice (some ⟨g, 0, none⟩) a b).ownBlock := fun e => h (by simpa [Value.ownBlock] using e)
theorem own_ge {B g a b : Nat} (h : B ≤ g) : ∀ k, (Value.slice (some ⟨g, 0, none⟩) a b).ownBlock = some k → B ≤ k := fun k hk => by
  have : g = k := by simpa [Value.ownBlock] using hk
  omega
theorem cell_keep {w : World} {p a : Addr} {u v : Value} (h : w.cell? a = some v) (hne : a.block ≠ p.block) : (w.setCell p u).cell? a = some v := (World.cell?_of_block (Below.heap_setCell w p u a.block hne)).trans h
theorem cell_far (w : World) (p a : Addr) (u : Value) (h : a.block ≠ p.block) : (w.setCell p u).cell? a = w.cell? a := World.cell?_of_block (Below.heap_setCell w p u a.block h)
theorem hd_last (w : World) (o : Obj) (k : Nat) (hk : k = w.heap.size) : (w.alloc o).heap[k]? = some o := by rw [hk]; exact heap_alloc_last w o
theorem hd_old {w : World} {k : Nat} {o : Obj} (h : w.heap[k]? = some o) (o' : Obj) : (w.alloc o').heap[k]? = some o := by
  have := (Array.getElem?_eq_some_iff.1 h).1
  show (w.heap.push o')[k]? = some o
  rw [Array.getElem?_push, if_neg (by omega)]
  exact h
theorem hd_drewN {w : World} {k : Nat} {o : Obj} (h : w.heap[k]? = some o) (n : Nat) : (w.drewN n).heap[k]? = some o := h
theorem hd_drew {w : World} {k : Nat} {o : Obj} (h : w.heap[k]? = some o) : w.drew.heap[k]? = some o := h
theorem own_empty {w : World} {base g : Nat} (h : w.heap[g]? = some (.cells #[] 5 (0, 0))) (hb : base ≤ g) : w.ownsRow base 5 1 (.slice (some ⟨g, 0, none⟩) 0 0) ([] : List Int).length (nums .u8 []) :=
  ⟨by simp [nums], .inr ⟨g, 0, #[], rfl, hb, h, by simp, by unfold maxLen; omega, by simp, by simp [nums]⟩⟩
theorem own_setRow {w : World} {base : Nat} {e : TypeId} {size n : Nat} {v : Value} {xs : List Value} (h : w.ownsRow base e size v n xs) {g : Nat} (hne : some g ≠ v.ownBlock) (cs : Array Value) : (w.setRow g cs).ownsRow base e size v n xs := by
  rcases h with ⟨hx, h | ⟨k, cap, cur, rfl, hb, hk, h1, h2, h3, h4⟩⟩
  · exact ⟨hx, .inl h⟩
  · exact ⟨hx, .inr ⟨k, cap, cur, rfl, hb, (setRow_other w g k cs (fun e => hne (by simp [Value.ownBlock, e]))).trans hk, h1, h2, h3, h4⟩⟩
structure FinG (w : World) (t sq : Int) (v : Value) (body : List Int) (W : World) (g : Nat) : Prop where
  box : W.heap[g]? = some (.cells #[.int .i64 t, .int .i64 sq, v] 24 (0, 0))
  zero : W.heap[w.heap.size]? = some (.cells #[.int .i64 0, .int .i64 0, .slice none 0 0] 24 (0, 0))
  own : W.ownsRow w.heap.size 5 1 v body.length (nums .u8 body)
  below : Below w.heap.size w W
theorem finA {w w6 : World} {t sq : Int} {v : Value} {body : List Int} (h0 : w6.heap[w.heap.size]? = some (.cells #[.int .i64 0, .int .i64 0, .slice none 0 0] 24 (0, 0))) (ho : w6.ownsRow w.heap.size 5 1 v body.length (nums .u8 body)) (hb : Below w.heap.size w w6) :
    FinG w t sq v body (w6.alloc (.cells #[.int .i64 t, .int .i64 sq, v] 24)) w6.heap.size := ⟨heap_alloc_last _ _, hd_old h0 _, own_alloc ho _, below_alloc hb _⟩
theorem finB {w w6 : World} {t sq : Int} {v : Value} {body : List Int} {g : Nat} (h0 : w6.heap[w.heap.size]? = some (.cells #[.int .i64 0, .int .i64 0, .slice none 0 0] 24 (0, 0))) (hx : w6.heap[g]? = some (.cells #[.int .i64 0, .int .i64 0, .slice none 0 0] 24 (0, 0))) (hg : w.heap.size < g) (ho : w6.ownsRow w.heap.size 5 1 v body.length (nums .u8 body)) (hb : Below w.heap.size w w6) :
    FinG w t sq v body (((w6.setCell ⟨g, 0, none⟩ (.int .i64 t)).setCell ⟨g, 1, none⟩ (.int .i64 sq)).setCell ⟨g, 2, none⟩ v) g := by
  have hne : some g ≠ v.ownBlock := own_ne ho hx (by decide)
  exact ⟨set3 hx, hd_set (hd_set (hd_set h0 _ _ (by show w.heap.size ≠ g; omega)) _ _ (by show w.heap.size ≠ g; omega)) _ _ (by show w.heap.size ≠ g; omega), own_setCell (own_setCell (own_setCell ho hne _) hne _) hne _, below_set (below_set (below_set hb (by omega)) (by omega)) (by omega)⟩
def GetPost (w : World) (r : Int × Int × List Int × Int × Int) (e : Ending) (w' : World) : Prop :=
  ∃ v, e = .returned (.tuple #[.agg #[.int .i64 r.1, .int .i64 r.2.1, v], .int .i64 r.2.2.2.1, .int .i64 r.2.2.2.2]) ∧ w'.ownsRow w.heap.size 5 1 v r.2.2.1.length (nums .u8 r.2.2.1) ∧ Below w.heap.size w w'
set_option maxHeartbeats 2000000 in
set_option maxRecDepth 100000 in
theorem refget_calls (A : Option Addr) (c : Nat) (l : List Int) (w : World) (hR : Kd.C (Kd.int .u8) w A l.length l) (hc : l.length ≤ c) (hb : InByte l) (hl : l.length ≤ 1000000) :
    Calls Try.prog 11 #[.slice A l.length c] w (GetPost w (getF l)) := by
  have hu22 := Try.underlying22
  have hu24 := Try.underlying24
  obtain ⟨i5, hi5, hzz⟩ := Option.map_eq_some_iff.1 info5'
  simp only [Prod.mk.injEq] at hzz
  have hs5 := hzz.2.1
  clear hzz
  obtain ⟨R, hG⟩ : ∃ R, getF l = R := ⟨_, rfl⟩
  rw [hG]
  unfold getF at hG
  have HR := Aside0.mk hR
  have HB := Aside0.mk hb
  clear hR hb
  by_cases h2 : l.length < 2
  · rw [if_pos h2] at hG
    subst hG
    go_enter Try.func11, Try.ntmps11
    go_wp2_with fail
    refine bodyPost_ret (results_ctt rfl _ _ w.heap.size 24 #[.int .i64 0, .int .i64 0, .slice none 0 0] (0, 0) _ rfl (heap_alloc_last _ _) hu24 rfl (by kernel_rfl)) rfl ?_
    exact ⟨_, rfl, own_nil _ _ _ _, below_alloc (Below.refl _ _) _⟩
  rw [if_neg h2] at hG
  obtain ⟨n, hn⟩ : ∃ n : Nat, beN (l.take 2) = (n : Int) := ⟨(beN (l.take 2)).toNat, by have := (beN_range (l.take 2) (in_take HB.out 2)).1; omega⟩
  rw [hn, Int.toNat_natCast] at hG
  have HN := Aside0.mk hn
  have hn2 : n ≤ 65535 := by
    have h := (beN_range (l.take 2) (in_take HB.out 2)).2
    rw [hn, List.length_take, Nat.min_eq_left (by omega)] at h
    have : (n : Int) < 65536 := h
    omega
  have HR2 := Aside0.mk (Kd.C_take HR.out (show 2 ≤ l.length by omega))
  have hl2 : (l.take 2).length = 2 := by rw [List.length_take]; omega
  clear hn
  go_enter Try.func11, Try.ntmps11
  go_wp2_with fail
  have hb1 : Below w.heap.size w (w.alloc (.cells #[.int .i64 0, .int .i64 0, .slice none 0 0] 24)) := below_alloc (Below.refl _ _) _
  have hg1 : (w.alloc (.cells #[.int .i64 0, .int .i64 0, .slice none 0 0] 24)).heap[w.heap.size]? = some (.cells #[.int .i64 0, .int .i64 0, .slice none 0 0] 24 (0, 0)) := heap_alloc_last _ _
  have hlt1 : w.heap.size < (w.alloc (.cells #[.int .i64 0, .int .i64 0, .slice none 0 0] 24)).heap.size := by simp
  generalize w.alloc (.cells #[.int .i64 0, .int .i64 0, .slice none 0 0] 24) = w1 at *
  have hr := refread_calls A c (l.take 2) w1 (Kd.C_below HR2.out hb1) (in_take HB.out 2) (by omega)
  rw [hl2, HN.out] at hr
  refine hr.mono ?_
  rintro e w2 ⟨rfl, m2, rfl⟩
  have hg2 : (w1.drewN m2).heap[w.heap.size]? = some (.cells #[.int .i64 0, .int .i64 0, .slice none 0 0] 24 (0, 0)) := hg1
  have hb2 : Below w.heap.size w (w1.drewN m2) := pw_below_drewN hb1 m2
  have hlt2 : w.heap.size < (w1.drewN m2).heap.size := hlt1
  clear hr hb1 hg1 hlt1 hl2
  generalize w1.drewN m2 = W2 at *
  by_cases h3 : 1800 < (n : Int)
  · rw [if_pos h3] at hG
    subst hG
    have b3 : decide (1800 < n) = true := decide_eq_true (by omega)
    have b3' : decide (1800 < (n : Int)) = true := decide_eq_true h3
    go_wp2_with (first | (refine wpList_store_row rfl 24 (.tmp 2) (.tmp 17) rfl w.heap.size (#[.int .i64 0, .int .i64 0, .slice none 0 0] : Array Value) rfl rfl 24 (#[.int .i64 0, .int .i64 0, .slice none 0 0] : Array Value) hg2 (by kernel_rfl) rfl (by simp [Value.oneCell']) ?_))
    refine bodyPost_ret (results_ctt rfl _ _ w.heap.size 24 #[.int .i64 0, .int .i64 0, .slice none 0 0] (0, 0) _ rfl (setRow_heap _ _ _ _ 24 _ hg2) hu24 rfl (by kernel_rfl)) rfl ?_
    exact ⟨_, rfl, own_nil _ _ _ _, below_setRow hb2 (Nat.le_refl _) _⟩
  rw [if_neg h3] at hG
  have b3 : decide (1800 < (n : Int)) = false := decide_eq_false h3
  by_cases h4 : l.length < n + 11
  · rw [if_pos h4] at hG
    subst hG
    go_wp2_with (first | (refine wpList_store_row rfl 24 (.tmp 2) (.tmp 23) rfl w.heap.size (#[.int .i64 0, .int .i64 0, .slice none 0 0] : Array Value) rfl rfl 24 (#[.int .i64 0, .int .i64 0, .slice none 0 0] : Array Value) hg2 (by kernel_rfl) rfl (by simp [Value.oneCell']) ?_))
    refine bodyPost_ret (results_ctt rfl _ _ w.heap.size 24 #[.int .i64 0, .int .i64 0, .slice none 0 0] (0, 0) _ rfl (setRow_heap _ _ _ _ 24 _ hg2) hu24 rfl (by kernel_rfl)) rfl ?_
    exact ⟨_, rfl, own_nil _ _ _ _, below_setRow hb2 (Nat.le_refl _) _⟩
  rw [if_neg h4] at hG
  have b4 : decide ((l.length : Int) < (n : Int) + 11) = false := decide_eq_false (by omega)
  -- what the four bytes say, and the sum
  have HB4 := in_drop (in_take HB.out (n + 11)) (n + 7)
  have hl4 : ((l.take (n + 11)).drop (n + 7)).length = 4 := by rw [List.length_drop, List.length_take]; omega
  have hl7 : (l.take (n + 7)).length = n + 7 := by rw [List.length_take]; omega
  have hl11 : (l.take (n + 11)).length = n + 11 := by rw [List.length_take]; omega
  have HC4 := Kd.C_drop (c := c) (Kd.C_take HR.out (show n + 11 ≤ l.length by omega)) (show n + 7 ≤ (l.take (n + 11)).length by omega) (by omega)
  have w7 : IntKind.i64.wrap ((n : Int) + 7) = (n : Int) + 7 := by rw [IntKind.wrap_i64]; omega
  have w11 : IntKind.i64.wrap ((n : Int) + 11) = (n : Int) + 11 := by rw [IntKind.wrap_i64]; omega
  have kc := cut_mid (P := Try.prog) 22 5 .i64 .i64 hu22 hi5 1 hs5 A l.length c ((n : Int) + 7) ((n : Int) + 11) (by omega) (by omega) (by omega) hc
  rw [show ((n : Int) + 7).toNat = n + 7 by omega, show ((n : Int) + 11).toNat = n + 11 by omega, show n + 11 - (n + 7) = 4 by omega] at kc
  rw [show (Kd.int .u8).sz = 1 from rfl] at HC4
  generalize (if c = n + 7 then A else A.map (·.add ((n + 7) * 1))) = A4 at kc HC4
  have HC7 := Kd.C_take HR.out (show n + 7 ≤ l.length by omega)
  have q1 := fun (W : World) (h : Below w.heap.size w W) => refread_calls A4 (c - (n + 7)) _ W (Kd.C_below HC4 h) HB4 (by omega)
  have q2 := fun (W : World) (h : Below w.heap.size w W) => ofref_calls A c (l.take (n + 7)) _ W (Kd.C_below HC7 h) (by omega) (sumF_of (by omega) (in_take HB.out (n + 7)))
  rw [hl4] at q1
  rw [hl7] at q2
  obtain ⟨a, ha⟩ : ∃ a, beN ((l.take (n + 11)).drop (n + 7)) = a := ⟨_, rfl⟩
  obtain ⟨s, hs⟩ : ∃ s, more 0 (l.take (n + 7)) = s := ⟨_, rfl⟩
  rw [ha, hs] at hG
  rw [ha] at q1
  rw [hs] at q2
  have Q1 := Aside0.mk q1
  have Q2 := Aside0.mk q2
  have hsr := more_range 0 (l.take (n + 7))
  rw [hs] at hsr
  have ws : IntKind.u64.wrap s = s := by rw [show IntKind.u64.wrap s = s % 18446744073709551616 by simp [IntKind.wrap, IntKind.bits, IntKind.signed]]; omega
  clear q1 q2 HC4 HC7 HB4 ha hs
  go_wp2_with fail
  go_quiet (first | (go_at_call 22; exact Calls.quiet_of ((Q1.out _ (pw_below_drewN hb2 _)).mono fun _ _ h => ⟨h.1, h.2.out⟩)) | (go_at_call 23; exact Calls.quiet_of ((Q2.out _ (pw_below_drewN hb2 _)).mono fun _ _ h => ⟨h.1, h.2.out⟩)))
  have hg3 : (W2.drewN nq).heap[w.heap.size]? = some (.cells #[.int .i64 0, .int .i64 0, .slice none 0 0] 24 (0, 0)) := hg2
  have hb3 : Below w.heap.size w (W2.drewN nq) := pw_below_drewN hb2 nq
  have hlt3 : w.heap.size < (W2.drewN nq).heap.size := hlt2
  clear hg2 hb2 hlt2 kc Q1 Q2
  generalize W2.drewN nq = W3 at *
  by_cases h5 : a = s
  · have b5 : (a != s) = false := by simp [h5]
    rw [if_neg (by simp [h5])] at hG
    obtain ⟨ad, rfl, hcell⟩ := Kd.at_int HR.out 2 (by omega) (by omega)
    have hlc := World.block_lt_of_cell? _ _ hcell
    have HB3 := in_drop (in_take HB.out 7) 3
    have hl3 : ((l.take 7).drop 3).length = 4 := by rw [List.length_drop, List.length_take]; omega
    have hln : ((l.take (n + 7)).drop 7).length = n := by rw [List.length_drop, List.length_take]; omega
    have HC3 := Kd.C_mid (lo := 3) (hi := 7) HR.out (by omega) (by omega) hc
    have HCn := Kd.C_mid (lo := 7) (hi := n + 7) HR.out (by omega) (by omega) hc
    have kc3 := cut_mid (P := Try.prog) 22 5 .i64 .i64 hu22 hi5 1 hs5 (some ad) l.length c 3 7 (by omega) (by omega) (by omega) hc
    have kcn := cut_mid (P := Try.prog) 22 5 .i64 .i64 hu22 hi5 1 hs5 (some ad) l.length c 7 ((n : Int) + 7) (by omega) (by omega) (by omega) hc
    rw [show ((n : Int) + 7).toNat = n + 7 by omega, show (7 : Int).toNat = 7 from rfl, show n + 7 - 7 = n by omega] at kcn
    rw [show (7 : Int).toNat = 7 from rfl, show (3 : Int).toNat = 3 from rfl, show 7 - 3 = 4 from rfl] at kc3
    rw [show (Kd.int .u8).sz = 1 from rfl] at HC3 HCn
    generalize (if c = 3 then some ad else (some ad).map (·.add (3 * 1))) = A3 at kc3 HC3
    generalize (if c = 7 then some ad else (some ad).map (·.add (7 * 1))) = An at kcn HCn
    have q3 := fun (W : World) (h : Below w.heap.size w W) => refread_calls A3 (c - 3) _ W (Kd.C_below HC3 h) HB3 (by omega)
    rw [hl3] at q3
    rw [hln] at HCn
    have hsq := beN_range ((l.take 7).drop 3) HB3
    rw [hl3] at hsq
    generalize beN ((l.take 7).drop 3) = sq at *
    generalize hbody : (l.take (n + 7)).drop 7 = body at *
    have HLBD := Aside0.mk (show body.length = n from hln)
    have Q3 := Aside0.mk q3
    have HCN := Aside0.mk HCn
    have HBE := Aside0.mk hb3
    have e2 : ad.add 2 = ⟨ad.block, ad.off + 2, none⟩ := rfl
    rw [show ((2 : Int)).toNat = 2 from rfl, e2] at hcell
    rw [show ((2 : Int)).toNat = 2 from rfl, e2] at hlc
    clear e2
    have HCL := Aside0.mk hcell
    have c3 : W3.cell? ⟨ad.block, ad.off + 2, none⟩ = some (.int .u8 (rd l 2)) := (hb3.cell hlc).trans hcell
    have n2 : (2 : Int) < (l.length : Int) := by omega
    have hrd := rd_byte HB.out 2 (by omega)
    have wr2 : IntKind.i64.wrap (rd l 2) = rd l 2 := by rw [IntKind.wrap_i64]; have h1 : 0 ≤ rd l 2 := hrd.1; have h2 : rd l 2 ≤ 255 := hrd.2; omega
    have wsq : IntKind.i64.wrap sq = sq := by rw [IntKind.wrap_i64]; omega
    clear hrd
    clear q3 HCn hcell HC3 HB3
    go_wp2_with fail
    have hneZ0 : w.heap.size ≠ W3.heap.size := by omega
    have hneZ1 : w.heap.size ≠ W3.heap.size + 1 := by omega
    have hltA : w.heap.size < W3.heap.size := hlt3
    have hltB : w.heap.size < W3.heap.size + 1 := by omega
    have hneA : ad.block ≠ W3.heap.size := by have := HBE.out.size; omega
    have hneB : ad.block ≠ W3.heap.size + 1 := by have := HBE.out.size; omega
    have hsA : w.heap.size ≤ W3.heap.size := HBE.out.size
    have hsB : w.heap.size ≤ W3.heap.size + 1 := by omega
    go_region_held3 (fun w' => w'.cell? ⟨ad.block, ad.off + 2, none⟩ = some (.int .u8 (rd l 2))) (first | go_keep | exact c6 | exact cell_keep (cell_keep (cell_keep c6 hneA) hneA) hneA | exact cell_keep (cell_keep (cell_keep c6 hneB) hneB) hneB) (first
      | (go_at_call 22; refine (Q3.out _ (by with_reducible (repeat (first | exact HB6.out | exact HBE.out | apply below_alloc | apply pw_below_drewN | apply below_drew1)))).mono ?_; rintro e w5 ⟨rfl, m5, rfl⟩)
      | ((with_reducible refine step_append_in (.tmp 47) (.tmp 51) ⟨rfl, rfl⟩ ?_); refine ⟨w.heap.size, _, [], body, An, n, c - 7, rfl, rfl, HLBD.out.symm, own_empty (by ((with_reducible (repeat (first | exact hd_last _ _ _ (by simp) | refine hd_old ?_ _ | refine hd_drewN ?_ _ | refine hd_drew ?_))); done)) (by first | exact hsA | exact hsB), readsC (by rw [HLBD.out]; exact Kd.C_below HCN.out (by with_reducible (repeat (first | exact HB6.out | exact HBE.out | apply below_alloc | apply pw_below_drewN | apply below_drew1)))), ((by with_reducible (repeat (first | exact HB6.out | exact HBE.out | apply below_alloc | apply pw_below_drewN | apply below_drew1))) : Below _ w _).size, (by rw [HLBD.out]; show 0 + n ≤ _; omega), ?_⟩; intro v1 w6 hown hg hat; obtain ⟨A6, k6, rfl⟩ := own_slice hown; have HO6 := Aside0.mk (show w6.ownsRow w.heap.size 5 1 (.slice A6 n k6) body.length (nums .u8 body) from by have h := hown; rw [List.nil_append, HLBD.out] at h; rw [HLBD.out]; exact h); have HG6 := Aside0.mk hg; have HA6 := Aside0.mk hat; have hb6 : Below w.heap.size w w6 := Below.grown (w := _) (by with_reducible (repeat (first | exact HB6.out | exact HBE.out | apply below_alloc | apply pw_below_drewN | apply below_drew1))) hg ((by with_reducible (repeat (first | exact HB6.out | exact HBE.out | apply below_alloc | apply pw_below_drewN | apply below_drew1))) : Below _ w _).size (own_ge (by first | exact hsA | exact hsB)); have HB6 := Aside0.mk hb6; have c6 : w6.cell? ⟨ad.block, ad.off + 2, none⟩ = some (.int .u8 (rd l 2)) := (hb6.cell (show (⟨ad.block, ad.off + 2, none⟩ : Addr).block < _ from hlc)).trans HCL.out; (first | ((refine absorb (p := w6.heap[W3.heap.size + 1]? = some (.cells #[.int .i64 0, .int .i64 0, .slice none 0 0] 24 (0, 0))) ?_ (fun hx => ?_)); (focus (refine grown_keep hg (ne_own (Nat.succ_ne_self _)) ?_; (with_reducible (repeat (first | exact hd_last _ _ _ (by simp) | refine hd_old ?_ _ | refine hd_drewN ?_ _ | refine hd_drew ?_))); done)); have d0 := cellOf hx 0 rfl; have d1 := cellOf hx 1 rfl; have d2 := cellOf hx 2 rfl; have f0 := frozOf hx 0; have f1 := frozOf hx 1; have f2 := frozOf hx 2; have HX := Aside0.mk hx; clear hx) | ((refine absorb (p := w6.heap[W3.heap.size]? = some (.cells #[.int .i64 0, .int .i64 0, .slice none 0 0] 24 (0, 0))) ?_ (fun hx => ?_)); (focus (refine grown_keep hg (ne_own (fun e => Nat.succ_ne_self _ e.symm)) ?_; (with_reducible (repeat (first | exact hd_last _ _ _ (by simp) | refine hd_old ?_ _ | refine hd_drewN ?_ _ | refine hd_drew ?_))); done)); have d0 := cellOf hx 0 rfl; have d1 := cellOf hx 1 rfl; have d2 := cellOf hx 2 rfl; have f0 := frozOf hx 0; have f1 := frozOf hx 1; have f2 := frozOf hx 2; have HX := Aside0.mk hx; clear hx) | skip); ((refine absorb (p := w6.heap[w.heap.size]? = some (.cells #[.int .i64 0, .int .i64 0, .slice none 0 0] 24 (0, 0))) ?_ (fun hz => ?_)); (focus (refine grown_keep hg (ne_own (by first | exact hneZ0 | exact hneZ1)) ?_; (with_reducible (repeat (first | exact hg3 | refine hd_old ?_ _ | refine hd_drewN ?_ _ | refine hd_drew ?_))); done)); have HZ6 := Aside0.mk hz; clear hz); clear hb6 hown hg hat))
    all_goals (first
      | (have HF := finB (t := rd l 2) (sq := sq) HZ6.out HX.out hltB HO6.out HB6.out; revert HF; generalize ((World.setCell w6 _ _).setCell _ _).setCell _ _ = W; generalize W3.heap.size + 1 = g)
      | (have HF := finB (t := rd l 2) (sq := sq) HZ6.out HX.out hltA HO6.out HB6.out; revert HF; generalize ((World.setCell w6 _ _).setCell _ _).setCell _ _ = W; generalize W3.heap.size = g)
      | (have HF := finA (t := rd l 2) (sq := sq) HZ6.out HO6.out HB6.out; revert HF; generalize w6.alloc _ = W; generalize w6.heap.size = g))
    all_goals intro HF0
    all_goals (have HF := Aside0.mk HF0; clear HF0)
    all_goals clear HCL hlc Q3 HCN HBE hg3 hb3 hlt3 HO6 HG6 HA6 HB6 HZ6 c3 c6
    all_goals (try clear HX d0 d1 d2 f0 f1 f2)
    all_goals have hbox := HF.out.box
    all_goals have hLr := HF.out.below
    all_goals (go_wp2_with (first | (refine wpList_load_row rfl 24 (.tmp 6) rfl _ rfl 24 (#[.int .i64 (rd l 2), .int .i64 sq, .slice A6 n k6] : Array Value) (0, 0) _ hbox hu24 rfl (by kernel_rfl) ?_) | fail))
    all_goals (refine (refright_calls (rd l 2) sq A6 n k6 W).mono ?_; rintro e w9 ⟨rfl, hb9⟩)
    all_goals have hz9 := (hb9.block _ (Array.getElem?_eq_some_iff.1 HF.out.zero).1).trans HF.out.zero
    all_goals have hbx9 := (hb9.block _ (Array.getElem?_eq_some_iff.1 hbox).1).trans hbox
    all_goals have hL9 := hLr.trans (hb9.mono hLr.size)
    all_goals have ho9 := pw_own_below HF.out.own hb9
    all_goals (generalize hrb : rightB (rd l 2) sq n = rb at *; clear HF hbox HR HR2 HN)
    all_goals cases rb
    all_goals (first | (rw [if_pos rfl] at hG; subst hG; go_wp2_with (first | (refine wpList_store_row rfl 24 (.tmp 2) (.tmp 57) rfl w.heap.size (#[.int .i64 0, .int .i64 0, .slice none 0 0] : Array Value) rfl rfl 24 (#[.int .i64 0, .int .i64 0, .slice none 0 0] : Array Value) hz9 (by kernel_rfl) rfl (by simp [Value.oneCell']) ?_) | fail); refine bodyPost_ret (results_ctt rfl _ _ w.heap.size 24 #[.int .i64 0, .int .i64 0, .slice none 0 0] (0, 0) _ rfl (setRow_heap _ _ _ _ 24 _ hz9) hu24 rfl (by kernel_rfl)) rfl ?_; exact ⟨_, rfl, own_nil _ _ _ _, below_setRow hL9 (Nat.le_refl _) _⟩) | skip)
    all_goals (rw [if_neg (by decide)] at hG; subst hG)
    all_goals (go_wp2_with (first | (refine wpList_load_row rfl 24 (.tmp 6) rfl _ rfl 24 (#[.int .i64 (rd l 2), .int .i64 sq, .slice A6 n k6] : Array Value) (0, 0) _ hbx9 hu24 rfl (by kernel_rfl) ?_) | (refine wpList_store_row rfl 24 (.tmp 2) (.tmp 58) rfl w.heap.size (#[.int .i64 (rd l 2), .int .i64 sq, .slice A6 n k6] : Array Value) rfl rfl 24 (#[.int .i64 0, .int .i64 0, .slice none 0 0] : Array Value) hz9 (by kernel_rfl) rfl (by simp [Value.oneCell']) ?_) | fail))
    all_goals (refine bodyPost_ret (results_ctt rfl _ _ w.heap.size 24 #[.int .i64 (rd l 2), .int .i64 sq, .slice A6 n k6] (0, 0) _ rfl (setRow_heap _ _ _ _ 24 _ hz9) hu24 rfl (by kernel_rfl)) rfl ?_)
    all_goals exact ⟨_, rfl, own_setRow ho9 (own_ne ho9 hz9 (by decide)) _, below_setRow hL9 (Nat.le_refl _) _⟩
  · have b5 : (a != s) = true := by simp [h5]
    rw [if_pos h5] at hG
    subst hG
    go_wp2_with (first | (refine wpList_store_row rfl 24 (.tmp 2) (.tmp 38) rfl w.heap.size (#[.int .i64 0, .int .i64 0, .slice none 0 0] : Array Value) rfl rfl 24 (#[.int .i64 0, .int .i64 0, .slice none 0 0] : Array Value) hg3 (by kernel_rfl) rfl (by simp [Value.oneCell']) ?_))
    refine bodyPost_ret (results_ctt rfl _ _ w.heap.size 24 #[.int .i64 0, .int .i64 0, .slice none 0 0] (0, 0) _ rfl (setRow_heap _ _ _ _ 24 _ hg3) hu24 rfl (by kernel_rfl)) rfl ?_
    exact ⟨_, rfl, own_nil _ _ _ _, below_setRow hb3 (Nat.le_refl _) _⟩
end Go.Proofs.Ytgfpkgbkbempkaa.W
