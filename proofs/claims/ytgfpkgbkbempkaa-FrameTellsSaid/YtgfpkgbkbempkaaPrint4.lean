/- Functions of the program as Lean functions, and that its calls come to them; written by a program of this claim over the kit print; Lean checks it. -/
import Derived.Test.YtgfpkgbkbempkaaPrint0
import Derived.Test.YtgfpkgbkbempkaaPrint2
import Derived.Test.YtgfpkgbkbempkaaPrint3
namespace Go.Proofs.Ytgfpkgbkbempkaa.Print
open Go.RowKit Go.Proofs.YtgfpkgbkbempkaaW.PrintWords Go.Proofs.YtgfpkgbkbempkaaW.PrintLast Go.Proofs.YtgfpkgbkbempkaaW.PrintMore
attribute [local go_sem] max2_int min2_int max_two min_two max_three min_three max_four min_four   -- for this text's walks alone
set_option linter.unusedVariables false
set_option linter.unusedSimpArgs false

/-! ### governorlaw03_head: function 9 -/
theorem V_blk {α : Type} {d : Kd α} {e base n c g : Nat} {W : World} {ok : Nat → Prop} {ad : Addr} {xs : List α} (h : Kd.V d e W base ok (.slice (some ad) n c) xs) (hn : 0 < n) (hs : 0 < d.sz) (hok : ∀ k, ok k → k ≠ g) : ad.block ≠ g := by
  obtain ⟨A, c', hv, hl, hf⟩ := h
  injection hv with h1 h2 h3
  subst h2
  exact hok _ (Kd.F_in hf h1.symm hn hs)
theorem V_string {e base n c : Nat} {W : World} {ok : Nat → Prop} {A : Option Addr} {xs : List Int} (h : Kd.V (Kd.int .u8) e W base ok (.slice A n c) xs) : (convert 22 9 (.slice A n c)).run Try.prog W = .ok (.string (strOfNums xs)) W := by
  obtain ⟨h1, h2, h3⟩ := Kd.V_reads' h
  subst h1
  exact Kd.C_string Try.underlying22 Try.underlying5 Try.underlying9 h3
def Sl (W : World) (v : Value) (l : List Int) : Prop := ∃ A c, v = .slice A l.length c ∧ l.length ≤ c ∧ Kd.C (Kd.int .u8) W A l.length l
theorem Sl.later {W W' : World} {v : Value} {l : List Int} (h : Sl W v l) (hb : Below W.heap.size W W') : Sl W' v l := by
  obtain ⟨A, c, e, hc, hC⟩ := h
  exact ⟨A, c, e, hc, Kd.C_below hC hb⟩
theorem Sl.of_R {W : World} {v : Value} {l : List Int} {e b : Nat} {ok : Nat → Prop} (h : Kd.R (Kd.int .u8) e W b ok v l) : Sl W v l := by
  obtain ⟨A, c, rfl⟩ := Kd.R_slice h
  exact ⟨A, c, rfl, (Kd.R_reads' h).2⟩
theorem Sl.of_own {W : World} {v : Value} {l : List Int} {b : Nat} (h : W.ownsRow b 5 1 v l.length (nums .u8 l)) : Sl W v l := Sl.of_R (Go.Proofs.Ytgfpkgbkbempkaa.W.R_nums h)
theorem Sl.lit (W : World) (xs : List Int) (hm : xs.length ≤ 9223372036854775807) : Sl (W.alloc (.cells (nums .u8 xs).toArray 5)) (.slice (some ⟨W.heap.size, 0, none⟩) xs.length xs.length) xs :=
  Sl.of_own (own_lit W W.heap.size 5 .u8 xs (Nat.le_refl _) hm)
theorem put_sl (t s : Int) (A : Option Addr) (c : Nat) (l : List Int) (W : World) (h : Kd.C (Kd.int .u8) W A l.length l) (hc : l.length ≤ c) (r : List Int) (hf : frame_Put.f t s l = some r) :
    Calls Try.prog 16 #[.agg #[.int .i64 t, .int .i64 s, .slice A l.length c]] W fun e W' => ∃ A' c', e = .returned (.slice A' r.length c') ∧ r.length ≤ c' ∧ Kd.C (Kd.int .u8) W' A' r.length r ∧ Below W.heap.size W W' := by
  refine (frame_Put.calls t s (fun k => k < W.heap.size) A c l r W (Kd.V_mk hc (Kd.C_F (Kd.heap_int .u8) h)) hf).mono ?_
  rintro e W' ⟨v, rfl, hr, hb⟩
  obtain ⟨A', c', rfl⟩ := Kd.R_slice hr
  exact ⟨A', c', rfl, (Kd.R_reads' hr).2.1, (Kd.R_reads' hr).2.2, hb⟩
theorem get_sl (A : Option Addr) (n c : Nat) (l : List Int) (W : World) (hn : n = l.length) (h : Kd.C (Kd.int .u8) W A n l) (hc : n ≤ c) (r1 r2 : Int) (r3 : List Int) (r4 r5 : Int) (hf : frame_Get.f l = some (r1, r2, r3, r4, r5)) :
    Calls Try.prog 10 #[.slice A n c] W fun e W' => ∃ A' c', e = .returned (.tuple #[.agg #[.int .i64 r1, .int .i64 r2, .slice A' r3.length c'], .int .i64 r4, .int .i64 r5]) ∧ r3.length ≤ c' ∧ Kd.C (Kd.int .u8) W' A' r3.length r3 ∧ Below W.heap.size W W' := by
  subst hn
  refine (frame_Get.calls A c l r1 r2 r3 r4 r5 W h hc hf).mono ?_
  rintro e W' ⟨v, rfl, hr, hb⟩
  obtain ⟨A', c', rfl⟩ := Kd.R_slice hr
  exact ⟨A', c', rfl, (Kd.R_reads' hr).2.1, (Kd.R_reads' hr).2.2, hb⟩
theorem scan_sl (k : Nat) (A : Option Addr) (n c : Nat) (l : List Int) (a : Int) (W : World) (hn : n = l.length) (h : Kd.C (Kd.int .u8) W A n l) (hc : n ≤ c) (r1 : List S24) (r2 : Int) (hf : frame_Scan.f k l a = some (r1, r2)) :
    Calls Try.prog 12 #[.slice A n c, .int .i64 a] W fun e W' => ∃ A' c', e = .returned (.tuple #[.slice A' r1.length c', .int .i64 r2]) ∧ r1.length ≤ c' ∧ Kd.C k24 W' A' r1.length r1 ∧ Below W.heap.size W W' := by
  subst hn
  refine (frame_Scan.calls k A c l a r1 r2 W h hc hf).mono ?_
  rintro e W' ⟨v, rfl, hr, hb⟩
  obtain ⟨A', c', rfl⟩ := Kd.S_slice hr
  exact ⟨A', c', rfl, (Kd.S_reads' hr).2.1, (Kd.S_reads' hr).2.2, hb⟩
theorem C_lit (W : World) (xs : List Int) (fr : Nat × Nat) (hm : xs.length ≤ 9223372036854775807) : Kd.C (Kd.int .u8) (W.alloc (.cells (nums .u8 xs).toArray 5 fr)) (some ⟨W.heap.size, 0, none⟩) xs.length xs :=
  ⟨rfl, hm, fun _ => ⟨_, rfl, fun j p hj => ⟨[.int .u8 p], rfl, rfl, fun i u hu => by
    have hi : i = 0 := by
      rcases i with _ | i
      · rfl
      · simp at hu
    subst hi
    obtain rfl : Value.int .u8 p = u := by simpa using hu
    have h1 : (W.alloc (.cells (nums .u8 xs).toArray 5 fr)).heap[W.heap.size]? = some (.cells (nums .u8 xs).toArray 5 fr) := heap_alloc_last _ _
    have e : (⟨W.heap.size, 0, none⟩ : Addr).add (j * (Kd.int .u8).sz + 0) = ⟨W.heap.size, j, none⟩ := by
      rw [show (Kd.int .u8).sz = 1 from rfl, Nat.mul_one, Nat.add_zero]
      simp only [Addr.add, Nat.zero_add]
      by_cases h0 : j = 0
      · simp [h0]
      · simp [h0]
    rw [e]
    unfold World.cell?
    rw [h1]
    simp only [nums, List.getElem?_toArray, List.getElem?_map, hj, Option.map_some]
    rfl⟩⟩⟩
theorem C_lit' (W : World) (xs : List Int) (fr : Nat × Nat) (g : Nat) (hg : g = W.heap.size) (n : Nat) (hn : n = xs.length) (hm : xs.length ≤ 9223372036854775807) : Kd.C (Kd.int .u8) (W.alloc (.cells (nums .u8 xs).toArray 5 fr)) (some ⟨g, 0, none⟩) n xs := by
  subst hg hn
  exact C_lit W xs fr hm
theorem C_one24 (W : World) (x : S24) (A : Option Addr) (n c g : Nat) (fr : Nat × Nat) (hn : n = x.f2.length) (hc : n ≤ c) (hC : Kd.C (Kd.int .u8) W A n x.f2) (hg : g = W.heap.size) :
    Kd.C k24 (W.alloc (.cells #[.int .i64 x.f0, .int .i64 x.f1, .slice A n c] 24 fr)) (some ⟨g, 0, none⟩) 1 [x] := by
  subst hg hn
  refine ⟨rfl, by decide, fun _ => ⟨_, rfl, fun j p hj => ⟨[.int .i64 x.f0, .int .i64 x.f1, .slice A x.f2.length c], rfl, ?_, fun i u hu => ?_⟩⟩⟩
  · obtain rfl : j = 0 := by
      rcases j with _ | j
      · rfl
      · simp at hj
    obtain rfl : x = p := by simpa using hj
    exact ⟨_, _, rfl, rfl, ⟨_, _, rfl, rfl, ⟨A, c, rfl, hc, Kd.C_alloc hC _⟩⟩⟩
  · obtain rfl : j = 0 := by
      rcases j with _ | j
      · rfl
      · simp at hj
    have h1 : (W.alloc (.cells #[.int .i64 x.f0, .int .i64 x.f1, .slice A x.f2.length c] 24 fr)).heap[W.heap.size]? = some (.cells #[.int .i64 x.f0, .int .i64 x.f1, .slice A x.f2.length c] 24 fr) := heap_alloc_last _ _
    have e : (⟨W.heap.size, 0, none⟩ : Addr).add (0 * k24.sz + i) = ⟨W.heap.size, i, none⟩ := by
      rw [Nat.zero_mul, Nat.zero_add]
      simp only [Addr.add, Nat.zero_add]
      by_cases h0 : i = 0
      · simp [h0]
      · simp [h0]
    rw [e]
    unfold World.cell?
    rw [h1]
    rcases i with _ | _ | _ | i
    · simpa using hu
    · simpa using hu
    · simpa using hu
    · simp at hu
theorem hd_same : governorref03_Same.f [(⟨2, 258, [97, 98]⟩ : S24)] [(⟨2, 258, [97, 98]⟩ : S24)] = some true := by decide +kernel
theorem wpl_append {ops : Array Oper} {rest : List Oper} {o : Oper} {a : Act} {Q : Exit → Act → World → Prop} {W : World} (W0 : World) (base : Nat) (s x : Operand)
    (hgd : o.guard = none) (ho : o.op = .call { callee := .builtin .append, args := #[s, x], argTypes := #[22, 22] })
    (h : ∃ v xs ys A n c, a.eval s = v ∧ a.eval x = .slice A n c ∧ n = ys.length ∧ W.ownsRow base 5 1 v xs.length (nums .u8 xs) ∧ Kd.C (Kd.int .u8) W A ys.length ys ∧ Below base W0 W ∧ base ≤ W.heap.size ∧ xs.length + ys.length ≤ 140737488351232 ∧
      ∀ A1 c1 w1, w1.ownsRow base 5 1 (.slice A1 (xs ++ ys).length c1) (xs ++ ys).length (nums .u8 (xs ++ ys)) → Below base W0 w1 → W.grownBy w1 v.ownBlock → wpList Try.prog ops Q rest (a.put o.dst (.slice A1 (xs ++ ys).length c1)) w1) :
    wpList Try.prog ops Q (o :: rest) a W := wpList_plain hgd fun K hK => by
  obtain ⟨v, xs, ys, A, n, c, hs, hx, rfl, HO, HR, HB, hbase, hl, h⟩ := h
  obtain ⟨v1, w1, hr, h1, h2, h3⟩ := Go.Proofs.Ytgfpkgbkbempkaa.W.run_append_reads W o.type base v xs ys A c HO (Go.Proofs.Ytgfpkgbkbempkaa.W.readsC HR) hbase (by omega)
  obtain ⟨A1, c1, rfl⟩ := own_slice h1
  unfold Oper.wp execOp
  simp only [ho, resolve, invoke, builtin, Sem.run_bind, Sem.run_pure, Result.andThen_ok, List.map_toArray, List.map_cons, List.map_nil, hs, hx, hr]
  exact hK _ _ (h A1 c1 w1 h1 (HB.grown h2 hbase (own_base HO)) h2)
theorem C_cut {W : World} {A : Option Addr} {l : List Int} (h : Kd.C (Kd.int .u8) W A l.length l) (m : Nat) (hm : m ≤ l.length) : Kd.C (Kd.int .u8) W A m (l.take m) := by
  have h := Kd.C_take h hm
  rwa [List.length_take, Nat.min_eq_left hm] at h
theorem own_sl {W : World} {b c : Nat} {A : Option Addr} {xs : List Int} (h : W.ownsRow b 5 1 (.slice A xs.length c) xs.length (nums .u8 xs)) (n : Nat) (hn : n = xs.length) : Kd.C (Kd.int .u8) W A n xs ∧ n ≤ c := by
  subst hn
  have h := Kd.R_reads' (Go.Proofs.Ytgfpkgbkbempkaa.W.R_nums h)
  exact ⟨h.2.2, h.2.1⟩
theorem own_open {W : World} {base n c : Nat} {A : Option Addr} {xs : List Int} (h : W.ownsRow base 5 1 (.slice A n c) n (nums .u8 xs)) (hn : 0 < n) :
    ∃ (g : Nat) (cur : Array Value), A = some ⟨g, 0, none⟩ ∧ base ≤ g ∧ W.heap[g]? = some (.cells cur 5 (0, 0)) ∧ n ≤ cur.size := by
  rcases h.2 with ⟨h1, h2⟩ | ⟨g, cap, cur, hv, hbg, hh, hnc, hcm, hcs, htake⟩
  · omega
  · injection hv with h1 h2 h3
    exact ⟨g, cur, h1, hbg, hh, by rw [hcs]; omega⟩
def hbB : List Int := (frame_Put.f 2 258 [97, 98]).getD []
def hbD : List Int := (frame_Put.f 1 259 []).getD []
theorem hd_put : frame_Put.f 2 258 [97, 98] = some hbB := by decide +kernel
theorem hd_put2 : frame_Put.f 1 259 [] = some hbD := by decide +kernel
theorem hd_put3 : frame_Put.f 0 0 [] = some [] := by decide +kernel
theorem hd_len : hbB.length = 13 := by decide +kernel
theorem hd_len2 : hbD.length = 11 := by decide +kernel
theorem hd_get1 : frame_Get.f (([] ++ hbB) ++ [9]) = some (2, 258, [97, 98], 13, 0) := by decide +kernel
theorem hd_get2 : frame_Get.f (hbB.take 12) = some (0, 0, [], 0, 13) := by decide +kernel
theorem hd_get3 : frame_Get.f (([] ++ hbB).set 8 99) = some (0, 0, [], 0, 14) := by decide +kernel
theorem hd_get4 : frame_Get.f [255, 255] = some (0, 0, [], 0, 12) := by decide +kernel
theorem hd_scan1 : ∃ l : List S24, frame_Scan.f 100 (([] ++ hbB) ++ hbD) 258 = some (l, 24) ∧ l.length = 2 := by
  have h : ((frame_Scan.f 100 (([] ++ hbB) ++ hbD) 258).map fun r => decide (r.2 = 24 ∧ r.1.length = 2)) = some true := by decide +kernel
  revert h
  cases frame_Scan.f 100 (([] ++ hbB) ++ hbD) 258 with
  | none => intro h; cases h
  | some r => obtain ⟨l, n⟩ := r; intro h; obtain ⟨h1, h2⟩ := of_decide_eq_true (Option.some.inj h); cases h1; exact ⟨l, rfl, h2⟩
theorem hd_scan2 : ∃ l : List S24, frame_Scan.f 100 hbB 257 = some (l, 0) ∧ l.length = 0 := by
  have h : ((frame_Scan.f 100 hbB 257).map fun r => decide (r.2 = 0 ∧ r.1.length = 0)) = some true := by decide +kernel
  revert h
  cases frame_Scan.f 100 hbB 257 with
  | none => intro h; cases h
  | some r => obtain ⟨l, n⟩ := r; intro h; obtain ⟨h1, h2⟩ := of_decide_eq_true (Option.some.inj h); cases h1; exact ⟨l, rfl, h2⟩
theorem hd_front : hbB.take 9 = [0, 2, 2, 0, 0, 1, 2, 97, 98] := by decide +kernel
set_option maxRecDepth 100000 in
set_option maxHeartbeats 4000000 in
theorem head_walk (w : World) (hbB hbD : List Int) (hd_put : frame_Put.f 2 258 [97, 98] = some hbB) (hd_put2 : frame_Put.f 1 259 [] = some hbD) (hd_put3 : frame_Put.f 0 0 [] = some []) (hd_len : hbB.length = 13) (hd_len2 : hbD.length = 11)
    (hd_get1 : frame_Get.f (([] ++ hbB) ++ [9]) = some (2, 258, [97, 98], 13, 0)) (hd_get2 : frame_Get.f (hbB.take 12) = some (0, 0, [], 0, 13)) (hd_get3 : frame_Get.f (([] ++ hbB).set 8 99) = some (0, 0, [], 0, 14)) (hd_get4 : frame_Get.f [255, 255] = some (0, 0, [], 0, 12))
    (l1 l2 : List S24) (hd_scan1 : frame_Scan.f 100 (([] ++ hbB) ++ hbD) 258 = some (l1, 24)) (hd_l1 : l1.length = 2) (hd_scan2 : frame_Scan.f 100 hbB 257 = some (l2, 0)) (hd_l2 : l2.length = 0) (hd_front : hbB.take 9 = [0, 2, 2, 0, 0, 1, 2, 97, 98]) :
    Calls Try.prog 9 #[] w fun e w' => e = .returned (.bool true) ∧ Below w.heap.size w w' := by
  replace hd_len := Aside0.mk hd_len
  replace hd_len2 := Aside0.mk hd_len2
  replace hd_l1 := Aside0.mk hd_l1
  replace hd_l2 := Aside0.mk hd_l2
  replace hd_put := Aside0.mk hd_put
  replace hd_put2 := Aside0.mk hd_put2
  replace hd_put3 := Aside0.mk hd_put3
  replace hd_get1 := Aside0.mk hd_get1
  replace hd_get2 := Aside0.mk hd_get2
  replace hd_get3 := Aside0.mk hd_get3
  replace hd_get4 := Aside0.mk hd_get4
  replace hd_scan1 := Aside0.mk hd_scan1
  replace hd_scan2 := Aside0.mk hd_scan2
  replace hd_front := Aside0.mk hd_front
  have hu24 := Try.underlying24
  have hu22 := Try.underlying22
  have kc := fun (w : World) (C : Array Value) (n c : Nat) => Lib.run_convert_bytes_const (P := Try.prog) w 22 5 C n c hu22 Try.underlying5
  have HF := Aside0.mk (C_lit w [97, 98] (2, 3) (by decide))
  have HB := Aside0.mk (show Below w.heap.size w _ from below_alloc (Below.refl w.heap.size w) (.cells (nums .u8 [97, 98]).toArray 5 (2, 3)))
  go_enter Try.func9, Try.ntmps9
  go_wp2_with fail
  have hW1 := HB.out
  refine (put_sl 2 258 _ 2 [97, 98] _ (Kd.C_alloc HF.out _) (Nat.le_refl 2) _ hd_put.out).mono ?_
  rintro e W2 ⟨Ab, cb, rfl, hcb, hCb, hb2⟩
  obtain ⟨ad, rfl, _⟩ := hCb.2.2 (by rw [hd_len.out]; decide)
  have hF2 := Aside0.mk (Kd.C_below (Kd.C_alloc HF.out _) hb2)
  have hB2 := Aside0.mk ((below_alloc HB.out _).trans (hb2.mono (below_alloc HB.out _).size))
  have hX2 := Aside0.mk ((hb2.block _ (by simp)).trans (heap_alloc_last _ _))
  have hC2 := Aside0.mk hCb
  rw [hd_len.out] at hcb ⊢
  clear hCb hb2 hW1 HF HB
  go_wp2_with (first
    | (at_builtin; (with_reducible refine wpl_append W2 W2.heap.size (.tmp 29) (.tmp 30) rfl rfl ?_); refine ⟨_, [], hbB, some ad, 13, cb, rfl, rfl, hd_len.out.symm, Go.Proofs.Ytgfpkgbkbempkaa.W.own_empty (heap_alloc_last _ _) (Nat.le_refl _), Kd.C_alloc hC2.out _, below_alloc (Below.refl _ _) _, by simp, by rw [hd_len.out]; decide, ?_⟩; intro A3 c3 W3 ho3 hb3 _; have HO3 := Aside0.mk ho3; have HB3 := Aside0.mk hb3; clear ho3 hb3)
    | (at_builtin; (with_reducible refine wpl_append W2 W2.heap.size (.tmp 31) (.tmp 32) rfl rfl ?_); refine ⟨_, [] ++ hbB, [9], _, 1, 1, rfl, rfl, rfl, own_alloc HO3.out _, C_lit W3 [9] (0, 0) (by decide), below_alloc HB3.out _, Nat.le_trans HB3.out.size (by simp), by simp [hd_len.out], ?_⟩; intro A4 c4 W4 ho4 hb4 _; have HO4 := Aside0.mk ho4; have HB4 := Aside0.mk hb4; clear ho4 hb4))
  have e4 : hbB.length + 1 = (([] ++ hbB) ++ [9]).length := by simp
  have o4 := own_sl HO4.out _ e4
  refine (get_sl A4 (hbB.length + 1) c4 _ W4 e4 o4.1 o4.2 _ _ _ _ _ hd_get1.out).mono ?_
  clear e4 o4
  rintro e W5 ⟨A5, c5, rfl, hc5, hC5, hb5⟩
  have HB5 := Aside0.mk (HB4.out.trans (hb5.mono HB4.out.size))
  have HC5 := Aside0.mk hC5
  have e12 : (hbB.take 12).length = 12 := by rw [List.length_take, hd_len.out]; decide
  have HX5 := Aside0.mk (heap_alloc_last W5 (.cells #[.int .i64 2, .int .i64 258, .slice A5 2 c5] 24))
  clear hC5 hb5
  go_wp2_with fail
  refine (get_sl (some ad) 12 cb (hbB.take 12) _ e12.symm (C_cut (Kd.C_below hC2.out (below_alloc HB5.out _)) 12 (by rw [hd_len.out]; decide)) (by omega) _ _ _ _ _ hd_get2.out).mono ?_
  rintro e W6 ⟨A6, c6, rfl, _, _, hb6⟩
  have HB6 := Aside0.mk ((below_alloc HB5.out _).trans (hb6.mono (below_alloc HB5.out _).size))
  have HC6 := Aside0.mk (Kd.C_below (Kd.C_alloc HC5.out _) hb6)
  have HX6 := Aside0.mk ((hb6.block _ (by simp)).trans HX5.out)
  have hC6 := Aside0.mk (Kd.C_below hC2.out HB6.out)
  clear hb6 HB5 HC5 HX5
  go_wp2_with (at_builtin; (with_reducible refine wpl_append W6 W6.heap.size (.tmp 48) (.tmp 49) rfl rfl ?_); refine ⟨_, [], hbB, some ad, 13, cb, rfl, rfl, hd_len.out.symm, Go.Proofs.Ytgfpkgbkbempkaa.W.own_empty (Go.Proofs.Ytgfpkgbkbempkaa.W.hd_last _ _ _ (by simp)) (by simp <;> omega), Kd.C_alloc (Kd.C_alloc hC6.out _) _, below_alloc (below_alloc (Below.refl _ _) _) _, by simp <;> omega, by rw [hd_len.out]; decide, ?_⟩; intro A7 c7 W7 ho7 hb7 _; have HO7 := Aside0.mk ho7; have HB7 := Aside0.mk hb7; clear ho7 hb7; obtain ⟨g, cur, rfl, hgB, hg7, hcs⟩ := own_open HO7.out (by rw [List.nil_append, hd_len.out]; decide); rw [List.nil_append, hd_len.out] at hcs; have n8 : (8 : Int) < (hbB.length : Int) := (by rw [hd_len.out]; decide); have hcl : W7.cell? ⟨g, 8, none⟩ = some (cur[8]'(by omega)) := (by simp [World.cell?, hg7]); have hfr : W7.frozen? ⟨g, 8, none⟩ = false := (by simp [World.frozen?, hg7]))
  have hR8 := (Kd.R_reads' (Kd.R_putn (Go.Proofs.Ytgfpkgbkbempkaa.W.R_nums HO7.out) 8 99)).2
  rw [show (8 : Int).toNat = 8 from rfl] at hR8
  have e8 : ((([] ++ hbB).set 8 99).length) = hbB.length := by rw [List.length_set, List.nil_append]
  have HB8 := Aside0.mk (show Below W6.heap.size W6 (W7.setCell ⟨g, 8, none⟩ (.int .u8 99)) from below_set HB7.out hgB)
  refine (get_sl (some ⟨g, 0, none⟩) hbB.length c7 (([] ++ hbB).set 8 99) _ e8.symm (by have h := hR8.2; rw [e8] at h; exact h) hR8.1 _ _ _ _ _ hd_get3.out).mono ?_
  rintro e W9 ⟨A9, c9, rfl, _, _, hb9⟩
  have HB9 := Aside0.mk (HB8.out.trans (hb9.mono HB8.out.size))
  clear hR8 HB8 HB7 HO7 hcl hfr hg7 hb9
  go_wp2_with fail
  refine (get_sl _ 2 2 [255, 255] _ rfl (C_lit' _ [255, 255] (0, 0) _ (by simp) 2 rfl (by decide)) (Nat.le_refl _) _ _ _ _ _ hd_get4.out).mono ?_
  rintro e W10 ⟨A10, c10, rfl, _, _, hb10⟩
  have HB10 := Aside0.mk ((below_alloc (below_alloc HB9.out _) _).trans (hb10.mono (below_alloc (below_alloc HB9.out _) _).size))
  have HC10 := Aside0.mk (Kd.C_below HC6.out HB10.out)
  have HX10 := Aside0.mk ((HB10.out.block _ (Array.getElem?_eq_some_iff.1 HX6.out).1).trans HX6.out)
  have hC10 := Aside0.mk (Kd.C_below hC6.out HB10.out)
  clear hb10 HB9 HC6 HX6 hC6
  go_wp2_with (at_builtin; (with_reducible refine wpl_append W10 W10.heap.size (.tmp 66) (.tmp 67) rfl rfl ?_); refine ⟨_, [], hbB, some ad, 13, cb, rfl, rfl, hd_len.out.symm, Go.Proofs.Ytgfpkgbkbempkaa.W.own_empty (Go.Proofs.Ytgfpkgbkbempkaa.W.hd_last _ _ _ (by simp)) (by simp <;> omega), Kd.C_alloc (Kd.C_alloc hC10.out _) _, below_alloc (below_alloc (Below.refl _ _) _) _, by simp <;> omega, by rw [hd_len.out]; decide, ?_⟩; intro A11 c11 W11 ho11 hb11 _; have HO11 := Aside0.mk ho11; have HB11 := Aside0.mk hb11; clear ho11 hb11)
  refine (put_sl 1 259 _ 0 [] _ (Kd.C_nil _ _) (Nat.le_refl _) _ hd_put2.out).mono ?_
  rintro e W12 ⟨A12, c12, rfl, hc12, hC12, hb12⟩
  have HO12 := Aside0.mk (pw_own_below HO11.out hb12)
  have HB12 := Aside0.mk (HB11.out.trans (hb12.mono HB11.out.size))
  have HC12 := Aside0.mk hC12
  have e12' : ([] ++ hbB).length = hbB.length := by rw [List.nil_append]
  rw [e12'] at HO12
  clear hC12 hb12 HO11 HB11
  go_wp2_with (at_builtin; (with_reducible refine wpl_append W10 W10.heap.size (.tmp 68) (.tmp 70) rfl rfl ?_); refine ⟨_, [] ++ hbB, hbD, A12, hbD.length, c12, rfl, rfl, rfl, HO12.out, HC12.out, HB12.out, HB12.out.size, by rw [e12', hd_len.out, hd_len2.out]; decide, ?_⟩; intro A13 c13 W13 ho13 hb13 _; have HO13 := Aside0.mk ho13; have HB13 := Aside0.mk hb13; clear ho13 hb13)
  have e13 : hbB.length + hbD.length = (([] ++ hbB) ++ hbD).length := by simp
  have o13 := own_sl HO13.out _ e13
  refine (scan_sl 100 A13 (hbB.length + hbD.length) c13 _ 258 W13 e13 o13.1 o13.2 l1 24 hd_scan1.out).mono ?_
  rintro e W14 ⟨A14, c14, rfl, hc14, _, hb14⟩
  rw [hd_l1.out]
  have HB14 := Aside0.mk (HB13.out.trans (hb14.mono HB13.out.size))
  have hC14 := Aside0.mk (Kd.C_below hC10.out HB14.out)
  clear e13 o13 hb14 HB13 HO13 hC10 HO12 HC12 HB12
  go_wp2_with fail
  refine (scan_sl 100 (some ad) 13 cb hbB 257 W14 hd_len.out.symm (by have h := hC14.out; rw [hd_len.out] at h; exact h) hcb l2 0 hd_scan2.out).mono ?_
  rintro e W15 ⟨A15, c15, rfl, hc15, _, hb15⟩
  rw [hd_l2.out]
  have HB15 := Aside0.mk (HB14.out.trans (hb15.mono HB14.out.size))
  have hc9 := C_cut (Kd.C_below hC14.out hb15) 9 (by rw [hd_len.out]; decide)
  rw [hd_front.out] at hc9
  have k9 := Kd.C_string (c := cb) Try.underlying22 Try.underlying5 Try.underlying9 hc9
  rw [show strOfNums [0, 2, 2, 0, 0, 1, 2, 97, 98] = ⟨#[0, 2, 2, 0, 0, 1, 2, 97, 98]⟩ from by decide +kernel] at k9
  have HC15 := Aside0.mk (Kd.C_below HC10.out HB15.out)
  have hX15 := (HB15.out.block _ (Array.getElem?_eq_some_iff.1 HX10.out).1).trans HX10.out
  have HA15 := Aside0.mk ((HB6.out.trans (HB10.out.mono HB6.out.size)).trans (HB15.out.mono (Nat.le_trans HB6.out.size HB10.out.size)))
  have hZ15 : W15.heap[w.heap.size + 1]? = some (.cells #[.int .i64 2, .int .i64 258, .slice (some ⟨w.heap.size, 0, none⟩) 2 2] 24 (0, 0)) := by
    have h := (HA15.out.block _ (Array.getElem?_eq_some_iff.1 hX2.out).1).trans hX2.out
    simpa using h
  have HF15 := Aside0.mk (Kd.C_below hF2.out HA15.out)
  clear hb15 HB14 hC14 HC10 HX10 hc9
  go_wp2_with (first
    | ((with_reducible refine gate_dst (N := 85) rfl ?_); (try (refine gate_guard (by rfl) ?_; dsimp only)); refine wpList_load_row rfl 24 (.tmp 3) rfl W5.heap.size rfl 24 (#[.int .i64 2, .int .i64 258, .slice A5 2 c5] : Array Value) (0, 0) _ hX15 hu24 rfl (by kernel_rfl) ?_)
    | ((with_reducible refine gate_dst (N := 87) rfl ?_); (try (refine gate_guard (by rfl) ?_; dsimp only)); refine wpList_load_row rfl 24 (.tmp 1) rfl (w.heap.size + 1) rfl 24 (#[.int .i64 2, .int .i64 258, .slice (some ⟨w.heap.size, 0, none⟩) 2 2] : Array Value) (0, 0) _ (by (with_reducible repeat (first | exact hZ15 | refine Go.Proofs.Ytgfpkgbkbempkaa.W.hd_old ?_ _))) hu24 rfl (by kernel_rfl) ?_))
  refine (governorref03_Same.calls (some ⟨W15.heap.size, 0, none⟩) 1 [(⟨2, 258, [97, 98]⟩ : S24)] (some ⟨W15.heap.size + 1, 0, none⟩) 1 [(⟨2, 258, [97, 98]⟩ : S24)] true _ (Kd.C_alloc (C_one24 W15 (⟨2, 258, [97, 98]⟩ : S24) A5 2 c5 _ (0, 0) rfl hc5 HC15.out rfl) _) (Nat.le_refl 1) (C_one24 _ (⟨2, 258, [97, 98]⟩ : S24) _ 2 2 _ (0, 0) rfl (Nat.le_refl 2) (Kd.C_alloc HF15.out _) (by simp)) (Nat.le_refl 1) hd_same).mono ?_
  rintro e W16 ⟨rfl, hd16⟩
  have HB16 := Aside0.mk ((below_alloc (below_alloc (hB2.out.trans (HA15.out.mono hB2.out.size)) (.cells #[.int .i64 2, .int .i64 258, .slice A5 2 c5] 24)) (.cells #[.int .i64 2, .int .i64 258, .slice (some ⟨w.heap.size, 0, none⟩) 2 2] 24)).trans (Below.mono hd16.below (Nat.le_trans (hB2.out.trans (HA15.out.mono hB2.out.size)).size (by simp <;> omega))))
  clear hd16
  go_wp2_with fail
  refine (put_sl 0 0 none 0 [] _ (Kd.C_nil _ _) (Nat.le_refl _) _ hd_put3.out).mono ?_
  rintro e W17 ⟨A17, c17, rfl, _, _, hb17⟩
  go_wp2_with fail
  go_ret
  exact ⟨rfl, HB16.out.trans (hb17.mono HB16.out.size)⟩
theorem head_holds (w : World) : Calls Try.prog 9 #[] w fun e w' => e = .returned (.bool true) ∧ Below w.heap.size w w' := by
  obtain ⟨l1, h1, h2⟩ := hd_scan1
  obtain ⟨l2, h3, h4⟩ := hd_scan2
  exact head_walk w hbB hbD hd_put hd_put2 hd_put3 hd_len hd_len2 hd_get1 hd_get2 hd_get3 hd_get4 l1 l2 h1 h2 h3 h4 hd_front
def governorlaw03_head.f : Option (Bool) := some true
theorem governorlaw03_head.calls (r : Bool) (w : World) (h : governorlaw03_head.f = some r) :
    Calls Try.prog 9 #[] w fun e w' => e = .returned (.bool r) ∧ Below w.heap.size w w' := by
  obtain rfl := Option.some.inj h
  exact head_holds w


/-! ### governorref03_Right: function 15 -/
def governorref03_Right.f (a0_0 : Int) (a0_1 : Int) (l0_2 : List Int) : Option (Bool) := if a0_0 ≥ 1 then (if a0_0 ≤ 15 then (if a0_1 ≥ 0 then (if a0_1 ≤ 1073741824 then (some (decide ((l0_2.length : Int) ≤ 1800))) else (some false)) else (some false)) else (some false)) else (some false)
set_option maxHeartbeats 8000000 in
set_option maxRecDepth 100000 in
theorem governorref03_Right.calls (a0_0 : Int) (a0_1 : Int) (A0_2 : Option Addr) (c0_2 : Nat) (l0_2 : List Int) (r : Bool) (w : World) (hr0_2 : Kd.C (Kd.int .u8) w A0_2 l0_2.length l0_2) (hc0_2 : l0_2.length ≤ c0_2) (h : governorref03_Right.f a0_0 a0_1 l0_2 = some r) :
    Calls Try.prog 15 #[.agg #[.int .i64 a0_0, .int .i64 a0_1, .slice A0_2 l0_2.length c0_2]] w fun e w' => e = .returned (.bool r) ∧ Below w.heap.size w w' := by
  have hu24 := Try.underlying24
  have HR0_2 := Aside0.mk hr0_2
  have HC0_2 := Aside0.mk hc0_2
  clear hr0_2 hc0_2
  have HB := Aside0.mk (Below.refl w.heap.size w)
  have H : (if a0_0 ≥ 1 then (if a0_0 ≤ 15 then (if a0_1 ≥ 0 then (if a0_1 ≤ 1073741824 then (some (decide ((l0_2.length : Int) ≤ 1800))) else (some false)) else (some false)) else (some false)) else (some false)) = some r := h
  clear h
  by_cases c2 : a0_0 ≥ 1
  · rw [if_pos c2] at H
    have c2b0 : decide (1 ≤ a0_0) = true := decide_eq_true c2
    clear c2
    by_cases c3 : a0_0 ≤ 15
    · rw [if_pos c3] at H
      have c3b0 : decide (a0_0 ≤ 15) = true := decide_eq_true c3
      clear c3
      by_cases c4 : a0_1 ≥ 0
      · rw [if_pos c4] at H
        have c4b0 : decide (0 ≤ a0_1) = true := decide_eq_true c4
        clear c4
        by_cases c5 : a0_1 ≤ 1073741824
        · rw [if_pos c5] at H
          have c5b0 : decide (a0_1 ≤ 1073741824) = true := decide_eq_true c5
          clear c5
          obtain rfl := Option.some.inj H
          go_enter Try.func15, Try.ntmps15
          go_wp2_with (first | ((with_reducible refine gate_dst (N := 1) rfl ?_); (try (refine gate_guard (by rfl) ?_; dsimp only)); refine box_event ?hg (N := 1) ?hd (cs := #[.int .i64 a0_0, .int .i64 a0_1, .slice A0_2 l0_2.length c0_2]) (t := 24) ?hr ?_; (case hd => rfl); (case hg => rfl); (case hr => first | (go_simp; done) | (go_simp; rfl)); intro gb154 hg w6 hbox hb; have n0_ := Aside0.mk (below_step (by repeat (first | (with_reducible first | exact HB.out | apply below_alloc | apply pw_below_drewN | apply below_drew1) | exact HB.out)) hb); have n1_ := Aside0.mk (hbox); have n2_ := Aside0.mk ((by rw [hg]; exact (below_size (by repeat (first | (with_reducible first | exact HB.out | apply below_alloc | apply pw_below_drewN | apply below_drew1) | exact HB.out))) : w.heap.size ≤ gb154)); have n3_ := Aside0.mk ((by rw [hg]; exact (below_size (by repeat (first | (with_reducible first | exact HB.out | apply below_alloc | apply pw_below_drewN | apply below_drew1) | exact HB.out))) : w.heap.size ≤ gb154)); clear HB; have HB := n0_; have BK154 := n1_; have GW154 := n2_; have GE154 := n3_; clear n0_ n1_ n2_ n3_; clear hb hbox hg; have hcz7_0 : w6.cell? ⟨gb154, 0, none⟩ = some (.int .i64 a0_0) := (blk_cell BK154.out 0).trans rfl; have hcz7_1 : w6.cell? ⟨gb154, 1, none⟩ = some (.int .i64 a0_1) := (blk_cell BK154.out 1).trans rfl; have hcz7_2 : w6.cell? ⟨gb154, 2, none⟩ = some (.slice A0_2 l0_2.length c0_2) := (blk_cell BK154.out 2).trans rfl; have hfz7_0 := blk_frozen BK154.out 0; have hfz7_1 := blk_frozen BK154.out 1; have hfz7_2 := blk_frozen BK154.out 2))
          go_ret
          exact ⟨by first | rfl | (simp [errW_none, errW_some] <;> rfl) | (simp [*, errW_none, errW_some] <;> rfl), by repeat (first | (with_reducible first | exact HB.out | apply below_alloc | apply pw_below_drewN | apply below_drew1 | refine below_set ?_ GE154.out) | exact HB.out)⟩
        · rw [if_neg c5] at H
          have c5b0 : decide (a0_1 ≤ 1073741824) = false := decide_eq_false c5
          clear c5
          obtain rfl := Option.some.inj H
          go_enter Try.func15, Try.ntmps15
          go_wp2_with (first | ((with_reducible refine gate_dst (N := 1) rfl ?_); (try (refine gate_guard (by rfl) ?_; dsimp only)); refine box_event ?hg (N := 1) ?hd (cs := #[.int .i64 a0_0, .int .i64 a0_1, .slice A0_2 l0_2.length c0_2]) (t := 24) ?hr ?_; (case hd => rfl); (case hg => rfl); (case hr => first | (go_simp; done) | (go_simp; rfl)); intro gb154 hg w8 hbox hb; have n0_ := Aside0.mk (below_step (by repeat (first | (with_reducible first | exact HB.out | apply below_alloc | apply pw_below_drewN | apply below_drew1) | exact HB.out)) hb); have n1_ := Aside0.mk (hbox); have n2_ := Aside0.mk ((by rw [hg]; exact (below_size (by repeat (first | (with_reducible first | exact HB.out | apply below_alloc | apply pw_below_drewN | apply below_drew1) | exact HB.out))) : w.heap.size ≤ gb154)); have n3_ := Aside0.mk ((by rw [hg]; exact (below_size (by repeat (first | (with_reducible first | exact HB.out | apply below_alloc | apply pw_below_drewN | apply below_drew1) | exact HB.out))) : w.heap.size ≤ gb154)); clear HB; have HB := n0_; have BK154 := n1_; have GW154 := n2_; have GE154 := n3_; clear n0_ n1_ n2_ n3_; clear hb hbox hg; have hcz9_0 : w8.cell? ⟨gb154, 0, none⟩ = some (.int .i64 a0_0) := (blk_cell BK154.out 0).trans rfl; have hcz9_1 : w8.cell? ⟨gb154, 1, none⟩ = some (.int .i64 a0_1) := (blk_cell BK154.out 1).trans rfl; have hcz9_2 : w8.cell? ⟨gb154, 2, none⟩ = some (.slice A0_2 l0_2.length c0_2) := (blk_cell BK154.out 2).trans rfl; have hfz9_0 := blk_frozen BK154.out 0; have hfz9_1 := blk_frozen BK154.out 1; have hfz9_2 := blk_frozen BK154.out 2))
          go_ret
          exact ⟨by first | rfl | (simp [errW_none, errW_some] <;> rfl) | (simp [*, errW_none, errW_some] <;> rfl), by repeat (first | (with_reducible first | exact HB.out | apply below_alloc | apply pw_below_drewN | apply below_drew1 | refine below_set ?_ GE154.out) | exact HB.out)⟩
      · rw [if_neg c4] at H
        have c4b0 : decide (0 ≤ a0_1) = false := decide_eq_false c4
        clear c4
        obtain rfl := Option.some.inj H
        go_enter Try.func15, Try.ntmps15
        go_wp2_with (first | ((with_reducible refine gate_dst (N := 1) rfl ?_); (try (refine gate_guard (by rfl) ?_; dsimp only)); refine box_event ?hg (N := 1) ?hd (cs := #[.int .i64 a0_0, .int .i64 a0_1, .slice A0_2 l0_2.length c0_2]) (t := 24) ?hr ?_; (case hd => rfl); (case hg => rfl); (case hr => first | (go_simp; done) | (go_simp; rfl)); intro gb154 hg w10 hbox hb; have n0_ := Aside0.mk (below_step (by repeat (first | (with_reducible first | exact HB.out | apply below_alloc | apply pw_below_drewN | apply below_drew1) | exact HB.out)) hb); have n1_ := Aside0.mk (hbox); have n2_ := Aside0.mk ((by rw [hg]; exact (below_size (by repeat (first | (with_reducible first | exact HB.out | apply below_alloc | apply pw_below_drewN | apply below_drew1) | exact HB.out))) : w.heap.size ≤ gb154)); have n3_ := Aside0.mk ((by rw [hg]; exact (below_size (by repeat (first | (with_reducible first | exact HB.out | apply below_alloc | apply pw_below_drewN | apply below_drew1) | exact HB.out))) : w.heap.size ≤ gb154)); clear HB; have HB := n0_; have BK154 := n1_; have GW154 := n2_; have GE154 := n3_; clear n0_ n1_ n2_ n3_; clear hb hbox hg; have hcz11_0 : w10.cell? ⟨gb154, 0, none⟩ = some (.int .i64 a0_0) := (blk_cell BK154.out 0).trans rfl; have hcz11_1 : w10.cell? ⟨gb154, 1, none⟩ = some (.int .i64 a0_1) := (blk_cell BK154.out 1).trans rfl; have hcz11_2 : w10.cell? ⟨gb154, 2, none⟩ = some (.slice A0_2 l0_2.length c0_2) := (blk_cell BK154.out 2).trans rfl; have hfz11_0 := blk_frozen BK154.out 0; have hfz11_1 := blk_frozen BK154.out 1; have hfz11_2 := blk_frozen BK154.out 2))
        go_ret
        exact ⟨by first | rfl | (simp [errW_none, errW_some] <;> rfl) | (simp [*, errW_none, errW_some] <;> rfl), by repeat (first | (with_reducible first | exact HB.out | apply below_alloc | apply pw_below_drewN | apply below_drew1 | refine below_set ?_ GE154.out) | exact HB.out)⟩
    · rw [if_neg c3] at H
      have c3b0 : decide (a0_0 ≤ 15) = false := decide_eq_false c3
      clear c3
      obtain rfl := Option.some.inj H
      go_enter Try.func15, Try.ntmps15
      go_wp2_with (first | ((with_reducible refine gate_dst (N := 1) rfl ?_); (try (refine gate_guard (by rfl) ?_; dsimp only)); refine box_event ?hg (N := 1) ?hd (cs := #[.int .i64 a0_0, .int .i64 a0_1, .slice A0_2 l0_2.length c0_2]) (t := 24) ?hr ?_; (case hd => rfl); (case hg => rfl); (case hr => first | (go_simp; done) | (go_simp; rfl)); intro gb154 hg w12 hbox hb; have n0_ := Aside0.mk (below_step (by repeat (first | (with_reducible first | exact HB.out | apply below_alloc | apply pw_below_drewN | apply below_drew1) | exact HB.out)) hb); have n1_ := Aside0.mk (hbox); have n2_ := Aside0.mk ((by rw [hg]; exact (below_size (by repeat (first | (with_reducible first | exact HB.out | apply below_alloc | apply pw_below_drewN | apply below_drew1) | exact HB.out))) : w.heap.size ≤ gb154)); have n3_ := Aside0.mk ((by rw [hg]; exact (below_size (by repeat (first | (with_reducible first | exact HB.out | apply below_alloc | apply pw_below_drewN | apply below_drew1) | exact HB.out))) : w.heap.size ≤ gb154)); clear HB; have HB := n0_; have BK154 := n1_; have GW154 := n2_; have GE154 := n3_; clear n0_ n1_ n2_ n3_; clear hb hbox hg; have hcz13_0 : w12.cell? ⟨gb154, 0, none⟩ = some (.int .i64 a0_0) := (blk_cell BK154.out 0).trans rfl; have hcz13_1 : w12.cell? ⟨gb154, 1, none⟩ = some (.int .i64 a0_1) := (blk_cell BK154.out 1).trans rfl; have hcz13_2 : w12.cell? ⟨gb154, 2, none⟩ = some (.slice A0_2 l0_2.length c0_2) := (blk_cell BK154.out 2).trans rfl; have hfz13_0 := blk_frozen BK154.out 0; have hfz13_1 := blk_frozen BK154.out 1; have hfz13_2 := blk_frozen BK154.out 2))
      go_ret
      exact ⟨by first | rfl | (simp [errW_none, errW_some] <;> rfl) | (simp [*, errW_none, errW_some] <;> rfl), by repeat (first | (with_reducible first | exact HB.out | apply below_alloc | apply pw_below_drewN | apply below_drew1 | refine below_set ?_ GE154.out) | exact HB.out)⟩
  · rw [if_neg c2] at H
    have c2b0 : decide (1 ≤ a0_0) = false := decide_eq_false c2
    clear c2
    obtain rfl := Option.some.inj H
    go_enter Try.func15, Try.ntmps15
    go_wp2_with (first | ((with_reducible refine gate_dst (N := 1) rfl ?_); (try (refine gate_guard (by rfl) ?_; dsimp only)); refine box_event ?hg (N := 1) ?hd (cs := #[.int .i64 a0_0, .int .i64 a0_1, .slice A0_2 l0_2.length c0_2]) (t := 24) ?hr ?_; (case hd => rfl); (case hg => rfl); (case hr => first | (go_simp; done) | (go_simp; rfl)); intro gb154 hg w14 hbox hb; have n0_ := Aside0.mk (below_step (by repeat (first | (with_reducible first | exact HB.out | apply below_alloc | apply pw_below_drewN | apply below_drew1) | exact HB.out)) hb); have n1_ := Aside0.mk (hbox); have n2_ := Aside0.mk ((by rw [hg]; exact (below_size (by repeat (first | (with_reducible first | exact HB.out | apply below_alloc | apply pw_below_drewN | apply below_drew1) | exact HB.out))) : w.heap.size ≤ gb154)); have n3_ := Aside0.mk ((by rw [hg]; exact (below_size (by repeat (first | (with_reducible first | exact HB.out | apply below_alloc | apply pw_below_drewN | apply below_drew1) | exact HB.out))) : w.heap.size ≤ gb154)); clear HB; have HB := n0_; have BK154 := n1_; have GW154 := n2_; have GE154 := n3_; clear n0_ n1_ n2_ n3_; clear hb hbox hg; have hcz15_0 : w14.cell? ⟨gb154, 0, none⟩ = some (.int .i64 a0_0) := (blk_cell BK154.out 0).trans rfl; have hcz15_1 : w14.cell? ⟨gb154, 1, none⟩ = some (.int .i64 a0_1) := (blk_cell BK154.out 1).trans rfl; have hcz15_2 : w14.cell? ⟨gb154, 2, none⟩ = some (.slice A0_2 l0_2.length c0_2) := (blk_cell BK154.out 2).trans rfl; have hfz15_0 := blk_frozen BK154.out 0; have hfz15_1 := blk_frozen BK154.out 1; have hfz15_2 := blk_frozen BK154.out 2))
    go_ret
    exact ⟨by first | rfl | (simp [errW_none, errW_some] <;> rfl) | (simp [*, errW_none, errW_some] <;> rfl), by repeat (first | (with_reducible first | exact HB.out | apply below_alloc | apply pw_below_drewN | apply below_drew1 | refine below_set ?_ GE154.out) | exact HB.out)⟩

/-! ### governorref03_Read: function 22 -/
def governorref03_Read.f (l0 : List Int) : Option Int := if l0.length ≤ 4 ∧ (l0.all fun x => decide (0 ≤ x ∧ x ≤ 255)) = true then some (W.beN l0) else none
theorem governorref03_Read.calls (A0 : Option Addr) (c0 : Nat) (l0 : List Int) (r : Int) (w : World) (hr0 : Kd.C (Kd.int .u8) w A0 l0.length l0) (hc0 : l0.length ≤ c0) (h : governorref03_Read.f l0 = some r) :
    Calls Try.prog 22 #[.slice A0 l0.length c0] w fun e w' => e = .returned (.int .u64 r) ∧ Drawn0 w w' := by
  unfold governorref03_Read.f at h
  split at h
  · rename_i hl
    obtain rfl := Option.some.inj h
    exact W.refread_calls A0 c0 l0 w hr0 (fun x hx => of_decide_eq_true ((List.all_eq_true.1 hl.2) x hx)) hl.1
  · cases h


/-! ### governorref02_More: function 29 -/
def governorref02_More.f (a0 : Int) (l1 : List Int) : Option (Int) := W.sumF a0 l1
theorem governorref02_More.calls (a0 : Int) (A1 : Option Addr) (c1 : Nat) (l1 : List Int) (r : Int) (w : World) (hr1 : Kd.C (Kd.int .u8) w A1 l1.length l1) (hc1 : l1.length ≤ c1) (h : governorref02_More.f a0 l1 = some r) :
    Calls Try.prog 29 #[.int .u32 a0, .slice A1 l1.length c1] w fun e w' => e = .returned (.int .u32 r) ∧ Drawn0 w w' :=
  W.sumF_calls_ref a0 A1 c1 l1 r w hr1 hc1 h


/-! ### governorref02_Of: function 23 -/
def governorref02_Of.f (l0 : List Int) : Option (Int) := (governorref02_More.f 0 l0).bind fun t155 => (some t155)
set_option maxHeartbeats 8000000 in
set_option maxRecDepth 100000 in
theorem governorref02_Of.calls (A0 : Option Addr) (c0 : Nat) (l0 : List Int) (r : Int) (w : World) (hr0 : Kd.C (Kd.int .u8) w A0 l0.length l0) (hc0 : l0.length ≤ c0) (h : governorref02_Of.f l0 = some r) :
    Calls Try.prog 23 #[.slice A0 l0.length c0] w fun e w' => e = .returned (.int .u32 r) ∧ Drawn0 w w' := by
  have HR0 := Aside0.mk hr0
  have HC0 := Aside0.mk hc0
  clear hr0 hc0
  have H : ((governorref02_More.f 0 l0).bind fun t155 => (some t155)) = some r := h
  clear h
  replace H := Option.bind_eq_some_iff.mp H
  obtain ⟨t155, A20, H⟩ := H
  replace H : (some t155) = some r := H
  have A2 := Aside0.mk A20
  clear A20
  obtain rfl := Option.some.inj H
  go_enter Try.func23, Try.ntmps23
  go_wp2_with (first | ((with_reducible refine gate_callee (f := 29) rfl ?_); refine goesL_ (some 4) rfl rfl Try.func29 (by kernel_rfl) rfl #[.int .u32 0, .slice A0 l0.length c0] rfl (by (try simp only [List.map_toArray, List.map_cons, List.map_nil]); first | done | rfl | (simp only [List.length_drop, List.length_take]; rfl)) ?_; (with_reducible refine (governorref02_More.calls 0 _ _ l0 t155 _ ?side1 ?side2 A2.out).mono ?_); (case side1 => repeat (first | exact HR0.out | (with_reducible refine Kd.C_alloc ?_ _) | (with_reducible refine Kd.C_drewN ?_ _) | (with_reducible refine Kd.C_drew ?_))); (case side2 => exact HC0.out); rintro e w' ⟨rfl, ⟨nd, rfl⟩⟩; refine ⟨_, rfl, ?_⟩))
  go_ret
  exact ⟨by first | rfl | (simp; done) | (simp [*]; done), by repeat (first | exact Drawn0.refl _ | apply Drawn0.step)⟩

/-! ### governorref03_Get: function 11 -/
def governorref03_Get.f (l0 : List Int) : Option (Int × Int × List Int × Int × Int) := if l0.length ≤ 1000000 ∧ (l0.all fun x => decide (0 ≤ x ∧ x ≤ 255)) = true then some (W.getF l0) else none
theorem governorref03_Get.calls (A0 : Option Addr) (c0 : Nat) (l0 : List Int) (r1 : Int) (r2 : Int) (r3 : List Int) (r4 : Int) (r5 : Int) (w : World) (hr0 : Kd.C (Kd.int .u8) w A0 l0.length l0) (hc0 : l0.length ≤ c0) (h : governorref03_Get.f l0 = some (r1, r2, r3, r4, r5)) :
    Calls Try.prog 11 #[.slice A0 l0.length c0] w fun e w' => ∃ v2_ : Value, e = .returned (.tuple #[.agg #[.int .i64 r1, .int .i64 r2, v2_], .int .i64 r4, .int .i64 r5]) ∧ Kd.R (Kd.int .u8) 5 w' w.heap.size (fun _ => True) v2_ r3 ∧ Below w.heap.size w w' := by
  unfold governorref03_Get.f at h
  split at h
  · rename_i hl
    have he := Option.some.inj h
    refine (W.refget_calls A0 c0 l0 w hr0 hc0 (fun x hx => of_decide_eq_true ((List.all_eq_true.1 hl.2) x hx)) hl.1).mono ?_
    rintro e w' ⟨v, rfl, ho, hb⟩
    rw [he] at ho ⊢
    exact ⟨v, rfl, W.R_nums ho, hb⟩
  · cases h


/-! ### governorref03_Scan: function 13 -/
def governorref03_Scan.l0 : Nat → List Int → List (S24) → Int → Int → Option ((List (S24)) × Int)
  | 0, _, _, _, _ => none
  | k + 1, x0, x6, x7, x8 => if 0 ≤ x7 then (if x7 ≤ (x0.length : Int) then ((governorref03_Get.f (x0.drop (x7 : Int).toNat)).bind fun bt157 => (if bt157.2.2.2.2 = 0 then (if bt157.2.1 = x8 then (if x6.length < 3518437208883 then (governorref03_Scan.l0 k x0 (x6 ++ [(⟨bt157.1, bt157.2.1, bt157.2.2.1⟩ : S24)]) (wrap64 (x7 + bt157.2.2.2.1)) (wrap64 (bt157.2.1 + 1))) else (none)) else (some (x6, x7))) else (some (x6, x7)))) else (none)) else (none)
def governorref03_Scan.f (k : Nat) (l0 : List Int) (a1 : Int) : Option ((List (S24)) × Int) := governorref03_Scan.l0 k l0 ([] : List (S24)) 0 a1
theorem governorref03_Scan.mono_l : ∀ k, (∀ y0 y1 y2 y3, LeO (governorref03_Scan.l0 k y0 y1 y2 y3) (governorref03_Scan.l0 (k + 1) y0 y1 y2 y3))
  | 0 => fun _ _ _ _ r h => by simp [governorref03_Scan.l0] at h
  | k + 1 => by
    have ih0 := governorref03_Scan.mono_l k
    · intro y0 y1 y2 y3
      unfold governorref03_Scan.l0
      repeat' first
      | (with_reducible exact ih0 _ _ _ _)
      | (with_reducible exact LeO.refl _)
      | (with_reducible exact LeO.none _)
      | (with_reducible refine LeO.ite ?_ ?_)
      | (with_reducible refine LeO.bind ?_ (fun _ => ?_))
      | exact ih0 _ _ _ _
      | exact LeO.none _
      | refine LeO.ite ?_ ?_
      | refine LeO.bind ?_ (fun _ => ?_)
theorem governorref03_Scan.mono : ∀ a0 a1 k, LeO (governorref03_Scan.f k a0 a1) (governorref03_Scan.f (k + 1) a0 a1) := by
  intro a0 a1 k
  have ih0 := governorref03_Scan.mono_l k
  unfold governorref03_Scan.f
  repeat' first
      | (with_reducible exact ih0 _ _ _ _)
      | (with_reducible exact LeO.refl _)
      | (with_reducible exact LeO.none _)
      | (with_reducible refine LeO.ite ?_ ?_)
      | (with_reducible refine LeO.bind ?_ (fun _ => ?_))
      | exact ih0 _ _ _ _
      | exact LeO.none _
      | refine LeO.ite ?_ ?_
      | refine LeO.bind ?_ (fun _ => ?_)
set_option maxHeartbeats 8000000 in
set_option maxRecDepth 100000 in
theorem governorref03_Scan.calls (k : Nat) (A0 : Option Addr) (c0 : Nat) (l0 : List Int) (a1 : Int) (r1 : List (S24)) (r2 : Int) (w : World) (hr0 : Kd.C (Kd.int .u8) w A0 l0.length l0) (hc0 : l0.length ≤ c0) (h : governorref03_Scan.f k l0 a1 = some (r1, r2)) :
    Calls Try.prog 13 #[.slice A0 l0.length c0, .int .i64 a1] w fun e w' => ∃ v0_ : Value, e = .returned (.tuple #[v0_, .int .i64 r2]) ∧ Kd.S k24 24 w' w.heap.size (fun _ => True) v0_ r1 ∧ Below w.heap.size w w' := by
  have hu24 := Try.underlying24
  have HR0 := Aside0.mk hr0
  have HC0 := Aside0.mk hc0
  clear hr0 hc0
  have HB := Aside0.mk (Below.refl w.heap.size w)
  have H : (governorref03_Scan.l0 k l0 ([] : List (S24)) 0 a1) = some (r1, r2) := h
  clear h
  have H' := Aside0.mk H
  clear H
  go_enter Try.func13, Try.ntmps13
  go_wp2
  go_loopg [6, 7, 8] k (fun kq v6 v7 v8 w' => ∃ (x6_1 : List (S24)) (x7_1 : Int) (x8_1 : Int), v7 = .int .i64 x7_1 ∧ v8 = .int .i64 x8_1 ∧ Aside0 (governorref03_Scan.l0 kq l0 x6_1 x7_1 x8_1 = some (r1, r2)) ∧ Aside0 (kq ≤ k) ∧ Aside0 (Kd.S k24 24 w' w.heap.size (fun _ => True) v6 x6_1) ∧ Aside0 (Below w.heap.size w w'))
  case atStart => exact ⟨(([] : List (S24))), (0), (a1), (by first | rfl | (simp; done) | (simp [*]; done)), (by first | rfl | (simp; done) | (simp [*]; done)), H', ⟨Nat.le_refl _⟩, ⟨by first | exact Kd.S_nil _ _ _ _ _ | exact Kd.N_nil _ _ _ _ _ | exact Kd.V_nil _ _ _ _ _ | exact Kd.Q_nil _ _ _ _ _ | exact Kd.R_nil _ _ _ _ _⟩, ⟨by repeat (first | (with_reducible first | exact HB.out | apply below_alloc | apply pw_below_drewN | apply below_drew1) | exact HB.out)⟩⟩
  case round =>
    clear H'
    try clear c1
    try clear p2
    obtain ⟨x6_1, x7_1, x8_1, rfl, rfl, HA, HK1, HO_6, HB⟩ := hrel
    cases gk with
    | zero => exact absurd HA.out (by simp [governorref03_Scan.l0])
    | succ k1 =>
      have H := HA.out
      clear HA
      simp only [governorref03_Scan.l0] at H
      by_cases c3 : 0 ≤ x7_1
      · rw [if_pos c3] at H
        have c3b0 := eq_true c3
        have c3b1 : decide (0 ≤ x7_1) = true := decide_eq_true c3
        clear c3
        by_cases c4 : x7_1 ≤ (l0.length : Int)
        · rw [if_pos c4] at H
          have c4b0 := eq_true c4
          have c4b1 : decide (x7_1 ≤ (l0.length : Int)) = true := decide_eq_true c4
          clear c4
          replace H := Option.bind_eq_some_iff.mp H
          obtain ⟨⟨t157, t158, t159, t162, t163⟩, A50, H⟩ := H
          replace H : (if t163 = 0 then (if t158 = x8_1 then (if x6_1.length < 3518437208883 then (governorref03_Scan.l0 k1 l0 (x6_1 ++ [(⟨t157, t158, t159⟩ : S24)]) (wrap64 (x7_1 + t162)) (wrap64 (t158 + 1))) else (none)) else (some (x6_1, x7_1))) else (some (x6_1, x7_1))) = some (r1, r2) := H
          have A5 := Aside0.mk A50
          clear A50
          by_cases c6 : t163 = 0
          · rw [if_pos c6] at H
            have c6b0 : (t163 == 0) = true := beq_iff_eq.mpr c6
            have c6b1 : (t163 != 0) = false := bne_eq_false_iff_eq.mpr c6
            clear c6
            by_cases c7 : t158 = x8_1
            · rw [if_pos c7] at H
              have c7b0 : (t158 == x8_1) = true := beq_iff_eq.mpr c7
              have c7b1 : (t158 != x8_1) = false := bne_eq_false_iff_eq.mpr c7
              clear c7
              by_cases c8 : x6_1.length < 3518437208883
              · rw [if_pos c8] at H
                have LMc8 := Aside0.mk c8
                clear c8
                obtain ⟨y165, hy165⟩ : ∃ y_ : List (S24), y_ = (x6_1 ++ [(⟨t157, t158, t159⟩ : S24)]) := ⟨_, rfl⟩
                replace H : (governorref03_Scan.l0 k1 l0 y165 (wrap64 (x7_1 + t162)) (wrap64 (t158 + 1))) = some (r1, r2) := by first | (rw [hy165]; with_reducible exact H) | (have H2_ := (Option.bind_some _ _).symm.trans H; rw [hy165]; with_reducible exact H2_) | (have H2_ := (Option.bind_some _ _).symm.trans H; with_reducible exact H2_) | with_reducible exact H | (rw [hy165]; exact H) | exact H
                have Ny165 := Aside0.mk hy165
                clear hy165
                have H' := Aside0.mk H
                clear H
                obtain ⟨i09, hi09, _, hsz9, _⟩ := info_parts info5
                obtain ⟨A9, hcut9, hA9, hC9⟩ := print_drop_of (P := Try.prog) (Value.int .u8) 0 22 5 .i64 Try.underlying22 hi09 hsz9 A0 c0 l0 x7_1 (of_decide_eq_true (by first | (with_reducible assumption) | assumption)) (of_decide_eq_true (by first | (with_reducible assumption) | assumption)) HC0.out
                have HR156 := Aside0.mk (Kd.C_of_reads (h1 := fun _ => rfl) (hA9 _ (Kd.reads_of_C HR0.out)))
                have HC156 := Aside0.mk hC9
                clear hA9 hC9 hi09 hsz9
                go_wp2_with (first | ((with_reducible refine gate_callee (f := 11) rfl ?_); refine goesL_ (some 17) rfl rfl Try.func11 (by kernel_rfl) rfl #[.slice A9 (l0.drop (x7_1 : Int).toNat).length (c0 - x7_1.toNat)] rfl (by (try simp only [List.map_toArray, List.map_cons, List.map_nil]); first | done | (rw [show (l0.drop (x7_1 : Int).toNat).length = (l0.length - x7_1.toNat) from List.length_drop] <;> rfl) | rfl | (simp only [List.length_drop, List.length_take]; rfl)) ?_; (with_reducible refine (governorref03_Get.calls _ _ (l0.drop (x7_1 : Int).toNat) t157 t158 t159 t162 t163 _ ?side1 ?side2 A5.out).mono ?_); (case side1 => repeat (first | exact (Kd.C_below HR156.out HB.out) | (with_reducible refine Kd.C_alloc ?_ _) | (with_reducible refine Kd.C_drewN ?_ _) | (with_reducible refine Kd.C_drew ?_))); (case side2 => exact HC156.out); rintro e w10 ⟨v160, rfl, ho0, hb⟩; refine ⟨_, rfl, ?_⟩; have n0_ := Aside0.mk (Kd.S_elder' (by (with_reducible repeat (first | apply Kd.S_alloc | apply Kd.S_drewN | apply Kd.S_drew)); exact HO_6.out) (Kd.R_base ho0) hb); have n1_ := Aside0.mk (Kd.R_lower ho0 (below_size (by repeat (first | (with_reducible first | exact HB.out | apply below_alloc | apply pw_below_drewN | apply below_drew1) | exact HB.out)))); have n2_ := Aside0.mk (below_step (by repeat (first | (with_reducible first | exact HB.out | apply below_alloc | apply pw_below_drewN | apply below_drew1) | exact HB.out)) hb); clear HO_6; clear HB; have HO_6 := n0_; have HO161 := n1_; have HB := n2_; clear n0_ n1_ n2_; (try clear hb); (try clear hb2); (try clear hk); (try clear hi); (try clear ho0)) | ((with_reducible refine gate_dst (N := 9) rfl ?_); refine box_event ?hg (N := 9) ?hd (cs := #[.int .i64 0, .int .i64 0, .slice none 0 0]) (t := 24) ?hr ?_; (case hd => rfl); (case hg => rfl); (case hr => first | (go_simp; done) | (go_simp; rfl)); intro gb164 hg w11 hbox hb; have n0_ := Aside0.mk (Kd.S_below (Kd.S_elderB (by (with_reducible repeat (first | apply Kd.S_alloc | apply Kd.S_drewN | apply Kd.S_drew)); exact HO_6.out) gb164 (Nat.le_of_eq hg.symm)) hb); have n1_ := Aside0.mk (Kd.R_below (by (with_reducible repeat (first | apply Kd.R_alloc | apply Kd.R_drewN | apply Kd.R_drew)); exact HO161.out) hb); have n2_ := Aside0.mk (below_step (by repeat (first | (with_reducible first | exact HB.out | apply below_alloc | apply pw_below_drewN | apply below_drew1) | exact HB.out)) hb); have n3_ := Aside0.mk (hbox); have n4_ := Aside0.mk ((by rw [hg]; exact (below_size (by repeat (first | (with_reducible first | exact HB.out | apply below_alloc | apply pw_below_drewN | apply below_drew1) | exact HB.out))) : w.heap.size ≤ gb164)); have n5_ := Aside0.mk ((by rw [hg]; exact (below_size (by repeat (first | (with_reducible first | exact HB.out | apply below_alloc | apply pw_below_drewN | apply below_drew1) | exact HB.out))) : w.heap.size ≤ gb164)); clear HO_6; clear HO161; clear HB; have HO_6 := n0_; have HO161 := n1_; have HB := n2_; have BK164 := n3_; have GW164 := n4_; have GE164 := n5_; clear n0_ n1_ n2_ n3_ n4_ n5_; clear hb hbox hg; have hcz12_0 : w11.cell? ⟨gb164, 0, none⟩ = some (.int .i64 0) := (blk_cell BK164.out 0).trans rfl; have hcz12_1 : w11.cell? ⟨gb164, 1, none⟩ = some (.int .i64 0) := (blk_cell BK164.out 1).trans rfl; have hcz12_2 : w11.cell? ⟨gb164, 2, none⟩ = some (.slice none 0 0) := (blk_cell BK164.out 2).trans rfl; have hfz12_0 := blk_frozen BK164.out 0; have hfz12_1 := blk_frozen BK164.out 1; have hfz12_2 := blk_frozen BK164.out 2; obtain ⟨Ao13, co13, eo13⟩ := Kd.R_slice HO161.out; subst eo13) | ((with_reducible refine gate_store (t := 24) (p := 9) rfl ?_); refine store_event (t := 24) (p := 9) (v := ?vo_w14) (w1 := (((w11.setCell ⟨gb164, 0, none⟩ (.int .i64 t157)).setCell ⟨gb164, 1, none⟩ (.int .i64 t158)).setCell ⟨gb164, 2, none⟩ (.slice Ao13 t159.length co13))) ?hg ?ho ?hn ?hr ?_; (case ho => rfl); (case hg => rfl); (case hn => rfl); (case hr => first | (go_simp; done) | (go_simp; rfl)); intro w14 hw; have n0_ : Aside0 (Kd.S k24 24 w14 w.heap.size (fun k_ => some k_ ≠ (.slice Ao13 t159.length co13 : Value).ownBlock ∧ k_ ≠ gb164) u6 x6_1) := ⟨(by rw [hw]; exact (by (with_reducible repeat (first | apply Kd.S_alloc | apply Kd.S_drewN | apply Kd.S_drew)); exact Kd.S_mono (Kd.S_far (p := ⟨gb164, 2, none⟩) (Kd.S_far (p := ⟨gb164, 1, none⟩) (Kd.S_far (p := ⟨gb164, 0, none⟩) (Kd.S_mono HO_6.out (fun k_ hk => (⟨hk, hk.2⟩ : _ ∧ k_ ≠ gb164))) (fun _ hk => hk.2) (.int .i64 t157)) (fun _ hk => hk.2) (.int .i64 t158)) (fun _ hk => hk.2) (.slice Ao13 t159.length co13)) (fun _ hk => ⟨hk.1.1.2, hk.1.2⟩)))⟩; have n1_ : Aside0 (Kd.R (Kd.int .u8) 5 w14 w.heap.size (fun _ => True) (.slice Ao13 t159.length co13) t159) := ⟨(by rw [hw]; exact (by (with_reducible repeat (first | apply Kd.R_alloc | apply Kd.R_drewN | apply Kd.R_drew)); exact Kd.R_mono (Kd.R_far (p := ⟨gb164, 2, none⟩) (Kd.R_far (p := ⟨gb164, 1, none⟩) (Kd.R_far (p := ⟨gb164, 0, none⟩) (Kd.R_types HO161.out BK164.out (by decide)) (fun _ hk => hk.2) (.int .i64 t157)) (fun _ hk => hk.2) (.int .i64 t158)) (fun _ hk => hk.2) (.slice Ao13 t159.length co13)) (fun _ hk => trivial)))⟩; have n2_ : Aside0 (w14.heap[gb164]? = some (.cells #[.int .i64 t157, .int .i64 t158, .slice Ao13 t159.length co13] 24 (0, 0))) := ⟨(by rw [hw]; exact (by (with_reducible repeat (first | refine blk_drewN ?_ _ | refine blk_drew ?_ | refine blk_alloc ?_ _)); refine blk_put (cs := #[.int .i64 t157, .int .i64 t158, .slice none 0 0]) ?_ 2 _ rfl; (with_reducible repeat (first | refine blk_drewN ?_ _ | refine blk_drew ?_ | refine blk_alloc ?_ _)); refine blk_put (cs := #[.int .i64 t157, .int .i64 0, .slice none 0 0]) ?_ 1 _ rfl; (with_reducible repeat (first | refine blk_drewN ?_ _ | refine blk_drew ?_ | refine blk_alloc ?_ _)); refine blk_put (cs := #[.int .i64 0, .int .i64 0, .slice none 0 0]) ?_ 0 _ rfl; (with_reducible repeat (first | refine blk_drewN ?_ _ | refine blk_drew ?_ | refine blk_alloc ?_ _)); exact BK164.out))⟩; have n3_ : Aside0 (Below w.heap.size w w14) := ⟨(by rw [hw]; exact (by repeat (first | (with_reducible first | exact HB.out | apply below_alloc | apply pw_below_drewN | apply below_drew1 | refine below_set ?_ GE164.out) | exact HB.out)))⟩; clear hw; clear HO_6; clear HO161; clear BK164; clear HB; have HO_6 := n0_; have HO161 := n1_; have BK164 := n2_; have HB := n3_; clear n0_ n1_ n2_ n3_; have hcz15_0 : w14.cell? ⟨gb164, 0, none⟩ = some (.int .i64 t157) := (blk_cell BK164.out 0).trans rfl; have hcz15_1 : w14.cell? ⟨gb164, 1, none⟩ = some (.int .i64 t158) := (blk_cell BK164.out 1).trans rfl; have hcz15_2 : w14.cell? ⟨gb164, 2, none⟩ = some (.slice Ao13 t159.length co13) := (blk_cell BK164.out 2).trans rfl; have hfz15_0 := blk_frozen BK164.out 0; have hfz15_1 := blk_frozen BK164.out 1; have hfz15_2 := blk_frozen BK164.out 2) | ((with_reducible refine gate_builtin (b := .append) (xs := #[.tmp 31, .tmp 33]) rfl ?_); at_builtin; refine Kd.S_append k24 (w0 := w) w.heap.size rfl (.tmp 31) (.tmp 33) 29 24 (.agg #[(.int .i64 0), (.int .i64 0), (.slice none 0 0)]) 40 rfl Try.underlying29 info24 rfl (by decide) (by omega) u6 x6_1 (⟨t157, t158, t159⟩ : S24) [.int .i64 t157, .int .i64 t158, .slice Ao13 t159.length co13] (fun k_ => k_ ≠ gb164) (fun k_ => some k_ = (.slice Ao13 t159.length co13 : Value).ownBlock) rfl rfl ?aP (fun k_ hk_ => ((Kd.R_mono (ok' := fun k_ => ((fun k_ => k_ ≠ gb164)) k_ ∧ some k_ ≠ (u6 : Value).ownBlock) (Kd.R_types (Kd.R_apart' (HO161.out) (Kd.S_typed HO_6.out) (by decide)) BK164.out (by decide)) (fun k_ hk => ⟨hk.2, hk.1.2⟩))).1 k_ hk_.symm) ?aF ?aO ?aB ?aS ?aL ?_; (case aP => exact k24_mkM _ _ _ (⟨t157, t158, t159⟩ : S24) (Kd.R_mono (Kd.R_tight rfl (Kd.R_mono (ok' := fun k_ => ((fun k_ => k_ ≠ gb164)) k_ ∧ some k_ ≠ (u6 : Value).ownBlock) (Kd.R_types (Kd.R_apart' (HO161.out) (Kd.S_typed HO_6.out) (by decide)) BK164.out (by decide)) (fun k_ hk => ⟨hk.2, hk.1.2⟩))) (fun _ h_ => h_))); (case aB => exact (by repeat (first | (with_reducible first | exact HB.out | apply below_alloc | apply pw_below_drewN | apply below_drew1 | refine below_set ?_ GE164.out) | exact HB.out))); (case aF => exact (fun k_ hk => Kd.freshB (g := gb164) (o := .cells #[.int .i64 t157, .int .i64 t158, .slice Ao13 t159.length co13] 24 (0, 0)) (by (with_reducible repeat (first | refine blk_drewN ?_ _ | refine blk_drew ?_ | refine blk_alloc ?_ _)); exact BK164.out) k_ hk)); (case aO => exact (by (with_reducible repeat (first | apply Kd.S_alloc | apply Kd.S_drewN | apply Kd.S_drew)); exact Kd.S_mono HO_6.out (fun k_ hk => ⟨hk.2, fun e_ => hk.1 e_⟩))); (case aS => exact (below_size (by repeat (first | (with_reducible first | exact HB.out | apply below_alloc | apply pw_below_drewN | apply below_drew1 | refine below_set ?_ GE164.out) | exact HB.out)))); (case aL => have := LMc8.out; omega); intro v166 w16 ho hb hg hat; rw [← Ny165.out] at ho; have n0_ := Aside0.mk (blk_grown (g := gb164) (o := .cells #[.int .i64 t157, .int .i64 t158, .slice Ao13 t159.length co13] 24 (0, 0)) (by (with_reducible repeat (first | refine blk_drewN ?_ _ | refine blk_drew ?_ | refine blk_alloc ?_ _)); exact BK164.out) hg (Kd.S_away HO_6.out (fun _ hk => hk.2))); have n1_ := Aside0.mk (hb); have n2_ := Aside0.mk (ho); clear BK164; clear HB; clear HO_6; clear HO161; have BK164 := n0_; have HB := n1_; have HO167 := n2_; clear n0_ n1_ n2_; clear ho hb hg hat; have hcz17_0 : w16.cell? ⟨gb164, 0, none⟩ = some (.int .i64 t157) := (blk_cell BK164.out 0).trans rfl; have hcz17_1 : w16.cell? ⟨gb164, 1, none⟩ = some (.int .i64 t158) := (blk_cell BK164.out 1).trans rfl; have hcz17_2 : w16.cell? ⟨gb164, 2, none⟩ = some (.slice Ao13 t159.length co13) := (blk_cell BK164.out 2).trans rfl; have hfz17_0 := blk_frozen BK164.out 0; have hfz17_1 := blk_frozen BK164.out 1; have hfz17_2 := blk_frozen BK164.out 2))
                go_roundg k1
                case measure => have := HK1.out; omega
                case rel => exact ⟨(y165), (wrap64 (x7_1 + t162)), (wrap64 (t158 + 1)), (by first | rfl | (simp; done) | (simp [*]; done)), (by first | rfl | (simp; done) | (simp [*]; done)), H', ⟨by have := HK1.out; omega⟩, ⟨by (with_reducible repeat (first | apply Kd.S_alloc | apply Kd.S_drewN | apply Kd.S_drew)); exact Kd.S_mono HO167.out (fun _ hk => trivial)⟩, ⟨by repeat (first | (with_reducible first | exact HB.out | apply below_alloc | apply pw_below_drewN | apply below_drew1 | refine below_set ?_ GE164.out) | exact HB.out)⟩⟩
              · rw [if_neg c8] at H
                exact absurd H (by simp)
            · rw [if_neg c7] at H
              have c7b0 : (t158 == x8_1) = false := beq_eq_false_iff_ne.mpr c7
              have c7b1 : (t158 != x8_1) = true := bne_iff_ne.mpr c7
              simp only [Option.some.injEq, Prod.mk.injEq] at H
              obtain ⟨rfl, rfl⟩ := H
              obtain ⟨i018, hi018, _, hsz18, _⟩ := info_parts info5
              obtain ⟨A18, hcut18, hA18, hC18⟩ := print_drop_of (P := Try.prog) (Value.int .u8) 0 22 5 .i64 Try.underlying22 hi018 hsz18 A0 c0 l0 x7_1 (of_decide_eq_true (by first | (with_reducible assumption) | assumption)) (of_decide_eq_true (by first | (with_reducible assumption) | assumption)) HC0.out
              have HR156 := Aside0.mk (Kd.C_of_reads (h1 := fun _ => rfl) (hA18 _ (Kd.reads_of_C HR0.out)))
              have HC156 := Aside0.mk hC18
              clear hA18 hC18 hi018 hsz18
              go_wp2_with (first | ((with_reducible refine gate_callee (f := 11) rfl ?_); refine goesL_ (some 17) rfl rfl Try.func11 (by kernel_rfl) rfl #[.slice A18 (l0.drop (x7_1 : Int).toNat).length (c0 - x7_1.toNat)] rfl (by (try simp only [List.map_toArray, List.map_cons, List.map_nil]); first | done | (rw [show (l0.drop (x7_1 : Int).toNat).length = (l0.length - x7_1.toNat) from List.length_drop] <;> rfl) | rfl | (simp only [List.length_drop, List.length_take]; rfl)) ?_; (with_reducible refine (governorref03_Get.calls _ _ (l0.drop (x7_1 : Int).toNat) t157 t158 t159 t162 t163 _ ?side1 ?side2 A5.out).mono ?_); (case side1 => repeat (first | exact (Kd.C_below HR156.out HB.out) | (with_reducible refine Kd.C_alloc ?_ _) | (with_reducible refine Kd.C_drewN ?_ _) | (with_reducible refine Kd.C_drew ?_))); (case side2 => exact HC156.out); rintro e w19 ⟨v160, rfl, ho0, hb⟩; refine ⟨_, rfl, ?_⟩; have n0_ := Aside0.mk (Kd.S_elder' (by (with_reducible repeat (first | apply Kd.S_alloc | apply Kd.S_drewN | apply Kd.S_drew)); exact HO_6.out) (Kd.R_base ho0) hb); have n1_ := Aside0.mk (Kd.R_lower ho0 (below_size (by repeat (first | (with_reducible first | exact HB.out | apply below_alloc | apply pw_below_drewN | apply below_drew1) | exact HB.out)))); have n2_ := Aside0.mk (below_step (by repeat (first | (with_reducible first | exact HB.out | apply below_alloc | apply pw_below_drewN | apply below_drew1) | exact HB.out)) hb); clear HO_6; clear HB; have HO_6 := n0_; have HO161 := n1_; have HB := n2_; clear n0_ n1_ n2_; (try clear hb); (try clear hb2); (try clear hk); (try clear hi); (try clear ho0)) | ((with_reducible refine gate_dst (N := 9) rfl ?_); refine box_event ?hg (N := 9) ?hd (cs := #[.int .i64 0, .int .i64 0, .slice none 0 0]) (t := 24) ?hr ?_; (case hd => rfl); (case hg => rfl); (case hr => first | (go_simp; done) | (go_simp; rfl)); intro gb164 hg w20 hbox hb; have n0_ := Aside0.mk (Kd.S_below (Kd.S_elderB (by (with_reducible repeat (first | apply Kd.S_alloc | apply Kd.S_drewN | apply Kd.S_drew)); exact HO_6.out) gb164 (Nat.le_of_eq hg.symm)) hb); have n1_ := Aside0.mk (Kd.R_below (by (with_reducible repeat (first | apply Kd.R_alloc | apply Kd.R_drewN | apply Kd.R_drew)); exact HO161.out) hb); have n2_ := Aside0.mk (below_step (by repeat (first | (with_reducible first | exact HB.out | apply below_alloc | apply pw_below_drewN | apply below_drew1) | exact HB.out)) hb); have n3_ := Aside0.mk (hbox); have n4_ := Aside0.mk ((by rw [hg]; exact (below_size (by repeat (first | (with_reducible first | exact HB.out | apply below_alloc | apply pw_below_drewN | apply below_drew1) | exact HB.out))) : w.heap.size ≤ gb164)); have n5_ := Aside0.mk ((by rw [hg]; exact (below_size (by repeat (first | (with_reducible first | exact HB.out | apply below_alloc | apply pw_below_drewN | apply below_drew1) | exact HB.out))) : w.heap.size ≤ gb164)); clear HO_6; clear HO161; clear HB; have HO_6 := n0_; have HO161 := n1_; have HB := n2_; have BK164 := n3_; have GW164 := n4_; have GE164 := n5_; clear n0_ n1_ n2_ n3_ n4_ n5_; clear hb hbox hg; have hcz21_0 : w20.cell? ⟨gb164, 0, none⟩ = some (.int .i64 0) := (blk_cell BK164.out 0).trans rfl; have hcz21_1 : w20.cell? ⟨gb164, 1, none⟩ = some (.int .i64 0) := (blk_cell BK164.out 1).trans rfl; have hcz21_2 : w20.cell? ⟨gb164, 2, none⟩ = some (.slice none 0 0) := (blk_cell BK164.out 2).trans rfl; have hfz21_0 := blk_frozen BK164.out 0; have hfz21_1 := blk_frozen BK164.out 1; have hfz21_2 := blk_frozen BK164.out 2; obtain ⟨Ao22, co22, eo22⟩ := Kd.R_slice HO161.out; subst eo22))
              go_ret2
              exact ⟨_, by first | rfl | (simp [errW_none, errW_some] <;> rfl) | (simp [*, errW_none, errW_some] <;> rfl), by (with_reducible repeat (first | apply Kd.S_alloc | apply Kd.S_drewN | apply Kd.S_drew)); exact Kd.S_mono (Kd.S_far (p := ⟨gb164, 2, none⟩) (Kd.S_far (p := ⟨gb164, 1, none⟩) (Kd.S_far (p := ⟨gb164, 0, none⟩) (Kd.S_mono HO_6.out (fun k_ hk => (⟨hk, hk.2⟩ : _ ∧ k_ ≠ gb164))) (fun _ hk => hk.2) (.int .i64 t157)) (fun _ hk => hk.2) (.int .i64 t158)) (fun _ hk => hk.2) (.slice Ao22 t159.length co22)) (fun _ hk => trivial), by repeat (first | (with_reducible first | exact HB.out | apply below_alloc | apply pw_below_drewN | apply below_drew1 | refine below_set ?_ GE164.out) | exact HB.out)⟩
          · rw [if_neg c6] at H
            have c6b0 : (t163 == 0) = false := beq_eq_false_iff_ne.mpr c6
            have c6b1 : (t163 != 0) = true := bne_iff_ne.mpr c6
            simp only [Option.some.injEq, Prod.mk.injEq] at H
            obtain ⟨rfl, rfl⟩ := H
            obtain ⟨i023, hi023, _, hsz23, _⟩ := info_parts info5
            obtain ⟨A23, hcut23, hA23, hC23⟩ := print_drop_of (P := Try.prog) (Value.int .u8) 0 22 5 .i64 Try.underlying22 hi023 hsz23 A0 c0 l0 x7_1 (of_decide_eq_true (by first | (with_reducible assumption) | assumption)) (of_decide_eq_true (by first | (with_reducible assumption) | assumption)) HC0.out
            have HR156 := Aside0.mk (Kd.C_of_reads (h1 := fun _ => rfl) (hA23 _ (Kd.reads_of_C HR0.out)))
            have HC156 := Aside0.mk hC23
            clear hA23 hC23 hi023 hsz23
            go_wp2_with (first | ((with_reducible refine gate_callee (f := 11) rfl ?_); refine goesL_ (some 17) rfl rfl Try.func11 (by kernel_rfl) rfl #[.slice A23 (l0.drop (x7_1 : Int).toNat).length (c0 - x7_1.toNat)] rfl (by (try simp only [List.map_toArray, List.map_cons, List.map_nil]); first | done | (rw [show (l0.drop (x7_1 : Int).toNat).length = (l0.length - x7_1.toNat) from List.length_drop] <;> rfl) | rfl | (simp only [List.length_drop, List.length_take]; rfl)) ?_; (with_reducible refine (governorref03_Get.calls _ _ (l0.drop (x7_1 : Int).toNat) t157 t158 t159 t162 t163 _ ?side1 ?side2 A5.out).mono ?_); (case side1 => repeat (first | exact (Kd.C_below HR156.out HB.out) | (with_reducible refine Kd.C_alloc ?_ _) | (with_reducible refine Kd.C_drewN ?_ _) | (with_reducible refine Kd.C_drew ?_))); (case side2 => exact HC156.out); rintro e w24 ⟨v160, rfl, ho0, hb⟩; refine ⟨_, rfl, ?_⟩; have n0_ := Aside0.mk (Kd.S_elder' (by (with_reducible repeat (first | apply Kd.S_alloc | apply Kd.S_drewN | apply Kd.S_drew)); exact HO_6.out) (Kd.R_base ho0) hb); have n1_ := Aside0.mk (Kd.R_lower ho0 (below_size (by repeat (first | (with_reducible first | exact HB.out | apply below_alloc | apply pw_below_drewN | apply below_drew1) | exact HB.out)))); have n2_ := Aside0.mk (below_step (by repeat (first | (with_reducible first | exact HB.out | apply below_alloc | apply pw_below_drewN | apply below_drew1) | exact HB.out)) hb); clear HO_6; clear HB; have HO_6 := n0_; have HO161 := n1_; have HB := n2_; clear n0_ n1_ n2_; (try clear hb); (try clear hb2); (try clear hk); (try clear hi); (try clear ho0)) | ((with_reducible refine gate_dst (N := 9) rfl ?_); refine box_event ?hg (N := 9) ?hd (cs := #[.int .i64 0, .int .i64 0, .slice none 0 0]) (t := 24) ?hr ?_; (case hd => rfl); (case hg => rfl); (case hr => first | (go_simp; done) | (go_simp; rfl)); intro gb164 hg w25 hbox hb; have n0_ := Aside0.mk (Kd.S_below (Kd.S_elderB (by (with_reducible repeat (first | apply Kd.S_alloc | apply Kd.S_drewN | apply Kd.S_drew)); exact HO_6.out) gb164 (Nat.le_of_eq hg.symm)) hb); have n1_ := Aside0.mk (Kd.R_below (by (with_reducible repeat (first | apply Kd.R_alloc | apply Kd.R_drewN | apply Kd.R_drew)); exact HO161.out) hb); have n2_ := Aside0.mk (below_step (by repeat (first | (with_reducible first | exact HB.out | apply below_alloc | apply pw_below_drewN | apply below_drew1) | exact HB.out)) hb); have n3_ := Aside0.mk (hbox); have n4_ := Aside0.mk ((by rw [hg]; exact (below_size (by repeat (first | (with_reducible first | exact HB.out | apply below_alloc | apply pw_below_drewN | apply below_drew1) | exact HB.out))) : w.heap.size ≤ gb164)); have n5_ := Aside0.mk ((by rw [hg]; exact (below_size (by repeat (first | (with_reducible first | exact HB.out | apply below_alloc | apply pw_below_drewN | apply below_drew1) | exact HB.out))) : w.heap.size ≤ gb164)); clear HO_6; clear HO161; clear HB; have HO_6 := n0_; have HO161 := n1_; have HB := n2_; have BK164 := n3_; have GW164 := n4_; have GE164 := n5_; clear n0_ n1_ n2_ n3_ n4_ n5_; clear hb hbox hg; have hcz26_0 : w25.cell? ⟨gb164, 0, none⟩ = some (.int .i64 0) := (blk_cell BK164.out 0).trans rfl; have hcz26_1 : w25.cell? ⟨gb164, 1, none⟩ = some (.int .i64 0) := (blk_cell BK164.out 1).trans rfl; have hcz26_2 : w25.cell? ⟨gb164, 2, none⟩ = some (.slice none 0 0) := (blk_cell BK164.out 2).trans rfl; have hfz26_0 := blk_frozen BK164.out 0; have hfz26_1 := blk_frozen BK164.out 1; have hfz26_2 := blk_frozen BK164.out 2; obtain ⟨Ao27, co27, eo27⟩ := Kd.R_slice HO161.out; subst eo27))
            go_ret2
            exact ⟨_, by first | rfl | (simp [errW_none, errW_some] <;> rfl) | (simp [*, errW_none, errW_some] <;> rfl), by (with_reducible repeat (first | apply Kd.S_alloc | apply Kd.S_drewN | apply Kd.S_drew)); exact Kd.S_mono (Kd.S_far (p := ⟨gb164, 2, none⟩) (Kd.S_far (p := ⟨gb164, 1, none⟩) (Kd.S_far (p := ⟨gb164, 0, none⟩) (Kd.S_mono HO_6.out (fun k_ hk => (⟨hk, hk.2⟩ : _ ∧ k_ ≠ gb164))) (fun _ hk => hk.2) (.int .i64 t157)) (fun _ hk => hk.2) (.int .i64 t158)) (fun _ hk => hk.2) (.slice Ao27 t159.length co27)) (fun _ hk => trivial), by repeat (first | (with_reducible first | exact HB.out | apply below_alloc | apply pw_below_drewN | apply below_drew1 | refine below_set ?_ GE164.out) | exact HB.out)⟩
        · rw [if_neg c4] at H
          exact absurd H (by simp)
      · rw [if_neg c3] at H
        exact absurd H (by simp)

/-! ### governorref03_Number: function 27 -/
def governorref03_Number.f (a0 a1 : Int) : Option (List Int) := if 0 ≤ a0 ∧ a0 ≤ 18446744073709551615 ∧ 0 ≤ a1 ∧ a1 ≤ 8 then some (W.be a1.toNat a0) else none
theorem governorref03_Number.calls (a0 : Int) (a1 : Int) (r : List Int) (w : World) (h : governorref03_Number.f a0 a1 = some r) :
    Calls Try.prog 27 #[.int .u64 a0, .int .i64 a1] w fun e w' => ∃ v0_ : Value, e = .returned (v0_) ∧ Kd.R (Kd.int .u8) 5 w' w.heap.size (fun _ => True) v0_ r ∧ Below w.heap.size w w' := by
  unfold governorref03_Number.f at h
  split at h
  · rename_i hl
    obtain rfl := Option.some.inj h
    obtain ⟨h0, h1, h2, h3⟩ := hl
    obtain ⟨m, rfl⟩ := Int.eq_ofNat_of_zero_le h2
    rw [Int.toNat_natCast]
    refine (W.refnumber_calls a0 m w h0 h1 (by omega)).mono ?_
    rintro e w' ⟨v, rfl, ho, hb⟩
    exact ⟨v, rfl, W.R_nums ho, hb⟩
  · cases h


/-! ### governorref03_Put: function 17 -/
def governorref03_Put.f (a0_0 : Int) (a0_1 : Int) (l0_2 : List Int) : Option (List Int) := (governorref03_Right.f a0_0 a0_1 l0_2).bind fun t169 => (if t169 = true then ((governorref03_Number.f (IntKind.u64.wrap ((l0_2.length : Int))) 2).bind fun t170 => ((some (([(a0_0) % 256] : List Int) : List Int)).bind fun y173 => (if t170.length + y173.length < 140737488355328 then ((some (t170 ++ y173 : List Int)).bind fun y176 => ((governorref03_Number.f (IntKind.u64.wrap (a0_1)) 4).bind fun t179 => (if y176.length + t179.length < 140737488355328 then ((some (y176 ++ t179 : List Int)).bind fun y182 => (if y182.length + l0_2.length < 140737488355328 then ((some (y182 ++ l0_2 : List Int)).bind fun y185 => ((governorref02_Of.f y185).bind fun t188 => ((governorref03_Number.f (IntKind.u64.wrap (t188)) 4).bind fun t189 => (if y185.length + t189.length < 140737488355328 then (some (y185 ++ t189)) else (none))))) else (none))) else (none)))) else (none)))) else (some ([] : List Int)))
def governorref03_Put.T3 : Bool × List (List Nat × List Nat) := (true, [([], []), ([0], [0]), ([1], [1]), ([2], [2]), ([3], [3]), ([], []), ([5], [5]), ([6], [6]), ([7], [7]), ([4, 8, 4], [4, 8]), ([9, 9, 0, 1, 2, 3, 4, 5, 6, 7, 8, 9], [9])])
def governorref03_Put.B3 : List Nat := [0, 1, 3, 7, 15, 0, 32, 96, 224, 511, 1023]
theorem governorref03_Put.tab3 : rtab .any (opsOf Try.f17 3) = governorref03_Put.T3 := by kernel_rfl
theorem governorref03_Put.bits3 : waitsOk governorref03_Put.T3.2 governorref03_Put.B3 = true := by kernel_rfl
set_option maxHeartbeats 8000000 in
set_option maxRecDepth 100000 in
theorem governorref03_Put.calls (a0_0 : Int) (a0_1 : Int) (A0_2 : Option Addr) (c0_2 : Nat) (l0_2 : List Int) (r : List Int) (w : World) (hr0_2 : Kd.C (Kd.int .u8) w A0_2 l0_2.length l0_2) (hc0_2 : l0_2.length ≤ c0_2) (h : governorref03_Put.f a0_0 a0_1 l0_2 = some r) :
    Calls Try.prog 17 #[.agg #[.int .i64 a0_0, .int .i64 a0_1, .slice A0_2 l0_2.length c0_2]] w fun e w' => ∃ v0_ : Value, e = .returned (v0_) ∧ Kd.R (Kd.int .u8) 5 w' w.heap.size (fun _ => True) v0_ r ∧ Below w.heap.size w w' := by
  have hu24 := Try.underlying24
  have HR0_2 := Aside0.mk hr0_2
  have HC0_2 := Aside0.mk hc0_2
  clear hr0_2 hc0_2
  have HB := Aside0.mk (Below.refl w.heap.size w)
  have H : ((governorref03_Right.f a0_0 a0_1 l0_2).bind fun t169 => (if t169 = true then ((governorref03_Number.f (IntKind.u64.wrap ((l0_2.length : Int))) 2).bind fun t170 => ((some (([(a0_0) % 256] : List Int) : List Int)).bind fun y173 => (if t170.length + y173.length < 140737488355328 then ((some (t170 ++ y173 : List Int)).bind fun y176 => ((governorref03_Number.f (IntKind.u64.wrap (a0_1)) 4).bind fun t179 => (if y176.length + t179.length < 140737488355328 then ((some (y176 ++ t179 : List Int)).bind fun y182 => (if y182.length + l0_2.length < 140737488355328 then ((some (y182 ++ l0_2 : List Int)).bind fun y185 => ((governorref02_Of.f y185).bind fun t188 => ((governorref03_Number.f (IntKind.u64.wrap (t188)) 4).bind fun t189 => (if y185.length + t189.length < 140737488355328 then (some (y185 ++ t189)) else (none))))) else (none))) else (none)))) else (none)))) else (some ([] : List Int)))) = some r := h
  clear h
  replace H := Option.bind_eq_some_iff.mp H
  obtain ⟨t169, A20, H⟩ := H
  replace H : (if t169 = true then ((governorref03_Number.f (IntKind.u64.wrap ((l0_2.length : Int))) 2).bind fun t170 => ((some (([(a0_0) % 256] : List Int) : List Int)).bind fun y173 => (if t170.length + y173.length < 140737488355328 then ((some (t170 ++ y173 : List Int)).bind fun y176 => ((governorref03_Number.f (IntKind.u64.wrap (a0_1)) 4).bind fun t179 => (if y176.length + t179.length < 140737488355328 then ((some (y176 ++ t179 : List Int)).bind fun y182 => (if y182.length + l0_2.length < 140737488355328 then ((some (y182 ++ l0_2 : List Int)).bind fun y185 => ((governorref02_Of.f y185).bind fun t188 => ((governorref03_Number.f (IntKind.u64.wrap (t188)) 4).bind fun t189 => (if y185.length + t189.length < 140737488355328 then (some (y185 ++ t189)) else (none))))) else (none))) else (none)))) else (none)))) else (some ([] : List Int))) = some r := H
  have A2 := Aside0.mk A20
  clear A20
  by_cases c3 : t169 = true
  · subst c3
    have H1 : ((governorref03_Number.f (IntKind.u64.wrap ((l0_2.length : Int))) 2).bind fun t170 => ((some (([(a0_0) % 256] : List Int) : List Int)).bind fun y173 => (if t170.length + y173.length < 140737488355328 then ((some (t170 ++ y173 : List Int)).bind fun y176 => ((governorref03_Number.f (IntKind.u64.wrap (a0_1)) 4).bind fun t179 => (if y176.length + t179.length < 140737488355328 then ((some (y176 ++ t179 : List Int)).bind fun y182 => (if y182.length + l0_2.length < 140737488355328 then ((some (y182 ++ l0_2 : List Int)).bind fun y185 => ((governorref02_Of.f y185).bind fun t188 => ((governorref03_Number.f (IntKind.u64.wrap (t188)) 4).bind fun t189 => (if y185.length + t189.length < 140737488355328 then (some (y185 ++ t189)) else (none))))) else (none))) else (none)))) else (none)))) = some r := by rw [if_pos rfl] at H; exact H
    clear H
    have H := H1
    clear H1
    replace H := Option.bind_eq_some_iff.mp H
    obtain ⟨t170, A40, H⟩ := H
    replace H : ((some (([(a0_0) % 256] : List Int) : List Int)).bind fun y173 => (if t170.length + y173.length < 140737488355328 then ((some (t170 ++ y173 : List Int)).bind fun y176 => ((governorref03_Number.f (IntKind.u64.wrap (a0_1)) 4).bind fun t179 => (if y176.length + t179.length < 140737488355328 then ((some (y176 ++ t179 : List Int)).bind fun y182 => (if y182.length + l0_2.length < 140737488355328 then ((some (y182 ++ l0_2 : List Int)).bind fun y185 => ((governorref02_Of.f y185).bind fun t188 => ((governorref03_Number.f (IntKind.u64.wrap (t188)) 4).bind fun t189 => (if y185.length + t189.length < 140737488355328 then (some (y185 ++ t189)) else (none))))) else (none))) else (none)))) else (none))) = some r := H
    have A4 := Aside0.mk A40
    clear A40
    obtain ⟨y173, hy173⟩ : ∃ y_ : List Int, y_ = (([(a0_0) % 256] : List Int)) := ⟨_, rfl⟩
    replace H : (if t170.length + y173.length < 140737488355328 then ((some (t170 ++ y173 : List Int)).bind fun y176 => ((governorref03_Number.f (IntKind.u64.wrap (a0_1)) 4).bind fun t179 => (if y176.length + t179.length < 140737488355328 then ((some (y176 ++ t179 : List Int)).bind fun y182 => (if y182.length + l0_2.length < 140737488355328 then ((some (y182 ++ l0_2 : List Int)).bind fun y185 => ((governorref02_Of.f y185).bind fun t188 => ((governorref03_Number.f (IntKind.u64.wrap (t188)) 4).bind fun t189 => (if y185.length + t189.length < 140737488355328 then (some (y185 ++ t189)) else (none))))) else (none))) else (none)))) else (none)) = some r := by first | (rw [hy173]; with_reducible exact H) | (have H2_ := (Option.bind_some _ _).symm.trans H; rw [hy173]; with_reducible exact H2_) | (have H2_ := (Option.bind_some _ _).symm.trans H; with_reducible exact H2_) | with_reducible exact H | (rw [hy173]; exact H) | exact H
    have Ny173 := Aside0.mk hy173
    clear hy173
    by_cases c5 : t170.length + y173.length < 140737488355328
    · rw [if_pos c5] at H
      have LMc5 := Aside0.mk c5
      clear c5
      obtain ⟨y176, hy176⟩ : ∃ y_ : List Int, y_ = (t170 ++ y173) := ⟨_, rfl⟩
      replace H : ((governorref03_Number.f (IntKind.u64.wrap (a0_1)) 4).bind fun t179 => (if y176.length + t179.length < 140737488355328 then ((some (y176 ++ t179 : List Int)).bind fun y182 => (if y182.length + l0_2.length < 140737488355328 then ((some (y182 ++ l0_2 : List Int)).bind fun y185 => ((governorref02_Of.f y185).bind fun t188 => ((governorref03_Number.f (IntKind.u64.wrap (t188)) 4).bind fun t189 => (if y185.length + t189.length < 140737488355328 then (some (y185 ++ t189)) else (none))))) else (none))) else (none))) = some r := by first | (rw [hy176]; with_reducible exact H) | (have H2_ := (Option.bind_some _ _).symm.trans H; rw [hy176]; with_reducible exact H2_) | (have H2_ := (Option.bind_some _ _).symm.trans H; with_reducible exact H2_) | with_reducible exact H | (rw [hy176]; exact H) | exact H
      have Ny176 := Aside0.mk hy176
      clear hy176
      replace H := Option.bind_eq_some_iff.mp H
      obtain ⟨t179, A60, H⟩ := H
      replace H : (if y176.length + t179.length < 140737488355328 then ((some (y176 ++ t179 : List Int)).bind fun y182 => (if y182.length + l0_2.length < 140737488355328 then ((some (y182 ++ l0_2 : List Int)).bind fun y185 => ((governorref02_Of.f y185).bind fun t188 => ((governorref03_Number.f (IntKind.u64.wrap (t188)) 4).bind fun t189 => (if y185.length + t189.length < 140737488355328 then (some (y185 ++ t189)) else (none))))) else (none))) else (none)) = some r := H
      have A6 := Aside0.mk A60
      clear A60
      by_cases c7 : y176.length + t179.length < 140737488355328
      · rw [if_pos c7] at H
        have LMc7 := Aside0.mk c7
        clear c7
        obtain ⟨y182, hy182⟩ : ∃ y_ : List Int, y_ = (y176 ++ t179) := ⟨_, rfl⟩
        replace H : (if y182.length + l0_2.length < 140737488355328 then ((some (y182 ++ l0_2 : List Int)).bind fun y185 => ((governorref02_Of.f y185).bind fun t188 => ((governorref03_Number.f (IntKind.u64.wrap (t188)) 4).bind fun t189 => (if y185.length + t189.length < 140737488355328 then (some (y185 ++ t189)) else (none))))) else (none)) = some r := by first | (rw [hy182]; with_reducible exact H) | (have H2_ := (Option.bind_some _ _).symm.trans H; rw [hy182]; with_reducible exact H2_) | (have H2_ := (Option.bind_some _ _).symm.trans H; with_reducible exact H2_) | with_reducible exact H | (rw [hy182]; exact H) | exact H
        have Ny182 := Aside0.mk hy182
        clear hy182
        by_cases c8 : y182.length + l0_2.length < 140737488355328
        · rw [if_pos c8] at H
          have LMc8 := Aside0.mk c8
          clear c8
          obtain ⟨y185, hy185⟩ : ∃ y_ : List Int, y_ = (y182 ++ l0_2) := ⟨_, rfl⟩
          replace H : ((governorref02_Of.f y185).bind fun t188 => ((governorref03_Number.f (IntKind.u64.wrap (t188)) 4).bind fun t189 => (if y185.length + t189.length < 140737488355328 then (some (y185 ++ t189)) else (none)))) = some r := by first | (rw [hy185]; with_reducible exact H) | (have H2_ := (Option.bind_some _ _).symm.trans H; rw [hy185]; with_reducible exact H2_) | (have H2_ := (Option.bind_some _ _).symm.trans H; with_reducible exact H2_) | with_reducible exact H | (rw [hy185]; exact H) | exact H
          have Ny185 := Aside0.mk hy185
          clear hy185
          replace H := Option.bind_eq_some_iff.mp H
          obtain ⟨t188, A90, H⟩ := H
          replace H : ((governorref03_Number.f (IntKind.u64.wrap (t188)) 4).bind fun t189 => (if y185.length + t189.length < 140737488355328 then (some (y185 ++ t189)) else (none))) = some r := H
          have A9 := Aside0.mk A90
          clear A90
          replace H := Option.bind_eq_some_iff.mp H
          obtain ⟨t189, A100, H⟩ := H
          replace H : (if y185.length + t189.length < 140737488355328 then (some (y185 ++ t189)) else (none)) = some r := H
          have A10 := Aside0.mk A100
          clear A100
          by_cases c11 : y185.length + t189.length < 140737488355328
          · rw [if_pos c11] at H
            have LMc11 := Aside0.mk c11
            clear c11
            obtain ⟨y192, hy192⟩ : ∃ y_ : List Int, y_ = (y185 ++ t189) := ⟨_, rfl⟩
            replace H : (some y192) = some r := by first | (rw [hy192]; with_reducible exact H) | (have H2_ := (Option.bind_some _ _).symm.trans H; rw [hy192]; with_reducible exact H2_) | (have H2_ := (Option.bind_some _ _).symm.trans H; with_reducible exact H2_) | with_reducible exact H | (rw [hy192]; exact H) | exact H
            have Ny192 := Aside0.mk hy192
            clear hy192
            obtain rfl := Option.some.inj H
            go_enter Try.func17, Try.ntmps17
            try go_wp2_with (first | ((with_reducible refine gate_dst (N := 1) rfl ?_); refine box_event ?hg (N := 1) ?hd (cs := #[.int .i64 a0_0, .int .i64 a0_1, .slice A0_2 l0_2.length c0_2]) (t := 24) ?hr ?_; (case hd => rfl); (case hg => rfl); (case hr => first | (go_simp; done) | (go_simp; rfl)); intro gb168 hg w12 hbox hb; have n0_ := Aside0.mk (below_step (by repeat (first | (with_reducible first | exact HB.out | apply below_alloc | apply pw_below_drewN | apply below_drew1) | exact HB.out)) hb); have n1_ := Aside0.mk (hbox); have n2_ := Aside0.mk ((by rw [hg]; exact (below_size (by repeat (first | (with_reducible first | exact HB.out | apply below_alloc | apply pw_below_drewN | apply below_drew1) | exact HB.out))) : w.heap.size ≤ gb168)); have n3_ := Aside0.mk ((by rw [hg]; exact (below_size (by repeat (first | (with_reducible first | exact HB.out | apply below_alloc | apply pw_below_drewN | apply below_drew1) | exact HB.out))) : w.heap.size ≤ gb168)); clear HB; have HB := n0_; have BK168 := n1_; have GW168 := n2_; have GE168 := n3_; clear n0_ n1_ n2_ n3_; clear hb hbox hg; have hcz13_0 : w12.cell? ⟨gb168, 0, none⟩ = some (.int .i64 a0_0) := (blk_cell BK168.out 0).trans rfl; have hcz13_1 : w12.cell? ⟨gb168, 1, none⟩ = some (.int .i64 a0_1) := (blk_cell BK168.out 1).trans rfl; have hcz13_2 : w12.cell? ⟨gb168, 2, none⟩ = some (.slice A0_2 l0_2.length c0_2) := (blk_cell BK168.out 2).trans rfl; have hfz13_0 := blk_frozen BK168.out 0; have hfz13_1 := blk_frozen BK168.out 1; have hfz13_2 := blk_frozen BK168.out 2) | ((with_reducible refine gate_callee (f := 15) rfl ?_); refine goesL_ (some 5) rfl rfl Try.func15 (by kernel_rfl) rfl #[.agg #[.int .i64 a0_0, .int .i64 a0_1, .slice A0_2 l0_2.length c0_2]] rfl (by (try simp only [List.map_toArray, List.map_cons, List.map_nil]); first | done | rfl | (simp only [List.length_drop, List.length_take]; rfl)) ?_; (with_reducible refine (governorref03_Right.calls a0_0 a0_1 _ _ l0_2 true _ ?side1 ?side2 A2.out).mono ?_); (case side1 => repeat (first | exact (Kd.C_below HR0_2.out HB.out) | (with_reducible refine Kd.C_alloc ?_ _) | (with_reducible refine Kd.C_drewN ?_ _) | (with_reducible refine Kd.C_drew ?_))); (case side2 => exact HC0_2.out); rintro e w14 ⟨rfl, hb⟩; refine ⟨_, rfl, ?_⟩; have n0_ := Aside0.mk (blk_below (g := gb168) (o := .cells #[.int .i64 a0_0, .int .i64 a0_1, .slice A0_2 l0_2.length c0_2] 24 (0, 0)) (by (with_reducible repeat (first | refine blk_drewN ?_ _ | refine blk_drew ?_ | refine blk_alloc ?_ _)); exact BK168.out) hb); have n1_ := Aside0.mk (below_step (by repeat (first | (with_reducible first | exact HB.out | apply below_alloc | apply pw_below_drewN | apply below_drew1 | refine below_set ?_ GE168.out) | exact HB.out)) hb); clear BK168; clear HB; have BK168 := n0_; have HB := n1_; clear n0_ n1_; (try clear hb); (try clear hb2); (try clear hk); (try clear hi)))
            have n0_ := Aside0.mk (blk_drew BK168.out)
            have n1_ := Aside0.mk (below_drew1 HB.out)
            clear BK168
            clear HB
            have BK168 := n0_
            have HB := n1_
            clear n0_ n1_
            refine start_ (n := 11) (S := fun w' => w'.cell? ⟨gb168, 0, none⟩ = some (.int .i64 a0_0) ∧ w'.cell? ⟨gb168, 1, none⟩ = some (.int .i64 a0_1) ∧ w'.cell? ⟨gb168, 2, none⟩ = some (.slice A0_2 l0_2.length c0_2)) (ds := []) #[false, false, false, false, false, false, false, false, false, false, false] (by kernel_rfl) rfl rfl ⟨(blk_cell BK168.out 0).trans rfl, (blk_cell BK168.out 1).trans rfl, (blk_cell BK168.out 2).trans rfl⟩ (fun hHeld => ?_); refine with_tabW governorref03_Put.tab3 governorref03_Put.bits3 (fun HT_ HW_ => ?_)
            generalize w14.drew = w15 at BK168 HB hHeld ⊢
            refine pure_ (i := 0) (N := some 7) (v := ?_) (a' := ?_) #[true, false, false, false, false, false, false, false, false, false, false] rfl rfl (any_of HT_.out (by kernel_rfl)) (fun _ _ _ h => h) (Or.inl ⟨by rfl, ?_⟩) ?_ ?_
            rotate_left
            · intro w'
              go_simp
              with_reducible rfl
            rotate_left
            · simp only [Act.put, List.setIfInBounds_toArray, List.set_cons_zero, List.set_cons_succ, i64_w, i32_w]
              rfl
            refine pure_ (i := 5) (N := some 12) (v := ?_) (a' := ?_) #[true, false, false, false, false, true, false, false, false, false, false] rfl rfl (any_of HT_.out (by kernel_rfl)) (fun _ _ _ h => h) (Or.inl ⟨by rfl, ?_⟩) ?_ ?_
            rotate_left
            · intro w'
              go_simp
              with_reducible rfl
            rotate_left
            · simp only [Act.put, List.setIfInBounds_toArray, List.set_cons_zero, List.set_cons_succ, i64_w, i32_w]
              rfl
            refine take_ (i := 1) (N := some 8) (v := ?_) (a' := ?_) #[true, true, false, false, false, true, false, false, false, false, false] rfl rfl (take_ofW HT_.out HW_.out (by kernel_rfl)) (fun _ _ _ h => h) (Or.inl ⟨by rfl, ?_⟩) hHeld ?_ ?_
            rotate_left
            · rintro w' ⟨s0, s1, s2⟩
              go_simp
              with_reducible rfl
            rotate_left
            · simp only [Act.put, List.setIfInBounds_toArray, List.set_cons_zero, List.set_cons_succ, i64_w, i32_w]
              rfl
            refine pure_ (i := 2) (N := some 9) (v := ?_) (a' := ?_) #[true, true, true, false, false, true, false, false, false, false, false] rfl rfl (any_of HT_.out (by kernel_rfl)) (fun _ _ _ h => h) (Or.inl ⟨by rfl, ?_⟩) ?_ ?_
            rotate_left
            · intro w'
              go_simp
              with_reducible rfl
            rotate_left
            · simp only [Act.put, List.setIfInBounds_toArray, List.set_cons_zero, List.set_cons_succ, i64_w, i32_w]
              rfl
            refine pure_ (i := 3) (N := some 10) (v := ?_) (a' := ?_) #[true, true, true, true, false, true, false, false, false, false, false] rfl rfl (any_of HT_.out (by kernel_rfl)) (fun _ _ _ h => h) (Or.inl ⟨by rfl, ?_⟩) ?_ ?_
            rotate_left
            · intro w'
              go_simp
              with_reducible rfl
            rotate_left
            · simp only [Act.put, List.setIfInBounds_toArray, List.set_cons_zero, List.set_cons_succ, i64_w, i32_w]
              rfl
            refine take_ (i := 6) (N := some 13) (v := ?_) (a' := ?_) #[true, true, true, true, false, true, true, false, false, false, false] rfl rfl (take_ofW HT_.out HW_.out (by kernel_rfl)) (fun _ _ _ h => h) (Or.inl ⟨by rfl, ?_⟩) hHeld ?_ ?_
            rotate_left
            · rintro w' ⟨s0, s1, s2⟩
              go_simp
              with_reducible rfl
            rotate_left
            · simp only [Act.put, List.setIfInBounds_toArray, List.set_cons_zero, List.set_cons_succ, i64_w, i32_w]
              rfl
            refine pure_ (i := 7) (N := some 14) (v := ?_) (a' := ?_) #[true, true, true, true, false, true, true, true, false, false, false] rfl rfl (any_of HT_.out (by kernel_rfl)) (fun _ _ _ h => h) (Or.inl ⟨by rfl, ?_⟩) ?_ ?_
            rotate_left
            · intro w'
              go_simp
              with_reducible rfl
            rotate_left
            · simp only [Act.put, List.setIfInBounds_toArray, List.set_cons_zero, List.set_cons_succ, i64_w, i32_w]
              rfl
            refine join_ (σ := Value × Value) 2 #[true, true, true, true, true, true, true, true, true, false, false] (fun s_ => [(11, s_.1), (15, s_.2)]) (fun s_ w' => (w'.cell? ⟨gb168, 0, none⟩ = some (.int .i64 a0_0) ∧ w'.cell? ⟨gb168, 1, none⟩ = some (.int .i64 a0_1) ∧ w'.cell? ⟨gb168, 2, none⟩ = some (.slice A0_2 l0_2.length c0_2)) ∧ (Kd.R (Kd.int .u8) 5 w' w.heap.size (fun k_ => some k_ ≠ (s_.2 : Value).ownBlock) s_.1 t170) ∧ (Kd.R (Kd.int .u8) 5 w' w.heap.size (fun k_ => some k_ ≠ (s_.1 : Value).ownBlock) s_.2 y173) ∧ (w'.heap[gb168]? = some (.cells #[.int .i64 a0_0, .int .i64 a0_1, .slice A0_2 l0_2.length c0_2] 24 (0, 0))) ∧ (Below w.heap.size w w')) ?_ ?_
            rotate_left
            · intro hCont
              refine two_ (i := 4) (j := 8) (Ni := some 11) (Nj := some 15) #[true, true, true, true, true, true, true, true, false, false, false] #[true, true, true, true, false, true, true, true, true, false, false] rfl rfl rfl rfl (two_of HT_.out (by kernel_rfl)) (by decide) (by decide) (fun K hK => ?_) (fun K hK => ?_)
              · skip
                refine goes_ Try.func27 (by kernel_rfl) rfl #[.int .u64 (IntKind.u64.wrap ((l0_2.length : Int))), .int .i64 2] (by rfl) rfl rfl (by (try simp only [List.map_toArray, List.map_cons, List.map_nil]); first | done | rfl | (simp only [List.length_drop, List.length_take]; rfl)) ?_
                with_reducible refine (governorref03_Number.calls (IntKind.u64.wrap ((l0_2.length : Int))) 2 t170 _ A4.out).mono ?_
                rintro e w16 ⟨v171, rfl, ho0, hb⟩
                refine ⟨_, rfl, ?_⟩
                have n0_ := Aside0.mk (Kd.R_lower ho0 (below_size (by repeat (first | (with_reducible first | exact HB.out | apply below_alloc | apply pw_below_drewN | apply below_drew1 | refine below_set ?_ GE168.out) | exact HB.out))))
                have n1_ := Aside0.mk (blk_below (g := gb168) (o := .cells #[.int .i64 a0_0, .int .i64 a0_1, .slice A0_2 l0_2.length c0_2] 24 (0, 0)) (by (with_reducible repeat (first | refine blk_drewN ?_ _ | refine blk_drew ?_ | refine blk_alloc ?_ _)); exact BK168.out) hb)
                have n2_ := Aside0.mk (below_step (by repeat (first | (with_reducible first | exact HB.out | apply below_alloc | apply pw_below_drewN | apply below_drew1 | refine below_set ?_ GE168.out) | exact HB.out)) hb)
                clear BK168
                clear HB
                have HO172 := n0_
                have BK168 := n1_
                have HB := n2_
                clear n0_ n1_ n2_
                (try clear hb)
                (try clear hb2)
                (try clear hk)
                (try clear hi)
                (try clear ho0)
                refine hK.out _ _ ⟨(blk_cell BK168.out 0).trans rfl, (blk_cell BK168.out 1).trans rfl, (blk_cell BK168.out 2).trans rfl⟩ (fun hHeld => ?_)
                clear hK K
                refine norm_ (a' := ?_) ?_ ?_
                rotate_left
                · show Act.put _ (some 11) _ = _
                  simp only [Act.put, List.setIfInBounds_toArray, List.set_cons_zero, List.set_cons_succ, i64_w, i32_w]
                  rfl
                refine one_ (i := 8) (N := some 15) #[true, true, true, true, true, true, true, true, true, false, false] rfl rfl (one_of HT_.out (by kernel_rfl)) (by decide) (fun K hK => ?_)
                refine Kd.R_lit_step (Kd.int .u8) _ 5 ?hg (N := 15) ?hd (xs := ([(a0_0) % 256] : List Int)) (inner := [.int .u8 ((a0_0) % 256)]) (ok := fun _ => True) (okp := fun _ => True) ?hr ?hp (fun _ hk => hk) trivial (Below.refl _ _) (Nat.le_refl _) (by simp) ?_; (case hd => rfl); (case hg => rfl); (case hr => first | (go_simp; done) | (go_simp; rfl)); (case hp => exact (Reps.one (show Kd.M (Kd.int .u8) _ _ _ ((a0_0) % 256) [.int .u8 ((a0_0) % 256)] from rfl) (Reps.none _ _)))
                intro v174 w17 ho18 hb hg_ hnew_
                clear hg_ hnew_
                (first | rw [← Ny173.out] at ho18 | (simp only [Int.reduceToNat] at ho18; rw [← Ny173.out] at ho18))
                have n0_ := Aside0.mk (Kd.R_elder' (by (with_reducible repeat (first | apply Kd.R_alloc | apply Kd.R_drewN | apply Kd.R_drew)); exact HO172.out) (Kd.R_base ho18) hb)
                have n1_ := Aside0.mk (Kd.R_lower (Kd.R_new' ho18 (Kd.R_lt (by (with_reducible repeat (first | apply Kd.R_alloc | apply Kd.R_drewN | apply Kd.R_drew)); exact HO172.out))) (below_size (by repeat (first | (with_reducible first | exact HB.out | apply below_alloc | apply pw_below_drewN | apply below_drew1 | refine below_set ?_ GE168.out) | exact HB.out))))
                have n2_ := Aside0.mk (blk_below (g := gb168) (o := .cells #[.int .i64 a0_0, .int .i64 a0_1, .slice A0_2 l0_2.length c0_2] 24 (0, 0)) (by (with_reducible repeat (first | refine blk_drewN ?_ _ | refine blk_drew ?_ | refine blk_alloc ?_ _)); exact BK168.out) hb)
                have n3_ := Aside0.mk (below_step (by repeat (first | (with_reducible first | exact HB.out | apply below_alloc | apply pw_below_drewN | apply below_drew1 | refine below_set ?_ GE168.out) | exact HB.out)) hb)
                clear HO172
                clear BK168
                clear HB
                have HO172 := n0_
                have HO175 := n1_
                have BK168 := n2_
                have HB := n3_
                clear n0_ n1_ n2_ n3_
                clear hb ho18
                refine hK.out _ _ ⟨(blk_cell BK168.out 0).trans rfl, (blk_cell BK168.out 1).trans rfl, (blk_cell BK168.out 2).trans rfl⟩ (fun hHeld => ?_)
                clear hK K
                refine norm_ (a' := ?_) ?_ ?_
                rotate_left
                · show Act.put _ (some 15) _ = _
                  simp only [Act.put, List.setIfInBounds_toArray, List.set_cons_zero, List.set_cons_succ, i64_w, i32_w]
                  rfl
                exact norm_ (by simp only [putAll, Act.put, List.setIfInBounds_toArray, List.set_cons_zero, List.set_cons_succ]) (hCont (v171, v174) _ ⟨hHeld, (by (with_reducible repeat (first | apply Kd.R_alloc | apply Kd.R_drewN | apply Kd.R_drew)); exact Kd.R_mono HO172.out (fun _ hk => hk.2)), (by (with_reducible repeat (first | apply Kd.R_alloc | apply Kd.R_drewN | apply Kd.R_drew)); exact Kd.R_mono HO175.out (fun _ hk => hk.2)), (by (with_reducible repeat (first | refine blk_drewN ?_ _ | refine blk_drew ?_ | refine blk_alloc ?_ _)); exact BK168.out), (by repeat (first | (with_reducible first | exact HB.out | apply below_alloc | apply pw_below_drewN | apply below_drew1 | refine below_set ?_ GE168.out) | exact HB.out))⟩)
              · skip
                refine Kd.R_lit_step (Kd.int .u8) _ 5 ?hg (N := 15) ?hd (xs := ([(a0_0) % 256] : List Int)) (inner := [.int .u8 ((a0_0) % 256)]) (ok := fun _ => True) (okp := fun _ => True) ?hr ?hp (fun _ hk => hk) trivial (Below.refl _ _) (Nat.le_refl _) (by simp) ?_; (case hd => rfl); (case hg => rfl); (case hr => first | (go_simp; done) | (go_simp; rfl)); (case hp => exact (Reps.one (show Kd.M (Kd.int .u8) _ _ _ ((a0_0) % 256) [.int .u8 ((a0_0) % 256)] from rfl) (Reps.none _ _)))
                intro v174 w16 ho17 hb hg_ hnew_
                clear hg_ hnew_
                (first | rw [← Ny173.out] at ho17 | (simp only [Int.reduceToNat] at ho17; rw [← Ny173.out] at ho17))
                have n0_ := Aside0.mk (Kd.R_lower ho17 (below_size (by repeat (first | (with_reducible first | exact HB.out | apply below_alloc | apply pw_below_drewN | apply below_drew1 | refine below_set ?_ GE168.out) | exact HB.out))))
                have n1_ := Aside0.mk (blk_below (g := gb168) (o := .cells #[.int .i64 a0_0, .int .i64 a0_1, .slice A0_2 l0_2.length c0_2] 24 (0, 0)) (by (with_reducible repeat (first | refine blk_drewN ?_ _ | refine blk_drew ?_ | refine blk_alloc ?_ _)); exact BK168.out) hb)
                have n2_ := Aside0.mk (below_step (by repeat (first | (with_reducible first | exact HB.out | apply below_alloc | apply pw_below_drewN | apply below_drew1 | refine below_set ?_ GE168.out) | exact HB.out)) hb)
                clear BK168
                clear HB
                have HO175 := n0_
                have BK168 := n1_
                have HB := n2_
                clear n0_ n1_ n2_
                clear hb ho17
                refine hK.out _ _ ⟨(blk_cell BK168.out 0).trans rfl, (blk_cell BK168.out 1).trans rfl, (blk_cell BK168.out 2).trans rfl⟩ (fun hHeld => ?_)
                clear hK K
                refine norm_ (a' := ?_) ?_ ?_
                rotate_left
                · show Act.put _ (some 15) _ = _
                  simp only [Act.put, List.setIfInBounds_toArray, List.set_cons_zero, List.set_cons_succ, i64_w, i32_w]
                  rfl
                refine one_ (i := 4) (N := some 11) #[true, true, true, true, true, true, true, true, true, false, false] rfl rfl (one_of HT_.out (by kernel_rfl)) (by decide) (fun K hK => ?_)
                refine goes_ Try.func27 (by kernel_rfl) rfl #[.int .u64 (IntKind.u64.wrap ((l0_2.length : Int))), .int .i64 2] (by rfl) rfl rfl (by (try simp only [List.map_toArray, List.map_cons, List.map_nil]); first | done | rfl | (simp only [List.length_drop, List.length_take]; rfl)) ?_
                with_reducible refine (governorref03_Number.calls (IntKind.u64.wrap ((l0_2.length : Int))) 2 t170 _ A4.out).mono ?_
                rintro e w18 ⟨v171, rfl, ho0, hb⟩
                refine ⟨_, rfl, ?_⟩
                have n0_ := Aside0.mk (Kd.R_elder' (by (with_reducible repeat (first | apply Kd.R_alloc | apply Kd.R_drewN | apply Kd.R_drew)); exact HO175.out) (Kd.R_base ho0) hb)
                have n1_ := Aside0.mk (Kd.R_lower (Kd.R_new' ho0 (Kd.R_lt (by (with_reducible repeat (first | apply Kd.R_alloc | apply Kd.R_drewN | apply Kd.R_drew)); exact HO175.out))) (below_size (by repeat (first | (with_reducible first | exact HB.out | apply below_alloc | apply pw_below_drewN | apply below_drew1 | refine below_set ?_ GE168.out) | exact HB.out))))
                have n2_ := Aside0.mk (blk_below (g := gb168) (o := .cells #[.int .i64 a0_0, .int .i64 a0_1, .slice A0_2 l0_2.length c0_2] 24 (0, 0)) (by (with_reducible repeat (first | refine blk_drewN ?_ _ | refine blk_drew ?_ | refine blk_alloc ?_ _)); exact BK168.out) hb)
                have n3_ := Aside0.mk (below_step (by repeat (first | (with_reducible first | exact HB.out | apply below_alloc | apply pw_below_drewN | apply below_drew1 | refine below_set ?_ GE168.out) | exact HB.out)) hb)
                clear HO175
                clear BK168
                clear HB
                have HO175 := n0_
                have HO172 := n1_
                have BK168 := n2_
                have HB := n3_
                clear n0_ n1_ n2_ n3_
                (try clear hb)
                (try clear hb2)
                (try clear hk)
                (try clear hi)
                (try clear ho0)
                refine hK.out _ _ ⟨(blk_cell BK168.out 0).trans rfl, (blk_cell BK168.out 1).trans rfl, (blk_cell BK168.out 2).trans rfl⟩ (fun hHeld => ?_)
                clear hK K
                refine norm_ (a' := ?_) ?_ ?_
                rotate_left
                · show Act.put _ (some 11) _ = _
                  simp only [Act.put, List.setIfInBounds_toArray, List.set_cons_zero, List.set_cons_succ, i64_w, i32_w]
                  rfl
                exact norm_ (by simp only [putAll, Act.put, List.setIfInBounds_toArray, List.set_cons_zero, List.set_cons_succ]) (hCont (v171, v174) _ ⟨hHeld, (by (with_reducible repeat (first | apply Kd.R_alloc | apply Kd.R_drewN | apply Kd.R_drew)); exact Kd.R_mono HO172.out (fun _ hk => hk.2)), (by (with_reducible repeat (first | apply Kd.R_alloc | apply Kd.R_drewN | apply Kd.R_drew)); exact Kd.R_mono HO175.out (fun _ hk => hk.2)), (by (with_reducible repeat (first | refine blk_drewN ?_ _ | refine blk_drew ?_ | refine blk_alloc ?_ _)); exact BK168.out), (by repeat (first | (with_reducible first | exact HB.out | apply below_alloc | apply pw_below_drewN | apply below_drew1 | refine below_set ?_ GE168.out) | exact HB.out))⟩)
            rintro ⟨v171, v174⟩ w19 ⟨hS_, h0_, h1_, h2_, h3_⟩
            have n0_ : Aside0 (Kd.R (Kd.int .u8) 5 w19 w.heap.size (fun k_ => some k_ ≠ (v174 : Value).ownBlock) v171 t170) := ⟨h0_⟩
            have n1_ : Aside0 (Kd.R (Kd.int .u8) 5 w19 w.heap.size (fun k_ => some k_ ≠ (v171 : Value).ownBlock) v174 y173) := ⟨h1_⟩
            have n2_ : Aside0 (w19.heap[gb168]? = some (.cells #[.int .i64 a0_0, .int .i64 a0_1, .slice A0_2 l0_2.length c0_2] 24 (0, 0))) := ⟨h2_⟩
            have n3_ : Aside0 (Below w.heap.size w w19) := ⟨h3_⟩
            clear BK168
            clear HB
            clear h0_ h1_ h2_ h3_
            have HO172 := n0_
            have HO175 := n1_
            have BK168 := n2_
            have HB := n3_
            clear n0_ n1_ n2_ n3_
            have hHeld : w19.cell? ⟨gb168, 0, none⟩ = some (.int .i64 a0_0) ∧ w19.cell? ⟨gb168, 1, none⟩ = some (.int .i64 a0_1) ∧ w19.cell? ⟨gb168, 2, none⟩ = some (.slice A0_2 l0_2.length c0_2) := hS_
            obtain ⟨Ao21, co21, eo21⟩ := Kd.R_slice HO175.out
            (first | subst eo21 | (injection eo21 with f1_ f2_ f3_; have f4_ := f1_.symm; have f5_ := f3_.symm; clear f1_ f2_ f3_; subst f4_; subst f5_))
            refine norm_ (a' := ?_) ?_ ?_
            rotate_left
            · simp only [putAll, Act.put, List.setIfInBounds_toArray, List.set_cons_zero, List.set_cons_succ]
              rfl
            refine one_ (i := 9) (N := some 16) #[true, true, true, true, true, true, true, true, true, true, false] rfl rfl (one_of HT_.out (by kernel_rfl)) (by decide) (fun K hK => ?_)
            refine Kd.R_append_rows_step (Kd.int .u8) (w0 := w) w.heap.size (by rfl) (.tmp 11) (.tmp 15) 22 5 (.int .u8 0) 1 rfl Try.underlying22 info5 rfl (by decide) (by omega) v171 t170 y173 _ _ _ (fun k_ => some k_ ≠ (.slice Ao21 y173.length co21 : Value).ownBlock) (fun _ => False) rfl rfl ?aO ?aR (fun _ _ h => h) (fun _ h => h.elim) ?aF ?aB ?aS ?aL ?_
            (case aR => repeat (first | exact (Kd.R_reads' HO175.out).2.2 | (with_reducible refine Kd.C_alloc ?_ _) | (with_reducible refine Kd.C_drewN ?_ _) | (with_reducible refine Kd.C_drew ?_)))
            (case aB => exact (by repeat (first | (with_reducible first | exact HB.out | apply below_alloc | apply pw_below_drewN | apply below_drew1 | refine below_set ?_ GE168.out) | exact HB.out)))
            (case aF => exact (fun k_ hk => Kd.fresh' (Kd.R_lt (by (with_reducible repeat (first | apply Kd.R_alloc | apply Kd.R_drewN | apply Kd.R_drew)); exact HO175.out)) k_ hk))
            (case aO => exact (by (with_reducible repeat (first | apply Kd.R_alloc | apply Kd.R_drewN | apply Kd.R_drew)); exact HO172.out))
            (case aS => exact (below_size (by repeat (first | (with_reducible first | exact HB.out | apply below_alloc | apply pw_below_drewN | apply below_drew1 | refine below_set ?_ GE168.out) | exact HB.out))))
            (case aL => have := LMc5.out; omega)
            intro v177 w20 ho hb hg hat
            rw [← Ny176.out] at ho
            have n0_ := Aside0.mk (blk_grown (g := gb168) (o := .cells #[.int .i64 a0_0, .int .i64 a0_1, .slice A0_2 l0_2.length c0_2] 24 (0, 0)) (by (with_reducible repeat (first | refine blk_drewN ?_ _ | refine blk_drew ?_ | refine blk_alloc ?_ _)); exact BK168.out) hg (Kd.R_ne HO172.out BK168.out (by decide)))
            have n1_ := Aside0.mk (Kd.R_after (ok := (fun _ => True)) (by (with_reducible repeat (first | apply Kd.R_alloc | apply Kd.R_drewN | apply Kd.R_drew)); exact Kd.R_mono HO175.out (fun _ hk => ⟨trivial, hk⟩)) hg hat)
            have n2_ := Aside0.mk (hb)
            have n3_ := Aside0.mk (ho)
            clear BK168
            clear HO175
            clear HB
            clear HO172
            have BK168 := n0_
            have HO175 := n1_
            have HB := n2_
            have HO178 := n3_
            clear n0_ n1_ n2_ n3_
            clear ho hb hg hat
            refine hK.out _ _ ⟨(blk_cell BK168.out 0).trans rfl, (blk_cell BK168.out 1).trans rfl, (blk_cell BK168.out 2).trans rfl⟩ (fun hHeld => ?_)
            clear hK K
            refine norm_ (a' := ?_) ?_ ?_
            rotate_left
            · show Act.put _ (some 16) _ = _
              simp only [Act.put, List.setIfInBounds_toArray, List.set_cons_zero, List.set_cons_succ, i64_w, i32_w]
              rfl
            refine pure_ (i := 10) (N := some 3) (v := ?_) (a' := ?_) #[true, true, true, true, true, true, true, true, true, true, true] rfl rfl (any_of HT_.out (by kernel_rfl)) (fun _ _ _ h => h) (Or.inl ⟨by rfl, ?_⟩) ?_ ?_
            rotate_left
            · intro w'
              go_simp
              with_reducible rfl
            rotate_left
            · simp only [Act.put, List.setIfInBounds_toArray, List.set_cons_zero, List.set_cons_succ, i64_w, i32_w]
              rfl
            refine done_ (done_of HT_.out (by kernel_rfl)) ?_
            have hcz22_0 : w20.cell? ⟨gb168, 0, none⟩ = some (.int .i64 a0_0) := (blk_cell BK168.out 0).trans rfl
            have hcz22_1 : w20.cell? ⟨gb168, 1, none⟩ = some (.int .i64 a0_1) := (blk_cell BK168.out 1).trans rfl
            have hcz22_2 : w20.cell? ⟨gb168, 2, none⟩ = some (.slice A0_2 l0_2.length c0_2) := (blk_cell BK168.out 2).trans rfl
            have hfz22_0 := blk_frozen BK168.out 0
            have hfz22_1 := blk_frozen BK168.out 1
            have hfz22_2 := blk_frozen BK168.out 2
            try go_wp2_with (first | ((with_reducible refine gate_callee (f := 27) rfl ?_); refine goesL_ (some 21) rfl rfl Try.func27 (by kernel_rfl) rfl #[.int .u64 (IntKind.u64.wrap (a0_1)), .int .i64 4] rfl (by (try simp only [List.map_toArray, List.map_cons, List.map_nil]); first | done | rfl | (simp only [List.length_drop, List.length_take]; rfl)) ?_; (with_reducible refine (governorref03_Number.calls (IntKind.u64.wrap (a0_1)) 4 t179 _ A6.out).mono ?_); rintro e w23 ⟨v180, rfl, ho0, hb⟩; refine ⟨_, rfl, ?_⟩; have n0_ := Aside0.mk (Kd.R_elder' (by (with_reducible repeat (first | apply Kd.R_alloc | apply Kd.R_drewN | apply Kd.R_drew)); exact HO175.out) (Kd.R_base ho0) hb); have n1_ := Aside0.mk (Kd.R_elder' (by (with_reducible repeat (first | apply Kd.R_alloc | apply Kd.R_drewN | apply Kd.R_drew)); exact HO178.out) (Kd.R_base ho0) hb); have n2_ := Aside0.mk (Kd.R_lower (Kd.R_new' (Kd.R_new' ho0 (Kd.R_lt (by (with_reducible repeat (first | apply Kd.R_alloc | apply Kd.R_drewN | apply Kd.R_drew)); exact HO175.out))) (Kd.R_lt (by (with_reducible repeat (first | apply Kd.R_alloc | apply Kd.R_drewN | apply Kd.R_drew)); exact HO178.out))) (below_size (by repeat (first | (with_reducible first | exact HB.out | apply below_alloc | apply pw_below_drewN | apply below_drew1 | refine below_set ?_ GE168.out) | exact HB.out)))); have n3_ := Aside0.mk (blk_below (g := gb168) (o := .cells #[.int .i64 a0_0, .int .i64 a0_1, .slice A0_2 l0_2.length c0_2] 24 (0, 0)) (by (with_reducible repeat (first | refine blk_drewN ?_ _ | refine blk_drew ?_ | refine blk_alloc ?_ _)); exact BK168.out) hb); have n4_ := Aside0.mk (below_step (by repeat (first | (with_reducible first | exact HB.out | apply below_alloc | apply pw_below_drewN | apply below_drew1 | refine below_set ?_ GE168.out) | exact HB.out)) hb); clear HO175; clear HO178; clear BK168; clear HB; have HO175 := n0_; have HO178 := n1_; have HO181 := n2_; have BK168 := n3_; have HB := n4_; clear n0_ n1_ n2_ n3_ n4_; (try clear hb); (try clear hb2); (try clear hk); (try clear hi); (try clear ho0); obtain ⟨Ao25, co25, eo25⟩ := Kd.R_slice HO181.out; subst eo25) | ((with_reducible refine gate_builtin (b := .append) (xs := #[.tmp 17, .tmp 21]) rfl ?_); at_builtin; refine Kd.R_append_rows (Kd.int .u8) (w0 := w) w.heap.size rfl (.tmp 17) (.tmp 21) 22 5 (.int .u8 0) 1 rfl Try.underlying22 info5 rfl (by decide) (by omega) v177 y176 t179 _ _ _ (fun k_ => some k_ ≠ (.slice Ao21 y173.length co21 : Value).ownBlock ∧ some k_ ≠ (.slice Ao25 t179.length co25 : Value).ownBlock) (fun _ => False) rfl rfl ?aO ?aR (fun _ _ h => h) (fun _ h => h.elim) ?aF ?aB ?aS ?aL ?_; (case aR => repeat (first | exact (Kd.R_reads' HO181.out).2.2 | (with_reducible refine Kd.C_alloc ?_ _) | (with_reducible refine Kd.C_drewN ?_ _) | (with_reducible refine Kd.C_drew ?_))); (case aB => exact (by repeat (first | (with_reducible first | exact HB.out | apply below_alloc | apply pw_below_drewN | apply below_drew1 | refine below_set ?_ GE168.out) | exact HB.out))); (case aF => exact (fun k_ hk => ⟨Kd.fresh' (Kd.R_lt (by (with_reducible repeat (first | apply Kd.R_alloc | apply Kd.R_drewN | apply Kd.R_drew)); exact HO175.out)) k_ hk, Kd.fresh' (Kd.R_lt (by (with_reducible repeat (first | apply Kd.R_alloc | apply Kd.R_drewN | apply Kd.R_drew)); exact HO181.out)) k_ hk⟩)); (case aO => exact (by (with_reducible repeat (first | apply Kd.R_alloc | apply Kd.R_drewN | apply Kd.R_drew)); exact HO178.out)); (case aS => exact (below_size (by repeat (first | (with_reducible first | exact HB.out | apply below_alloc | apply pw_below_drewN | apply below_drew1 | refine below_set ?_ GE168.out) | exact HB.out)))); (case aL => have := LMc7.out; omega); intro v183 w24 ho hb hg hat; rw [← Ny182.out] at ho; have n0_ := Aside0.mk (blk_grown (g := gb168) (o := .cells #[.int .i64 a0_0, .int .i64 a0_1, .slice A0_2 l0_2.length c0_2] 24 (0, 0)) (by (with_reducible repeat (first | refine blk_drewN ?_ _ | refine blk_drew ?_ | refine blk_alloc ?_ _)); exact BK168.out) hg (Kd.R_ne HO178.out BK168.out (by decide))); have n1_ := Aside0.mk (Kd.R_after (ok := (fun k_ => some k_ ≠ (.slice Ao25 t179.length co25 : Value).ownBlock)) (by (with_reducible repeat (first | apply Kd.R_alloc | apply Kd.R_drewN | apply Kd.R_drew)); exact Kd.R_mono HO175.out (fun _ hk => ⟨hk.2, hk.1.2⟩)) hg hat); have n2_ := Aside0.mk (Kd.R_after (ok := (fun k_ => some k_ ≠ (.slice Ao21 y173.length co21 : Value).ownBlock)) (by (with_reducible repeat (first | apply Kd.R_alloc | apply Kd.R_drewN | apply Kd.R_drew)); exact Kd.R_mono HO181.out (fun _ hk => ⟨hk.1.2, hk.2⟩)) hg hat); have n3_ := Aside0.mk (hb); have n4_ := Aside0.mk (ho); clear BK168; clear HO175; clear HO181; clear HB; clear HO178; have BK168 := n0_; have HO175 := n1_; have HO181 := n2_; have HB := n3_; have HO184 := n4_; clear n0_ n1_ n2_ n3_ n4_; clear ho hb hg hat; have hcz26_0 : w24.cell? ⟨gb168, 0, none⟩ = some (.int .i64 a0_0) := (blk_cell BK168.out 0).trans rfl; have hcz26_1 : w24.cell? ⟨gb168, 1, none⟩ = some (.int .i64 a0_1) := (blk_cell BK168.out 1).trans rfl; have hcz26_2 : w24.cell? ⟨gb168, 2, none⟩ = some (.slice A0_2 l0_2.length c0_2) := (blk_cell BK168.out 2).trans rfl; have hfz26_0 := blk_frozen BK168.out 0; have hfz26_1 := blk_frozen BK168.out 1; have hfz26_2 := blk_frozen BK168.out 2) | ((with_reducible refine gate_builtin (b := .append) (xs := #[.tmp 23, .tmp 25]) rfl ?_); at_builtin; refine Kd.R_append_rows (Kd.int .u8) (w0 := w) w.heap.size rfl (.tmp 23) (.tmp 25) 22 5 (.int .u8 0) 1 rfl Try.underlying22 info5 rfl (by decide) (by omega) v183 y182 l0_2 _ _ _ (fun k_ => some k_ ≠ (.slice Ao21 y173.length co21 : Value).ownBlock ∧ some k_ ≠ (.slice Ao25 t179.length co25 : Value).ownBlock) (fun _ => False) rfl rfl ?aO ?aR (fun _ _ h => h) (fun _ h => h.elim) ?aF ?aB ?aS ?aL ?_; (case aR => repeat (first | exact (Kd.C_below HR0_2.out HB.out) | (with_reducible refine Kd.C_alloc ?_ _) | (with_reducible refine Kd.C_drewN ?_ _) | (with_reducible refine Kd.C_drew ?_))); (case aB => exact (by repeat (first | (with_reducible first | exact HB.out | apply below_alloc | apply pw_below_drewN | apply below_drew1 | refine below_set ?_ GE168.out) | exact HB.out))); (case aF => exact (fun k_ hk => ⟨Kd.fresh' (Kd.R_lt (by (with_reducible repeat (first | apply Kd.R_alloc | apply Kd.R_drewN | apply Kd.R_drew)); exact HO175.out)) k_ hk, Kd.fresh' (Kd.R_lt (by (with_reducible repeat (first | apply Kd.R_alloc | apply Kd.R_drewN | apply Kd.R_drew)); exact HO181.out)) k_ hk⟩)); (case aO => exact (by (with_reducible repeat (first | apply Kd.R_alloc | apply Kd.R_drewN | apply Kd.R_drew)); exact HO184.out)); (case aS => exact (below_size (by repeat (first | (with_reducible first | exact HB.out | apply below_alloc | apply pw_below_drewN | apply below_drew1 | refine below_set ?_ GE168.out) | exact HB.out)))); (case aL => have := LMc8.out; omega); intro v186 w27 ho hb hg hat; rw [← Ny185.out] at ho; have n0_ := Aside0.mk (blk_grown (g := gb168) (o := .cells #[.int .i64 a0_0, .int .i64 a0_1, .slice A0_2 l0_2.length c0_2] 24 (0, 0)) (by (with_reducible repeat (first | refine blk_drewN ?_ _ | refine blk_drew ?_ | refine blk_alloc ?_ _)); exact BK168.out) hg (Kd.R_ne HO184.out BK168.out (by decide))); have n1_ := Aside0.mk (Kd.R_after (ok := (fun k_ => some k_ ≠ (.slice Ao25 t179.length co25 : Value).ownBlock)) (by (with_reducible repeat (first | apply Kd.R_alloc | apply Kd.R_drewN | apply Kd.R_drew)); exact HO175.out) hg hat); have n2_ := Aside0.mk (Kd.R_after (ok := (fun k_ => some k_ ≠ (.slice Ao21 y173.length co21 : Value).ownBlock)) (by (with_reducible repeat (first | apply Kd.R_alloc | apply Kd.R_drewN | apply Kd.R_drew)); exact HO181.out) hg hat); have n3_ := Aside0.mk (hb); have n4_ := Aside0.mk (ho); clear BK168; clear HO175; clear HO181; clear HB; clear HO184; have BK168 := n0_; have HO175 := n1_; have HO181 := n2_; have HB := n3_; have HO187 := n4_; clear n0_ n1_ n2_ n3_ n4_; clear ho hb hg hat; obtain ⟨Ao28, co28, eo28⟩ := Kd.R_slice HO187.out; subst eo28) | ((with_reducible refine gate_callee (f := 23) rfl ?_); refine goesL_ (some 29) rfl rfl Try.func23 (by kernel_rfl) rfl #[.slice Ao28 y185.length co28] rfl (by (try simp only [List.map_toArray, List.map_cons, List.map_nil]); first | done | rfl | (simp only [List.length_drop, List.length_take]; rfl)) ?_; (with_reducible refine (governorref02_Of.calls _ _ y185 t188 _ ?side1 ?side2 A9.out).mono ?_); (case side1 => repeat (first | exact (Kd.R_reads' HO187.out).2.2 | (with_reducible refine Kd.C_alloc ?_ _) | (with_reducible refine Kd.C_drewN ?_ _) | (with_reducible refine Kd.C_drew ?_))); (case side2 => exact (Kd.R_reads' HO187.out).2.1); rintro e w' ⟨rfl, ⟨nd, rfl⟩⟩; refine ⟨_, rfl, ?_⟩) | ((with_reducible refine gate_callee (f := 27) rfl ?_); refine goesL_ (some 31) rfl rfl Try.func27 (by kernel_rfl) rfl #[.int .u64 (IntKind.u64.wrap (t188)), .int .i64 4] rfl (by (try simp only [List.map_toArray, List.map_cons, List.map_nil]); first | done | rfl | (simp only [List.length_drop, List.length_take]; rfl)) ?_; (with_reducible refine (governorref03_Number.calls (IntKind.u64.wrap (t188)) 4 t189 _ A10.out).mono ?_); rintro e w29 ⟨v190, rfl, ho0, hb⟩; refine ⟨_, rfl, ?_⟩; have n0_ := Aside0.mk (Kd.R_elder' (by (with_reducible repeat (first | apply Kd.R_alloc | apply Kd.R_drewN | apply Kd.R_drew)); exact HO175.out) (Kd.R_base ho0) hb); have n1_ := Aside0.mk (Kd.R_elder' (by (with_reducible repeat (first | apply Kd.R_alloc | apply Kd.R_drewN | apply Kd.R_drew)); exact HO181.out) (Kd.R_base ho0) hb); have n2_ := Aside0.mk (Kd.R_elder' (by (with_reducible repeat (first | apply Kd.R_alloc | apply Kd.R_drewN | apply Kd.R_drew)); exact HO187.out) (Kd.R_base ho0) hb); have n3_ := Aside0.mk (Kd.R_lower (Kd.R_new' (Kd.R_new' (Kd.R_new' ho0 (Kd.R_lt (by (with_reducible repeat (first | apply Kd.R_alloc | apply Kd.R_drewN | apply Kd.R_drew)); exact HO175.out))) (Kd.R_lt (by (with_reducible repeat (first | apply Kd.R_alloc | apply Kd.R_drewN | apply Kd.R_drew)); exact HO181.out))) (Kd.R_lt (by (with_reducible repeat (first | apply Kd.R_alloc | apply Kd.R_drewN | apply Kd.R_drew)); exact HO187.out))) (below_size (by repeat (first | (with_reducible first | exact HB.out | apply below_alloc | apply pw_below_drewN | apply below_drew1 | refine below_set ?_ GE168.out) | exact HB.out)))); have n4_ := Aside0.mk (blk_below (g := gb168) (o := .cells #[.int .i64 a0_0, .int .i64 a0_1, .slice A0_2 l0_2.length c0_2] 24 (0, 0)) (by (with_reducible repeat (first | refine blk_drewN ?_ _ | refine blk_drew ?_ | refine blk_alloc ?_ _)); exact BK168.out) hb); have n5_ := Aside0.mk (below_step (by repeat (first | (with_reducible first | exact HB.out | apply below_alloc | apply pw_below_drewN | apply below_drew1 | refine below_set ?_ GE168.out) | exact HB.out)) hb); clear HO175; clear HO181; clear HO187; clear BK168; clear HB; have HO175 := n0_; have HO181 := n1_; have HO187 := n2_; have HO191 := n3_; have BK168 := n4_; have HB := n5_; clear n0_ n1_ n2_ n3_ n4_ n5_; (try clear hb); (try clear hb2); (try clear hk); (try clear hi); (try clear ho0); obtain ⟨Ao31, co31, eo31⟩ := Kd.R_slice HO191.out; subst eo31) | ((with_reducible refine gate_builtin (b := .append) (xs := #[.tmp 27, .tmp 31]) rfl ?_); at_builtin; refine Kd.R_append_rows (Kd.int .u8) (w0 := w) w.heap.size rfl (.tmp 27) (.tmp 31) 22 5 (.int .u8 0) 1 rfl Try.underlying22 info5 rfl (by decide) (by omega) (.slice Ao28 y185.length co28) y185 t189 _ _ _ (fun k_ => some k_ ≠ (.slice Ao21 y173.length co21 : Value).ownBlock ∧ some k_ ≠ (.slice Ao25 t179.length co25 : Value).ownBlock ∧ some k_ ≠ (.slice Ao31 t189.length co31 : Value).ownBlock) (fun _ => False) rfl rfl ?aO ?aR (fun _ _ h => h) (fun _ h => h.elim) ?aF ?aB ?aS ?aL ?_; (case aR => repeat (first | exact (Kd.R_reads' HO191.out).2.2 | (with_reducible refine Kd.C_alloc ?_ _) | (with_reducible refine Kd.C_drewN ?_ _) | (with_reducible refine Kd.C_drew ?_))); (case aB => exact (by repeat (first | (with_reducible first | exact HB.out | apply below_alloc | apply pw_below_drewN | apply below_drew1 | refine below_set ?_ GE168.out) | exact HB.out))); (case aF => exact (fun k_ hk => ⟨Kd.fresh' (Kd.R_lt (by (with_reducible repeat (first | apply Kd.R_alloc | apply Kd.R_drewN | apply Kd.R_drew)); exact HO175.out)) k_ hk, Kd.fresh' (Kd.R_lt (by (with_reducible repeat (first | apply Kd.R_alloc | apply Kd.R_drewN | apply Kd.R_drew)); exact HO181.out)) k_ hk, Kd.fresh' (Kd.R_lt (by (with_reducible repeat (first | apply Kd.R_alloc | apply Kd.R_drewN | apply Kd.R_drew)); exact HO191.out)) k_ hk⟩)); (case aO => exact (by (with_reducible repeat (first | apply Kd.R_alloc | apply Kd.R_drewN | apply Kd.R_drew)); exact Kd.R_mono HO187.out (fun _ hk => ⟨hk.1.1, ⟨hk.1.2, hk.2⟩⟩))); (case aS => exact (below_size (by repeat (first | (with_reducible first | exact HB.out | apply below_alloc | apply pw_below_drewN | apply below_drew1 | refine below_set ?_ GE168.out) | exact HB.out)))); (case aL => have := LMc11.out; omega); intro v193 w30 ho hb hg hat; rw [← Ny192.out] at ho; have n0_ := Aside0.mk (blk_grown (g := gb168) (o := .cells #[.int .i64 a0_0, .int .i64 a0_1, .slice A0_2 l0_2.length c0_2] 24 (0, 0)) (by (with_reducible repeat (first | refine blk_drewN ?_ _ | refine blk_drew ?_ | refine blk_alloc ?_ _)); exact BK168.out) hg (Kd.R_ne HO187.out BK168.out (by decide))); have n1_ := Aside0.mk (Kd.R_after (ok := (fun k_ => some k_ ≠ (.slice Ao25 t179.length co25 : Value).ownBlock ∧ some k_ ≠ (.slice Ao31 t189.length co31 : Value).ownBlock)) (by (with_reducible repeat (first | apply Kd.R_alloc | apply Kd.R_drewN | apply Kd.R_drew)); exact Kd.R_mono HO175.out (fun _ hk => ⟨⟨hk.1.1, hk.2⟩, hk.1.2⟩)) hg hat); have n2_ := Aside0.mk (Kd.R_after (ok := (fun k_ => some k_ ≠ (.slice Ao21 y173.length co21 : Value).ownBlock ∧ some k_ ≠ (.slice Ao31 t189.length co31 : Value).ownBlock)) (by (with_reducible repeat (first | apply Kd.R_alloc | apply Kd.R_drewN | apply Kd.R_drew)); exact Kd.R_mono HO181.out (fun _ hk => ⟨⟨hk.1.1, hk.2⟩, hk.1.2⟩)) hg hat); have n3_ := Aside0.mk (Kd.R_after (ok := (fun k_ => some k_ ≠ (.slice Ao21 y173.length co21 : Value).ownBlock ∧ some k_ ≠ (.slice Ao25 t179.length co25 : Value).ownBlock)) (by (with_reducible repeat (first | apply Kd.R_alloc | apply Kd.R_drewN | apply Kd.R_drew)); exact Kd.R_mono HO191.out (fun _ hk => ⟨⟨hk.1.1.2, hk.1.2⟩, hk.2⟩)) hg hat); have n4_ := Aside0.mk (hb); have n5_ := Aside0.mk (ho); clear BK168; clear HO175; clear HO181; clear HO191; clear HB; clear HO187; have BK168 := n0_; have HO175 := n1_; have HO181 := n2_; have HO191 := n3_; have HB := n4_; have HO194 := n5_; clear n0_ n1_ n2_ n3_ n4_ n5_; clear ho hb hg hat))
            go_ret
            exact ⟨_, by first | rfl | (simp [errW_none, errW_some] <;> rfl) | (simp [*, errW_none, errW_some] <;> rfl), by (with_reducible repeat (first | apply Kd.R_alloc | apply Kd.R_drewN | apply Kd.R_drew)); exact Kd.R_mono HO194.out (fun _ hk => trivial), by repeat (first | (with_reducible first | exact HB.out | apply below_alloc | apply pw_below_drewN | apply below_drew1 | refine below_set ?_ GE168.out) | exact HB.out)⟩
          · rw [if_neg c11] at H
            exact absurd H (by simp)
        · rw [if_neg c8] at H
          exact absurd H (by simp)
      · rw [if_neg c7] at H
        exact absurd H (by simp)
    · rw [if_neg c5] at H
      exact absurd H (by simp)
  · replace c3 := Bool.eq_false_iff.mpr c3
    subst c3
    have H1 : (some ([] : List Int)) = some r := by rw [if_neg (show ¬ (false = true) by decide)] at H; exact H
    clear H
    have H := H1
    clear H1
    obtain rfl := Option.some.inj H
    go_enter Try.func17, Try.ntmps17
    go_wp2_with (first | ((with_reducible refine gate_dst (N := 1) rfl ?_); refine box_event ?hg (N := 1) ?hd (cs := #[.int .i64 a0_0, .int .i64 a0_1, .slice A0_2 l0_2.length c0_2]) (t := 24) ?hr ?_; (case hd => rfl); (case hg => rfl); (case hr => first | (go_simp; done) | (go_simp; rfl)); intro gb168 hg w32 hbox hb; have n0_ := Aside0.mk (below_step (by repeat (first | (with_reducible first | exact HB.out | apply below_alloc | apply pw_below_drewN | apply below_drew1) | exact HB.out)) hb); have n1_ := Aside0.mk (hbox); have n2_ := Aside0.mk ((by rw [hg]; exact (below_size (by repeat (first | (with_reducible first | exact HB.out | apply below_alloc | apply pw_below_drewN | apply below_drew1) | exact HB.out))) : w.heap.size ≤ gb168)); have n3_ := Aside0.mk ((by rw [hg]; exact (below_size (by repeat (first | (with_reducible first | exact HB.out | apply below_alloc | apply pw_below_drewN | apply below_drew1) | exact HB.out))) : w.heap.size ≤ gb168)); clear HB; have HB := n0_; have BK168 := n1_; have GW168 := n2_; have GE168 := n3_; clear n0_ n1_ n2_ n3_; clear hb hbox hg; have hcz33_0 : w32.cell? ⟨gb168, 0, none⟩ = some (.int .i64 a0_0) := (blk_cell BK168.out 0).trans rfl; have hcz33_1 : w32.cell? ⟨gb168, 1, none⟩ = some (.int .i64 a0_1) := (blk_cell BK168.out 1).trans rfl; have hcz33_2 : w32.cell? ⟨gb168, 2, none⟩ = some (.slice A0_2 l0_2.length c0_2) := (blk_cell BK168.out 2).trans rfl; have hfz33_0 := blk_frozen BK168.out 0; have hfz33_1 := blk_frozen BK168.out 1; have hfz33_2 := blk_frozen BK168.out 2) | ((with_reducible refine gate_callee (f := 15) rfl ?_); refine goesL_ (some 5) rfl rfl Try.func15 (by kernel_rfl) rfl #[.agg #[.int .i64 a0_0, .int .i64 a0_1, .slice A0_2 l0_2.length c0_2]] rfl (by (try simp only [List.map_toArray, List.map_cons, List.map_nil]); first | done | rfl | (simp only [List.length_drop, List.length_take]; rfl)) ?_; (with_reducible refine (governorref03_Right.calls a0_0 a0_1 _ _ l0_2 false _ ?side1 ?side2 A2.out).mono ?_); (case side1 => repeat (first | exact (Kd.C_below HR0_2.out HB.out) | (with_reducible refine Kd.C_alloc ?_ _) | (with_reducible refine Kd.C_drewN ?_ _) | (with_reducible refine Kd.C_drew ?_))); (case side2 => exact HC0_2.out); rintro e w34 ⟨rfl, hb⟩; refine ⟨_, rfl, ?_⟩; have n0_ := Aside0.mk (blk_below (g := gb168) (o := .cells #[.int .i64 a0_0, .int .i64 a0_1, .slice A0_2 l0_2.length c0_2] 24 (0, 0)) (by (with_reducible repeat (first | refine blk_drewN ?_ _ | refine blk_drew ?_ | refine blk_alloc ?_ _)); exact BK168.out) hb); have n1_ := Aside0.mk (below_step (by repeat (first | (with_reducible first | exact HB.out | apply below_alloc | apply pw_below_drewN | apply below_drew1 | refine below_set ?_ GE168.out) | exact HB.out)) hb); clear BK168; clear HB; have BK168 := n0_; have HB := n1_; clear n0_ n1_; (try clear hb); (try clear hb2); (try clear hk); (try clear hi)))
    go_ret
    exact ⟨_, by first | rfl | (simp [errW_none, errW_some] <;> rfl) | (simp [*, errW_none, errW_some] <;> rfl), by first | exact Kd.R_nil _ _ _ _ _ | exact Kd.N_nil _ _ _ _ _ | exact Kd.V_nil _ _ _ _ _ | exact Kd.Q_nil _ _ _ _ _ | exact Kd.S_nil _ _ _ _ _, by repeat (first | (with_reducible first | exact HB.out | apply below_alloc | apply pw_below_drewN | apply below_drew1 | refine below_set ?_ GE168.out) | exact HB.out)⟩

end Go.Proofs.Ytgfpkgbkbempkaa.Print
