/- Several texts of this claim, one behind the other. -/
import Derived.Test.YtldohapdhljoaaaBg
import Derived.Test.YtldohapdhljoaaaBe
import Derived.Deep.WholeRow
import Derived.Test.YtldohapdhljoaaaBi
import Derived.Lib.SlBytesConst
namespace Go.Proofs.Ytldohapdhljoaaa.Wire
open Go.RowKit Go.Proofs.YtldohapdhljoaaaW.PrintWords Go.Proofs.Ytldohapdhljoaaa.Obj Go.Proofs.Ytldohapdhljoaaa.Print
set_option linter.unusedVariables false
set_option linter.unusedSimpArgs false
set_option maxRecDepth 100000
variable {TY : TypeId}
theorem na_textR (g : Nat) (W : World) : (nilAhead (Try.prog.types.size + Made.depth) 54 (.agg #[.pointer (some ⟨g, 0, none⟩)]) "governor/event.text").run Try.prog W = .ok (some false) W := by kernel_rfl
theorem nc_textR {ρ : Operand → Value} {o : Oper} {x : Operand} (g : Nat) (W : World) (ho : o.op = .nilCheck x) (hx : ρ x = .func (.method "governor/event.text") #[.iface 54 (.agg #[.pointer (some ⟨g, 0, none⟩)])] #[]) :
    (execOp ρ o).run Try.prog W = .ok (.value (.func (.method "governor/event.text") #[.iface 54 (.agg #[.pointer (some ⟨g, 0, none⟩)])] #[])) W := by
  unfold execOp
  simp only [ho, hx]
  have h := na_textR g W
  have hp : (program).run Try.prog W = .ok Try.prog W := rfl
  simp only [List.getElem?_toArray, List.getElem?_cons_zero]
  simp only [Sem.run_bind, hp, Result.andThen_ok, h]
  rfl
theorem na_textW (g : Nat) (W : World) : (nilAhead (Try.prog.types.size + Made.depth) 75 (.pointer (some ⟨g, 0, none⟩)) "governor/event.text").run Try.prog W = .ok (some false) W := by kernel_rfl
theorem nc_textW {ρ : Operand → Value} {o : Oper} {x : Operand} (g : Nat) (W : World) (ho : o.op = .nilCheck x) (hx : ρ x = .func (.method "governor/event.text") #[.iface 75 (.pointer (some ⟨g, 0, none⟩))] #[]) :
    (execOp ρ o).run Try.prog W = .ok (.value (.func (.method "governor/event.text") #[.iface 75 (.pointer (some ⟨g, 0, none⟩))] #[])) W := by
  unfold execOp
  simp only [ho, hx]
  have h := na_textW g W
  have hp : (program).run Try.prog W = .ok Try.prog W := rfl
  simp only [List.getElem?_toArray, List.getElem?_cons_zero]
  simp only [Sem.run_bind, hp, Result.andThen_ok, h]
  rfl
set_option maxHeartbeats 4000000 in
theorem rd_text {w0 w : World} {As : List Asr} (g b o : Nat) (T : TypeId) (s : RS) (m : Int) (v0 : Value) (h : St w0 (RT g b T s As) w) (hok : s.ok) (hl : s.l.length ≤ 140737488351232) (hv : s.cs[o]? = some v0) (hm : 0 ≤ m ∧ m ≤ 10000) :
    Calls Try.prog 81 #[.agg #[.pointer (some ⟨g, 0, none⟩)], .pointer (some ⟨b, o, none⟩), .int .i64 m] w fun e w' => e = .returned (.tuple #[]) ∧ ∃ A c, St w0 (RT g b T ⟨(rText m s.l s.e).2.1, (rText m s.l s.e).2.2, s.cs.setIfInBounds o (.slice A (rText m s.l s.e).1.length c)⟩ (As ++ [byA (.slice A (rText m s.l s.e).1.length c) (rText m s.l s.e).1])) w' := by
  have H := Aside0.mk h
  clear h
  go_enter Try.func81, Try.ntmps81
  go_upto_region 1 with fail
  have h1 := H.out.push (below_alloc (Below.refl _ _) (.cells #[.pointer (some ⟨g, 0, none⟩)] 54)) (boxA_new w 54 #[.pointer (some ⟨g, 0, none⟩)])
  rw [rt_push] at h1
  have cx : (w.alloc (.cells #[.pointer (some ⟨g, 0, none⟩)] 54)).cell? ⟨w.heap.size, 0, none⟩ = some (.pointer (some ⟨g, 0, none⟩)) := pick_cellE (heap_alloc_new w _) 0 rfl
  generalize w.heap.size = gx at *
  generalize w.alloc (.cells #[.pointer (some ⟨g, 0, none⟩)] 54) = w1 at *
  have H1 := Aside0.mk h1
  clear h1 H
  go_wp2_with fail
  refine (H1.out.rtext 0 g m s.l s.e rfl hl hok (by omega) (by omega)).mono ?_
  rintro e w2 ⟨v, rfl, h2⟩
  obtain ⟨A, c, rfl, _, _, _⟩ := h2.bytes (RT g b T s (As ++ [boxA 54 gx #[.pointer (some ⟨g, 0, none⟩)]])).length (v := v) (xs := (rText m s.l s.e).1) (by rw [List.getElem?_append_right (by rw [List.length_set]; exact Nat.le_refl _), List.length_set, Nat.sub_self]; rfl)
  have h3 : St w0 (RT g b T ⟨(rText m s.l s.e).2.1, (rText m s.l s.e).2.2, s.cs⟩ (As ++ [byA (.slice A (rText m s.l s.e).1.length c) (rText m s.l s.e).1])) w2 := by
    have h4 : St w0 ((RT g b T ⟨(rText m s.l s.e).2.1, (rText m s.l s.e).2.2, s.cs⟩ As) ++ boxA 54 gx #[.pointer (some ⟨g, 0, none⟩)] :: [byA (.slice A (rText m s.l s.e).1.length c) (rText m s.l s.e).1]) w2 := by
      have h5 := h2
      simp only [RT, List.set_cons_zero, List.cons_append, List.append_assoc, List.nil_append] at h5 ⊢
      exact h5
    exact st_mid h4
  have cb := pick_cellE (rt_box h3) o hv
  have cf := nf_box (off := o) (rt_box h3)
  have H3 : Aside0 (St w0 (RT g b T ⟨(rText m s.l s.e).2.1, (rText m s.l s.e).2.2, s.cs.setIfInBounds o (.slice A (rText m s.l s.e).1.length c)⟩ (As ++ [byA (.slice A (rText m s.l s.e).1.length c) (rText m s.l s.e).1])) (w2.setCell ⟨b, o, none⟩ (.slice A (rText m s.l s.e).1.length c))) := ⟨st_put h3 1 rfl o _⟩
  clear h2 h3 H1 cx
  go_wp2_with fail
  go_end0
  exact ⟨rfl, A, c, H3.out⟩
set_option maxHeartbeats 4000000 in
theorem wr_text {w0 w : World} {As : List Asr} (h : St w0 As w) (i g : Nat) (xs : List Int) (hi : As[i]? = some (wrA TY g xs)) (a : Addr) (A : Option Addr) (c : Nat) (l : List Int) (m : Int) (ha : w.cell? a = some (.slice A l.length c)) (hR : ReadsInt w0 .u8 A l.length l) (hl : xs.length + l.length ≤ 999999990) :
    Calls Try.prog 93 #[.pointer (some ⟨g, 0, none⟩), .pointer (some a), .int .i64 m] w fun e w' => e = .returned (.tuple #[]) ∧ St w0 (As.set i (wrA TY g ((xs ++ vb (zig l.length)) ++ l))) w' := by
  have H := Aside0.mk h
  have HR := Aside0.mk hR
  clear h hR
  go_enter Try.func93, Try.ntmps93
  go_upto_region 0 with fail
  go_still_tail 6, (by kernel_rfl)
  change wpList _ _ _ _ _ w.drew
  have H1 := Aside0.mk (H.out.below (below_drew (Below.refl _ _)))
  generalize w.drew = w1 at H1 ⊢
  clear H ha
  go_wp2_with fail
  refine (H1.out.wtext i g xs A c l hi HR.out hl).mono ?_
  rintro e w2 ⟨rfl, h2⟩
  have H2 := Aside0.mk h2
  clear h2
  go_wp2_with fail
  go_end0
  exact ⟨rfl, H2.out⟩
theorem cvE8 {l : List Int} {er : Int} {k : Int} {A8 : Option Addr} {c8 : Nat} : (⟨(rText 1700 l er).2.1, (rText 1700 l er).2.2, (evZ k).setIfInBounds 26 (.slice A8 (rText 1700 l er).1.length c8)⟩ : RS) = ⟨(rText 1700 l er).2.1, (rText 1700 l er).2.2, (evC { ev0 k with body := (rText 1700 l er).1 } none none A8 0 0 c8).toArray⟩ := by
  simp [evZ, evC, ev0, zPol, zCnf]
set_option maxHeartbeats 8000000 in
theorem code8_r {w0 w : World} {As : List Asr} (g b : Nat) (k : Int) (l : List Int) (er : Int) (h : St w0 (RT g b 30 ⟨l, er, evZ k⟩ As) w) (hok : ∀ x ∈ l, 0 ≤ x ∧ x < 256) (hl : l.length ≤ 140737488351232) (hk : k = 8) :
    Calls Try.prog 25 #[(.iface 54 (.agg #[.pointer (some ⟨g, 0, none⟩)])), .pointer (some ⟨b, 0, none⟩)] w fun r w' => r = .returned (.bool true) ∧ ∃ A2 A7 A8 c8, St w0 (EvR g b (getE k l er) A2 A7 A8 c8 As) w' := by
  have hu30 := Try.underlying30
  have H := Aside0.mk h
  have HOK := Aside0.mk (fun q : List Nat => RS.ok_nums (s := ⟨l, er, evZ k⟩) hok q)
  have HIN := Aside0.mk (fun (q : List Nat) (p : Nat) hp => RS.int_nums (s := ⟨l, er, evZ k⟩) hok (evZ_int k l er p hp) q)
  have ck : w.cell? ⟨b, 0, none⟩ = some (.int .i64 k) := pick_cellE (rt_box h) 0 rfl
  have b1 : (k == 1) = false := beq_eq_false_iff_ne.2 (by omega)
  have b2 : (k == 2) = false := beq_eq_false_iff_ne.2 (by omega)
  have b3 : (k == 3) = false := beq_eq_false_iff_ne.2 (by omega)
  have b4 : (k == 4) = false := beq_eq_false_iff_ne.2 (by omega)
  have b5 : (k == 5) = false := beq_eq_false_iff_ne.2 (by omega)
  have b6 : (k == 6) = false := beq_eq_false_iff_ne.2 (by omega)
  have b7 : (k == 7) = false := beq_eq_false_iff_ne.2 (by omega)
  have b8 : (k == 8) = true := beq_iff_eq.2 hk
  have HK := Aside0.mk hk
  clear h hk hok
  go_enter Try.func25, Try.ntmps25
  go_upto_region 19 with fail
  have H1 := Aside0.mk (H.out.below (below_drew (Below.refl _ _)))
  refine wp_region_noPanic ?_
  refine wp_region_held_drew (S := fun _ => True) (by kernel_rfl) trivial (fun hHeld => ?_)
  generalize w.drew = w1 at *
  clear ck
  refine wpAnyH_take (i := 0) (oi := ({ dst := some 73, op := Op.move (Operand.tmp 0), type := 92, pos := "event.go:211", after := #[], guard := none } : Oper)) (v := ?_) rfl (by kernel_rfl) (by kernel_rfl) (by kernel_rfl) (fun _ _ _ h => h) (Or.inl ⟨by rfl, ?hyT0⟩) (by assumption) ?rsT0
  case hyT0 => (intro w8' hSw; (try dsimp only at hSw); go_simp; (first | done | with_reducible rfl))
  (try simp only [Act.put, List.setIfInBounds_toArray, List.set_cons_zero, List.set_cons_succ])
  refine wpAnyH_take (i := 1) (oi := ({ dst := some 74, op := Op.move (Operand.tmp 1), type := 56, pos := "event.go:211", after := #[], guard := none } : Oper)) (v := ?_) rfl (by kernel_rfl) (by kernel_rfl) (by kernel_rfl) (fun _ _ _ h => h) (Or.inl ⟨by rfl, ?hyT1⟩) (by assumption) ?rsT1
  case hyT1 => (intro w8' hSw; (try dsimp only at hSw); go_simp; (first | done | with_reducible rfl))
  (try simp only [Act.put, List.setIfInBounds_toArray, List.set_cons_zero, List.set_cons_succ])
  refine wpAnyH_take (i := 2) (oi := ({ dst := some 75, op := Op.nilCheck (Operand.tmp 74), type := 0, pos := "event.go:211", after := #[{ on := 1, ground := Ground.data }], guard := none } : Oper)) (v := ?_) rfl (by kernel_rfl) (by kernel_rfl) (by kernel_rfl) (fun _ _ _ h => h) (Or.inl ⟨by rfl, ?hyT2⟩) (by assumption) ?rsT2
  case hyT2 => (intro w8' hSw; (try dsimp only at hSw); go_simp; (first | done | with_reducible rfl))
  (try simp only [Act.put, List.setIfInBounds_toArray, List.set_cons_zero, List.set_cons_succ])
  refine wpAnyH_take (i := 3) (oi := ({ dst := some 76, op := Op.fieldAddr 30 (Operand.tmp 75) 8, type := 0, pos := "event.go:211", after := #[{ on := 2, ground := Ground.data }], guard := none } : Oper)) (v := ?_) rfl (by kernel_rfl) (by kernel_rfl) (by kernel_rfl) (fun _ _ _ h => h) (Or.inl ⟨by rfl, ?hyT3⟩) (by assumption) ?rsT3
  case hyT3 => (intro w8' hSw; (try dsimp only at hSw); go_simp; (first | done | with_reducible rfl))
  (try simp only [Act.put, List.setIfInBounds_toArray, List.set_cons_zero, List.set_cons_succ])
  refine wpAnyH_take (i := 4) (oi := ({ dst := some 77, op := Op.makeFunc (Fn.method "governor/event.text") #[Operand.tmp 73] #[], type := 101, pos := "event.go:211", after := #[{ on := 0, ground := Ground.data }], guard := none } : Oper)) (v := ?_) rfl (by kernel_rfl) (by kernel_rfl) (by kernel_rfl) (fun _ _ _ h => h) (Or.inl ⟨by rfl, ?hyT4⟩) (by assumption) ?rsT4
  case hyT4 => (intro w8' hSw; (try dsimp only at hSw); go_simp; (first | done | with_reducible rfl))
  (try simp only [Act.put, List.setIfInBounds_toArray, List.set_cons_zero, List.set_cons_succ])
  refine wpAnyH_take (i := 5) (oi := ({ dst := some 78, op := Op.nilCheck (Operand.tmp 77), type := 101, pos := "event.go:211", after := #[{ on := 4, ground := Ground.data }], guard := none } : Oper)) (v := ?_) rfl (by kernel_rfl) (by kernel_rfl) (by kernel_rfl) (fun _ _ _ h => h) (Or.inl ⟨by rfl, ?hyT5⟩) (by assumption) ?rsT5
  case hyT5 => (intro w8' hSw; (refine nc_textR (x := Operand.tmp 77) g w8' ?_ ?_ <;> rfl))
  (try simp only [Act.put, List.setIfInBounds_toArray, List.set_cons_zero, List.set_cons_succ])
  refine wpAnyH_take (i := 6) (oi := ({ dst := some 79, op := Op.move (Operand.tmp 73), type := 92, pos := "event.go:211", after := #[{ on := 0, ground := Ground.data }, { on := 4, ground := Ground.data }, { on := 5, ground := Ground.data }], guard := none } : Oper)) (v := ?_) rfl (by kernel_rfl) (by kernel_rfl) (by kernel_rfl) (fun _ _ _ h => h) (Or.inl ⟨by rfl, ?hyT6⟩) (by assumption) ?rsT6
  case hyT6 => (intro w8' hSw; (try dsimp only at hSw); go_simp; (first | done | with_reducible rfl))
  (try simp only [Act.put, List.setIfInBounds_toArray, List.set_cons_zero, List.set_cons_succ])
  refine wpAnyH_ready (rs := [7]) (by kernel_rfl) (by simp) ?_
  refine AllReadyH.cons (o := ({ dst := some 80, op := Op.call { callee := Callee.invoke (Operand.tmp 79) "governor/event.text", args := #[Operand.tmp 76, Operand.const (Value.int IntKind.i64 1700)], argTypes := #[102, 3] }, type := 0, pos := "event.go:211", after := #[{ on := 6, ground := Ground.data }, { on := 3, ground := Ground.data }], guard := none } : Oper)) rfl (fun K hK => ?_) AllReadyH.nil
  rw [if_pos (by rfl)]
  go_simp
  refine (rd_text g b 26 30 ⟨l, er, evZ k⟩ 1700 (.slice none 0 0) H1.out (HOK.out []) hl rfl (by omega)).mono ?_
  rintro r_ w2 ⟨rfl, A8, c8, h2⟩
  have H2 := Aside0.mk h2
  clear h2
  go_simp
  refine hK.out _ _ trivial (fun hHeld => ?_)
  clear hK
  (try simp only [Act.put, List.setIfInBounds_toArray, List.set_cons_zero, List.set_cons_succ])
  refine wpAnyH_done (by kernel_rfl) ?_ _
  refine NoPanic.normal ?_
  go_wp2_with fail
  go_ret
  refine ⟨rfl, none, none, A8, c8, ?_⟩
  have hk := HK.out
  have h4 := H2.out
  have e1 : (⟨(rText 1700 l er).2.1, (rText 1700 l er).2.2, (evZ k).setIfInBounds 26 (.slice A8 (rText 1700 l er).1.length c8)⟩ : RS) = _ := cvE8
  (try dsimp only at h4)
  rw [e1] at h4
  unfold getE
  rw [if_neg (by omega), if_neg (by omega), if_neg (by omega), if_neg (by omega), if_neg (by omega), if_neg (by omega), if_pos hk]
  have h5 := ((h4.push (Below.refl _ _) (rowA_nil 46 _ _)).push (Below.refl _ _) (rowA_nil 48 _ _))
  unfold EvR
  dsimp only
  refine st_perm h5 ?_
  simp only [RT, List.cons_append, List.append_assoc, List.nil_append]
  refine List.Perm.cons _ (List.Perm.cons _ (List.Perm.append_left _ ?_))
  exact (List.perm_append_comm (l₁ := [byA _ _]) (l₂ := [rowA 46 none [], rowA 48 none []]))
theorem code_allr {w0 w : World} {As : List Asr} (g b : Nat) (k : Int) (l : List Int) (er : Int) (h : St w0 (RT g b 30 ⟨l, er, evZ k⟩ As) w) (hok : ∀ x ∈ l, 0 ≤ x ∧ x < 256) (hl : l.length ≤ 140737488351232) :
    Calls Try.prog 25 #[(.iface 54 (.agg #[.pointer (some ⟨g, 0, none⟩)])), .pointer (some ⟨b, 0, none⟩)] w fun r w' => r = .returned (.bool (decide (1 ≤ k ∧ k ≤ 8))) ∧ ∃ A2 A7 A8 c8, St w0 (EvR g b (getE k l er) A2 A7 A8 c8 As) w' := by
  by_cases hr : 1 ≤ k ∧ k ≤ 8
  · rw [decide_eq_true hr]
    have : k = 1 ∨ k = 2 ∨ k = 3 ∨ k = 4 ∨ k = 5 ∨ k = 6 ∨ k = 7 ∨ k = 8 := by omega
    rcases this with e | e | e | e | e | e | e | e
    · exact code1_r g b k l er h hok e
    · exact code2_r g b k l er h hok e
    · exact code3_r g b k l er h hok e
    · exact code4_r g b k l er h hok e
    · exact code5_r g b k l er h hok e
    · exact code6_r g b k l er h hok e
    · exact code7_r g b k l er h hok e
    · exact code8_r g b k l er h hok hl e
  · rw [decide_eq_false hr]
    exact code0_r g b k l er h hok (by omega)
set_option maxHeartbeats 8000000 in
theorem code8_w {w0 w : World} {As : List Asr} (i g b : Nat) (e : Ev) (A8 : Option Addr) (c8 : Nat) (xs : List Int) (h : St w0 (As.set i (wrA TY g xs)) w) (hi : i < As.length) (hl : xs.length + e.body.length ≤ 999999990)
    (hst : ∀ ys w', St w0 (As.set i (wrA TY g ys)) w' → w'.cell? ⟨b, 0, none⟩ = some (.int .i64 e.k) ∧ w'.cell? ⟨b, 26, none⟩ = some (.slice A8 e.body.length c8)) (hR : ReadsInt w0 .u8 A8 e.body.length e.body) (hk : e.k = 8) :
    Calls Try.prog 25 #[.iface 75 (.pointer (some ⟨g, 0, none⟩)), .pointer (some ⟨b, 0, none⟩)] w fun r w' => r = .returned (.bool true) ∧ St w0 (As.set i (wrA TY g ((xs ++ vb (zig e.body.length)) ++ e.body))) w' := by
  have hu30 := Try.underlying30
  have HR := Aside0.mk hR
  have HST := Aside0.mk hst
  have H := Aside0.mk h
  have ck := (hst xs w h).1
  have b1 : (e.k == 1) = false := beq_eq_false_iff_ne.2 (by omega)
  have b2 : (e.k == 2) = false := beq_eq_false_iff_ne.2 (by omega)
  have b3 : (e.k == 3) = false := beq_eq_false_iff_ne.2 (by omega)
  have b4 : (e.k == 4) = false := beq_eq_false_iff_ne.2 (by omega)
  have b5 : (e.k == 5) = false := beq_eq_false_iff_ne.2 (by omega)
  have b6 : (e.k == 6) = false := beq_eq_false_iff_ne.2 (by omega)
  have b7 : (e.k == 7) = false := beq_eq_false_iff_ne.2 (by omega)
  have b8 : (e.k == 8) = true := beq_iff_eq.2 hk
  clear h hst hk hR
  go_enter Try.func25, Try.ntmps25
  go_upto_region 19 with fail
  have H1 := Aside0.mk (H.out.below (below_drew (Below.refl _ _)))
  refine wp_region_noPanic ?_
  refine wp_region_held_drew (S := fun _ => True) (by kernel_rfl) trivial (fun hHeld => ?_)
  generalize w.drew = w1 at *
  clear ck
  refine wpAnyH_take (i := 0) (oi := ({ dst := some 73, op := Op.move (Operand.tmp 0), type := 92, pos := "event.go:211", after := #[], guard := none } : Oper)) (v := ?_) rfl (by kernel_rfl) (by kernel_rfl) (by kernel_rfl) (fun _ _ _ h => h) (Or.inl ⟨by rfl, ?hyT0⟩) (by assumption) ?rsT0
  case hyT0 => (intro w8' hSw; (try dsimp only at hSw); go_simp; (first | done | with_reducible rfl))
  (try simp only [Act.put, List.setIfInBounds_toArray, List.set_cons_zero, List.set_cons_succ])
  refine wpAnyH_take (i := 1) (oi := ({ dst := some 74, op := Op.move (Operand.tmp 1), type := 56, pos := "event.go:211", after := #[], guard := none } : Oper)) (v := ?_) rfl (by kernel_rfl) (by kernel_rfl) (by kernel_rfl) (fun _ _ _ h => h) (Or.inl ⟨by rfl, ?hyT1⟩) (by assumption) ?rsT1
  case hyT1 => (intro w8' hSw; (try dsimp only at hSw); go_simp; (first | done | with_reducible rfl))
  (try simp only [Act.put, List.setIfInBounds_toArray, List.set_cons_zero, List.set_cons_succ])
  refine wpAnyH_take (i := 2) (oi := ({ dst := some 75, op := Op.nilCheck (Operand.tmp 74), type := 0, pos := "event.go:211", after := #[{ on := 1, ground := Ground.data }], guard := none } : Oper)) (v := ?_) rfl (by kernel_rfl) (by kernel_rfl) (by kernel_rfl) (fun _ _ _ h => h) (Or.inl ⟨by rfl, ?hyT2⟩) (by assumption) ?rsT2
  case hyT2 => (intro w8' hSw; (try dsimp only at hSw); go_simp; (first | done | with_reducible rfl))
  (try simp only [Act.put, List.setIfInBounds_toArray, List.set_cons_zero, List.set_cons_succ])
  refine wpAnyH_take (i := 3) (oi := ({ dst := some 76, op := Op.fieldAddr 30 (Operand.tmp 75) 8, type := 0, pos := "event.go:211", after := #[{ on := 2, ground := Ground.data }], guard := none } : Oper)) (v := ?_) rfl (by kernel_rfl) (by kernel_rfl) (by kernel_rfl) (fun _ _ _ h => h) (Or.inl ⟨by rfl, ?hyT3⟩) (by assumption) ?rsT3
  case hyT3 => (intro w8' hSw; (try dsimp only at hSw); go_simp; (first | done | with_reducible rfl))
  (try simp only [Act.put, List.setIfInBounds_toArray, List.set_cons_zero, List.set_cons_succ])
  refine wpAnyH_take (i := 4) (oi := ({ dst := some 77, op := Op.makeFunc (Fn.method "governor/event.text") #[Operand.tmp 73] #[], type := 101, pos := "event.go:211", after := #[{ on := 0, ground := Ground.data }], guard := none } : Oper)) (v := ?_) rfl (by kernel_rfl) (by kernel_rfl) (by kernel_rfl) (fun _ _ _ h => h) (Or.inl ⟨by rfl, ?hyT4⟩) (by assumption) ?rsT4
  case hyT4 => (intro w8' hSw; (try dsimp only at hSw); go_simp; (first | done | with_reducible rfl))
  (try simp only [Act.put, List.setIfInBounds_toArray, List.set_cons_zero, List.set_cons_succ])
  refine wpAnyH_take (i := 5) (oi := ({ dst := some 78, op := Op.nilCheck (Operand.tmp 77), type := 101, pos := "event.go:211", after := #[{ on := 4, ground := Ground.data }], guard := none } : Oper)) (v := ?_) rfl (by kernel_rfl) (by kernel_rfl) (by kernel_rfl) (fun _ _ _ h => h) (Or.inl ⟨by rfl, ?hyT5⟩) (by assumption) ?rsT5
  case hyT5 => (intro w8' hSw; (refine nc_textW (x := Operand.tmp 77) g w8' ?_ ?_ <;> rfl))
  (try simp only [Act.put, List.setIfInBounds_toArray, List.set_cons_zero, List.set_cons_succ])
  refine wpAnyH_take (i := 6) (oi := ({ dst := some 79, op := Op.move (Operand.tmp 73), type := 92, pos := "event.go:211", after := #[{ on := 0, ground := Ground.data }, { on := 4, ground := Ground.data }, { on := 5, ground := Ground.data }], guard := none } : Oper)) (v := ?_) rfl (by kernel_rfl) (by kernel_rfl) (by kernel_rfl) (fun _ _ _ h => h) (Or.inl ⟨by rfl, ?hyT6⟩) (by assumption) ?rsT6
  case hyT6 => (intro w8' hSw; (try dsimp only at hSw); go_simp; (first | done | with_reducible rfl))
  (try simp only [Act.put, List.setIfInBounds_toArray, List.set_cons_zero, List.set_cons_succ])
  refine wpAnyH_ready (rs := [7]) (by kernel_rfl) (by simp) ?_
  refine AllReadyH.cons (o := ({ dst := some 80, op := Op.call { callee := Callee.invoke (Operand.tmp 79) "governor/event.text", args := #[Operand.tmp 76, Operand.const (Value.int IntKind.i64 1700)], argTypes := #[102, 3] }, type := 0, pos := "event.go:211", after := #[{ on := 6, ground := Ground.data }, { on := 3, ground := Ground.data }], guard := none } : Oper)) rfl (fun K hK => ?_) AllReadyH.nil
  rw [if_pos (by rfl)]
  go_simp
  refine (wr_text H1.out i g xs (by rw [List.getElem?_set_self hi]) ⟨b, 26, none⟩ A8 c8 e.body 1700 (HST.out _ _ H1.out).2 HR.out hl).mono ?_
  rintro r_ w2 ⟨rfl, h2⟩
  rw [List.set_set] at h2
  have H2 := Aside0.mk h2
  clear h2
  go_simp
  refine hK.out _ _ trivial (fun hHeld => ?_)
  clear hK
  (try simp only [Act.put, List.setIfInBounds_toArray, List.set_cons_zero, List.set_cons_succ])
  refine wpAnyH_done (by kernel_rfl) ?_ _
  refine NoPanic.normal ?_
  go_wp2_with fail
  go_ret
  exact ⟨rfl, H2.out⟩
end Go.Proofs.Ytldohapdhljoaaa.Wire
namespace Go.Proofs.Ytldohapdhljoaaa.Wire
open Go.RowKit Go.Proofs.YtldohapdhljoaaaW.PrintWords Go.Proofs.Ytldohapdhljoaaa.Obj Go.Proofs.Ytldohapdhljoaaa.Print
set_option linter.unusedVariables false
set_option linter.unusedSimpArgs false
set_option maxRecDepth 100000
variable {TY : TypeId}
theorem pick_keep {w w' : World} (hb : Below w.heap.size w w') {a : Addr} {v : Value} (h : w.cell? a = some v) : w'.cell? a = some v := (hb.cell (World.block_lt_of_cell? w a h)).trans h
structure NF (e : Ev) (w : World) (ad2 ad7 : Addr) : Prop where
  bs : ∀ j, j < e.pol.bs.length → w.frozen? ⟨(ad2.add (j * 2)).block, (ad2.add (j * 2)).off + 1, none⟩ = false
  ss : ∀ j, j < e.pol.ss.length → w.frozen? ⟨(ad7.add (j * 2)).block, (ad7.add (j * 2)).off + 1, none⟩ = false
theorem evMem_of {e : Ev} {w0 w' : World} {b : Nat} {A2 A7 A8 : Option Addr} {ad2 ad7 : Addr} {c2 c7 c8 : Nat} (hE : EvAt e w0 A2 A7 A8 c2 c7 c8) (hb : Below w0.heap.size w0 w') (hf : NF e w0 ad2 ad7) (h2 : 0 < e.pol.bs.length → A2 = some ad2) (h7 : 0 < e.pol.ss.length → A7 = some ad7)
    (hbox : w'.heap[b]? = some (.cells (evC e A2 A7 A8 c2 c7 c8).toArray 30 (0, 0))) : EvMem e b A2 A7 ad2 ad7 c2 c7 w' := by
  refine ⟨evC_at hbox 0 rfl, evC_at hbox 1 rfl, evC_at hbox 2 rfl, evC_at hbox 3 rfl, evC_at hbox 4 rfl, evC_at hbox 5 rfl, not_frozen hbox 4, not_frozen hbox 5,
    ⟨evC_at hbox 6 rfl, evC_at hbox 7 rfl, evC_at hbox 8 rfl, evC_at hbox 9 rfl, evC_at hbox 10 rfl, evC_at hbox 11 rfl, evC_at hbox 12 rfl, evC_at hbox 13 rfl, not_frozen hbox 6, fun j hj => ?_, fun j hj => ?_⟩,
    ⟨evC_at hbox 14 rfl, evC_at hbox 15 rfl, evC_at hbox 16 rfl, evC_at hbox 17 rfl, evC_at hbox 18 rfl, evC_at hbox 19 rfl, evC_at hbox 20 rfl, evC_at hbox 21 rfl, evC_at hbox 22 rfl, evC_at hbox 23 rfl, evC_at hbox 24 rfl, evC_at hbox 25 rfl,
      not_frozen hbox 14, not_frozen hbox 15, not_frozen hbox 16, not_frozen hbox 19, not_frozen hbox 21, not_frozen hbox 23, not_frozen hbox 24, not_frozen hbox 25⟩⟩
  · rw [List.length_map] at hj
    obtain ⟨ad, hA, q1, q2⟩ := at_T46 hE.pol.r2 (j : Int) (by omega) (by omega)
    have := h2 (by omega)
    rw [hA] at this
    injection this with this
    subst this
    rw [Int.toNat_natCast] at q1 q2
    have hrd : rd_T46 e.pol.bs j = e.pol.bs[j]'hj := by unfold rd_T46; rw [Int.toNat_natCast, List.getD_eq_getElem?_getD, List.getElem?_eq_getElem hj]; rfl
    rw [hrd] at q1 q2
    simp only [List.getElem_map, prB]
    exact ⟨pick_keep hb q1, pick_keep hb q2, (hb.frozen (World.block_lt_of_cell? w0 _ q2)).trans (hf.bs j hj)⟩
  · rw [List.length_map] at hj
    obtain ⟨ad, hA, q1, q2⟩ := at_T48 hE.pol.r7 (j : Int) (by omega) (by omega)
    have := h7 (by omega)
    rw [hA] at this
    injection this with this
    subst this
    rw [Int.toNat_natCast] at q1 q2
    have hrd : rd_T48 e.pol.ss j = e.pol.ss[j]'hj := by unfold rd_T48; rw [Int.toNat_natCast, List.getD_eq_getElem?_getD, List.getElem?_eq_getElem hj]; rfl
    rw [hrd] at q1 q2
    simp only [List.getElem_map, prS]
    exact ⟨pick_keep hb q1, pick_keep hb q2, (hb.frozen (World.block_lt_of_cell? w0 _ q2)).trans (hf.ss j hj)⟩
def encE (xs : List Int) (e : Ev) : List Int :=
  if e.k = 1 then xs ++ (vb (zig e.u) ++ vb (zig e.dm)) else if e.k = 2 then xs ++ vb (zig e.T) else if e.k = 3 then encP (xs ++ vb (zig e.id)) e.pol else if e.k = 4 then encC xs e.c
  else if e.k = 5 then (xs ++ vb (zig e.T)) ++ vb (zig e.n) else if e.k = 6 then xs ++ vb (zig e.id) else if e.k = 7 then xs ++ vb (zig e.id) else if e.k = 8 then (xs ++ vb (zig e.body.length)) ++ e.body else xs
def knownE (e : Ev) : Bool := decide (1 ≤ e.k ∧ e.k ≤ 8)
theorem code_all {w0 w : World} {As : List Asr} (i g b : Nat) (e : Ev) (A2 A7 : Option Addr) (ad2 ad7 : Addr) (c2 c7 : Nat) (xs : List Int) (h : St w0 (As.set i (wrA TY g xs)) w) (hi : i < As.length) (hl : xs.length + 20 * e.pol.bs.length + 20 * e.pol.ss.length + 400 ≤ 1000000000)
    (hst : ∀ ys w', St w0 (As.set i (wrA TY g ys)) w' → EvMem e b A2 A7 ad2 ad7 c2 c7 w') (hx : EvIn e) (h2 : 0 < e.pol.bs.length → A2 = some ad2) (h7 : 0 < e.pol.ss.length → A7 = some ad7) (A8 : Option Addr) (c8 : Nat) (hst8 : ∀ ys w', St w0 (As.set i (wrA TY g ys)) w' → w'.cell? ⟨b, 26, none⟩ = some (.slice A8 e.body.length c8)) (hR : ReadsInt w0 .u8 A8 e.body.length e.body) (hl8 : xs.length + e.body.length ≤ 999999990) :
    Calls Try.prog 25 #[.iface 75 (.pointer (some ⟨g, 0, none⟩)), .pointer (some ⟨b, 0, none⟩)] w fun r w' => r = .returned (.bool (knownE e)) ∧ St w0 (As.set i (wrA TY g (encE xs e))) w' := by
  unfold encE
  have hkn : 1 ≤ e.k ∧ e.k ≤ 8 → knownE e = true := fun h => decide_eq_true h
  by_cases k1 : e.k = 1
  · rw [if_pos k1, hkn (by omega)]; exact code1_w i g b e A2 A7 ad2 ad7 c2 c7 xs h hi hl hst hx h2 h7 k1
  rw [if_neg k1]
  by_cases k2 : e.k = 2
  · rw [if_pos k2, hkn (by omega)]; exact code2_w i g b e A2 A7 ad2 ad7 c2 c7 xs h hi hl hst hx h2 h7 k2
  rw [if_neg k2]
  by_cases k3 : e.k = 3
  · rw [if_pos k3, hkn (by omega)]; exact code3_w i g b e A2 A7 ad2 ad7 c2 c7 xs h hi hl hst hx h2 h7 k3
  rw [if_neg k3]
  by_cases k4 : e.k = 4
  · rw [if_pos k4, hkn (by omega)]; exact code4_w i g b e A2 A7 ad2 ad7 c2 c7 xs h hi hl hst hx h2 h7 k4
  rw [if_neg k4]
  by_cases k5 : e.k = 5
  · rw [if_pos k5, hkn (by omega)]; exact code5_w i g b e A2 A7 ad2 ad7 c2 c7 xs h hi hl hst hx h2 h7 k5
  rw [if_neg k5]
  by_cases k6 : e.k = 6
  · rw [if_pos k6, hkn (by omega)]; exact code6_w i g b e A2 A7 ad2 ad7 c2 c7 xs h hi hl hst hx h2 h7 k6
  rw [if_neg k6]
  by_cases k7 : e.k = 7
  · rw [if_pos k7, hkn (by omega)]; exact code7_w i g b e A2 A7 ad2 ad7 c2 c7 xs h hi hl hst hx h2 h7 k7
  rw [if_neg k7]
  by_cases h8 : e.k = 8
  · rw [if_pos h8, hkn (by omega)]; exact code8_w i g b e A8 c8 xs h hi hl8 (fun ys w' hS => ⟨(hst ys w' hS).k, hst8 ys w' hS⟩) hR h8
  rw [if_neg h8, show knownE e = false from decide_eq_false (by omega)]
  exact code0_w i g b e A2 A7 ad2 ad7 c2 c7 xs h hi hl hst hx h2 h7 ⟨k1, k2, k3, k4, k5, k6, k7, h8⟩
theorem box_at0 {w0 w : World} {T : TypeId} {g : Nat} {cs : Array Value} {B : Asr} (h : St w0 [boxA T g cs, B] w) : w.heap[g]? = some (.cells cs T (0, 0)) := by
  obtain ⟨S, _, ⟨h1, _⟩, _⟩ := h.at_ 0 (A := boxA T g cs) rfl
  exact h1
theorem encP_len (xs : List Int) (x : Pol) : (encP xs x).length ≤ xs.length + 20 * x.bs.length + 20 * x.ss.length + 80 := by
  unfold encP
  have v1 := vb_len (zig x.k); have v2 := vb_len (zig x.t); have v3 := vb_len (zig ((x.bs.map prB).length : Int)); have v4 := encL_len (x.bs.map prB); have v5 := vb_len (zig x.p); have v6 := vb_len (zig x.i); have v7 := vb_len (zig x.d); have v8 := vb_len (zig x.per); have v9 := vb_len (zig ((x.ss.map prS).length : Int)); have v10 := encL_len (x.ss.map prS)
  simp only [List.length_append, List.length_map] at *
  omega
theorem encC_len (xs : List Int) (c : Cnf) : (encC xs c).length ≤ xs.length + 120 := by
  unfold encC
  have v0 := vb_len (zig c.mi); have v1 := vb_len (zig c.ma); have v2 := vb_len (zig c.ra); have v3 := vb_len (zig c.st); have v4 := vb_len (zig c.ca); have v5 := vb_len (zig c.de); have v6 := vb_len (zig c.sl); have v7 := vb_len (zig c.wi); have v8 := vb_len (zig c.mg); have v9 := vb_len (zig c.ce); have v10 := vb_len (zig c.pr); have v11 := vb_len (zig c.br)
  simp only [List.length_append] at *
  omega
theorem encE_len (e : Ev) : (encE [] e).length ≤ 20 * e.pol.bs.length + 20 * e.pol.ss.length + e.body.length + 200 := by
  have v0 := vb_len (zig (e.body.length : Int))
  have v1 := vb_len (zig e.u); have v2 := vb_len (zig e.dm); have v3 := vb_len (zig e.T); have v4 := vb_len (zig e.id); have v5 := vb_len (zig e.n)
  have v6 := encP_len ([] ++ vb (zig e.id)) e.pol
  have v7 := encC_len [] e.c
  unfold encE
  repeat' split
  all_goals (simp only [List.length_append, List.length_nil] at *; omega)
def putE (e : Ev) : List Int := if rightF e = true then (if (encE [] e).length ≤ 1800 then encE [] e else []) else []
set_option maxHeartbeats 8000000 in
theorem put_calls (e : Ev) (W : World) (A2 A7 A8 : Option Addr) (ad2 ad7 : Addr) (c2 c7 c8 : Nat) (h : EvAt e W A2 A7 A8 c2 c7 c8) (hf : NF e W ad2 ad7) (hx : EvIn e) (h2 : 0 < e.pol.bs.length → A2 = some ad2) (h7 : 0 < e.pol.ss.length → A7 = some ad7) (hl : 20 * e.pol.bs.length + 20 * e.pol.ss.length + e.body.length + 400 ≤ 999999990) :
    Calls Try.prog 19 #[.agg (evC e A2 A7 A8 c2 c7 c8).toArray] W fun r W' => ∃ v, r = .returned v ∧ (v = .slice none 0 0 ∧ putE e = [] ∨ ∃ As, St W (As ++ [byA v (putE e)]) W') ∧ Below W.heap.size W W' := by
  have hu30 := Try.underlying30
  have hi30 : (Try.prog.info? 30).map (·.size) = some 27 := by kernel_rfl
  have H0 := Aside0.mk h
  go_enter Try.func19, Try.ntmps19
  go_upto_region 1 with fail
  have s1 := (St.start W).push (below_alloc (Below.refl _ _) (.cells (evC e A2 A7 A8 c2 c7 c8).toArray 30)) (boxA_new W 30 (evC e A2 A7 A8 c2 c7 c8).toArray)
  rw [List.nil_append] at s1
  have hbx := box_last (As := []) s1
  generalize W.alloc (.cells (evC e A2 A7 A8 c2 c7 c8).toArray 30) = w1 at *
  have S1 := Aside0.mk s1
  have B1 := Aside0.mk hbx
  have HX := Aside0.mk hx
  have HF := Aside0.mk hf
  have HA2 := Aside0.mk h2
  have HA7 := Aside0.mk h7
  clear s1 hbx h hf hx h2 h7
  go_wp2_with (first
    | (with_reducible refine hd_gate 5 rfl ?_); refine hd_run rfl (v := .agg (evC e A2 A7 A8 c2 c7 c8).toArray) (w1 := w1) (pick_loadRow rfl W.heap.size rfl 30 _ (0, 0) _ B1.out hu30 rfl hi30) ?_)
  refine (right_calls e w1 A2 A7 A8 c2 c7 c8 (H0.out.later S1.out.2)).mono ?_
  rintro r_ w2 ⟨rfl, hb2⟩
  have S2 := Aside0.mk (S1.out.below hb2)
  clear hb2 S1 B1
  cases hr : rightF e
  · have HR := Aside0.mk hr
    clear hr
    go_wp2_with fail
    go_ret
    exact ⟨_, rfl, .inl ⟨rfl, by unfold putE; rw [HR.out]; rfl⟩, S2.out.2⟩
  have HR := Aside0.mk hr
  clear hr
  go_wp2_with fail
  have s3 := S2.out.push (below_alloc (Below.refl _ _) (.cells #[.slice none 0 0] 79)) (newW w2 79)
  generalize hgw : w2.heap.size = g at *
  generalize w2.alloc (.cells #[.slice none 0 0] 79) = w3 at *
  clear hgw S2
  refine (code_all (TY := 79) (As := [boxA 30 W.heap.size (evC e A2 A7 A8 c2 c7 c8).toArray, wrA 79 g []]) 1 g W.heap.size e A2 A7 ad2 ad7 c2 c7 [] s3 (by simp) (by simp; omega) (fun ys w' hS => evMem_of H0.out hS.2 HF.out HA2.out HA7.out (box_at0 hS)) HX.out HA2.out HA7.out A8 c8 (fun ys w' hS => evC_at (box_at0 hS) 26 rfl) (reads_of_C H0.out.r8) (by simp; omega)).mono ?_
  rintro r_ w4 ⟨rfl, h4⟩
  have S4 := Aside0.mk h4
  have HLE := Aside0.mk (encE_len e)
  clear s3 h4
  go_wp2_with fail
  refine (S4.out.wbytes 1 g (encE [] e) rfl (by have := HLE.out; omega)).mono ?_
  rintro r_ w5 ⟨v, rfl, h5⟩
  obtain ⟨Ab, cb, rfl, _, _, _⟩ := h5.bytes 2 (v := v) (xs := encE [] e) rfl
  have S5 := Aside0.mk h5
  clear h5 S4
  generalize hen : (encE [] e).length = en at *
  have HEN := Aside0.mk hen
  clear hen
  by_cases h18 : en ≤ 1800
  · have b18 : decide ((en : Int) ≤ 1800) = true := decide_eq_true (by omega)
    go_wp2_with fail
    go_ret
    exact ⟨_, rfl, .inr ⟨_, by unfold putE; rw [if_pos HR.out, if_pos (by rw [HEN.out]; exact h18)]; exact S5.out⟩, S5.out.2⟩
  · have b18 : decide ((en : Int) ≤ 1800) = false := decide_eq_false (by omega)
    go_wp2_with fail
    go_ret
    exact ⟨_, rfl, .inl ⟨rfl, by unfold putE; rw [if_pos HR.out, if_neg (by rw [HEN.out]; exact h18)]⟩, S5.out.2⟩
end Go.Proofs.Ytldohapdhljoaaa.Wire
namespace Go.Proofs.Ytldohapdhljoaaa.Wire
open Go.RowKit Go.Proofs.YtldohapdhljoaaaW.PrintWords Go.Proofs.Ytldohapdhljoaaa.Obj Go.Proofs.Ytldohapdhljoaaa.Print
set_option linter.unusedVariables false
set_option linter.unusedSimpArgs false
set_option maxRecDepth 100000
theorem C_of_ints {w : World} {A : Option Addr} {n : Nat} {l : List Int} (h : ReadsInt w .u8 A n l) : Kd.C (Kd.int .u8) w A n l := by
  obtain ⟨h1, h2, h3⟩ := h
  refine ⟨h1, h2, fun hn => ?_⟩
  obtain ⟨ad, e, hc⟩ := h3 hn
  refine ⟨ad, e, fun j p hp => ?_⟩
  have hj : j < l.length := (List.getElem?_eq_some_iff.1 hp).1
  refine ⟨[.int .u8 p], rfl, rfl, fun i u hu => ?_⟩
  obtain rfl : i = 0 := by
    rcases i with _ | i
    · rfl
    · simp at hu
  have hu' : Value.int .u8 p = u := by simpa using hu
  have hh := hc j (by omega)
  rw [List.getD_eq_getElem?_getD, hp] at hh
  have e2 : (Kd.int .u8).sz = 1 := rfl
  rw [e2, Nat.mul_one, Nat.add_zero, ← hu']
  exact hh
theorem cells2_at (ps : List (Int × Int)) (j : Nat) (p : Int × Int) (hp : ps[j]? = some p) : (cells2 ps)[j * 2]? = some (.int .i64 p.1) ∧ (cells2 ps)[j * 2 + 1]? = some (.int .i64 p.2) := by
  obtain ⟨pa, pb⟩ := p
  have hj : j < ps.length := (List.getElem?_eq_some_iff.1 hp).1
  have he : ps[j]'hj = (pa, pb) := (List.getElem?_eq_some_iff.1 hp).2
  have hs : ps = ps.take j ++ (pa, pb) :: ps.drop (j + 1) := by
    rw [← he, ← List.drop_eq_getElem_cons hj, List.take_append_drop]
  have hl : (ps.take j).length = j := by rw [List.length_take]; omega
  have g0 := cells2_g0 (ps.take j) (ps.drop (j + 1)) pa pb (j * 2) (by rw [hl])
  have g1 := cells2_g1 (ps.take j) (ps.drop (j + 1)) pa pb (j * 2 + 1) (by rw [hl])
  rw [← hs, List.getElem?_toArray] at g0 g1
  exact ⟨g0, g1⟩
theorem C46_of {w : World} {g : Nat} {T : TypeId} {fr : Nat × Nat} {bs : List S46} (h : w.heap[g]? = some (.cells (cells2 (bs.map prB)).toArray T fr)) (hm : bs.length ≤ 9223372036854775807) : Kd.C k46 w (some ⟨g, 0, none⟩) bs.length bs := by
  refine ⟨rfl, hm, fun hn => ⟨_, rfl, fun j p hp => ⟨_, rfl, k46_mk w p, fun i u hu => ?_⟩⟩⟩
  obtain ⟨g0, g1⟩ := cells2_at (bs.map prB) j (prB p) (by rw [List.getElem?_map, hp]; rfl)
  have e2 : k46.sz = 2 := rfl
  rw [e2, show (⟨g, 0, none⟩ : Addr).add (j * 2 + i) = ⟨g, j * 2 + i, none⟩ from add_plain _ _]
  rcases i with _ | _ | i
  · obtain rfl : Value.int .i64 p.f0 = u := by simpa using hu
    exact pick_cellE h (j * 2) (by rw [List.getElem?_toArray]; exact g0)
  · obtain rfl : Value.int .i64 p.f1 = u := by simpa using hu
    exact pick_cellE h (j * 2 + 1) (by rw [List.getElem?_toArray]; exact g1)
  · simp at hu
theorem C48_of {w : World} {g : Nat} {T : TypeId} {fr : Nat × Nat} {bs : List S48} (h : w.heap[g]? = some (.cells (cells2 (bs.map prS)).toArray T fr)) (hm : bs.length ≤ 9223372036854775807) : Kd.C k48 w (some ⟨g, 0, none⟩) bs.length bs := by
  refine ⟨rfl, hm, fun hn => ⟨_, rfl, fun j p hp => ⟨_, rfl, k48_mk w p, fun i u hu => ?_⟩⟩⟩
  obtain ⟨g0, g1⟩ := cells2_at (bs.map prS) j (prS p) (by rw [List.getElem?_map, hp]; rfl)
  have e2 : k48.sz = 2 := rfl
  rw [e2, show (⟨g, 0, none⟩ : Addr).add (j * 2 + i) = ⟨g, j * 2 + i, none⟩ from add_plain _ _]
  rcases i with _ | _ | i
  · obtain rfl : Value.int .i64 p.f0 = u := by simpa using hu
    exact pick_cellE h (j * 2) (by rw [List.getElem?_toArray]; exact g0)
  · obtain rfl : Value.int .i64 p.f1 = u := by simpa using hu
    exact pick_cellE h (j * 2 + 1) (by rw [List.getElem?_toArray]; exact g1)
  · simp at hu
def EvOwn (e : Ev) (w : World) (A2 A7 A8 : Option Addr) (c8 : Nat) : Prop := EvAt e w A2 A7 A8 e.pol.bs.length e.pol.ss.length c8 ∧ ∃ ad2 ad7, NF e w ad2 ad7 ∧ (0 < e.pol.bs.length → A2 = some ad2) ∧ (0 < e.pol.ss.length → A7 = some ad7)
theorem evOwn_of {w0 w : World} {As : List Asr} {g b : Nat} {x : Ev × List Int × Int} {A2 A7 A8 : Option Addr} {c8 : Nat} (h : St w0 (EvR g b x A2 A7 A8 c8 As) w) (hb : x.1.pol.bs.length ≤ 8) (hs : x.1.pol.ss.length ≤ 8) : EvOwn x.1 w A2 A7 A8 c8 := by
  have i2 : (EvR g b x A2 A7 A8 c8 As)[As.length + 2]? = some (rowA 46 A2 (x.1.pol.bs.map prB)) := by simp [EvR, RT]
  have i7 : (EvR g b x A2 A7 A8 c8 As)[As.length + 3]? = some (rowA 48 A7 (x.1.pol.ss.map prS)) := by simp [EvR, RT]
  have i8 : (EvR g b x A2 A7 A8 c8 As)[As.length + 4]? = some (byA (.slice A8 x.1.body.length c8) x.1.body) := by simp [EvR, RT]
  obtain ⟨_, _, h2, _, _⟩ := h.at_ _ i2
  obtain ⟨_, _, h7, _, _⟩ := h.at_ _ i7
  obtain ⟨A, c, ev, hc, hr, _⟩ := h.bytes _ i8
  injection ev with e1 e2 e3
  subst e1 e3
  have q2 : (∃ ad2, (0 < x.1.pol.bs.length → A2 = some ad2) ∧ ∀ j, j < x.1.pol.bs.length → w.frozen? ⟨(ad2.add (j * 2)).block, (ad2.add (j * 2)).off + 1, none⟩ = false) ∧ Kd.C k46 w A2 x.1.pol.bs.length x.1.pol.bs := by
    rcases h2 with ⟨rfl, hn⟩ | ⟨g2, rfl, hg, _⟩
    · have hn' : x.1.pol.bs = [] := by simpa using hn
      rw [hn']
      exact ⟨⟨⟨0, 0, none⟩, fun h => absurd h (Nat.lt_irrefl 0), fun j h => absurd h (Nat.not_lt_zero j)⟩, nilC _ _ _⟩
    · refine ⟨⟨⟨g2, 0, none⟩, fun _ => rfl, fun j _ => ?_⟩, C46_of hg (by omega)⟩
      rw [show (⟨g2, 0, none⟩ : Addr).add (j * 2) = ⟨g2, j * 2, none⟩ from add_plain _ _]
      exact nf_box hg
  have q7 : (∃ ad7, (0 < x.1.pol.ss.length → A7 = some ad7) ∧ ∀ j, j < x.1.pol.ss.length → w.frozen? ⟨(ad7.add (j * 2)).block, (ad7.add (j * 2)).off + 1, none⟩ = false) ∧ Kd.C k48 w A7 x.1.pol.ss.length x.1.pol.ss := by
    rcases h7 with ⟨rfl, hn⟩ | ⟨g2, rfl, hg, _⟩
    · have hn' : x.1.pol.ss = [] := by simpa using hn
      rw [hn']
      exact ⟨⟨⟨0, 0, none⟩, fun h => absurd h (Nat.lt_irrefl 0), fun j h => absurd h (Nat.not_lt_zero j)⟩, nilC _ _ _⟩
    · refine ⟨⟨⟨g2, 0, none⟩, fun _ => rfl, fun j _ => ?_⟩, C48_of hg (by omega)⟩
      rw [show (⟨g2, 0, none⟩ : Addr).add (j * 2) = ⟨g2, j * 2, none⟩ from add_plain _ _]
      exact nf_box hg
  obtain ⟨⟨ad2, a1, a2⟩, a3⟩ := q2
  obtain ⟨⟨ad7, b1, b2⟩, b3⟩ := q7
  exact ⟨⟨⟨a3, Nat.le_refl _, b3, Nat.le_refl _⟩, C_of_ints hr, hc⟩, ad2, ad7, ⟨a2, b2⟩, a1, b1⟩
theorem EvOwn.later {e : Ev} {w w' : World} {A2 A7 A8 : Option Addr} {c8 : Nat} (h : EvOwn e w A2 A7 A8 c8) (hb : Below w.heap.size w w') : EvOwn e w' A2 A7 A8 c8 := by
  obtain ⟨h1, ad2, ad7, h2, h3, h4⟩ := h
  refine ⟨h1.later hb, ad2, ad7, ⟨fun j hj => ?_, fun j hj => ?_⟩, h3, h4⟩
  · obtain ⟨ad, hA, q1, q2⟩ := at_T46 h1.pol.r2 (j : Int) (by omega) (by omega)
    have := h3 (by omega)
    rw [hA] at this
    injection this with this
    subst this
    rw [Int.toNat_natCast] at q2
    exact (hb.frozen (World.block_lt_of_cell? w _ q2)).trans (h2.bs j hj)
  · obtain ⟨ad, hA, q1, q2⟩ := at_T48 h1.pol.r7 (j : Int) (by omega) (by omega)
    have := h4 (by omega)
    rw [hA] at this
    injection this with this
    subst this
    rw [Int.toNat_natCast] at q2
    exact (hb.frozen (World.block_lt_of_cell? w _ q2)).trans (h2.ss j hj)
theorem zero30 (W : World) : (zeroValue 30).run Try.prog W = .ok (.agg (evZ 0)) W := by kernel_rfl
theorem built30 (k : Int) : Try.prog.built 30 [(0, .int .i64 k)] = some (evZ k) := by kernel_rfl
theorem built30z : Try.prog.built 30 [] = some (evZ 0) := by kernel_rfl
theorem built54 (q : Option Addr) (p : Value) (hp : p = .pointer q) : Try.prog.built 54 [(0, p)] = some #[p] := by subst hp; kernel_rfl
theorem pick_build {P : Program} {o : Oper} {ρ : Operand → Value} {ty : TypeId} {ps : Array (Nat × Operand)} {w : World} {cells : Array Value} (ho : o.op = .build ty ps) (h : P.built ty (ps.map fun (i, x) => (i, ρ x)).toList = some cells) : (execOp ρ o).run P w = .ok (.value (.agg cells)) w := by
  unfold execOp
  have h2 := run_build (P := P) w ty _ _ h
  simp only [ho, Sem.run_bind, h2, Result.andThen_ok, Sem.run_pure]
theorem setRow_box {w : World} {b : Nat} {cs cs' : Array Value} {T : TypeId} {fr : Nat × Nat} (h : w.heap[b]? = some (.cells cs T fr)) : (w.setRow b cs').heap[b]? = some (.cells cs' T fr) := setRow_heap w b cs cs' T fr h
theorem setRow_far (w : World) (b : Nat) (cs : Array Value) (k : Nat) (hk : k ≠ b) : (w.setRow b cs).heap[k]? = w.heap[k]? := by
  unfold World.setRow
  dsimp only
  rw [Array.getElem?_modify, if_neg (Ne.symm hk)]
theorem st_setRow {w0 w : World} {As : List Asr} {T : TypeId} {b : Nat} {cs : Array Value} (cs' : Array Value) (h : St w0 As w) (j : Nat) (hj : As[j]? = some (boxA T b cs)) : St w0 (As.set j (boxA T b cs')) (w.setRow b cs') := by
  obtain ⟨S, s1, ⟨s2, s5⟩, s3, s4⟩ := h.at_ j hj
  exact s3 ⟨⟨rfl, rfl, rfl, by rw [size_setRow]; exact Nat.le_refl _, fun k hk hn => setRow_far w b cs' k (fun e => hn (e ▸ s5))⟩, S, ⟨fun _ => .inl, fun k hk => by rw [size_setRow]; exact (s1 k hk).2⟩, setRow_box s2, s5⟩
def getF (k : Int) (l : List Int) : Ev × Int :=
  if 1 ≤ k ∧ k ≤ 8 then (if rEnd (getE k l 0).2.1 (getE k l 0).2.2 = 0 then (if rightF (getE k l 0).1 = true then ((getE k l 0).1, 0) else (ev0 0, 12)) else (ev0 0, rEnd (getE k l 0).2.1 (getE k l 0).2.2)) else (ev0 0, 12)
theorem getE_rows (k : Int) (l : List Int) (e : Int) : (getE k l e).1.pol.bs.length ≤ 8 ∧ (getE k l e).1.pol.ss.length ≤ 8 := by
  unfold getE
  repeat' split
  case' isTrue => skip
  all_goals first | exact ⟨Nat.zero_le _, Nat.zero_le _⟩ | skip
  unfold getP
  dsimp only
  rw [List.length_map, List.length_map]
  exact ⟨by have := rList_len 8 (rNum (rNum (rNum l e).2.1 (rNum l e).2.2).2.1 (rNum (rNum l e).2.1 (rNum l e).2.2).2.2).2.1 (rNum (rNum (rNum l e).2.1 (rNum l e).2.2).2.1 (rNum (rNum l e).2.1 (rNum l e).2.2).2.2).2.2 (by omega); omega, by
    refine Int.ofNat_le.1 ?_
    exact rList_len 8 _ _ (by omega)⟩
theorem ev0_own (w : World) (k : Int) : EvOwn (ev0 k) w none none none 0 := ⟨⟨⟨nilC _ _ _, Nat.le_refl _, nilC _ _ _, Nat.le_refl _⟩, nilC _ _ _, Nat.le_refl _⟩, ⟨0, 0, none⟩, ⟨0, 0, none⟩, ⟨fun j h => absurd h (Nat.not_lt_zero j), fun j h => absurd h (Nat.not_lt_zero j)⟩, fun h => absurd h (Nat.lt_irrefl 0), fun h => absurd h (Nat.lt_irrefl 0)⟩
set_option maxHeartbeats 8000000 in
theorem get_calls (k : Int) (l : List Int) (W : World) (A : Option Addr) (c : Nat) (hR : ReadsInt W .u8 A l.length l) (hok : ∀ x ∈ l, 0 ≤ x ∧ x < 256) (hl : l.length ≤ 140737488351232) :
    Calls Try.prog 11 #[.int .i64 k, .slice A l.length c] W fun r W' => ∃ A2 A7 A8 c8, r = .returned (.tuple #[.agg (evC (getF k l).1 A2 A7 A8 (getF k l).1.pol.bs.length (getF k l).1.pol.ss.length c8).toArray, .int .i64 (getF k l).2]) ∧ EvOwn (getF k l).1 W' A2 A7 A8 c8 ∧ Below W.heap.size W W' := by
  have hu30 := Try.underlying30
  have hi30 : (Try.prog.info? 30).map (·.size) = some 27 := by kernel_rfl
  have hz30 : ∃ Z, Z = evZ 0 ∧ ∀ W, (zeroValue 30).run Try.prog W = .ok (.agg Z) W := ⟨evZ 0, rfl, zero30⟩
  obtain ⟨Z, hZ, hz30⟩ := hz30
  have sz : Z.size = 27 := by rw [hZ]; rfl
  have hne : ¬ (Z = #[]) := fun h => by rw [h] at sz; cases sz
  have eZ : Z.setIfInBounds 0 (.int .i64 k) = evZ k := by rw [hZ]; rfl
  have hall : (Z.setIfInBounds 0 (.int .i64 k)).all (·.oneCell') = true := by rw [eZ]; simp [evZ, evC, ev0, zPol, zCnf, Value.oneCell']
  have hallZ : Z.all (·.oneCell') = true := by rw [hZ]; simp [evZ, evC, ev0, zPol, zCnf, Value.oneCell']
  have hik : (Try.prog.info? 30).map (·.size) = some (Z.setIfInBounds 0 (.int .i64 k)).size := by rw [Array.size_setIfInBounds, sz]; exact hi30
  have hiZ : (Try.prog.info? 30).map (·.size) = some Z.size := by rw [sz]; exact hi30
  have HZ := Aside0.mk hZ
  have HIK := Aside0.mk hik
  have HIZ := Aside0.mk hiZ
  have HALL := Aside0.mk hall
  have HALZ := Aside0.mk hallZ
  have EZ := Aside0.mk eZ
  have HR := Aside0.mk hR
  have HOK := Aside0.mk hok
  clear hZ hR hok eZ hik hiZ hall hallZ
  go_enter Try.func11, Try.ntmps11
  go_upto_region 1 with fail
  have s1 := (St.start W).push (below_alloc (Below.refl _ _) (.cells Z 30)) (boxA_new W 30 Z)
  rw [List.nil_append] at s1
  generalize W.alloc (.cells Z 30) = w1 at *
  generalize W.heap.size = g4 at *
  have S1 := Aside0.mk s1
  clear s1
  go_upto_region 2 with (first
    | (with_reducible refine hd_gateS 6 _ _ rfl ?_); refine hd_runS rfl (w1 := (w1.alloc (.cells Z 30)).setRow w1.heap.size (Z.setIfInBounds 0 (.int .i64 k))) (pick_store rfl w1.heap.size (Z.setIfInBounds 0 (.int .i64 k)) rfl rfl 30 Z (pick_new w1 _) HIK.out (by rw [Array.size_setIfInBounds]) HALL.out) ?_)
  have s2 := S1.out.push (below_alloc (Below.refl _ _) (.cells (evZ k) 30)) (boxA_new w1 30 (evZ k))
  rw [EZ.out, World.setRow_alloc_new]
  have HR0 : Aside0 (ReadsInt (w1.alloc (.cells (evZ k) 30)) .u8 A l.length l) := ⟨HR.out.below s2.2⟩
  generalize w1.alloc (.cells (evZ k) 30) = w2 at *
  generalize w1.heap.size = g6 at *
  have S2 := Aside0.mk s2
  clear s2 S1 HALL HIK
  have HZ0 := HZ
  clear EZ HZ
  go_wp2_with fail
  refine (S2.out.newR A c l HR0.out hl).mono ?_
  rintro r_ w3 ⟨g, rfl, h3⟩
  have S3 := Aside0.mk h3
  clear h3 S2
  have hi54 : (Try.prog.info? 54).map (·.size) = some 1 := by kernel_rfl
  go_upto_region 3 with fail
  have s4 := S3.out.push (below_alloc (Below.refl _ _) (.cells #[.pointer (some ⟨g, 0, none⟩)] 54)) (boxA_new w3 54 #[.pointer (some ⟨g, 0, none⟩)])
  have b4 := pick_new w3 (.cells #[.pointer (some ⟨g, 0, none⟩)] 54)
  generalize w3.alloc (.cells #[.pointer (some ⟨g, 0, none⟩)] 54) = w4 at *
  generalize w3.heap.size = g7 at *
  have B4 := Aside0.mk b4
  have S4 : Aside0 (St W (RT g g6 30 ⟨l, 0, evZ k⟩ [boxA 30 g4 Z, boxA 54 g7 #[.pointer (some ⟨g, 0, none⟩)]]) w4) := ⟨st_perm s4 (by
    show List.Perm [boxA 30 g4 Z, boxA 30 g6 (evZ k), rdA g l 0, boxA 54 g7 _] [rdA g l 0, boxA 30 g6 (evZ k), boxA 30 g4 Z, boxA 54 g7 _]
    exact (List.Perm.trans (List.Perm.swap _ _ _) (List.Perm.trans (List.Perm.cons _ (List.Perm.swap _ _ _)) (List.Perm.swap _ _ _))).trans (List.Perm.refl _))⟩
  clear s4 b4 S3
  go_wp2_with (first
    | (with_reducible refine hd_gate 15 rfl ?_); refine hd_run rfl (v := .agg #[.pointer (some ⟨g, 0, none⟩)]) (w1 := w4) (pick_loadRow rfl g7 rfl 54 _ (0, 0) _ B4.out Try.underlying54 rfl hi54) ?_)
  have hcode := code_allr g g6 k l 0 S4.out HOK.out hl
  generalize hkn : decide (1 ≤ k ∧ k ≤ 8) = kn at hcode
  have HKN := Aside0.mk hkn
  clear hkn
  refine hcode.mono ?_
  rintro r_ w5 ⟨rfl, A2, A7, A8, c8, h5⟩
  have c7 : w5.cell? ⟨g7, 0, none⟩ = some (.pointer (some ⟨g, 0, none⟩)) := pick_cellE (st_box (T := 54) (cs := #[.pointer (some ⟨g, 0, none⟩)]) h5 (by simp [EvR, RT])) 0 rfl
  have S5 := Aside0.mk h5
  clear h5 S4 B4 hcode
  go_wp2_with fail
  refine (S5.out.rend 0 g (getE k l 0).2.1 (getE k l 0).2.2 rfl).mono ?_
  rintro r_ w6 ⟨rfl, rfl⟩
  have HGF := Aside0.mk (show getF k l = (if 1 ≤ k ∧ k ≤ 8 then (if rEnd (getE k l 0).2.1 (getE k l 0).2.2 = 0 then (if rightF (getE k l 0).1 = true then ((getE k l 0).1, 0) else (ev0 0, 12)) else (ev0 0, rEnd (getE k l 0).2.1 (getE k l 0).2.2)) else (ev0 0, 12)) from rfl)
  have HROW := Aside0.mk (getE_rows k l 0)
  generalize getE k l 0 = x at *
  have BZ := Aside0.mk (st_box (T := 30) (cs := Z) (g := g4) S5.out (by simp [EvR, RT]))
  have BX := Aside0.mk (rt_box S5.out)
  have HEO := Aside0.mk (evOwn_of S5.out HROW.out.1 HROW.out.2)
  have hNone : ∀ (w' : World) (f : Int), getF k l = (ev0 0, f) → Below W.heap.size W w' → ∃ A2 A7 A8 c8, Ending.returned (.tuple #[.agg Z, .int .i64 f]) = Ending.returned (.tuple #[.agg (evC (getF k l).1 A2 A7 A8 (getF k l).1.pol.bs.length (getF k l).1.pol.ss.length c8).toArray, .int .i64 (getF k l).2]) ∧ EvOwn (getF k l).1 w' A2 A7 A8 c8 ∧ Below W.heap.size W w' := by
    intro w' f hf hb
    rw [hf]
    exact ⟨none, none, none, 0, by rw [HZ0.out]; rfl, ev0_own w' 0, hb⟩
  have HNONE := Aside0.mk hNone
  clear hNone
  cases kn
  · go_wp2_with (first
      | (with_reducible refine hd_gateS 4 _ _ rfl ?_); refine hd_runS rfl (w1 := w5.setRow g4 Z) (pick_store rfl g4 Z rfl rfl 30 Z BZ.out HIZ.out rfl HALZ.out) ?_)
    have HS := Aside0.mk (st_setRow Z S5.out 2 rfl)
    have hfin := setRow_box (cs' := Z) BZ.out
    generalize w5.setRow g4 Z = w9 at *
    refine bodyPost_ret (v := .tuple #[.agg Z, .int .i64 12]) ?hr rfl ?_
    case hr =>
      rw [results_cell_tmp rfl]
      simp [asAddr, run_loadVar_row w9 g4 30 30 _ (0, 0) _ hfin hu30 rfl HIZ.out]
    exact HNONE.out _ _ (by rw [HGF.out, if_neg (of_decide_eq_false HKN.out)]) HS.out.2
  generalize hfe : rEnd x.2.1 x.2.2 = fe at *
  have HFE := Aside0.mk hfe
  clear hfe
  by_cases h0 : fe = 0
  case neg =>
    have b0 : (fe == 0) = false := beq_eq_false_iff_ne.2 h0
    have H0 := Aside0.mk h0
    clear h0
    go_wp2_with (first
      | (with_reducible refine hd_gateS 4 _ _ rfl ?_); refine hd_runS rfl (w1 := w5.setRow g4 Z) (pick_store rfl g4 Z rfl rfl 30 Z BZ.out HIZ.out rfl HALZ.out) ?_)
    have HS := Aside0.mk (st_setRow Z S5.out 2 rfl)
    have hfin := setRow_box (cs' := Z) BZ.out
    generalize w5.setRow g4 Z = w9 at *
    refine bodyPost_ret (v := .tuple #[.agg Z, .int .i64 fe]) ?hr rfl ?_
    case hr =>
      rw [results_cell_tmp rfl]
      simp [asAddr, run_loadVar_row w9 g4 30 30 _ (0, 0) _ hfin hu30 rfl HIZ.out]
    exact HNONE.out _ _ (by rw [HGF.out, if_pos (of_decide_eq_true HKN.out), if_neg H0.out]) HS.out.2
  subst h0
  go_wp2_with (first
    | (with_reducible refine hd_gate 31 rfl ?_); refine hd_run rfl (v := .agg (evC x.1 A2 A7 A8 x.1.pol.bs.length x.1.pol.ss.length c8).toArray) (w1 := w5) (pick_loadRow rfl g6 rfl 30 _ (0, 0) _ BX.out hu30 rfl hi30) ?_)
  refine (right_calls x.1 w5 A2 A7 A8 x.1.pol.bs.length x.1.pol.ss.length c8 HEO.out.1).mono ?_
  rintro r_ w6 ⟨rfl, hb6⟩
  have S6 := Aside0.mk (S5.out.below hb6)
  have BZ6 := Aside0.mk (st_box (T := 30) (cs := Z) (g := g4) S6.out (by simp [EvR, RT]))
  have BX6 := Aside0.mk (rt_box S6.out)
  clear hb6 S5 BZ BX
  cases hr : rightF x.1
  · have HRF := Aside0.mk hr
    clear hr
    go_wp2_with (first
      | (with_reducible refine hd_gateS 4 _ _ rfl ?_); refine hd_runS rfl (w1 := w6.setRow g4 Z) (pick_store rfl g4 Z rfl rfl 30 Z BZ6.out HIZ.out rfl HALZ.out) ?_)
    have HS := Aside0.mk (st_setRow Z S6.out 2 rfl)
    have hfin := setRow_box (cs' := Z) BZ6.out
    generalize w6.setRow g4 Z = w9 at *
    refine bodyPost_ret (v := .tuple #[.agg Z, .int .i64 12]) ?hr rfl ?_
    case hr =>
      rw [results_cell_tmp rfl]
      simp [asAddr, run_loadVar_row w9 g4 30 30 _ (0, 0) _ hfin hu30 rfl HIZ.out]
    exact HNONE.out _ _ (by rw [HGF.out, if_pos (of_decide_eq_true HKN.out), HRF.out]; rfl) HS.out.2
  have HRF := Aside0.mk hr
  clear hr
  go_wp2_with (first
    | (with_reducible refine hd_gate 35 rfl ?_); refine hd_run rfl (v := .agg (evC x.1 A2 A7 A8 x.1.pol.bs.length x.1.pol.ss.length c8).toArray) (w1 := w6) (pick_loadRow rfl g6 rfl 30 _ (0, 0) _ BX6.out hu30 rfl hi30) ?_
    | (with_reducible refine hd_gateS 4 _ _ rfl ?_); refine hd_runS rfl (w1 := w6.setRow g4 (evC x.1 A2 A7 A8 x.1.pol.bs.length x.1.pol.ss.length c8).toArray) (pick_store rfl g4 (evC x.1 A2 A7 A8 x.1.pol.bs.length x.1.pol.ss.length c8).toArray rfl rfl 30 Z BZ6.out hi30 sz (by simp [evC, Value.oneCell'])) ?_)
  have HS : Aside0 (St W (EvR g g6 x A2 A7 A8 c8 [boxA 30 g4 (evC x.1 A2 A7 A8 x.1.pol.bs.length x.1.pol.ss.length c8).toArray, boxA 54 g7 #[.pointer (some ⟨g, 0, none⟩)]]) (w6.setRow g4 (evC x.1 A2 A7 A8 x.1.pol.bs.length x.1.pol.ss.length c8).toArray)) := ⟨st_setRow (evC x.1 A2 A7 A8 x.1.pol.bs.length x.1.pol.ss.length c8).toArray S6.out 2 rfl⟩
  have hfin := setRow_box (cs' := (evC x.1 A2 A7 A8 x.1.pol.bs.length x.1.pol.ss.length c8).toArray) BZ6.out
  generalize w6.setRow g4 (evC x.1 A2 A7 A8 x.1.pol.bs.length x.1.pol.ss.length c8).toArray = w9 at *
  refine bodyPost_ret (v := .tuple #[.agg (evC x.1 A2 A7 A8 x.1.pol.bs.length x.1.pol.ss.length c8).toArray, .int .i64 0]) ?hr rfl ?_
  case hr =>
    rw [results_cell_tmp rfl]
    simp [asAddr, run_loadVar_row w9 g4 30 30 _ (0, 0) _ hfin hu30 rfl hi30]
  have HG2 : getF k l = (x.1, 0) := by rw [HGF.out, if_pos (of_decide_eq_true HKN.out), HRF.out]; rfl
  rw [HG2]
  exact ⟨A2, A7, A8, c8, rfl, evOwn_of HS.out HROW.out.1 HROW.out.2, HS.out.2⟩
end Go.Proofs.Ytldohapdhljoaaa.Wire
namespace Go.Proofs.Ytldohapdhljoaaa.Wire
open Go.RowKit Go.Proofs.YtldohapdhljoaaaW.PrintWords Go.Proofs.Ytldohapdhljoaaa.Obj Go.Proofs.Ytldohapdhljoaaa.Print
set_option linter.unusedVariables false
set_option linter.unusedSimpArgs false
set_option maxRecDepth 100000
theorem put_ev (e : Ev) (bs : List Int) (W : World) (cs : Array Value) (A2 A7 A8 : Option Addr) (ad2 ad7 : Addr) (c2 c7 c8 : Nat) (hcs : cs = (evC e A2 A7 A8 c2 c7 c8).toArray) (h : EvAt e W A2 A7 A8 c2 c7 c8) (hf : NF e W ad2 ad7) (hx : EvIn e) (h2 : 0 < e.pol.bs.length → A2 = some ad2) (h7 : 0 < e.pol.ss.length → A7 = some ad7) (hl : 20 * e.pol.bs.length + 20 * e.pol.ss.length + e.body.length + 400 ≤ 999999990) (hb : putE e = bs) :
    Calls Try.prog 19 #[.agg cs] W fun r W' => ∃ A c, r = .returned (.slice A bs.length c) ∧ bs.length ≤ c ∧ Kd.C (Kd.int .u8) W' A bs.length bs ∧ Below W.heap.size W W' := by
  subst hcs hb
  refine (put_calls e W A2 A7 A8 ad2 ad7 c2 c7 c8 h hf hx h2 h7 hl).mono ?_
  rintro r W' ⟨v, rfl, hv, hb⟩
  rcases hv with ⟨rfl, e0⟩ | ⟨As, hS⟩
  · rw [e0]
    exact ⟨none, 0, rfl, Nat.le_refl _, nilC _ _ _, hb⟩
  · obtain ⟨A, c, rfl, hc, hr, _⟩ := hS.bytes As.length (v := v) (xs := putE e) (by rw [List.getElem?_append_right (Nat.le_refl _), Nat.sub_self]; rfl)
    exact ⟨A, c, rfl, hc, C_of_ints hr, hb⟩
theorem get_sl (k : Int) (l : List Int) (n : Nat) (W : World) (A : Option Addr) (c : Nat) (hn : n = l.length) (hR : Kd.C (Kd.int .u8) W A n l) (hok : ∀ x ∈ l, 0 ≤ x ∧ x < 256) (hl : l.length ≤ 140737488351232) (x : Ev) (f : Int) (h : getF k l = (x, f)) :
    Calls Try.prog 11 #[.int .i64 k, .slice A n c] W fun r W' => ∃ A2 A7 A8 c8, r = .returned (.tuple #[.agg (evC x A2 A7 A8 x.pol.bs.length x.pol.ss.length c8).toArray, .int .i64 f]) ∧ EvOwn x W' A2 A7 A8 c8 ∧ Below W.heap.size W W' := by
  subst hn
  have := get_calls k l W A c (reads_of_C hR) hok hl
  rw [h] at this
  exact this
theorem z_own (e : Ev) (w : World) (c2 c7 c8 : Nat) (h1 : e.pol.bs = []) (h2 : e.pol.ss = []) (h3 : e.body = []) : EvAt e w none none none c2 c7 c8 ∧ NF e w ⟨0, 0, none⟩ ⟨0, 0, none⟩ := by
  refine ⟨⟨⟨by rw [h1]; exact nilC _ _ _, by rw [h1]; exact Nat.zero_le _, by rw [h2]; exact nilC _ _ _, by rw [h2]; exact Nat.zero_le _⟩, by rw [h3]; exact nilC _ _ _, by rw [h3]; exact Nat.zero_le _⟩, ⟨fun j h => ?_, fun j h => ?_⟩⟩
  · rw [h1] at h; exact absurd h (Nat.not_lt_zero j)
  · rw [h2] at h; exact absurd h (Nat.not_lt_zero j)
theorem put_z (e : Ev) (bs : List Int) (W : World) (cs : Array Value) (hcs : cs = (evC e none none none 0 0 0).toArray) (hx : EvIn e) (h1 : e.pol.bs = []) (h2 : e.pol.ss = []) (h3 : e.body = []) (hb : putE e = bs) :
    Calls Try.prog 19 #[.agg cs] W fun r W' => ∃ A c, r = .returned (.slice A bs.length c) ∧ bs.length ≤ c ∧ Kd.C (Kd.int .u8) W' A bs.length bs ∧ Below W.heap.size W W' := by
  have h := z_own e W 0 0 0 h1 h2 h3
  exact put_ev e bs W cs none none none ⟨0, 0, none⟩ ⟨0, 0, none⟩ 0 0 0 hcs h.1 h.2 hx (by rw [h1]; exact fun h => absurd h (Nat.lt_irrefl 0)) (by rw [h2]; exact fun h => absurd h (Nat.lt_irrefl 0)) (by rw [h1, h2, h3]; decide) hb
theorem right_z (e : Ev) (r : Bool) (W : World) (cs : Array Value) (hcs : cs = (evC e none none none 0 0 0).toArray) (h1 : e.pol.bs = []) (h2 : e.pol.ss = []) (h3 : e.body = []) (hr : rightF e = r) :
    Calls Try.prog 13 #[.agg cs] W fun q W' => q = .returned (.bool r) ∧ Below W.heap.size W W' := by
  subst hcs hr
  exact right_calls e W none none none 0 0 0 (z_own e W 0 0 0 h1 h2 h3).1
def hE1 : Ev := { ev0 1 with u := 700, dm := 300 }
def hP : Pol := ⟨2, 0, [⟨0, -1⟩, ⟨800, 2⟩], 0, 0, 0, 0, []⟩
def hP1 : Pol := ⟨2, 1, [⟨0, -1⟩, ⟨800, 2⟩], 0, 0, 0, 0, []⟩
def hE3 : Ev := { ev0 3 with id := 1, pol := hP }
def hC : List Int := [2, 4, 0, 4, 0, 1, 192, 12, 4, 0, 0, 0, 0, 0]
theorem hd_put1 : putE hE1 = [248, 10, 216, 4] := by kernel_rfl
theorem hd_get1 : getF 1 [248, 10, 216, 4] = (hE1, 0) := by kernel_rfl
theorem hd_get2 : getF 1 (([] ++ [248, 10, 216, 4]) ++ [0]) = (ev0 0, 12) := by kernel_rfl
theorem hd_get3 : getF 9 [248, 10, 216, 4] = (ev0 0, 12) := by kernel_rfl
theorem hd_get4 : getF 3 [2, 2, 0, 0, 0, 0, 0, 0, 0] = (ev0 0, 12) := by kernel_rfl
theorem hd_put3 : putE hE3 = hC := by kernel_rfl
theorem hd_get5 : getF 3 hC = (hE3, 0) := by kernel_rfl
theorem hd_putN : putE (ev0 3) = [] := by kernel_rfl
theorem hd_putZ : putE { ev0 3 with id := 2 } = [4, 0, 0, 0, 0, 0, 0, 0, 0] := by kernel_rfl
theorem hd_pol : policyF hP = true := by kernel_rfl
theorem hd_pol1 : policyF hP1 = false := by kernel_rfl
theorem hd_T : rightF { ev0 2 with T := -5 } = true := by kernel_rfl
theorem hd_N : rightF { ev0 2 with n := 1 } = false := by kernel_rfl
theorem hd_in1 : EvIn hE1 := by
  refine ⟨?_, ?_, ?_, ?_, ?_, ⟨?_, ?_, ?_, ?_, ?_, ?_, ?_, ?_⟩, ⟨?_, ?_, ?_, ?_, ?_, ?_, ?_, ?_, ?_, ?_, ?_, ?_⟩⟩ <;> first | (unfold I64; decide) | decide
theorem hd_in3 : EvIn hE3 := by
  refine ⟨?_, ?_, ?_, ?_, ?_, ⟨?_, ?_, ?_, ?_, ?_, ?_, ?_, ?_⟩, ⟨?_, ?_, ?_, ?_, ?_, ?_, ?_, ?_, ?_, ?_, ?_, ?_⟩⟩ <;> first | (unfold I64; decide) | decide
theorem hd_inN : EvIn (ev0 3) := by
  refine ⟨?_, ?_, ?_, ?_, ?_, ⟨?_, ?_, ?_, ?_, ?_, ?_, ?_, ?_⟩, ⟨?_, ?_, ?_, ?_, ?_, ?_, ?_, ?_, ?_, ?_, ?_, ?_⟩⟩ <;> first | (unfold I64; decide) | decide
theorem hd_inZ : EvIn { ev0 3 with id := 2 } := by
  refine ⟨?_, ?_, ?_, ?_, ?_, ⟨?_, ?_, ?_, ?_, ?_, ?_, ?_, ?_⟩, ⟨?_, ?_, ?_, ?_, ?_, ?_, ?_, ?_, ?_, ?_, ?_, ?_⟩⟩ <;> first | (unfold I64; decide) | decide
theorem same_ev (K : Nat) (x y : Ev) (cs ds : Array Value) (A2 A7 A8 B2 B7 B8 : Option Addr) (A2c A7c A8c B2c B7c B8c : Nat) (r : Bool) (w : World) (hcs : cs = (evC x A2 A7 A8 A2c A7c A8c).toArray) (hds : ds = (evC y B2 B7 B8 B2c B7c B8c).toArray) (hx : EvAt x w A2 A7 A8 A2c A7c A8c) (hy : EvAt y w B2 B7 B8 B2c B7c B8c) (h : governorref09_Same.f K x.k x.u x.dm x.T x.id x.n x.pol.k x.pol.t x.pol.bs x.pol.p x.pol.i x.pol.d x.pol.per x.pol.ss x.c.mi x.c.ma x.c.ra x.c.st x.c.ca x.c.de x.c.sl x.c.wi x.c.mg x.c.ce x.c.pr x.c.br x.body y.k y.u y.dm y.T y.id y.n y.pol.k y.pol.t y.pol.bs y.pol.p y.pol.i y.pol.d y.pol.per y.pol.ss y.c.mi y.c.ma y.c.ra y.c.st y.c.ca y.c.de y.c.sl y.c.wi y.c.mg y.c.ce y.c.pr y.c.br y.body = some r) :
    Calls Try.prog 21 #[.agg cs, .agg ds] w fun e w' => e = .returned (.bool r) ∧ Below w.heap.size w w' := by
  subst hcs hds
  exact governorref09_Same.calls K x.k x.u x.dm x.T x.id x.n x.pol.k x.pol.t A2 A2c x.pol.bs x.pol.p x.pol.i x.pol.d x.pol.per A7 A7c x.pol.ss x.c.mi x.c.ma x.c.ra x.c.st x.c.ca x.c.de x.c.sl x.c.wi x.c.mg x.c.ce x.c.pr x.c.br A8 A8c x.body y.k y.u y.dm y.T y.id y.n y.pol.k y.pol.t B2 B2c y.pol.bs y.pol.p y.pol.i y.pol.d y.pol.per B7 B7c y.pol.ss y.c.mi y.c.ma y.c.ra y.c.st y.c.ca y.c.de y.c.sl y.c.wi y.c.mg y.c.ce y.c.pr y.c.br B8 B8c y.body r w hx.pol.r2 hx.pol.m2 hx.pol.r7 hx.pol.m7 hx.r8 hx.m8 hy.pol.r2 hy.pol.m2 hy.pol.r7 hy.pol.m7 hy.r8 hy.m8 h
theorem same_pol (K : Nat) (x y : Pol) (cs ds : Array Value) (A2 A7 B2 B7 : Option Addr) (A2c A7c B2c B7c : Nat) (r : Bool) (w : World) (hcs : cs = (polC x A2 A7 A2c A7c).toArray) (hds : ds = (polC y B2 B7 B2c B7c).toArray) (hx : PolAt x w A2 A7 A2c A7c) (hy : PolAt y w B2 B7 B2c B7c) (h : governorref09_SamePolicy.f K x.k x.t x.bs x.p x.i x.d x.per x.ss y.k y.t y.bs y.p y.i y.d y.per y.ss = some r) :
    Calls Try.prog 23 #[.agg cs, .agg ds] w fun e w' => e = .returned (.bool r) ∧ Below w.heap.size w w' := by
  subst hcs hds
  exact governorref09_SamePolicy.calls K x.k x.t A2 A2c x.bs x.p x.i x.d x.per A7 A7c x.ss y.k y.t B2 B2c y.bs y.p y.i y.d y.per B7 B7c y.ss r w hx.r2 hx.m2 hx.r7 hx.m7 hy.r2 hy.m2 hy.r7 hy.m7 h
theorem hd_same1 : governorref09_Same.f 100 hE1.k hE1.u hE1.dm hE1.T hE1.id hE1.n hE1.pol.k hE1.pol.t hE1.pol.bs hE1.pol.p hE1.pol.i hE1.pol.d hE1.pol.per hE1.pol.ss hE1.c.mi hE1.c.ma hE1.c.ra hE1.c.st hE1.c.ca hE1.c.de hE1.c.sl hE1.c.wi hE1.c.mg hE1.c.ce hE1.c.pr hE1.c.br hE1.body hE1.k hE1.u hE1.dm hE1.T hE1.id hE1.n hE1.pol.k hE1.pol.t hE1.pol.bs hE1.pol.p hE1.pol.i hE1.pol.d hE1.pol.per hE1.pol.ss hE1.c.mi hE1.c.ma hE1.c.ra hE1.c.st hE1.c.ca hE1.c.de hE1.c.sl hE1.c.wi hE1.c.mg hE1.c.ce hE1.c.pr hE1.c.br hE1.body = some true := by kernel_rfl
theorem hd_same3 : governorref09_SamePolicy.f 100 hP.k hP.t hP.bs hP.p hP.i hP.d hP.per hP.ss hP.k hP.t hP.bs hP.p hP.i hP.d hP.per hP.ss = some true := by kernel_rfl
theorem C_lit (W : World) (xs : List Int) (fr : Nat × Nat) (hm : xs.length ≤ 9223372036854775807) : Kd.C (Kd.int .u8) (W.alloc (.cells (nums .u8 xs).toArray 5 fr)) (some ⟨W.heap.size, 0, none⟩) xs.length xs :=
  C_of_ints ⟨rfl, hm, fun hn => ⟨_, rfl, fun j hj => by
    rw [show (⟨W.heap.size, 0, none⟩ : Addr).add j = ⟨W.heap.size, j, none⟩ from add_plain _ _]
    refine cellOf (heap_alloc_new W _) j ?_
    rw [List.getElem?_toArray]
    simp [nums, List.getElem?_eq_getElem hj, List.getD_eq_getElem?_getD]⟩⟩
theorem C_lit' (W : World) (xs : List Int) (fr : Nat × Nat) (g : Nat) (hg : g = W.heap.size) (n : Nat) (hn : n = xs.length) (hm : xs.length ≤ 9223372036854775807) : Kd.C (Kd.int .u8) (W.alloc (.cells (nums .u8 xs).toArray 5 fr)) (some ⟨g, 0, none⟩) n xs := by
  subst hg hn
  exact C_lit W xs fr hm
theorem wpl_append {ops : Array Oper} {rest : List Oper} {o : Oper} {a : Act} {Q : Exit → Act → World → Prop} {W : World} (W0 : World) (base : Nat) (s x : Operand)
    (hgd : o.guard = none) (ho : o.op = .call { callee := .builtin .append, args := #[s, x], argTypes := #[28, 28] })
    (h : ∃ v xs ys A n c, a.eval s = v ∧ a.eval x = .slice A n c ∧ n = ys.length ∧ W.ownsRow base 5 1 v xs.length (nums .u8 xs) ∧ Kd.C (Kd.int .u8) W A ys.length ys ∧ Below base W0 W ∧ base ≤ W.heap.size ∧ xs.length + ys.length ≤ 140737488351232 ∧
      ∀ A1 c1 w1, w1.ownsRow base 5 1 (.slice A1 (xs ++ ys).length c1) (xs ++ ys).length (nums .u8 (xs ++ ys)) → Below base W0 w1 → W.grownBy w1 v.ownBlock → wpList Try.prog ops Q rest (a.put o.dst (.slice A1 (xs ++ ys).length c1)) w1) :
    wpList Try.prog ops Q (o :: rest) a W := wpList_plain hgd fun K hK => by
  obtain ⟨v, xs, ys, A, n, c, hs, hx, rfl, HO, HR, HB, hbase, hl, h⟩ := h
  obtain ⟨v1, w1, hr, h1, h2, h3⟩ := run_append_reads W o.type base v xs ys A c HO (reads_of_C HR) hbase (by omega)
  obtain ⟨A1, c1, rfl⟩ := own_slice h1
  unfold Oper.wp execOp
  simp only [ho, resolve, invoke, builtin, Sem.run_bind, Sem.run_pure, Result.andThen_ok, List.map_toArray, List.map_cons, List.map_nil, hs, hx, hr]
  exact hK _ _ (h A1 c1 w1 h1 (HB.grown h2 hbase (own_base HO)) h2)
theorem own_sl {W : World} {b c : Nat} {A : Option Addr} {xs : List Int} (h : W.ownsRow b 5 1 (.slice A xs.length c) xs.length (nums .u8 xs)) (n : Nat) (hn : n = xs.length) : Kd.C (Kd.int .u8) W A n xs ∧ n ≤ c := by
  subst hn
  obtain ⟨A', c', hv, hr⟩ := own_reads h
  injection hv with h1 h2 h3
  subst h1
  refine ⟨C_of_ints hr, ?_⟩
  rcases h.2 with ⟨h, h'⟩ | ⟨g, cap, cur, h, _, _, h1, _⟩
  · injection h with _ h _; omega
  · injection h with _ _ h; omega
theorem own_empty {W : World} {g : Nat} (h : W.heap[g]? = some (.cells #[] 5 (0, 0))) {base : Nat} (hb : base ≤ g) : W.ownsRow base 5 1 (.slice (some ⟨g, 0, none⟩) 0 0) 0 (nums .u8 []) :=
  ⟨rfl, .inr ⟨g, 0, #[], rfl, hb, h, Nat.le_refl _, by decide, rfl, rfl⟩⟩
def Ev27 (x : Ev) (A2 A7 A8 : Option Addr) (c8 : Nat) : Array Value := (evC x A2 A7 A8 x.pol.bs.length x.pol.ss.length c8).toArray
theorem ev27_size (x : Ev) (A2 A7 A8 : Option Addr) (c8 : Nat) : (Try.prog.info? 30).map (·.size) = some (Ev27 x A2 A7 A8 c8).size := by
  have hi30 : (Try.prog.info? 30).map (·.size) = some 27 := by kernel_rfl
  exact hi30
theorem ev27_one (x : Ev) (A2 A7 A8 : Option Addr) (c8 : Nat) : (Ev27 x A2 A7 A8 c8).all (·.oneCell') = true := by simp [Ev27, evC, Value.oneCell']
theorem pick_buildL {P : Program} {o : Oper} {ρ : Operand → Value} {ty : TypeId} {ps : List (Nat × Operand)} {w : World} {l : List (Nat × Value)} {cells : Array Value} (ho : o.op = .build ty ps.toArray) (hm : (ps.map fun (i, x) => (i, ρ x)) = l) (h : P.built ty l = some cells) : (execOp ρ o).run P w = .ok (.value (.agg cells)) w := by
  subst hm
  refine pick_build ho ?_
  rw [List.map_toArray]
  exact h
theorem built1 : Try.prog.built 30 [(0, .int .i64 1), (1, .int .i64 700), (2, .int .i64 300)] = some (evC hE1 none none none 0 0 0).toArray := by kernel_rfl
theorem builtT : Try.prog.built 30 [(0, .int .i64 2), (3, .int .i64 (-5))] = some (evC { ev0 2 with T := -5 } none none none 0 0 0).toArray := by kernel_rfl
theorem builtM : Try.prog.built 30 [(0, .int .i64 2), (5, .int .i64 1)] = some (evC { ev0 2 with n := 1 } none none none 0 0 0).toArray := by kernel_rfl
theorem builtP (A : Option Addr) : Try.prog.built 25 [(0, .int .i64 2), (1, .int .i64 1), (2, .slice A 2 2)] = some (polC hP1 A none 2 0).toArray := by kernel_rfl
set_option maxHeartbeats 8000000 in
theorem head_walk (w : World) (hb hc hz : List Int) (hd_put1 : putE hE1 = hb) (hd_len1 : hb.length = 4) (hd_get1 : getF 1 hb = (hE1, 0)) (hd_get2 : getF 1 (([] ++ hb) ++ [0]) = (ev0 0, 12)) (hd_get3 : getF 9 hb = (ev0 0, 12)) (hd_by1 : ∀ x ∈ hb, 0 ≤ x ∧ x < 256)
    (hd_put3 : putE hE3 = hc) (hd_len3 : hc.length = 14) (hd_get5 : getF 3 hc = (hE3, 0)) (hd_by3 : ∀ x ∈ hc, 0 ≤ x ∧ x < 256) (hd_putZ : putE { ev0 3 with id := 2 } = hz) (hd_lenZ : hz.length = 9) (hd_str : strOfNums hb = ⟨#[248, 10, 216, 4]⟩) : Calls Try.prog 9 #[] w fun e w' => e = .returned (.bool true) ∧ Below w.heap.size w w' := by
  replace hd_put1 := Aside0.mk hd_put1
  replace hd_len1 := Aside0.mk hd_len1
  replace hd_get1 := Aside0.mk hd_get1
  replace hd_get2 := Aside0.mk hd_get2
  replace hd_get3 := Aside0.mk hd_get3
  replace hd_by1 := Aside0.mk hd_by1
  replace hd_put3 := Aside0.mk hd_put3
  replace hd_len3 := Aside0.mk hd_len3
  replace hd_get5 := Aside0.mk hd_get5
  replace hd_by3 := Aside0.mk hd_by3
  replace hd_putZ := Aside0.mk hd_putZ
  replace hd_lenZ := Aside0.mk hd_lenZ
  replace hd_str := Aside0.mk hd_str
  have hu30 := Try.underlying30
  have hu25 := Try.underlying25
  have hi30 : (Try.prog.info? 30).map (·.size) = some 27 := by kernel_rfl
  obtain ⟨Z, hZ, hz30⟩ : ∃ Z, Z = evZ 0 ∧ ∀ W, (zeroValue 30).run Try.prog W = .ok (.agg Z) W := ⟨evZ 0, rfl, zero30⟩
  have sz : Z.size = 27 := by rw [hZ]; rfl
  have hne : ¬ (Z = #[]) := fun h => by rw [h] at sz; cases sz
  have HZ := Aside0.mk hZ
  clear hZ
  have eE1 : ((Z.setIfInBounds 0 (.int .i64 1)).setIfInBounds 1 (.int .i64 700)).setIfInBounds 2 (.int .i64 300) = (evC hE1 none none none 0 0 0).toArray := by rw [HZ.out]; rfl
  have EE1 := Aside0.mk eE1
  have eEN : Z.setIfInBounds 0 (.int .i64 3) = (evC (ev0 3) none none none 0 0 0).toArray := by rw [HZ.out]; rfl
  have EEN := Aside0.mk eEN
  have eEZ : (Z.setIfInBounds 0 (.int .i64 3)).setIfInBounds 4 (.int .i64 2) = (evC { ev0 3 with id := 2 } none none none 0 0 0).toArray := by rw [HZ.out]; rfl
  have EEZ := Aside0.mk eEZ
  have eET : (Z.setIfInBounds 0 (.int .i64 2)).setIfInBounds 3 (.int .i64 (-5)) = (evC { ev0 2 with T := -5 } none none none 0 0 0).toArray := by rw [HZ.out]; rfl
  have EET := Aside0.mk eET
  have eEM : (Z.setIfInBounds 0 (.int .i64 2)).setIfInBounds 5 (.int .i64 1) = (evC { ev0 2 with n := 1 } none none none 0 0 0).toArray := by rw [HZ.out]; rfl
  have EEM := Aside0.mk eEM
  have hi25 : (Try.prog.info? 25).map (·.size) = some 8 := by kernel_rfl
  have eE3 : ∀ A, List.foldl (fun cs x => cs.setIfInBounds (6 + x.snd) x.fst) ((Z.setIfInBounds 0 (.int .i64 3)).setIfInBounds 4 (.int .i64 1)) (polC hP A none 2 0).zipIdx = (evC hE3 A none none 2 0 0).toArray := by rw [HZ.out]; exact fun A => rfl
  have EE3 := Aside0.mk eE3
  have hpl : ∀ A, (polC hP A none 2 0).length = 8 := fun A => rfl
  clear eE3 eE1 eEN eEZ eET eEM
  have B0 := Aside0.mk (Below.refl w.heap.size w)
  go_enter Try.func9, Try.ntmps9
  go_wp2_with fail
  refine (put_z hE1 _ w _ EE1.out hd_in1 rfl rfl rfl hd_put1.out).mono ?_
  rintro e W2 ⟨Ab, cb, rfl, hcb, hCb, hb2⟩
  have B2 := Aside0.mk (B0.out.trans (hb2.mono B0.out.size))
  have C2 := Aside0.mk hCb
  clear hCb hb2 B0
  go_wp2_with fail
  refine (get_sl 1 hb _ W2 Ab cb rfl C2.out hd_by1.out (by rw [hd_len1.out]; decide) _ _ hd_get1.out).mono ?_
  rintro e W3 ⟨A2, A7, A8, c8, rfl, hO3, hb3⟩
  have B3 := Aside0.mk (B2.out.trans (hb3.mono B2.out.size))
  have C3 := Aside0.mk (Kd.C_below C2.out hb3)
  have O3 := Aside0.mk hO3
  clear hO3 hb3 C2 B2
  go_upto_region 3 with (first
    | (with_reducible refine hd_gateS 2 _ _ rfl ?_); refine hd_runS rfl (w1 := (W3.alloc (.cells Z 30)).setRow W3.heap.size (Ev27 hE1 A2 A7 A8 c8)) (pick_store rfl W3.heap.size (Ev27 hE1 A2 A7 A8 c8) rfl rfl 30 Z (pick_new W3 _) (ev27_size _ _ _ _ _) (by rw [sz]; rfl) (ev27_one _ _ _ _ _)) ?_)
  rw [World.setRow_alloc_new]
  have X4 := Aside0.mk (pick_new W3 (.cells (Ev27 hE1 A2 A7 A8 c8) 30))
  have B4 := Aside0.mk (below_alloc B3.out (.cells (Ev27 hE1 A2 A7 A8 c8) 30))
  have C4 := Aside0.mk (Kd.C_alloc C3.out (.cells (Ev27 hE1 A2 A7 A8 c8) 30))
  have O4 := Aside0.mk (O3.out.later (below_alloc (Below.refl _ _) (.cells (Ev27 hE1 A2 A7 A8 c8) 30)))
  generalize W3.alloc (.cells (Ev27 hE1 A2 A7 A8 c8) 30) = W4 at *
  generalize W3.heap.size = g2 at *
  clear B3 C3 O3
  go_wp2_with (first
    | (at_builtin; (with_reducible refine wpl_append W4 W4.heap.size (.tmp 24) (.tmp 25) rfl rfl ?_); refine ⟨_, [], hb, Ab, hb.length, cb, rfl, rfl, rfl, own_empty (heap_alloc_last _ _) (Nat.le_refl _), Kd.C_alloc C4.out _, below_alloc (Below.refl _ _) _, by simp, by rw [hd_len1.out]; decide, ?_⟩; intro A5 c5 W5 ho3 hb3 _; have HO5 := Aside0.mk ho3; have HB5 := Aside0.mk hb3; clear ho3 hb3)
    | (at_builtin; (with_reducible refine wpl_append W4 W4.heap.size (.tmp 26) (.tmp 27) rfl rfl ?_); refine ⟨_, [] ++ hb, [0], _, 1, 1, rfl, rfl, rfl, own_alloc HO5.out _, C_lit W5 [0] (0, 0) (by decide), below_alloc HB5.out _, Nat.le_trans HB5.out.size (by simp), by simp [hd_len1.out], ?_⟩; intro A6 c6 W6 ho4 hb4 _; have HO6 := Aside0.mk ho4; have HB6 := Aside0.mk hb4; clear ho4 hb4))
  have e6 : hb.length + 1 = (([] ++ hb) ++ [0]).length := by simp
  have o6 := own_sl HO6.out _ e6
  refine (get_sl 1 (([] ++ hb) ++ [0]) (hb.length + 1) W6 A6 c6 e6 o6.1 (by intro x hx; simp at hx; rcases hx with hx | hx; exact hd_by1.out x hx; omega) (by rw [← e6, hd_len1.out]; decide) _ _ hd_get2.out).mono ?_
  clear e6 o6
  rintro e W7 ⟨Aa, Ab', Ac, ca, rfl, _, hb7⟩
  have B7 := Aside0.mk (B4.out.trans ((HB6.out.trans (hb7.mono HB6.out.size)).mono B4.out.size))
  have C7 := Aside0.mk (Kd.C_below C4.out (HB6.out.trans (hb7.mono HB6.out.size)))
  have O7 := Aside0.mk (O4.out.later (HB6.out.trans (hb7.mono HB6.out.size)))
  have X7 := Aside0.mk (hd_later X4.out (HB6.out.trans (hb7.mono HB6.out.size)))
  clear B4 C4 O4 X4 hb7 HO6 HB6 HO5 HB5
  go_upto_region 4 with (first
    | (with_reducible refine hd_gateS 4 _ _ rfl ?_); refine hd_runS rfl (w1 := (W7.alloc (.cells Z 30)).setRow W7.heap.size (Ev27 (ev0 0) Aa Ab' Ac ca)) (pick_store rfl W7.heap.size (Ev27 (ev0 0) Aa Ab' Ac ca) rfl rfl 30 Z (pick_new W7 _) (ev27_size _ _ _ _ _) (by rw [sz]; rfl) (ev27_one _ _ _ _ _)) ?_)
  rw [World.setRow_alloc_new]
  have B8 := Aside0.mk (below_alloc B7.out (.cells (Ev27 (ev0 0) Aa Ab' Ac ca) 30))
  have C8 := Aside0.mk (Kd.C_below C7.out (below_alloc (Below.refl _ _) (.cells (Ev27 (ev0 0) Aa Ab' Ac ca) 30)))
  have O8 := Aside0.mk (O7.out.later (below_alloc (Below.refl _ _) (.cells (Ev27 (ev0 0) Aa Ab' Ac ca) 30)))
  have X8 := Aside0.mk (hd_later X7.out (below_alloc (Below.refl _ _) (.cells (Ev27 (ev0 0) Aa Ab' Ac ca) 30)))
  generalize W7.alloc (.cells (Ev27 (ev0 0) Aa Ab' Ac ca) 30) = W8 at *
  clear B7 C7 O7 X7
  go_wp2_with fail
  refine (get_sl 9 hb _ W8 Ab cb rfl C8.out hd_by1.out (by rw [hd_len1.out]; decide) _ _ hd_get3.out).mono ?_
  rintro e W9 ⟨Aa9, Ab9, Ac9, ca9, rfl, _, hb9⟩
  have B9 := Aside0.mk (B8.out.trans ((hb9).mono B8.out.size))
  have C9 := Aside0.mk (Kd.C_below C8.out (hb9))
  have O9 := Aside0.mk (O8.out.later (hb9))
  have X9 := Aside0.mk (hd_later X8.out (hb9))
  clear B8 C8 O8 X8 hb9
  go_upto_region 5 with (first
    | (with_reducible refine hd_gateS 6 _ _ rfl ?_); refine hd_runS rfl (w1 := (W9.alloc (.cells Z 30)).setRow W9.heap.size (Ev27 (ev0 0) Aa9 Ab9 Ac9 ca9)) (pick_store rfl W9.heap.size (Ev27 (ev0 0) Aa9 Ab9 Ac9 ca9) rfl rfl 30 Z (pick_new W9 _) (ev27_size _ _ _ _ _) (by rw [sz]; rfl) (ev27_one _ _ _ _ _)) ?_)
  rw [World.setRow_alloc_new]
  have B10 := Aside0.mk (below_alloc B9.out (.cells (Ev27 (ev0 0) Aa9 Ab9 Ac9 ca9) 30))
  have C10 := Aside0.mk (Kd.C_below C9.out (below_alloc (Below.refl _ _) (.cells (Ev27 (ev0 0) Aa9 Ab9 Ac9 ca9) 30)))
  have O10 := Aside0.mk (O9.out.later (below_alloc (Below.refl _ _) (.cells (Ev27 (ev0 0) Aa9 Ab9 Ac9 ca9) 30)))
  have X10 := Aside0.mk (hd_later X9.out (below_alloc (Below.refl _ _) (.cells (Ev27 (ev0 0) Aa9 Ab9 Ac9 ca9) 30)))
  generalize W9.alloc (.cells (Ev27 (ev0 0) Aa9 Ab9 Ac9 ca9) 30) = W10 at *
  clear B9 C9 O9 X9
  go_wp2_with fail
  refine (get_sl 3 [2, 2, 0, 0, 0, 0, 0, 0, 0] 9 _ _ _ rfl (C_lit W10 [2, 2, 0, 0, 0, 0, 0, 0, 0] (0, 0) (by decide)) (by decide) (by decide) _ _ hd_get4).mono ?_
  rintro e W11 ⟨Aa11, Ab11, Ac11, ca11, rfl, _, hb11⟩
  have B11 := Aside0.mk (B10.out.trans (((below_alloc (Below.refl _ _) _).trans (hb11.mono (by simp))).mono B10.out.size))
  have C11 := Aside0.mk (Kd.C_below C10.out ((below_alloc (Below.refl _ _) _).trans (hb11.mono (by simp))))
  have O11 := Aside0.mk (O10.out.later ((below_alloc (Below.refl _ _) _).trans (hb11.mono (by simp))))
  have X11 := Aside0.mk (hd_later X10.out ((below_alloc (Below.refl _ _) _).trans (hb11.mono (by simp))))
  clear B10 C10 O10 X10 hb11
  go_upto_region 6 with (first
    | (with_reducible refine hd_gateS 8 _ _ rfl ?_); refine hd_runS rfl (w1 := (W11.alloc (.cells Z 30)).setRow W11.heap.size (Ev27 (ev0 0) Aa11 Ab11 Ac11 ca11)) (pick_store rfl W11.heap.size (Ev27 (ev0 0) Aa11 Ab11 Ac11 ca11) rfl rfl 30 Z (pick_new W11 _) (ev27_size _ _ _ _ _) (by rw [sz]; rfl) (ev27_one _ _ _ _ _)) ?_)
  rw [World.setRow_alloc_new]
  have B12 := Aside0.mk (below_alloc B11.out (.cells (Ev27 (ev0 0) Aa11 Ab11 Ac11 ca11) 30))
  have C12 := Aside0.mk (Kd.C_below C11.out (below_alloc (Below.refl _ _) (.cells (Ev27 (ev0 0) Aa11 Ab11 Ac11 ca11) 30)))
  have O12 := Aside0.mk (O11.out.later (below_alloc (Below.refl _ _) (.cells (Ev27 (ev0 0) Aa11 Ab11 Ac11 ca11) 30)))
  have X12 := Aside0.mk (hd_later X11.out (below_alloc (Below.refl _ _) (.cells (Ev27 (ev0 0) Aa11 Ab11 Ac11 ca11) 30)))
  generalize W11.alloc (.cells (Ev27 (ev0 0) Aa11 Ab11 Ac11 ca11) 30) = W12 at *
  clear B11 C11 O11 X11
  go_upto_region 7 with fail
  have eL : ((W12.alloc (.cells #[.int .i64 0, .int .i64 (-1), .int .i64 800, .int .i64 2] 46)).alloc (.cells #[.int .i64 2, .int .i64 0, .slice (some ⟨W12.heap.size, 0, none⟩) 2 2, .int .i64 0, .int .i64 0, .int .i64 0, .int .i64 0, .slice none 0 0] 25)) = ((W12.alloc (.cells (cells2 (hP.bs.map prB)).toArray 46)).alloc (.cells (polC hP (some ⟨W12.heap.size, 0, none⟩) none 2 0).toArray 25)) := rfl
  rw [eL]
  clear eL
  have hbL := below_alloc (below_alloc (Below.refl W12.heap.size W12) (.cells (cells2 (hP.bs.map prB)).toArray 46)) (.cells (polC hP (some ⟨W12.heap.size, 0, none⟩) none 2 0).toArray 25)
  have hV := hd_later (pick_new W12 (.cells (cells2 (hP.bs.map prB)).toArray 46)) (below_alloc (Below.refl _ _) (.cells (polC hP (some ⟨W12.heap.size, 0, none⟩) none 2 0).toArray 25))
  have hY := pick_new (W12.alloc (.cells (cells2 (hP.bs.map prB)).toArray 46)) (.cells (polC hP (some ⟨W12.heap.size, 0, none⟩) none 2 0).toArray 25)
  simp only [World.size_alloc] at hY
  have B14' := Aside0.mk (B12.out.trans ((hbL).mono B12.out.size))
  have C14 := Aside0.mk (Kd.C_below C12.out (hbL))
  have O14 := Aside0.mk (O12.out.later (hbL))
  have X14 := Aside0.mk (hd_later X12.out (hbL))
  have B14 := B14'
  clear B14'
  generalize (W12.alloc (.cells (cells2 (hP.bs.map prB)).toArray 46)).alloc (.cells (polC hP (some ⟨W12.heap.size, 0, none⟩) none 2 0).toArray 25) = W14 at *
  generalize W12.heap.size = gr at *
  have V14 := Aside0.mk hV
  have Y14 := Aside0.mk hY
  have K14 := Aside0.mk (C46_of (bs := hP.bs) hV (by decide))
  clear B12 C12 O12 X12 hbL hV hY
  go_wp2_with (first
    | (with_reducible refine hd_gate 46 rfl ?_); refine hd_run rfl (v := .agg (polC hP (some ⟨gr, 0, none⟩) none 2 0).toArray) (w1 := W14) (pick_loadRow rfl (gr + 1) rfl 25 _ (0, 0) _ Y14.out hu25 rfl hi25) ?_)
  refine (put_ev hE3 hc W14 _ (some ⟨gr, 0, none⟩) none none ⟨gr, 0, none⟩ ⟨0, 0, none⟩ 2 0 0 (EE3.out _) ⟨⟨K14.out, Nat.le_refl _, nilC _ _ _, Nat.le_refl _⟩, nilC _ _ _, Nat.le_refl _⟩ ⟨fun j _ => by rw [show (⟨gr, 0, none⟩ : Addr).add (j * 2) = ⟨gr, j * 2, none⟩ from add_plain _ _]; exact nf_box V14.out, fun j h => absurd h (Nat.not_lt_zero j)⟩ hd_in3 (fun _ => rfl) (fun h => absurd h (Nat.lt_irrefl 0)) (by decide) hd_put3.out).mono ?_
  rintro e W15 ⟨A15, c15, rfl, hc15, hD15, hb15⟩
  have D15 := Aside0.mk hD15
  have B15 := Aside0.mk (B14.out.trans ((hb15).mono B14.out.size))
  have C15 := Aside0.mk (Kd.C_below C14.out (hb15))
  have O15 := Aside0.mk (O14.out.later (hb15))
  have X15 := Aside0.mk (hd_later X14.out (hb15))
  have Y15 := Aside0.mk (hd_later Y14.out (hb15))
  have V15 := Aside0.mk (hd_later V14.out (hb15))
  have K15 := Aside0.mk (Kd.C_below K14.out (hb15))
  clear B14 C14 O14 X14 Y14 V14 K14 hb15 hD15
  go_wp2_with fail
  refine (get_sl 3 hc _ W15 A15 c15 rfl D15.out hd_by3.out (by rw [hd_len3.out]; decide) _ _ hd_get5.out).mono ?_
  rintro e W16 ⟨A2', A7', A8', c8', rfl, hQ16, hb16⟩
  have Q16 := Aside0.mk hQ16
  have B16 := Aside0.mk (B15.out.trans ((hb16).mono B15.out.size))
  have C16 := Aside0.mk (Kd.C_below C15.out (hb16))
  have O16 := Aside0.mk (O15.out.later (hb16))
  have X16 := Aside0.mk (hd_later X15.out (hb16))
  have Y16 := Aside0.mk (hd_later Y15.out (hb16))
  have V16 := Aside0.mk (hd_later V15.out (hb16))
  have K16 := Aside0.mk (Kd.C_below K15.out (hb16))
  clear B15 C15 O15 X15 Y15 V15 K15 D15 hb16 hQ16
  go_upto_region 9 with (first
    | (with_reducible refine hd_gateS 12 _ _ rfl ?_); refine hd_runS rfl (w1 := (W16.alloc (.cells Z 30)).setRow W16.heap.size (Ev27 hE3 A2' A7' A8' c8')) (pick_store rfl W16.heap.size (Ev27 hE3 A2' A7' A8' c8') rfl rfl 30 Z (pick_new W16 _) (ev27_size _ _ _ _ _) (by rw [sz]; rfl) (ev27_one _ _ _ _ _)) ?_)
  rw [World.setRow_alloc_new]
  have B17 := Aside0.mk (below_alloc B16.out (.cells (Ev27 hE3 A2' A7' A8' c8') 30))
  have C17 := Aside0.mk (Kd.C_below C16.out (below_alloc (Below.refl _ _) (.cells (Ev27 hE3 A2' A7' A8' c8') 30)))
  have O17 := Aside0.mk (O16.out.later (below_alloc (Below.refl _ _) (.cells (Ev27 hE3 A2' A7' A8' c8') 30)))
  have X17 := Aside0.mk (hd_later X16.out (below_alloc (Below.refl _ _) (.cells (Ev27 hE3 A2' A7' A8' c8') 30)))
  have Y17 := Aside0.mk (hd_later Y16.out (below_alloc (Below.refl _ _) (.cells (Ev27 hE3 A2' A7' A8' c8') 30)))
  have V17 := Aside0.mk (hd_later V16.out (below_alloc (Below.refl _ _) (.cells (Ev27 hE3 A2' A7' A8' c8') 30)))
  have K17 := Aside0.mk (Kd.C_below K16.out (below_alloc (Below.refl _ _) (.cells (Ev27 hE3 A2' A7' A8' c8') 30)))
  have Q17 := Aside0.mk (Q16.out.later (below_alloc (Below.refl _ _) (.cells (Ev27 hE3 A2' A7' A8' c8') 30)))
  have P17 := Aside0.mk (pick_new W16 (.cells (Ev27 hE3 A2' A7' A8' c8') 30))
  generalize W16.alloc (.cells (Ev27 hE3 A2' A7' A8' c8') 30) = W17 at *
  generalize W16.heap.size = g12 at *
  clear B16 C16 O16 X16 Y16 V16 K16 Q16
  go_wp2_with fail
  refine (put_z (ev0 3) [] W17 _ EEN.out hd_inN rfl rfl rfl hd_putN).mono ?_
  rintro e W18 ⟨A18, c18, rfl, hc18, hD18, hb18⟩
  have B18 := Aside0.mk (B17.out.trans ((hb18).mono B17.out.size))
  have C18 := Aside0.mk (Kd.C_below C17.out (hb18))
  have O18 := Aside0.mk (O17.out.later (hb18))
  have X18 := Aside0.mk (hd_later X17.out (hb18))
  have Y18 := Aside0.mk (hd_later Y17.out (hb18))
  have V18 := Aside0.mk (hd_later V17.out (hb18))
  have K18 := Aside0.mk (Kd.C_below K17.out (hb18))
  have Q18 := Aside0.mk (Q17.out.later (hb18))
  have P18 := Aside0.mk (hd_later P17.out (hb18))
  clear B17 C17 O17 X17 Y17 V17 K17 Q17 P17 hb18 hD18
  go_wp2_with fail
  refine (put_z { ev0 3 with id := 2 } hz W18 _ EEZ.out hd_inZ rfl rfl rfl hd_putZ.out).mono ?_
  rintro e W19 ⟨A19, c19, rfl, hc19, hD19, hb19⟩
  have B19 := Aside0.mk (B18.out.trans ((hb19).mono B18.out.size))
  have C19 := Aside0.mk (Kd.C_below C18.out (hb19))
  have O19 := Aside0.mk (O18.out.later (hb19))
  have X19 := Aside0.mk (hd_later X18.out (hb19))
  have Y19 := Aside0.mk (hd_later Y18.out (hb19))
  have V19 := Aside0.mk (hd_later V18.out (hb19))
  have K19 := Aside0.mk (Kd.C_below K18.out (hb19))
  have Q19 := Aside0.mk (Q18.out.later (hb19))
  have P19 := Aside0.mk (hd_later P18.out (hb19))
  clear B18 C18 O18 X18 Y18 V18 K18 Q18 P18 hb19 hD19
  rw [hd_lenZ.out]
  have k9 := Kd.C_string (c := cb) Try.underlying28 Try.underlying5 Try.underlying9 C19.out
  rw [hd_str.out] at k9
  go_upto_region 11 with fail
  simp only [List.append_eq, List.cons_append, List.nil_append]
  have hz27 : ∀ W, (zeroValue 27).run Try.prog W = .ok (.agg #[.int .i64 0, .int .i64 0, .int .i64 0, .int .i64 0, .int .i64 0, .int .i64 0, .int .i64 0, .int .i64 0, .int .i64 0, .int .i64 0, .int .i64 0, .int .i64 0]) W := fun W => by kernel_rfl
  go_wp2_with (first
    | (with_reducible refine hd_gate 62 rfl ?_); refine hd_run (by rfl) (v := .agg (Ev27 hE1 A2 A7 A8 c8)) (w1 := W19) (pick_loadRow rfl g2 rfl 30 _ (0, 0) _ X19.out hu30 rfl (ev27_size _ _ _ _ _)) ?_
    | (with_reducible refine hd_gate 63 rfl ?_); refine hd_run (by rfl) (v := .agg (evC hE1 none none none 0 0 0).toArray) (w1 := W19) (pick_buildL rfl rfl built1) ?_)
  refine (same_ev 100 hE1 hE1 _ _ A2 A7 A8 none none none _ _ _ 0 0 0 true _ rfl rfl O19.out.1 (z_own hE1 _ 0 0 0 rfl rfl rfl).1 hd_same1).mono ?_
  rintro e W20 ⟨rfl, hb20⟩
  have B20 := Aside0.mk (B19.out.trans ((hb20).mono B19.out.size))
  have C20 := Aside0.mk (Kd.C_below C19.out (hb20))
  have O20 := Aside0.mk (O19.out.later (hb20))
  have X20 := Aside0.mk (hd_later X19.out (hb20))
  have Y20 := Aside0.mk (hd_later Y19.out (hb20))
  have V20 := Aside0.mk (hd_later V19.out (hb20))
  have K20 := Aside0.mk (Kd.C_below K19.out (hb20))
  have Q20 := Aside0.mk (Q19.out.later (hb20))
  have P20 := Aside0.mk (hd_later P19.out (hb20))
  clear B19 C19 O19 X19 Y19 V19 K19 Q19 P19 hb20
  have hq10 : policyF hP = true := hd_pol
  go_wp2_with (first
    | (with_reducible refine hd_gate 88 rfl ?_); refine hd_run (by rfl) (v := .agg (polC hP A2' A7' hP.bs.length hP.ss.length).toArray) (w1 := W20) (pick_load rfl rfl (pick_loadAt W20 ⟨g12, 6, none⟩ 25 (polC hP A2' A7' hP.bs.length hP.ss.length) _ (seg_at (cs := evC hE3 A2' A7' A8' hE3.pol.bs.length hE3.pol.ss.length c8') P20.out 6 8) hu25 rfl hi25)) ?_
    | (with_reducible refine hd_gate 89 rfl ?_); refine hd_run (by rfl) (v := .agg (polC hP (some ⟨gr, 0, none⟩) none 2 0).toArray) (w1 := W20) (pick_loadRow rfl (gr + 1) rfl 25 _ (0, 0) _ Y20.out hu25 rfl hi25) ?_)
  refine (same_pol 100 hP hP _ _ A2' A7' (some ⟨gr, 0, none⟩) none _ _ 2 0 true W20 rfl rfl Q20.out.1.pol ⟨K20.out, Nat.le_refl _, nilC _ _ _, Nat.le_refl _⟩ hd_same3).mono ?_
  rintro e W21 ⟨rfl, hb21⟩
  have B21 := Aside0.mk (B20.out.trans ((hb21).mono B20.out.size))
  have C21 := Aside0.mk (Kd.C_below C20.out (hb21))
  have O21 := Aside0.mk (O20.out.later (hb21))
  have X21 := Aside0.mk (hd_later X20.out (hb21))
  have Y21 := Aside0.mk (hd_later Y20.out (hb21))
  have V21 := Aside0.mk (hd_later V20.out (hb21))
  have K21 := Aside0.mk (Kd.C_below K20.out (hb21))
  have Q21 := Aside0.mk (Q20.out.later (hb21))
  have P21 := Aside0.mk (hd_later P20.out (hb21))
  clear B20 C20 O20 X20 Y20 V20 K20 Q20 P20 hb21
  go_wp2_with fail
  refine (governorlaw09_Plain.calls 1 20 4 3 100 1 50 4 2 1 3 1 W21 rfl).mono ?_
  rintro e W22 ⟨rfl, hb22⟩
  have B22 := Aside0.mk (B21.out.trans ((hb22).mono B21.out.size))
  have C22 := Aside0.mk (Kd.C_below C21.out (hb22))
  have O22 := Aside0.mk (O21.out.later (hb22))
  have X22 := Aside0.mk (hd_later X21.out (hb22))
  have Y22 := Aside0.mk (hd_later Y21.out (hb22))
  have V22 := Aside0.mk (hd_later V21.out (hb22))
  have K22 := Aside0.mk (Kd.C_below K21.out (hb22))
  have Q22 := Aside0.mk (Q21.out.later (hb22))
  have P22 := Aside0.mk (hd_later P21.out (hb22))
  clear B21 C21 O21 X21 Y21 V21 K21 Q21 P21 hb22
  go_wp2_with fail
  refine (event_Conf.calls 1 20 4 3 100 1 50 4 2 1 3 1 true W22 (by kernel_rfl)).mono ?_
  rintro e W23 ⟨rfl, hb23⟩
  have B23 := Aside0.mk (B22.out.trans ((hb23).mono B22.out.size))
  have C23 := Aside0.mk (Kd.C_below C22.out (hb23))
  have O23 := Aside0.mk (O22.out.later (hb23))
  have X23 := Aside0.mk (hd_later X22.out (hb23))
  have Y23 := Aside0.mk (hd_later Y22.out (hb23))
  have V23 := Aside0.mk (hd_later V22.out (hb23))
  have K23 := Aside0.mk (Kd.C_below K22.out (hb23))
  have Q23 := Aside0.mk (Q22.out.later (hb23))
  have P23 := Aside0.mk (hd_later P22.out (hb23))
  clear B22 C22 O22 X22 Y22 V22 K22 Q22 P22 hb23
  go_wp2_with fail
  refine (event_Conf.calls 0 0 0 0 0 0 0 0 0 0 0 0 false W23 (by kernel_rfl)).mono ?_
  rintro e W24 ⟨rfl, hb24⟩
  have B24 := Aside0.mk (B23.out.trans ((hb24).mono B23.out.size))
  have C24 := Aside0.mk (Kd.C_below C23.out (hb24))
  have O24 := Aside0.mk (O23.out.later (hb24))
  have X24 := Aside0.mk (hd_later X23.out (hb24))
  have Y24 := Aside0.mk (hd_later Y23.out (hb24))
  have V24 := Aside0.mk (hd_later V23.out (hb24))
  have K24 := Aside0.mk (Kd.C_below K23.out (hb24))
  have Q24 := Aside0.mk (Q23.out.later (hb24))
  have P24 := Aside0.mk (hd_later P23.out (hb24))
  clear B23 C23 O23 X23 Y23 V23 K23 Q23 P23 hb24
  go_wp2_with (first
    | (with_reducible refine hd_gate 102 rfl ?_); refine hd_run (by rfl) (v := .agg (polC hP (some ⟨gr, 0, none⟩) none 2 0).toArray) (w1 := W24) (pick_loadRow rfl (gr + 1) rfl 25 _ (0, 0) _ Y24.out hu25 rfl hi25) ?_)
  have hp1 := policy_calls hP W24 (some ⟨gr, 0, none⟩) none 2 0 ⟨K24.out, Nat.le_refl _, nilC _ _ _, Nat.le_refl _⟩
  rw [hd_pol] at hp1
  refine hp1.mono ?_
  rintro e W25 ⟨rfl, hb25⟩
  have B25 := Aside0.mk (B24.out.trans ((hb25).mono B24.out.size))
  have C25 := Aside0.mk (Kd.C_below C24.out (hb25))
  have O25 := Aside0.mk (O24.out.later (hb25))
  have X25 := Aside0.mk (hd_later X24.out (hb25))
  have Y25 := Aside0.mk (hd_later Y24.out (hb25))
  have V25 := Aside0.mk (hd_later V24.out (hb25))
  have K25 := Aside0.mk (Kd.C_below K24.out (hb25))
  have Q25 := Aside0.mk (Q24.out.later (hb25))
  have P25 := Aside0.mk (hd_later P24.out (hb25))
  clear B24 C24 O24 X24 Y24 V24 K24 Q24 P24 hb25 hp1
  have ch25 : W25.cell? ⟨gr + 1, 2, none⟩ = some (.slice (some ⟨gr, 0, none⟩) 2 2) := pick_cellE Y25.out 2 rfl
  go_wp2_with (first
    | (with_reducible refine hd_gate 108 rfl ?_); refine hd_run (by rfl) (v := .agg (polC hP1 (some ⟨gr, 0, none⟩) none 2 0).toArray) (w1 := W25) (pick_buildL rfl rfl (builtP _)) ?_)
  have hp1 := policy_calls hP1 W25 (some ⟨gr, 0, none⟩) none 2 0 ⟨K25.out, Nat.le_refl _, nilC _ _ _, Nat.le_refl _⟩
  rw [hd_pol1] at hp1
  refine hp1.mono ?_
  rintro e W26 ⟨rfl, hb26⟩
  have B26 := Aside0.mk (B25.out.trans ((hb26).mono B25.out.size))
  have C26 := Aside0.mk (Kd.C_below C25.out (hb26))
  have O26 := Aside0.mk (O25.out.later (hb26))
  have X26 := Aside0.mk (hd_later X25.out (hb26))
  have Y26 := Aside0.mk (hd_later Y25.out (hb26))
  have V26 := Aside0.mk (hd_later V25.out (hb26))
  have K26 := Aside0.mk (Kd.C_below K25.out (hb26))
  have Q26 := Aside0.mk (Q25.out.later (hb26))
  have P26 := Aside0.mk (hd_later P25.out (hb26))
  clear B25 C25 O25 X25 Y25 V25 K25 Q25 P25 hb26 hp1 ch25
  go_wp2_with (first
    | (with_reducible refine hd_gate 123 rfl ?_); refine hd_run (by rfl) (v := .agg (evC { ev0 2 with T := -5 } none none none 0 0 0).toArray) (w1 := W26) (pick_buildL rfl rfl builtT) ?_)
  refine (right_z { ev0 2 with T := -5 } true W26 _ rfl rfl rfl rfl hd_T).mono ?_
  rintro e W27 ⟨rfl, hb27⟩
  have B27 := Aside0.mk (B26.out.trans ((hb27).mono B26.out.size))
  have C27 := Aside0.mk (Kd.C_below C26.out (hb27))
  have O27 := Aside0.mk (O26.out.later (hb27))
  have X27 := Aside0.mk (hd_later X26.out (hb27))
  have Y27 := Aside0.mk (hd_later Y26.out (hb27))
  have V27 := Aside0.mk (hd_later V26.out (hb27))
  have K27 := Aside0.mk (Kd.C_below K26.out (hb27))
  have Q27 := Aside0.mk (Q26.out.later (hb27))
  have P27 := Aside0.mk (hd_later P26.out (hb27))
  clear B26 C26 O26 X26 Y26 V26 K26 Q26 P26 hb27
  go_wp2_with (first
    | (with_reducible refine hd_gate 127 rfl ?_); refine hd_run (by rfl) (v := .agg (evC { ev0 2 with n := 1 } none none none 0 0 0).toArray) (w1 := W27) (pick_buildL rfl rfl builtM) ?_)
  refine (right_z { ev0 2 with n := 1 } false W27 _ rfl rfl rfl rfl hd_N).mono ?_
  rintro e W28 ⟨rfl, hb28⟩
  have B28 := Aside0.mk (B27.out.trans ((hb28).mono B27.out.size))
  have C28 := Aside0.mk (Kd.C_below C27.out (hb28))
  have O28 := Aside0.mk (O27.out.later (hb28))
  have X28 := Aside0.mk (hd_later X27.out (hb28))
  have Y28 := Aside0.mk (hd_later Y27.out (hb28))
  have V28 := Aside0.mk (hd_later V27.out (hb28))
  have K28 := Aside0.mk (Kd.C_below K27.out (hb28))
  have Q28 := Aside0.mk (Q27.out.later (hb28))
  have P28 := Aside0.mk (hd_later P27.out (hb28))
  clear B27 C27 O27 X27 Y27 V27 K27 Q27 P27 hb28
  go_wp2_with fail
  go_ret
  exact ⟨rfl, B28.out⟩
theorem head_holds (w : World) : Calls Try.prog 9 #[] w fun e w' => e = .returned (.bool true) ∧ Below w.heap.size w w' :=
  head_walk w [248, 10, 216, 4] hC [4, 0, 0, 0, 0, 0, 0, 0, 0] hd_put1 rfl hd_get1 hd_get2 hd_get3 (by decide) hd_put3 rfl hd_get5 (by decide) hd_putZ rfl (by decide +kernel)
end Go.Proofs.Ytldohapdhljoaaa.Wire
namespace Go.Proofs.Ytldohapdhljoaaa.Wire
open Go.RowKit Go.Proofs.YtldohapdhljoaaaW.PrintWords Go.Proofs.Ytldohapdhljoaaa.Obj Go.Proofs.Ytldohapdhljoaaa.Print
set_option linter.unusedVariables false
set_option linter.unusedSimpArgs false
set_option maxRecDepth 100000
def greatE (e : Ev) : Bool := decide ((e.pol.bs.length : Int) > 60) || (decide ((e.pol.ss.length : Int) > 60) || decide ((e.body.length : Int) > 3000))
theorem great_ev (e : Ev) (W : World) (cs : Array Value) (A2 A7 A8 : Option Addr) (c2 c7 c8 : Nat) (hcs : cs = (evC e A2 A7 A8 c2 c7 c8).toArray) (h : EvAt e W A2 A7 A8 c2 c7 c8) :
    Calls Try.prog 10 #[.agg cs] W fun q W' => q = .returned (.bool (greatE e)) ∧ Below W.heap.size W W' := by
  subst hcs
  exact governorlaw09_Great.calls e.k e.u e.dm e.T e.id e.n e.pol.k e.pol.t A2 c2 e.pol.bs e.pol.p e.pol.i e.pol.d e.pol.per A7 c7 e.pol.ss e.c.mi e.c.ma e.c.ra e.c.st e.c.ca e.c.de e.c.sl e.c.wi e.c.mg e.c.ce e.c.pr e.c.br A8 c8 e.body (greatE e) W h.pol.r2 h.pol.m2 h.pol.r7 h.pol.m7 h.r8 h.m8 (by
    unfold governorlaw09_Great.f greatE
    by_cases h1 : (e.pol.bs.length : Int) > 60
    · rw [if_pos h1, decide_eq_true h1]; rfl
    · rw [if_neg h1, decide_eq_false h1]
      by_cases h2 : (e.pol.ss.length : Int) > 60
      · rw [if_pos h2, decide_eq_true h2]; rfl
      · rw [if_neg h2, decide_eq_false h2]; rfl)
end Go.Proofs.Ytldohapdhljoaaa.Wire
