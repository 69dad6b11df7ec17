/- Several texts of this claim, one behind the other. -/
import Derived.Test.YtldohapdhljoaaaBf
namespace Go.Proofs.Ytldohapdhljoaaa.Wire
open Go.RowKit Go.Proofs.YtldohapdhljoaaaW.PrintWords Go.Proofs.Ytldohapdhljoaaa.Obj
set_option linter.unusedVariables false
set_option linter.unusedSimpArgs false
set_option maxRecDepth 100000
theorem perm_map {As Bs : List Asr} (h : As.Perm Bs) : ∃ σ : Nat → Nat, (∀ i j, σ i = σ j → i = j) ∧ ∀ i, Bs[i]? = As[σ i]? := by
  induction h with
  | nil => exact ⟨id, fun _ _ h => h, fun _ => rfl⟩
  | cons x _ ih =>
    obtain ⟨σ, h1, h2⟩ := ih
    refine ⟨fun i => match i with | 0 => 0 | i + 1 => σ i + 1, fun i j h => ?_, fun i => ?_⟩
    · cases i <;> cases j <;> simp at h ⊢
      exact h1 _ _ h
    · cases i with
      | zero => rfl
      | succ i => simpa using h2 i
  | swap x y l =>
    refine ⟨fun i => match i with | 0 => 1 | 1 => 0 | i + 2 => i + 2, fun i j h => ?_, fun i => ?_⟩
    · rcases i with _ | _ | i <;> rcases j with _ | _ | j <;> simp at h ⊢
      exact h
    · rcases i with _ | _ | i <;> rfl
  | trans _ _ ih1 ih2 =>
    obtain ⟨σ, a1, a2⟩ := ih1
    obtain ⟨τ, b1, b2⟩ := ih2
    exact ⟨fun i => σ (τ i), fun i j h => b1 _ _ (a1 _ _ h), fun i => (b2 i).trans (a2 _)⟩
theorem st_perm {w0 w : World} {As Bs : List Asr} (h : St w0 As w) (hp : As.Perm Bs) : St w0 Bs w := by
  obtain ⟨⟨h0, F, hF⟩, h2⟩ := h
  obtain ⟨σ, s1, s2⟩ := perm_map hp
  exact ⟨⟨h0, fun i => F (σ i), ⟨fun i k hk => hF.lies _ k hk, fun i j k hi hj => s1 _ _ (hF.apart _ _ k hi hj), fun i A hA => hF.each _ A ((s2 i).symm.trans hA)⟩⟩, h2⟩
theorem st_tail {w0 w : World} {As : List Asr} {A : Asr} (h : St w0 (A :: As) w) : St w0 As w :=
  (st_perm h (List.perm_append_comm (l₁ := [A]) (l₂ := As))).left
theorem st_weak {w0 w : World} {As : List Asr} (h : St w0 As w) (i : Nat) {A A' : Asr} (hi : As[i]? = some A) (hA : ∀ S, A.holds w S → A'.holds w S) : St w0 (As.set i A') w := by
  obtain ⟨S, s1, s2, s3, s4⟩ := h.at_ i hi
  exact s3 (Upd.refl0 (hA S s2) (fun k hk => (s1 k hk).2))
theorem st_box {w0 w : World} {As : List Asr} {T : TypeId} {g : Nat} {cs : Array Value} (h : St w0 As w) (hm : boxA T g cs ∈ As) : w.heap[g]? = some (.cells cs T (0, 0)) := by
  obtain ⟨i, hi⟩ := List.mem_iff_getElem?.1 hm
  obtain ⟨S, _, ⟨h1, _⟩, _⟩ := h.at_ i hi
  exact h1
theorem setCell_box {w : World} {b off : Nat} {cs : Array Value} {T : TypeId} {fr : Nat × Nat} (v : Value) (h : w.heap[b]? = some (.cells cs T fr)) : (w.setCell ⟨b, off, none⟩ v).heap[b]? = some (.cells (cs.setIfInBounds off v) T fr) := by
  unfold World.setCell
  dsimp only
  rw [Array.getElem?_modify, if_pos rfl, h]
  rfl
theorem st_put {w0 w : World} {As : List Asr} {T : TypeId} {b : Nat} {cs : Array Value} (h : St w0 As w) (j : Nat) (hj : As[j]? = some (boxA T b cs)) (off : Nat) (v : Value) : St w0 (As.set j (boxA T b (cs.setIfInBounds off v))) (w.setCell ⟨b, off, none⟩ v) := by
  obtain ⟨S, s1, ⟨s2, s5⟩, s3, s4⟩ := h.at_ j hj
  exact s3 ⟨(Ch.refl S w).setCell (.inl s5) v, S, ⟨fun _ => .inl, fun k hk => by have := (s1 k hk).2; simpa [World.setCell] using this⟩, setCell_box v s2, s5⟩
theorem nf_box {w : World} {b off : Nat} {cs : Array Value} {T : TypeId} (h : w.heap[b]? = some (.cells cs T (0, 0))) : w.frozen? ⟨b, off, none⟩ = false := by
  simp [World.frozen?, h]
theorem rNum_bytes {l : List Int} {e : Int} (h : ∀ x ∈ l, 0 ≤ x ∧ x < 256) : ∀ x ∈ (rNum l e).2.1, 0 ≤ x ∧ x < 256 := by
  unfold rNum rStep
  split
  · split
    · exact fun x hx => h x (List.mem_of_mem_drop hx)
    · exact h
  · exact h
theorem rInt_bytes {l : List Int} {e : Int} (a b : Int) (h : ∀ x ∈ l, 0 ≤ x ∧ x < 256) : ∀ x ∈ (rInt a b l e).2.1, 0 ≤ x ∧ x < 256 := by
  unfold rInt rStep
  split
  · split
    · exact fun x hx => h x (List.mem_of_mem_drop hx)
    · exact h
  · exact h
theorem rNum_range {l : List Int} (e : Int) (h : ∀ x ∈ l, 0 ≤ x ∧ x < 256) : -9223372036854775808 ≤ (rNum l e).1 ∧ (rNum l e).1 ≤ 9223372036854775807 := by
  unfold rNum rStep
  split
  · split
    · rename_i h2
      have h3 := dec_form l (dec l).1 (dec l).2.1 h (by rw [← h2])
      exact ⟨h3.2.2.2.1, h3.2.2.2.2⟩
    · simp
  · simp
theorem rInt_range (most : Int) (l : List Int) (e : Int) (hm : 0 ≤ most) : 0 ≤ (rInt 0 most l e).1 ∧ (rInt 0 most l e).1 ≤ most := by
  unfold rInt rStep within
  split
  · split
    · rw [if_neg (by dsimp only; omega)]
      exact ⟨Int.le_refl _, hm⟩
    · split
      · dsimp only
        omega
      · exact ⟨Int.le_refl _, hm⟩
  · exact ⟨Int.le_refl _, hm⟩
structure RS where
  l : List Int
  e : Int
  cs : Array Value
def RS.num (s : RS) (o : Nat) : RS := ⟨(rNum s.l s.e).2.1, (rNum s.l s.e).2.2, s.cs.setIfInBounds o (.int .i64 (rNum s.l s.e).1)⟩
def RS.nums (s : RS) (os : List Nat) : RS := os.foldl RS.num s
def RS.ok (s : RS) : Prop := ∀ x ∈ s.l, 0 ≤ x ∧ x < 256
def RS.int (s : RS) (o : Nat) : Prop := ∃ v, s.cs[o]? = some (.int .i64 v) ∧ -9223372036854775808 ≤ v ∧ v ≤ 9223372036854775807
theorem RS.ok_num {s : RS} (h : s.ok) (o : Nat) : (s.num o).ok := rNum_bytes h
theorem RS.int_num {s : RS} (h : s.ok) (o : Nat) {p : Nat} (hp : s.int p) : (s.num o).int p := by
  obtain ⟨v, h1, h2, h3⟩ := hp
  unfold RS.num RS.int
  dsimp only
  rw [Array.getElem?_setIfInBounds]
  split
  · rename_i e
    subst e
    have hlt : o < s.cs.size := (Array.getElem?_eq_some_iff.1 h1).1
    rw [if_pos hlt]
    exact ⟨_, rfl, rNum_range s.e h⟩
  · exact ⟨v, h1, h2, h3⟩
theorem RS.nums_snoc (s : RS) (os : List Nat) (k : Nat) (hk : k < os.length) : s.nums (os.take (k + 1)) = (s.nums (os.take k)).num (os[k]'hk) := by
  unfold RS.nums
  rw [List.take_succ_eq_append_getElem hk, List.foldl_append]
  rfl
theorem RS.ok_nums {s : RS} (h : s.ok) : ∀ os : List Nat, (s.nums os).ok
  | [] => h
  | o :: os => RS.ok_nums (RS.ok_num h o) os
theorem RS.int_nums {s : RS} (h : s.ok) {p : Nat} (hp : s.int p) : ∀ os : List Nat, (s.nums os).int p
  | [] => hp
  | o :: os => RS.int_nums (RS.ok_num h o) (RS.int_num h o hp) os
def RT (g b : Nat) (T : TypeId) (s : RS) (As : List Asr) : List Asr := rdA g s.l s.e :: boxA T b s.cs :: As
theorem rt_push {g b : Nat} {T : TypeId} {s : RS} {As Bs : List Asr} : RT g b T s As ++ Bs = RT g b T s (As ++ Bs) := rfl
theorem rt_left {w0 w : World} {g b : Nat} {T : TypeId} {s : RS} {As Bs : List Asr} (h : St w0 (RT g b T s (As ++ Bs)) w) : St w0 (RT g b T s As) w := St.left (As := RT g b T s As) (Bs := Bs) (by rw [rt_push]; exact h)
theorem rt_box {w0 w : World} {g b : Nat} {T : TypeId} {s : RS} {As : List Asr} (h : St w0 (RT g b T s As) w) : w.heap[b]? = some (.cells s.cs T (0, 0)) := st_box (cs := s.cs) (T := T) h (by simp [RT])
set_option maxHeartbeats 4000000 in
theorem rd_num {w0 w : World} {As : List Asr} (g b o : Nat) (T : TypeId) (s : RS) (h : St w0 (RT g b T s As) w) (hok : s.ok) (hint : s.int o) :
    Calls Try.prog 80 #[.agg #[.pointer (some ⟨g, 0, none⟩)], .pointer (some ⟨b, o, none⟩)] w fun e w' => e = .returned (.tuple #[]) ∧ St w0 (RT g b T (s.num o) As) w' := by
  have H := Aside0.mk h
  clear h
  go_enter Try.func80, Try.ntmps80
  go_upto_region 1 with fail
  have h1 := H.out.push (below_alloc (Below.refl _ _) (.cells #[.pointer (some ⟨g, 0, none⟩)] 54)) (boxA_new w 54 #[.pointer (some ⟨g, 0, none⟩)])
  rw [rt_push] at h1
  have cx : (w.alloc (.cells #[.pointer (some ⟨g, 0, none⟩)] 54)).cell? ⟨w.heap.size, 0, none⟩ = some (.pointer (some ⟨g, 0, none⟩)) := pick_cellE (heap_alloc_new w _) 0 rfl
  generalize w.heap.size = gx at *
  generalize w.alloc (.cells #[.pointer (some ⟨g, 0, none⟩)] 54) = w1 at *
  have H1 := Aside0.mk h1
  clear h1 H
  go_wp2_with fail
  refine (H1.out.rnum 0 g s.l s.e rfl hok).mono ?_
  rintro e w2 ⟨rfl, h2⟩
  have h3 := rt_left (s := ⟨(rNum s.l s.e).2.1, (rNum s.l s.e).2.2, s.cs⟩) (b := b) (T := T) (As := As) (Bs := [boxA 54 gx #[.pointer (some ⟨g, 0, none⟩)]]) (g := g) h2
  obtain ⟨v, hv, _, _⟩ := hint
  have cb := pick_cellE (rt_box h3) o hv
  have cf := nf_box (off := o) (rt_box h3)
  have H3 := Aside0.mk (st_put h3 1 rfl o (.int .i64 (rNum s.l s.e).1))
  clear h2 h3 H1 cx
  go_wp2_with fail
  go_end0
  exact ⟨rfl, H3.out⟩
theorem rd_many {w0 w : World} {As : List Asr} (g b : Nat) (T : TypeId) (s : RS) (n m : Int) (h : St w0 (RT g b T s As) w) (hok : s.ok) (hm : 0 ≤ m ∧ m ≤ 1000) :
    Calls Try.prog 79 #[.agg #[.pointer (some ⟨g, 0, none⟩)], .int .i64 n, .int .i64 m] w fun e w' => e = .returned (.int .i64 (rInt 0 m s.l s.e).1) ∧ St w0 (RT g b T ⟨(rInt 0 m s.l s.e).2.1, (rInt 0 m s.l s.e).2.2, s.cs⟩ As) w' := by
  have H := Aside0.mk h
  clear h
  go_enter Try.func79, Try.ntmps79
  go_upto_region 1 with fail
  have h1 := H.out.push (below_alloc (Below.refl _ _) (.cells #[.pointer (some ⟨g, 0, none⟩)] 54)) (boxA_new w 54 #[.pointer (some ⟨g, 0, none⟩)])
  rw [rt_push] at h1
  have cx : (w.alloc (.cells #[.pointer (some ⟨g, 0, none⟩)] 54)).cell? ⟨w.heap.size, 0, none⟩ = some (.pointer (some ⟨g, 0, none⟩)) := pick_cellE (heap_alloc_new w _) 0 rfl
  generalize w.heap.size = gx at *
  generalize w.alloc (.cells #[.pointer (some ⟨g, 0, none⟩)] 54) = w1 at *
  have H1 := Aside0.mk h1
  have wm : IntKind.i64.wrap m = m := by rw [IntKind.wrap_i64] <;> omega
  clear h1 H
  go_wp2_with fail
  refine (H1.out.rint 0 g 0 m s.l s.e rfl hok).mono ?_
  rintro e w2 ⟨rfl, h2⟩
  have h3 := rt_left (s := ⟨(rInt 0 m s.l s.e).2.1, (rInt 0 m s.l s.e).2.2, s.cs⟩) (b := b) (T := T) (As := As) (Bs := [boxA 54 gx #[.pointer (some ⟨g, 0, none⟩)]]) (g := g) h2
  have hr := rInt_range m s.l s.e hm.1
  have wr : IntKind.i64.wrap (rInt 0 m s.l s.e).1 = (rInt 0 m s.l s.e).1 := by rw [IntKind.wrap_i64] <;> omega
  have H3 := Aside0.mk h3
  clear h2 h3 H1 cx
  go_wp2_with fail
  go_ret
  exact ⟨rfl, H3.out⟩
def ptrsR (b : Nat) (os : List Nat) : Array Value := (os.map fun o => Value.pointer (some ⟨b, o, none⟩)).toArray
theorem ptrsR_at {w : World} {b gs : Nat} {t : TypeId} {fr : Nat × Nat} {os : List Nat} (h : w.heap[gs]? = some (.cells (ptrsR b os) t fr)) (k : Nat) (hk : k < os.length) : w.cell? ⟨gs, k, none⟩ = some (.pointer (some ⟨b, os[k]'hk, none⟩)) :=
  pick_cellE h k (by unfold ptrsR; rw [List.getElem?_toArray, List.getElem?_map, List.getElem?_eq_getElem hk]; rfl)
set_option maxHeartbeats 4000000 in
theorem nums_r {w0 w : World} {As : List Asr} (g b gs c : Nat) (T TP : TypeId) (s : RS) (os : List Nat) (h : St w0 (RT g b T s As) w) (hok : s.ok) (hint : ∀ o ∈ os, s.int o) (hm : boxA TP gs (ptrsR b os) ∈ As) (hlen : os.length ≤ 1000) :
    Calls Try.prog 53 #[.iface 54 (.agg #[.pointer (some ⟨g, 0, none⟩)]), .slice (some ⟨gs, 0, none⟩) os.length c] w fun e w' => e = .returned (.tuple #[]) ∧ St w0 (RT g b T (s.nums os) As) w' := by
  have H := Aside0.mk h
  have HOK := Aside0.mk (fun k => RS.ok_nums hok (os.take k))
  have HIN := Aside0.mk (fun k (hk : k < os.length) => RS.int_nums hok (hint (os[k]'hk) (List.getElem_mem hk)) (os.take k))
  have HM := Aside0.mk hm
  clear h hint hm
  go_enter Try.func53, Try.ntmps53
  go_wp2_with fail
  go_loopw [8] (fun i_ wr => ∃ k : Nat, k ≤ os.length ∧ i_ = .int .i64 k ∧ Aside0 (St w0 (RT g b T (s.nums (os.take k)) As) wr)) (fun i_ _ => os.length - (intOf i_).toNat)
  case atStart => exact ⟨0, Nat.zero_le _, rfl, ⟨by have := H.out; simpa [RS.nums] using this⟩⟩
  case round =>
    clear H
    obtain ⟨k, hk, rfl, HS⟩ := hrel
    by_cases hlt : k < os.length
    · have r1 := ptrsR_at (st_box HS.out (List.mem_cons_of_mem _ (List.mem_cons_of_mem _ HM.out))) k hlt
      have HSN := Aside0.mk (RS.nums_snoc s os k hlt)
      have wk : IntKind.i64.wrap ((k : Int) + 1) = (k : Int) + 1 := by rw [IntKind.wrap_i64] <;> omega
      have HI := Aside0.mk (HIN.out k hlt)
      generalize os[k]'hlt = o at *
      go_wp2_with fail
      refine (rd_num g b o T _ HS.out (HOK.out k) HI.out).mono ?_
      rintro e w2 ⟨rfl, h2⟩
      rw [← HSN.out] at h2
      have H2 := Aside0.mk h2
      clear h2
      go_wp2_with fail
      go_roundw
      case rel => exact ⟨k + 1, by omega, by first | rfl | (simp; done), H2⟩
      case measure => simp [intOf]; omega
    · obtain rfl : k = os.length := by omega
      have HE := Aside0.mk (show St w0 (RT g b T (s.nums os) As) wr by have := HS.out; rwa [List.take_length] at this)
      go_wp2_with fail
      go_end0
      exact ⟨rfl, HE.out⟩
set_option maxHeartbeats 4000000 in
theorem whole_r {w0 w : World} {As : List Asr} (g b gs c : Nat) (T TP : TypeId) (s : RS) (os : List Nat) (h : St w0 (RT g b T s As) w) (hok : s.ok) (hint : ∀ o ∈ os, s.int o) (hm : boxA TP gs (ptrsR b os) ∈ As) (hlen : os.length ≤ 1000) :
    Calls Try.prog 54 #[.iface 54 (.agg #[.pointer (some ⟨g, 0, none⟩)]), .slice (some ⟨gs, 0, none⟩) os.length c] w fun e w' => e = .returned (.tuple #[]) ∧ St w0 (RT g b T (s.nums os) As) w' := by
  have H := Aside0.mk h
  have HOK := Aside0.mk (fun k => RS.ok_nums hok (os.take k))
  have HIN := Aside0.mk (fun k (hk : k < os.length) => RS.int_nums hok (hint (os[k]'hk) (List.getElem_mem hk)) (os.take k))
  have HM := Aside0.mk hm
  clear h hint hm
  go_enter Try.func54, Try.ntmps54
  go_wp2_with fail
  go_loopw [9] (fun i_ wr => ∃ k : Nat, k ≤ os.length ∧ i_ = .int .i64 k ∧ Aside0 (St w0 (RT g b T (s.nums (os.take k)) As) wr)) (fun i_ _ => os.length - (intOf i_).toNat)
  case atStart => exact ⟨0, Nat.zero_le _, rfl, ⟨by have := H.out; simpa [RS.nums] using this⟩⟩
  case round =>
    clear H
    obtain ⟨k, hk, rfl, HS⟩ := hrel
    by_cases hlt : k < os.length
    · have r1 := ptrsR_at (st_box HS.out (List.mem_cons_of_mem _ (List.mem_cons_of_mem _ HM.out))) k hlt
      have HSN := Aside0.mk (RS.nums_snoc s os k hlt)
      have wk : IntKind.i64.wrap ((k : Int) + 1) = (k : Int) + 1 := by rw [IntKind.wrap_i64] <;> omega
      obtain ⟨pn, hv, v1, v2⟩ := HIN.out k hlt
      generalize os[k]'hlt = o at *
      have HK := Aside0.mk (HOK.out k)
      generalize s.nums (os.take k) = t at *
      have r2 := pick_cellE (rt_box HS.out) o hv
      have HV := Aside0.mk hv
      have wn : IntKind.i64.wrap pn = pn := by rw [IntKind.wrap_i64] <;> omega
      clear hv
      go_wp2_with fail
      have hS1 := HS.out.push (below_alloc (Below.refl _ _) (.cells #[.int .i64 pn] 2)) (boxA_new wr 2 #[.int .i64 pn])
      generalize wr.heap.size = gx at *
      generalize wr.alloc (.cells #[.int .i64 pn] 2) = w1 at *
      have hS2 : St w0 (RT g gx 2 ⟨t.l, t.e, #[.int .i64 pn]⟩ (boxA T b t.cs :: As)) w1 := st_perm hS1 (by
        show (rdA g t.l t.e :: ((boxA T b t.cs :: As) ++ [boxA 2 gx #[.int .i64 pn]])).Perm (rdA g t.l t.e :: ([boxA 2 gx #[.int .i64 pn]] ++ (boxA T b t.cs :: As)))
        exact List.Perm.cons _ List.perm_append_comm)
      refine (rd_num g gx 0 2 ⟨t.l, t.e, #[.int .i64 pn]⟩ hS2 HK.out ⟨pn, rfl, v1, v2⟩).mono ?_
      rintro e w2 ⟨rfl, h2⟩
      have h3 : St w0 (rdA g (rNum t.l t.e).2.1 (rNum t.l t.e).2.2 :: boxA T b t.cs :: As) w2 := st_tail (A := boxA 2 gx #[.int .i64 (rNum t.l t.e).1]) (st_perm h2 (List.Perm.swap _ _ _))
      have cx : w2.cell? ⟨gx, 0, none⟩ = some (.int .i64 (rNum t.l t.e).1) := pick_cellE (rt_box h2) 0 rfl
      have cb : w2.cell? ⟨b, o, none⟩ = some (.int .i64 pn) := pick_cellE (st_box (T := T) (cs := t.cs) h3 (by simp)) o HV.out
      have cf : w2.frozen? ⟨b, o, none⟩ = false := nf_box (st_box (T := T) (cs := t.cs) h3 (by simp))
      have hr := rNum_range t.e HK.out
      have wv : IntKind.i64.wrap (rNum t.l t.e).1 = (rNum t.l t.e).1 := by rw [IntKind.wrap_i64] <;> omega
      have H2 : Aside0 (St w0 (RT g b T (t.num o) As) (w2.setCell ⟨b, o, none⟩ (.int .i64 (rNum t.l t.e).1))) := ⟨st_put h3 1 rfl o (.int .i64 (rNum t.l t.e).1)⟩
      generalize (rNum t.l t.e).1 = rv at *
      clear h2 h3 hS1 hS2 r1 r2 hr
      go_wp2_with fail
      go_roundw
      case rel => exact ⟨k + 1, by omega, by first | rfl | (simp; done), ⟨by rw [HSN.out]; exact H2.out⟩⟩
      case measure => simp [intOf]; omega
    · obtain rfl : k = os.length := by omega
      have HE := Aside0.mk (show St w0 (RT g b T (s.nums os) As) wr by have := HS.out; rwa [List.take_length] at this)
      go_wp2_with fail
      go_end0
      exact ⟨rfl, HE.out⟩
theorem nums_litr {w0 w : World} {As : List Asr} (g b gs n : Nat) (T TP : TypeId) (s : RS) (os : List Nat) (h : St w0 (RT g b T s As) w) (hok : s.ok) (hint : ∀ o ∈ os, s.int o) (hgs : gs = w.heap.size) (hn : n = os.length) (hlen : n ≤ 1000 := by decide) :
    Calls Try.prog 53 #[.iface 54 (.agg #[.pointer (some ⟨g, 0, none⟩)]), .slice (some ⟨gs, 0, none⟩) n n] (w.alloc (.cells (ptrsR b os) TP)) fun e w' => e = .returned (.tuple #[]) ∧ St w0 (RT g b T (s.nums os) As) w' := by
  subst hgs hn
  have h1 := h.push (below_alloc (Below.refl _ _) (.cells (ptrsR b os) TP)) (boxA_new w TP (ptrsR b os))
  rw [rt_push] at h1
  exact (nums_r g b w.heap.size os.length T TP s os h1 hok hint (by simp) hlen).mono fun r w' ⟨hr, hS⟩ => ⟨hr, rt_left hS⟩
theorem whole_litr {w0 w : World} {As : List Asr} (g b gs n : Nat) (T TP : TypeId) (s : RS) (os : List Nat) (h : St w0 (RT g b T s As) w) (hok : s.ok) (hint : ∀ o ∈ os, s.int o) (hgs : gs = w.heap.size) (hn : n = os.length) (hlen : n ≤ 1000 := by decide) :
    Calls Try.prog 54 #[.iface 54 (.agg #[.pointer (some ⟨g, 0, none⟩)]), .slice (some ⟨gs, 0, none⟩) n n] (w.alloc (.cells (ptrsR b os) TP)) fun e w' => e = .returned (.tuple #[]) ∧ St w0 (RT g b T (s.nums os) As) w' := by
  subst hgs hn
  have h1 := h.push (below_alloc (Below.refl _ _) (.cells (ptrsR b os) TP)) (boxA_new w TP (ptrsR b os))
  rw [rt_push] at h1
  exact (whole_r g b w.heap.size os.length T TP s os h1 hok hint (by simp) hlen).mono fun r w' ⟨hr, hS⟩ => ⟨hr, rt_left hS⟩
theorem mem_rt {g b : Nat} {T : TypeId} {s : RS} {As : List Asr} {A : Asr} (h : A ∈ As) : A ∈ RT g b T s As := List.mem_cons_of_mem _ (List.mem_cons_of_mem _ h)
theorem gc_cell {w0 w : World} {As : List Asr} {g b gc : Nat} {T TB : TypeId} {s : RS} {v : Value} (h : St w0 (RT g b T s As) w) (hm : boxA TB gc #[v] ∈ As) : w.cell? ⟨gc, 0, none⟩ = some v := pick_cellE (st_box h (mem_rt hm)) 0 rfl
set_option maxHeartbeats 4000000 in
theorem band59_r {w0 w : World} {As : List Asr} (g b gc o : Nat) (T : TypeId) (s : RS) (ad : Addr) (had : ad = ⟨b, o, none⟩) (h : St w0 (RT g b T s As) w) (hm : boxA 92 gc #[(.iface 54 (.agg #[.pointer (some ⟨g, 0, none⟩)]))] ∈ As) (hok : s.ok) (ha : s.int o) (hd : s.int (o + 1)) :
    Calls Try.prog 59 #[.pointer (some ad), .pointer (some ⟨gc, 0, none⟩)] w fun e w' => e = .returned (.tuple #[]) ∧ St w0 (RT g b T ((s.num o).num (o + 1)) As) w' := by
  subst had
  have hu46 := Try.underlying46
  have hu48 := Try.underlying48
  have HM := Aside0.mk hm
  have H := Aside0.mk h
  have hoks := RS.ok_num hok o
  have hds := RS.int_num hok o hd
  clear h hm
  go_enter Try.func59, Try.ntmps59
  go_upto_region 0 with fail
  have H1a := Aside0.mk (H.out.below (below_drew (Below.refl _ _)))
  have cca := gc_cell H1a.out HM.out
  refine wp_region_noPanic ?_
  refine wp_region_held_drew (S := fun w' => w'.cell? ⟨gc, 0, none⟩ = some (.iface 54 (.agg #[.pointer (some ⟨g, 0, none⟩)]))) (by kernel_rfl) cca (fun hHeld => ?_)
  generalize w.drew = w1a at *
  refine wpAnyH_take (i := 0) (oi := ({ dst := some 3, op := Op.load 92 (Operand.tmp 1), type := 92, pos := "event.go:172", after := #[], guard := none } : Oper)) (v := ?_) rfl (by kernel_rfl) (by kernel_rfl) (by kernel_rfl) (fun _ _ _ h => h) (Or.inl ⟨by rfl, ?hyTa0⟩) (by assumption) ?rsTa0
  case hyTa0 => (intro w8' hSw; (try dsimp only at hSw); go_simp; (first | done | with_reducible rfl))
  (try simp only [Act.put, List.setIfInBounds_toArray, List.set_cons_zero, List.set_cons_succ])
  refine wpAnyH_take (i := 1) (oi := ({ dst := some 4, op := Op.move (Operand.tmp 0), type := 114, pos := "event.go:172", after := #[], guard := none } : Oper)) (v := ?_) rfl (by kernel_rfl) (by kernel_rfl) (by kernel_rfl) (fun _ _ _ h => h) (Or.inl ⟨by rfl, ?hyTa1⟩) (by assumption) ?rsTa1
  case hyTa1 => (intro w8' hSw; (try dsimp only at hSw); go_simp; (first | done | with_reducible rfl))
  (try simp only [Act.put, List.setIfInBounds_toArray, List.set_cons_zero, List.set_cons_succ])
  refine wpAnyH_take (i := 2) (oi := ({ dst := some 5, op := Op.nilCheck (Operand.tmp 4), type := 0, pos := "event.go:172", after := #[{ on := 1, ground := Ground.data }], guard := none } : Oper)) (v := ?_) rfl (by kernel_rfl) (by kernel_rfl) (by kernel_rfl) (fun _ _ _ h => h) (Or.inl ⟨by rfl, ?hyTa2⟩) (by assumption) ?rsTa2
  case hyTa2 => (intro w8' hSw; (try dsimp only at hSw); go_simp; (first | done | with_reducible rfl))
  (try simp only [Act.put, List.setIfInBounds_toArray, List.set_cons_zero, List.set_cons_succ])
  refine wpAnyH_take (i := 3) (oi := ({ dst := some 6, op := Op.fieldAddr 46 (Operand.tmp 5) 0, type := 0, pos := "event.go:172", after := #[{ on := 2, ground := Ground.data }], guard := none } : Oper)) (v := ?_) rfl (by kernel_rfl) (by kernel_rfl) (by kernel_rfl) (fun _ _ _ h => h) (Or.inl ⟨by rfl, ?hyTa3⟩) (by assumption) ?rsTa3
  case hyTa3 => (intro w8' hSw; (try dsimp only at hSw); go_simp; (first | done | with_reducible rfl))
  (try simp only [Act.put, List.setIfInBounds_toArray, List.set_cons_zero, List.set_cons_succ])
  refine wpAnyH_ready (rs := [4]) (by kernel_rfl) (by simp) ?_
  refine AllReadyH.cons (o := ({ dst := some 7, op := Op.buildSlice 109 1 #[(0, Operand.tmp 6)], type := 109, pos := "event.go:172", after := #[{ on := 3, ground := Ground.data }], guard := none } : Oper)) rfl (fun K hK => ?_) AllReadyH.nil
  rw [if_pos (by rfl)]
  go_simp
  refine hK.out _ _ ((Below.cell (below_alloc (Below.refl w1a.heap.size w1a) _) (World.block_lt_of_cell? w1a _ cca)).trans cca) (fun hHeld => ?_)
  clear hK
  (try simp only [Act.put, List.setIfInBounds_toArray, List.set_cons_zero, List.set_cons_succ])
  refine wpAnyH_ready (rs := [5]) (by kernel_rfl) (by simp) ?_
  refine AllReadyH.cons (o := ({ dst := some 8, op := Op.call { callee := Callee.value (Operand.func 53), args := #[Operand.tmp 3, Operand.tmp 7], argTypes := #[92, 109] }, type := 0, pos := "event.go:172", after := #[{ on := 0, ground := Ground.data }, { on := 4, ground := Ground.data }], guard := none } : Oper)) rfl (fun K hK => ?_) AllReadyH.nil
  rw [if_pos (by rfl)]
  go_simp
  refine (nums_litr g b w1a.heap.size 1 T 94 s [o] H1a.out hok (by intro p hp; rw [List.mem_singleton] at hp; subst hp; exact ha) rfl rfl).mono ?_
  rintro r_ w2 ⟨rfl, h2⟩
  have H2a := Aside0.mk h2
  clear h2
  go_simp
  refine hK.out _ _ (gc_cell H2a.out HM.out) (fun hHeld => ?_)
  clear hK
  (try simp only [Act.put, List.setIfInBounds_toArray, List.set_cons_zero, List.set_cons_succ])
  refine wpAnyH_done (by kernel_rfl) ?_ _
  refine NoPanic.normal ?_
  clear H cca
  go_upto_region 1 with fail
  have H1b := Aside0.mk (H2a.out.below (below_drew (Below.refl _ _)))
  have ccb := gc_cell H1b.out HM.out
  refine wp_region_noPanic ?_
  refine wp_region_held_drew (S := fun w' => w'.cell? ⟨gc, 0, none⟩ = some (.iface 54 (.agg #[.pointer (some ⟨g, 0, none⟩)]))) (by kernel_rfl) ccb (fun hHeld => ?_)
  generalize w2.drew = w1b at *
  refine wpAnyH_take (i := 0) (oi := ({ dst := some 9, op := Op.load 92 (Operand.tmp 1), type := 92, pos := "event.go:173", after := #[], guard := none } : Oper)) (v := ?_) rfl (by kernel_rfl) (by kernel_rfl) (by kernel_rfl) (fun _ _ _ h => h) (Or.inl ⟨by rfl, ?hyTb0⟩) (by assumption) ?rsTb0
  case hyTb0 => (intro w8' hSw; (try dsimp only at hSw); go_simp; (first | done | with_reducible rfl))
  (try simp only [Act.put, List.setIfInBounds_toArray, List.set_cons_zero, List.set_cons_succ])
  refine wpAnyH_take (i := 1) (oi := ({ dst := some 10, op := Op.move (Operand.tmp 0), type := 114, pos := "event.go:173", after := #[], guard := none } : Oper)) (v := ?_) rfl (by kernel_rfl) (by kernel_rfl) (by kernel_rfl) (fun _ _ _ h => h) (Or.inl ⟨by rfl, ?hyTb1⟩) (by assumption) ?rsTb1
  case hyTb1 => (intro w8' hSw; (try dsimp only at hSw); go_simp; (first | done | with_reducible rfl))
  (try simp only [Act.put, List.setIfInBounds_toArray, List.set_cons_zero, List.set_cons_succ])
  refine wpAnyH_take (i := 2) (oi := ({ dst := some 11, op := Op.nilCheck (Operand.tmp 10), type := 0, pos := "event.go:173", after := #[{ on := 1, ground := Ground.data }], guard := none } : Oper)) (v := ?_) rfl (by kernel_rfl) (by kernel_rfl) (by kernel_rfl) (fun _ _ _ h => h) (Or.inl ⟨by rfl, ?hyTb2⟩) (by assumption) ?rsTb2
  case hyTb2 => (intro w8' hSw; (try dsimp only at hSw); go_simp; (first | done | with_reducible rfl))
  (try simp only [Act.put, List.setIfInBounds_toArray, List.set_cons_zero, List.set_cons_succ])
  refine wpAnyH_take (i := 3) (oi := ({ dst := some 12, op := Op.fieldAddr 46 (Operand.tmp 11) 1, type := 0, pos := "event.go:173", after := #[{ on := 2, ground := Ground.data }], guard := none } : Oper)) (v := ?_) rfl (by kernel_rfl) (by kernel_rfl) (by kernel_rfl) (fun _ _ _ h => h) (Or.inl ⟨by rfl, ?hyTb3⟩) (by assumption) ?rsTb3
  case hyTb3 => (intro w8' hSw; (try dsimp only at hSw); go_simp; (first | done | with_reducible rfl))
  (try simp only [Act.put, List.setIfInBounds_toArray, List.set_cons_zero, List.set_cons_succ])
  refine wpAnyH_ready (rs := [4]) (by kernel_rfl) (by simp) ?_
  refine AllReadyH.cons (o := ({ dst := some 13, op := Op.buildSlice 111 1 #[(0, Operand.tmp 12)], type := 111, pos := "event.go:173", after := #[{ on := 3, ground := Ground.data }], guard := none } : Oper)) rfl (fun K hK => ?_) AllReadyH.nil
  rw [if_pos (by rfl)]
  go_simp
  refine hK.out _ _ ((Below.cell (below_alloc (Below.refl w1b.heap.size w1b) _) (World.block_lt_of_cell? w1b _ ccb)).trans ccb) (fun hHeld => ?_)
  clear hK
  (try simp only [Act.put, List.setIfInBounds_toArray, List.set_cons_zero, List.set_cons_succ])
  refine wpAnyH_ready (rs := [5]) (by kernel_rfl) (by simp) ?_
  refine AllReadyH.cons (o := ({ dst := some 14, op := Op.call { callee := Callee.value (Operand.func 54), args := #[Operand.tmp 9, Operand.tmp 13], argTypes := #[92, 111] }, type := 0, pos := "event.go:173", after := #[{ on := 0, ground := Ground.data }, { on := 4, ground := Ground.data }], guard := none } : Oper)) rfl (fun K hK => ?_) AllReadyH.nil
  rw [if_pos (by rfl)]
  go_simp
  refine (whole_litr g b w1b.heap.size 1 T 96 (s.num o) [o + 1] H1b.out hoks (by intro p hp; rw [List.mem_singleton] at hp; subst hp; exact hds) rfl rfl).mono ?_
  rintro r_ w3 ⟨rfl, h2⟩
  have H2b := Aside0.mk h2
  clear h2
  go_simp
  refine hK.out _ _ (gc_cell H2b.out HM.out) (fun hHeld => ?_)
  clear hK
  (try simp only [Act.put, List.setIfInBounds_toArray, List.set_cons_zero, List.set_cons_succ])
  refine wpAnyH_done (by kernel_rfl) ?_ _
  refine NoPanic.normal ?_
  go_wp2_with fail
  go_end0
  exact ⟨rfl, H2b.out⟩
set_option maxHeartbeats 4000000 in
theorem band61_r {w0 w : World} {As : List Asr} (g b gc o : Nat) (T : TypeId) (s : RS) (ad : Addr) (had : ad = ⟨b, o, none⟩) (h : St w0 (RT g b T s As) w) (hm : boxA 92 gc #[(.iface 54 (.agg #[.pointer (some ⟨g, 0, none⟩)]))] ∈ As) (hok : s.ok) (ha : s.int o) (hd : s.int (o + 1)) :
    Calls Try.prog 61 #[.pointer (some ad), .pointer (some ⟨gc, 0, none⟩)] w fun e w' => e = .returned (.tuple #[]) ∧ St w0 (RT g b T ((s.num o).num (o + 1)) As) w' := by
  subst had
  have hu46 := Try.underlying46
  have hu48 := Try.underlying48
  have HM := Aside0.mk hm
  have H := Aside0.mk h
  have hoks := RS.ok_num hok o
  have hds := RS.int_num hok o hd
  clear h hm
  go_enter Try.func61, Try.ntmps61
  go_upto_region 0 with fail
  have H1a := Aside0.mk (H.out.below (below_drew (Below.refl _ _)))
  have cca := gc_cell H1a.out HM.out
  refine wp_region_noPanic ?_
  refine wp_region_held_drew (S := fun w' => w'.cell? ⟨gc, 0, none⟩ = some (.iface 54 (.agg #[.pointer (some ⟨g, 0, none⟩)]))) (by kernel_rfl) cca (fun hHeld => ?_)
  generalize w.drew = w1a at *
  refine wpAnyH_take (i := 0) (oi := ({ dst := some 3, op := Op.load 92 (Operand.tmp 1), type := 92, pos := "event.go:177", after := #[], guard := none } : Oper)) (v := ?_) rfl (by kernel_rfl) (by kernel_rfl) (by kernel_rfl) (fun _ _ _ h => h) (Or.inl ⟨by rfl, ?hyTa0⟩) (by assumption) ?rsTa0
  case hyTa0 => (intro w8' hSw; (try dsimp only at hSw); go_simp; (first | done | with_reducible rfl))
  (try simp only [Act.put, List.setIfInBounds_toArray, List.set_cons_zero, List.set_cons_succ])
  refine wpAnyH_take (i := 1) (oi := ({ dst := some 4, op := Op.move (Operand.tmp 0), type := 118, pos := "event.go:177", after := #[], guard := none } : Oper)) (v := ?_) rfl (by kernel_rfl) (by kernel_rfl) (by kernel_rfl) (fun _ _ _ h => h) (Or.inl ⟨by rfl, ?hyTa1⟩) (by assumption) ?rsTa1
  case hyTa1 => (intro w8' hSw; (try dsimp only at hSw); go_simp; (first | done | with_reducible rfl))
  (try simp only [Act.put, List.setIfInBounds_toArray, List.set_cons_zero, List.set_cons_succ])
  refine wpAnyH_take (i := 2) (oi := ({ dst := some 5, op := Op.nilCheck (Operand.tmp 4), type := 0, pos := "event.go:177", after := #[{ on := 1, ground := Ground.data }], guard := none } : Oper)) (v := ?_) rfl (by kernel_rfl) (by kernel_rfl) (by kernel_rfl) (fun _ _ _ h => h) (Or.inl ⟨by rfl, ?hyTa2⟩) (by assumption) ?rsTa2
  case hyTa2 => (intro w8' hSw; (try dsimp only at hSw); go_simp; (first | done | with_reducible rfl))
  (try simp only [Act.put, List.setIfInBounds_toArray, List.set_cons_zero, List.set_cons_succ])
  refine wpAnyH_take (i := 3) (oi := ({ dst := some 6, op := Op.fieldAddr 48 (Operand.tmp 5) 0, type := 0, pos := "event.go:177", after := #[{ on := 2, ground := Ground.data }], guard := none } : Oper)) (v := ?_) rfl (by kernel_rfl) (by kernel_rfl) (by kernel_rfl) (fun _ _ _ h => h) (Or.inl ⟨by rfl, ?hyTa3⟩) (by assumption) ?rsTa3
  case hyTa3 => (intro w8' hSw; (try dsimp only at hSw); go_simp; (first | done | with_reducible rfl))
  (try simp only [Act.put, List.setIfInBounds_toArray, List.set_cons_zero, List.set_cons_succ])
  refine wpAnyH_ready (rs := [4]) (by kernel_rfl) (by simp) ?_
  refine AllReadyH.cons (o := ({ dst := some 7, op := Op.buildSlice 109 1 #[(0, Operand.tmp 6)], type := 109, pos := "event.go:177", after := #[{ on := 3, ground := Ground.data }], guard := none } : Oper)) rfl (fun K hK => ?_) AllReadyH.nil
  rw [if_pos (by rfl)]
  go_simp
  refine hK.out _ _ ((Below.cell (below_alloc (Below.refl w1a.heap.size w1a) _) (World.block_lt_of_cell? w1a _ cca)).trans cca) (fun hHeld => ?_)
  clear hK
  (try simp only [Act.put, List.setIfInBounds_toArray, List.set_cons_zero, List.set_cons_succ])
  refine wpAnyH_ready (rs := [5]) (by kernel_rfl) (by simp) ?_
  refine AllReadyH.cons (o := ({ dst := some 8, op := Op.call { callee := Callee.value (Operand.func 53), args := #[Operand.tmp 3, Operand.tmp 7], argTypes := #[92, 109] }, type := 0, pos := "event.go:177", after := #[{ on := 0, ground := Ground.data }, { on := 4, ground := Ground.data }], guard := none } : Oper)) rfl (fun K hK => ?_) AllReadyH.nil
  rw [if_pos (by rfl)]
  go_simp
  refine (nums_litr g b w1a.heap.size 1 T 94 s [o] H1a.out hok (by intro p hp; rw [List.mem_singleton] at hp; subst hp; exact ha) rfl rfl).mono ?_
  rintro r_ w2 ⟨rfl, h2⟩
  have H2a := Aside0.mk h2
  clear h2
  go_simp
  refine hK.out _ _ (gc_cell H2a.out HM.out) (fun hHeld => ?_)
  clear hK
  (try simp only [Act.put, List.setIfInBounds_toArray, List.set_cons_zero, List.set_cons_succ])
  refine wpAnyH_done (by kernel_rfl) ?_ _
  refine NoPanic.normal ?_
  clear H cca
  go_upto_region 1 with fail
  have H1b := Aside0.mk (H2a.out.below (below_drew (Below.refl _ _)))
  have ccb := gc_cell H1b.out HM.out
  refine wp_region_noPanic ?_
  refine wp_region_held_drew (S := fun w' => w'.cell? ⟨gc, 0, none⟩ = some (.iface 54 (.agg #[.pointer (some ⟨g, 0, none⟩)]))) (by kernel_rfl) ccb (fun hHeld => ?_)
  generalize w2.drew = w1b at *
  refine wpAnyH_take (i := 0) (oi := ({ dst := some 9, op := Op.load 92 (Operand.tmp 1), type := 92, pos := "event.go:178", after := #[], guard := none } : Oper)) (v := ?_) rfl (by kernel_rfl) (by kernel_rfl) (by kernel_rfl) (fun _ _ _ h => h) (Or.inl ⟨by rfl, ?hyTb0⟩) (by assumption) ?rsTb0
  case hyTb0 => (intro w8' hSw; (try dsimp only at hSw); go_simp; (first | done | with_reducible rfl))
  (try simp only [Act.put, List.setIfInBounds_toArray, List.set_cons_zero, List.set_cons_succ])
  refine wpAnyH_take (i := 1) (oi := ({ dst := some 10, op := Op.move (Operand.tmp 0), type := 118, pos := "event.go:178", after := #[], guard := none } : Oper)) (v := ?_) rfl (by kernel_rfl) (by kernel_rfl) (by kernel_rfl) (fun _ _ _ h => h) (Or.inl ⟨by rfl, ?hyTb1⟩) (by assumption) ?rsTb1
  case hyTb1 => (intro w8' hSw; (try dsimp only at hSw); go_simp; (first | done | with_reducible rfl))
  (try simp only [Act.put, List.setIfInBounds_toArray, List.set_cons_zero, List.set_cons_succ])
  refine wpAnyH_take (i := 2) (oi := ({ dst := some 11, op := Op.nilCheck (Operand.tmp 10), type := 0, pos := "event.go:178", after := #[{ on := 1, ground := Ground.data }], guard := none } : Oper)) (v := ?_) rfl (by kernel_rfl) (by kernel_rfl) (by kernel_rfl) (fun _ _ _ h => h) (Or.inl ⟨by rfl, ?hyTb2⟩) (by assumption) ?rsTb2
  case hyTb2 => (intro w8' hSw; (try dsimp only at hSw); go_simp; (first | done | with_reducible rfl))
  (try simp only [Act.put, List.setIfInBounds_toArray, List.set_cons_zero, List.set_cons_succ])
  refine wpAnyH_take (i := 3) (oi := ({ dst := some 12, op := Op.fieldAddr 48 (Operand.tmp 11) 1, type := 0, pos := "event.go:178", after := #[{ on := 2, ground := Ground.data }], guard := none } : Oper)) (v := ?_) rfl (by kernel_rfl) (by kernel_rfl) (by kernel_rfl) (fun _ _ _ h => h) (Or.inl ⟨by rfl, ?hyTb3⟩) (by assumption) ?rsTb3
  case hyTb3 => (intro w8' hSw; (try dsimp only at hSw); go_simp; (first | done | with_reducible rfl))
  (try simp only [Act.put, List.setIfInBounds_toArray, List.set_cons_zero, List.set_cons_succ])
  refine wpAnyH_ready (rs := [4]) (by kernel_rfl) (by simp) ?_
  refine AllReadyH.cons (o := ({ dst := some 13, op := Op.buildSlice 111 1 #[(0, Operand.tmp 12)], type := 111, pos := "event.go:178", after := #[{ on := 3, ground := Ground.data }], guard := none } : Oper)) rfl (fun K hK => ?_) AllReadyH.nil
  rw [if_pos (by rfl)]
  go_simp
  refine hK.out _ _ ((Below.cell (below_alloc (Below.refl w1b.heap.size w1b) _) (World.block_lt_of_cell? w1b _ ccb)).trans ccb) (fun hHeld => ?_)
  clear hK
  (try simp only [Act.put, List.setIfInBounds_toArray, List.set_cons_zero, List.set_cons_succ])
  refine wpAnyH_ready (rs := [5]) (by kernel_rfl) (by simp) ?_
  refine AllReadyH.cons (o := ({ dst := some 14, op := Op.call { callee := Callee.value (Operand.func 54), args := #[Operand.tmp 9, Operand.tmp 13], argTypes := #[92, 111] }, type := 0, pos := "event.go:178", after := #[{ on := 0, ground := Ground.data }, { on := 4, ground := Ground.data }], guard := none } : Oper)) rfl (fun K hK => ?_) AllReadyH.nil
  rw [if_pos (by rfl)]
  go_simp
  refine (whole_litr g b w1b.heap.size 1 T 96 (s.num o) [o + 1] H1b.out hoks (by intro p hp; rw [List.mem_singleton] at hp; subst hp; exact hds) rfl rfl).mono ?_
  rintro r_ w3 ⟨rfl, h2⟩
  have H2b := Aside0.mk h2
  clear h2
  go_simp
  refine hK.out _ _ (gc_cell H2b.out HM.out) (fun hHeld => ?_)
  clear hK
  (try simp only [Act.put, List.setIfInBounds_toArray, List.set_cons_zero, List.set_cons_succ])
  refine wpAnyH_done (by kernel_rfl) ?_ _
  refine NoPanic.normal ?_
  go_wp2_with fail
  go_end0
  exact ⟨rfl, H2b.out⟩
end Go.Proofs.Ytldohapdhljoaaa.Wire
namespace Go.Proofs.Ytldohapdhljoaaa.Wire
open Go.RowKit Go.Proofs.YtldohapdhljoaaaW.PrintWords Go.Proofs.Ytldohapdhljoaaa.Obj Go.Proofs.Ytldohapdhljoaaa.Print
set_option linter.unusedVariables false
set_option linter.unusedSimpArgs false
set_option maxRecDepth 100000
theorem na_r (g : Nat) (W : World) : (nilAhead (Try.prog.types.size + Made.depth) 54 (.agg #[.pointer (some ⟨g, 0, none⟩)]) "governor/event.many").run Try.prog W = .ok (some false) W := by kernel_rfl
theorem nc_manyR {ρ : Operand → Value} {o : Oper} {x : Operand} (g : Nat) (W : World) (ho : o.op = .nilCheck x) (hx : ρ x = .func (.method "governor/event.many") #[.iface 54 (.agg #[.pointer (some ⟨g, 0, none⟩)])] #[]) :
    (execOp ρ o).run Try.prog W = .ok (.value (.func (.method "governor/event.many") #[.iface 54 (.agg #[.pointer (some ⟨g, 0, none⟩)])] #[])) W := by
  unfold execOp
  simp only [ho, hx]
  have h := na_r g W
  have hp : (program).run Try.prog W = .ok Try.prog W := rfl
  simp only [List.getElem?_toArray, List.getElem?_cons_zero]
  simp only [Sem.run_bind, hp, Result.andThen_ok, h]
  rfl
def cells2 (ps : List (Int × Int)) : List Value := ps.flatMap fun p => [.int .i64 p.1, .int .i64 p.2]
theorem cells2_len : ∀ ps : List (Int × Int), (cells2 ps).length = ps.length * 2
  | [] => rfl
  | p :: r => by
    have := cells2_len r
    unfold cells2 at *
    rw [List.flatMap_cons, List.length_append, this, List.length_cons]
    simp only [List.length_cons, List.length_nil]
    omega
theorem cells2_app (a b : List (Int × Int)) : cells2 (a ++ b) = cells2 a ++ cells2 b := by unfold cells2; rw [List.flatMap_append]
theorem cells2_0 (ps r : List (Int × Int)) (x y a : Int) (k : Nat) (hk : k = ps.length * 2) : (cells2 (ps ++ (x, y) :: r)).toArray.setIfInBounds k (.int .i64 a) = (cells2 (ps ++ (a, y) :: r)).toArray := by
  subst hk
  rw [List.setIfInBounds_toArray, cells2_app, cells2_app, List.set_append_right _ _ (by rw [cells2_len]; exact Nat.le_refl _), cells2_len, Nat.sub_self]
  rfl
theorem cells2_1 (ps r : List (Int × Int)) (x y a : Int) (k : Nat) (hk : k = ps.length * 2 + 1) : (cells2 (ps ++ (x, y) :: r)).toArray.setIfInBounds k (.int .i64 a) = (cells2 (ps ++ (x, a) :: r)).toArray := by
  subst hk
  rw [List.setIfInBounds_toArray, cells2_app, cells2_app, List.set_append_right _ _ (by rw [cells2_len]; omega), cells2_len, Nat.add_sub_cancel_left]
  rfl
theorem cells2_g0 (ps r : List (Int × Int)) (x y : Int) (k : Nat) (hk : k = ps.length * 2) : (cells2 (ps ++ (x, y) :: r)).toArray[k]? = some (.int .i64 x) := by
  subst hk
  rw [List.getElem?_toArray, cells2_app, List.getElem?_append_right (by rw [cells2_len]; exact Nat.le_refl _), cells2_len, Nat.sub_self]
  rfl
theorem cells2_g1 (ps r : List (Int × Int)) (x y : Int) (k : Nat) (hk : k = ps.length * 2 + 1) : (cells2 (ps ++ (x, y) :: r)).toArray[k]? = some (.int .i64 y) := by
  subst hk
  rw [List.getElem?_toArray, cells2_app, List.getElem?_append_right (by rw [cells2_len]; omega), cells2_len, Nat.add_sub_cancel_left]
  rfl
def rPairs : Nat → List Int → Int → List (Int × Int) × List Int × Int
  | 0, l, e => ([], l, e)
  | k + 1, l, e =>
    let q := rPairs k l e
    let a := rNum q.2.1 q.2.2
    let d := rNum a.2.1 a.2.2
    (q.1 ++ [(a.1, d.1)], d.2.1, d.2.2)
theorem rPairs_len (l : List Int) (e : Int) : ∀ k, (rPairs k l e).1.length = k
  | 0 => rfl
  | k + 1 => by
    have := rPairs_len l e k
    unfold rPairs
    dsimp only
    rw [List.length_append, this]
    rfl
theorem rPairs_bytes {l : List Int} {e : Int} (h : ∀ x ∈ l, 0 ≤ x ∧ x < 256) : ∀ k, ∀ x ∈ (rPairs k l e).2.1, 0 ≤ x ∧ x < 256
  | 0 => h
  | k + 1 => by
    have := rPairs_bytes (e := e) h k
    unfold rPairs
    exact rNum_bytes (rNum_bytes this)
theorem rPairs_range {l : List Int} {e : Int} (h : ∀ x ∈ l, 0 ≤ x ∧ x < 256) : ∀ k, ∀ p ∈ (rPairs k l e).1, (-9223372036854775808 ≤ p.1 ∧ p.1 ≤ 9223372036854775807) ∧ (-9223372036854775808 ≤ p.2 ∧ p.2 ≤ 9223372036854775807)
  | 0 => fun p hp => by cases hp
  | k + 1 => fun p hp => by
    unfold rPairs at hp
    dsimp only at hp
    have hb := rPairs_bytes (e := e) h k
    rcases List.mem_append.1 hp with hp | hp
    · exact rPairs_range h k p hp
    · rw [List.mem_singleton] at hp
      subst hp
      exact ⟨rNum_range _ hb, rNum_range _ (rNum_bytes hb)⟩
def rList (most : Int) (l : List Int) (e : Int) : List (Int × Int) × List Int × Int := rPairs (rInt 0 most l e).1.toNat (rInt 0 most l e).2.1 (rInt 0 most l e).2.2
theorem rList_len (most : Int) (l : List Int) (e : Int) (hm : 0 ≤ most) : (rList most l e).1.length ≤ most := by
  have := rInt_range most l e hm
  unfold rList
  rw [rPairs_len]
  omega
theorem rList_bytes {most : Int} {l : List Int} {e : Int} (h : ∀ x ∈ l, 0 ≤ x ∧ x < 256) : ∀ x ∈ (rList most l e).2.1, 0 ≤ x ∧ x < 256 := rPairs_bytes (rInt_bytes _ _ h) _
def rowA (T : TypeId) (A : Option Addr) (ps : List (Int × Int)) : Asr where
  holds := fun w S => (A = none ∧ ps = []) ∨ ∃ g, A = some ⟨g, 0, none⟩ ∧ w.heap[g]? = some (.cells (cells2 ps).toArray T (0, 0)) ∧ S g
  keep := fun {w w' S} h hh => by
    rcases hh with hh | ⟨g, h1, h2, h3⟩
    · exact .inl hh
    · exact .inr ⟨g, h1, (h g h3).trans h2, h3⟩
theorem rowA_nil (T : TypeId) (n : Nat) (w : World) : One (rowA T none []) n w := ⟨fun _ => False, fun _ h => h.elim, .inl ⟨rfl, rfl⟩⟩
def row0 (n : Nat) : Array Value := (cells2 (List.replicate n (0, 0))).toArray
theorem row0_made (n : Nat) (hn : n ≤ 8) : madeCells #[.int .i64 0, .int .i64 0] (n * 2) = row0 n := by
  rcases n with _ | _ | _ | _ | _ | _ | _ | _ | _ | n
  all_goals first | omega | kernel_rfl
theorem mk_run22 {ρ : Operand → Value} {o : Oper} {x : Operand} (n : Nat) (w : World) (ho : o.op = .makeSlice 22 x x) (hx : ρ x = .int .i64 n) (hn : n ≤ 8) :
    (execOp ρ o).run Try.prog w = .ok (.value (.slice (some ⟨w.heap.size, 0, none⟩) n n)) (w.alloc (.cells (row0 n) 46)) := by
  have hq : (Try.prog.info? 46).map (fun i => (i.zero, i.size, i.bytes)) = some (some (.agg #[.int .i64 0, .int .i64 0]), 2, 16) := by kernel_rfl
  obtain ⟨i, hi, hz⟩ := Option.map_eq_some_iff.1 hq
  simp only [Prod.mk.injEq] at hz
  obtain ⟨hz, hs, hb⟩ := hz
  have h := run_make (P := Try.prog) w 22 46 i _ Try.underlying22 hi hz .i64 .i64 n n (by omega) (Int.le_refl _) (by rw [hb]; omega) (by omega)
  unfold execOp
  simp only [ho, hx, Sem.run_bind, h, Result.andThen_ok, Sem.run_pure, Int.toNat_natCast, hs]
  have e : madeCells (Value.cells (.agg #[.int .i64 0, .int .i64 0])) (n * 2) = row0 n := row0_made n hn
  rw [e]
theorem mk_run23 {ρ : Operand → Value} {o : Oper} {x : Operand} (n : Nat) (w : World) (ho : o.op = .makeSlice 23 x x) (hx : ρ x = .int .i64 n) (hn : n ≤ 8) :
    (execOp ρ o).run Try.prog w = .ok (.value (.slice (some ⟨w.heap.size, 0, none⟩) n n)) (w.alloc (.cells (row0 n) 48)) := by
  have hq : (Try.prog.info? 48).map (fun i => (i.zero, i.size, i.bytes)) = some (some (.agg #[.int .i64 0, .int .i64 0]), 2, 16) := by kernel_rfl
  obtain ⟨i, hi, hz⟩ := Option.map_eq_some_iff.1 hq
  simp only [Prod.mk.injEq] at hz
  obtain ⟨hz, hs, hb⟩ := hz
  have h := run_make (P := Try.prog) w 23 48 i _ Try.underlying23 hi hz .i64 .i64 n n (by omega) (Int.le_refl _) (by rw [hb]; omega) (by omega)
  unfold execOp
  simp only [ho, hx, Sem.run_bind, h, Result.andThen_ok, Sem.run_pure, Int.toNat_natCast, hs]
  have e : madeCells (Value.cells (.agg #[.int .i64 0, .int .i64 0])) (n * 2) = row0 n := row0_made n hn
  rw [e]
theorem arr_same {cs : Array Value} {off : Nat} {v : Value} (h : cs[off]? = some v) : cs.setIfInBounds off v = cs := by
  apply Array.ext_getElem?
  intro j
  rw [Array.getElem?_setIfInBounds]
  split
  · rename_i e
    subst e
    rw [if_pos (Array.getElem?_eq_some_iff.1 h).1, h]
  · rfl
set_option maxHeartbeats 4000000 in
theorem list58_r {w0 w : World} {As : List Asr} (g b gc off : Nat) (T : TypeId) (s : RS) (most : Int) (h : St w0 (RT g b T s As) w) (hm : boxA 92 gc #[(.iface 54 (.agg #[.pointer (some ⟨g, 0, none⟩)]))] ∈ As) (hok : s.ok) (hh : s.cs[off]? = some (.slice none 0 0)) (hmost : 0 ≤ most ∧ most ≤ 8) :
    Calls Try.prog 58 #[(.iface 54 (.agg #[.pointer (some ⟨g, 0, none⟩)])), .pointer (some ⟨b, off, none⟩), .int .i64 most, .func (.func 59) #[] #[.pointer (some ⟨gc, 0, none⟩)]] w fun e w' => e = .returned (.tuple #[]) ∧ ∃ A, St w0 (RT g b T ⟨(rList most s.l s.e).2.1, (rList most s.l s.e).2.2, s.cs.setIfInBounds off (.slice A (rList most s.l s.e).1.length (rList most s.l s.e).1.length)⟩ (As ++ [rowA 46 A (rList most s.l s.e).1])) w' := by
  have H := Aside0.mk h
  have HM := Aside0.mk hm
  have HH := Aside0.mk hh
  clear h hm hh
  go_enter Try.func58, Try.ntmps58
  go_upto_region 0 with fail
  have H1 := Aside0.mk (H.out.below (below_drew (Below.refl _ _)))
  have cld : w.drew.cell? ⟨b, off, none⟩ = some (.slice none 0 0) := pick_cellE (rt_box H1.out) off HH.out
  refine wp_region_noPanic ?_
  refine wp_region_held_drew (S := fun w' => w'.cell? ⟨b, off, none⟩ = some (.slice none 0 0)) (by kernel_rfl) cld (fun hHeld => ?_)
  generalize w.drew = w1 at *
  refine wpAnyH_take (i := 0) (oi := ({ dst := some 10, op := Op.move (Operand.tmp 0), type := 92, pos := "event.go:159", after := #[], guard := none } : Oper)) (v := ?_) rfl (by kernel_rfl) (by kernel_rfl) (by kernel_rfl) (fun _ _ _ h => h) (Or.inl ⟨by rfl, ?hyL0⟩) (by assumption) ?rsL0
  case hyL0 => (intro w8' hSw; (try dsimp only at hSw); go_simp; (first | done | with_reducible rfl))
  (try simp only [Act.put, List.setIfInBounds_toArray, List.set_cons_zero, List.set_cons_succ])
  refine wpAnyH_take (i := 1) (oi := ({ dst := some 11, op := Op.move (Operand.tmp 1), type := 113, pos := "event.go:159", after := #[], guard := none } : Oper)) (v := ?_) rfl (by kernel_rfl) (by kernel_rfl) (by kernel_rfl) (fun _ _ _ h => h) (Or.inl ⟨by rfl, ?hyL1⟩) (by assumption) ?rsL1
  case hyL1 => (intro w8' hSw; (try dsimp only at hSw); go_simp; (first | done | with_reducible rfl))
  (try simp only [Act.put, List.setIfInBounds_toArray, List.set_cons_zero, List.set_cons_succ])
  refine wpAnyH_take (i := 2) (oi := ({ dst := some 12, op := Op.nilCheck (Operand.tmp 11), type := 0, pos := "event.go:159", after := #[{ on := 1, ground := Ground.data }], guard := none } : Oper)) (v := ?_) rfl (by kernel_rfl) (by kernel_rfl) (by kernel_rfl) (fun _ _ _ h => h) (Or.inl ⟨by rfl, ?hyL2⟩) (by assumption) ?rsL2
  case hyL2 => (intro w8' hSw; (try dsimp only at hSw); go_simp; (first | done | with_reducible rfl))
  (try simp only [Act.put, List.setIfInBounds_toArray, List.set_cons_zero, List.set_cons_succ])
  refine wpAnyH_take (i := 3) (oi := ({ dst := some 13, op := Op.load 22 (Operand.tmp 12), type := 22, pos := "event.go:159", after := #[{ on := 2, ground := Ground.data }], guard := none } : Oper)) (v := ?_) rfl (by kernel_rfl) (by kernel_rfl) (by kernel_rfl) (fun _ _ _ h => h) (Or.inl ⟨by rfl, ?hyL3⟩) (by assumption) ?rsL3
  case hyL3 => (intro w8' hSw; (try dsimp only at hSw); go_simp; (first | done | with_reducible rfl))
  (try simp only [Act.put, List.setIfInBounds_toArray, List.set_cons_zero, List.set_cons_succ])
  refine wpAnyH_take (i := 4) (oi := ({ dst := some 14, op := Op.call { callee := Callee.builtin Builtin.len, args := #[Operand.tmp 13], argTypes := #[22] }, type := 3, pos := "event.go:159", after := #[{ on := 3, ground := Ground.data }], guard := none } : Oper)) (v := ?_) rfl (by kernel_rfl) (by kernel_rfl) (by kernel_rfl) (fun _ _ _ h => h) (Or.inl ⟨by rfl, ?hyL4⟩) (by assumption) ?rsL4
  case hyL4 => (intro w8' hSw; (try dsimp only at hSw); go_simp; (first | done | with_reducible rfl))
  (try simp only [Act.put, List.setIfInBounds_toArray, List.set_cons_zero, List.set_cons_succ])
  refine wpAnyH_take (i := 5) (oi := ({ dst := some 15, op := Op.move (Operand.tmp 2), type := 3, pos := "event.go:159", after := #[], guard := none } : Oper)) (v := ?_) rfl (by kernel_rfl) (by kernel_rfl) (by kernel_rfl) (fun _ _ _ h => h) (Or.inl ⟨by rfl, ?hyL5⟩) (by assumption) ?rsL5
  case hyL5 => (intro w8' hSw; (try dsimp only at hSw); go_simp; (first | done | with_reducible rfl))
  (try simp only [Act.put, List.setIfInBounds_toArray, List.set_cons_zero, List.set_cons_succ])
  refine wpAnyH_take (i := 6) (oi := ({ dst := some 16, op := Op.makeFunc (Fn.method "governor/event.many") #[Operand.tmp 10] #[], type := 120, pos := "event.go:159", after := #[{ on := 0, ground := Ground.data }], guard := none } : Oper)) (v := ?_) rfl (by kernel_rfl) (by kernel_rfl) (by kernel_rfl) (fun _ _ _ h => h) (Or.inl ⟨by rfl, ?hyL6⟩) (by assumption) ?rsL6
  case hyL6 => (intro w8' hSw; (try dsimp only at hSw); go_simp; (first | done | with_reducible rfl))
  (try simp only [Act.put, List.setIfInBounds_toArray, List.set_cons_zero, List.set_cons_succ])
  refine wpAnyH_take (i := 7) (oi := ({ dst := some 17, op := Op.nilCheck (Operand.tmp 16), type := 120, pos := "event.go:159", after := #[{ on := 6, ground := Ground.data }], guard := none } : Oper)) (v := ?_) rfl (by kernel_rfl) (by kernel_rfl) (by kernel_rfl) (fun _ _ _ h => h) (Or.inl ⟨by rfl, ?hyL7⟩) (by assumption) ?rsL7
  case hyL7 => (intro w8' hSw; (refine nc_manyR (x := Operand.tmp 16) g w8' ?_ ?_ <;> rfl))
  (try simp only [Act.put, List.setIfInBounds_toArray, List.set_cons_zero, List.set_cons_succ])
  refine wpAnyH_take (i := 8) (oi := ({ dst := some 18, op := Op.move (Operand.tmp 10), type := 92, pos := "event.go:159", after := #[{ on := 0, ground := Ground.data }, { on := 6, ground := Ground.data }, { on := 7, ground := Ground.data }], guard := none } : Oper)) (v := ?_) rfl (by kernel_rfl) (by kernel_rfl) (by kernel_rfl) (fun _ _ _ h => h) (Or.inl ⟨by rfl, ?hyL8⟩) (by assumption) ?rsL8
  case hyL8 => (intro w8' hSw; (try dsimp only at hSw); go_simp; (first | done | with_reducible rfl))
  (try simp only [Act.put, List.setIfInBounds_toArray, List.set_cons_zero, List.set_cons_succ])
  refine wpAnyH_ready (rs := [9]) (by kernel_rfl) (by simp) ?_
  refine AllReadyH.cons (o := ({ dst := some 19, op := Op.call { callee := Callee.invoke (Operand.tmp 18) "governor/event.many", args := #[Operand.tmp 14, Operand.tmp 15], argTypes := #[3, 3] }, type := 3, pos := "event.go:159", after := #[{ on := 8, ground := Ground.data }, { on := 4, ground := Ground.data }, { on := 5, ground := Ground.data }], guard := none } : Oper)) rfl (fun K hK => ?_) AllReadyH.nil
  rw [if_pos (by rfl)]
  go_simp
  refine (rd_many g b T s 0 most H1.out hok ⟨hmost.1, by omega⟩).mono ?_
  rintro e w2 ⟨rfl, h2⟩
  have H2 := Aside0.mk h2
  clear h2
  go_simp
  refine hK.out _ _ (pick_cellE (rt_box H2.out) off HH.out) (fun hHeld => ?_)
  clear hK
  (try simp only [Act.put, List.setIfInBounds_toArray, List.set_cons_zero, List.set_cons_succ])
  refine wpAnyH_take (i := 10) (oi := ({ dst := some 8, op := Op.assign (Operand.tmp 19), type := 3, pos := "event.go:159", after := #[{ on := 9, ground := Ground.data }, { on := 9, ground := Ground.chain }, { on := 0, ground := Ground.phase }, { on := 1, ground := Ground.phase }, { on := 2, ground := Ground.phase }, { on := 3, ground := Ground.phase }, { on := 4, ground := Ground.phase }, { on := 5, ground := Ground.phase }, { on := 6, ground := Ground.phase }, { on := 7, ground := Ground.phase }, { on := 8, ground := Ground.phase }, { on := 9, ground := Ground.phase }], guard := none } : Oper)) (v := ?_) rfl (by kernel_rfl) (by kernel_rfl) (by kernel_rfl) (fun _ _ _ h => h) (Or.inl ⟨by rfl, ?hyM10⟩) (by assumption) ?rsM10
  case hyM10 => (intro w8' hSw; (try dsimp only at hSw); go_simp; (first | done | with_reducible rfl))
  (try simp only [Act.put, List.setIfInBounds_toArray, List.set_cons_zero, List.set_cons_succ])
  refine wpAnyH_done (by kernel_rfl) ?_ _
  refine NoPanic.normal ?_
  have hr := rInt_range most s.l s.e hmost.1
  have HRL := Aside0.mk (show rList most s.l s.e = rPairs (rInt 0 most s.l s.e).1.toNat (rInt 0 most s.l s.e).2.1 (rInt 0 most s.l s.e).2.2 from rfl)
  have hok2 : ∀ x ∈ (rInt 0 most s.l s.e).2.1, 0 ≤ x ∧ x < 256 := rInt_bytes _ _ hok
  generalize (rInt 0 most s.l s.e).2.1 = l1 at *
  generalize (rInt 0 most s.l s.e).2.2 = e1 at *
  generalize (rInt 0 most s.l s.e).1 = nI at *
  obtain ⟨n, rfl⟩ : ∃ n : Nat, nI = n := ⟨nI.toNat, by omega⟩
  rw [Int.toNat_natCast] at HRL
  have cl2 : w2.cell? ⟨b, off, none⟩ = some (.slice none 0 0) := pick_cellE (rt_box H2.out) off HH.out
  have hn8 : n ≤ 8 := by omega
  clear H1 cld hr H
  by_cases hz : n = 0
  · subst hz
    have q0 : ((((0 : Nat) : Int)) == 0) = true := by rfl
    go_wp2_with fail
    go_loopw [34] (fun i_ wr => i_ = .int .i64 0 ∧ wr = w2) (fun i_ _ => 0)
    case atStart => exact ⟨rfl, rfl⟩
    case round =>
      obtain ⟨rfl, rfl⟩ := hrel
      go_wp2_with fail
      go_end0
      refine ⟨rfl, none, ?_⟩
      rw [HRL.out]
      show St w0 (RT g b T ⟨l1, e1, s.cs.setIfInBounds off (.slice none 0 0)⟩ (As ++ [rowA 46 none []])) _
      have ecs : s.cs.setIfInBounds off (.slice none 0 0) = s.cs := arr_same HH.out
      rw [ecs]
      exact H2.out.push (Below.refl _ _) (rowA_nil _ _ _)
  have q0 : (((n : Int)) == 0) = false := beq_eq_false_iff_ne.2 (by omega)
  go_upto_region 2 with fail
  clear cl2
  have h3 := H2.out.push (below_alloc (Below.refl _ _) (.cells (row0 n) 46)) (boxA_new w2 46 (row0 n))
  rw [rt_push] at h3
  have h4 := st_put (T := T) (b := b) (cs := s.cs) h3 1 rfl off (.slice (some ⟨w2.heap.size, 0, none⟩) n n)
  have cs3 : (w2.alloc (.cells (row0 n) 46)).cell? ⟨b, off, none⟩ = some (.slice none 0 0) := pick_cellE (rt_box h3) off HH.out
  have cf3 : (w2.alloc (.cells (row0 n) 46)).frozen? ⟨b, off, none⟩ = false := nf_box (rt_box h3)
  have h5 : St w0 (RT g w2.heap.size 46 ⟨l1, e1, row0 n⟩ (boxA T b (s.cs.setIfInBounds off (.slice (some ⟨w2.heap.size, 0, none⟩) n n)) :: As)) ((w2.alloc (.cells (row0 n) 46)).setCell ⟨b, off, none⟩ (.slice (some ⟨w2.heap.size, 0, none⟩) n n)) := st_perm h4 (by
    show (rdA g l1 e1 :: ((boxA T b (s.cs.setIfInBounds off (.slice (some ⟨w2.heap.size, 0, none⟩) n n)) :: As) ++ [boxA 46 w2.heap.size (row0 n)])).Perm (rdA g l1 e1 :: ([boxA 46 w2.heap.size (row0 n)] ++ (boxA T b (s.cs.setIfInBounds off (.slice (some ⟨w2.heap.size, 0, none⟩) n n)) :: As)))
    exact List.Perm.cons _ List.perm_append_comm)
  have H5 := Aside0.mk h5
  clear h3 h4 h5 H2
  go_upto_region 3 with (first
    | (with_reducible refine hd_gate 28 rfl ?_); refine hd_run rfl (mk_run22 n w2 rfl rfl hn8) ?_)
  clear cs3 cf3
  have HG := Aside0.mk (show ∃ a : Nat, a = w2.heap.size from ⟨_, rfl⟩)
  generalize (w2.alloc (.cells (row0 n) 46)).setCell ⟨b, off, none⟩ (.slice (some ⟨w2.heap.size, 0, none⟩) n n) = w4 at *
  generalize w2.heap.size = gr at *
  clear HG
  have HLD := Aside0.mk (show ∀ l' e' cs' wr, St w0 (RT g gr 46 ⟨l', e', cs'⟩ (boxA T b (s.cs.setIfInBounds off (.slice (some ⟨gr, 0, none⟩) n n)) :: As)) wr → wr.cell? ⟨b, off, none⟩ = some (.slice (some ⟨gr, 0, none⟩) n n) from fun l' e' cs' wr hS => pick_cellE (st_box hS (mem_rt List.mem_cons_self)) off (by rw [Array.getElem?_setIfInBounds_self_of_lt (Array.getElem?_eq_some_iff.1 HH.out).1]))
  have cla := HLD.out _ _ _ _ H5.out
  go_wp2_with fail
  clear cla
  go_loopw [34] (fun i_ wr => ∃ k : Nat, k ≤ n ∧ i_ = .int .i64 k ∧ Aside0 (St w0 (RT g gr 46 ⟨(rPairs k l1 e1).2.1, (rPairs k l1 e1).2.2, (cells2 ((rPairs k l1 e1).1 ++ List.replicate (n - k) (0, 0))).toArray⟩ (boxA T b (s.cs.setIfInBounds off (.slice (some ⟨gr, 0, none⟩) n n)) :: As)) wr)) (fun i_ _ => n - (intOf i_).toNat)
  case atStart => exact ⟨0, Nat.zero_le _, rfl, ⟨H5.out⟩⟩
  case round =>
    clear H5
    obtain ⟨k, hk, rfl, HS⟩ := hrel
    by_cases hlt : k < n
    · have cla := HLD.out _ _ _ _ HS.out
      have wk : IntKind.i64.wrap ((k : Int) + 1) = (k : Int) + 1 := by rw [IntKind.wrap_i64] <;> omega
      have hbk : ∀ x ∈ (rPairs k l1 e1).2.1, 0 ≤ x ∧ x < 256 := rPairs_bytes hok2 k
      have erep : List.replicate (n - k) ((0 : Int), (0 : Int)) = (0, 0) :: List.replicate (n - (k + 1)) (0, 0) := by rw [show n - k = (n - (k + 1)) + 1 by omega]; rfl
      have HPL := Aside0.mk (rPairs_len l1 e1 k)
      have HNX := Aside0.mk (show rPairs (k + 1) l1 e1 = ((rPairs k l1 e1).1 ++ [((rNum (rPairs k l1 e1).2.1 (rPairs k l1 e1).2.2).1, (rNum (rNum (rPairs k l1 e1).2.1 (rPairs k l1 e1).2.2).2.1 (rNum (rPairs k l1 e1).2.1 (rPairs k l1 e1).2.2).2.2).1)], (rNum (rNum (rPairs k l1 e1).2.1 (rPairs k l1 e1).2.2).2.1 (rNum (rPairs k l1 e1).2.1 (rPairs k l1 e1).2.2).2.2).2.1, (rNum (rNum (rPairs k l1 e1).2.1 (rPairs k l1 e1).2.2).2.1 (rNum (rPairs k l1 e1).2.1 (rPairs k l1 e1).2.2).2.2).2.2) from rfl)
      rw [erep] at HS
      obtain ⟨rp, hrp⟩ : ∃ rp, rp = List.replicate (n - (k + 1)) ((0 : Int), (0 : Int)) := ⟨_, rfl⟩
      rw [← hrp] at HS
      have HRP := Aside0.mk hrp
      clear hrp
      generalize (rPairs k l1 e1).1 = ps at *
      generalize (rPairs k l1 e1).2.1 = lk at *
      generalize (rPairs k l1 e1).2.2 = ek at *
      clear erep
      go_wp2_with fail
      refine (band59_r g gr gc (k * 2) 46 ⟨lk, ek, (cells2 (ps ++ (0, 0) :: rp)).toArray⟩ _ rfl HS.out (List.mem_cons_of_mem _ HM.out) hbk ⟨0, cells2_g0 ps rp 0 0 _ (by rw [HPL.out]), by omega, by omega⟩ ⟨0, cells2_g1 ps rp 0 0 _ (by rw [HPL.out]), by omega, by omega⟩).mono ?_
      rintro e w5 ⟨rfl, h5⟩
      have H6 : Aside0 (St w0 (RT g gr 46 ⟨(rPairs (k + 1) l1 e1).2.1, (rPairs (k + 1) l1 e1).2.2, (cells2 ((rPairs (k + 1) l1 e1).1 ++ rp)).toArray⟩ (boxA T b (s.cs.setIfInBounds off (.slice (some ⟨gr, 0, none⟩) n n)) :: As)) w5) := ⟨by
        rw [HNX.out]
        have h6 := h5
        unfold RS.num at h6
        dsimp only at h6 ⊢
        rw [cells2_0 _ _ _ _ _ _ (by rw [HPL.out]), cells2_1 _ _ _ _ _ _ (by rw [HPL.out])] at h6
        rw [List.append_assoc]
        exact h6⟩
      clear h5 cla HS
      go_wp2_with fail
      go_roundw
      case rel => exact ⟨k + 1, by omega, by first | rfl | (simp; done), ⟨by rw [← HRP.out]; exact H6.out⟩⟩
      case measure => simp [intOf]; omega
    · obtain rfl : k = n := by omega
      have HE : Aside0 (St w0 (RT g b T ⟨(rPairs k l1 e1).2.1, (rPairs k l1 e1).2.2, s.cs.setIfInBounds off (.slice (some ⟨gr, 0, none⟩) k k)⟩ (As ++ [rowA 46 (some ⟨gr, 0, none⟩) (rPairs k l1 e1).1])) wr) := ⟨by
        have h1 := HS.out
        rw [Nat.sub_self, List.replicate_zero, List.append_nil] at h1
        have h2 := st_weak h1 1 (A' := rowA 46 (some ⟨gr, 0, none⟩) (rPairs k l1 e1).1) rfl (fun S hS => .inr ⟨gr, rfl, hS.1, hS.2⟩)
        exact st_perm h2 (List.Perm.cons _ (List.perm_append_comm (l₁ := [rowA 46 (some ⟨gr, 0, none⟩) (rPairs k l1 e1).1]) (l₂ := boxA T b (s.cs.setIfInBounds off (.slice (some ⟨gr, 0, none⟩) k k)) :: As)))⟩
      go_wp2_with fail
      go_end0
      refine ⟨rfl, some ⟨gr, 0, none⟩, ?_⟩
      rw [HRL.out, rPairs_len]
      exact HE.out
set_option maxHeartbeats 4000000 in
theorem list60_r {w0 w : World} {As : List Asr} (g b gc off : Nat) (T : TypeId) (s : RS) (most : Int) (h : St w0 (RT g b T s As) w) (hm : boxA 92 gc #[(.iface 54 (.agg #[.pointer (some ⟨g, 0, none⟩)]))] ∈ As) (hok : s.ok) (hh : s.cs[off]? = some (.slice none 0 0)) (hmost : 0 ≤ most ∧ most ≤ 8) :
    Calls Try.prog 60 #[(.iface 54 (.agg #[.pointer (some ⟨g, 0, none⟩)])), .pointer (some ⟨b, off, none⟩), .int .i64 most, .func (.func 61) #[] #[.pointer (some ⟨gc, 0, none⟩)]] w fun e w' => e = .returned (.tuple #[]) ∧ ∃ A, St w0 (RT g b T ⟨(rList most s.l s.e).2.1, (rList most s.l s.e).2.2, s.cs.setIfInBounds off (.slice A (rList most s.l s.e).1.length (rList most s.l s.e).1.length)⟩ (As ++ [rowA 48 A (rList most s.l s.e).1])) w' := by
  have H := Aside0.mk h
  have HM := Aside0.mk hm
  have HH := Aside0.mk hh
  clear h hm hh
  go_enter Try.func60, Try.ntmps60
  go_upto_region 0 with fail
  have H1 := Aside0.mk (H.out.below (below_drew (Below.refl _ _)))
  have cld : w.drew.cell? ⟨b, off, none⟩ = some (.slice none 0 0) := pick_cellE (rt_box H1.out) off HH.out
  refine wp_region_noPanic ?_
  refine wp_region_held_drew (S := fun w' => w'.cell? ⟨b, off, none⟩ = some (.slice none 0 0)) (by kernel_rfl) cld (fun hHeld => ?_)
  generalize w.drew = w1 at *
  refine wpAnyH_take (i := 0) (oi := ({ dst := some 10, op := Op.move (Operand.tmp 0), type := 92, pos := "event.go:159", after := #[], guard := none } : Oper)) (v := ?_) rfl (by kernel_rfl) (by kernel_rfl) (by kernel_rfl) (fun _ _ _ h => h) (Or.inl ⟨by rfl, ?hyL0⟩) (by assumption) ?rsL0
  case hyL0 => (intro w8' hSw; (try dsimp only at hSw); go_simp; (first | done | with_reducible rfl))
  (try simp only [Act.put, List.setIfInBounds_toArray, List.set_cons_zero, List.set_cons_succ])
  refine wpAnyH_take (i := 1) (oi := ({ dst := some 11, op := Op.move (Operand.tmp 1), type := 117, pos := "event.go:159", after := #[], guard := none } : Oper)) (v := ?_) rfl (by kernel_rfl) (by kernel_rfl) (by kernel_rfl) (fun _ _ _ h => h) (Or.inl ⟨by rfl, ?hyL1⟩) (by assumption) ?rsL1
  case hyL1 => (intro w8' hSw; (try dsimp only at hSw); go_simp; (first | done | with_reducible rfl))
  (try simp only [Act.put, List.setIfInBounds_toArray, List.set_cons_zero, List.set_cons_succ])
  refine wpAnyH_take (i := 2) (oi := ({ dst := some 12, op := Op.nilCheck (Operand.tmp 11), type := 0, pos := "event.go:159", after := #[{ on := 1, ground := Ground.data }], guard := none } : Oper)) (v := ?_) rfl (by kernel_rfl) (by kernel_rfl) (by kernel_rfl) (fun _ _ _ h => h) (Or.inl ⟨by rfl, ?hyL2⟩) (by assumption) ?rsL2
  case hyL2 => (intro w8' hSw; (try dsimp only at hSw); go_simp; (first | done | with_reducible rfl))
  (try simp only [Act.put, List.setIfInBounds_toArray, List.set_cons_zero, List.set_cons_succ])
  refine wpAnyH_take (i := 3) (oi := ({ dst := some 13, op := Op.load 23 (Operand.tmp 12), type := 23, pos := "event.go:159", after := #[{ on := 2, ground := Ground.data }], guard := none } : Oper)) (v := ?_) rfl (by kernel_rfl) (by kernel_rfl) (by kernel_rfl) (fun _ _ _ h => h) (Or.inl ⟨by rfl, ?hyL3⟩) (by assumption) ?rsL3
  case hyL3 => (intro w8' hSw; (try dsimp only at hSw); go_simp; (first | done | with_reducible rfl))
  (try simp only [Act.put, List.setIfInBounds_toArray, List.set_cons_zero, List.set_cons_succ])
  refine wpAnyH_take (i := 4) (oi := ({ dst := some 14, op := Op.call { callee := Callee.builtin Builtin.len, args := #[Operand.tmp 13], argTypes := #[23] }, type := 3, pos := "event.go:159", after := #[{ on := 3, ground := Ground.data }], guard := none } : Oper)) (v := ?_) rfl (by kernel_rfl) (by kernel_rfl) (by kernel_rfl) (fun _ _ _ h => h) (Or.inl ⟨by rfl, ?hyL4⟩) (by assumption) ?rsL4
  case hyL4 => (intro w8' hSw; (try dsimp only at hSw); go_simp; (first | done | with_reducible rfl))
  (try simp only [Act.put, List.setIfInBounds_toArray, List.set_cons_zero, List.set_cons_succ])
  refine wpAnyH_take (i := 5) (oi := ({ dst := some 15, op := Op.move (Operand.tmp 2), type := 3, pos := "event.go:159", after := #[], guard := none } : Oper)) (v := ?_) rfl (by kernel_rfl) (by kernel_rfl) (by kernel_rfl) (fun _ _ _ h => h) (Or.inl ⟨by rfl, ?hyL5⟩) (by assumption) ?rsL5
  case hyL5 => (intro w8' hSw; (try dsimp only at hSw); go_simp; (first | done | with_reducible rfl))
  (try simp only [Act.put, List.setIfInBounds_toArray, List.set_cons_zero, List.set_cons_succ])
  refine wpAnyH_take (i := 6) (oi := ({ dst := some 16, op := Op.makeFunc (Fn.method "governor/event.many") #[Operand.tmp 10] #[], type := 120, pos := "event.go:159", after := #[{ on := 0, ground := Ground.data }], guard := none } : Oper)) (v := ?_) rfl (by kernel_rfl) (by kernel_rfl) (by kernel_rfl) (fun _ _ _ h => h) (Or.inl ⟨by rfl, ?hyL6⟩) (by assumption) ?rsL6
  case hyL6 => (intro w8' hSw; (try dsimp only at hSw); go_simp; (first | done | with_reducible rfl))
  (try simp only [Act.put, List.setIfInBounds_toArray, List.set_cons_zero, List.set_cons_succ])
  refine wpAnyH_take (i := 7) (oi := ({ dst := some 17, op := Op.nilCheck (Operand.tmp 16), type := 120, pos := "event.go:159", after := #[{ on := 6, ground := Ground.data }], guard := none } : Oper)) (v := ?_) rfl (by kernel_rfl) (by kernel_rfl) (by kernel_rfl) (fun _ _ _ h => h) (Or.inl ⟨by rfl, ?hyL7⟩) (by assumption) ?rsL7
  case hyL7 => (intro w8' hSw; (refine nc_manyR (x := Operand.tmp 16) g w8' ?_ ?_ <;> rfl))
  (try simp only [Act.put, List.setIfInBounds_toArray, List.set_cons_zero, List.set_cons_succ])
  refine wpAnyH_take (i := 8) (oi := ({ dst := some 18, op := Op.move (Operand.tmp 10), type := 92, pos := "event.go:159", after := #[{ on := 0, ground := Ground.data }, { on := 6, ground := Ground.data }, { on := 7, ground := Ground.data }], guard := none } : Oper)) (v := ?_) rfl (by kernel_rfl) (by kernel_rfl) (by kernel_rfl) (fun _ _ _ h => h) (Or.inl ⟨by rfl, ?hyL8⟩) (by assumption) ?rsL8
  case hyL8 => (intro w8' hSw; (try dsimp only at hSw); go_simp; (first | done | with_reducible rfl))
  (try simp only [Act.put, List.setIfInBounds_toArray, List.set_cons_zero, List.set_cons_succ])
  refine wpAnyH_ready (rs := [9]) (by kernel_rfl) (by simp) ?_
  refine AllReadyH.cons (o := ({ dst := some 19, op := Op.call { callee := Callee.invoke (Operand.tmp 18) "governor/event.many", args := #[Operand.tmp 14, Operand.tmp 15], argTypes := #[3, 3] }, type := 3, pos := "event.go:159", after := #[{ on := 8, ground := Ground.data }, { on := 4, ground := Ground.data }, { on := 5, ground := Ground.data }], guard := none } : Oper)) rfl (fun K hK => ?_) AllReadyH.nil
  rw [if_pos (by rfl)]
  go_simp
  refine (rd_many g b T s 0 most H1.out hok ⟨hmost.1, by omega⟩).mono ?_
  rintro e w2 ⟨rfl, h2⟩
  have H2 := Aside0.mk h2
  clear h2
  go_simp
  refine hK.out _ _ (pick_cellE (rt_box H2.out) off HH.out) (fun hHeld => ?_)
  clear hK
  (try simp only [Act.put, List.setIfInBounds_toArray, List.set_cons_zero, List.set_cons_succ])
  refine wpAnyH_take (i := 10) (oi := ({ dst := some 8, op := Op.assign (Operand.tmp 19), type := 3, pos := "event.go:159", after := #[{ on := 9, ground := Ground.data }, { on := 9, ground := Ground.chain }, { on := 0, ground := Ground.phase }, { on := 1, ground := Ground.phase }, { on := 2, ground := Ground.phase }, { on := 3, ground := Ground.phase }, { on := 4, ground := Ground.phase }, { on := 5, ground := Ground.phase }, { on := 6, ground := Ground.phase }, { on := 7, ground := Ground.phase }, { on := 8, ground := Ground.phase }, { on := 9, ground := Ground.phase }], guard := none } : Oper)) (v := ?_) rfl (by kernel_rfl) (by kernel_rfl) (by kernel_rfl) (fun _ _ _ h => h) (Or.inl ⟨by rfl, ?hyM10⟩) (by assumption) ?rsM10
  case hyM10 => (intro w8' hSw; (try dsimp only at hSw); go_simp; (first | done | with_reducible rfl))
  (try simp only [Act.put, List.setIfInBounds_toArray, List.set_cons_zero, List.set_cons_succ])
  refine wpAnyH_done (by kernel_rfl) ?_ _
  refine NoPanic.normal ?_
  have hr := rInt_range most s.l s.e hmost.1
  have HRL := Aside0.mk (show rList most s.l s.e = rPairs (rInt 0 most s.l s.e).1.toNat (rInt 0 most s.l s.e).2.1 (rInt 0 most s.l s.e).2.2 from rfl)
  have hok2 : ∀ x ∈ (rInt 0 most s.l s.e).2.1, 0 ≤ x ∧ x < 256 := rInt_bytes _ _ hok
  generalize (rInt 0 most s.l s.e).2.1 = l1 at *
  generalize (rInt 0 most s.l s.e).2.2 = e1 at *
  generalize (rInt 0 most s.l s.e).1 = nI at *
  obtain ⟨n, rfl⟩ : ∃ n : Nat, nI = n := ⟨nI.toNat, by omega⟩
  rw [Int.toNat_natCast] at HRL
  have cl2 : w2.cell? ⟨b, off, none⟩ = some (.slice none 0 0) := pick_cellE (rt_box H2.out) off HH.out
  have hn8 : n ≤ 8 := by omega
  clear H1 cld hr H
  by_cases hz : n = 0
  · subst hz
    have q0 : ((((0 : Nat) : Int)) == 0) = true := by rfl
    go_wp2_with fail
    go_loopw [34] (fun i_ wr => i_ = .int .i64 0 ∧ wr = w2) (fun i_ _ => 0)
    case atStart => exact ⟨rfl, rfl⟩
    case round =>
      obtain ⟨rfl, rfl⟩ := hrel
      go_wp2_with fail
      go_end0
      refine ⟨rfl, none, ?_⟩
      rw [HRL.out]
      show St w0 (RT g b T ⟨l1, e1, s.cs.setIfInBounds off (.slice none 0 0)⟩ (As ++ [rowA 48 none []])) _
      have ecs : s.cs.setIfInBounds off (.slice none 0 0) = s.cs := arr_same HH.out
      rw [ecs]
      exact H2.out.push (Below.refl _ _) (rowA_nil _ _ _)
  have q0 : (((n : Int)) == 0) = false := beq_eq_false_iff_ne.2 (by omega)
  go_upto_region 2 with fail
  clear cl2
  have h3 := H2.out.push (below_alloc (Below.refl _ _) (.cells (row0 n) 48)) (boxA_new w2 48 (row0 n))
  rw [rt_push] at h3
  have h4 := st_put (T := T) (b := b) (cs := s.cs) h3 1 rfl off (.slice (some ⟨w2.heap.size, 0, none⟩) n n)
  have cs3 : (w2.alloc (.cells (row0 n) 48)).cell? ⟨b, off, none⟩ = some (.slice none 0 0) := pick_cellE (rt_box h3) off HH.out
  have cf3 : (w2.alloc (.cells (row0 n) 48)).frozen? ⟨b, off, none⟩ = false := nf_box (rt_box h3)
  have h5 : St w0 (RT g w2.heap.size 48 ⟨l1, e1, row0 n⟩ (boxA T b (s.cs.setIfInBounds off (.slice (some ⟨w2.heap.size, 0, none⟩) n n)) :: As)) ((w2.alloc (.cells (row0 n) 48)).setCell ⟨b, off, none⟩ (.slice (some ⟨w2.heap.size, 0, none⟩) n n)) := st_perm h4 (by
    show (rdA g l1 e1 :: ((boxA T b (s.cs.setIfInBounds off (.slice (some ⟨w2.heap.size, 0, none⟩) n n)) :: As) ++ [boxA 48 w2.heap.size (row0 n)])).Perm (rdA g l1 e1 :: ([boxA 48 w2.heap.size (row0 n)] ++ (boxA T b (s.cs.setIfInBounds off (.slice (some ⟨w2.heap.size, 0, none⟩) n n)) :: As)))
    exact List.Perm.cons _ List.perm_append_comm)
  have H5 := Aside0.mk h5
  clear h3 h4 h5 H2
  go_upto_region 3 with (first
    | (with_reducible refine hd_gate 28 rfl ?_); refine hd_run rfl (mk_run23 n w2 rfl rfl hn8) ?_)
  clear cs3 cf3
  have HG := Aside0.mk (show ∃ a : Nat, a = w2.heap.size from ⟨_, rfl⟩)
  generalize (w2.alloc (.cells (row0 n) 48)).setCell ⟨b, off, none⟩ (.slice (some ⟨w2.heap.size, 0, none⟩) n n) = w4 at *
  generalize w2.heap.size = gr at *
  clear HG
  have HLD := Aside0.mk (show ∀ l' e' cs' wr, St w0 (RT g gr 48 ⟨l', e', cs'⟩ (boxA T b (s.cs.setIfInBounds off (.slice (some ⟨gr, 0, none⟩) n n)) :: As)) wr → wr.cell? ⟨b, off, none⟩ = some (.slice (some ⟨gr, 0, none⟩) n n) from fun l' e' cs' wr hS => pick_cellE (st_box hS (mem_rt List.mem_cons_self)) off (by rw [Array.getElem?_setIfInBounds_self_of_lt (Array.getElem?_eq_some_iff.1 HH.out).1]))
  have cla := HLD.out _ _ _ _ H5.out
  go_wp2_with fail
  clear cla
  go_loopw [34] (fun i_ wr => ∃ k : Nat, k ≤ n ∧ i_ = .int .i64 k ∧ Aside0 (St w0 (RT g gr 48 ⟨(rPairs k l1 e1).2.1, (rPairs k l1 e1).2.2, (cells2 ((rPairs k l1 e1).1 ++ List.replicate (n - k) (0, 0))).toArray⟩ (boxA T b (s.cs.setIfInBounds off (.slice (some ⟨gr, 0, none⟩) n n)) :: As)) wr)) (fun i_ _ => n - (intOf i_).toNat)
  case atStart => exact ⟨0, Nat.zero_le _, rfl, ⟨H5.out⟩⟩
  case round =>
    clear H5
    obtain ⟨k, hk, rfl, HS⟩ := hrel
    by_cases hlt : k < n
    · have cla := HLD.out _ _ _ _ HS.out
      have wk : IntKind.i64.wrap ((k : Int) + 1) = (k : Int) + 1 := by rw [IntKind.wrap_i64] <;> omega
      have hbk : ∀ x ∈ (rPairs k l1 e1).2.1, 0 ≤ x ∧ x < 256 := rPairs_bytes hok2 k
      have erep : List.replicate (n - k) ((0 : Int), (0 : Int)) = (0, 0) :: List.replicate (n - (k + 1)) (0, 0) := by rw [show n - k = (n - (k + 1)) + 1 by omega]; rfl
      have HPL := Aside0.mk (rPairs_len l1 e1 k)
      have HNX := Aside0.mk (show rPairs (k + 1) l1 e1 = ((rPairs k l1 e1).1 ++ [((rNum (rPairs k l1 e1).2.1 (rPairs k l1 e1).2.2).1, (rNum (rNum (rPairs k l1 e1).2.1 (rPairs k l1 e1).2.2).2.1 (rNum (rPairs k l1 e1).2.1 (rPairs k l1 e1).2.2).2.2).1)], (rNum (rNum (rPairs k l1 e1).2.1 (rPairs k l1 e1).2.2).2.1 (rNum (rPairs k l1 e1).2.1 (rPairs k l1 e1).2.2).2.2).2.1, (rNum (rNum (rPairs k l1 e1).2.1 (rPairs k l1 e1).2.2).2.1 (rNum (rPairs k l1 e1).2.1 (rPairs k l1 e1).2.2).2.2).2.2) from rfl)
      rw [erep] at HS
      obtain ⟨rp, hrp⟩ : ∃ rp, rp = List.replicate (n - (k + 1)) ((0 : Int), (0 : Int)) := ⟨_, rfl⟩
      rw [← hrp] at HS
      have HRP := Aside0.mk hrp
      clear hrp
      generalize (rPairs k l1 e1).1 = ps at *
      generalize (rPairs k l1 e1).2.1 = lk at *
      generalize (rPairs k l1 e1).2.2 = ek at *
      clear erep
      go_wp2_with fail
      refine (band61_r g gr gc (k * 2) 48 ⟨lk, ek, (cells2 (ps ++ (0, 0) :: rp)).toArray⟩ _ rfl HS.out (List.mem_cons_of_mem _ HM.out) hbk ⟨0, cells2_g0 ps rp 0 0 _ (by rw [HPL.out]), by omega, by omega⟩ ⟨0, cells2_g1 ps rp 0 0 _ (by rw [HPL.out]), by omega, by omega⟩).mono ?_
      rintro e w5 ⟨rfl, h5⟩
      have H6 : Aside0 (St w0 (RT g gr 48 ⟨(rPairs (k + 1) l1 e1).2.1, (rPairs (k + 1) l1 e1).2.2, (cells2 ((rPairs (k + 1) l1 e1).1 ++ rp)).toArray⟩ (boxA T b (s.cs.setIfInBounds off (.slice (some ⟨gr, 0, none⟩) n n)) :: As)) w5) := ⟨by
        rw [HNX.out]
        have h6 := h5
        unfold RS.num at h6
        dsimp only at h6 ⊢
        rw [cells2_0 _ _ _ _ _ _ (by rw [HPL.out]), cells2_1 _ _ _ _ _ _ (by rw [HPL.out])] at h6
        rw [List.append_assoc]
        exact h6⟩
      clear h5 cla HS
      go_wp2_with fail
      go_roundw
      case rel => exact ⟨k + 1, by omega, by first | rfl | (simp; done), ⟨by rw [← HRP.out]; exact H6.out⟩⟩
      case measure => simp [intOf]; omega
    · obtain rfl : k = n := by omega
      have HE : Aside0 (St w0 (RT g b T ⟨(rPairs k l1 e1).2.1, (rPairs k l1 e1).2.2, s.cs.setIfInBounds off (.slice (some ⟨gr, 0, none⟩) k k)⟩ (As ++ [rowA 48 (some ⟨gr, 0, none⟩) (rPairs k l1 e1).1])) wr) := ⟨by
        have h1 := HS.out
        rw [Nat.sub_self, List.replicate_zero, List.append_nil] at h1
        have h2 := st_weak h1 1 (A' := rowA 48 (some ⟨gr, 0, none⟩) (rPairs k l1 e1).1) rfl (fun S hS => .inr ⟨gr, rfl, hS.1, hS.2⟩)
        exact st_perm h2 (List.Perm.cons _ (List.perm_append_comm (l₁ := [rowA 48 (some ⟨gr, 0, none⟩) (rPairs k l1 e1).1]) (l₂ := boxA T b (s.cs.setIfInBounds off (.slice (some ⟨gr, 0, none⟩) k k)) :: As)))⟩
      go_wp2_with fail
      go_end0
      refine ⟨rfl, some ⟨gr, 0, none⟩, ?_⟩
      rw [HRL.out, rPairs_len]
      exact HE.out
end Go.Proofs.Ytldohapdhljoaaa.Wire
namespace Go.Proofs.Ytldohapdhljoaaa.Wire
open Go.RowKit Go.Proofs.YtldohapdhljoaaaW.PrintWords Go.Proofs.Ytldohapdhljoaaa.Obj Go.Proofs.Ytldohapdhljoaaa.Print
set_option linter.unusedVariables false
set_option linter.unusedSimpArgs false
set_option maxRecDepth 100000
theorem st_mid {w0 w : World} {Xs Ys : List Asr} {B : Asr} (h : St w0 (Xs ++ B :: Ys) w) : St w0 (Xs ++ Ys) w := st_tail (st_perm h List.perm_middle)
theorem RS.get_num {s : RS} {o p : Nat} (hp : p ≠ o) : (s.num o).cs[p]? = s.cs[p]? := by
  unfold RS.num
  dsimp only
  rw [Array.getElem?_setIfInBounds, if_neg (Ne.symm hp)]
theorem RS.get_nums {p : Nat} : ∀ (os : List Nat) (s : RS), p ∉ os → (s.nums os).cs[p]? = s.cs[p]?
  | [], s, _ => rfl
  | o :: os, s, h => by
    rw [List.mem_cons, not_or] at h
    show (RS.nums (s.num o) os).cs[p]? = _
    rw [RS.get_nums os _ h.2, RS.get_num h.1]
def RS.list (s : RS) (m : Int) (o : Nat) (A : Option Addr) : RS := ⟨(rList m s.l s.e).2.1, (rList m s.l s.e).2.2, s.cs.setIfInBounds o (.slice A (rList m s.l s.e).1.length (rList m s.l s.e).1.length)⟩
theorem RS.ok_list {s : RS} (h : s.ok) (m : Int) (o : Nat) (A : Option Addr) : (s.list m o A).ok := rList_bytes h
theorem RS.int_list {s : RS} {o p : Nat} (h : s.int p) (m : Int) (A : Option Addr) (hp : p ≠ o) : (s.list m o A).int p := by
  obtain ⟨v, h1, h2⟩ := h
  refine ⟨v, ?_, h2⟩
  unfold RS.list
  dsimp only
  rw [Array.getElem?_setIfInBounds, if_neg (Ne.symm hp), h1]
theorem RS.get_list {s : RS} {o p : Nat} (m : Int) (A : Option Addr) (hp : p ≠ o) : (s.list m o A).cs[p]? = s.cs[p]? := by
  unfold RS.list
  dsimp only
  rw [Array.getElem?_setIfInBounds, if_neg (Ne.symm hp)]
def pS2 (s : RS) (o : Nat) : RS := (s.nums [o]).nums [o + 1]
def pS4 (s : RS) (o : Nat) (A : Option Addr) : RS := ((pS2 s o).list 8 (o + 2) A).nums [o + 3, o + 4, o + 5, o + 6]
set_option maxHeartbeats 8000000 in
theorem policy_r {w0 w : World} {As : List Asr} (g b o : Nat) (T : TypeId) (s : RS) (h : St w0 (RT g b T s As) w) (hok : s.ok) (hint : ∀ p ∈ [o, o + 1, o + 3, o + 4, o + 5, o + 6], s.int p) (h2 : s.cs[o + 2]? = some (.slice none 0 0)) (h7 : s.cs[o + 7]? = some (.slice none 0 0)) :
    Calls Try.prog 55 #[(.iface 54 (.agg #[.pointer (some ⟨g, 0, none⟩)])), .pointer (some ⟨b, o, none⟩)] w fun e w' => e = .returned (.tuple #[]) ∧ ∃ A2 A7, St w0 (RT g b T ((pS4 s o A2).list 8 (o + 7) A7) (As ++ [rowA 46 A2 (rList 8 (pS2 s o).l (pS2 s o).e).1, rowA 48 A7 (rList 8 (pS4 s o A2).l (pS4 s o A2).e).1])) w' := by
  have hu25 := Try.underlying25
  have ok1 := RS.ok_nums hok [o]
  have ok2 := RS.ok_nums ok1 [o + 1]
  have in1 : ∀ p ∈ [o + 1], (s.nums [o]).int p := by
    intro p hp
    rw [List.mem_singleton] at hp
    subst hp
    exact RS.int_nums hok (hint _ (by simp)) [o]
  have n2 : (pS2 s o).cs[o + 2]? = some (.slice none 0 0) := by
    unfold pS2
    rw [RS.get_nums _ _ (by simp), RS.get_nums _ _ (by simp), h2]
  have in3 : ∀ A, ∀ p ∈ [o + 3, o + 4, o + 5, o + 6], ((pS2 s o).list 8 (o + 2) A).int p := by
    intro A p hp
    refine RS.int_list (RS.int_nums ok1 (RS.int_nums hok (hint _ (by simp at hp ⊢; omega)) _) _) _ _ (by simp at hp; omega)
  have n7 : ∀ A, (pS4 s o A).cs[o + 7]? = some (.slice none 0 0) := by
    intro A
    unfold pS4
    rw [RS.get_nums _ _ (by simp), RS.get_list _ _ (by omega)]
    unfold pS2
    rw [RS.get_nums _ _ (by simp), RS.get_nums _ _ (by simp), h7]
  have HN := Aside0.mk n7
  have HI3 := Aside0.mk in3
  have HI0 := Aside0.mk (hint o (by simp))
  have H0 := Aside0.mk h
  clear n7 in3 hint h2 h7 h
  go_enter Try.func55, Try.ntmps55
  go_upto_region 1 with fail
  have h1 := H0.out.push (below_alloc (Below.refl _ _) (.cells #[(.iface 54 (.agg #[.pointer (some ⟨g, 0, none⟩)]))] 92)) (boxA_new w 92 #[(.iface 54 (.agg #[.pointer (some ⟨g, 0, none⟩)]))])
  rw [rt_push] at h1
  generalize w.heap.size = gc at *
  generalize w.alloc (.cells #[(.iface 54 (.agg #[.pointer (some ⟨g, 0, none⟩)]))] 92) = wa at *
  have HM : Aside0 (boxA 92 gc #[(.iface 54 (.agg #[.pointer (some ⟨g, 0, none⟩)]))] ∈ As ++ [boxA 92 gc #[(.iface 54 (.agg #[.pointer (some ⟨g, 0, none⟩)]))]]) := ⟨by simp⟩
  have H := Aside0.mk h1
  clear h1 H0
  have H1a := Aside0.mk (H.out.below (below_drew (Below.refl _ _)))
  have cca := gc_cell H1a.out HM.out
  refine wp_region_noPanic ?_
  refine wp_region_held_drew (S := fun w' => w'.cell? ⟨gc, 0, none⟩ = some (.iface 54 (.agg #[.pointer (some ⟨g, 0, none⟩)]))) (by kernel_rfl) cca (fun hHeld => ?_)
  generalize wa.drew = w1a at *
  refine wpAnyH_take (i := 0) (oi := ({ dst := some 4, op := Op.load 92 (Operand.tmp 2), type := 92, pos := "event.go:169", after := #[], guard := none } : Oper)) (v := ?_) rfl (by kernel_rfl) (by kernel_rfl) (by kernel_rfl) (fun _ _ _ h => h) (Or.inl ⟨by rfl, ?hyTa0⟩) (by assumption) ?rsTa0
  case hyTa0 => (intro w8' hSw; (try dsimp only at hSw); go_simp; (first | done | with_reducible rfl))
  (try simp only [Act.put, List.setIfInBounds_toArray, List.set_cons_zero, List.set_cons_succ])
  refine wpAnyH_take (i := 1) (oi := ({ dst := some 5, op := Op.move (Operand.tmp 1), type := 98, pos := "event.go:169", after := #[], guard := none } : Oper)) (v := ?_) rfl (by kernel_rfl) (by kernel_rfl) (by kernel_rfl) (fun _ _ _ h => h) (Or.inl ⟨by rfl, ?hyTa1⟩) (by assumption) ?rsTa1
  case hyTa1 => (intro w8' hSw; (try dsimp only at hSw); go_simp; (first | done | with_reducible rfl))
  (try simp only [Act.put, List.setIfInBounds_toArray, List.set_cons_zero, List.set_cons_succ])
  refine wpAnyH_take (i := 2) (oi := ({ dst := some 6, op := Op.nilCheck (Operand.tmp 5), type := 0, pos := "event.go:169", after := #[{ on := 1, ground := Ground.data }], guard := none } : Oper)) (v := ?_) rfl (by kernel_rfl) (by kernel_rfl) (by kernel_rfl) (fun _ _ _ h => h) (Or.inl ⟨by rfl, ?hyTa2⟩) (by assumption) ?rsTa2
  case hyTa2 => (intro w8' hSw; (try dsimp only at hSw); go_simp; (first | done | with_reducible rfl))
  (try simp only [Act.put, List.setIfInBounds_toArray, List.set_cons_zero, List.set_cons_succ])
  refine wpAnyH_take (i := 3) (oi := ({ dst := some 7, op := Op.fieldAddr 25 (Operand.tmp 6) 0, type := 0, pos := "event.go:169", after := #[{ on := 2, ground := Ground.data }], guard := none } : Oper)) (v := ?_) rfl (by kernel_rfl) (by kernel_rfl) (by kernel_rfl) (fun _ _ _ h => h) (Or.inl ⟨by rfl, ?hyTa3⟩) (by assumption) ?rsTa3
  case hyTa3 => (intro w8' hSw; (try dsimp only at hSw); go_simp; (first | done | with_reducible rfl))
  (try simp only [Act.put, List.setIfInBounds_toArray, List.set_cons_zero, List.set_cons_succ])
  refine wpAnyH_ready (rs := [4]) (by kernel_rfl) (by simp) ?_
  refine AllReadyH.cons (o := ({ dst := some 8, op := Op.buildSlice 111 1 #[(0, Operand.tmp 7)], type := 111, pos := "event.go:169", after := #[{ on := 3, ground := Ground.data }], guard := none } : Oper)) rfl (fun K hK => ?_) AllReadyH.nil
  rw [if_pos (by rfl)]
  go_simp
  refine hK.out _ _ ((Below.cell (below_alloc (Below.refl w1a.heap.size w1a) _) (World.block_lt_of_cell? w1a _ cca)).trans cca) (fun hHeld => ?_)
  clear hK
  (try simp only [Act.put, List.setIfInBounds_toArray, List.set_cons_zero, List.set_cons_succ])
  refine wpAnyH_ready (rs := [5]) (by kernel_rfl) (by simp) ?_
  refine AllReadyH.cons (o := ({ dst := some 9, op := Op.call { callee := Callee.value (Operand.func 54), args := #[Operand.tmp 4, Operand.tmp 8], argTypes := #[92, 111] }, type := 0, pos := "event.go:169", after := #[{ on := 0, ground := Ground.data }, { on := 4, ground := Ground.data }], guard := none } : Oper)) rfl (fun K hK => ?_) AllReadyH.nil
  rw [if_pos (by rfl)]
  go_simp
  refine (whole_litr g b w1a.heap.size 1 T 96 s [o] H1a.out hok (by intro p hp; rw [List.mem_singleton] at hp; subst hp; exact HI0.out) rfl rfl).mono ?_
  rintro r_ w2 ⟨rfl, h2⟩
  have H2a := Aside0.mk h2
  clear h2
  go_simp
  refine hK.out _ _ (gc_cell H2a.out HM.out) (fun hHeld => ?_)
  clear hK
  (try simp only [Act.put, List.setIfInBounds_toArray, List.set_cons_zero, List.set_cons_succ])
  refine wpAnyH_done (by kernel_rfl) ?_ _
  refine NoPanic.normal ?_
  clear H cca H1a
  go_upto_region 2 with fail
  have H1b := Aside0.mk (H2a.out.below (below_drew (Below.refl _ _)))
  have ccb := gc_cell H1b.out HM.out
  refine wp_region_noPanic ?_
  refine wp_region_held_drew (S := fun w' => w'.cell? ⟨gc, 0, none⟩ = some (.iface 54 (.agg #[.pointer (some ⟨g, 0, none⟩)]))) (by kernel_rfl) ccb (fun hHeld => ?_)
  generalize w2.drew = w1b at *
  refine wpAnyH_take (i := 0) (oi := ({ dst := some 10, op := Op.load 92 (Operand.tmp 2), type := 92, pos := "event.go:170", after := #[], guard := none } : Oper)) (v := ?_) rfl (by kernel_rfl) (by kernel_rfl) (by kernel_rfl) (fun _ _ _ h => h) (Or.inl ⟨by rfl, ?hyTb0⟩) (by assumption) ?rsTb0
  case hyTb0 => (intro w8' hSw; (try dsimp only at hSw); go_simp; (first | done | with_reducible rfl))
  (try simp only [Act.put, List.setIfInBounds_toArray, List.set_cons_zero, List.set_cons_succ])
  refine wpAnyH_take (i := 1) (oi := ({ dst := some 11, op := Op.move (Operand.tmp 1), type := 98, pos := "event.go:170", after := #[], guard := none } : Oper)) (v := ?_) rfl (by kernel_rfl) (by kernel_rfl) (by kernel_rfl) (fun _ _ _ h => h) (Or.inl ⟨by rfl, ?hyTb1⟩) (by assumption) ?rsTb1
  case hyTb1 => (intro w8' hSw; (try dsimp only at hSw); go_simp; (first | done | with_reducible rfl))
  (try simp only [Act.put, List.setIfInBounds_toArray, List.set_cons_zero, List.set_cons_succ])
  refine wpAnyH_take (i := 2) (oi := ({ dst := some 12, op := Op.nilCheck (Operand.tmp 11), type := 0, pos := "event.go:170", after := #[{ on := 1, ground := Ground.data }], guard := none } : Oper)) (v := ?_) rfl (by kernel_rfl) (by kernel_rfl) (by kernel_rfl) (fun _ _ _ h => h) (Or.inl ⟨by rfl, ?hyTb2⟩) (by assumption) ?rsTb2
  case hyTb2 => (intro w8' hSw; (try dsimp only at hSw); go_simp; (first | done | with_reducible rfl))
  (try simp only [Act.put, List.setIfInBounds_toArray, List.set_cons_zero, List.set_cons_succ])
  refine wpAnyH_take (i := 3) (oi := ({ dst := some 13, op := Op.fieldAddr 25 (Operand.tmp 12) 1, type := 0, pos := "event.go:170", after := #[{ on := 2, ground := Ground.data }], guard := none } : Oper)) (v := ?_) rfl (by kernel_rfl) (by kernel_rfl) (by kernel_rfl) (fun _ _ _ h => h) (Or.inl ⟨by rfl, ?hyTb3⟩) (by assumption) ?rsTb3
  case hyTb3 => (intro w8' hSw; (try dsimp only at hSw); go_simp; (first | done | with_reducible rfl))
  (try simp only [Act.put, List.setIfInBounds_toArray, List.set_cons_zero, List.set_cons_succ])
  refine wpAnyH_ready (rs := [4]) (by kernel_rfl) (by simp) ?_
  refine AllReadyH.cons (o := ({ dst := some 14, op := Op.buildSlice 109 1 #[(0, Operand.tmp 13)], type := 109, pos := "event.go:170", after := #[{ on := 3, ground := Ground.data }], guard := none } : Oper)) rfl (fun K hK => ?_) AllReadyH.nil
  rw [if_pos (by rfl)]
  go_simp
  refine hK.out _ _ ((Below.cell (below_alloc (Below.refl w1b.heap.size w1b) _) (World.block_lt_of_cell? w1b _ ccb)).trans ccb) (fun hHeld => ?_)
  clear hK
  (try simp only [Act.put, List.setIfInBounds_toArray, List.set_cons_zero, List.set_cons_succ])
  refine wpAnyH_ready (rs := [5]) (by kernel_rfl) (by simp) ?_
  refine AllReadyH.cons (o := ({ dst := some 15, op := Op.call { callee := Callee.value (Operand.func 53), args := #[Operand.tmp 10, Operand.tmp 14], argTypes := #[92, 109] }, type := 0, pos := "event.go:170", after := #[{ on := 0, ground := Ground.data }, { on := 4, ground := Ground.data }], guard := none } : Oper)) rfl (fun K hK => ?_) AllReadyH.nil
  rw [if_pos (by rfl)]
  go_simp
  refine (nums_litr g b w1b.heap.size 1 T 94 (s.nums [o]) [o + 1] H1b.out ok1 (in1) rfl rfl).mono ?_
  rintro r_ w3 ⟨rfl, h2⟩
  have H2b := Aside0.mk h2
  clear h2
  go_simp
  refine hK.out _ _ (gc_cell H2b.out HM.out) (fun hHeld => ?_)
  clear hK
  (try simp only [Act.put, List.setIfInBounds_toArray, List.set_cons_zero, List.set_cons_succ])
  refine wpAnyH_done (by kernel_rfl) ?_ _
  refine NoPanic.normal ?_
  clear H2a ccb
  clear H1b
  go_upto_region 3 with fail
  have H1c := Aside0.mk (H2b.out.below (below_drew (Below.refl _ _)))
  have ccc := gc_cell H2b.out HM.out
  go_still_tail 5, (by kernel_rfl)
  change wpList _ _ _ _ _ w3.drew
  generalize w3.drew = w1c at H1c ⊢
  go_wp2_with fail
  refine (list58_r g b gc (o + 2) T (pS2 s o) 8 H1c.out HM.out (ok2) (n2) ⟨by omega, by omega⟩).mono ?_
  rintro e w4 ⟨rfl, A2, h2⟩
  have H2c := Aside0.mk h2
  clear h2 ccc H1c H2b
  have HMb : Aside0 (boxA 92 gc #[(.iface 54 (.agg #[.pointer (some ⟨g, 0, none⟩)]))] ∈ (As ++ [boxA 92 gc #[(.iface 54 (.agg #[.pointer (some ⟨g, 0, none⟩)]))]]) ++ [rowA 46 A2 (rList 8 (pS2 s o).l (pS2 s o).e).1]) := ⟨by simp⟩
  clear HM
  have HM := HMb
  clear HMb
  have ok3 : ((pS2 s o).list 8 (o + 2) A2).ok := RS.ok_list ok2 _ _ _
  go_upto_region 4 with fail
  have H1d := Aside0.mk (H2c.out.below (below_drew (Below.refl _ _)))
  have ccd := gc_cell H1d.out HM.out
  refine wp_region_noPanic ?_
  refine wp_region_held_drew (S := fun w' => w'.cell? ⟨gc, 0, none⟩ = some (.iface 54 (.agg #[.pointer (some ⟨g, 0, none⟩)]))) (by kernel_rfl) ccd (fun hHeld => ?_)
  generalize w4.drew = w1d at *
  refine wpAnyH_take (i := 0) (oi := ({ dst := some 22, op := Op.load 92 (Operand.tmp 2), type := 92, pos := "event.go:175", after := #[], guard := none } : Oper)) (v := ?_) rfl (by kernel_rfl) (by kernel_rfl) (by kernel_rfl) (fun _ _ _ h => h) (Or.inl ⟨by rfl, ?hyTd0⟩) (by assumption) ?rsTd0
  case hyTd0 => (intro w8' hSw; (try dsimp only at hSw); go_simp; (first | done | with_reducible rfl))
  (try simp only [Act.put, List.setIfInBounds_toArray, List.set_cons_zero, List.set_cons_succ])
  refine wpAnyH_take (i := 1) (oi := ({ dst := some 23, op := Op.move (Operand.tmp 1), type := 98, pos := "event.go:175", after := #[], guard := none } : Oper)) (v := ?_) rfl (by kernel_rfl) (by kernel_rfl) (by kernel_rfl) (fun _ _ _ h => h) (Or.inl ⟨by rfl, ?hyTd1⟩) (by assumption) ?rsTd1
  case hyTd1 => (intro w8' hSw; (try dsimp only at hSw); go_simp; (first | done | with_reducible rfl))
  (try simp only [Act.put, List.setIfInBounds_toArray, List.set_cons_zero, List.set_cons_succ])
  refine wpAnyH_take (i := 2) (oi := ({ dst := some 24, op := Op.nilCheck (Operand.tmp 23), type := 0, pos := "event.go:175", after := #[{ on := 1, ground := Ground.data }], guard := none } : Oper)) (v := ?_) rfl (by kernel_rfl) (by kernel_rfl) (by kernel_rfl) (fun _ _ _ h => h) (Or.inl ⟨by rfl, ?hyTd2⟩) (by assumption) ?rsTd2
  case hyTd2 => (intro w8' hSw; (try dsimp only at hSw); go_simp; (first | done | with_reducible rfl))
  (try simp only [Act.put, List.setIfInBounds_toArray, List.set_cons_zero, List.set_cons_succ])
  refine wpAnyH_take (i := 3) (oi := ({ dst := some 25, op := Op.fieldAddr 25 (Operand.tmp 24) 3, type := 0, pos := "event.go:175", after := #[{ on := 2, ground := Ground.data }], guard := none } : Oper)) (v := ?_) rfl (by kernel_rfl) (by kernel_rfl) (by kernel_rfl) (fun _ _ _ h => h) (Or.inl ⟨by rfl, ?hyTd3⟩) (by assumption) ?rsTd3
  case hyTd3 => (intro w8' hSw; (try dsimp only at hSw); go_simp; (first | done | with_reducible rfl))
  (try simp only [Act.put, List.setIfInBounds_toArray, List.set_cons_zero, List.set_cons_succ])
  refine wpAnyH_take (i := 4) (oi := ({ dst := some 26, op := Op.move (Operand.tmp 1), type := 98, pos := "event.go:175", after := #[], guard := none } : Oper)) (v := ?_) rfl (by kernel_rfl) (by kernel_rfl) (by kernel_rfl) (fun _ _ _ h => h) (Or.inl ⟨by rfl, ?hyTd4⟩) (by assumption) ?rsTd4
  case hyTd4 => (intro w8' hSw; (try dsimp only at hSw); go_simp; (first | done | with_reducible rfl))
  (try simp only [Act.put, List.setIfInBounds_toArray, List.set_cons_zero, List.set_cons_succ])
  refine wpAnyH_take (i := 5) (oi := ({ dst := some 27, op := Op.nilCheck (Operand.tmp 26), type := 0, pos := "event.go:175", after := #[{ on := 4, ground := Ground.data }], guard := none } : Oper)) (v := ?_) rfl (by kernel_rfl) (by kernel_rfl) (by kernel_rfl) (fun _ _ _ h => h) (Or.inl ⟨by rfl, ?hyTd5⟩) (by assumption) ?rsTd5
  case hyTd5 => (intro w8' hSw; (try dsimp only at hSw); go_simp; (first | done | with_reducible rfl))
  (try simp only [Act.put, List.setIfInBounds_toArray, List.set_cons_zero, List.set_cons_succ])
  refine wpAnyH_take (i := 6) (oi := ({ dst := some 28, op := Op.fieldAddr 25 (Operand.tmp 27) 4, type := 0, pos := "event.go:175", after := #[{ on := 5, ground := Ground.data }], guard := none } : Oper)) (v := ?_) rfl (by kernel_rfl) (by kernel_rfl) (by kernel_rfl) (fun _ _ _ h => h) (Or.inl ⟨by rfl, ?hyTd6⟩) (by assumption) ?rsTd6
  case hyTd6 => (intro w8' hSw; (try dsimp only at hSw); go_simp; (first | done | with_reducible rfl))
  (try simp only [Act.put, List.setIfInBounds_toArray, List.set_cons_zero, List.set_cons_succ])
  refine wpAnyH_take (i := 7) (oi := ({ dst := some 29, op := Op.move (Operand.tmp 1), type := 98, pos := "event.go:175", after := #[], guard := none } : Oper)) (v := ?_) rfl (by kernel_rfl) (by kernel_rfl) (by kernel_rfl) (fun _ _ _ h => h) (Or.inl ⟨by rfl, ?hyTd7⟩) (by assumption) ?rsTd7
  case hyTd7 => (intro w8' hSw; (try dsimp only at hSw); go_simp; (first | done | with_reducible rfl))
  (try simp only [Act.put, List.setIfInBounds_toArray, List.set_cons_zero, List.set_cons_succ])
  refine wpAnyH_take (i := 8) (oi := ({ dst := some 30, op := Op.nilCheck (Operand.tmp 29), type := 0, pos := "event.go:175", after := #[{ on := 7, ground := Ground.data }], guard := none } : Oper)) (v := ?_) rfl (by kernel_rfl) (by kernel_rfl) (by kernel_rfl) (fun _ _ _ h => h) (Or.inl ⟨by rfl, ?hyTd8⟩) (by assumption) ?rsTd8
  case hyTd8 => (intro w8' hSw; (try dsimp only at hSw); go_simp; (first | done | with_reducible rfl))
  (try simp only [Act.put, List.setIfInBounds_toArray, List.set_cons_zero, List.set_cons_succ])
  refine wpAnyH_take (i := 9) (oi := ({ dst := some 31, op := Op.fieldAddr 25 (Operand.tmp 30) 5, type := 0, pos := "event.go:175", after := #[{ on := 8, ground := Ground.data }], guard := none } : Oper)) (v := ?_) rfl (by kernel_rfl) (by kernel_rfl) (by kernel_rfl) (fun _ _ _ h => h) (Or.inl ⟨by rfl, ?hyTd9⟩) (by assumption) ?rsTd9
  case hyTd9 => (intro w8' hSw; (try dsimp only at hSw); go_simp; (first | done | with_reducible rfl))
  (try simp only [Act.put, List.setIfInBounds_toArray, List.set_cons_zero, List.set_cons_succ])
  refine wpAnyH_take (i := 10) (oi := ({ dst := some 32, op := Op.move (Operand.tmp 1), type := 98, pos := "event.go:175", after := #[], guard := none } : Oper)) (v := ?_) rfl (by kernel_rfl) (by kernel_rfl) (by kernel_rfl) (fun _ _ _ h => h) (Or.inl ⟨by rfl, ?hyTd10⟩) (by assumption) ?rsTd10
  case hyTd10 => (intro w8' hSw; (try dsimp only at hSw); go_simp; (first | done | with_reducible rfl))
  (try simp only [Act.put, List.setIfInBounds_toArray, List.set_cons_zero, List.set_cons_succ])
  refine wpAnyH_take (i := 11) (oi := ({ dst := some 33, op := Op.nilCheck (Operand.tmp 32), type := 0, pos := "event.go:175", after := #[{ on := 10, ground := Ground.data }], guard := none } : Oper)) (v := ?_) rfl (by kernel_rfl) (by kernel_rfl) (by kernel_rfl) (fun _ _ _ h => h) (Or.inl ⟨by rfl, ?hyTd11⟩) (by assumption) ?rsTd11
  case hyTd11 => (intro w8' hSw; (try dsimp only at hSw); go_simp; (first | done | with_reducible rfl))
  (try simp only [Act.put, List.setIfInBounds_toArray, List.set_cons_zero, List.set_cons_succ])
  refine wpAnyH_take (i := 12) (oi := ({ dst := some 34, op := Op.fieldAddr 25 (Operand.tmp 33) 6, type := 0, pos := "event.go:175", after := #[{ on := 11, ground := Ground.data }], guard := none } : Oper)) (v := ?_) rfl (by kernel_rfl) (by kernel_rfl) (by kernel_rfl) (fun _ _ _ h => h) (Or.inl ⟨by rfl, ?hyTd12⟩) (by assumption) ?rsTd12
  case hyTd12 => (intro w8' hSw; (try dsimp only at hSw); go_simp; (first | done | with_reducible rfl))
  (try simp only [Act.put, List.setIfInBounds_toArray, List.set_cons_zero, List.set_cons_succ])
  refine wpAnyH_ready (rs := [13]) (by kernel_rfl) (by simp) ?_
  refine AllReadyH.cons (o := ({ dst := some 35, op := Op.buildSlice 109 4 #[(0, Operand.tmp 25), (1, Operand.tmp 28), (2, Operand.tmp 31), (3, Operand.tmp 34)], type := 109, pos := "event.go:175", after := #[{ on := 3, ground := Ground.data }, { on := 6, ground := Ground.data }, { on := 9, ground := Ground.data }, { on := 12, ground := Ground.data }], guard := none } : Oper)) rfl (fun K hK => ?_) AllReadyH.nil
  rw [if_pos (by rfl)]
  go_simp
  refine hK.out _ _ ((Below.cell (below_alloc (Below.refl w1d.heap.size w1d) _) (World.block_lt_of_cell? w1d _ ccd)).trans ccd) (fun hHeld => ?_)
  clear hK
  (try simp only [Act.put, List.setIfInBounds_toArray, List.set_cons_zero, List.set_cons_succ])
  refine wpAnyH_ready (rs := [14]) (by kernel_rfl) (by simp) ?_
  refine AllReadyH.cons (o := ({ dst := some 36, op := Op.call { callee := Callee.value (Operand.func 53), args := #[Operand.tmp 22, Operand.tmp 35], argTypes := #[92, 109] }, type := 0, pos := "event.go:175", after := #[{ on := 0, ground := Ground.data }, { on := 13, ground := Ground.data }], guard := none } : Oper)) rfl (fun K hK => ?_) AllReadyH.nil
  rw [if_pos (by rfl)]
  go_simp
  refine (nums_litr g b w1d.heap.size 4 T 94 ((pS2 s o).list 8 (o + 2) A2) [o + 3, o + 4, o + 5, o + 6] H1d.out ok3 (HI3.out A2) rfl rfl).mono ?_
  rintro r_ w5 ⟨rfl, h2⟩
  have H2d := Aside0.mk h2
  clear h2
  go_simp
  refine hK.out _ _ (gc_cell H2d.out HM.out) (fun hHeld => ?_)
  clear hK
  (try simp only [Act.put, List.setIfInBounds_toArray, List.set_cons_zero, List.set_cons_succ])
  refine wpAnyH_done (by kernel_rfl) ?_ _
  refine NoPanic.normal ?_
  clear H2c ccd
  clear H1d
  go_upto_region 5 with fail
  have H1e := Aside0.mk (H2d.out.below (below_drew (Below.refl _ _)))
  have cce := gc_cell H2d.out HM.out
  go_still_tail 5, (by kernel_rfl)
  change wpList _ _ _ _ _ w5.drew
  generalize w5.drew = w1e at H1e ⊢
  go_wp2_with fail
  refine (list60_r g b gc (o + 7) T (pS4 s o A2) 8 H1e.out HM.out (RS.ok_nums ok3 _) (HN.out A2) ⟨by omega, by omega⟩).mono ?_
  rintro e w6 ⟨rfl, A7, h2⟩
  have H2e := Aside0.mk h2
  clear h2 cce H1e H2d
  have HE : Aside0 (St w0 (RT g b T ((pS4 s o A2).list 8 (o + 7) A7) (As ++ [rowA 46 A2 (rList 8 (pS2 s o).l (pS2 s o).e).1, rowA 48 A7 (rList 8 (pS4 s o A2).l (pS4 s o A2).e).1])) w6) := ⟨by
    have h5 := H2e.out
    refine st_mid (Xs := RT g b T ((pS4 s o A2).list 8 (o + 7) A7) As) (B := boxA 92 gc #[(.iface 54 (.agg #[.pointer (some ⟨g, 0, none⟩)]))]) (Ys := [rowA 46 A2 (rList 8 (pS2 s o).l (pS2 s o).e).1, rowA 48 A7 (rList 8 (pS4 s o A2).l (pS4 s o A2).e).1]) ?_
    have e : ∀ (s' : RS) (X Y Z : Asr), RT g b T s' (((As ++ [X]) ++ [Y]) ++ [Z]) = RT g b T s' As ++ X :: [Y, Z] := fun s' X Y Z => by simp [RT]
    rw [← e]
    exact h5⟩
  go_wp2_with fail
  go_end0
  exact ⟨rfl, A2, A7, HE.out⟩
end Go.Proofs.Ytldohapdhljoaaa.Wire
namespace Go.Proofs.Ytldohapdhljoaaa.Wire
open Go.RowKit Go.Proofs.YtldohapdhljoaaaW.PrintWords Go.Proofs.Ytldohapdhljoaaa.Obj Go.Proofs.Ytldohapdhljoaaa.Print
set_option linter.unusedVariables false
set_option linter.unusedSimpArgs false
set_option maxRecDepth 100000
def cS (s : RS) (o : Nat) : RS := s.nums [o, o + 1, o + 2, o + 3, o + 4, o + 5, o + 6, o + 7, o + 8, o + 9, o + 10, o + 11]
set_option maxHeartbeats 8000000 in
theorem conf_r {w0 w : World} {As : List Asr} (g b o : Nat) (T : TypeId) (s : RS) (h : St w0 (RT g b T s As) w) (hok : s.ok) (hint : ∀ p ∈ [o, o + 1, o + 2, o + 3, o + 4, o + 5, o + 6, o + 7, o + 8, o + 9, o + 10, o + 11], s.int p) :
    Calls Try.prog 56 #[(.iface 54 (.agg #[.pointer (some ⟨g, 0, none⟩)])), .pointer (some ⟨b, o, none⟩)] w fun e w' => e = .returned (.tuple #[]) ∧ St w0 (RT g b T (cS s o) As) w' := by
  have hu27 := Try.underlying27
  have HIN := Aside0.mk (fun (q : List Nat) (p : Nat) hp => RS.int_nums hok (hint p hp) q)
  have HOK := Aside0.mk (fun q : List Nat => RS.ok_nums hok q)
  have H := Aside0.mk h
  clear h hint hok
  go_enter Try.func56, Try.ntmps56
  go_upto_region 0 with fail
  have H1a := Aside0.mk (H.out.below (below_drew (Below.refl _ _)))
  refine wp_region_noPanic ?_
  refine wp_region_held_drew (S := fun _ => True) (by kernel_rfl) trivial (fun hHeld => ?_)
  generalize w.drew = w1a at *
  refine wpAnyH_take (i := 0) (oi := ({ dst := some 4, op := Op.move (Operand.tmp 0), type := 92, pos := "event.go:184", after := #[], guard := none } : Oper)) (v := ?_) rfl (by kernel_rfl) (by kernel_rfl) (by kernel_rfl) (fun _ _ _ h => h) (Or.inl ⟨by rfl, ?hyTa0⟩) (by assumption) ?rsTa0
  case hyTa0 => (intro w8' hSw; (try dsimp only at hSw); go_simp; (first | done | with_reducible rfl))
  (try simp only [Act.put, List.setIfInBounds_toArray, List.set_cons_zero, List.set_cons_succ])
  refine wpAnyH_take (i := 1) (oi := ({ dst := some 5, op := Op.move (Operand.tmp 1), type := 100, pos := "event.go:184", after := #[], guard := none } : Oper)) (v := ?_) rfl (by kernel_rfl) (by kernel_rfl) (by kernel_rfl) (fun _ _ _ h => h) (Or.inl ⟨by rfl, ?hyTa1⟩) (by assumption) ?rsTa1
  case hyTa1 => (intro w8' hSw; (try dsimp only at hSw); go_simp; (first | done | with_reducible rfl))
  (try simp only [Act.put, List.setIfInBounds_toArray, List.set_cons_zero, List.set_cons_succ])
  refine wpAnyH_take (i := 2) (oi := ({ dst := some 6, op := Op.nilCheck (Operand.tmp 5), type := 0, pos := "event.go:184", after := #[{ on := 1, ground := Ground.data }], guard := none } : Oper)) (v := ?_) rfl (by kernel_rfl) (by kernel_rfl) (by kernel_rfl) (fun _ _ _ h => h) (Or.inl ⟨by rfl, ?hyTa2⟩) (by assumption) ?rsTa2
  case hyTa2 => (intro w8' hSw; (try dsimp only at hSw); go_simp; (first | done | with_reducible rfl))
  (try simp only [Act.put, List.setIfInBounds_toArray, List.set_cons_zero, List.set_cons_succ])
  refine wpAnyH_take (i := 3) (oi := ({ dst := some 7, op := Op.fieldAddr 27 (Operand.tmp 6) 0, type := 0, pos := "event.go:184", after := #[{ on := 2, ground := Ground.data }], guard := none } : Oper)) (v := ?_) rfl (by kernel_rfl) (by kernel_rfl) (by kernel_rfl) (fun _ _ _ h => h) (Or.inl ⟨by rfl, ?hyTa3⟩) (by assumption) ?rsTa3
  case hyTa3 => (intro w8' hSw; (try dsimp only at hSw); go_simp; (first | done | with_reducible rfl))
  (try simp only [Act.put, List.setIfInBounds_toArray, List.set_cons_zero, List.set_cons_succ])
  refine wpAnyH_take (i := 4) (oi := ({ dst := some 8, op := Op.move (Operand.tmp 1), type := 100, pos := "event.go:184", after := #[], guard := none } : Oper)) (v := ?_) rfl (by kernel_rfl) (by kernel_rfl) (by kernel_rfl) (fun _ _ _ h => h) (Or.inl ⟨by rfl, ?hyTa4⟩) (by assumption) ?rsTa4
  case hyTa4 => (intro w8' hSw; (try dsimp only at hSw); go_simp; (first | done | with_reducible rfl))
  (try simp only [Act.put, List.setIfInBounds_toArray, List.set_cons_zero, List.set_cons_succ])
  refine wpAnyH_take (i := 5) (oi := ({ dst := some 9, op := Op.nilCheck (Operand.tmp 8), type := 0, pos := "event.go:184", after := #[{ on := 4, ground := Ground.data }], guard := none } : Oper)) (v := ?_) rfl (by kernel_rfl) (by kernel_rfl) (by kernel_rfl) (fun _ _ _ h => h) (Or.inl ⟨by rfl, ?hyTa5⟩) (by assumption) ?rsTa5
  case hyTa5 => (intro w8' hSw; (try dsimp only at hSw); go_simp; (first | done | with_reducible rfl))
  (try simp only [Act.put, List.setIfInBounds_toArray, List.set_cons_zero, List.set_cons_succ])
  refine wpAnyH_take (i := 6) (oi := ({ dst := some 10, op := Op.fieldAddr 27 (Operand.tmp 9) 1, type := 0, pos := "event.go:184", after := #[{ on := 5, ground := Ground.data }], guard := none } : Oper)) (v := ?_) rfl (by kernel_rfl) (by kernel_rfl) (by kernel_rfl) (fun _ _ _ h => h) (Or.inl ⟨by rfl, ?hyTa6⟩) (by assumption) ?rsTa6
  case hyTa6 => (intro w8' hSw; (try dsimp only at hSw); go_simp; (first | done | with_reducible rfl))
  (try simp only [Act.put, List.setIfInBounds_toArray, List.set_cons_zero, List.set_cons_succ])
  refine wpAnyH_take (i := 7) (oi := ({ dst := some 11, op := Op.move (Operand.tmp 1), type := 100, pos := "event.go:184", after := #[], guard := none } : Oper)) (v := ?_) rfl (by kernel_rfl) (by kernel_rfl) (by kernel_rfl) (fun _ _ _ h => h) (Or.inl ⟨by rfl, ?hyTa7⟩) (by assumption) ?rsTa7
  case hyTa7 => (intro w8' hSw; (try dsimp only at hSw); go_simp; (first | done | with_reducible rfl))
  (try simp only [Act.put, List.setIfInBounds_toArray, List.set_cons_zero, List.set_cons_succ])
  refine wpAnyH_take (i := 8) (oi := ({ dst := some 12, op := Op.nilCheck (Operand.tmp 11), type := 0, pos := "event.go:184", after := #[{ on := 7, ground := Ground.data }], guard := none } : Oper)) (v := ?_) rfl (by kernel_rfl) (by kernel_rfl) (by kernel_rfl) (fun _ _ _ h => h) (Or.inl ⟨by rfl, ?hyTa8⟩) (by assumption) ?rsTa8
  case hyTa8 => (intro w8' hSw; (try dsimp only at hSw); go_simp; (first | done | with_reducible rfl))
  (try simp only [Act.put, List.setIfInBounds_toArray, List.set_cons_zero, List.set_cons_succ])
  refine wpAnyH_take (i := 9) (oi := ({ dst := some 13, op := Op.fieldAddr 27 (Operand.tmp 12) 2, type := 0, pos := "event.go:184", after := #[{ on := 8, ground := Ground.data }], guard := none } : Oper)) (v := ?_) rfl (by kernel_rfl) (by kernel_rfl) (by kernel_rfl) (fun _ _ _ h => h) (Or.inl ⟨by rfl, ?hyTa9⟩) (by assumption) ?rsTa9
  case hyTa9 => (intro w8' hSw; (try dsimp only at hSw); go_simp; (first | done | with_reducible rfl))
  (try simp only [Act.put, List.setIfInBounds_toArray, List.set_cons_zero, List.set_cons_succ])
  refine wpAnyH_ready (rs := [10]) (by kernel_rfl) (by simp) ?_
  refine AllReadyH.cons (o := ({ dst := some 14, op := Op.buildSlice 111 3 #[(0, Operand.tmp 7), (1, Operand.tmp 10), (2, Operand.tmp 13)], type := 111, pos := "event.go:184", after := #[{ on := 3, ground := Ground.data }, { on := 6, ground := Ground.data }, { on := 9, ground := Ground.data }], guard := none } : Oper)) rfl (fun K hK => ?_) AllReadyH.nil
  rw [if_pos (by rfl)]
  go_simp
  refine hK.out _ _ trivial (fun hHeld => ?_)
  clear hK
  (try simp only [Act.put, List.setIfInBounds_toArray, List.set_cons_zero, List.set_cons_succ])
  refine wpAnyH_ready (rs := [11]) (by kernel_rfl) (by simp) ?_
  refine AllReadyH.cons (o := ({ dst := some 15, op := Op.call { callee := Callee.value (Operand.func 54), args := #[Operand.tmp 4, Operand.tmp 14], argTypes := #[92, 111] }, type := 0, pos := "event.go:184", after := #[{ on := 0, ground := Ground.data }, { on := 10, ground := Ground.data }], guard := none } : Oper)) rfl (fun K hK => ?_) AllReadyH.nil
  rw [if_pos (by rfl)]
  go_simp
  refine (whole_litr g b w1a.heap.size 3 T 96 s [o, o + 1, o + 2] H1a.out (HOK.out []) (fun p hp => HIN.out [] p (by simp at hp ⊢; omega)) rfl rfl).mono ?_
  rintro r_ w2 ⟨rfl, h2⟩
  have H2a := Aside0.mk h2
  clear h2
  go_simp
  refine hK.out _ _ trivial (fun hHeld => ?_)
  clear hK
  (try simp only [Act.put, List.setIfInBounds_toArray, List.set_cons_zero, List.set_cons_succ])
  refine wpAnyH_done (by kernel_rfl) ?_ _
  refine NoPanic.normal ?_
  clear H H1a
  go_upto_region 1 with fail
  have H1b := Aside0.mk (H2a.out.below (below_drew (Below.refl _ _)))
  refine wp_region_noPanic ?_
  refine wp_region_held_drew (S := fun _ => True) (by kernel_rfl) trivial (fun hHeld => ?_)
  generalize w2.drew = w1b at *
  refine wpAnyH_take (i := 0) (oi := ({ dst := some 16, op := Op.move (Operand.tmp 0), type := 92, pos := "event.go:185", after := #[], guard := none } : Oper)) (v := ?_) rfl (by kernel_rfl) (by kernel_rfl) (by kernel_rfl) (fun _ _ _ h => h) (Or.inl ⟨by rfl, ?hyTb0⟩) (by assumption) ?rsTb0
  case hyTb0 => (intro w8' hSw; (try dsimp only at hSw); go_simp; (first | done | with_reducible rfl))
  (try simp only [Act.put, List.setIfInBounds_toArray, List.set_cons_zero, List.set_cons_succ])
  refine wpAnyH_take (i := 1) (oi := ({ dst := some 17, op := Op.move (Operand.tmp 1), type := 100, pos := "event.go:185", after := #[], guard := none } : Oper)) (v := ?_) rfl (by kernel_rfl) (by kernel_rfl) (by kernel_rfl) (fun _ _ _ h => h) (Or.inl ⟨by rfl, ?hyTb1⟩) (by assumption) ?rsTb1
  case hyTb1 => (intro w8' hSw; (try dsimp only at hSw); go_simp; (first | done | with_reducible rfl))
  (try simp only [Act.put, List.setIfInBounds_toArray, List.set_cons_zero, List.set_cons_succ])
  refine wpAnyH_take (i := 2) (oi := ({ dst := some 18, op := Op.nilCheck (Operand.tmp 17), type := 0, pos := "event.go:185", after := #[{ on := 1, ground := Ground.data }], guard := none } : Oper)) (v := ?_) rfl (by kernel_rfl) (by kernel_rfl) (by kernel_rfl) (fun _ _ _ h => h) (Or.inl ⟨by rfl, ?hyTb2⟩) (by assumption) ?rsTb2
  case hyTb2 => (intro w8' hSw; (try dsimp only at hSw); go_simp; (first | done | with_reducible rfl))
  (try simp only [Act.put, List.setIfInBounds_toArray, List.set_cons_zero, List.set_cons_succ])
  refine wpAnyH_take (i := 3) (oi := ({ dst := some 19, op := Op.fieldAddr 27 (Operand.tmp 18) 3, type := 0, pos := "event.go:185", after := #[{ on := 2, ground := Ground.data }], guard := none } : Oper)) (v := ?_) rfl (by kernel_rfl) (by kernel_rfl) (by kernel_rfl) (fun _ _ _ h => h) (Or.inl ⟨by rfl, ?hyTb3⟩) (by assumption) ?rsTb3
  case hyTb3 => (intro w8' hSw; (try dsimp only at hSw); go_simp; (first | done | with_reducible rfl))
  (try simp only [Act.put, List.setIfInBounds_toArray, List.set_cons_zero, List.set_cons_succ])
  refine wpAnyH_take (i := 4) (oi := ({ dst := some 20, op := Op.move (Operand.tmp 1), type := 100, pos := "event.go:185", after := #[], guard := none } : Oper)) (v := ?_) rfl (by kernel_rfl) (by kernel_rfl) (by kernel_rfl) (fun _ _ _ h => h) (Or.inl ⟨by rfl, ?hyTb4⟩) (by assumption) ?rsTb4
  case hyTb4 => (intro w8' hSw; (try dsimp only at hSw); go_simp; (first | done | with_reducible rfl))
  (try simp only [Act.put, List.setIfInBounds_toArray, List.set_cons_zero, List.set_cons_succ])
  refine wpAnyH_take (i := 5) (oi := ({ dst := some 21, op := Op.nilCheck (Operand.tmp 20), type := 0, pos := "event.go:185", after := #[{ on := 4, ground := Ground.data }], guard := none } : Oper)) (v := ?_) rfl (by kernel_rfl) (by kernel_rfl) (by kernel_rfl) (fun _ _ _ h => h) (Or.inl ⟨by rfl, ?hyTb5⟩) (by assumption) ?rsTb5
  case hyTb5 => (intro w8' hSw; (try dsimp only at hSw); go_simp; (first | done | with_reducible rfl))
  (try simp only [Act.put, List.setIfInBounds_toArray, List.set_cons_zero, List.set_cons_succ])
  refine wpAnyH_take (i := 6) (oi := ({ dst := some 22, op := Op.fieldAddr 27 (Operand.tmp 21) 4, type := 0, pos := "event.go:185", after := #[{ on := 5, ground := Ground.data }], guard := none } : Oper)) (v := ?_) rfl (by kernel_rfl) (by kernel_rfl) (by kernel_rfl) (fun _ _ _ h => h) (Or.inl ⟨by rfl, ?hyTb6⟩) (by assumption) ?rsTb6
  case hyTb6 => (intro w8' hSw; (try dsimp only at hSw); go_simp; (first | done | with_reducible rfl))
  (try simp only [Act.put, List.setIfInBounds_toArray, List.set_cons_zero, List.set_cons_succ])
  refine wpAnyH_ready (rs := [7]) (by kernel_rfl) (by simp) ?_
  refine AllReadyH.cons (o := ({ dst := some 23, op := Op.buildSlice 109 2 #[(0, Operand.tmp 19), (1, Operand.tmp 22)], type := 109, pos := "event.go:185", after := #[{ on := 3, ground := Ground.data }, { on := 6, ground := Ground.data }], guard := none } : Oper)) rfl (fun K hK => ?_) AllReadyH.nil
  rw [if_pos (by rfl)]
  go_simp
  refine hK.out _ _ trivial (fun hHeld => ?_)
  clear hK
  (try simp only [Act.put, List.setIfInBounds_toArray, List.set_cons_zero, List.set_cons_succ])
  refine wpAnyH_ready (rs := [8]) (by kernel_rfl) (by simp) ?_
  refine AllReadyH.cons (o := ({ dst := some 24, op := Op.call { callee := Callee.value (Operand.func 53), args := #[Operand.tmp 16, Operand.tmp 23], argTypes := #[92, 109] }, type := 0, pos := "event.go:185", after := #[{ on := 0, ground := Ground.data }, { on := 7, ground := Ground.data }], guard := none } : Oper)) rfl (fun K hK => ?_) AllReadyH.nil
  rw [if_pos (by rfl)]
  go_simp
  refine (nums_litr g b w1b.heap.size 2 T 94 (s.nums [o, o + 1, o + 2]) [o + 3, o + 4] H1b.out (HOK.out [o, o + 1, o + 2]) (fun p hp => HIN.out [o, o + 1, o + 2] p (by simp at hp ⊢; omega)) rfl rfl).mono ?_
  rintro r_ w3 ⟨rfl, h2⟩
  have H2b := Aside0.mk h2
  clear h2
  go_simp
  refine hK.out _ _ trivial (fun hHeld => ?_)
  clear hK
  (try simp only [Act.put, List.setIfInBounds_toArray, List.set_cons_zero, List.set_cons_succ])
  refine wpAnyH_done (by kernel_rfl) ?_ _
  refine NoPanic.normal ?_
  clear H2a H1b
  go_wp2_with fail
  refine (whole_litr g b w3.heap.size 1 T 96 (s.nums [o, o + 1, o + 2, o + 3, o + 4]) [o + 5] H2b.out (HOK.out [o, o + 1, o + 2, o + 3, o + 4]) (fun p hp => HIN.out [o, o + 1, o + 2, o + 3, o + 4] p (by simp at hp ⊢; omega)) rfl rfl).mono ?_
  rintro r_ w4 ⟨rfl, h2⟩
  have H2c := Aside0.mk h2
  clear h2 H2b
  go_wp2_with fail
  refine (nums_litr g b w4.heap.size 1 T 94 (s.nums [o, o + 1, o + 2, o + 3, o + 4, o + 5]) [o + 6] H2c.out (HOK.out [o, o + 1, o + 2, o + 3, o + 4, o + 5]) (fun p hp => HIN.out [o, o + 1, o + 2, o + 3, o + 4, o + 5] p (by simp at hp ⊢; omega)) rfl rfl).mono ?_
  rintro r_ w5 ⟨rfl, h2⟩
  have H2d := Aside0.mk h2
  clear h2 H2c
  go_wp2_with fail
  refine (whole_litr g b w5.heap.size 1 T 96 (s.nums [o, o + 1, o + 2, o + 3, o + 4, o + 5, o + 6]) [o + 7] H2d.out (HOK.out [o, o + 1, o + 2, o + 3, o + 4, o + 5, o + 6]) (fun p hp => HIN.out [o, o + 1, o + 2, o + 3, o + 4, o + 5, o + 6] p (by simp at hp ⊢; omega)) rfl rfl).mono ?_
  rintro r_ w6 ⟨rfl, h2⟩
  have H2e := Aside0.mk h2
  clear h2 H2d
  go_wp2_with fail
  refine (nums_litr g b w6.heap.size 1 T 94 (s.nums [o, o + 1, o + 2, o + 3, o + 4, o + 5, o + 6, o + 7]) [o + 8] H2e.out (HOK.out [o, o + 1, o + 2, o + 3, o + 4, o + 5, o + 6, o + 7]) (fun p hp => HIN.out [o, o + 1, o + 2, o + 3, o + 4, o + 5, o + 6, o + 7] p (by simp at hp ⊢; omega)) rfl rfl).mono ?_
  rintro r_ w7 ⟨rfl, h2⟩
  have H2f := Aside0.mk h2
  clear h2 H2e
  go_upto_region 6 with fail
  have H1g := Aside0.mk (H2f.out.below (below_drew (Below.refl _ _)))
  refine wp_region_noPanic ?_
  refine wp_region_held_drew (S := fun _ => True) (by kernel_rfl) trivial (fun hHeld => ?_)
  generalize w7.drew = w1g at *
  refine wpAnyH_take (i := 0) (oi := ({ dst := some 49, op := Op.move (Operand.tmp 0), type := 92, pos := "event.go:190", after := #[], guard := none } : Oper)) (v := ?_) rfl (by kernel_rfl) (by kernel_rfl) (by kernel_rfl) (fun _ _ _ h => h) (Or.inl ⟨by rfl, ?hyTg0⟩) (by assumption) ?rsTg0
  case hyTg0 => (intro w8' hSw; (try dsimp only at hSw); go_simp; (first | done | with_reducible rfl))
  (try simp only [Act.put, List.setIfInBounds_toArray, List.set_cons_zero, List.set_cons_succ])
  refine wpAnyH_take (i := 1) (oi := ({ dst := some 50, op := Op.move (Operand.tmp 1), type := 100, pos := "event.go:190", after := #[], guard := none } : Oper)) (v := ?_) rfl (by kernel_rfl) (by kernel_rfl) (by kernel_rfl) (fun _ _ _ h => h) (Or.inl ⟨by rfl, ?hyTg1⟩) (by assumption) ?rsTg1
  case hyTg1 => (intro w8' hSw; (try dsimp only at hSw); go_simp; (first | done | with_reducible rfl))
  (try simp only [Act.put, List.setIfInBounds_toArray, List.set_cons_zero, List.set_cons_succ])
  refine wpAnyH_take (i := 2) (oi := ({ dst := some 51, op := Op.nilCheck (Operand.tmp 50), type := 0, pos := "event.go:190", after := #[{ on := 1, ground := Ground.data }], guard := none } : Oper)) (v := ?_) rfl (by kernel_rfl) (by kernel_rfl) (by kernel_rfl) (fun _ _ _ h => h) (Or.inl ⟨by rfl, ?hyTg2⟩) (by assumption) ?rsTg2
  case hyTg2 => (intro w8' hSw; (try dsimp only at hSw); go_simp; (first | done | with_reducible rfl))
  (try simp only [Act.put, List.setIfInBounds_toArray, List.set_cons_zero, List.set_cons_succ])
  refine wpAnyH_take (i := 3) (oi := ({ dst := some 52, op := Op.fieldAddr 27 (Operand.tmp 51) 9, type := 0, pos := "event.go:190", after := #[{ on := 2, ground := Ground.data }], guard := none } : Oper)) (v := ?_) rfl (by kernel_rfl) (by kernel_rfl) (by kernel_rfl) (fun _ _ _ h => h) (Or.inl ⟨by rfl, ?hyTg3⟩) (by assumption) ?rsTg3
  case hyTg3 => (intro w8' hSw; (try dsimp only at hSw); go_simp; (first | done | with_reducible rfl))
  (try simp only [Act.put, List.setIfInBounds_toArray, List.set_cons_zero, List.set_cons_succ])
  refine wpAnyH_take (i := 4) (oi := ({ dst := some 53, op := Op.move (Operand.tmp 1), type := 100, pos := "event.go:190", after := #[], guard := none } : Oper)) (v := ?_) rfl (by kernel_rfl) (by kernel_rfl) (by kernel_rfl) (fun _ _ _ h => h) (Or.inl ⟨by rfl, ?hyTg4⟩) (by assumption) ?rsTg4
  case hyTg4 => (intro w8' hSw; (try dsimp only at hSw); go_simp; (first | done | with_reducible rfl))
  (try simp only [Act.put, List.setIfInBounds_toArray, List.set_cons_zero, List.set_cons_succ])
  refine wpAnyH_take (i := 5) (oi := ({ dst := some 54, op := Op.nilCheck (Operand.tmp 53), type := 0, pos := "event.go:190", after := #[{ on := 4, ground := Ground.data }], guard := none } : Oper)) (v := ?_) rfl (by kernel_rfl) (by kernel_rfl) (by kernel_rfl) (fun _ _ _ h => h) (Or.inl ⟨by rfl, ?hyTg5⟩) (by assumption) ?rsTg5
  case hyTg5 => (intro w8' hSw; (try dsimp only at hSw); go_simp; (first | done | with_reducible rfl))
  (try simp only [Act.put, List.setIfInBounds_toArray, List.set_cons_zero, List.set_cons_succ])
  refine wpAnyH_take (i := 6) (oi := ({ dst := some 55, op := Op.fieldAddr 27 (Operand.tmp 54) 10, type := 0, pos := "event.go:190", after := #[{ on := 5, ground := Ground.data }], guard := none } : Oper)) (v := ?_) rfl (by kernel_rfl) (by kernel_rfl) (by kernel_rfl) (fun _ _ _ h => h) (Or.inl ⟨by rfl, ?hyTg6⟩) (by assumption) ?rsTg6
  case hyTg6 => (intro w8' hSw; (try dsimp only at hSw); go_simp; (first | done | with_reducible rfl))
  (try simp only [Act.put, List.setIfInBounds_toArray, List.set_cons_zero, List.set_cons_succ])
  refine wpAnyH_take (i := 7) (oi := ({ dst := some 56, op := Op.move (Operand.tmp 1), type := 100, pos := "event.go:190", after := #[], guard := none } : Oper)) (v := ?_) rfl (by kernel_rfl) (by kernel_rfl) (by kernel_rfl) (fun _ _ _ h => h) (Or.inl ⟨by rfl, ?hyTg7⟩) (by assumption) ?rsTg7
  case hyTg7 => (intro w8' hSw; (try dsimp only at hSw); go_simp; (first | done | with_reducible rfl))
  (try simp only [Act.put, List.setIfInBounds_toArray, List.set_cons_zero, List.set_cons_succ])
  refine wpAnyH_take (i := 8) (oi := ({ dst := some 57, op := Op.nilCheck (Operand.tmp 56), type := 0, pos := "event.go:190", after := #[{ on := 7, ground := Ground.data }], guard := none } : Oper)) (v := ?_) rfl (by kernel_rfl) (by kernel_rfl) (by kernel_rfl) (fun _ _ _ h => h) (Or.inl ⟨by rfl, ?hyTg8⟩) (by assumption) ?rsTg8
  case hyTg8 => (intro w8' hSw; (try dsimp only at hSw); go_simp; (first | done | with_reducible rfl))
  (try simp only [Act.put, List.setIfInBounds_toArray, List.set_cons_zero, List.set_cons_succ])
  refine wpAnyH_take (i := 9) (oi := ({ dst := some 58, op := Op.fieldAddr 27 (Operand.tmp 57) 11, type := 0, pos := "event.go:190", after := #[{ on := 8, ground := Ground.data }], guard := none } : Oper)) (v := ?_) rfl (by kernel_rfl) (by kernel_rfl) (by kernel_rfl) (fun _ _ _ h => h) (Or.inl ⟨by rfl, ?hyTg9⟩) (by assumption) ?rsTg9
  case hyTg9 => (intro w8' hSw; (try dsimp only at hSw); go_simp; (first | done | with_reducible rfl))
  (try simp only [Act.put, List.setIfInBounds_toArray, List.set_cons_zero, List.set_cons_succ])
  refine wpAnyH_ready (rs := [10]) (by kernel_rfl) (by simp) ?_
  refine AllReadyH.cons (o := ({ dst := some 59, op := Op.buildSlice 111 3 #[(0, Operand.tmp 52), (1, Operand.tmp 55), (2, Operand.tmp 58)], type := 111, pos := "event.go:190", after := #[{ on := 3, ground := Ground.data }, { on := 6, ground := Ground.data }, { on := 9, ground := Ground.data }], guard := none } : Oper)) rfl (fun K hK => ?_) AllReadyH.nil
  rw [if_pos (by rfl)]
  go_simp
  refine hK.out _ _ trivial (fun hHeld => ?_)
  clear hK
  (try simp only [Act.put, List.setIfInBounds_toArray, List.set_cons_zero, List.set_cons_succ])
  refine wpAnyH_ready (rs := [11]) (by kernel_rfl) (by simp) ?_
  refine AllReadyH.cons (o := ({ dst := some 60, op := Op.call { callee := Callee.value (Operand.func 54), args := #[Operand.tmp 49, Operand.tmp 59], argTypes := #[92, 111] }, type := 0, pos := "event.go:190", after := #[{ on := 0, ground := Ground.data }, { on := 10, ground := Ground.data }], guard := none } : Oper)) rfl (fun K hK => ?_) AllReadyH.nil
  rw [if_pos (by rfl)]
  go_simp
  refine (whole_litr g b w1g.heap.size 3 T 96 (s.nums [o, o + 1, o + 2, o + 3, o + 4, o + 5, o + 6, o + 7, o + 8]) [o + 9, o + 10, o + 11] H1g.out (HOK.out [o, o + 1, o + 2, o + 3, o + 4, o + 5, o + 6, o + 7, o + 8]) (fun p hp => HIN.out [o, o + 1, o + 2, o + 3, o + 4, o + 5, o + 6, o + 7, o + 8] p (by simp at hp ⊢; omega)) rfl rfl).mono ?_
  rintro r_ w8 ⟨rfl, h2⟩
  have H2g := Aside0.mk h2
  clear h2
  go_simp
  refine hK.out _ _ trivial (fun hHeld => ?_)
  clear hK
  (try simp only [Act.put, List.setIfInBounds_toArray, List.set_cons_zero, List.set_cons_succ])
  refine wpAnyH_done (by kernel_rfl) ?_ _
  refine NoPanic.normal ?_
  clear H2f H1g
  go_wp2_with fail
  go_end0
  exact ⟨rfl, H2g.out⟩
end Go.Proofs.Ytldohapdhljoaaa.Wire
namespace Go.Proofs.Ytldohapdhljoaaa.Wire
open Go.RowKit Go.Proofs.YtldohapdhljoaaaW.PrintWords Go.Proofs.Ytldohapdhljoaaa.Obj Go.Proofs.Ytldohapdhljoaaa.Print
set_option linter.unusedVariables false
set_option linter.unusedSimpArgs false
set_option maxRecDepth 100000
def toB (p : Int × Int) : S46 := ⟨p.1, p.2⟩
def toS (p : Int × Int) : S48 := ⟨p.1, p.2⟩
theorem pr_toB (l : List (Int × Int)) : (l.map toB).map prB = l := by rw [List.map_map]; exact List.map_id'' (fun _ => rfl) l
theorem pr_toS (l : List (Int × Int)) : (l.map toS).map prS = l := by rw [List.map_map]; exact List.map_id'' (fun _ => rfl) l
def getP (l : List Int) (e : Int) : Pol × List Int × Int :=
  let k := rNum l e
  let t := rNum k.2.1 k.2.2
  let bs := rList 8 t.2.1 t.2.2
  let p := rNum bs.2.1 bs.2.2
  let i := rNum p.2.1 p.2.2
  let d := rNum i.2.1 i.2.2
  let q := rNum d.2.1 d.2.2
  let ss := rList 8 q.2.1 q.2.2
  (⟨k.1, t.1, bs.1.map toB, p.1, i.1, d.1, q.1, ss.1.map toS⟩, ss.2.1, ss.2.2)
def getC (l : List Int) (e : Int) : Cnf × List Int × Int :=
  let a0 := rNum l e
  let a1 := rNum a0.2.1 a0.2.2
  let a2 := rNum a1.2.1 a1.2.2
  let a3 := rNum a2.2.1 a2.2.2
  let a4 := rNum a3.2.1 a3.2.2
  let a5 := rNum a4.2.1 a4.2.2
  let a6 := rNum a5.2.1 a5.2.2
  let a7 := rNum a6.2.1 a6.2.2
  let a8 := rNum a7.2.1 a7.2.2
  let a9 := rNum a8.2.1 a8.2.2
  let a10 := rNum a9.2.1 a9.2.2
  let a11 := rNum a10.2.1 a10.2.2
  (⟨a0.1, a1.1, a2.1, a3.1, a4.1, a5.1, a6.1, a7.1, a8.1, a9.1, a10.1, a11.1⟩, a11.2.1, a11.2.2)
def ev0 (k : Int) : Ev := ⟨k, 0, 0, 0, 0, 0, zPol, zCnf, []⟩
def evZ (k : Int) : Array Value := (evC (ev0 k) none none none 0 0 0).toArray
def getE (k : Int) (l : List Int) (e : Int) : Ev × List Int × Int :=
  if k = 1 then ({ ev0 k with u := (rNum l e).1, dm := (rNum (rNum l e).2.1 (rNum l e).2.2).1 }, (rNum (rNum l e).2.1 (rNum l e).2.2).2.1, (rNum (rNum l e).2.1 (rNum l e).2.2).2.2)
  else if k = 2 then ({ ev0 k with T := (rNum l e).1 }, (rNum l e).2.1, (rNum l e).2.2)
  else if k = 3 then ({ ev0 k with id := (rNum l e).1, pol := (getP (rNum l e).2.1 (rNum l e).2.2).1 }, (getP (rNum l e).2.1 (rNum l e).2.2).2.1, (getP (rNum l e).2.1 (rNum l e).2.2).2.2)
  else if k = 4 then ({ ev0 k with c := (getC l e).1 }, (getC l e).2.1, (getC l e).2.2)
  else if k = 5 then ({ ev0 k with T := (rNum l e).1, n := (rNum (rNum l e).2.1 (rNum l e).2.2).1 }, (rNum (rNum l e).2.1 (rNum l e).2.2).2.1, (rNum (rNum l e).2.1 (rNum l e).2.2).2.2)
  else if k = 6 ∨ k = 7 then ({ ev0 k with id := (rNum l e).1 }, (rNum l e).2.1, (rNum l e).2.2)
  else if k = 8 then ({ ev0 k with body := (rText 1700 l e).1 }, (rText 1700 l e).2.1, (rText 1700 l e).2.2)
  else (ev0 k, l, e)
def EvR (g b : Nat) (x : Ev × List Int × Int) (A2 A7 A8 : Option Addr) (c8 : Nat) (As : List Asr) : List Asr :=
  RT g b 30 ⟨x.2.1, x.2.2, (evC x.1 A2 A7 A8 x.1.pol.bs.length x.1.pol.ss.length c8).toArray⟩ (As ++ [rowA 46 A2 (x.1.pol.bs.map prB), rowA 48 A7 (x.1.pol.ss.map prS), byA (.slice A8 x.1.body.length c8) x.1.body])
theorem evZ_int (k l e) (p : Nat) (hp : p = 1 ∨ p = 2 ∨ p = 3 ∨ p = 4 ∨ p = 5 ∨ p = 6 ∨ p = 7 ∨ p = 9 ∨ p = 10 ∨ p = 11 ∨ p = 12 ∨ 14 ≤ p ∧ p ≤ 25) : RS.int ⟨l, e, evZ k⟩ p := by
  have : p ≤ 25 := by omega
  refine ⟨0, ?_, by omega, by omega⟩
  match p, hp, this with
  | 1, _, _ => rfl
  | 2, _, _ => rfl
  | 3, _, _ => rfl
  | 4, _, _ => rfl
  | 5, _, _ => rfl
  | 6, _, _ => rfl
  | 7, _, _ => rfl
  | 9, _, _ => rfl
  | 10, _, _ => rfl
  | 11, _, _ => rfl
  | 12, _, _ => rfl
  | 14, _, _ => rfl
  | 15, _, _ => rfl
  | 16, _, _ => rfl
  | 17, _, _ => rfl
  | 18, _, _ => rfl
  | 19, _, _ => rfl
  | 20, _, _ => rfl
  | 21, _, _ => rfl
  | 22, _, _ => rfl
  | 23, _, _ => rfl
  | 24, _, _ => rfl
  | 25, _, _ => rfl
  | 0, h, _ => omega
  | 8, h, _ => omega
  | 13, h, _ => omega
  | n + 26, _, h => omega
theorem nil_byA (w : World) : One (byA (.slice none 0 0) []) w.heap.size w := byA_one (own_nil _ _ _ _)
theorem evR_none {w0 w : World} {As : List Asr} {g b : Nat} {x : Ev × List Int × Int} (h : St w0 (RT g b 30 ⟨x.2.1, x.2.2, (evC x.1 none none none 0 0 0).toArray⟩ As) w) (hb : x.1.pol.bs = []) (hs : x.1.pol.ss = []) (hy : x.1.body = []) : ∃ A2 A7 A8 c8, St w0 (EvR g b x A2 A7 A8 c8 As) w := by
  refine ⟨none, none, none, 0, ?_⟩
  unfold EvR
  rw [hb, hs, hy]
  have h1 := ((h.push (Below.refl _ _) (rowA_nil 46 _ _)).push (Below.refl _ _) (rowA_nil 48 _ _)).push (Below.refl _ _) (nil_byA w)
  simpa [RT] using h1
theorem cvE {l : List Int} {er : Int} {k : Int} : RS.nums ⟨l, er, evZ k⟩ [1, 2] = ⟨(rNum (rNum l er).2.1 (rNum l er).2.2).2.1, (rNum (rNum l er).2.1 (rNum l er).2.2).2.2, (evC { ev0 k with u := (rNum l er).1, dm := (rNum (rNum l er).2.1 (rNum l er).2.2).1 } none none none 0 0 0).toArray⟩ := by
  simp [RS.nums, RS.num, evZ, evC, ev0, zPol, zCnf]
theorem cvE2 {l : List Int} {er : Int} {k : Int} : RS.nums ⟨l, er, evZ k⟩ [3] = ⟨(rNum l er).2.1, (rNum l er).2.2, (evC { ev0 k with T := (rNum l er).1 } none none none 0 0 0).toArray⟩ := by
  simp [RS.nums, RS.num, evZ, evC, ev0, zPol, zCnf]
theorem cvE3 {l : List Int} {er : Int} {k : Int} {A2 A7 : Option Addr} : (pS4 (RS.nums ⟨l, er, evZ k⟩ [4]) 6 A2).list 8 13 A7 = ⟨(getP (rNum l er).2.1 (rNum l er).2.2).2.1, (getP (rNum l er).2.1 (rNum l er).2.2).2.2, (evC { ev0 k with id := (rNum l er).1, pol := (getP (rNum l er).2.1 (rNum l er).2.2).1 } A2 A7 none (getP (rNum l er).2.1 (rNum l er).2.2).1.bs.length (getP (rNum l er).2.1 (rNum l er).2.2).1.ss.length 0).toArray⟩ := by
  simp [RS.nums, RS.num, evZ, evC, ev0, zPol, zCnf, pS4, pS2, RS.list, getP]
theorem cvE4 {l : List Int} {er : Int} {k : Int} : cS ⟨l, er, evZ k⟩ 14 = ⟨(getC l er).2.1, (getC l er).2.2, (evC { ev0 k with c := (getC l er).1 } none none none 0 0 0).toArray⟩ := by
  simp [RS.nums, RS.num, evZ, evC, ev0, zPol, zCnf, cS, getC]
theorem cvE5 {l : List Int} {er : Int} {k : Int} : RS.nums (RS.nums ⟨l, er, evZ k⟩ [3]) [5] = ⟨(rNum (rNum l er).2.1 (rNum l er).2.2).2.1, (rNum (rNum l er).2.1 (rNum l er).2.2).2.2, (evC { ev0 k with T := (rNum l er).1, n := (rNum (rNum l er).2.1 (rNum l er).2.2).1 } none none none 0 0 0).toArray⟩ := by
  simp [RS.nums, RS.num, evZ, evC, ev0, zPol, zCnf]
theorem cvE6 {l : List Int} {er : Int} {k : Int} : RS.nums ⟨l, er, evZ k⟩ [4] = ⟨(rNum l er).2.1, (rNum l er).2.2, (evC { ev0 k with id := (rNum l er).1 } none none none 0 0 0).toArray⟩ := by
  simp [RS.nums, RS.num, evZ, evC, ev0, zPol, zCnf]
set_option maxHeartbeats 8000000 in
theorem code1_r {w0 w : World} {As : List Asr} (g b : Nat) (k : Int) (l : List Int) (er : Int) (h : St w0 (RT g b 30 ⟨l, er, evZ k⟩ As) w) (hok : ∀ x ∈ l, 0 ≤ x ∧ x < 256) (hk : k = 1) :
    Calls Try.prog 25 #[(.iface 54 (.agg #[.pointer (some ⟨g, 0, none⟩)])), .pointer (some ⟨b, 0, none⟩)] w fun r w' => r = .returned (.bool true) ∧ ∃ A2 A7 A8 c8, St w0 (EvR g b (getE k l er) A2 A7 A8 c8 As) w' := by
  have hu30 := Try.underlying30
  have H := Aside0.mk h
  have HOK := Aside0.mk (fun q : List Nat => RS.ok_nums (s := ⟨l, er, evZ k⟩) hok q)
  have HIN := Aside0.mk (fun (q : List Nat) (p : Nat) hp => RS.int_nums (s := ⟨l, er, evZ k⟩) hok (evZ_int k l er p hp) q)
  have ck : w.cell? ⟨b, 0, none⟩ = some (.int .i64 k) := pick_cellE (rt_box h) 0 rfl
  have b1 : (k == 1) = true := beq_iff_eq.2 hk
  have HK := Aside0.mk hk
  clear h hk hok
  go_enter Try.func25, Try.ntmps25
  go_upto_region 4 with fail
  have H1 := Aside0.mk (H.out.below (below_drew (Below.refl _ _)))
  refine wp_region_noPanic ?_
  refine wp_region_held_drew (S := fun _ => True) (by kernel_rfl) trivial (fun hHeld => ?_)
  generalize w.drew = w1 at *
  clear ck
  refine wpAnyH_take (i := 0) (oi := ({ dst := some 11, op := Op.move (Operand.tmp 0), type := 92, pos := "event.go:197", after := #[], guard := none } : Oper)) (v := ?_) rfl (by kernel_rfl) (by kernel_rfl) (by kernel_rfl) (fun _ _ _ h => h) (Or.inl ⟨by rfl, ?hyT0⟩) (by assumption) ?rsT0
  case hyT0 => (intro w8' hSw; (try dsimp only at hSw); go_simp; (first | done | with_reducible rfl))
  (try simp only [Act.put, List.setIfInBounds_toArray, List.set_cons_zero, List.set_cons_succ])
  refine wpAnyH_take (i := 1) (oi := ({ dst := some 12, op := Op.move (Operand.tmp 1), type := 56, pos := "event.go:197", after := #[], guard := none } : Oper)) (v := ?_) rfl (by kernel_rfl) (by kernel_rfl) (by kernel_rfl) (fun _ _ _ h => h) (Or.inl ⟨by rfl, ?hyT1⟩) (by assumption) ?rsT1
  case hyT1 => (intro w8' hSw; (try dsimp only at hSw); go_simp; (first | done | with_reducible rfl))
  (try simp only [Act.put, List.setIfInBounds_toArray, List.set_cons_zero, List.set_cons_succ])
  refine wpAnyH_take (i := 2) (oi := ({ dst := some 13, op := Op.nilCheck (Operand.tmp 12), type := 0, pos := "event.go:197", after := #[{ on := 1, ground := Ground.data }], guard := none } : Oper)) (v := ?_) rfl (by kernel_rfl) (by kernel_rfl) (by kernel_rfl) (fun _ _ _ h => h) (Or.inl ⟨by rfl, ?hyT2⟩) (by assumption) ?rsT2
  case hyT2 => (intro w8' hSw; (try dsimp only at hSw); go_simp; (first | done | with_reducible rfl))
  (try simp only [Act.put, List.setIfInBounds_toArray, List.set_cons_zero, List.set_cons_succ])
  refine wpAnyH_take (i := 3) (oi := ({ dst := some 14, op := Op.fieldAddr 30 (Operand.tmp 13) 1, type := 0, pos := "event.go:197", after := #[{ on := 2, ground := Ground.data }], guard := none } : Oper)) (v := ?_) rfl (by kernel_rfl) (by kernel_rfl) (by kernel_rfl) (fun _ _ _ h => h) (Or.inl ⟨by rfl, ?hyT3⟩) (by assumption) ?rsT3
  case hyT3 => (intro w8' hSw; (try dsimp only at hSw); go_simp; (first | done | with_reducible rfl))
  (try simp only [Act.put, List.setIfInBounds_toArray, List.set_cons_zero, List.set_cons_succ])
  refine wpAnyH_take (i := 4) (oi := ({ dst := some 15, op := Op.move (Operand.tmp 1), type := 56, pos := "event.go:197", after := #[], guard := none } : Oper)) (v := ?_) rfl (by kernel_rfl) (by kernel_rfl) (by kernel_rfl) (fun _ _ _ h => h) (Or.inl ⟨by rfl, ?hyT4⟩) (by assumption) ?rsT4
  case hyT4 => (intro w8' hSw; (try dsimp only at hSw); go_simp; (first | done | with_reducible rfl))
  (try simp only [Act.put, List.setIfInBounds_toArray, List.set_cons_zero, List.set_cons_succ])
  refine wpAnyH_take (i := 5) (oi := ({ dst := some 16, op := Op.nilCheck (Operand.tmp 15), type := 0, pos := "event.go:197", after := #[{ on := 4, ground := Ground.data }], guard := none } : Oper)) (v := ?_) rfl (by kernel_rfl) (by kernel_rfl) (by kernel_rfl) (fun _ _ _ h => h) (Or.inl ⟨by rfl, ?hyT5⟩) (by assumption) ?rsT5
  case hyT5 => (intro w8' hSw; (try dsimp only at hSw); go_simp; (first | done | with_reducible rfl))
  (try simp only [Act.put, List.setIfInBounds_toArray, List.set_cons_zero, List.set_cons_succ])
  refine wpAnyH_take (i := 6) (oi := ({ dst := some 17, op := Op.fieldAddr 30 (Operand.tmp 16) 2, type := 0, pos := "event.go:197", after := #[{ on := 5, ground := Ground.data }], guard := none } : Oper)) (v := ?_) rfl (by kernel_rfl) (by kernel_rfl) (by kernel_rfl) (fun _ _ _ h => h) (Or.inl ⟨by rfl, ?hyT6⟩) (by assumption) ?rsT6
  case hyT6 => (intro w8' hSw; (try dsimp only at hSw); go_simp; (first | done | with_reducible rfl))
  (try simp only [Act.put, List.setIfInBounds_toArray, List.set_cons_zero, List.set_cons_succ])
  refine wpAnyH_ready (rs := [7]) (by kernel_rfl) (by simp) ?_
  refine AllReadyH.cons (o := ({ dst := some 18, op := Op.buildSlice 109 2 #[(0, Operand.tmp 14), (1, Operand.tmp 17)], type := 109, pos := "event.go:197", after := #[{ on := 3, ground := Ground.data }, { on := 6, ground := Ground.data }], guard := none } : Oper)) rfl (fun K hK => ?_) AllReadyH.nil
  rw [if_pos (by rfl)]
  go_simp
  refine hK.out _ _ trivial (fun hHeld => ?_)
  clear hK
  (try simp only [Act.put, List.setIfInBounds_toArray, List.set_cons_zero, List.set_cons_succ])
  refine wpAnyH_ready (rs := [8]) (by kernel_rfl) (by simp) ?_
  refine AllReadyH.cons (o := ({ dst := some 19, op := Op.call { callee := Callee.value (Operand.func 53), args := #[Operand.tmp 11, Operand.tmp 18], argTypes := #[92, 109] }, type := 0, pos := "event.go:197", after := #[{ on := 0, ground := Ground.data }, { on := 7, ground := Ground.data }], guard := none } : Oper)) rfl (fun K hK => ?_) AllReadyH.nil
  rw [if_pos (by rfl)]
  go_simp
  refine (nums_litr g b w1.heap.size 2 30 94 ⟨l, er, evZ k⟩ [1, 2] H1.out (HOK.out []) (fun p hp => HIN.out [] p (by simp at hp ⊢; omega)) rfl rfl).mono ?_
  rintro r_ w2 ⟨rfl, h2⟩
  have Hw2 := Aside0.mk h2
  clear h2
  go_simp
  refine hK.out _ _ trivial (fun hHeld => ?_)
  clear hK
  (try simp only [Act.put, List.setIfInBounds_toArray, List.set_cons_zero, List.set_cons_succ])
  refine wpAnyH_done (by kernel_rfl) ?_ _
  refine NoPanic.normal ?_
  go_wp2_with fail
  go_ret
  refine ⟨rfl, ?_⟩
  have hk := HK.out
  unfold getE
  rw [if_pos hk]
  have h4 := Hw2.out
  rw [cvE] at h4
  refine evR_none ?_ rfl rfl rfl
  dsimp only
  exact h4
set_option maxHeartbeats 8000000 in
theorem code2_r {w0 w : World} {As : List Asr} (g b : Nat) (k : Int) (l : List Int) (er : Int) (h : St w0 (RT g b 30 ⟨l, er, evZ k⟩ As) w) (hok : ∀ x ∈ l, 0 ≤ x ∧ x < 256) (hk : k = 2) :
    Calls Try.prog 25 #[(.iface 54 (.agg #[.pointer (some ⟨g, 0, none⟩)])), .pointer (some ⟨b, 0, none⟩)] w fun r w' => r = .returned (.bool true) ∧ ∃ A2 A7 A8 c8, St w0 (EvR g b (getE k l er) A2 A7 A8 c8 As) w' := by
  have hu30 := Try.underlying30
  have H := Aside0.mk h
  have HOK := Aside0.mk (fun q : List Nat => RS.ok_nums (s := ⟨l, er, evZ k⟩) hok q)
  have HIN := Aside0.mk (fun (q : List Nat) (p : Nat) hp => RS.int_nums (s := ⟨l, er, evZ k⟩) hok (evZ_int k l er p hp) q)
  have ck : w.cell? ⟨b, 0, none⟩ = some (.int .i64 k) := pick_cellE (rt_box h) 0 rfl
  have b1 : (k == 1) = false := beq_eq_false_iff_ne.2 (by omega)
  have b2 : (k == 2) = true := beq_iff_eq.2 hk
  have HK := Aside0.mk hk
  clear h hk hok
  go_enter Try.func25, Try.ntmps25
  go_wp2_with fail
  refine (nums_litr g b w.heap.size 1 30 94 ⟨l, er, evZ k⟩ [3] H.out (HOK.out []) (fun p hp => HIN.out [] p (by simp at hp ⊢; omega)) rfl rfl).mono ?_
  rintro r_ w2 ⟨rfl, h2⟩
  have Hw2 := Aside0.mk h2
  clear h2
  go_wp2_with fail
  go_ret
  refine ⟨rfl, ?_⟩
  have hk := HK.out
  unfold getE
  rw [if_neg (by omega), if_pos hk]
  have h4 := Hw2.out
  rw [cvE2] at h4
  refine evR_none ?_ rfl rfl rfl
  dsimp only
  exact h4
set_option maxHeartbeats 8000000 in
theorem code3_r {w0 w : World} {As : List Asr} (g b : Nat) (k : Int) (l : List Int) (er : Int) (h : St w0 (RT g b 30 ⟨l, er, evZ k⟩ As) w) (hok : ∀ x ∈ l, 0 ≤ x ∧ x < 256) (hk : k = 3) :
    Calls Try.prog 25 #[(.iface 54 (.agg #[.pointer (some ⟨g, 0, none⟩)])), .pointer (some ⟨b, 0, none⟩)] w fun r w' => r = .returned (.bool true) ∧ ∃ A2 A7 A8 c8, St w0 (EvR g b (getE k l er) A2 A7 A8 c8 As) w' := by
  have hu30 := Try.underlying30
  have H := Aside0.mk h
  have HOK := Aside0.mk (fun q : List Nat => RS.ok_nums (s := ⟨l, er, evZ k⟩) hok q)
  have HIN := Aside0.mk (fun (q : List Nat) (p : Nat) hp => RS.int_nums (s := ⟨l, er, evZ k⟩) hok (evZ_int k l er p hp) q)
  have ck : w.cell? ⟨b, 0, none⟩ = some (.int .i64 k) := pick_cellE (rt_box h) 0 rfl
  have b1 : (k == 1) = false := beq_eq_false_iff_ne.2 (by omega)
  have b2 : (k == 2) = false := beq_eq_false_iff_ne.2 (by omega)
  have b3 : (k == 3) = true := beq_iff_eq.2 hk
  have HK := Aside0.mk hk
  clear h hk hok
  go_enter Try.func25, Try.ntmps25
  go_wp2_with fail
  refine (whole_litr g b w.heap.size 1 30 96 ⟨l, er, evZ k⟩ [4] H.out (HOK.out []) (fun p hp => HIN.out [] p (by simp at hp ⊢; omega)) rfl rfl).mono ?_
  rintro r_ w2 ⟨rfl, h2⟩
  have Hw2 := Aside0.mk h2
  clear h2
  clear ck
  go_wp2_with fail
  refine (policy_r g b 6 30 (RS.nums ⟨l, er, evZ k⟩ [4]) Hw2.out (HOK.out [4]) (fun p hp => HIN.out [4] p (by simp at hp ⊢; omega)) rfl rfl).mono ?_
  rintro r_ w3 ⟨rfl, A2, A7, h3⟩
  have Hw3 := Aside0.mk h3
  clear h3
  go_wp2_with fail
  go_ret
  refine ⟨rfl, A2, A7, none, 0, ?_⟩
  have hk := HK.out
  unfold getE
  rw [if_neg (by omega), if_neg (by omega), if_pos hk]
  have h4 := Hw3.out.push (Below.refl _ _) (nil_byA w3)
  have e7 : (6 : Nat) + 7 = 13 := rfl
  rw [e7, cvE3] at h4
  have eb : (rList 8 (pS2 (RS.nums ⟨l, er, evZ k⟩ [4]) 6).l (pS2 (RS.nums ⟨l, er, evZ k⟩ [4]) 6).e).1 = (getP (rNum l er).2.1 (rNum l er).2.2).1.bs.map prB := by
    unfold getP
    dsimp only
    rw [pr_toB]
    rfl
  have es : (rList 8 (pS4 (RS.nums ⟨l, er, evZ k⟩ [4]) 6 A2).l (pS4 (RS.nums ⟨l, er, evZ k⟩ [4]) 6 A2).e).1 = (getP (rNum l er).2.1 (rNum l er).2.2).1.ss.map prS := by
    unfold getP
    dsimp only
    rw [pr_toS]
    rfl
  rw [eb, es] at h4
  generalize getP (rNum l er).2.1 (rNum l er).2.2 = gp at *
  unfold EvR
  have e9 : ∀ (s : RS) (a b' c : Asr), RT g b 30 s (As ++ [a, b']) ++ [c] = RT g b 30 s (As ++ [a, b', c]) := fun s a b' c => by simp [RT]
  rw [e9] at h4
  exact h4
set_option maxHeartbeats 8000000 in
theorem code4_r {w0 w : World} {As : List Asr} (g b : Nat) (k : Int) (l : List Int) (er : Int) (h : St w0 (RT g b 30 ⟨l, er, evZ k⟩ As) w) (hok : ∀ x ∈ l, 0 ≤ x ∧ x < 256) (hk : k = 4) :
    Calls Try.prog 25 #[(.iface 54 (.agg #[.pointer (some ⟨g, 0, none⟩)])), .pointer (some ⟨b, 0, none⟩)] w fun r w' => r = .returned (.bool true) ∧ ∃ A2 A7 A8 c8, St w0 (EvR g b (getE k l er) A2 A7 A8 c8 As) w' := by
  have hu30 := Try.underlying30
  have H := Aside0.mk h
  have HOK := Aside0.mk (fun q : List Nat => RS.ok_nums (s := ⟨l, er, evZ k⟩) hok q)
  have HIN := Aside0.mk (fun (q : List Nat) (p : Nat) hp => RS.int_nums (s := ⟨l, er, evZ k⟩) hok (evZ_int k l er p hp) q)
  have ck : w.cell? ⟨b, 0, none⟩ = some (.int .i64 k) := pick_cellE (rt_box h) 0 rfl
  have b1 : (k == 1) = false := beq_eq_false_iff_ne.2 (by omega)
  have b2 : (k == 2) = false := beq_eq_false_iff_ne.2 (by omega)
  have b3 : (k == 3) = false := beq_eq_false_iff_ne.2 (by omega)
  have b4 : (k == 4) = true := beq_iff_eq.2 hk
  have HK := Aside0.mk hk
  clear h hk hok
  go_enter Try.func25, Try.ntmps25
  go_wp2_with fail
  refine (conf_r g b 14 30 ⟨l, er, evZ k⟩ H.out (HOK.out []) (fun p hp => HIN.out [] p (by simp at hp ⊢; omega))).mono ?_
  rintro r_ w3 ⟨rfl, h3⟩
  have Hw3 := Aside0.mk h3
  clear h3 ck
  go_wp2_with fail
  go_ret
  refine ⟨rfl, ?_⟩
  have hk := HK.out
  unfold getE
  rw [if_neg (by omega), if_neg (by omega), if_neg (by omega), if_pos hk]
  have h4 := Hw3.out
  rw [cvE4] at h4
  refine evR_none ?_ rfl rfl rfl
  dsimp only
  exact h4
set_option maxHeartbeats 8000000 in
theorem code5_r {w0 w : World} {As : List Asr} (g b : Nat) (k : Int) (l : List Int) (er : Int) (h : St w0 (RT g b 30 ⟨l, er, evZ k⟩ As) w) (hok : ∀ x ∈ l, 0 ≤ x ∧ x < 256) (hk : k = 5) :
    Calls Try.prog 25 #[(.iface 54 (.agg #[.pointer (some ⟨g, 0, none⟩)])), .pointer (some ⟨b, 0, none⟩)] w fun r w' => r = .returned (.bool true) ∧ ∃ A2 A7 A8 c8, St w0 (EvR g b (getE k l er) A2 A7 A8 c8 As) w' := by
  have hu30 := Try.underlying30
  have H := Aside0.mk h
  have HOK := Aside0.mk (fun q : List Nat => RS.ok_nums (s := ⟨l, er, evZ k⟩) hok q)
  have HIN := Aside0.mk (fun (q : List Nat) (p : Nat) hp => RS.int_nums (s := ⟨l, er, evZ k⟩) hok (evZ_int k l er p hp) q)
  have ck : w.cell? ⟨b, 0, none⟩ = some (.int .i64 k) := pick_cellE (rt_box h) 0 rfl
  have b1 : (k == 1) = false := beq_eq_false_iff_ne.2 (by omega)
  have b2 : (k == 2) = false := beq_eq_false_iff_ne.2 (by omega)
  have b3 : (k == 3) = false := beq_eq_false_iff_ne.2 (by omega)
  have b4 : (k == 4) = false := beq_eq_false_iff_ne.2 (by omega)
  have b5 : (k == 5) = true := beq_iff_eq.2 hk
  have HK := Aside0.mk hk
  clear h hk hok
  go_enter Try.func25, Try.ntmps25
  go_wp2_with fail
  refine (nums_litr g b w.heap.size 1 30 94 ⟨l, er, evZ k⟩ [3] H.out (HOK.out []) (fun p hp => HIN.out [] p (by simp at hp ⊢; omega)) rfl rfl).mono ?_
  rintro r_ w2 ⟨rfl, h2⟩
  have Hw2 := Aside0.mk h2
  clear h2
  clear ck
  go_wp2_with fail
  refine (whole_litr g b w2.heap.size 1 30 96 (RS.nums ⟨l, er, evZ k⟩ [3]) [5] Hw2.out (HOK.out [3]) (fun p hp => HIN.out [3] p (by simp at hp ⊢; omega)) rfl rfl).mono ?_
  rintro r_ w3 ⟨rfl, h2⟩
  have Hw3 := Aside0.mk h2
  clear h2
  go_wp2_with fail
  go_ret
  refine ⟨rfl, ?_⟩
  have hk := HK.out
  unfold getE
  rw [if_neg (by omega), if_neg (by omega), if_neg (by omega), if_neg (by omega), if_pos hk]
  have h4 := Hw3.out
  rw [cvE5] at h4
  refine evR_none ?_ rfl rfl rfl
  dsimp only
  exact h4
set_option maxHeartbeats 8000000 in
theorem code6_r {w0 w : World} {As : List Asr} (g b : Nat) (k : Int) (l : List Int) (er : Int) (h : St w0 (RT g b 30 ⟨l, er, evZ k⟩ As) w) (hok : ∀ x ∈ l, 0 ≤ x ∧ x < 256) (hk : k = 6) :
    Calls Try.prog 25 #[(.iface 54 (.agg #[.pointer (some ⟨g, 0, none⟩)])), .pointer (some ⟨b, 0, none⟩)] w fun r w' => r = .returned (.bool true) ∧ ∃ A2 A7 A8 c8, St w0 (EvR g b (getE k l er) A2 A7 A8 c8 As) w' := by
  have hu30 := Try.underlying30
  have H := Aside0.mk h
  have HOK := Aside0.mk (fun q : List Nat => RS.ok_nums (s := ⟨l, er, evZ k⟩) hok q)
  have HIN := Aside0.mk (fun (q : List Nat) (p : Nat) hp => RS.int_nums (s := ⟨l, er, evZ k⟩) hok (evZ_int k l er p hp) q)
  have ck : w.cell? ⟨b, 0, none⟩ = some (.int .i64 k) := pick_cellE (rt_box h) 0 rfl
  have b1 : (k == 1) = false := beq_eq_false_iff_ne.2 (by omega)
  have b2 : (k == 2) = false := beq_eq_false_iff_ne.2 (by omega)
  have b3 : (k == 3) = false := beq_eq_false_iff_ne.2 (by omega)
  have b4 : (k == 4) = false := beq_eq_false_iff_ne.2 (by omega)
  have b5 : (k == 5) = false := beq_eq_false_iff_ne.2 (by omega)
  have b6 : (k == 6) = true := beq_iff_eq.2 hk
  have HK := Aside0.mk hk
  clear h hk hok
  go_enter Try.func25, Try.ntmps25
  go_wp2_with fail
  refine (whole_litr g b w.heap.size 1 30 96 ⟨l, er, evZ k⟩ [4] H.out (HOK.out []) (fun p hp => HIN.out [] p (by simp at hp ⊢; omega)) rfl rfl).mono ?_
  rintro r_ w2 ⟨rfl, h2⟩
  have Hw2 := Aside0.mk h2
  clear h2
  go_wp2_with fail
  go_ret
  refine ⟨rfl, ?_⟩
  have hk := HK.out
  unfold getE
  rw [if_neg (by omega), if_neg (by omega), if_neg (by omega), if_neg (by omega), if_neg (by omega), if_pos (by omega)]
  have h4 := Hw2.out
  rw [cvE6] at h4
  refine evR_none ?_ rfl rfl rfl
  dsimp only
  exact h4
set_option maxHeartbeats 8000000 in
theorem code7_r {w0 w : World} {As : List Asr} (g b : Nat) (k : Int) (l : List Int) (er : Int) (h : St w0 (RT g b 30 ⟨l, er, evZ k⟩ As) w) (hok : ∀ x ∈ l, 0 ≤ x ∧ x < 256) (hk : k = 7) :
    Calls Try.prog 25 #[(.iface 54 (.agg #[.pointer (some ⟨g, 0, none⟩)])), .pointer (some ⟨b, 0, none⟩)] w fun r w' => r = .returned (.bool true) ∧ ∃ A2 A7 A8 c8, St w0 (EvR g b (getE k l er) A2 A7 A8 c8 As) w' := by
  have hu30 := Try.underlying30
  have H := Aside0.mk h
  have HOK := Aside0.mk (fun q : List Nat => RS.ok_nums (s := ⟨l, er, evZ k⟩) hok q)
  have HIN := Aside0.mk (fun (q : List Nat) (p : Nat) hp => RS.int_nums (s := ⟨l, er, evZ k⟩) hok (evZ_int k l er p hp) q)
  have ck : w.cell? ⟨b, 0, none⟩ = some (.int .i64 k) := pick_cellE (rt_box h) 0 rfl
  have b1 : (k == 1) = false := beq_eq_false_iff_ne.2 (by omega)
  have b2 : (k == 2) = false := beq_eq_false_iff_ne.2 (by omega)
  have b3 : (k == 3) = false := beq_eq_false_iff_ne.2 (by omega)
  have b4 : (k == 4) = false := beq_eq_false_iff_ne.2 (by omega)
  have b5 : (k == 5) = false := beq_eq_false_iff_ne.2 (by omega)
  have b6 : (k == 6) = false := beq_eq_false_iff_ne.2 (by omega)
  have b7 : (k == 7) = true := beq_iff_eq.2 hk
  have HK := Aside0.mk hk
  clear h hk hok
  go_enter Try.func25, Try.ntmps25
  go_wp2_with fail
  refine (whole_litr g b w.heap.size 1 30 96 ⟨l, er, evZ k⟩ [4] H.out (HOK.out []) (fun p hp => HIN.out [] p (by simp at hp ⊢; omega)) rfl rfl).mono ?_
  rintro r_ w2 ⟨rfl, h2⟩
  have Hw2 := Aside0.mk h2
  clear h2
  go_wp2_with fail
  go_ret
  refine ⟨rfl, ?_⟩
  have hk := HK.out
  unfold getE
  rw [if_neg (by omega), if_neg (by omega), if_neg (by omega), if_neg (by omega), if_neg (by omega), if_pos (by omega)]
  have h4 := Hw2.out
  rw [cvE6] at h4
  refine evR_none ?_ rfl rfl rfl
  dsimp only
  exact h4
set_option maxHeartbeats 8000000 in
theorem code0_r {w0 w : World} {As : List Asr} (g b : Nat) (k : Int) (l : List Int) (er : Int) (h : St w0 (RT g b 30 ⟨l, er, evZ k⟩ As) w) (hok : ∀ x ∈ l, 0 ≤ x ∧ x < 256) (hk : k ≠ 1 ∧ k ≠ 2 ∧ k ≠ 3 ∧ k ≠ 4 ∧ k ≠ 5 ∧ k ≠ 6 ∧ k ≠ 7 ∧ k ≠ 8) :
    Calls Try.prog 25 #[(.iface 54 (.agg #[.pointer (some ⟨g, 0, none⟩)])), .pointer (some ⟨b, 0, none⟩)] w fun r w' => r = .returned (.bool false) ∧ ∃ A2 A7 A8 c8, St w0 (EvR g b (getE k l er) A2 A7 A8 c8 As) w' := by
  have hu30 := Try.underlying30
  have H := Aside0.mk h
  have HOK := Aside0.mk (fun q : List Nat => RS.ok_nums (s := ⟨l, er, evZ k⟩) hok q)
  have HIN := Aside0.mk (fun (q : List Nat) (p : Nat) hp => RS.int_nums (s := ⟨l, er, evZ k⟩) hok (evZ_int k l er p hp) q)
  have ck : w.cell? ⟨b, 0, none⟩ = some (.int .i64 k) := pick_cellE (rt_box h) 0 rfl
  have b1 : (k == 1) = false := beq_eq_false_iff_ne.2 (by omega)
  have b2 : (k == 2) = false := beq_eq_false_iff_ne.2 (by omega)
  have b3 : (k == 3) = false := beq_eq_false_iff_ne.2 (by omega)
  have b4 : (k == 4) = false := beq_eq_false_iff_ne.2 (by omega)
  have b5 : (k == 5) = false := beq_eq_false_iff_ne.2 (by omega)
  have b6 : (k == 6) = false := beq_eq_false_iff_ne.2 (by omega)
  have b7 : (k == 7) = false := beq_eq_false_iff_ne.2 (by omega)
  have b8 : (k == 8) = false := beq_eq_false_iff_ne.2 (by omega)
  have HK := Aside0.mk hk
  clear h hk hok
  go_enter Try.func25, Try.ntmps25
  go_wp2_with fail
  go_ret
  refine ⟨rfl, ?_⟩
  have hk := HK.out
  unfold getE
  rw [if_neg (by omega), if_neg (by omega), if_neg (by omega), if_neg (by omega), if_neg (by omega), if_neg (by omega), if_neg (by omega)]
  have h4 := H.out
  refine evR_none ?_ rfl rfl rfl
  dsimp only
  exact h4
end Go.Proofs.Ytldohapdhljoaaa.Wire
