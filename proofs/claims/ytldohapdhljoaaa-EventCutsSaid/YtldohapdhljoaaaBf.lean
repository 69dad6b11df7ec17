/- Several texts of this claim, one behind the other. -/
import Derived.Test.YtldohapdhljoaaaBd
import Derived.StillTailTactics
import Derived.Deep.LoopGhost
import Derived.Deep.RegionHeld3
import Derived.Test.YtldohapdhljoaaaBe
namespace Go.Proofs.Ytldohapdhljoaaa.Wire
open Go.RowKit Go.Proofs.YtldohapdhljoaaaW.PrintWords Go.Proofs.Ytldohapdhljoaaa.Obj
set_option linter.unusedVariables false
set_option maxRecDepth 100000
variable {TY : TypeId}
set_option maxHeartbeats 4000000 in
theorem wr_num {w0 w : World} {As : List Asr} (h : St w0 As w) (i g : Nat) (xs : List Int) (hi : As[i]? = some (wrA TY g xs)) (hl : xs.length ≤ 1000000000) (a : Addr) (n : Int) (ha : w.cell? a = some (.int .i64 n)) (h0 : -9223372036854775808 ≤ n) (h1 : n ≤ 9223372036854775807) :
    Calls Try.prog 92 #[.pointer (some ⟨g, 0, none⟩), .pointer (some a)] w fun e w' => e = .returned (.tuple #[]) ∧ St w0 (As.set i (wrA TY g (xs ++ vb (zig n)))) w' := by
  have H := Aside0.mk h
  clear h
  go_enter Try.func92, Try.ntmps92
  go_upto_region 0 with fail
  go_still_tail 6, (by kernel_rfl)
  change wpList _ _ _ _ _ w.drew
  have H1 := Aside0.mk (H.out.below (below_drew (Below.refl _ _)))
  generalize w.drew = w1 at H1 ⊢
  clear H ha
  go_wp2_with fail
  refine (H1.out.wnum i g xs n hi h0 h1 hl).mono ?_
  rintro e w2 ⟨rfl, h2⟩
  have H2 := Aside0.mk h2
  clear h2
  go_wp2_with fail
  go_end0
  exact ⟨rfl, H2.out⟩
def encN (pts : List (Addr × Int)) : List Int := pts.flatMap fun p => vb (zig p.2)
theorem encN_snoc (pts : List (Addr × Int)) (k : Nat) (hk : k < pts.length) : encN (pts.take (k + 1)) = encN (pts.take k) ++ vb (zig (pts[k]'hk).2) := by
  unfold encN
  rw [List.take_succ_eq_append_getElem hk, List.flatMap_append]
  simp
theorem encN_len : ∀ pts : List (Addr × Int), (encN pts).length ≤ 10 * pts.length
  | [] => Nat.le_refl _
  | p :: r => by
    have h1 := vb_len (zig p.2)
    have h2 := encN_len r
    unfold encN at *
    rw [List.flatMap_cons, List.length_append, List.length_cons]
    omega
set_option maxHeartbeats 4000000 in
theorem nums_w {w0 w : World} {As : List Asr} (i g gs c : Nat) (xs : List Int) (pts : List (Addr × Int)) (h : St w0 (As.set i (wrA TY g xs)) w) (hi : i < As.length) (hl : xs.length + 10 * pts.length ≤ 1000000000)
    (hrow : ∀ ys w', St w0 (As.set i (wrA TY g ys)) w' → ∀ k (hk : k < pts.length), w'.cell? ⟨gs, k, none⟩ = some (.pointer (some (pts[k]'hk).1)) ∧ w'.cell? (pts[k]'hk).1 = some (.int .i64 (pts[k]'hk).2))
    (hb : ∀ p ∈ pts, -9223372036854775808 ≤ p.2 ∧ p.2 ≤ 9223372036854775807) :
    Calls Try.prog 53 #[.iface 75 (.pointer (some ⟨g, 0, none⟩)), .slice (some ⟨gs, 0, none⟩) pts.length c] w fun e w' => e = .returned (.tuple #[]) ∧ St w0 (As.set i (wrA TY g (xs ++ encN pts))) w' := by
  have H := Aside0.mk h
  have HROW := Aside0.mk hrow
  have HBD := Aside0.mk hb
  have HI := Aside0.mk hi
  clear h hrow hb hi
  go_enter Try.func53, Try.ntmps53
  go_wp2_with fail
  go_loopw [8] (fun i_ wr => ∃ k : Nat, k ≤ pts.length ∧ i_ = .int .i64 k ∧ Aside0 (St w0 (As.set i (wrA TY g (xs ++ encN (pts.take k)))) wr)) (fun i_ _ => pts.length - (intOf i_).toNat)
  case atStart => exact ⟨0, Nat.zero_le _, rfl, ⟨by have := H.out; simpa [encN] using this⟩⟩
  case round =>
    clear H
    obtain ⟨k, hk, rfl, HS⟩ := hrel
    by_cases hlt : k < pts.length
    · obtain ⟨r1, r2⟩ := HROW.out _ wr HS.out k hlt
      have hbd := HBD.out _ (List.getElem_mem hlt)
      have HSN := Aside0.mk (encN_snoc pts k hlt)
      have HLN := Aside0.mk (show (xs ++ encN (pts.take k)).length ≤ 1000000000 by
        have := encN_len (pts.take k); rw [List.length_take] at this; rw [List.length_append]; omega)
      generalize hp : pts[k]'hlt = pt at *
      obtain ⟨pa, pn⟩ := pt
      clear hp
      dsimp only at r1 r2 hbd
      have HBN := Aside0.mk hbd
      clear hbd
      have R2 := Aside0.mk r2
      clear r2
      go_wp2_with fail
      refine (wr_num HS.out i g _ (by rw [List.getElem?_set_self HI.out]) HLN.out pa pn R2.out HBN.out.1 HBN.out.2).mono ?_
      rintro e w2 ⟨rfl, h2⟩
      rw [List.set_set, List.append_assoc, ← HSN.out] at h2
      have H2 := Aside0.mk h2
      clear h2
      go_wp2_with fail
      go_roundw
      case rel => exact ⟨k + 1, by omega, by first | rfl | (simp; done), H2⟩
      case measure => simp [intOf]; omega
    · obtain rfl : k = pts.length := by omega
      have HE := Aside0.mk (show St w0 (As.set i (wrA TY g (xs ++ encN pts))) wr by have := HS.out; rwa [List.take_length] at this)
      go_wp2_with fail
      go_end0
      exact ⟨rfl, HE.out⟩
theorem pick_cellE {w : World} {b : Nat} {cs : Array Value} {t : TypeId} {fr : Nat × Nat} (h : w.heap[b]? = some (.cells cs t fr)) (j : Nat) {v : Value} (hv : cs[j]? = some v) : w.cell? ⟨b, j, none⟩ = some v := by
  simp [World.cell?, h, hv]
def boxA (T : TypeId) (g : Nat) (cs : Array Value) : Asr where
  holds := fun w S => w.heap[g]? = some (.cells cs T (0, 0)) ∧ S g
  keep := fun {w w' S} h ⟨h1, h2⟩ => ⟨(h g h2).trans h1, h2⟩
theorem boxA_new (w : World) (T : TypeId) (cs : Array Value) : One (boxA T w.heap.size cs) w.heap.size (w.alloc (.cells cs T)) :=
  ⟨fun k => k = w.heap.size, fun k hk => ⟨by omega, by simp [hk]⟩, heap_alloc_new w _, rfl⟩
theorem setCell_same {w : World} {a : Addr} {v : Value} (h : w.cell? a = some v) : w.setCell a v = w := by
  unfold World.cell? at h
  split at h
  · rename_i c T fr hb
    split at h
    · cases h
    · rename_i hs
      have hc : c.setIfInBounds a.off v = c := by
        apply Array.ext_getElem?
        intro j
        rw [Array.getElem?_setIfInBounds]
        split
        · rename_i e
          subst e
          split
          · exact h.symm
          · rename_i hn
            rw [Array.getElem?_eq_none (by omega)]
        · rfl
      have e : (w.setCell a v).heap = w.heap := by
        unfold World.setCell
        apply Array.ext_getElem?
        intro j
        dsimp only
        rw [Array.getElem?_modify]
        split
        · rename_i e
          subst e
          rw [hb]
          simp [hc]
        · rfl
      have e2 : w.setCell a v = { w with heap := (w.setCell a v).heap } := rfl
      rw [e2, e]
  · cases h
set_option maxHeartbeats 4000000 in
theorem whole_w {w0 w : World} {As : List Asr} (i g gs c : Nat) (xs : List Int) (pts : List (Addr × Int)) (h : St w0 (As.set i (wrA TY g xs)) w) (hi : i < As.length) (hl : xs.length + 10 * pts.length ≤ 1000000000)
    (hrow : ∀ ys w', St w0 (As.set i (wrA TY g ys)) w' → ∀ k (hk : k < pts.length), w'.cell? ⟨gs, k, none⟩ = some (.pointer (some (pts[k]'hk).1)) ∧ w'.cell? (pts[k]'hk).1 = some (.int .i64 (pts[k]'hk).2) ∧ w'.frozen? (pts[k]'hk).1 = false)
    (hb : ∀ p ∈ pts, -9223372036854775808 ≤ p.2 ∧ p.2 ≤ 9223372036854775807) :
    Calls Try.prog 54 #[.iface 75 (.pointer (some ⟨g, 0, none⟩)), .slice (some ⟨gs, 0, none⟩) pts.length c] w fun e w' => e = .returned (.tuple #[]) ∧ St w0 (As.set i (wrA TY g (xs ++ encN pts))) w' := by
  have H := Aside0.mk h
  have HROW := Aside0.mk hrow
  have HBD := Aside0.mk hb
  have HI := Aside0.mk hi
  clear h hrow hb hi
  go_enter Try.func54, Try.ntmps54
  go_wp2_with fail
  go_loopw [9] (fun i_ wr => ∃ k : Nat, k ≤ pts.length ∧ i_ = .int .i64 k ∧ Aside0 (St w0 (As.set i (wrA TY g (xs ++ encN (pts.take k)))) wr)) (fun i_ _ => pts.length - (intOf i_).toNat)
  case atStart => exact ⟨0, Nat.zero_le _, rfl, ⟨by have := H.out; simpa [encN] using this⟩⟩
  case round =>
    clear H
    obtain ⟨k, hk, rfl, HS⟩ := hrel
    by_cases hlt : k < pts.length
    · obtain ⟨r1, r2, r3⟩ := HROW.out _ wr HS.out k hlt
      have hbd := HBD.out _ (List.getElem_mem hlt)
      have HSN := Aside0.mk (encN_snoc pts k hlt)
      have HLN := Aside0.mk (show (xs ++ encN (pts.take k)).length ≤ 1000000000 by
        have := encN_len (pts.take k); rw [List.length_take] at this; rw [List.length_append]; omega)
      have HRL := Aside0.mk (fun ys w' hS => (HROW.out ys w' hS k hlt).2)
      generalize hp : pts[k]'hlt = pt at *
      obtain ⟨pa, pn⟩ := pt
      clear hp
      dsimp only at r1 r2 r3 hbd HRL
      have HBN := Aside0.mk hbd
      have wn : IntKind.i64.wrap pn = pn := by rw [IntKind.wrap_i64] <;> omega
      clear hbd r3
      go_wp2_with fail
      have hS1 := HS.out.push (below_alloc (Below.refl _ _) (.cells #[.int .i64 pn] 2)) (boxA_new wr 2 #[.int .i64 pn])
      have hcx : (wr.alloc (.cells #[.int .i64 pn] 2)).cell? ⟨wr.heap.size, 0, none⟩ = some (.int .i64 pn) := pick_cellE (heap_alloc_new wr _) 0 rfl
      refine (wr_num hS1 i g _ (by rw [List.getElem?_append_left (by rw [List.length_set]; exact HI.out), List.getElem?_set_self HI.out]) HLN.out ⟨wr.heap.size, 0, none⟩ pn hcx HBN.out.1 HBN.out.2).mono ?_
      rintro e w2 ⟨rfl, h2⟩
      rw [List.set_append_left _ _ (by rw [List.length_set]; exact HI.out), List.set_set, List.append_assoc, ← HSN.out] at h2
      have H2 := Aside0.mk h2.left
      obtain ⟨S, _, ⟨hx1, _⟩, _⟩ := h2.at_ (As.set i (wrA TY g (xs ++ encN (pts.take (k + 1))))).length (by rw [List.getElem?_append_right (Nat.le_refl _), Nat.sub_self]; rfl)
      have cx := pick_cellE hx1 0 (v := .int .i64 pn) rfl
      obtain ⟨q2, q3⟩ := HRL.out _ w2 H2.out
      have HQ := Aside0.mk (setCell_same q2)
      clear h2 hx1 hS1 hcx r2
      go_wp2_with fail
      go_roundw
      case rel => exact ⟨k + 1, by omega, by first | rfl | (simp; done), ⟨by rw [HQ.out]; exact H2.out⟩⟩
      case measure => simp [intOf]; omega
    · obtain rfl : k = pts.length := by omega
      have HE := Aside0.mk (show St w0 (As.set i (wrA TY g (xs ++ encN pts))) wr by have := HS.out; rwa [List.take_length] at this)
      go_wp2_with fail
      go_end0
      exact ⟨rfl, HE.out⟩
def ptrs (pts : List (Addr × Int)) : Array Value := (pts.map fun p => Value.pointer (some p.1)).toArray
theorem ptrs_at {w : World} {b : Nat} {t : TypeId} {fr : Nat × Nat} {pts : List (Addr × Int)} (h : w.heap[b]? = some (.cells (ptrs pts) t fr)) (k : Nat) (hk : k < pts.length) : w.cell? ⟨b, k, none⟩ = some (.pointer (some (pts[k]'hk).1)) :=
  pick_cellE h k (by unfold ptrs; rw [List.getElem?_toArray, List.getElem?_map, List.getElem?_eq_getElem hk]; rfl)
theorem box_last {w0 w : World} {As : List Asr} {T : TypeId} {g : Nat} {cs : Array Value} (h : St w0 (As ++ [boxA T g cs]) w) : w.heap[g]? = some (.cells cs T (0, 0)) := by
  obtain ⟨S, _, ⟨h1, _⟩, _⟩ := h.at_ As.length (by rw [List.getElem?_append_right (Nat.le_refl _), Nat.sub_self]; rfl)
  exact h1
theorem nums_lit {w0 w : World} {As : List Asr} (i g gs n : Nat) (xs : List Int) (pts : List (Addr × Int)) (h : St w0 (As.set i (wrA TY g xs)) w) (hi : i < As.length) (hl : xs.length + 10 * pts.length ≤ 1000000000)
    (hst : ∀ ys w', St w0 (As.set i (wrA TY g ys)) w' → ∀ k (hk : k < pts.length), w'.cell? (pts[k]'hk).1 = some (.int .i64 (pts[k]'hk).2))
    (hb : ∀ p ∈ pts, -9223372036854775808 ≤ p.2 ∧ p.2 ≤ 9223372036854775807) (hgs : gs = w.heap.size) (hn : n = pts.length) (T : TypeId) :
    Calls Try.prog 53 #[.iface 75 (.pointer (some ⟨g, 0, none⟩)), .slice (some ⟨gs, 0, none⟩) n n] (w.alloc (.cells (ptrs pts) T)) fun e w' => e = .returned (.tuple #[]) ∧ St w0 (As.set i (wrA TY g (xs ++ encN pts))) w' := by
  subst hgs hn
  have h1 := h.push (below_alloc (Below.refl _ _) (.cells (ptrs pts) T)) (boxA_new w T (ptrs pts))
  have e : ∀ ys, As.set i (wrA TY g ys) ++ [boxA T w.heap.size (ptrs pts)] = (As ++ [boxA T w.heap.size (ptrs pts)]).set i (wrA TY g ys) := fun ys => by rw [List.set_append_left _ _ hi]
  rw [e] at h1
  refine (nums_w i g w.heap.size pts.length xs pts h1 (by rw [List.length_append]; omega) hl (fun ys w' hS k hk => ?_) hb).mono ?_
  · rw [← e] at hS
    exact ⟨ptrs_at (box_last hS) k hk, hst ys w' hS.left k hk⟩
  · rintro r w' ⟨hr, hS⟩
    rw [← e] at hS
    exact ⟨hr, hS.left⟩
theorem whole_lit {w0 w : World} {As : List Asr} (i g gs n : Nat) (xs : List Int) (pts : List (Addr × Int)) (h : St w0 (As.set i (wrA TY g xs)) w) (hi : i < As.length) (hl : xs.length + 10 * pts.length ≤ 1000000000)
    (hst : ∀ ys w', St w0 (As.set i (wrA TY g ys)) w' → ∀ k (hk : k < pts.length), w'.cell? (pts[k]'hk).1 = some (.int .i64 (pts[k]'hk).2) ∧ w'.frozen? (pts[k]'hk).1 = false)
    (hb : ∀ p ∈ pts, -9223372036854775808 ≤ p.2 ∧ p.2 ≤ 9223372036854775807) (hgs : gs = w.heap.size) (hn : n = pts.length) (T : TypeId) :
    Calls Try.prog 54 #[.iface 75 (.pointer (some ⟨g, 0, none⟩)), .slice (some ⟨gs, 0, none⟩) n n] (w.alloc (.cells (ptrs pts) T)) fun e w' => e = .returned (.tuple #[]) ∧ St w0 (As.set i (wrA TY g (xs ++ encN pts))) w' := by
  subst hgs hn
  have h1 := h.push (below_alloc (Below.refl _ _) (.cells (ptrs pts) T)) (boxA_new w T (ptrs pts))
  have e : ∀ ys, As.set i (wrA TY g ys) ++ [boxA T w.heap.size (ptrs pts)] = (As ++ [boxA T w.heap.size (ptrs pts)]).set i (wrA TY g ys) := fun ys => by rw [List.set_append_left _ _ hi]
  rw [e] at h1
  refine (whole_w i g w.heap.size pts.length xs pts h1 (by rw [List.length_append]; omega) hl (fun ys w' hS k hk => ?_) hb).mono ?_
  · rw [← e] at hS
    obtain ⟨q1, q2⟩ := hst ys w' hS.left k hk
    exact ⟨ptrs_at (box_last hS) k hk, q1, q2⟩
  · rintro r w' ⟨hr, hS⟩
    rw [← e] at hS
    exact ⟨hr, hS.left⟩
theorem wr_many {w0 w : World} {As : List Asr} (h : St w0 As w) (i g : Nat) (xs : List Int) (hi : As[i]? = some (wrA TY g xs)) (hl : xs.length ≤ 1000000000) (n m : Int) (h0 : -9223372036854775808 ≤ n) (h1 : n ≤ 9223372036854775807) :
    Calls Try.prog 91 #[.pointer (some ⟨g, 0, none⟩), .int .i64 n, .int .i64 m] w fun e w' => e = .returned (.int .i64 n) ∧ St w0 (As.set i (wrA TY g (xs ++ vb (zig n)))) w' := by
  have H := Aside0.mk h
  clear h
  go_enter Try.func91, Try.ntmps91
  go_wp2_with fail
  refine (H.out.wnum i g xs n hi h0 h1 hl).mono ?_
  rintro e w2 ⟨rfl, h2⟩
  have H2 := Aside0.mk h2
  clear h2
  go_wp2_with fail
  go_ret
  exact ⟨rfl, H2.out⟩
theorem encN_one (a : Addr) (n : Int) : encN [(a, n)] = vb (zig n) := by simp [encN]
set_option maxHeartbeats 4000000 in
theorem band59_w {w0 w : World} {As : List Asr} (i g gc : Nat) (ad : Addr) (xs : List Int) (a d : Int) (h : St w0 (As.set i (wrA TY g xs)) w) (hi : i < As.length) (hl : xs.length + 20 ≤ 1000000000)
    (hst : ∀ ys w', St w0 (As.set i (wrA TY g ys)) w' → w'.cell? ⟨gc, 0, none⟩ = some (.iface 75 (.pointer (some ⟨g, 0, none⟩))) ∧ w'.cell? ad = some (.int .i64 a) ∧ w'.cell? ⟨ad.block, ad.off + 1, none⟩ = some (.int .i64 d) ∧ w'.frozen? ⟨ad.block, ad.off + 1, none⟩ = false)
    (ha : -9223372036854775808 ≤ a ∧ a ≤ 9223372036854775807) (hd : -9223372036854775808 ≤ d ∧ d ≤ 9223372036854775807) :
    Calls Try.prog 59 #[.pointer (some ad), .pointer (some ⟨gc, 0, none⟩)] w fun e w' => e = .returned (.tuple #[]) ∧ St w0 (As.set i (wrA TY g ((xs ++ vb (zig a)) ++ vb (zig d)))) w' := by
  have hu46 := Try.underlying46
  have hu48 := Try.underlying48
  have HST := Aside0.mk hst
  have H := Aside0.mk h
  obtain ⟨c1, _⟩ := hst xs w h
  clear h hst
  go_enter Try.func59, Try.ntmps59
  go_upto_region 0 with fail
  have H1a := Aside0.mk (H.out.below (below_drew (Below.refl _ _)))
  have cca := (HST.out _ _ H1a.out).1
  refine wp_region_noPanic ?_
  refine wp_region_held_drew (S := fun w' => w'.cell? ⟨gc, 0, none⟩ = some (.iface 75 (.pointer (some ⟨g, 0, none⟩)))) (by kernel_rfl) cca (fun hHeld => ?_)
  generalize w.drew = w1a at *
  refine wpAnyH_take (i := 0) (oi := ({ dst := some 3, op := Op.load 92 (Operand.tmp 1), type := 92, pos := "event.go:172", after := #[], guard := none } : Oper)) (v := ?_) rfl (by kernel_rfl) (by kernel_rfl) (by kernel_rfl) (fun _ _ _ h => h) (Or.inl ⟨by rfl, ?hyTa0⟩) (by assumption) ?rsTa0
  case hyTa0 => (intro w8' hSw; (try dsimp only at hSw); go_simp; (first | done | with_reducible rfl))
  (try simp only [Act.put, List.setIfInBounds_toArray, List.set_cons_zero, List.set_cons_succ])
  refine wpAnyH_take (i := 1) (oi := ({ dst := some 4, op := Op.move (Operand.tmp 0), type := 114, pos := "event.go:172", after := #[], guard := none } : Oper)) (v := ?_) rfl (by kernel_rfl) (by kernel_rfl) (by kernel_rfl) (fun _ _ _ h => h) (Or.inl ⟨by rfl, ?hyTa1⟩) (by assumption) ?rsTa1
  case hyTa1 => (intro w8' hSw; (try dsimp only at hSw); go_simp; (first | done | with_reducible rfl))
  (try simp only [Act.put, List.setIfInBounds_toArray, List.set_cons_zero, List.set_cons_succ])
  refine wpAnyH_take (i := 2) (oi := ({ dst := some 5, op := Op.nilCheck (Operand.tmp 4), type := 0, pos := "event.go:172", after := #[{ on := 1, ground := Ground.data }], guard := none } : Oper)) (v := ?_) rfl (by kernel_rfl) (by kernel_rfl) (by kernel_rfl) (fun _ _ _ h => h) (Or.inl ⟨by rfl, ?hyTa2⟩) (by assumption) ?rsTa2
  case hyTa2 => (intro w8' hSw; (try dsimp only at hSw); go_simp; (first | done | with_reducible rfl))
  (try simp only [Act.put, List.setIfInBounds_toArray, List.set_cons_zero, List.set_cons_succ])
  refine wpAnyH_take (i := 3) (oi := ({ dst := some 6, op := Op.fieldAddr 46 (Operand.tmp 5) 0, type := 0, pos := "event.go:172", after := #[{ on := 2, ground := Ground.data }], guard := none } : Oper)) (v := ?_) rfl (by kernel_rfl) (by kernel_rfl) (by kernel_rfl) (fun _ _ _ h => h) (Or.inl ⟨by rfl, ?hyTa3⟩) (by assumption) ?rsTa3
  case hyTa3 => (intro w8' hSw; (try dsimp only at hSw); go_simp; (first | done | with_reducible rfl))
  (try simp only [Act.put, List.setIfInBounds_toArray, List.set_cons_zero, List.set_cons_succ])
  refine wpAnyH_ready (rs := [4]) (by kernel_rfl) (by simp) ?_
  refine AllReadyH.cons (o := ({ dst := some 7, op := Op.buildSlice 109 1 #[(0, Operand.tmp 6)], type := 109, pos := "event.go:172", after := #[{ on := 3, ground := Ground.data }], guard := none } : Oper)) rfl (fun K hK => ?_) AllReadyH.nil
  rw [if_pos (by rfl)]
  go_simp
  refine hK.out _ _ ((Below.cell (below_alloc (Below.refl w1a.heap.size w1a) _) (World.block_lt_of_cell? w1a _ cca)).trans cca) (fun hHeld => ?_)
  clear hK
  (try simp only [Act.put, List.setIfInBounds_toArray, List.set_cons_zero, List.set_cons_succ])
  refine wpAnyH_ready (rs := [5]) (by kernel_rfl) (by simp) ?_
  refine AllReadyH.cons (o := ({ dst := some 8, op := Op.call { callee := Callee.value (Operand.func 53), args := #[Operand.tmp 3, Operand.tmp 7], argTypes := #[92, 109] }, type := 0, pos := "event.go:172", after := #[{ on := 0, ground := Ground.data }, { on := 4, ground := Ground.data }], guard := none } : Oper)) rfl (fun K hK => ?_) AllReadyH.nil
  rw [if_pos (by rfl)]
  go_simp
  refine (nums_lit i g w1a.heap.size 1 xs [(ad, a)] H1a.out hi (by simp; omega) (fun ys w' hS k hk => ?s1) (by simpa using ha) rfl rfl 94).mono ?_
  case s1 => obtain rfl : k = 0 := by simpa using hk
             exact (HST.out ys w' hS).2.1
  rintro e w2 ⟨rfl, h2⟩
  rw [encN_one] at h2
  have H2a := Aside0.mk h2
  clear h2
  go_simp
  refine hK.out _ _ (HST.out _ _ H2a.out).1 (fun hHeld => ?_)
  clear hK
  (try simp only [Act.put, List.setIfInBounds_toArray, List.set_cons_zero, List.set_cons_succ])
  refine wpAnyH_done (by kernel_rfl) ?_ _
  refine NoPanic.normal ?_
  clear H
  go_upto_region 1 with fail
  have H1b := Aside0.mk (H2a.out.below (below_drew (Below.refl _ _)))
  have ccb := (HST.out _ _ H1b.out).1
  refine wp_region_noPanic ?_
  refine wp_region_held_drew (S := fun w' => w'.cell? ⟨gc, 0, none⟩ = some (.iface 75 (.pointer (some ⟨g, 0, none⟩)))) (by kernel_rfl) ccb (fun hHeld => ?_)
  generalize w2.drew = w1b at *
  refine wpAnyH_take (i := 0) (oi := ({ dst := some 9, op := Op.load 92 (Operand.tmp 1), type := 92, pos := "event.go:173", after := #[], guard := none } : Oper)) (v := ?_) rfl (by kernel_rfl) (by kernel_rfl) (by kernel_rfl) (fun _ _ _ h => h) (Or.inl ⟨by rfl, ?hyTb0⟩) (by assumption) ?rsTb0
  case hyTb0 => (intro w8' hSw; (try dsimp only at hSw); go_simp; (first | done | with_reducible rfl))
  (try simp only [Act.put, List.setIfInBounds_toArray, List.set_cons_zero, List.set_cons_succ])
  refine wpAnyH_take (i := 1) (oi := ({ dst := some 10, op := Op.move (Operand.tmp 0), type := 114, pos := "event.go:173", after := #[], guard := none } : Oper)) (v := ?_) rfl (by kernel_rfl) (by kernel_rfl) (by kernel_rfl) (fun _ _ _ h => h) (Or.inl ⟨by rfl, ?hyTb1⟩) (by assumption) ?rsTb1
  case hyTb1 => (intro w8' hSw; (try dsimp only at hSw); go_simp; (first | done | with_reducible rfl))
  (try simp only [Act.put, List.setIfInBounds_toArray, List.set_cons_zero, List.set_cons_succ])
  refine wpAnyH_take (i := 2) (oi := ({ dst := some 11, op := Op.nilCheck (Operand.tmp 10), type := 0, pos := "event.go:173", after := #[{ on := 1, ground := Ground.data }], guard := none } : Oper)) (v := ?_) rfl (by kernel_rfl) (by kernel_rfl) (by kernel_rfl) (fun _ _ _ h => h) (Or.inl ⟨by rfl, ?hyTb2⟩) (by assumption) ?rsTb2
  case hyTb2 => (intro w8' hSw; (try dsimp only at hSw); go_simp; (first | done | with_reducible rfl))
  (try simp only [Act.put, List.setIfInBounds_toArray, List.set_cons_zero, List.set_cons_succ])
  refine wpAnyH_take (i := 3) (oi := ({ dst := some 12, op := Op.fieldAddr 46 (Operand.tmp 11) 1, type := 0, pos := "event.go:173", after := #[{ on := 2, ground := Ground.data }], guard := none } : Oper)) (v := ?_) rfl (by kernel_rfl) (by kernel_rfl) (by kernel_rfl) (fun _ _ _ h => h) (Or.inl ⟨by rfl, ?hyTb3⟩) (by assumption) ?rsTb3
  case hyTb3 => (intro w8' hSw; (try dsimp only at hSw); go_simp; (first | done | with_reducible rfl))
  (try simp only [Act.put, List.setIfInBounds_toArray, List.set_cons_zero, List.set_cons_succ])
  refine wpAnyH_ready (rs := [4]) (by kernel_rfl) (by simp) ?_
  refine AllReadyH.cons (o := ({ dst := some 13, op := Op.buildSlice 111 1 #[(0, Operand.tmp 12)], type := 111, pos := "event.go:173", after := #[{ on := 3, ground := Ground.data }], guard := none } : Oper)) rfl (fun K hK => ?_) AllReadyH.nil
  rw [if_pos (by rfl)]
  go_simp
  refine hK.out _ _ ((Below.cell (below_alloc (Below.refl w1b.heap.size w1b) _) (World.block_lt_of_cell? w1b _ ccb)).trans ccb) (fun hHeld => ?_)
  clear hK
  (try simp only [Act.put, List.setIfInBounds_toArray, List.set_cons_zero, List.set_cons_succ])
  refine wpAnyH_ready (rs := [5]) (by kernel_rfl) (by simp) ?_
  refine AllReadyH.cons (o := ({ dst := some 14, op := Op.call { callee := Callee.value (Operand.func 54), args := #[Operand.tmp 9, Operand.tmp 13], argTypes := #[92, 111] }, type := 0, pos := "event.go:173", after := #[{ on := 0, ground := Ground.data }, { on := 4, ground := Ground.data }], guard := none } : Oper)) rfl (fun K hK => ?_) AllReadyH.nil
  rw [if_pos (by rfl)]
  go_simp
  have hv := vb_len (zig a)
  refine (whole_lit i g w1b.heap.size 1 (xs ++ vb (zig a)) [(⟨ad.block, ad.off + 1, none⟩, d)] H1b.out hi (by rw [List.length_append]; simp; omega) (fun ys w' hS k hk => ?s2) (by simpa using hd) rfl rfl 96).mono ?_
  case s2 => obtain rfl : k = 0 := by simpa using hk
             exact (HST.out ys w' hS).2.2
  rintro e w4 ⟨rfl, h4⟩
  rw [encN_one] at h4
  have H2b := Aside0.mk h4
  clear h4
  go_simp
  refine hK.out _ _ (HST.out _ _ H2b.out).1 (fun hHeld => ?_)
  clear hK
  (try simp only [Act.put, List.setIfInBounds_toArray, List.set_cons_zero, List.set_cons_succ])
  refine wpAnyH_done (by kernel_rfl) ?_ _
  refine NoPanic.normal ?_
  go_wp2_with fail
  go_end0
  exact ⟨rfl, H2b.out⟩
set_option maxHeartbeats 4000000 in
theorem band61_w {w0 w : World} {As : List Asr} (i g gc : Nat) (ad : Addr) (xs : List Int) (a d : Int) (h : St w0 (As.set i (wrA TY g xs)) w) (hi : i < As.length) (hl : xs.length + 20 ≤ 1000000000)
    (hst : ∀ ys w', St w0 (As.set i (wrA TY g ys)) w' → w'.cell? ⟨gc, 0, none⟩ = some (.iface 75 (.pointer (some ⟨g, 0, none⟩))) ∧ w'.cell? ad = some (.int .i64 a) ∧ w'.cell? ⟨ad.block, ad.off + 1, none⟩ = some (.int .i64 d) ∧ w'.frozen? ⟨ad.block, ad.off + 1, none⟩ = false)
    (ha : -9223372036854775808 ≤ a ∧ a ≤ 9223372036854775807) (hd : -9223372036854775808 ≤ d ∧ d ≤ 9223372036854775807) :
    Calls Try.prog 61 #[.pointer (some ad), .pointer (some ⟨gc, 0, none⟩)] w fun e w' => e = .returned (.tuple #[]) ∧ St w0 (As.set i (wrA TY g ((xs ++ vb (zig a)) ++ vb (zig d)))) w' := by
  have hu46 := Try.underlying46
  have hu48 := Try.underlying48
  have HST := Aside0.mk hst
  have H := Aside0.mk h
  obtain ⟨c1, _⟩ := hst xs w h
  clear h hst
  go_enter Try.func61, Try.ntmps61
  go_upto_region 0 with fail
  have H1a := Aside0.mk (H.out.below (below_drew (Below.refl _ _)))
  have cca := (HST.out _ _ H1a.out).1
  refine wp_region_noPanic ?_
  refine wp_region_held_drew (S := fun w' => w'.cell? ⟨gc, 0, none⟩ = some (.iface 75 (.pointer (some ⟨g, 0, none⟩)))) (by kernel_rfl) cca (fun hHeld => ?_)
  generalize w.drew = w1a at *
  refine wpAnyH_take (i := 0) (oi := ({ dst := some 3, op := Op.load 92 (Operand.tmp 1), type := 92, pos := "event.go:177", after := #[], guard := none } : Oper)) (v := ?_) rfl (by kernel_rfl) (by kernel_rfl) (by kernel_rfl) (fun _ _ _ h => h) (Or.inl ⟨by rfl, ?hyTa0⟩) (by assumption) ?rsTa0
  case hyTa0 => (intro w8' hSw; (try dsimp only at hSw); go_simp; (first | done | with_reducible rfl))
  (try simp only [Act.put, List.setIfInBounds_toArray, List.set_cons_zero, List.set_cons_succ])
  refine wpAnyH_take (i := 1) (oi := ({ dst := some 4, op := Op.move (Operand.tmp 0), type := 118, pos := "event.go:177", after := #[], guard := none } : Oper)) (v := ?_) rfl (by kernel_rfl) (by kernel_rfl) (by kernel_rfl) (fun _ _ _ h => h) (Or.inl ⟨by rfl, ?hyTa1⟩) (by assumption) ?rsTa1
  case hyTa1 => (intro w8' hSw; (try dsimp only at hSw); go_simp; (first | done | with_reducible rfl))
  (try simp only [Act.put, List.setIfInBounds_toArray, List.set_cons_zero, List.set_cons_succ])
  refine wpAnyH_take (i := 2) (oi := ({ dst := some 5, op := Op.nilCheck (Operand.tmp 4), type := 0, pos := "event.go:177", after := #[{ on := 1, ground := Ground.data }], guard := none } : Oper)) (v := ?_) rfl (by kernel_rfl) (by kernel_rfl) (by kernel_rfl) (fun _ _ _ h => h) (Or.inl ⟨by rfl, ?hyTa2⟩) (by assumption) ?rsTa2
  case hyTa2 => (intro w8' hSw; (try dsimp only at hSw); go_simp; (first | done | with_reducible rfl))
  (try simp only [Act.put, List.setIfInBounds_toArray, List.set_cons_zero, List.set_cons_succ])
  refine wpAnyH_take (i := 3) (oi := ({ dst := some 6, op := Op.fieldAddr 48 (Operand.tmp 5) 0, type := 0, pos := "event.go:177", after := #[{ on := 2, ground := Ground.data }], guard := none } : Oper)) (v := ?_) rfl (by kernel_rfl) (by kernel_rfl) (by kernel_rfl) (fun _ _ _ h => h) (Or.inl ⟨by rfl, ?hyTa3⟩) (by assumption) ?rsTa3
  case hyTa3 => (intro w8' hSw; (try dsimp only at hSw); go_simp; (first | done | with_reducible rfl))
  (try simp only [Act.put, List.setIfInBounds_toArray, List.set_cons_zero, List.set_cons_succ])
  refine wpAnyH_ready (rs := [4]) (by kernel_rfl) (by simp) ?_
  refine AllReadyH.cons (o := ({ dst := some 7, op := Op.buildSlice 109 1 #[(0, Operand.tmp 6)], type := 109, pos := "event.go:177", after := #[{ on := 3, ground := Ground.data }], guard := none } : Oper)) rfl (fun K hK => ?_) AllReadyH.nil
  rw [if_pos (by rfl)]
  go_simp
  refine hK.out _ _ ((Below.cell (below_alloc (Below.refl w1a.heap.size w1a) _) (World.block_lt_of_cell? w1a _ cca)).trans cca) (fun hHeld => ?_)
  clear hK
  (try simp only [Act.put, List.setIfInBounds_toArray, List.set_cons_zero, List.set_cons_succ])
  refine wpAnyH_ready (rs := [5]) (by kernel_rfl) (by simp) ?_
  refine AllReadyH.cons (o := ({ dst := some 8, op := Op.call { callee := Callee.value (Operand.func 53), args := #[Operand.tmp 3, Operand.tmp 7], argTypes := #[92, 109] }, type := 0, pos := "event.go:177", after := #[{ on := 0, ground := Ground.data }, { on := 4, ground := Ground.data }], guard := none } : Oper)) rfl (fun K hK => ?_) AllReadyH.nil
  rw [if_pos (by rfl)]
  go_simp
  refine (nums_lit i g w1a.heap.size 1 xs [(ad, a)] H1a.out hi (by simp; omega) (fun ys w' hS k hk => ?s1) (by simpa using ha) rfl rfl 94).mono ?_
  case s1 => obtain rfl : k = 0 := by simpa using hk
             exact (HST.out ys w' hS).2.1
  rintro e w2 ⟨rfl, h2⟩
  rw [encN_one] at h2
  have H2a := Aside0.mk h2
  clear h2
  go_simp
  refine hK.out _ _ (HST.out _ _ H2a.out).1 (fun hHeld => ?_)
  clear hK
  (try simp only [Act.put, List.setIfInBounds_toArray, List.set_cons_zero, List.set_cons_succ])
  refine wpAnyH_done (by kernel_rfl) ?_ _
  refine NoPanic.normal ?_
  clear H
  go_upto_region 1 with fail
  have H1b := Aside0.mk (H2a.out.below (below_drew (Below.refl _ _)))
  have ccb := (HST.out _ _ H1b.out).1
  refine wp_region_noPanic ?_
  refine wp_region_held_drew (S := fun w' => w'.cell? ⟨gc, 0, none⟩ = some (.iface 75 (.pointer (some ⟨g, 0, none⟩)))) (by kernel_rfl) ccb (fun hHeld => ?_)
  generalize w2.drew = w1b at *
  refine wpAnyH_take (i := 0) (oi := ({ dst := some 9, op := Op.load 92 (Operand.tmp 1), type := 92, pos := "event.go:178", after := #[], guard := none } : Oper)) (v := ?_) rfl (by kernel_rfl) (by kernel_rfl) (by kernel_rfl) (fun _ _ _ h => h) (Or.inl ⟨by rfl, ?hyTb0⟩) (by assumption) ?rsTb0
  case hyTb0 => (intro w8' hSw; (try dsimp only at hSw); go_simp; (first | done | with_reducible rfl))
  (try simp only [Act.put, List.setIfInBounds_toArray, List.set_cons_zero, List.set_cons_succ])
  refine wpAnyH_take (i := 1) (oi := ({ dst := some 10, op := Op.move (Operand.tmp 0), type := 118, pos := "event.go:178", after := #[], guard := none } : Oper)) (v := ?_) rfl (by kernel_rfl) (by kernel_rfl) (by kernel_rfl) (fun _ _ _ h => h) (Or.inl ⟨by rfl, ?hyTb1⟩) (by assumption) ?rsTb1
  case hyTb1 => (intro w8' hSw; (try dsimp only at hSw); go_simp; (first | done | with_reducible rfl))
  (try simp only [Act.put, List.setIfInBounds_toArray, List.set_cons_zero, List.set_cons_succ])
  refine wpAnyH_take (i := 2) (oi := ({ dst := some 11, op := Op.nilCheck (Operand.tmp 10), type := 0, pos := "event.go:178", after := #[{ on := 1, ground := Ground.data }], guard := none } : Oper)) (v := ?_) rfl (by kernel_rfl) (by kernel_rfl) (by kernel_rfl) (fun _ _ _ h => h) (Or.inl ⟨by rfl, ?hyTb2⟩) (by assumption) ?rsTb2
  case hyTb2 => (intro w8' hSw; (try dsimp only at hSw); go_simp; (first | done | with_reducible rfl))
  (try simp only [Act.put, List.setIfInBounds_toArray, List.set_cons_zero, List.set_cons_succ])
  refine wpAnyH_take (i := 3) (oi := ({ dst := some 12, op := Op.fieldAddr 48 (Operand.tmp 11) 1, type := 0, pos := "event.go:178", after := #[{ on := 2, ground := Ground.data }], guard := none } : Oper)) (v := ?_) rfl (by kernel_rfl) (by kernel_rfl) (by kernel_rfl) (fun _ _ _ h => h) (Or.inl ⟨by rfl, ?hyTb3⟩) (by assumption) ?rsTb3
  case hyTb3 => (intro w8' hSw; (try dsimp only at hSw); go_simp; (first | done | with_reducible rfl))
  (try simp only [Act.put, List.setIfInBounds_toArray, List.set_cons_zero, List.set_cons_succ])
  refine wpAnyH_ready (rs := [4]) (by kernel_rfl) (by simp) ?_
  refine AllReadyH.cons (o := ({ dst := some 13, op := Op.buildSlice 111 1 #[(0, Operand.tmp 12)], type := 111, pos := "event.go:178", after := #[{ on := 3, ground := Ground.data }], guard := none } : Oper)) rfl (fun K hK => ?_) AllReadyH.nil
  rw [if_pos (by rfl)]
  go_simp
  refine hK.out _ _ ((Below.cell (below_alloc (Below.refl w1b.heap.size w1b) _) (World.block_lt_of_cell? w1b _ ccb)).trans ccb) (fun hHeld => ?_)
  clear hK
  (try simp only [Act.put, List.setIfInBounds_toArray, List.set_cons_zero, List.set_cons_succ])
  refine wpAnyH_ready (rs := [5]) (by kernel_rfl) (by simp) ?_
  refine AllReadyH.cons (o := ({ dst := some 14, op := Op.call { callee := Callee.value (Operand.func 54), args := #[Operand.tmp 9, Operand.tmp 13], argTypes := #[92, 111] }, type := 0, pos := "event.go:178", after := #[{ on := 0, ground := Ground.data }, { on := 4, ground := Ground.data }], guard := none } : Oper)) rfl (fun K hK => ?_) AllReadyH.nil
  rw [if_pos (by rfl)]
  go_simp
  have hv := vb_len (zig a)
  refine (whole_lit i g w1b.heap.size 1 (xs ++ vb (zig a)) [(⟨ad.block, ad.off + 1, none⟩, d)] H1b.out hi (by rw [List.length_append]; simp; omega) (fun ys w' hS k hk => ?s2) (by simpa using hd) rfl rfl 96).mono ?_
  case s2 => obtain rfl : k = 0 := by simpa using hk
             exact (HST.out ys w' hS).2.2
  rintro e w4 ⟨rfl, h4⟩
  rw [encN_one] at h4
  have H2b := Aside0.mk h4
  clear h4
  go_simp
  refine hK.out _ _ (HST.out _ _ H2b.out).1 (fun hHeld => ?_)
  clear hK
  (try simp only [Act.put, List.setIfInBounds_toArray, List.set_cons_zero, List.set_cons_succ])
  refine wpAnyH_done (by kernel_rfl) ?_ _
  refine NoPanic.normal ?_
  go_wp2_with fail
  go_end0
  exact ⟨rfl, H2b.out⟩
end Go.Proofs.Ytldohapdhljoaaa.Wire
namespace Go.Proofs.Ytldohapdhljoaaa.Wire
open Go.RowKit Go.Proofs.YtldohapdhljoaaaW.PrintWords Go.Proofs.Ytldohapdhljoaaa.Obj
set_option linter.unusedVariables false
set_option maxRecDepth 100000
variable {TY : TypeId}
theorem na_w (g : Nat) (W : World) : (nilAhead (Try.prog.types.size + Made.depth) 75 (.pointer (some ⟨g, 0, none⟩)) "governor/event.many").run Try.prog W = .ok (some false) W := by kernel_rfl
theorem nc_many {ρ : Operand → Value} {o : Oper} {x : Operand} (g : Nat) (W : World) (ho : o.op = .nilCheck x) (hx : ρ x = .func (.method "governor/event.many") #[.iface 75 (.pointer (some ⟨g, 0, none⟩))] #[]) :
    (execOp ρ o).run Try.prog W = .ok (.value (.func (.method "governor/event.many") #[.iface 75 (.pointer (some ⟨g, 0, none⟩))] #[])) W := by
  unfold execOp
  simp only [ho, hx]
  have h := na_w g W
  have hp : (program).run Try.prog W = .ok Try.prog W := rfl
  simp only [List.getElem?_toArray, List.getElem?_cons_zero]
  simp only [Sem.run_bind, hp, Result.andThen_ok, h]
  rfl
def encL (l : List (Int × Int)) : List Int := l.flatMap fun b => vb (zig b.1) ++ vb (zig b.2)
theorem encL_snoc (l : List (Int × Int)) (k : Nat) (hk : k < l.length) : encL (l.take (k + 1)) = encL (l.take k) ++ (vb (zig (l[k]'hk).1) ++ vb (zig (l[k]'hk).2)) := by
  unfold encL
  rw [List.take_succ_eq_append_getElem hk, List.flatMap_append]
  simp
theorem encL_len : ∀ l : List (Int × Int), (encL l).length ≤ 20 * l.length
  | [] => Nat.le_refl _
  | p :: r => by
    have h1 := vb_len (zig p.1)
    have h2 := vb_len (zig p.2)
    have h3 := encL_len r
    unfold encL at *
    rw [List.flatMap_cons, List.length_append, List.length_append, List.length_cons]
    omega
set_option maxHeartbeats 4000000 in
theorem list58_w {w0 w : World} {As : List Asr} (i g gc : Nat) (la ad : Addr) (A : Option Addr) (c : Nat) (most : Int) (xs : List Int) (l : List (Int × Int)) (h : St w0 (As.set i (wrA TY g xs)) w) (hi : i < As.length) (hl : xs.length + 20 * l.length + 30 ≤ 1000000000)
    (hst : ∀ ys w', St w0 (As.set i (wrA TY g ys)) w' → w'.cell? la = some (.slice A l.length c) ∧ w'.cell? ⟨gc, 0, none⟩ = some (.iface 75 (.pointer (some ⟨g, 0, none⟩))) ∧ ∀ k (hk : k < l.length), w'.cell? (ad.add (k * 2)) = some (.int .i64 (l[k]'hk).1) ∧ w'.cell? ⟨(ad.add (k * 2)).block, (ad.add (k * 2)).off + 1, none⟩ = some (.int .i64 (l[k]'hk).2) ∧ w'.frozen? ⟨(ad.add (k * 2)).block, (ad.add (k * 2)).off + 1, none⟩ = false)
    (hA : 0 < l.length → A = some ad) (hb : ∀ p ∈ l, (-9223372036854775808 ≤ p.1 ∧ p.1 ≤ 9223372036854775807) ∧ (-9223372036854775808 ≤ p.2 ∧ p.2 ≤ 9223372036854775807)) :
    Calls Try.prog 58 #[.iface 75 (.pointer (some ⟨g, 0, none⟩)), .pointer (some la), .int .i64 most, .func (.func 59) #[] #[.pointer (some ⟨gc, 0, none⟩)]] w fun e w' => e = .returned (.tuple #[]) ∧ St w0 (As.set i (wrA TY g ((xs ++ vb (zig l.length)) ++ encL l))) w' := by
  have HST := Aside0.mk hst
  have H := Aside0.mk h
  have HBD := Aside0.mk hb
  have HAA := Aside0.mk hA
  have hlen : l.length ≤ 50000000 := by omega
  clear h hst hb hA
  go_enter Try.func58, Try.ntmps58
  go_upto_region 0 with fail
  have H1 := Aside0.mk (H.out.below (below_drew (Below.refl _ _)))
  have cld := (HST.out _ _ H1.out).1
  refine wp_region_noPanic ?_
  refine wp_region_held_drew (S := fun w' => w'.cell? la = some (.slice A l.length c)) (by kernel_rfl) cld (fun hHeld => ?_)
  generalize w.drew = w1 at *
  refine wpAnyH_take (i := 0) (oi := ({ dst := some 10, op := Op.move (Operand.tmp 0), type := 92, pos := "event.go:159", after := #[], guard := none } : Oper)) (v := ?_) rfl (by kernel_rfl) (by kernel_rfl) (by kernel_rfl) (fun _ _ _ h => h) (Or.inl ⟨by rfl, ?hyL0⟩) (by assumption) ?rsL0
  case hyL0 => (intro w8' hSw; (try dsimp only at hSw); go_simp; (first | done | with_reducible rfl))
  (try simp only [Act.put, List.setIfInBounds_toArray, List.set_cons_zero, List.set_cons_succ])
  refine wpAnyH_take (i := 1) (oi := ({ dst := some 11, op := Op.move (Operand.tmp 1), type := 113, pos := "event.go:159", after := #[], guard := none } : Oper)) (v := ?_) rfl (by kernel_rfl) (by kernel_rfl) (by kernel_rfl) (fun _ _ _ h => h) (Or.inl ⟨by rfl, ?hyL1⟩) (by assumption) ?rsL1
  case hyL1 => (intro w8' hSw; (try dsimp only at hSw); go_simp; (first | done | with_reducible rfl))
  (try simp only [Act.put, List.setIfInBounds_toArray, List.set_cons_zero, List.set_cons_succ])
  refine wpAnyH_take (i := 2) (oi := ({ dst := some 12, op := Op.nilCheck (Operand.tmp 11), type := 0, pos := "event.go:159", after := #[{ on := 1, ground := Ground.data }], guard := none } : Oper)) (v := ?_) rfl (by kernel_rfl) (by kernel_rfl) (by kernel_rfl) (fun _ _ _ h => h) (Or.inl ⟨by rfl, ?hyL2⟩) (by assumption) ?rsL2
  case hyL2 => (intro w8' hSw; (try dsimp only at hSw); go_simp; (first | done | with_reducible rfl))
  (try simp only [Act.put, List.setIfInBounds_toArray, List.set_cons_zero, List.set_cons_succ])
  refine wpAnyH_take (i := 3) (oi := ({ dst := some 13, op := Op.load 22 (Operand.tmp 12), type := 22, pos := "event.go:159", after := #[{ on := 2, ground := Ground.data }], guard := none } : Oper)) (v := ?_) rfl (by kernel_rfl) (by kernel_rfl) (by kernel_rfl) (fun _ _ _ h => h) (Or.inl ⟨by rfl, ?hyL3⟩) (by assumption) ?rsL3
  case hyL3 => (intro w8' hSw; (try dsimp only at hSw); go_simp; (first | done | with_reducible rfl))
  (try simp only [Act.put, List.setIfInBounds_toArray, List.set_cons_zero, List.set_cons_succ])
  refine wpAnyH_take (i := 4) (oi := ({ dst := some 14, op := Op.call { callee := Callee.builtin Builtin.len, args := #[Operand.tmp 13], argTypes := #[22] }, type := 3, pos := "event.go:159", after := #[{ on := 3, ground := Ground.data }], guard := none } : Oper)) (v := ?_) rfl (by kernel_rfl) (by kernel_rfl) (by kernel_rfl) (fun _ _ _ h => h) (Or.inl ⟨by rfl, ?hyL4⟩) (by assumption) ?rsL4
  case hyL4 => (intro w8' hSw; (try dsimp only at hSw); go_simp; (first | done | with_reducible rfl))
  (try simp only [Act.put, List.setIfInBounds_toArray, List.set_cons_zero, List.set_cons_succ])
  refine wpAnyH_take (i := 5) (oi := ({ dst := some 15, op := Op.move (Operand.tmp 2), type := 3, pos := "event.go:159", after := #[], guard := none } : Oper)) (v := ?_) rfl (by kernel_rfl) (by kernel_rfl) (by kernel_rfl) (fun _ _ _ h => h) (Or.inl ⟨by rfl, ?hyL5⟩) (by assumption) ?rsL5
  case hyL5 => (intro w8' hSw; (try dsimp only at hSw); go_simp; (first | done | with_reducible rfl))
  (try simp only [Act.put, List.setIfInBounds_toArray, List.set_cons_zero, List.set_cons_succ])
  refine wpAnyH_take (i := 6) (oi := ({ dst := some 16, op := Op.makeFunc (Fn.method "governor/event.many") #[Operand.tmp 10] #[], type := 120, pos := "event.go:159", after := #[{ on := 0, ground := Ground.data }], guard := none } : Oper)) (v := ?_) rfl (by kernel_rfl) (by kernel_rfl) (by kernel_rfl) (fun _ _ _ h => h) (Or.inl ⟨by rfl, ?hyL6⟩) (by assumption) ?rsL6
  case hyL6 => (intro w8' hSw; (try dsimp only at hSw); go_simp; (first | done | with_reducible rfl))
  (try simp only [Act.put, List.setIfInBounds_toArray, List.set_cons_zero, List.set_cons_succ])
  refine wpAnyH_take (i := 7) (oi := ({ dst := some 17, op := Op.nilCheck (Operand.tmp 16), type := 120, pos := "event.go:159", after := #[{ on := 6, ground := Ground.data }], guard := none } : Oper)) (v := ?_) rfl (by kernel_rfl) (by kernel_rfl) (by kernel_rfl) (fun _ _ _ h => h) (Or.inl ⟨by rfl, ?hyL7⟩) (by assumption) ?rsL7
  case hyL7 => (intro w8' hSw; first | (refine nc_many (x := Operand.tmp 16) g w8' ?_ ?_ <;> rfl) | (trace_state; sorry))
  (try simp only [Act.put, List.setIfInBounds_toArray, List.set_cons_zero, List.set_cons_succ])
  refine wpAnyH_take (i := 8) (oi := ({ dst := some 18, op := Op.move (Operand.tmp 10), type := 92, pos := "event.go:159", after := #[{ on := 0, ground := Ground.data }, { on := 6, ground := Ground.data }, { on := 7, ground := Ground.data }], guard := none } : Oper)) (v := ?_) rfl (by kernel_rfl) (by kernel_rfl) (by kernel_rfl) (fun _ _ _ h => h) (Or.inl ⟨by rfl, ?hyL8⟩) (by assumption) ?rsL8
  case hyL8 => (intro w8' hSw; (try dsimp only at hSw); go_simp; (first | done | with_reducible rfl))
  (try simp only [Act.put, List.setIfInBounds_toArray, List.set_cons_zero, List.set_cons_succ])
  refine wpAnyH_ready (rs := [9]) (by kernel_rfl) (by simp) ?_
  refine AllReadyH.cons (o := ({ dst := some 19, op := Op.call { callee := Callee.invoke (Operand.tmp 18) "governor/event.many", args := #[Operand.tmp 14, Operand.tmp 15], argTypes := #[3, 3] }, type := 3, pos := "event.go:159", after := #[{ on := 8, ground := Ground.data }, { on := 4, ground := Ground.data }, { on := 5, ground := Ground.data }], guard := none } : Oper)) rfl (fun K hK => ?_) AllReadyH.nil
  rw [if_pos (by rfl)]
  go_simp
  refine (wr_many H1.out i g xs (by rw [List.getElem?_set_self hi]) (by omega) l.length most (by omega) (by omega)).mono ?_
  rintro e w2 ⟨rfl, h2⟩
  rw [List.set_set] at h2
  have H2 := Aside0.mk h2
  clear h2
  go_simp
  refine hK.out _ _ (HST.out _ _ H2.out).1 (fun hHeld => ?_)
  clear hK
  (try simp only [Act.put, List.setIfInBounds_toArray, List.set_cons_zero, List.set_cons_succ])
  refine wpAnyH_take (i := 10) (oi := ({ dst := some 8, op := Op.assign (Operand.tmp 19), type := 3, pos := "event.go:159", after := #[{ on := 9, ground := Ground.data }, { on := 9, ground := Ground.chain }, { on := 0, ground := Ground.phase }, { on := 1, ground := Ground.phase }, { on := 2, ground := Ground.phase }, { on := 3, ground := Ground.phase }, { on := 4, ground := Ground.phase }, { on := 5, ground := Ground.phase }, { on := 6, ground := Ground.phase }, { on := 7, ground := Ground.phase }, { on := 8, ground := Ground.phase }, { on := 9, ground := Ground.phase }], guard := none } : Oper)) (v := ?_) rfl (by kernel_rfl) (by kernel_rfl) (by kernel_rfl) (fun _ _ _ h => h) (Or.inl ⟨by rfl, ?hyM10⟩) (by assumption) ?rsM10
  case hyM10 => (intro w8' hSw; (try dsimp only at hSw); go_simp; (first | done | with_reducible rfl))
  (try simp only [Act.put, List.setIfInBounds_toArray, List.set_cons_zero, List.set_cons_succ])
  refine wpAnyH_done (by kernel_rfl) ?_ _
  refine NoPanic.normal ?_
  obtain ⟨cla, _, _⟩ := HST.out _ _ H2.out
  clear H1 cld
  go_wp2_with fail
  clear cla
  go_loopw [34] (fun i_ wr => ∃ k : Nat, k ≤ l.length ∧ i_ = .int .i64 k ∧ Aside0 (St w0 (As.set i (wrA TY g ((xs ++ vb (zig l.length)) ++ encL (l.take k)))) wr)) (fun i_ _ => l.length - (intOf i_).toNat)
  case atStart => exact ⟨0, Nat.zero_le _, rfl, ⟨by have := H2.out; simpa [encL] using this⟩⟩
  case round =>
    clear H2
    obtain ⟨k, hk, rfl, HS⟩ := hrel
    by_cases hlt : k < l.length
    · obtain rfl : A = some ad := HAA.out (by omega)
      obtain ⟨cla, _, hel⟩ := HST.out _ wr HS.out
      have HEL := Aside0.mk (fun ys w' hS => (HST.out ys w' hS).2.2 k hlt)
      have HGC := Aside0.mk (fun ys w' hS => (HST.out ys w' hS).2.1)
      have hbd := HBD.out _ (List.getElem_mem hlt)
      have HSN := Aside0.mk (encL_snoc l k hlt)
      have HLN := Aside0.mk (show ((xs ++ vb (zig l.length)) ++ encL (l.take k)).length + 20 ≤ 1000000000 by
        have h1 := encL_len (l.take k); have h2 := vb_len (zig l.length); rw [List.length_take] at h1; rw [List.length_append, List.length_append]; omega)
      generalize hp : l[k]'hlt = pt at *
      obtain ⟨pa, pn⟩ := pt
      clear hp hel
      dsimp only at hbd HEL
      have HBN := Aside0.mk hbd
      have wk : IntKind.i64.wrap ((k : Int) + 1) = (k : Int) + 1 := by rw [IntKind.wrap_i64] <;> omega
      clear hbd
      go_wp2_with fail
      refine (band59_w i g gc (ad.add (k * 2)) _ pa pn HS.out hi HLN.out (fun ys w' hS => ⟨HGC.out ys w' hS, HEL.out ys w' hS⟩) HBN.out.1 HBN.out.2).mono ?_
      rintro e w5 ⟨rfl, h5⟩
      rw [List.append_assoc, List.append_assoc, ← HSN.out] at h5
      have H5 := Aside0.mk h5
      clear h5 cla
      go_wp2_with fail
      go_roundw
      case rel => exact ⟨k + 1, by omega, by first | rfl | (simp; done), H5⟩
      case measure => simp [intOf]; omega
    · obtain rfl : k = l.length := by omega
      have HE := Aside0.mk (show St w0 (As.set i (wrA TY g ((xs ++ vb (zig l.length)) ++ encL l))) wr by have := HS.out; rwa [List.take_length] at this)
      go_wp2_with fail
      go_end0
      exact ⟨rfl, HE.out⟩
set_option maxHeartbeats 4000000 in
theorem list60_w {w0 w : World} {As : List Asr} (i g gc : Nat) (la ad : Addr) (A : Option Addr) (c : Nat) (most : Int) (xs : List Int) (l : List (Int × Int)) (h : St w0 (As.set i (wrA TY g xs)) w) (hi : i < As.length) (hl : xs.length + 20 * l.length + 30 ≤ 1000000000)
    (hst : ∀ ys w', St w0 (As.set i (wrA TY g ys)) w' → w'.cell? la = some (.slice A l.length c) ∧ w'.cell? ⟨gc, 0, none⟩ = some (.iface 75 (.pointer (some ⟨g, 0, none⟩))) ∧ ∀ k (hk : k < l.length), w'.cell? (ad.add (k * 2)) = some (.int .i64 (l[k]'hk).1) ∧ w'.cell? ⟨(ad.add (k * 2)).block, (ad.add (k * 2)).off + 1, none⟩ = some (.int .i64 (l[k]'hk).2) ∧ w'.frozen? ⟨(ad.add (k * 2)).block, (ad.add (k * 2)).off + 1, none⟩ = false)
    (hA : 0 < l.length → A = some ad) (hb : ∀ p ∈ l, (-9223372036854775808 ≤ p.1 ∧ p.1 ≤ 9223372036854775807) ∧ (-9223372036854775808 ≤ p.2 ∧ p.2 ≤ 9223372036854775807)) :
    Calls Try.prog 60 #[.iface 75 (.pointer (some ⟨g, 0, none⟩)), .pointer (some la), .int .i64 most, .func (.func 61) #[] #[.pointer (some ⟨gc, 0, none⟩)]] w fun e w' => e = .returned (.tuple #[]) ∧ St w0 (As.set i (wrA TY g ((xs ++ vb (zig l.length)) ++ encL l))) w' := by
  have HST := Aside0.mk hst
  have H := Aside0.mk h
  have HBD := Aside0.mk hb
  have HAA := Aside0.mk hA
  have hlen : l.length ≤ 50000000 := by omega
  clear h hst hb hA
  go_enter Try.func60, Try.ntmps60
  go_upto_region 0 with fail
  have H1 := Aside0.mk (H.out.below (below_drew (Below.refl _ _)))
  have cld := (HST.out _ _ H1.out).1
  refine wp_region_noPanic ?_
  refine wp_region_held_drew (S := fun w' => w'.cell? la = some (.slice A l.length c)) (by kernel_rfl) cld (fun hHeld => ?_)
  generalize w.drew = w1 at *
  refine wpAnyH_take (i := 0) (oi := ({ dst := some 10, op := Op.move (Operand.tmp 0), type := 92, pos := "event.go:159", after := #[], guard := none } : Oper)) (v := ?_) rfl (by kernel_rfl) (by kernel_rfl) (by kernel_rfl) (fun _ _ _ h => h) (Or.inl ⟨by rfl, ?hyL0⟩) (by assumption) ?rsL0
  case hyL0 => (intro w8' hSw; (try dsimp only at hSw); go_simp; (first | done | with_reducible rfl))
  (try simp only [Act.put, List.setIfInBounds_toArray, List.set_cons_zero, List.set_cons_succ])
  refine wpAnyH_take (i := 1) (oi := ({ dst := some 11, op := Op.move (Operand.tmp 1), type := 117, pos := "event.go:159", after := #[], guard := none } : Oper)) (v := ?_) rfl (by kernel_rfl) (by kernel_rfl) (by kernel_rfl) (fun _ _ _ h => h) (Or.inl ⟨by rfl, ?hyL1⟩) (by assumption) ?rsL1
  case hyL1 => (intro w8' hSw; (try dsimp only at hSw); go_simp; (first | done | with_reducible rfl))
  (try simp only [Act.put, List.setIfInBounds_toArray, List.set_cons_zero, List.set_cons_succ])
  refine wpAnyH_take (i := 2) (oi := ({ dst := some 12, op := Op.nilCheck (Operand.tmp 11), type := 0, pos := "event.go:159", after := #[{ on := 1, ground := Ground.data }], guard := none } : Oper)) (v := ?_) rfl (by kernel_rfl) (by kernel_rfl) (by kernel_rfl) (fun _ _ _ h => h) (Or.inl ⟨by rfl, ?hyL2⟩) (by assumption) ?rsL2
  case hyL2 => (intro w8' hSw; (try dsimp only at hSw); go_simp; (first | done | with_reducible rfl))
  (try simp only [Act.put, List.setIfInBounds_toArray, List.set_cons_zero, List.set_cons_succ])
  refine wpAnyH_take (i := 3) (oi := ({ dst := some 13, op := Op.load 23 (Operand.tmp 12), type := 23, pos := "event.go:159", after := #[{ on := 2, ground := Ground.data }], guard := none } : Oper)) (v := ?_) rfl (by kernel_rfl) (by kernel_rfl) (by kernel_rfl) (fun _ _ _ h => h) (Or.inl ⟨by rfl, ?hyL3⟩) (by assumption) ?rsL3
  case hyL3 => (intro w8' hSw; (try dsimp only at hSw); go_simp; (first | done | with_reducible rfl))
  (try simp only [Act.put, List.setIfInBounds_toArray, List.set_cons_zero, List.set_cons_succ])
  refine wpAnyH_take (i := 4) (oi := ({ dst := some 14, op := Op.call { callee := Callee.builtin Builtin.len, args := #[Operand.tmp 13], argTypes := #[23] }, type := 3, pos := "event.go:159", after := #[{ on := 3, ground := Ground.data }], guard := none } : Oper)) (v := ?_) rfl (by kernel_rfl) (by kernel_rfl) (by kernel_rfl) (fun _ _ _ h => h) (Or.inl ⟨by rfl, ?hyL4⟩) (by assumption) ?rsL4
  case hyL4 => (intro w8' hSw; (try dsimp only at hSw); go_simp; (first | done | with_reducible rfl))
  (try simp only [Act.put, List.setIfInBounds_toArray, List.set_cons_zero, List.set_cons_succ])
  refine wpAnyH_take (i := 5) (oi := ({ dst := some 15, op := Op.move (Operand.tmp 2), type := 3, pos := "event.go:159", after := #[], guard := none } : Oper)) (v := ?_) rfl (by kernel_rfl) (by kernel_rfl) (by kernel_rfl) (fun _ _ _ h => h) (Or.inl ⟨by rfl, ?hyL5⟩) (by assumption) ?rsL5
  case hyL5 => (intro w8' hSw; (try dsimp only at hSw); go_simp; (first | done | with_reducible rfl))
  (try simp only [Act.put, List.setIfInBounds_toArray, List.set_cons_zero, List.set_cons_succ])
  refine wpAnyH_take (i := 6) (oi := ({ dst := some 16, op := Op.makeFunc (Fn.method "governor/event.many") #[Operand.tmp 10] #[], type := 120, pos := "event.go:159", after := #[{ on := 0, ground := Ground.data }], guard := none } : Oper)) (v := ?_) rfl (by kernel_rfl) (by kernel_rfl) (by kernel_rfl) (fun _ _ _ h => h) (Or.inl ⟨by rfl, ?hyL6⟩) (by assumption) ?rsL6
  case hyL6 => (intro w8' hSw; (try dsimp only at hSw); go_simp; (first | done | with_reducible rfl))
  (try simp only [Act.put, List.setIfInBounds_toArray, List.set_cons_zero, List.set_cons_succ])
  refine wpAnyH_take (i := 7) (oi := ({ dst := some 17, op := Op.nilCheck (Operand.tmp 16), type := 120, pos := "event.go:159", after := #[{ on := 6, ground := Ground.data }], guard := none } : Oper)) (v := ?_) rfl (by kernel_rfl) (by kernel_rfl) (by kernel_rfl) (fun _ _ _ h => h) (Or.inl ⟨by rfl, ?hyL7⟩) (by assumption) ?rsL7
  case hyL7 => (intro w8' hSw; first | (refine nc_many (x := Operand.tmp 16) g w8' ?_ ?_ <;> rfl) | (trace_state; sorry))
  (try simp only [Act.put, List.setIfInBounds_toArray, List.set_cons_zero, List.set_cons_succ])
  refine wpAnyH_take (i := 8) (oi := ({ dst := some 18, op := Op.move (Operand.tmp 10), type := 92, pos := "event.go:159", after := #[{ on := 0, ground := Ground.data }, { on := 6, ground := Ground.data }, { on := 7, ground := Ground.data }], guard := none } : Oper)) (v := ?_) rfl (by kernel_rfl) (by kernel_rfl) (by kernel_rfl) (fun _ _ _ h => h) (Or.inl ⟨by rfl, ?hyL8⟩) (by assumption) ?rsL8
  case hyL8 => (intro w8' hSw; (try dsimp only at hSw); go_simp; (first | done | with_reducible rfl))
  (try simp only [Act.put, List.setIfInBounds_toArray, List.set_cons_zero, List.set_cons_succ])
  refine wpAnyH_ready (rs := [9]) (by kernel_rfl) (by simp) ?_
  refine AllReadyH.cons (o := ({ dst := some 19, op := Op.call { callee := Callee.invoke (Operand.tmp 18) "governor/event.many", args := #[Operand.tmp 14, Operand.tmp 15], argTypes := #[3, 3] }, type := 3, pos := "event.go:159", after := #[{ on := 8, ground := Ground.data }, { on := 4, ground := Ground.data }, { on := 5, ground := Ground.data }], guard := none } : Oper)) rfl (fun K hK => ?_) AllReadyH.nil
  rw [if_pos (by rfl)]
  go_simp
  refine (wr_many H1.out i g xs (by rw [List.getElem?_set_self hi]) (by omega) l.length most (by omega) (by omega)).mono ?_
  rintro e w2 ⟨rfl, h2⟩
  rw [List.set_set] at h2
  have H2 := Aside0.mk h2
  clear h2
  go_simp
  refine hK.out _ _ (HST.out _ _ H2.out).1 (fun hHeld => ?_)
  clear hK
  (try simp only [Act.put, List.setIfInBounds_toArray, List.set_cons_zero, List.set_cons_succ])
  refine wpAnyH_take (i := 10) (oi := ({ dst := some 8, op := Op.assign (Operand.tmp 19), type := 3, pos := "event.go:159", after := #[{ on := 9, ground := Ground.data }, { on := 9, ground := Ground.chain }, { on := 0, ground := Ground.phase }, { on := 1, ground := Ground.phase }, { on := 2, ground := Ground.phase }, { on := 3, ground := Ground.phase }, { on := 4, ground := Ground.phase }, { on := 5, ground := Ground.phase }, { on := 6, ground := Ground.phase }, { on := 7, ground := Ground.phase }, { on := 8, ground := Ground.phase }, { on := 9, ground := Ground.phase }], guard := none } : Oper)) (v := ?_) rfl (by kernel_rfl) (by kernel_rfl) (by kernel_rfl) (fun _ _ _ h => h) (Or.inl ⟨by rfl, ?hyM10⟩) (by assumption) ?rsM10
  case hyM10 => (intro w8' hSw; (try dsimp only at hSw); go_simp; (first | done | with_reducible rfl))
  (try simp only [Act.put, List.setIfInBounds_toArray, List.set_cons_zero, List.set_cons_succ])
  refine wpAnyH_done (by kernel_rfl) ?_ _
  refine NoPanic.normal ?_
  obtain ⟨cla, _, _⟩ := HST.out _ _ H2.out
  clear H1 cld
  go_wp2_with fail
  clear cla
  go_loopw [34] (fun i_ wr => ∃ k : Nat, k ≤ l.length ∧ i_ = .int .i64 k ∧ Aside0 (St w0 (As.set i (wrA TY g ((xs ++ vb (zig l.length)) ++ encL (l.take k)))) wr)) (fun i_ _ => l.length - (intOf i_).toNat)
  case atStart => exact ⟨0, Nat.zero_le _, rfl, ⟨by have := H2.out; simpa [encL] using this⟩⟩
  case round =>
    clear H2
    obtain ⟨k, hk, rfl, HS⟩ := hrel
    by_cases hlt : k < l.length
    · obtain rfl : A = some ad := HAA.out (by omega)
      obtain ⟨cla, _, hel⟩ := HST.out _ wr HS.out
      have HEL := Aside0.mk (fun ys w' hS => (HST.out ys w' hS).2.2 k hlt)
      have HGC := Aside0.mk (fun ys w' hS => (HST.out ys w' hS).2.1)
      have hbd := HBD.out _ (List.getElem_mem hlt)
      have HSN := Aside0.mk (encL_snoc l k hlt)
      have HLN := Aside0.mk (show ((xs ++ vb (zig l.length)) ++ encL (l.take k)).length + 20 ≤ 1000000000 by
        have h1 := encL_len (l.take k); have h2 := vb_len (zig l.length); rw [List.length_take] at h1; rw [List.length_append, List.length_append]; omega)
      generalize hp : l[k]'hlt = pt at *
      obtain ⟨pa, pn⟩ := pt
      clear hp hel
      dsimp only at hbd HEL
      have HBN := Aside0.mk hbd
      have wk : IntKind.i64.wrap ((k : Int) + 1) = (k : Int) + 1 := by rw [IntKind.wrap_i64] <;> omega
      clear hbd
      go_wp2_with fail
      refine (band61_w i g gc (ad.add (k * 2)) _ pa pn HS.out hi HLN.out (fun ys w' hS => ⟨HGC.out ys w' hS, HEL.out ys w' hS⟩) HBN.out.1 HBN.out.2).mono ?_
      rintro e w5 ⟨rfl, h5⟩
      rw [List.append_assoc, List.append_assoc, ← HSN.out] at h5
      have H5 := Aside0.mk h5
      clear h5 cla
      go_wp2_with fail
      go_roundw
      case rel => exact ⟨k + 1, by omega, by first | rfl | (simp; done), H5⟩
      case measure => simp [intOf]; omega
    · obtain rfl : k = l.length := by omega
      have HE := Aside0.mk (show St w0 (As.set i (wrA TY g ((xs ++ vb (zig l.length)) ++ encL l))) wr by have := HS.out; rwa [List.take_length] at this)
      go_wp2_with fail
      go_end0
      exact ⟨rfl, HE.out⟩
end Go.Proofs.Ytldohapdhljoaaa.Wire
namespace Go.Proofs.Ytldohapdhljoaaa.Wire
open Go.RowKit Go.Proofs.YtldohapdhljoaaaW.PrintWords Go.Proofs.Ytldohapdhljoaaa.Obj Go.Proofs.Ytldohapdhljoaaa.Print
set_option linter.unusedVariables false
set_option linter.unusedSimpArgs false
set_option maxRecDepth 100000
variable {TY : TypeId}
def prB (b : S46) : Int × Int := (b.f0, b.f1)
def prS (b : S48) : Int × Int := (b.f0, b.f1)
structure PolMem (x : Pol) (b o : Nat) (A2 A7 : Option Addr) (ad2 ad7 : Addr) (c2 c7 : Nat) (w : World) : Prop where
  k : w.cell? ⟨b, o, none⟩ = some (.int .i64 x.k)
  t : w.cell? ⟨b, o + 1, none⟩ = some (.int .i64 x.t)
  bs : w.cell? ⟨b, o + 2, none⟩ = some (.slice A2 x.bs.length c2)
  p : w.cell? ⟨b, o + 3, none⟩ = some (.int .i64 x.p)
  i : w.cell? ⟨b, o + 4, none⟩ = some (.int .i64 x.i)
  d : w.cell? ⟨b, o + 5, none⟩ = some (.int .i64 x.d)
  per : w.cell? ⟨b, o + 6, none⟩ = some (.int .i64 x.per)
  ss : w.cell? ⟨b, o + 7, none⟩ = some (.slice A7 x.ss.length c7)
  kf : w.frozen? ⟨b, o, none⟩ = false
  eb : ∀ j (hj : j < (x.bs.map prB).length), w.cell? (ad2.add (j * 2)) = some (.int .i64 ((x.bs.map prB)[j]'hj).1) ∧ w.cell? ⟨(ad2.add (j * 2)).block, (ad2.add (j * 2)).off + 1, none⟩ = some (.int .i64 ((x.bs.map prB)[j]'hj).2) ∧ w.frozen? ⟨(ad2.add (j * 2)).block, (ad2.add (j * 2)).off + 1, none⟩ = false
  es : ∀ j (hj : j < (x.ss.map prS).length), w.cell? (ad7.add (j * 2)) = some (.int .i64 ((x.ss.map prS)[j]'hj).1) ∧ w.cell? ⟨(ad7.add (j * 2)).block, (ad7.add (j * 2)).off + 1, none⟩ = some (.int .i64 ((x.ss.map prS)[j]'hj).2) ∧ w.frozen? ⟨(ad7.add (j * 2)).block, (ad7.add (j * 2)).off + 1, none⟩ = false
def I64 (n : Int) : Prop := -9223372036854775808 ≤ n ∧ n ≤ 9223372036854775807
structure PolIn (x : Pol) : Prop where
  k : I64 x.k
  t : I64 x.t
  p : I64 x.p
  i : I64 x.i
  d : I64 x.d
  per : I64 x.per
  bs : ∀ p ∈ x.bs.map prB, (-9223372036854775808 ≤ p.1 ∧ p.1 ≤ 9223372036854775807) ∧ (-9223372036854775808 ≤ p.2 ∧ p.2 ≤ 9223372036854775807)
  ss : ∀ p ∈ x.ss.map prS, (-9223372036854775808 ≤ p.1 ∧ p.1 ≤ 9223372036854775807) ∧ (-9223372036854775808 ≤ p.2 ∧ p.2 ≤ 9223372036854775807)
def encP (xs : List Int) (x : Pol) : List Int := ((((((xs ++ vb (zig x.k)) ++ vb (zig x.t)) ++ vb (zig ((x.bs.map prB).length : Int))) ++ encL (x.bs.map prB)) ++ (vb (zig x.p) ++ (vb (zig x.i) ++ (vb (zig x.d) ++ vb (zig x.per))))) ++ vb (zig ((x.ss.map prS).length : Int))) ++ encL (x.ss.map prS)
set_option maxHeartbeats 8000000 in
theorem policy_w {w0 w : World} {As : List Asr} (i g b o : Nat) (x : Pol) (A2 A7 : Option Addr) (ad2 ad7 : Addr) (c2 c7 : Nat) (xs : List Int) (h : St w0 (As.set i (wrA TY g xs)) w) (hi : i < As.length) (hl : xs.length + 20 * x.bs.length + 20 * x.ss.length + 200 ≤ 1000000000)
    (hst : ∀ ys w', St w0 (As.set i (wrA TY g ys)) w' → PolMem x b o A2 A7 ad2 ad7 c2 c7 w') (hx : PolIn x) (h2 : 0 < x.bs.length → A2 = some ad2) (h7 : 0 < x.ss.length → A7 = some ad7) :
    Calls Try.prog 55 #[.iface 75 (.pointer (some ⟨g, 0, none⟩)), .pointer (some ⟨b, o, none⟩)] w fun e w' => e = .returned (.tuple #[]) ∧ St w0 (As.set i (wrA TY g (encP xs x))) w' := by
  have hu25 := Try.underlying25
  have HX := Aside0.mk hx
  have HA2 := Aside0.mk h2
  have HA7 := Aside0.mk h7
  clear h2 h7
  go_enter Try.func55, Try.ntmps55
  go_upto_region 1 with fail
  have h1 := h.push (below_alloc (Below.refl _ _) (.cells #[.iface 75 (.pointer (some ⟨g, 0, none⟩))] 92)) (boxA_new w 92 #[.iface 75 (.pointer (some ⟨g, 0, none⟩))])
  generalize hgc : w.heap.size = gc at *
  have e : ∀ ys, As.set i (wrA TY g ys) ++ [boxA 92 gc #[.iface 75 (.pointer (some ⟨g, 0, none⟩))]] = (As ++ [boxA 92 gc #[.iface 75 (.pointer (some ⟨g, 0, none⟩))]]).set i (wrA TY g ys) := fun ys => by rw [List.set_append_left _ _ hi]
  have HST := Aside0.mk (show ∀ ys w', St w0 ((As ++ [boxA 92 gc #[.iface 75 (.pointer (some ⟨g, 0, none⟩))]]).set i (wrA TY g ys)) w' → w'.cell? ⟨gc, 0, none⟩ = some (.iface 75 (.pointer (some ⟨g, 0, none⟩))) ∧ PolMem x b o A2 A7 ad2 ad7 c2 c7 w' from fun ys w' hS => by
    rw [← e] at hS
    exact ⟨pick_cellE (box_last hS) 0 rfl, hst ys w' hS.left⟩)
  rw [e] at h1
  have HE := Aside0.mk e
  have hi' : i < (As ++ [boxA 92 gc #[.iface 75 (.pointer (some ⟨g, 0, none⟩))]]).length := by rw [List.length_append]; omega
  clear e h hst hgc hi
  generalize As ++ [boxA 92 gc #[.iface 75 (.pointer (some ⟨g, 0, none⟩))]] = Bs at *
  generalize w.alloc (.cells #[.iface 75 (.pointer (some ⟨g, 0, none⟩))] 92) = wa at *
  have H := Aside0.mk h1
  have hi := hi'
  clear h1 hi'
  have H1a := Aside0.mk (H.out.below (below_drew (Below.refl _ _)))
  have cca := (HST.out _ _ H1a.out).1
  refine wp_region_noPanic ?_
  refine wp_region_held_drew (S := fun w' => w'.cell? ⟨gc, 0, none⟩ = some (.iface 75 (.pointer (some ⟨g, 0, none⟩)))) (by kernel_rfl) cca (fun hHeld => ?_)
  generalize wa.drew = w1a at *
  refine wpAnyH_take (i := 0) (oi := ({ dst := some 4, op := Op.load 92 (Operand.tmp 2), type := 92, pos := "event.go:169", after := #[], guard := none } : Oper)) (v := ?_) rfl (by kernel_rfl) (by kernel_rfl) (by kernel_rfl) (fun _ _ _ h => h) (Or.inl ⟨by rfl, ?hyTa0⟩) (by assumption) ?rsTa0
  case hyTa0 => (intro w8' hSw; (try dsimp only at hSw); go_simp; (first | done | with_reducible rfl))
  (try simp only [Act.put, List.setIfInBounds_toArray, List.set_cons_zero, List.set_cons_succ])
  refine wpAnyH_take (i := 1) (oi := ({ dst := some 5, op := Op.move (Operand.tmp 1), type := 98, pos := "event.go:169", after := #[], guard := none } : Oper)) (v := ?_) rfl (by kernel_rfl) (by kernel_rfl) (by kernel_rfl) (fun _ _ _ h => h) (Or.inl ⟨by rfl, ?hyTa1⟩) (by assumption) ?rsTa1
  case hyTa1 => (intro w8' hSw; (try dsimp only at hSw); go_simp; (first | done | with_reducible rfl))
  (try simp only [Act.put, List.setIfInBounds_toArray, List.set_cons_zero, List.set_cons_succ])
  refine wpAnyH_take (i := 2) (oi := ({ dst := some 6, op := Op.nilCheck (Operand.tmp 5), type := 0, pos := "event.go:169", after := #[{ on := 1, ground := Ground.data }], guard := none } : Oper)) (v := ?_) rfl (by kernel_rfl) (by kernel_rfl) (by kernel_rfl) (fun _ _ _ h => h) (Or.inl ⟨by rfl, ?hyTa2⟩) (by assumption) ?rsTa2
  case hyTa2 => (intro w8' hSw; (try dsimp only at hSw); go_simp; (first | done | with_reducible rfl))
  (try simp only [Act.put, List.setIfInBounds_toArray, List.set_cons_zero, List.set_cons_succ])
  refine wpAnyH_take (i := 3) (oi := ({ dst := some 7, op := Op.fieldAddr 25 (Operand.tmp 6) 0, type := 0, pos := "event.go:169", after := #[{ on := 2, ground := Ground.data }], guard := none } : Oper)) (v := ?_) rfl (by kernel_rfl) (by kernel_rfl) (by kernel_rfl) (fun _ _ _ h => h) (Or.inl ⟨by rfl, ?hyTa3⟩) (by assumption) ?rsTa3
  case hyTa3 => (intro w8' hSw; (try dsimp only at hSw); go_simp; (first | done | with_reducible rfl))
  (try simp only [Act.put, List.setIfInBounds_toArray, List.set_cons_zero, List.set_cons_succ])
  refine wpAnyH_ready (rs := [4]) (by kernel_rfl) (by simp) ?_
  refine AllReadyH.cons (o := ({ dst := some 8, op := Op.buildSlice 111 1 #[(0, Operand.tmp 7)], type := 111, pos := "event.go:169", after := #[{ on := 3, ground := Ground.data }], guard := none } : Oper)) rfl (fun K hK => ?_) AllReadyH.nil
  rw [if_pos (by rfl)]
  go_simp
  refine hK.out _ _ ((Below.cell (below_alloc (Below.refl w1a.heap.size w1a) _) (World.block_lt_of_cell? w1a _ cca)).trans cca) (fun hHeld => ?_)
  clear hK
  (try simp only [Act.put, List.setIfInBounds_toArray, List.set_cons_zero, List.set_cons_succ])
  refine wpAnyH_ready (rs := [5]) (by kernel_rfl) (by simp) ?_
  refine AllReadyH.cons (o := ({ dst := some 9, op := Op.call { callee := Callee.value (Operand.func 54), args := #[Operand.tmp 4, Operand.tmp 8], argTypes := #[92, 111] }, type := 0, pos := "event.go:169", after := #[{ on := 0, ground := Ground.data }, { on := 4, ground := Ground.data }], guard := none } : Oper)) rfl (fun K hK => ?_) AllReadyH.nil
  rw [if_pos (by rfl)]
  go_simp
  refine (whole_lit i g w1a.heap.size 1 (xs) [(⟨b, o, none⟩, x.k)] H1a.out hi (by have v1 := vb_len (zig x.k); have v2 := vb_len (zig x.t); have v3 := vb_len (zig ((x.bs.map prB).length : Int)); have v4 := encL_len (x.bs.map prB); rw [List.length_map] at v4; simp only [List.length_append, List.length_cons, List.length_nil, List.length_map] at *; omega) (fun ys w' hS k hk => ?sa) (by have := HX.out.k; simpa [I64] using this) rfl rfl 96).mono ?_
  case sa => obtain rfl : k = 0 := by simpa using hk
             exact ⟨(HST.out ys w' hS).2.k, (HST.out ys w' hS).2.kf⟩
  rintro e w2 ⟨rfl, h2⟩
  simp only [encN, List.flatMap_cons, List.flatMap_nil, List.append_nil] at h2
  have H2a := Aside0.mk h2
  clear h2
  go_simp
  refine hK.out _ _ (HST.out _ _ H2a.out).1 (fun hHeld => ?_)
  clear hK
  (try simp only [Act.put, List.setIfInBounds_toArray, List.set_cons_zero, List.set_cons_succ])
  refine wpAnyH_done (by kernel_rfl) ?_ _
  refine NoPanic.normal ?_
  clear H cca H1a
  go_upto_region 2 with fail
  have H1b := Aside0.mk (H2a.out.below (below_drew (Below.refl _ _)))
  have ccb := (HST.out _ _ H1b.out).1
  refine wp_region_noPanic ?_
  refine wp_region_held_drew (S := fun w' => w'.cell? ⟨gc, 0, none⟩ = some (.iface 75 (.pointer (some ⟨g, 0, none⟩)))) (by kernel_rfl) ccb (fun hHeld => ?_)
  generalize w2.drew = w1b at *
  refine wpAnyH_take (i := 0) (oi := ({ dst := some 10, op := Op.load 92 (Operand.tmp 2), type := 92, pos := "event.go:170", after := #[], guard := none } : Oper)) (v := ?_) rfl (by kernel_rfl) (by kernel_rfl) (by kernel_rfl) (fun _ _ _ h => h) (Or.inl ⟨by rfl, ?hyTb0⟩) (by assumption) ?rsTb0
  case hyTb0 => (intro w8' hSw; (try dsimp only at hSw); go_simp; (first | done | with_reducible rfl))
  (try simp only [Act.put, List.setIfInBounds_toArray, List.set_cons_zero, List.set_cons_succ])
  refine wpAnyH_take (i := 1) (oi := ({ dst := some 11, op := Op.move (Operand.tmp 1), type := 98, pos := "event.go:170", after := #[], guard := none } : Oper)) (v := ?_) rfl (by kernel_rfl) (by kernel_rfl) (by kernel_rfl) (fun _ _ _ h => h) (Or.inl ⟨by rfl, ?hyTb1⟩) (by assumption) ?rsTb1
  case hyTb1 => (intro w8' hSw; (try dsimp only at hSw); go_simp; (first | done | with_reducible rfl))
  (try simp only [Act.put, List.setIfInBounds_toArray, List.set_cons_zero, List.set_cons_succ])
  refine wpAnyH_take (i := 2) (oi := ({ dst := some 12, op := Op.nilCheck (Operand.tmp 11), type := 0, pos := "event.go:170", after := #[{ on := 1, ground := Ground.data }], guard := none } : Oper)) (v := ?_) rfl (by kernel_rfl) (by kernel_rfl) (by kernel_rfl) (fun _ _ _ h => h) (Or.inl ⟨by rfl, ?hyTb2⟩) (by assumption) ?rsTb2
  case hyTb2 => (intro w8' hSw; (try dsimp only at hSw); go_simp; (first | done | with_reducible rfl))
  (try simp only [Act.put, List.setIfInBounds_toArray, List.set_cons_zero, List.set_cons_succ])
  refine wpAnyH_take (i := 3) (oi := ({ dst := some 13, op := Op.fieldAddr 25 (Operand.tmp 12) 1, type := 0, pos := "event.go:170", after := #[{ on := 2, ground := Ground.data }], guard := none } : Oper)) (v := ?_) rfl (by kernel_rfl) (by kernel_rfl) (by kernel_rfl) (fun _ _ _ h => h) (Or.inl ⟨by rfl, ?hyTb3⟩) (by assumption) ?rsTb3
  case hyTb3 => (intro w8' hSw; (try dsimp only at hSw); go_simp; (first | done | with_reducible rfl))
  (try simp only [Act.put, List.setIfInBounds_toArray, List.set_cons_zero, List.set_cons_succ])
  refine wpAnyH_ready (rs := [4]) (by kernel_rfl) (by simp) ?_
  refine AllReadyH.cons (o := ({ dst := some 14, op := Op.buildSlice 109 1 #[(0, Operand.tmp 13)], type := 109, pos := "event.go:170", after := #[{ on := 3, ground := Ground.data }], guard := none } : Oper)) rfl (fun K hK => ?_) AllReadyH.nil
  rw [if_pos (by rfl)]
  go_simp
  refine hK.out _ _ ((Below.cell (below_alloc (Below.refl w1b.heap.size w1b) _) (World.block_lt_of_cell? w1b _ ccb)).trans ccb) (fun hHeld => ?_)
  clear hK
  (try simp only [Act.put, List.setIfInBounds_toArray, List.set_cons_zero, List.set_cons_succ])
  refine wpAnyH_ready (rs := [5]) (by kernel_rfl) (by simp) ?_
  refine AllReadyH.cons (o := ({ dst := some 15, op := Op.call { callee := Callee.value (Operand.func 53), args := #[Operand.tmp 10, Operand.tmp 14], argTypes := #[92, 109] }, type := 0, pos := "event.go:170", after := #[{ on := 0, ground := Ground.data }, { on := 4, ground := Ground.data }], guard := none } : Oper)) rfl (fun K hK => ?_) AllReadyH.nil
  rw [if_pos (by rfl)]
  go_simp
  refine (nums_lit i g w1b.heap.size 1 (xs ++ vb (zig x.k)) [(⟨b, o + 1, none⟩, x.t)] H1b.out hi (by have v1 := vb_len (zig x.k); have v2 := vb_len (zig x.t); have v3 := vb_len (zig ((x.bs.map prB).length : Int)); have v4 := encL_len (x.bs.map prB); rw [List.length_map] at v4; simp only [List.length_append, List.length_cons, List.length_nil, List.length_map] at *; omega) (fun ys w' hS k hk => ?sb) (by have := HX.out.t; simpa [I64] using this) rfl rfl 94).mono ?_
  case sb => obtain rfl : k = 0 := by simpa using hk
             exact (HST.out ys w' hS).2.t
  rintro e w3 ⟨rfl, h2⟩
  simp only [encN, List.flatMap_cons, List.flatMap_nil, List.append_nil] at h2
  have H2b := Aside0.mk h2
  clear h2
  go_simp
  refine hK.out _ _ (HST.out _ _ H2b.out).1 (fun hHeld => ?_)
  clear hK
  (try simp only [Act.put, List.setIfInBounds_toArray, List.set_cons_zero, List.set_cons_succ])
  refine wpAnyH_done (by kernel_rfl) ?_ _
  refine NoPanic.normal ?_
  clear H2a ccb H1b
  go_upto_region 3 with fail
  have H1c := Aside0.mk (H2b.out.below (below_drew (Below.refl _ _)))
  have ccc := (HST.out _ _ H2b.out).1
  go_still_tail 5, (by kernel_rfl)
  change wpList _ _ _ _ _ w3.drew
  generalize w3.drew = w1c at H1c ⊢
  go_wp2_with fail
  refine (list58_w i g gc ⟨b, o + 2, none⟩ ad2 A2 c2 8 ((xs ++ vb (zig x.k)) ++ vb (zig x.t)) (x.bs.map prB) H1c.out hi (by have v1 := vb_len (zig x.k); have v2 := vb_len (zig x.t); have v3 := vb_len (zig ((x.bs.map prB).length : Int)); have v4 := encL_len (x.bs.map prB); rw [List.length_map] at v4; simp only [List.length_append, List.length_cons, List.length_nil, List.length_map] at *; omega) (fun ys w' hS => ⟨by rw [List.length_map]; exact (HST.out ys w' hS).2.bs, (HST.out ys w' hS).1, (HST.out ys w' hS).2.eb⟩) (by rw [List.length_map]; exact HA2.out) HX.out.bs).mono ?_
  rintro e w4 ⟨rfl, h2⟩
  have H2c := Aside0.mk h2
  clear h2 ccc H1c H2b
  go_upto_region 4 with fail
  have H1d := Aside0.mk (H2c.out.below (below_drew (Below.refl _ _)))
  have ccd := (HST.out _ _ H1d.out).1
  refine wp_region_noPanic ?_
  refine wp_region_held_drew (S := fun w' => w'.cell? ⟨gc, 0, none⟩ = some (.iface 75 (.pointer (some ⟨g, 0, none⟩)))) (by kernel_rfl) ccd (fun hHeld => ?_)
  generalize w4.drew = w1d at *
  refine wpAnyH_take (i := 0) (oi := ({ dst := some 22, op := Op.load 92 (Operand.tmp 2), type := 92, pos := "event.go:175", after := #[], guard := none } : Oper)) (v := ?_) rfl (by kernel_rfl) (by kernel_rfl) (by kernel_rfl) (fun _ _ _ h => h) (Or.inl ⟨by rfl, ?hyTd0⟩) (by assumption) ?rsTd0
  case hyTd0 => (intro w8' hSw; (try dsimp only at hSw); go_simp; (first | done | with_reducible rfl))
  (try simp only [Act.put, List.setIfInBounds_toArray, List.set_cons_zero, List.set_cons_succ])
  refine wpAnyH_take (i := 1) (oi := ({ dst := some 23, op := Op.move (Operand.tmp 1), type := 98, pos := "event.go:175", after := #[], guard := none } : Oper)) (v := ?_) rfl (by kernel_rfl) (by kernel_rfl) (by kernel_rfl) (fun _ _ _ h => h) (Or.inl ⟨by rfl, ?hyTd1⟩) (by assumption) ?rsTd1
  case hyTd1 => (intro w8' hSw; (try dsimp only at hSw); go_simp; (first | done | with_reducible rfl))
  (try simp only [Act.put, List.setIfInBounds_toArray, List.set_cons_zero, List.set_cons_succ])
  refine wpAnyH_take (i := 2) (oi := ({ dst := some 24, op := Op.nilCheck (Operand.tmp 23), type := 0, pos := "event.go:175", after := #[{ on := 1, ground := Ground.data }], guard := none } : Oper)) (v := ?_) rfl (by kernel_rfl) (by kernel_rfl) (by kernel_rfl) (fun _ _ _ h => h) (Or.inl ⟨by rfl, ?hyTd2⟩) (by assumption) ?rsTd2
  case hyTd2 => (intro w8' hSw; (try dsimp only at hSw); go_simp; (first | done | with_reducible rfl))
  (try simp only [Act.put, List.setIfInBounds_toArray, List.set_cons_zero, List.set_cons_succ])
  refine wpAnyH_take (i := 3) (oi := ({ dst := some 25, op := Op.fieldAddr 25 (Operand.tmp 24) 3, type := 0, pos := "event.go:175", after := #[{ on := 2, ground := Ground.data }], guard := none } : Oper)) (v := ?_) rfl (by kernel_rfl) (by kernel_rfl) (by kernel_rfl) (fun _ _ _ h => h) (Or.inl ⟨by rfl, ?hyTd3⟩) (by assumption) ?rsTd3
  case hyTd3 => (intro w8' hSw; (try dsimp only at hSw); go_simp; (first | done | with_reducible rfl))
  (try simp only [Act.put, List.setIfInBounds_toArray, List.set_cons_zero, List.set_cons_succ])
  refine wpAnyH_take (i := 4) (oi := ({ dst := some 26, op := Op.move (Operand.tmp 1), type := 98, pos := "event.go:175", after := #[], guard := none } : Oper)) (v := ?_) rfl (by kernel_rfl) (by kernel_rfl) (by kernel_rfl) (fun _ _ _ h => h) (Or.inl ⟨by rfl, ?hyTd4⟩) (by assumption) ?rsTd4
  case hyTd4 => (intro w8' hSw; (try dsimp only at hSw); go_simp; (first | done | with_reducible rfl))
  (try simp only [Act.put, List.setIfInBounds_toArray, List.set_cons_zero, List.set_cons_succ])
  refine wpAnyH_take (i := 5) (oi := ({ dst := some 27, op := Op.nilCheck (Operand.tmp 26), type := 0, pos := "event.go:175", after := #[{ on := 4, ground := Ground.data }], guard := none } : Oper)) (v := ?_) rfl (by kernel_rfl) (by kernel_rfl) (by kernel_rfl) (fun _ _ _ h => h) (Or.inl ⟨by rfl, ?hyTd5⟩) (by assumption) ?rsTd5
  case hyTd5 => (intro w8' hSw; (try dsimp only at hSw); go_simp; (first | done | with_reducible rfl))
  (try simp only [Act.put, List.setIfInBounds_toArray, List.set_cons_zero, List.set_cons_succ])
  refine wpAnyH_take (i := 6) (oi := ({ dst := some 28, op := Op.fieldAddr 25 (Operand.tmp 27) 4, type := 0, pos := "event.go:175", after := #[{ on := 5, ground := Ground.data }], guard := none } : Oper)) (v := ?_) rfl (by kernel_rfl) (by kernel_rfl) (by kernel_rfl) (fun _ _ _ h => h) (Or.inl ⟨by rfl, ?hyTd6⟩) (by assumption) ?rsTd6
  case hyTd6 => (intro w8' hSw; (try dsimp only at hSw); go_simp; (first | done | with_reducible rfl))
  (try simp only [Act.put, List.setIfInBounds_toArray, List.set_cons_zero, List.set_cons_succ])
  refine wpAnyH_take (i := 7) (oi := ({ dst := some 29, op := Op.move (Operand.tmp 1), type := 98, pos := "event.go:175", after := #[], guard := none } : Oper)) (v := ?_) rfl (by kernel_rfl) (by kernel_rfl) (by kernel_rfl) (fun _ _ _ h => h) (Or.inl ⟨by rfl, ?hyTd7⟩) (by assumption) ?rsTd7
  case hyTd7 => (intro w8' hSw; (try dsimp only at hSw); go_simp; (first | done | with_reducible rfl))
  (try simp only [Act.put, List.setIfInBounds_toArray, List.set_cons_zero, List.set_cons_succ])
  refine wpAnyH_take (i := 8) (oi := ({ dst := some 30, op := Op.nilCheck (Operand.tmp 29), type := 0, pos := "event.go:175", after := #[{ on := 7, ground := Ground.data }], guard := none } : Oper)) (v := ?_) rfl (by kernel_rfl) (by kernel_rfl) (by kernel_rfl) (fun _ _ _ h => h) (Or.inl ⟨by rfl, ?hyTd8⟩) (by assumption) ?rsTd8
  case hyTd8 => (intro w8' hSw; (try dsimp only at hSw); go_simp; (first | done | with_reducible rfl))
  (try simp only [Act.put, List.setIfInBounds_toArray, List.set_cons_zero, List.set_cons_succ])
  refine wpAnyH_take (i := 9) (oi := ({ dst := some 31, op := Op.fieldAddr 25 (Operand.tmp 30) 5, type := 0, pos := "event.go:175", after := #[{ on := 8, ground := Ground.data }], guard := none } : Oper)) (v := ?_) rfl (by kernel_rfl) (by kernel_rfl) (by kernel_rfl) (fun _ _ _ h => h) (Or.inl ⟨by rfl, ?hyTd9⟩) (by assumption) ?rsTd9
  case hyTd9 => (intro w8' hSw; (try dsimp only at hSw); go_simp; (first | done | with_reducible rfl))
  (try simp only [Act.put, List.setIfInBounds_toArray, List.set_cons_zero, List.set_cons_succ])
  refine wpAnyH_take (i := 10) (oi := ({ dst := some 32, op := Op.move (Operand.tmp 1), type := 98, pos := "event.go:175", after := #[], guard := none } : Oper)) (v := ?_) rfl (by kernel_rfl) (by kernel_rfl) (by kernel_rfl) (fun _ _ _ h => h) (Or.inl ⟨by rfl, ?hyTd10⟩) (by assumption) ?rsTd10
  case hyTd10 => (intro w8' hSw; (try dsimp only at hSw); go_simp; (first | done | with_reducible rfl))
  (try simp only [Act.put, List.setIfInBounds_toArray, List.set_cons_zero, List.set_cons_succ])
  refine wpAnyH_take (i := 11) (oi := ({ dst := some 33, op := Op.nilCheck (Operand.tmp 32), type := 0, pos := "event.go:175", after := #[{ on := 10, ground := Ground.data }], guard := none } : Oper)) (v := ?_) rfl (by kernel_rfl) (by kernel_rfl) (by kernel_rfl) (fun _ _ _ h => h) (Or.inl ⟨by rfl, ?hyTd11⟩) (by assumption) ?rsTd11
  case hyTd11 => (intro w8' hSw; (try dsimp only at hSw); go_simp; (first | done | with_reducible rfl))
  (try simp only [Act.put, List.setIfInBounds_toArray, List.set_cons_zero, List.set_cons_succ])
  refine wpAnyH_take (i := 12) (oi := ({ dst := some 34, op := Op.fieldAddr 25 (Operand.tmp 33) 6, type := 0, pos := "event.go:175", after := #[{ on := 11, ground := Ground.data }], guard := none } : Oper)) (v := ?_) rfl (by kernel_rfl) (by kernel_rfl) (by kernel_rfl) (fun _ _ _ h => h) (Or.inl ⟨by rfl, ?hyTd12⟩) (by assumption) ?rsTd12
  case hyTd12 => (intro w8' hSw; (try dsimp only at hSw); go_simp; (first | done | with_reducible rfl))
  (try simp only [Act.put, List.setIfInBounds_toArray, List.set_cons_zero, List.set_cons_succ])
  refine wpAnyH_ready (rs := [13]) (by kernel_rfl) (by simp) ?_
  refine AllReadyH.cons (o := ({ dst := some 35, op := Op.buildSlice 109 4 #[(0, Operand.tmp 25), (1, Operand.tmp 28), (2, Operand.tmp 31), (3, Operand.tmp 34)], type := 109, pos := "event.go:175", after := #[{ on := 3, ground := Ground.data }, { on := 6, ground := Ground.data }, { on := 9, ground := Ground.data }, { on := 12, ground := Ground.data }], guard := none } : Oper)) rfl (fun K hK => ?_) AllReadyH.nil
  rw [if_pos (by rfl)]
  go_simp
  refine hK.out _ _ ((Below.cell (below_alloc (Below.refl w1d.heap.size w1d) _) (World.block_lt_of_cell? w1d _ ccd)).trans ccd) (fun hHeld => ?_)
  clear hK
  (try simp only [Act.put, List.setIfInBounds_toArray, List.set_cons_zero, List.set_cons_succ])
  refine wpAnyH_ready (rs := [14]) (by kernel_rfl) (by simp) ?_
  refine AllReadyH.cons (o := ({ dst := some 36, op := Op.call { callee := Callee.value (Operand.func 53), args := #[Operand.tmp 22, Operand.tmp 35], argTypes := #[92, 109] }, type := 0, pos := "event.go:175", after := #[{ on := 0, ground := Ground.data }, { on := 13, ground := Ground.data }], guard := none } : Oper)) rfl (fun K hK => ?_) AllReadyH.nil
  rw [if_pos (by rfl)]
  go_simp
  refine (nums_lit i g w1d.heap.size 4 ((((xs ++ vb (zig x.k)) ++ vb (zig x.t)) ++ vb (zig ((x.bs.map prB).length : Int))) ++ encL (x.bs.map prB)) [(⟨b, o + 3, none⟩, x.p), (⟨b, o + 4, none⟩, x.i), (⟨b, o + 5, none⟩, x.d), (⟨b, o + 6, none⟩, x.per)] H1d.out hi (by have v1 := vb_len (zig x.k); have v2 := vb_len (zig x.t); have v3 := vb_len (zig ((x.bs.map prB).length : Int)); have v4 := encL_len (x.bs.map prB); rw [List.length_map] at v4; simp only [List.length_append, List.length_cons, List.length_nil, List.length_map] at *; omega) (fun ys w' hS k hk => ?sd) (by have q1 := HX.out.p; have q2 := HX.out.i; have q3 := HX.out.d; have q4 := HX.out.per; simp [I64] at *; omega) rfl rfl 94).mono ?_
  case sd => rcases k with _ | _ | _ | _ | k
             · exact (HST.out ys w' hS).2.p
             · exact (HST.out ys w' hS).2.i
             · exact (HST.out ys w' hS).2.d
             · exact (HST.out ys w' hS).2.per
             · simp at hk; omega
  rintro e w5 ⟨rfl, h2⟩
  simp only [encN, List.flatMap_cons, List.flatMap_nil, List.append_nil] at h2
  have H2d := Aside0.mk h2
  clear h2
  go_simp
  refine hK.out _ _ (HST.out _ _ H2d.out).1 (fun hHeld => ?_)
  clear hK
  (try simp only [Act.put, List.setIfInBounds_toArray, List.set_cons_zero, List.set_cons_succ])
  refine wpAnyH_done (by kernel_rfl) ?_ _
  refine NoPanic.normal ?_
  clear H2c ccd H1d
  go_upto_region 5 with fail
  have H1e := Aside0.mk (H2d.out.below (below_drew (Below.refl _ _)))
  have cce := (HST.out _ _ H2d.out).1
  go_still_tail 5, (by kernel_rfl)
  change wpList _ _ _ _ _ w5.drew
  generalize w5.drew = w1e at H1e ⊢
  go_wp2_with fail
  refine (list60_w i g gc ⟨b, o + 7, none⟩ ad7 A7 c7 8 (((((xs ++ vb (zig x.k)) ++ vb (zig x.t)) ++ vb (zig ((x.bs.map prB).length : Int))) ++ encL (x.bs.map prB)) ++ (vb (zig x.p) ++ (vb (zig x.i) ++ (vb (zig x.d) ++ vb (zig x.per))))) (x.ss.map prS) H1e.out hi (by have v1 := vb_len (zig x.k); have v2 := vb_len (zig x.t); have v3 := vb_len (zig ((x.bs.map prB).length : Int)); have v4 := encL_len (x.bs.map prB); rw [List.length_map] at v4; have v5 := vb_len (zig x.p); have v6 := vb_len (zig x.i); have v7 := vb_len (zig x.d); have v8 := vb_len (zig x.per); simp only [List.length_append, List.length_cons, List.length_nil, List.length_map] at *; omega) (fun ys w' hS => ⟨by rw [List.length_map]; exact (HST.out ys w' hS).2.ss, (HST.out ys w' hS).1, (HST.out ys w' hS).2.es⟩) (by rw [List.length_map]; exact HA7.out) HX.out.ss).mono ?_
  rintro e w6 ⟨rfl, h2⟩
  have H2e := Aside0.mk h2
  clear h2 cce H1e H2d
  go_wp2_with fail
  go_end0
  have hE := H2e.out
  rw [← HE.out] at hE
  exact ⟨rfl, hE.left⟩
end Go.Proofs.Ytldohapdhljoaaa.Wire
namespace Go.Proofs.Ytldohapdhljoaaa.Wire
open Go.RowKit Go.Proofs.YtldohapdhljoaaaW.PrintWords Go.Proofs.Ytldohapdhljoaaa.Obj Go.Proofs.Ytldohapdhljoaaa.Print
set_option linter.unusedVariables false
set_option linter.unusedSimpArgs false
set_option maxRecDepth 100000
variable {TY : TypeId}
structure CnfMem (c : Cnf) (b o : Nat) (w : World) : Prop where
  mi : w.cell? ⟨b, o + 0, none⟩ = some (.int .i64 c.mi)
  ma : w.cell? ⟨b, o + 1, none⟩ = some (.int .i64 c.ma)
  ra : w.cell? ⟨b, o + 2, none⟩ = some (.int .i64 c.ra)
  st : w.cell? ⟨b, o + 3, none⟩ = some (.int .i64 c.st)
  ca : w.cell? ⟨b, o + 4, none⟩ = some (.int .i64 c.ca)
  de : w.cell? ⟨b, o + 5, none⟩ = some (.int .i64 c.de)
  sl : w.cell? ⟨b, o + 6, none⟩ = some (.int .i64 c.sl)
  wi : w.cell? ⟨b, o + 7, none⟩ = some (.int .i64 c.wi)
  mg : w.cell? ⟨b, o + 8, none⟩ = some (.int .i64 c.mg)
  ce : w.cell? ⟨b, o + 9, none⟩ = some (.int .i64 c.ce)
  pr : w.cell? ⟨b, o + 10, none⟩ = some (.int .i64 c.pr)
  br : w.cell? ⟨b, o + 11, none⟩ = some (.int .i64 c.br)
  Fmi : w.frozen? ⟨b, o + 0, none⟩ = false
  Fma : w.frozen? ⟨b, o + 1, none⟩ = false
  Fra : w.frozen? ⟨b, o + 2, none⟩ = false
  Fde : w.frozen? ⟨b, o + 5, none⟩ = false
  Fwi : w.frozen? ⟨b, o + 7, none⟩ = false
  Fce : w.frozen? ⟨b, o + 9, none⟩ = false
  Fpr : w.frozen? ⟨b, o + 10, none⟩ = false
  Fbr : w.frozen? ⟨b, o + 11, none⟩ = false
structure CnfIn (c : Cnf) : Prop where
  mi : I64 c.mi
  ma : I64 c.ma
  ra : I64 c.ra
  st : I64 c.st
  ca : I64 c.ca
  de : I64 c.de
  sl : I64 c.sl
  wi : I64 c.wi
  mg : I64 c.mg
  ce : I64 c.ce
  pr : I64 c.pr
  br : I64 c.br
def encC (xs : List Int) (c : Cnf) : List Int := (((((((xs) ++ (vb (zig c.mi) ++ (vb (zig c.ma) ++ vb (zig c.ra)))) ++ (vb (zig c.st) ++ vb (zig c.ca))) ++ vb (zig c.de)) ++ vb (zig c.sl)) ++ vb (zig c.wi)) ++ vb (zig c.mg)) ++ (vb (zig c.ce) ++ (vb (zig c.pr) ++ vb (zig c.br)))
set_option maxHeartbeats 8000000 in
theorem conf_w {w0 w : World} {As : List Asr} (i g b o : Nat) (c : Cnf) (xs : List Int) (h : St w0 (As.set i (wrA TY g xs)) w) (hi : i < As.length) (hl : xs.length + 200 ≤ 1000000000)
    (hst : ∀ ys w', St w0 (As.set i (wrA TY g ys)) w' → CnfMem c b o w') (hx : CnfIn c) :
    Calls Try.prog 56 #[.iface 75 (.pointer (some ⟨g, 0, none⟩)), .pointer (some ⟨b, o, none⟩)] w fun e w' => e = .returned (.tuple #[]) ∧ St w0 (As.set i (wrA TY g (encC xs c))) w' := by
  have hu27 := Try.underlying27
  have HX := Aside0.mk hx
  have HST := Aside0.mk hst
  have Hz := Aside0.mk h
  clear h hst hx
  go_enter Try.func56, Try.ntmps56
  go_upto_region 0 with fail
  have H1a := Aside0.mk (Hz.out.below (below_drew (Below.refl _ _)))
  refine wp_region_noPanic ?_
  refine wp_region_held_drew (S := fun _ => True) (by kernel_rfl) trivial (fun hHeld => ?_)
  generalize w.drew = w1a at *
  refine wpAnyH_take (i := 0) (oi := ({ dst := some 4, op := Op.move (Operand.tmp 0), type := 92, pos := "event.go:184", after := #[], guard := none } : Oper)) (v := ?_) rfl (by kernel_rfl) (by kernel_rfl) (by kernel_rfl) (fun _ _ _ h => h) (Or.inl ⟨by rfl, ?hyTa0⟩) (by assumption) ?rsTa0
  case hyTa0 => (intro w8' hSw; (try dsimp only at hSw); go_simp; (first | done | with_reducible rfl))
  (try simp only [Act.put, List.setIfInBounds_toArray, List.set_cons_zero, List.set_cons_succ])
  refine wpAnyH_take (i := 1) (oi := ({ dst := some 5, op := Op.move (Operand.tmp 1), type := 100, pos := "event.go:184", after := #[], guard := none } : Oper)) (v := ?_) rfl (by kernel_rfl) (by kernel_rfl) (by kernel_rfl) (fun _ _ _ h => h) (Or.inl ⟨by rfl, ?hyTa1⟩) (by assumption) ?rsTa1
  case hyTa1 => (intro w8' hSw; (try dsimp only at hSw); go_simp; (first | done | with_reducible rfl))
  (try simp only [Act.put, List.setIfInBounds_toArray, List.set_cons_zero, List.set_cons_succ])
  refine wpAnyH_take (i := 2) (oi := ({ dst := some 6, op := Op.nilCheck (Operand.tmp 5), type := 0, pos := "event.go:184", after := #[{ on := 1, ground := Ground.data }], guard := none } : Oper)) (v := ?_) rfl (by kernel_rfl) (by kernel_rfl) (by kernel_rfl) (fun _ _ _ h => h) (Or.inl ⟨by rfl, ?hyTa2⟩) (by assumption) ?rsTa2
  case hyTa2 => (intro w8' hSw; (try dsimp only at hSw); go_simp; (first | done | with_reducible rfl))
  (try simp only [Act.put, List.setIfInBounds_toArray, List.set_cons_zero, List.set_cons_succ])
  refine wpAnyH_take (i := 3) (oi := ({ dst := some 7, op := Op.fieldAddr 27 (Operand.tmp 6) 0, type := 0, pos := "event.go:184", after := #[{ on := 2, ground := Ground.data }], guard := none } : Oper)) (v := ?_) rfl (by kernel_rfl) (by kernel_rfl) (by kernel_rfl) (fun _ _ _ h => h) (Or.inl ⟨by rfl, ?hyTa3⟩) (by assumption) ?rsTa3
  case hyTa3 => (intro w8' hSw; (try dsimp only at hSw); go_simp; (first | done | with_reducible rfl))
  (try simp only [Act.put, List.setIfInBounds_toArray, List.set_cons_zero, List.set_cons_succ])
  refine wpAnyH_take (i := 4) (oi := ({ dst := some 8, op := Op.move (Operand.tmp 1), type := 100, pos := "event.go:184", after := #[], guard := none } : Oper)) (v := ?_) rfl (by kernel_rfl) (by kernel_rfl) (by kernel_rfl) (fun _ _ _ h => h) (Or.inl ⟨by rfl, ?hyTa4⟩) (by assumption) ?rsTa4
  case hyTa4 => (intro w8' hSw; (try dsimp only at hSw); go_simp; (first | done | with_reducible rfl))
  (try simp only [Act.put, List.setIfInBounds_toArray, List.set_cons_zero, List.set_cons_succ])
  refine wpAnyH_take (i := 5) (oi := ({ dst := some 9, op := Op.nilCheck (Operand.tmp 8), type := 0, pos := "event.go:184", after := #[{ on := 4, ground := Ground.data }], guard := none } : Oper)) (v := ?_) rfl (by kernel_rfl) (by kernel_rfl) (by kernel_rfl) (fun _ _ _ h => h) (Or.inl ⟨by rfl, ?hyTa5⟩) (by assumption) ?rsTa5
  case hyTa5 => (intro w8' hSw; (try dsimp only at hSw); go_simp; (first | done | with_reducible rfl))
  (try simp only [Act.put, List.setIfInBounds_toArray, List.set_cons_zero, List.set_cons_succ])
  refine wpAnyH_take (i := 6) (oi := ({ dst := some 10, op := Op.fieldAddr 27 (Operand.tmp 9) 1, type := 0, pos := "event.go:184", after := #[{ on := 5, ground := Ground.data }], guard := none } : Oper)) (v := ?_) rfl (by kernel_rfl) (by kernel_rfl) (by kernel_rfl) (fun _ _ _ h => h) (Or.inl ⟨by rfl, ?hyTa6⟩) (by assumption) ?rsTa6
  case hyTa6 => (intro w8' hSw; (try dsimp only at hSw); go_simp; (first | done | with_reducible rfl))
  (try simp only [Act.put, List.setIfInBounds_toArray, List.set_cons_zero, List.set_cons_succ])
  refine wpAnyH_take (i := 7) (oi := ({ dst := some 11, op := Op.move (Operand.tmp 1), type := 100, pos := "event.go:184", after := #[], guard := none } : Oper)) (v := ?_) rfl (by kernel_rfl) (by kernel_rfl) (by kernel_rfl) (fun _ _ _ h => h) (Or.inl ⟨by rfl, ?hyTa7⟩) (by assumption) ?rsTa7
  case hyTa7 => (intro w8' hSw; (try dsimp only at hSw); go_simp; (first | done | with_reducible rfl))
  (try simp only [Act.put, List.setIfInBounds_toArray, List.set_cons_zero, List.set_cons_succ])
  refine wpAnyH_take (i := 8) (oi := ({ dst := some 12, op := Op.nilCheck (Operand.tmp 11), type := 0, pos := "event.go:184", after := #[{ on := 7, ground := Ground.data }], guard := none } : Oper)) (v := ?_) rfl (by kernel_rfl) (by kernel_rfl) (by kernel_rfl) (fun _ _ _ h => h) (Or.inl ⟨by rfl, ?hyTa8⟩) (by assumption) ?rsTa8
  case hyTa8 => (intro w8' hSw; (try dsimp only at hSw); go_simp; (first | done | with_reducible rfl))
  (try simp only [Act.put, List.setIfInBounds_toArray, List.set_cons_zero, List.set_cons_succ])
  refine wpAnyH_take (i := 9) (oi := ({ dst := some 13, op := Op.fieldAddr 27 (Operand.tmp 12) 2, type := 0, pos := "event.go:184", after := #[{ on := 8, ground := Ground.data }], guard := none } : Oper)) (v := ?_) rfl (by kernel_rfl) (by kernel_rfl) (by kernel_rfl) (fun _ _ _ h => h) (Or.inl ⟨by rfl, ?hyTa9⟩) (by assumption) ?rsTa9
  case hyTa9 => (intro w8' hSw; (try dsimp only at hSw); go_simp; (first | done | with_reducible rfl))
  (try simp only [Act.put, List.setIfInBounds_toArray, List.set_cons_zero, List.set_cons_succ])
  refine wpAnyH_ready (rs := [10]) (by kernel_rfl) (by simp) ?_
  refine AllReadyH.cons (o := ({ dst := some 14, op := Op.buildSlice 111 3 #[(0, Operand.tmp 7), (1, Operand.tmp 10), (2, Operand.tmp 13)], type := 111, pos := "event.go:184", after := #[{ on := 3, ground := Ground.data }, { on := 6, ground := Ground.data }, { on := 9, ground := Ground.data }], guard := none } : Oper)) rfl (fun K hK => ?_) AllReadyH.nil
  rw [if_pos (by rfl)]
  go_simp
  refine hK.out _ _ trivial (fun hHeld => ?_)
  clear hK
  (try simp only [Act.put, List.setIfInBounds_toArray, List.set_cons_zero, List.set_cons_succ])
  refine wpAnyH_ready (rs := [11]) (by kernel_rfl) (by simp) ?_
  refine AllReadyH.cons (o := ({ dst := some 15, op := Op.call { callee := Callee.value (Operand.func 54), args := #[Operand.tmp 4, Operand.tmp 14], argTypes := #[92, 111] }, type := 0, pos := "event.go:184", after := #[{ on := 0, ground := Ground.data }, { on := 10, ground := Ground.data }], guard := none } : Oper)) rfl (fun K hK => ?_) AllReadyH.nil
  rw [if_pos (by rfl)]
  go_simp
  refine (whole_lit i g w1a.heap.size 3 (xs) [(⟨b, o + 0, none⟩, c.mi), (⟨b, o + 1, none⟩, c.ma), (⟨b, o + 2, none⟩, c.ra)] H1a.out hi (by have v0 := vb_len (zig c.mi); have v1 := vb_len (zig c.ma); have v2 := vb_len (zig c.ra); have v3 := vb_len (zig c.st); have v4 := vb_len (zig c.ca); have v5 := vb_len (zig c.de); have v6 := vb_len (zig c.sl); have v7 := vb_len (zig c.wi); have v8 := vb_len (zig c.mg); have v9 := vb_len (zig c.ce); have v10 := vb_len (zig c.pr); have v11 := vb_len (zig c.br); simp only [List.length_append, List.length_cons, List.length_nil] at *; omega) (fun ys w' hS k hk => ?sa) (by have q0 := HX.out.mi; have q1 := HX.out.ma; have q2 := HX.out.ra; simp [I64] at *; omega) rfl rfl 96).mono ?_
  case sa => rcases k with _ | _ | _ | k
             · exact ⟨(HST.out ys w' hS).mi, (HST.out ys w' hS).Fmi⟩
             · exact ⟨(HST.out ys w' hS).ma, (HST.out ys w' hS).Fma⟩
             · exact ⟨(HST.out ys w' hS).ra, (HST.out ys w' hS).Fra⟩
             · simp at hk; omega
  rintro e w2 ⟨rfl, h2⟩
  simp only [encN, List.flatMap_cons, List.flatMap_nil, List.append_nil] at h2
  have H2a := Aside0.mk h2
  clear h2
  go_simp
  refine hK.out _ _ trivial (fun hHeld => ?_)
  clear hK
  (try simp only [Act.put, List.setIfInBounds_toArray, List.set_cons_zero, List.set_cons_succ])
  refine wpAnyH_done (by kernel_rfl) ?_ _
  refine NoPanic.normal ?_
  clear Hz H1a
  go_upto_region 1 with fail
  have H1b := Aside0.mk (H2a.out.below (below_drew (Below.refl _ _)))
  refine wp_region_noPanic ?_
  refine wp_region_held_drew (S := fun _ => True) (by kernel_rfl) trivial (fun hHeld => ?_)
  generalize w2.drew = w1b at *
  refine wpAnyH_take (i := 0) (oi := ({ dst := some 16, op := Op.move (Operand.tmp 0), type := 92, pos := "event.go:185", after := #[], guard := none } : Oper)) (v := ?_) rfl (by kernel_rfl) (by kernel_rfl) (by kernel_rfl) (fun _ _ _ h => h) (Or.inl ⟨by rfl, ?hyTb0⟩) (by assumption) ?rsTb0
  case hyTb0 => (intro w8' hSw; (try dsimp only at hSw); go_simp; (first | done | with_reducible rfl))
  (try simp only [Act.put, List.setIfInBounds_toArray, List.set_cons_zero, List.set_cons_succ])
  refine wpAnyH_take (i := 1) (oi := ({ dst := some 17, op := Op.move (Operand.tmp 1), type := 100, pos := "event.go:185", after := #[], guard := none } : Oper)) (v := ?_) rfl (by kernel_rfl) (by kernel_rfl) (by kernel_rfl) (fun _ _ _ h => h) (Or.inl ⟨by rfl, ?hyTb1⟩) (by assumption) ?rsTb1
  case hyTb1 => (intro w8' hSw; (try dsimp only at hSw); go_simp; (first | done | with_reducible rfl))
  (try simp only [Act.put, List.setIfInBounds_toArray, List.set_cons_zero, List.set_cons_succ])
  refine wpAnyH_take (i := 2) (oi := ({ dst := some 18, op := Op.nilCheck (Operand.tmp 17), type := 0, pos := "event.go:185", after := #[{ on := 1, ground := Ground.data }], guard := none } : Oper)) (v := ?_) rfl (by kernel_rfl) (by kernel_rfl) (by kernel_rfl) (fun _ _ _ h => h) (Or.inl ⟨by rfl, ?hyTb2⟩) (by assumption) ?rsTb2
  case hyTb2 => (intro w8' hSw; (try dsimp only at hSw); go_simp; (first | done | with_reducible rfl))
  (try simp only [Act.put, List.setIfInBounds_toArray, List.set_cons_zero, List.set_cons_succ])
  refine wpAnyH_take (i := 3) (oi := ({ dst := some 19, op := Op.fieldAddr 27 (Operand.tmp 18) 3, type := 0, pos := "event.go:185", after := #[{ on := 2, ground := Ground.data }], guard := none } : Oper)) (v := ?_) rfl (by kernel_rfl) (by kernel_rfl) (by kernel_rfl) (fun _ _ _ h => h) (Or.inl ⟨by rfl, ?hyTb3⟩) (by assumption) ?rsTb3
  case hyTb3 => (intro w8' hSw; (try dsimp only at hSw); go_simp; (first | done | with_reducible rfl))
  (try simp only [Act.put, List.setIfInBounds_toArray, List.set_cons_zero, List.set_cons_succ])
  refine wpAnyH_take (i := 4) (oi := ({ dst := some 20, op := Op.move (Operand.tmp 1), type := 100, pos := "event.go:185", after := #[], guard := none } : Oper)) (v := ?_) rfl (by kernel_rfl) (by kernel_rfl) (by kernel_rfl) (fun _ _ _ h => h) (Or.inl ⟨by rfl, ?hyTb4⟩) (by assumption) ?rsTb4
  case hyTb4 => (intro w8' hSw; (try dsimp only at hSw); go_simp; (first | done | with_reducible rfl))
  (try simp only [Act.put, List.setIfInBounds_toArray, List.set_cons_zero, List.set_cons_succ])
  refine wpAnyH_take (i := 5) (oi := ({ dst := some 21, op := Op.nilCheck (Operand.tmp 20), type := 0, pos := "event.go:185", after := #[{ on := 4, ground := Ground.data }], guard := none } : Oper)) (v := ?_) rfl (by kernel_rfl) (by kernel_rfl) (by kernel_rfl) (fun _ _ _ h => h) (Or.inl ⟨by rfl, ?hyTb5⟩) (by assumption) ?rsTb5
  case hyTb5 => (intro w8' hSw; (try dsimp only at hSw); go_simp; (first | done | with_reducible rfl))
  (try simp only [Act.put, List.setIfInBounds_toArray, List.set_cons_zero, List.set_cons_succ])
  refine wpAnyH_take (i := 6) (oi := ({ dst := some 22, op := Op.fieldAddr 27 (Operand.tmp 21) 4, type := 0, pos := "event.go:185", after := #[{ on := 5, ground := Ground.data }], guard := none } : Oper)) (v := ?_) rfl (by kernel_rfl) (by kernel_rfl) (by kernel_rfl) (fun _ _ _ h => h) (Or.inl ⟨by rfl, ?hyTb6⟩) (by assumption) ?rsTb6
  case hyTb6 => (intro w8' hSw; (try dsimp only at hSw); go_simp; (first | done | with_reducible rfl))
  (try simp only [Act.put, List.setIfInBounds_toArray, List.set_cons_zero, List.set_cons_succ])
  refine wpAnyH_ready (rs := [7]) (by kernel_rfl) (by simp) ?_
  refine AllReadyH.cons (o := ({ dst := some 23, op := Op.buildSlice 109 2 #[(0, Operand.tmp 19), (1, Operand.tmp 22)], type := 109, pos := "event.go:185", after := #[{ on := 3, ground := Ground.data }, { on := 6, ground := Ground.data }], guard := none } : Oper)) rfl (fun K hK => ?_) AllReadyH.nil
  rw [if_pos (by rfl)]
  go_simp
  refine hK.out _ _ trivial (fun hHeld => ?_)
  clear hK
  (try simp only [Act.put, List.setIfInBounds_toArray, List.set_cons_zero, List.set_cons_succ])
  refine wpAnyH_ready (rs := [8]) (by kernel_rfl) (by simp) ?_
  refine AllReadyH.cons (o := ({ dst := some 24, op := Op.call { callee := Callee.value (Operand.func 53), args := #[Operand.tmp 16, Operand.tmp 23], argTypes := #[92, 109] }, type := 0, pos := "event.go:185", after := #[{ on := 0, ground := Ground.data }, { on := 7, ground := Ground.data }], guard := none } : Oper)) rfl (fun K hK => ?_) AllReadyH.nil
  rw [if_pos (by rfl)]
  go_simp
  refine (nums_lit i g w1b.heap.size 2 ((xs) ++ (vb (zig c.mi) ++ (vb (zig c.ma) ++ vb (zig c.ra)))) [(⟨b, o + 3, none⟩, c.st), (⟨b, o + 4, none⟩, c.ca)] H1b.out hi (by have v0 := vb_len (zig c.mi); have v1 := vb_len (zig c.ma); have v2 := vb_len (zig c.ra); have v3 := vb_len (zig c.st); have v4 := vb_len (zig c.ca); have v5 := vb_len (zig c.de); have v6 := vb_len (zig c.sl); have v7 := vb_len (zig c.wi); have v8 := vb_len (zig c.mg); have v9 := vb_len (zig c.ce); have v10 := vb_len (zig c.pr); have v11 := vb_len (zig c.br); simp only [List.length_append, List.length_cons, List.length_nil] at *; omega) (fun ys w' hS k hk => ?sb) (by have q0 := HX.out.st; have q1 := HX.out.ca; simp [I64] at *; omega) rfl rfl 94).mono ?_
  case sb => rcases k with _ | _ | k
             · exact (HST.out ys w' hS).st
             · exact (HST.out ys w' hS).ca
             · simp at hk; omega
  rintro e w3 ⟨rfl, h2⟩
  simp only [encN, List.flatMap_cons, List.flatMap_nil, List.append_nil] at h2
  have H2b := Aside0.mk h2
  clear h2
  go_simp
  refine hK.out _ _ trivial (fun hHeld => ?_)
  clear hK
  (try simp only [Act.put, List.setIfInBounds_toArray, List.set_cons_zero, List.set_cons_succ])
  refine wpAnyH_done (by kernel_rfl) ?_ _
  refine NoPanic.normal ?_
  clear H2a H1b
  go_wp2_with fail
  refine (whole_lit i g w3.heap.size 1 (((xs) ++ (vb (zig c.mi) ++ (vb (zig c.ma) ++ vb (zig c.ra)))) ++ (vb (zig c.st) ++ vb (zig c.ca))) [(⟨b, o + 5, none⟩, c.de)] H2b.out hi (by have v0 := vb_len (zig c.mi); have v1 := vb_len (zig c.ma); have v2 := vb_len (zig c.ra); have v3 := vb_len (zig c.st); have v4 := vb_len (zig c.ca); have v5 := vb_len (zig c.de); have v6 := vb_len (zig c.sl); have v7 := vb_len (zig c.wi); have v8 := vb_len (zig c.mg); have v9 := vb_len (zig c.ce); have v10 := vb_len (zig c.pr); have v11 := vb_len (zig c.br); simp only [List.length_append, List.length_cons, List.length_nil] at *; omega) (fun ys w' hS k hk => ?sc) (by have q0 := HX.out.de; simp [I64] at *; omega) rfl rfl 96).mono ?_
  case sc => obtain rfl : k = 0 := by simpa using hk
             exact ⟨(HST.out ys w' hS).de, (HST.out ys w' hS).Fde⟩
  rintro e w4 ⟨rfl, h2⟩
  simp only [encN, List.flatMap_cons, List.flatMap_nil, List.append_nil] at h2
  have H2c := Aside0.mk h2
  clear h2
  clear H2b
  go_wp2_with fail
  refine (nums_lit i g w4.heap.size 1 ((((xs) ++ (vb (zig c.mi) ++ (vb (zig c.ma) ++ vb (zig c.ra)))) ++ (vb (zig c.st) ++ vb (zig c.ca))) ++ vb (zig c.de)) [(⟨b, o + 6, none⟩, c.sl)] H2c.out hi (by have v0 := vb_len (zig c.mi); have v1 := vb_len (zig c.ma); have v2 := vb_len (zig c.ra); have v3 := vb_len (zig c.st); have v4 := vb_len (zig c.ca); have v5 := vb_len (zig c.de); have v6 := vb_len (zig c.sl); have v7 := vb_len (zig c.wi); have v8 := vb_len (zig c.mg); have v9 := vb_len (zig c.ce); have v10 := vb_len (zig c.pr); have v11 := vb_len (zig c.br); simp only [List.length_append, List.length_cons, List.length_nil] at *; omega) (fun ys w' hS k hk => ?sd) (by have q0 := HX.out.sl; simp [I64] at *; omega) rfl rfl 94).mono ?_
  case sd => obtain rfl : k = 0 := by simpa using hk
             exact (HST.out ys w' hS).sl
  rintro e w5 ⟨rfl, h2⟩
  simp only [encN, List.flatMap_cons, List.flatMap_nil, List.append_nil] at h2
  have H2d := Aside0.mk h2
  clear h2
  clear H2c
  go_wp2_with fail
  refine (whole_lit i g w5.heap.size 1 (((((xs) ++ (vb (zig c.mi) ++ (vb (zig c.ma) ++ vb (zig c.ra)))) ++ (vb (zig c.st) ++ vb (zig c.ca))) ++ vb (zig c.de)) ++ vb (zig c.sl)) [(⟨b, o + 7, none⟩, c.wi)] H2d.out hi (by have v0 := vb_len (zig c.mi); have v1 := vb_len (zig c.ma); have v2 := vb_len (zig c.ra); have v3 := vb_len (zig c.st); have v4 := vb_len (zig c.ca); have v5 := vb_len (zig c.de); have v6 := vb_len (zig c.sl); have v7 := vb_len (zig c.wi); have v8 := vb_len (zig c.mg); have v9 := vb_len (zig c.ce); have v10 := vb_len (zig c.pr); have v11 := vb_len (zig c.br); simp only [List.length_append, List.length_cons, List.length_nil] at *; omega) (fun ys w' hS k hk => ?se) (by have q0 := HX.out.wi; simp [I64] at *; omega) rfl rfl 96).mono ?_
  case se => obtain rfl : k = 0 := by simpa using hk
             exact ⟨(HST.out ys w' hS).wi, (HST.out ys w' hS).Fwi⟩
  rintro e w6 ⟨rfl, h2⟩
  simp only [encN, List.flatMap_cons, List.flatMap_nil, List.append_nil] at h2
  have H2e := Aside0.mk h2
  clear h2
  clear H2d
  go_wp2_with fail
  refine (nums_lit i g w6.heap.size 1 ((((((xs) ++ (vb (zig c.mi) ++ (vb (zig c.ma) ++ vb (zig c.ra)))) ++ (vb (zig c.st) ++ vb (zig c.ca))) ++ vb (zig c.de)) ++ vb (zig c.sl)) ++ vb (zig c.wi)) [(⟨b, o + 8, none⟩, c.mg)] H2e.out hi (by have v0 := vb_len (zig c.mi); have v1 := vb_len (zig c.ma); have v2 := vb_len (zig c.ra); have v3 := vb_len (zig c.st); have v4 := vb_len (zig c.ca); have v5 := vb_len (zig c.de); have v6 := vb_len (zig c.sl); have v7 := vb_len (zig c.wi); have v8 := vb_len (zig c.mg); have v9 := vb_len (zig c.ce); have v10 := vb_len (zig c.pr); have v11 := vb_len (zig c.br); simp only [List.length_append, List.length_cons, List.length_nil] at *; omega) (fun ys w' hS k hk => ?sf) (by have q0 := HX.out.mg; simp [I64] at *; omega) rfl rfl 94).mono ?_
  case sf => obtain rfl : k = 0 := by simpa using hk
             exact (HST.out ys w' hS).mg
  rintro e w7 ⟨rfl, h2⟩
  simp only [encN, List.flatMap_cons, List.flatMap_nil, List.append_nil] at h2
  have H2f := Aside0.mk h2
  clear h2
  clear H2e
  go_upto_region 6 with fail
  have H1g := Aside0.mk (H2f.out.below (below_drew (Below.refl _ _)))
  refine wp_region_noPanic ?_
  refine wp_region_held_drew (S := fun _ => True) (by kernel_rfl) trivial (fun hHeld => ?_)
  generalize w7.drew = w1g at *
  refine wpAnyH_take (i := 0) (oi := ({ dst := some 49, op := Op.move (Operand.tmp 0), type := 92, pos := "event.go:190", after := #[], guard := none } : Oper)) (v := ?_) rfl (by kernel_rfl) (by kernel_rfl) (by kernel_rfl) (fun _ _ _ h => h) (Or.inl ⟨by rfl, ?hyTg0⟩) (by assumption) ?rsTg0
  case hyTg0 => (intro w8' hSw; (try dsimp only at hSw); go_simp; (first | done | with_reducible rfl))
  (try simp only [Act.put, List.setIfInBounds_toArray, List.set_cons_zero, List.set_cons_succ])
  refine wpAnyH_take (i := 1) (oi := ({ dst := some 50, op := Op.move (Operand.tmp 1), type := 100, pos := "event.go:190", after := #[], guard := none } : Oper)) (v := ?_) rfl (by kernel_rfl) (by kernel_rfl) (by kernel_rfl) (fun _ _ _ h => h) (Or.inl ⟨by rfl, ?hyTg1⟩) (by assumption) ?rsTg1
  case hyTg1 => (intro w8' hSw; (try dsimp only at hSw); go_simp; (first | done | with_reducible rfl))
  (try simp only [Act.put, List.setIfInBounds_toArray, List.set_cons_zero, List.set_cons_succ])
  refine wpAnyH_take (i := 2) (oi := ({ dst := some 51, op := Op.nilCheck (Operand.tmp 50), type := 0, pos := "event.go:190", after := #[{ on := 1, ground := Ground.data }], guard := none } : Oper)) (v := ?_) rfl (by kernel_rfl) (by kernel_rfl) (by kernel_rfl) (fun _ _ _ h => h) (Or.inl ⟨by rfl, ?hyTg2⟩) (by assumption) ?rsTg2
  case hyTg2 => (intro w8' hSw; (try dsimp only at hSw); go_simp; (first | done | with_reducible rfl))
  (try simp only [Act.put, List.setIfInBounds_toArray, List.set_cons_zero, List.set_cons_succ])
  refine wpAnyH_take (i := 3) (oi := ({ dst := some 52, op := Op.fieldAddr 27 (Operand.tmp 51) 9, type := 0, pos := "event.go:190", after := #[{ on := 2, ground := Ground.data }], guard := none } : Oper)) (v := ?_) rfl (by kernel_rfl) (by kernel_rfl) (by kernel_rfl) (fun _ _ _ h => h) (Or.inl ⟨by rfl, ?hyTg3⟩) (by assumption) ?rsTg3
  case hyTg3 => (intro w8' hSw; (try dsimp only at hSw); go_simp; (first | done | with_reducible rfl))
  (try simp only [Act.put, List.setIfInBounds_toArray, List.set_cons_zero, List.set_cons_succ])
  refine wpAnyH_take (i := 4) (oi := ({ dst := some 53, op := Op.move (Operand.tmp 1), type := 100, pos := "event.go:190", after := #[], guard := none } : Oper)) (v := ?_) rfl (by kernel_rfl) (by kernel_rfl) (by kernel_rfl) (fun _ _ _ h => h) (Or.inl ⟨by rfl, ?hyTg4⟩) (by assumption) ?rsTg4
  case hyTg4 => (intro w8' hSw; (try dsimp only at hSw); go_simp; (first | done | with_reducible rfl))
  (try simp only [Act.put, List.setIfInBounds_toArray, List.set_cons_zero, List.set_cons_succ])
  refine wpAnyH_take (i := 5) (oi := ({ dst := some 54, op := Op.nilCheck (Operand.tmp 53), type := 0, pos := "event.go:190", after := #[{ on := 4, ground := Ground.data }], guard := none } : Oper)) (v := ?_) rfl (by kernel_rfl) (by kernel_rfl) (by kernel_rfl) (fun _ _ _ h => h) (Or.inl ⟨by rfl, ?hyTg5⟩) (by assumption) ?rsTg5
  case hyTg5 => (intro w8' hSw; (try dsimp only at hSw); go_simp; (first | done | with_reducible rfl))
  (try simp only [Act.put, List.setIfInBounds_toArray, List.set_cons_zero, List.set_cons_succ])
  refine wpAnyH_take (i := 6) (oi := ({ dst := some 55, op := Op.fieldAddr 27 (Operand.tmp 54) 10, type := 0, pos := "event.go:190", after := #[{ on := 5, ground := Ground.data }], guard := none } : Oper)) (v := ?_) rfl (by kernel_rfl) (by kernel_rfl) (by kernel_rfl) (fun _ _ _ h => h) (Or.inl ⟨by rfl, ?hyTg6⟩) (by assumption) ?rsTg6
  case hyTg6 => (intro w8' hSw; (try dsimp only at hSw); go_simp; (first | done | with_reducible rfl))
  (try simp only [Act.put, List.setIfInBounds_toArray, List.set_cons_zero, List.set_cons_succ])
  refine wpAnyH_take (i := 7) (oi := ({ dst := some 56, op := Op.move (Operand.tmp 1), type := 100, pos := "event.go:190", after := #[], guard := none } : Oper)) (v := ?_) rfl (by kernel_rfl) (by kernel_rfl) (by kernel_rfl) (fun _ _ _ h => h) (Or.inl ⟨by rfl, ?hyTg7⟩) (by assumption) ?rsTg7
  case hyTg7 => (intro w8' hSw; (try dsimp only at hSw); go_simp; (first | done | with_reducible rfl))
  (try simp only [Act.put, List.setIfInBounds_toArray, List.set_cons_zero, List.set_cons_succ])
  refine wpAnyH_take (i := 8) (oi := ({ dst := some 57, op := Op.nilCheck (Operand.tmp 56), type := 0, pos := "event.go:190", after := #[{ on := 7, ground := Ground.data }], guard := none } : Oper)) (v := ?_) rfl (by kernel_rfl) (by kernel_rfl) (by kernel_rfl) (fun _ _ _ h => h) (Or.inl ⟨by rfl, ?hyTg8⟩) (by assumption) ?rsTg8
  case hyTg8 => (intro w8' hSw; (try dsimp only at hSw); go_simp; (first | done | with_reducible rfl))
  (try simp only [Act.put, List.setIfInBounds_toArray, List.set_cons_zero, List.set_cons_succ])
  refine wpAnyH_take (i := 9) (oi := ({ dst := some 58, op := Op.fieldAddr 27 (Operand.tmp 57) 11, type := 0, pos := "event.go:190", after := #[{ on := 8, ground := Ground.data }], guard := none } : Oper)) (v := ?_) rfl (by kernel_rfl) (by kernel_rfl) (by kernel_rfl) (fun _ _ _ h => h) (Or.inl ⟨by rfl, ?hyTg9⟩) (by assumption) ?rsTg9
  case hyTg9 => (intro w8' hSw; (try dsimp only at hSw); go_simp; (first | done | with_reducible rfl))
  (try simp only [Act.put, List.setIfInBounds_toArray, List.set_cons_zero, List.set_cons_succ])
  refine wpAnyH_ready (rs := [10]) (by kernel_rfl) (by simp) ?_
  refine AllReadyH.cons (o := ({ dst := some 59, op := Op.buildSlice 111 3 #[(0, Operand.tmp 52), (1, Operand.tmp 55), (2, Operand.tmp 58)], type := 111, pos := "event.go:190", after := #[{ on := 3, ground := Ground.data }, { on := 6, ground := Ground.data }, { on := 9, ground := Ground.data }], guard := none } : Oper)) rfl (fun K hK => ?_) AllReadyH.nil
  rw [if_pos (by rfl)]
  go_simp
  refine hK.out _ _ trivial (fun hHeld => ?_)
  clear hK
  (try simp only [Act.put, List.setIfInBounds_toArray, List.set_cons_zero, List.set_cons_succ])
  refine wpAnyH_ready (rs := [11]) (by kernel_rfl) (by simp) ?_
  refine AllReadyH.cons (o := ({ dst := some 60, op := Op.call { callee := Callee.value (Operand.func 54), args := #[Operand.tmp 49, Operand.tmp 59], argTypes := #[92, 111] }, type := 0, pos := "event.go:190", after := #[{ on := 0, ground := Ground.data }, { on := 10, ground := Ground.data }], guard := none } : Oper)) rfl (fun K hK => ?_) AllReadyH.nil
  rw [if_pos (by rfl)]
  go_simp
  refine (whole_lit i g w1g.heap.size 3 (((((((xs) ++ (vb (zig c.mi) ++ (vb (zig c.ma) ++ vb (zig c.ra)))) ++ (vb (zig c.st) ++ vb (zig c.ca))) ++ vb (zig c.de)) ++ vb (zig c.sl)) ++ vb (zig c.wi)) ++ vb (zig c.mg)) [(⟨b, o + 9, none⟩, c.ce), (⟨b, o + 10, none⟩, c.pr), (⟨b, o + 11, none⟩, c.br)] H1g.out hi (by have v0 := vb_len (zig c.mi); have v1 := vb_len (zig c.ma); have v2 := vb_len (zig c.ra); have v3 := vb_len (zig c.st); have v4 := vb_len (zig c.ca); have v5 := vb_len (zig c.de); have v6 := vb_len (zig c.sl); have v7 := vb_len (zig c.wi); have v8 := vb_len (zig c.mg); have v9 := vb_len (zig c.ce); have v10 := vb_len (zig c.pr); have v11 := vb_len (zig c.br); simp only [List.length_append, List.length_cons, List.length_nil] at *; omega) (fun ys w' hS k hk => ?sg) (by have q0 := HX.out.ce; have q1 := HX.out.pr; have q2 := HX.out.br; simp [I64] at *; omega) rfl rfl 96).mono ?_
  case sg => rcases k with _ | _ | _ | k
             · exact ⟨(HST.out ys w' hS).ce, (HST.out ys w' hS).Fce⟩
             · exact ⟨(HST.out ys w' hS).pr, (HST.out ys w' hS).Fpr⟩
             · exact ⟨(HST.out ys w' hS).br, (HST.out ys w' hS).Fbr⟩
             · simp at hk; omega
  rintro e w8 ⟨rfl, h2⟩
  simp only [encN, List.flatMap_cons, List.flatMap_nil, List.append_nil] at h2
  have H2g := Aside0.mk h2
  clear h2
  go_simp
  refine hK.out _ _ trivial (fun hHeld => ?_)
  clear hK
  (try simp only [Act.put, List.setIfInBounds_toArray, List.set_cons_zero, List.set_cons_succ])
  refine wpAnyH_done (by kernel_rfl) ?_ _
  refine NoPanic.normal ?_
  clear H2f H1g
  go_wp2_with fail
  go_end0
  exact ⟨rfl, H2g.out⟩
end Go.Proofs.Ytldohapdhljoaaa.Wire
namespace Go.Proofs.Ytldohapdhljoaaa.Wire
open Go.RowKit Go.Proofs.YtldohapdhljoaaaW.PrintWords Go.Proofs.Ytldohapdhljoaaa.Obj Go.Proofs.Ytldohapdhljoaaa.Print
set_option linter.unusedVariables false
set_option linter.unusedSimpArgs false
set_option maxRecDepth 100000
variable {TY : TypeId}
structure EvMem (e : Ev) (b : Nat) (A2 A7 : Option Addr) (ad2 ad7 : Addr) (c2 c7 : Nat) (w : World) : Prop where
  k : w.cell? ⟨b, 0, none⟩ = some (.int .i64 e.k)
  u : w.cell? ⟨b, 1, none⟩ = some (.int .i64 e.u)
  dm : w.cell? ⟨b, 2, none⟩ = some (.int .i64 e.dm)
  T : w.cell? ⟨b, 3, none⟩ = some (.int .i64 e.T)
  id : w.cell? ⟨b, 4, none⟩ = some (.int .i64 e.id)
  n : w.cell? ⟨b, 5, none⟩ = some (.int .i64 e.n)
  Fid : w.frozen? ⟨b, 4, none⟩ = false
  Fn : w.frozen? ⟨b, 5, none⟩ = false
  pol : PolMem e.pol b 6 A2 A7 ad2 ad7 c2 c7 w
  cnf : CnfMem e.c b 14 w
structure EvIn (e : Ev) : Prop where
  u : I64 e.u
  dm : I64 e.dm
  T : I64 e.T
  id : I64 e.id
  n : I64 e.n
  pol : PolIn e.pol
  cnf : CnfIn e.c
set_option maxHeartbeats 8000000 in
theorem code1_w {w0 w : World} {As : List Asr} (i g b : Nat) (e : Ev) (A2 A7 : Option Addr) (ad2 ad7 : Addr) (c2 c7 : Nat) (xs : List Int) (h : St w0 (As.set i (wrA TY g xs)) w) (hi : i < As.length) (hl : xs.length + 20 * e.pol.bs.length + 20 * e.pol.ss.length + 400 ≤ 1000000000)
    (hst : ∀ ys w', St w0 (As.set i (wrA TY g ys)) w' → EvMem e b A2 A7 ad2 ad7 c2 c7 w') (hx : EvIn e) (h2 : 0 < e.pol.bs.length → A2 = some ad2) (h7 : 0 < e.pol.ss.length → A7 = some ad7) (hk : e.k = 1) :
    Calls Try.prog 25 #[.iface 75 (.pointer (some ⟨g, 0, none⟩)), .pointer (some ⟨b, 0, none⟩)] w fun r w' => r = .returned (.bool true) ∧ St w0 (As.set i (wrA TY g (xs ++ (vb (zig e.u) ++ vb (zig e.dm))))) w' := by
  have hu30 := Try.underlying30
  have HX := Aside0.mk hx
  have HST := Aside0.mk hst
  have HA2 := Aside0.mk h2
  have HA7 := Aside0.mk h7
  have Hz := Aside0.mk h
  have ck := (hst xs w h).k
  have b1 : (e.k == 1) = true := beq_iff_eq.2 hk
  clear h hst hx h2 h7 hk
  go_enter Try.func25, Try.ntmps25
  go_upto_region 4 with fail
  have H1 := Aside0.mk (Hz.out.below (below_drew (Below.refl _ _)))
  refine wp_region_noPanic ?_
  refine wp_region_held_drew (S := fun _ => True) (by kernel_rfl) trivial (fun hHeld => ?_)
  generalize w.drew = w1 at *
  clear ck
  refine wpAnyH_take (i := 0) (oi := ({ dst := some 11, op := Op.move (Operand.tmp 0), type := 92, pos := "event.go:197", after := #[], guard := none } : Oper)) (v := ?_) rfl (by kernel_rfl) (by kernel_rfl) (by kernel_rfl) (fun _ _ _ h => h) (Or.inl ⟨by rfl, ?hyT0⟩) (by assumption) ?rsT0
  case hyT0 => (intro w8' hSw; (try dsimp only at hSw); go_simp; (first | done | with_reducible rfl))
  (try simp only [Act.put, List.setIfInBounds_toArray, List.set_cons_zero, List.set_cons_succ])
  refine wpAnyH_take (i := 1) (oi := ({ dst := some 12, op := Op.move (Operand.tmp 1), type := 56, pos := "event.go:197", after := #[], guard := none } : Oper)) (v := ?_) rfl (by kernel_rfl) (by kernel_rfl) (by kernel_rfl) (fun _ _ _ h => h) (Or.inl ⟨by rfl, ?hyT1⟩) (by assumption) ?rsT1
  case hyT1 => (intro w8' hSw; (try dsimp only at hSw); go_simp; (first | done | with_reducible rfl))
  (try simp only [Act.put, List.setIfInBounds_toArray, List.set_cons_zero, List.set_cons_succ])
  refine wpAnyH_take (i := 2) (oi := ({ dst := some 13, op := Op.nilCheck (Operand.tmp 12), type := 0, pos := "event.go:197", after := #[{ on := 1, ground := Ground.data }], guard := none } : Oper)) (v := ?_) rfl (by kernel_rfl) (by kernel_rfl) (by kernel_rfl) (fun _ _ _ h => h) (Or.inl ⟨by rfl, ?hyT2⟩) (by assumption) ?rsT2
  case hyT2 => (intro w8' hSw; (try dsimp only at hSw); go_simp; (first | done | with_reducible rfl))
  (try simp only [Act.put, List.setIfInBounds_toArray, List.set_cons_zero, List.set_cons_succ])
  refine wpAnyH_take (i := 3) (oi := ({ dst := some 14, op := Op.fieldAddr 30 (Operand.tmp 13) 1, type := 0, pos := "event.go:197", after := #[{ on := 2, ground := Ground.data }], guard := none } : Oper)) (v := ?_) rfl (by kernel_rfl) (by kernel_rfl) (by kernel_rfl) (fun _ _ _ h => h) (Or.inl ⟨by rfl, ?hyT3⟩) (by assumption) ?rsT3
  case hyT3 => (intro w8' hSw; (try dsimp only at hSw); go_simp; (first | done | with_reducible rfl))
  (try simp only [Act.put, List.setIfInBounds_toArray, List.set_cons_zero, List.set_cons_succ])
  refine wpAnyH_take (i := 4) (oi := ({ dst := some 15, op := Op.move (Operand.tmp 1), type := 56, pos := "event.go:197", after := #[], guard := none } : Oper)) (v := ?_) rfl (by kernel_rfl) (by kernel_rfl) (by kernel_rfl) (fun _ _ _ h => h) (Or.inl ⟨by rfl, ?hyT4⟩) (by assumption) ?rsT4
  case hyT4 => (intro w8' hSw; (try dsimp only at hSw); go_simp; (first | done | with_reducible rfl))
  (try simp only [Act.put, List.setIfInBounds_toArray, List.set_cons_zero, List.set_cons_succ])
  refine wpAnyH_take (i := 5) (oi := ({ dst := some 16, op := Op.nilCheck (Operand.tmp 15), type := 0, pos := "event.go:197", after := #[{ on := 4, ground := Ground.data }], guard := none } : Oper)) (v := ?_) rfl (by kernel_rfl) (by kernel_rfl) (by kernel_rfl) (fun _ _ _ h => h) (Or.inl ⟨by rfl, ?hyT5⟩) (by assumption) ?rsT5
  case hyT5 => (intro w8' hSw; (try dsimp only at hSw); go_simp; (first | done | with_reducible rfl))
  (try simp only [Act.put, List.setIfInBounds_toArray, List.set_cons_zero, List.set_cons_succ])
  refine wpAnyH_take (i := 6) (oi := ({ dst := some 17, op := Op.fieldAddr 30 (Operand.tmp 16) 2, type := 0, pos := "event.go:197", after := #[{ on := 5, ground := Ground.data }], guard := none } : Oper)) (v := ?_) rfl (by kernel_rfl) (by kernel_rfl) (by kernel_rfl) (fun _ _ _ h => h) (Or.inl ⟨by rfl, ?hyT6⟩) (by assumption) ?rsT6
  case hyT6 => (intro w8' hSw; (try dsimp only at hSw); go_simp; (first | done | with_reducible rfl))
  (try simp only [Act.put, List.setIfInBounds_toArray, List.set_cons_zero, List.set_cons_succ])
  refine wpAnyH_ready (rs := [7]) (by kernel_rfl) (by simp) ?_
  refine AllReadyH.cons (o := ({ dst := some 18, op := Op.buildSlice 109 2 #[(0, Operand.tmp 14), (1, Operand.tmp 17)], type := 109, pos := "event.go:197", after := #[{ on := 3, ground := Ground.data }, { on := 6, ground := Ground.data }], guard := none } : Oper)) rfl (fun K hK => ?_) AllReadyH.nil
  rw [if_pos (by rfl)]
  go_simp
  refine hK.out _ _ trivial (fun hHeld => ?_)
  clear hK
  (try simp only [Act.put, List.setIfInBounds_toArray, List.set_cons_zero, List.set_cons_succ])
  refine wpAnyH_ready (rs := [8]) (by kernel_rfl) (by simp) ?_
  refine AllReadyH.cons (o := ({ dst := some 19, op := Op.call { callee := Callee.value (Operand.func 53), args := #[Operand.tmp 11, Operand.tmp 18], argTypes := #[92, 109] }, type := 0, pos := "event.go:197", after := #[{ on := 0, ground := Ground.data }, { on := 7, ground := Ground.data }], guard := none } : Oper)) rfl (fun K hK => ?_) AllReadyH.nil
  rw [if_pos (by rfl)]
  go_simp
  refine (nums_lit i g w1.heap.size 2 (xs) [(⟨b, 1, none⟩, e.u), (⟨b, 2, none⟩, e.dm)] H1.out hi (by have v1 := vb_len (zig e.u); have v2 := vb_len (zig e.dm); have v3 := vb_len (zig e.T); have v4 := vb_len (zig e.id); have v5 := vb_len (zig e.n); simp only [List.length_append, List.length_cons, List.length_nil] at *; omega) (fun ys w' hS k hk => ?sq1) (by have q0 := HX.out.u; have q1 := HX.out.dm; simp [I64] at *; omega) rfl rfl 94).mono ?_
  case sq1 => rcases k with _ | _ | k
              · exact (HST.out ys w' hS).u
              · exact (HST.out ys w' hS).dm
              · simp at hk; omega
  rintro r_ w2 ⟨rfl, h2⟩
  simp only [encN, List.flatMap_cons, List.flatMap_nil, List.append_nil] at h2
  have Hw2 := Aside0.mk h2
  clear h2
  go_simp
  refine hK.out _ _ trivial (fun hHeld => ?_)
  clear hK
  (try simp only [Act.put, List.setIfInBounds_toArray, List.set_cons_zero, List.set_cons_succ])
  refine wpAnyH_done (by kernel_rfl) ?_ _
  refine NoPanic.normal ?_
  go_wp2_with fail
  go_ret
  exact ⟨rfl, Hw2.out⟩
set_option maxHeartbeats 8000000 in
theorem code2_w {w0 w : World} {As : List Asr} (i g b : Nat) (e : Ev) (A2 A7 : Option Addr) (ad2 ad7 : Addr) (c2 c7 : Nat) (xs : List Int) (h : St w0 (As.set i (wrA TY g xs)) w) (hi : i < As.length) (hl : xs.length + 20 * e.pol.bs.length + 20 * e.pol.ss.length + 400 ≤ 1000000000)
    (hst : ∀ ys w', St w0 (As.set i (wrA TY g ys)) w' → EvMem e b A2 A7 ad2 ad7 c2 c7 w') (hx : EvIn e) (h2 : 0 < e.pol.bs.length → A2 = some ad2) (h7 : 0 < e.pol.ss.length → A7 = some ad7) (hk : e.k = 2) :
    Calls Try.prog 25 #[.iface 75 (.pointer (some ⟨g, 0, none⟩)), .pointer (some ⟨b, 0, none⟩)] w fun r w' => r = .returned (.bool true) ∧ St w0 (As.set i (wrA TY g (xs ++ vb (zig e.T)))) w' := by
  have hu30 := Try.underlying30
  have HX := Aside0.mk hx
  have HST := Aside0.mk hst
  have HA2 := Aside0.mk h2
  have HA7 := Aside0.mk h7
  have Hz := Aside0.mk h
  have ck := (hst xs w h).k
  have b1 : (e.k == 1) = false := beq_eq_false_iff_ne.2 (by omega)
  have b2 : (e.k == 2) = true := beq_iff_eq.2 hk
  clear h hst hx h2 h7 hk
  go_enter Try.func25, Try.ntmps25
  go_wp2_with fail
  refine (nums_lit i g w.heap.size 1 (xs) [(⟨b, 3, none⟩, e.T)] Hz.out hi (by have v1 := vb_len (zig e.u); have v2 := vb_len (zig e.dm); have v3 := vb_len (zig e.T); have v4 := vb_len (zig e.id); have v5 := vb_len (zig e.n); simp only [List.length_append, List.length_cons, List.length_nil] at *; omega) (fun ys w' hS k hk => ?sq2) (by have q0 := HX.out.T; simp [I64] at *; omega) rfl rfl 94).mono ?_
  case sq2 => obtain rfl : k = 0 := by simpa using hk
              exact (HST.out ys w' hS).T
  rintro r_ w2 ⟨rfl, h2⟩
  simp only [encN, List.flatMap_cons, List.flatMap_nil, List.append_nil] at h2
  have Hw2 := Aside0.mk h2
  clear h2
  go_wp2_with fail
  go_ret
  exact ⟨rfl, Hw2.out⟩
set_option maxHeartbeats 8000000 in
theorem code3_w {w0 w : World} {As : List Asr} (i g b : Nat) (e : Ev) (A2 A7 : Option Addr) (ad2 ad7 : Addr) (c2 c7 : Nat) (xs : List Int) (h : St w0 (As.set i (wrA TY g xs)) w) (hi : i < As.length) (hl : xs.length + 20 * e.pol.bs.length + 20 * e.pol.ss.length + 400 ≤ 1000000000)
    (hst : ∀ ys w', St w0 (As.set i (wrA TY g ys)) w' → EvMem e b A2 A7 ad2 ad7 c2 c7 w') (hx : EvIn e) (h2 : 0 < e.pol.bs.length → A2 = some ad2) (h7 : 0 < e.pol.ss.length → A7 = some ad7) (hk : e.k = 3) :
    Calls Try.prog 25 #[.iface 75 (.pointer (some ⟨g, 0, none⟩)), .pointer (some ⟨b, 0, none⟩)] w fun r w' => r = .returned (.bool true) ∧ St w0 (As.set i (wrA TY g (encP (xs ++ vb (zig e.id)) e.pol))) w' := by
  have hu30 := Try.underlying30
  have HX := Aside0.mk hx
  have HST := Aside0.mk hst
  have HA2 := Aside0.mk h2
  have HA7 := Aside0.mk h7
  have Hz := Aside0.mk h
  have ck := (hst xs w h).k
  have b1 : (e.k == 1) = false := beq_eq_false_iff_ne.2 (by omega)
  have b2 : (e.k == 2) = false := beq_eq_false_iff_ne.2 (by omega)
  have b3 : (e.k == 3) = true := beq_iff_eq.2 hk
  clear h hst hx h2 h7 hk
  go_enter Try.func25, Try.ntmps25
  go_wp2_with fail
  refine (whole_lit i g w.heap.size 1 (xs) [(⟨b, 4, none⟩, e.id)] Hz.out hi (by have v1 := vb_len (zig e.u); have v2 := vb_len (zig e.dm); have v3 := vb_len (zig e.T); have v4 := vb_len (zig e.id); have v5 := vb_len (zig e.n); simp only [List.length_append, List.length_cons, List.length_nil] at *; omega) (fun ys w' hS k hk => ?sq3) (by have q0 := HX.out.id; simp [I64] at *; omega) rfl rfl 96).mono ?_
  case sq3 => obtain rfl : k = 0 := by simpa using hk
              exact ⟨(HST.out ys w' hS).id, (HST.out ys w' hS).Fid⟩
  rintro r_ w2 ⟨rfl, h2⟩
  simp only [encN, List.flatMap_cons, List.flatMap_nil, List.append_nil] at h2
  have Hw2 := Aside0.mk h2
  clear h2
  clear ck
  go_wp2_with fail
  refine (policy_w i g b 6 e.pol A2 A7 ad2 ad7 c2 c7 (xs ++ vb (zig e.id)) Hw2.out hi (by have v1 := vb_len (zig e.u); have v2 := vb_len (zig e.dm); have v3 := vb_len (zig e.T); have v4 := vb_len (zig e.id); have v5 := vb_len (zig e.n); simp only [List.length_append, List.length_cons, List.length_nil] at *; omega) (fun ys w' hS => (HST.out ys w' hS).pol) HX.out.pol HA2.out HA7.out).mono ?_
  rintro r_ w3 ⟨rfl, h3⟩
  have Hw3 := Aside0.mk h3
  clear h3
  go_wp2_with fail
  go_ret
  exact ⟨rfl, Hw3.out⟩
set_option maxHeartbeats 8000000 in
theorem code4_w {w0 w : World} {As : List Asr} (i g b : Nat) (e : Ev) (A2 A7 : Option Addr) (ad2 ad7 : Addr) (c2 c7 : Nat) (xs : List Int) (h : St w0 (As.set i (wrA TY g xs)) w) (hi : i < As.length) (hl : xs.length + 20 * e.pol.bs.length + 20 * e.pol.ss.length + 400 ≤ 1000000000)
    (hst : ∀ ys w', St w0 (As.set i (wrA TY g ys)) w' → EvMem e b A2 A7 ad2 ad7 c2 c7 w') (hx : EvIn e) (h2 : 0 < e.pol.bs.length → A2 = some ad2) (h7 : 0 < e.pol.ss.length → A7 = some ad7) (hk : e.k = 4) :
    Calls Try.prog 25 #[.iface 75 (.pointer (some ⟨g, 0, none⟩)), .pointer (some ⟨b, 0, none⟩)] w fun r w' => r = .returned (.bool true) ∧ St w0 (As.set i (wrA TY g (encC xs e.c))) w' := by
  have hu30 := Try.underlying30
  have HX := Aside0.mk hx
  have HST := Aside0.mk hst
  have HA2 := Aside0.mk h2
  have HA7 := Aside0.mk h7
  have Hz := Aside0.mk h
  have ck := (hst xs w h).k
  have b1 : (e.k == 1) = false := beq_eq_false_iff_ne.2 (by omega)
  have b2 : (e.k == 2) = false := beq_eq_false_iff_ne.2 (by omega)
  have b3 : (e.k == 3) = false := beq_eq_false_iff_ne.2 (by omega)
  have b4 : (e.k == 4) = true := beq_iff_eq.2 hk
  clear h hst hx h2 h7 hk
  go_enter Try.func25, Try.ntmps25
  go_wp2_with fail
  refine (conf_w i g b 14 e.c xs Hz.out hi (by omega) (fun ys w' hS => (HST.out ys w' hS).cnf) HX.out.cnf).mono ?_
  rintro r_ w3 ⟨rfl, h3⟩
  have Hw3 := Aside0.mk h3
  clear h3 ck
  go_wp2_with fail
  go_ret
  exact ⟨rfl, Hw3.out⟩
set_option maxHeartbeats 8000000 in
theorem code5_w {w0 w : World} {As : List Asr} (i g b : Nat) (e : Ev) (A2 A7 : Option Addr) (ad2 ad7 : Addr) (c2 c7 : Nat) (xs : List Int) (h : St w0 (As.set i (wrA TY g xs)) w) (hi : i < As.length) (hl : xs.length + 20 * e.pol.bs.length + 20 * e.pol.ss.length + 400 ≤ 1000000000)
    (hst : ∀ ys w', St w0 (As.set i (wrA TY g ys)) w' → EvMem e b A2 A7 ad2 ad7 c2 c7 w') (hx : EvIn e) (h2 : 0 < e.pol.bs.length → A2 = some ad2) (h7 : 0 < e.pol.ss.length → A7 = some ad7) (hk : e.k = 5) :
    Calls Try.prog 25 #[.iface 75 (.pointer (some ⟨g, 0, none⟩)), .pointer (some ⟨b, 0, none⟩)] w fun r w' => r = .returned (.bool true) ∧ St w0 (As.set i (wrA TY g ((xs ++ vb (zig e.T)) ++ vb (zig e.n)))) w' := by
  have hu30 := Try.underlying30
  have HX := Aside0.mk hx
  have HST := Aside0.mk hst
  have HA2 := Aside0.mk h2
  have HA7 := Aside0.mk h7
  have Hz := Aside0.mk h
  have ck := (hst xs w h).k
  have b1 : (e.k == 1) = false := beq_eq_false_iff_ne.2 (by omega)
  have b2 : (e.k == 2) = false := beq_eq_false_iff_ne.2 (by omega)
  have b3 : (e.k == 3) = false := beq_eq_false_iff_ne.2 (by omega)
  have b4 : (e.k == 4) = false := beq_eq_false_iff_ne.2 (by omega)
  have b5 : (e.k == 5) = true := beq_iff_eq.2 hk
  clear h hst hx h2 h7 hk
  go_enter Try.func25, Try.ntmps25
  go_wp2_with fail
  refine (nums_lit i g w.heap.size 1 (xs) [(⟨b, 3, none⟩, e.T)] Hz.out hi (by have v1 := vb_len (zig e.u); have v2 := vb_len (zig e.dm); have v3 := vb_len (zig e.T); have v4 := vb_len (zig e.id); have v5 := vb_len (zig e.n); simp only [List.length_append, List.length_cons, List.length_nil] at *; omega) (fun ys w' hS k hk => ?sq4) (by have q0 := HX.out.T; simp [I64] at *; omega) rfl rfl 94).mono ?_
  case sq4 => obtain rfl : k = 0 := by simpa using hk
              exact (HST.out ys w' hS).T
  rintro r_ w2 ⟨rfl, h2⟩
  simp only [encN, List.flatMap_cons, List.flatMap_nil, List.append_nil] at h2
  have Hw2 := Aside0.mk h2
  clear h2
  clear ck
  go_wp2_with fail
  refine (whole_lit i g w2.heap.size 1 (xs ++ vb (zig e.T)) [(⟨b, 5, none⟩, e.n)] Hw2.out hi (by have v1 := vb_len (zig e.u); have v2 := vb_len (zig e.dm); have v3 := vb_len (zig e.T); have v4 := vb_len (zig e.id); have v5 := vb_len (zig e.n); simp only [List.length_append, List.length_cons, List.length_nil] at *; omega) (fun ys w' hS k hk => ?sq5) (by have q0 := HX.out.n; simp [I64] at *; omega) rfl rfl 96).mono ?_
  case sq5 => obtain rfl : k = 0 := by simpa using hk
              exact ⟨(HST.out ys w' hS).n, (HST.out ys w' hS).Fn⟩
  rintro r_ w3 ⟨rfl, h2⟩
  simp only [encN, List.flatMap_cons, List.flatMap_nil, List.append_nil] at h2
  have Hw3 := Aside0.mk h2
  clear h2
  go_wp2_with fail
  go_ret
  exact ⟨rfl, Hw3.out⟩
set_option maxHeartbeats 8000000 in
theorem code6_w {w0 w : World} {As : List Asr} (i g b : Nat) (e : Ev) (A2 A7 : Option Addr) (ad2 ad7 : Addr) (c2 c7 : Nat) (xs : List Int) (h : St w0 (As.set i (wrA TY g xs)) w) (hi : i < As.length) (hl : xs.length + 20 * e.pol.bs.length + 20 * e.pol.ss.length + 400 ≤ 1000000000)
    (hst : ∀ ys w', St w0 (As.set i (wrA TY g ys)) w' → EvMem e b A2 A7 ad2 ad7 c2 c7 w') (hx : EvIn e) (h2 : 0 < e.pol.bs.length → A2 = some ad2) (h7 : 0 < e.pol.ss.length → A7 = some ad7) (hk : e.k = 6) :
    Calls Try.prog 25 #[.iface 75 (.pointer (some ⟨g, 0, none⟩)), .pointer (some ⟨b, 0, none⟩)] w fun r w' => r = .returned (.bool true) ∧ St w0 (As.set i (wrA TY g (xs ++ vb (zig e.id)))) w' := by
  have hu30 := Try.underlying30
  have HX := Aside0.mk hx
  have HST := Aside0.mk hst
  have HA2 := Aside0.mk h2
  have HA7 := Aside0.mk h7
  have Hz := Aside0.mk h
  have ck := (hst xs w h).k
  have b1 : (e.k == 1) = false := beq_eq_false_iff_ne.2 (by omega)
  have b2 : (e.k == 2) = false := beq_eq_false_iff_ne.2 (by omega)
  have b3 : (e.k == 3) = false := beq_eq_false_iff_ne.2 (by omega)
  have b4 : (e.k == 4) = false := beq_eq_false_iff_ne.2 (by omega)
  have b5 : (e.k == 5) = false := beq_eq_false_iff_ne.2 (by omega)
  have b6 : (e.k == 6) = true := beq_iff_eq.2 hk
  clear h hst hx h2 h7 hk
  go_enter Try.func25, Try.ntmps25
  go_wp2_with fail
  refine (whole_lit i g w.heap.size 1 (xs) [(⟨b, 4, none⟩, e.id)] Hz.out hi (by have v1 := vb_len (zig e.u); have v2 := vb_len (zig e.dm); have v3 := vb_len (zig e.T); have v4 := vb_len (zig e.id); have v5 := vb_len (zig e.n); simp only [List.length_append, List.length_cons, List.length_nil] at *; omega) (fun ys w' hS k hk => ?sq6) (by have q0 := HX.out.id; simp [I64] at *; omega) rfl rfl 96).mono ?_
  case sq6 => obtain rfl : k = 0 := by simpa using hk
              exact ⟨(HST.out ys w' hS).id, (HST.out ys w' hS).Fid⟩
  rintro r_ w2 ⟨rfl, h2⟩
  simp only [encN, List.flatMap_cons, List.flatMap_nil, List.append_nil] at h2
  have Hw2 := Aside0.mk h2
  clear h2
  go_wp2_with fail
  go_ret
  exact ⟨rfl, Hw2.out⟩
set_option maxHeartbeats 8000000 in
theorem code7_w {w0 w : World} {As : List Asr} (i g b : Nat) (e : Ev) (A2 A7 : Option Addr) (ad2 ad7 : Addr) (c2 c7 : Nat) (xs : List Int) (h : St w0 (As.set i (wrA TY g xs)) w) (hi : i < As.length) (hl : xs.length + 20 * e.pol.bs.length + 20 * e.pol.ss.length + 400 ≤ 1000000000)
    (hst : ∀ ys w', St w0 (As.set i (wrA TY g ys)) w' → EvMem e b A2 A7 ad2 ad7 c2 c7 w') (hx : EvIn e) (h2 : 0 < e.pol.bs.length → A2 = some ad2) (h7 : 0 < e.pol.ss.length → A7 = some ad7) (hk : e.k = 7) :
    Calls Try.prog 25 #[.iface 75 (.pointer (some ⟨g, 0, none⟩)), .pointer (some ⟨b, 0, none⟩)] w fun r w' => r = .returned (.bool true) ∧ St w0 (As.set i (wrA TY g (xs ++ vb (zig e.id)))) w' := by
  have hu30 := Try.underlying30
  have HX := Aside0.mk hx
  have HST := Aside0.mk hst
  have HA2 := Aside0.mk h2
  have HA7 := Aside0.mk h7
  have Hz := Aside0.mk h
  have ck := (hst xs w h).k
  have b1 : (e.k == 1) = false := beq_eq_false_iff_ne.2 (by omega)
  have b2 : (e.k == 2) = false := beq_eq_false_iff_ne.2 (by omega)
  have b3 : (e.k == 3) = false := beq_eq_false_iff_ne.2 (by omega)
  have b4 : (e.k == 4) = false := beq_eq_false_iff_ne.2 (by omega)
  have b5 : (e.k == 5) = false := beq_eq_false_iff_ne.2 (by omega)
  have b6 : (e.k == 6) = false := beq_eq_false_iff_ne.2 (by omega)
  have b7 : (e.k == 7) = true := beq_iff_eq.2 hk
  clear h hst hx h2 h7 hk
  go_enter Try.func25, Try.ntmps25
  go_wp2_with fail
  refine (whole_lit i g w.heap.size 1 (xs) [(⟨b, 4, none⟩, e.id)] Hz.out hi (by have v1 := vb_len (zig e.u); have v2 := vb_len (zig e.dm); have v3 := vb_len (zig e.T); have v4 := vb_len (zig e.id); have v5 := vb_len (zig e.n); simp only [List.length_append, List.length_cons, List.length_nil] at *; omega) (fun ys w' hS k hk => ?sq7) (by have q0 := HX.out.id; simp [I64] at *; omega) rfl rfl 96).mono ?_
  case sq7 => obtain rfl : k = 0 := by simpa using hk
              exact ⟨(HST.out ys w' hS).id, (HST.out ys w' hS).Fid⟩
  rintro r_ w2 ⟨rfl, h2⟩
  simp only [encN, List.flatMap_cons, List.flatMap_nil, List.append_nil] at h2
  have Hw2 := Aside0.mk h2
  clear h2
  go_wp2_with fail
  go_ret
  exact ⟨rfl, Hw2.out⟩
set_option maxHeartbeats 8000000 in
theorem code0_w {w0 w : World} {As : List Asr} (i g b : Nat) (e : Ev) (A2 A7 : Option Addr) (ad2 ad7 : Addr) (c2 c7 : Nat) (xs : List Int) (h : St w0 (As.set i (wrA TY g xs)) w) (hi : i < As.length) (hl : xs.length + 20 * e.pol.bs.length + 20 * e.pol.ss.length + 400 ≤ 1000000000)
    (hst : ∀ ys w', St w0 (As.set i (wrA TY g ys)) w' → EvMem e b A2 A7 ad2 ad7 c2 c7 w') (hx : EvIn e) (h2 : 0 < e.pol.bs.length → A2 = some ad2) (h7 : 0 < e.pol.ss.length → A7 = some ad7) (hk : e.k ≠ 1 ∧ e.k ≠ 2 ∧ e.k ≠ 3 ∧ e.k ≠ 4 ∧ e.k ≠ 5 ∧ e.k ≠ 6 ∧ e.k ≠ 7 ∧ e.k ≠ 8) :
    Calls Try.prog 25 #[.iface 75 (.pointer (some ⟨g, 0, none⟩)), .pointer (some ⟨b, 0, none⟩)] w fun r w' => r = .returned (.bool false) ∧ St w0 (As.set i (wrA TY g (xs))) w' := by
  have hu30 := Try.underlying30
  have HX := Aside0.mk hx
  have HST := Aside0.mk hst
  have HA2 := Aside0.mk h2
  have HA7 := Aside0.mk h7
  have Hz := Aside0.mk h
  have ck := (hst xs w h).k
  have b1 : (e.k == 1) = false := beq_eq_false_iff_ne.2 (by omega)
  have b2 : (e.k == 2) = false := beq_eq_false_iff_ne.2 (by omega)
  have b3 : (e.k == 3) = false := beq_eq_false_iff_ne.2 (by omega)
  have b4 : (e.k == 4) = false := beq_eq_false_iff_ne.2 (by omega)
  have b5 : (e.k == 5) = false := beq_eq_false_iff_ne.2 (by omega)
  have b6 : (e.k == 6) = false := beq_eq_false_iff_ne.2 (by omega)
  have b7 : (e.k == 7) = false := beq_eq_false_iff_ne.2 (by omega)
  have b8 : (e.k == 8) = false := beq_eq_false_iff_ne.2 (by omega)
  clear h hst hx h2 h7 hk
  go_enter Try.func25, Try.ntmps25
  go_wp2_with fail
  go_ret
  exact ⟨rfl, Hz.out⟩
end Go.Proofs.Ytldohapdhljoaaa.Wire
