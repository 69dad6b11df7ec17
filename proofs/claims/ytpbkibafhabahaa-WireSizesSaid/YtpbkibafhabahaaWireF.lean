/- The reference's reader of numbers and texts: walked through once. -/
import Derived.Test.YtpbkibafhabahaaWireE
import Derived.Deep.QuietTactic
import Derived.BigQuiet
import Derived.IntWalk
import Derived.Deep.DeepCutAuto
namespace Go.Proofs.Ytpbkibafhabahaa.Wire
open Go.RowKit Go.Proofs.YtpbkibafhabahaaW.PrintWords Go.Proofs.Ytpbkibafhabahaa.Obj
set_option linter.unusedVariables false

/-- The reference's reader: all the bytes, how many were read, what is wrong. -/
def rfB (g : Nat) (B : List Int) (N : Int) (e : Int) : Asr where
  holds := fun w S => ∃ (A : Option Addr) (c : Nat), w.heap[g]? = some (.cells #[.slice A B.length c, .int .i64 N, .int .i64 e] 58 (0, 0)) ∧ (B.length ≤ c ∧ B.length ≤ 140737488351232) ∧ (0 ≤ N ∧ N ≤ B.length) ∧ RB w (fun k => S k ∧ k ≠ g) A B ∧ S g
  keep := fun {w w' S} h ⟨A, c, h1, h2, h3, h5, h6⟩ => ⟨A, c, (h g h6).trans h1, h2, h3, Foot.step h5 (fun k hk _ => h k hk.1), h6⟩
/-- What is left of it, and what is wrong. -/
def rfA (g : Nat) (l : List Int) (e : Int) : Asr where
  holds := fun w S => ∃ (B : List Int) (N : Int), B.drop N.toNat = l ∧ (rfB g B N e).holds w S
  keep := fun {w w' S} h ⟨B, N, h1, h2⟩ => ⟨B, N, h1, (rfB g B N e).keep h h2⟩
set_option maxHeartbeats 1000000 in
theorem newReaderF_calls (A : Option Addr) (c : Nat) (l : List Int) (w : World) (hR : ReadsInt w .u8 A l.length l) (hl : l.length ≤ 140737488351232) :
    Calls Try.prog 11 #[.slice A l.length c] w fun e w' => ∃ g, e = .returned (.pointer (some ⟨g, 0, none⟩)) ∧ One (rfA g l 0) w.heap.size w' ∧ Below w.heap.size w w' := by
  have hu58 := Try.underlying58
  have hu22 := Try.underlying22
  have HR := Aside0.mk hR
  clear hR
  go_enter Try.func11, Try.ntmps11
  go_wp2_with (at_builtin; refine print_append_row (w0 := w) w.heap.size rfl _ _ 22 5 .u8 1 rfl hu22 info5' (by decide) (.slice (some ⟨w.heap.size, 0, none⟩) 0 0) [] l A l.length c rfl rfl (own_lit w w.heap.size 5 .u8 [] (Nat.le_refl _) (by simp)) (HR.out.allocS _) (below_alloc (Below.refl _ _) _) (by simp) (by simp; omega) ?_; intro v1 w1 hown hb hg hat; obtain ⟨A1, c1, rfl⟩ := own_slice hown; have HO := Aside0.mk hown; have HB := Aside0.mk hb; clear hown hb hg hat)
  go_ret
  have ho : w1.ownsRow w.heap.size 5 1 (.slice A1 l.length c1) l.length (nums .u8 l) := HO.out
  have hb := HB.out
  have hr := own_reads' ho
  have hlc : l.length ≤ c1 := by
    rcases ho.2 with ⟨h, h'⟩ | ⟨g, cap, cur, h, _, _, h1, _⟩
    · omega
    · injection h with _ _ h; omega
  have hlt : ∀ ad, A1 = some ad → w.heap.size ≤ ad.block ∧ ad.block < w1.heap.size := fun ad e => ⟨own_base ho _ (by rw [e]; rfl), own_lt ho _ (by rw [e]; rfl)⟩
  refine ⟨w1.heap.size, rfl, ⟨fun k => w.heap.size ≤ k ∧ k < w1.heap.size + 1, fun k hk => ⟨hk.1, by simpa using hk.2⟩, l, 0, rfl, A1, c1, heap_alloc_new w1 _, ⟨hlc, hl⟩, ⟨by omega, by omega⟩, ?_, ⟨hb.size, by omega⟩⟩, below_alloc hb _⟩
  refine RB.mk (hr.below (below_alloc (Below.refl _ _) _)) (fun ad e _ => ?_)
  have := hlt ad e
  exact ⟨⟨this.1, by omega⟩, by omega⟩
def NumPostB (g : Nat) (B : List Int) (S : Nat → Prop) (w : World) (t : Int × List Int × Int) (r : Ending) (w' : World) : Prop := r = .returned (.int .i64 t.1) ∧ ∃ N : Int, B.drop N.toNat = t.2.1 ∧ Same (rfB g B N t.2.2) S w w'
def NumPostF (g : Nat) (S : Nat → Prop) (w : World) (t : Int × List Int × Int) (r : Ending) (w' : World) : Prop := r = .returned (.int .i64 t.1) ∧ Same (rfA g t.2.1 t.2.2) S w w'
def TextPostF (g : Nat) (S : Nat → Prop) (w : World) (t : List Int × List Int × Int) (r : Ending) (w' : World) : Prop := ∃ v, r = .returned v ∧ w'.ownsRow w.heap.size 5 1 v t.1.length (nums .u8 t.1) ∧ Same (rfA g t.2.1 t.2.2) S w w'
/-- How many were read, and what is wrong, are written anew. -/
theorem rf_set {g : Nat} {A : Option Addr} {c : Nat} {N N' : Int} {B : List Int} {e e' : Int} {w w1 : World} {S : Nat → Prop} (h1 : w.heap[g]? = some (.cells #[.slice A B.length c, .int .i64 N, .int .i64 e] 58 (0, 0))) (h2 : B.length ≤ c ∧ B.length ≤ 140737488351232) (h3 : 0 ≤ N' ∧ N' ≤ B.length) (h5 : RB w (fun k => S k ∧ k ≠ g) A B) (h6 : S g)
    (hc : Ch (fun k => k = g) w w1) (hg : w1.heap[g]? = some (.cells #[.slice A B.length c, .int .i64 N', .int .i64 e'] 58 (0, 0))) : Same (rfB g B N' e') S w w1 :=
  ⟨hc.mono (fun k _ hk => by rw [hk]; exact h6), A, c, hg, h2, h3, Foot.step h5 (fun k hk hlt => hc.block k hlt hk.2), h6⟩
theorem ch_set {g j : Nat} {w w1 : World} (h : Ch (fun k => k = g) w w1) (u : Value) : Ch (fun k => k = g) w (w1.setCell ⟨g, j, none⟩ u) := h.setCell (p := ⟨g, j, none⟩) (.inl rfl) u
theorem set_at {w : World} {g : Nat} {cs : Array Value} {T : TypeId} {fr : Nat × Nat} (hg : w.heap[g]? = some (.cells cs T fr)) (j : Nat) (u : Value) : (w.setCell ⟨g, j, none⟩ u).heap[g]? = some (.cells (cs.setIfInBounds j u) T fr) := by
  simp only [World.setCell, Array.getElem?_modify, hg]
  simp
theorem drewN_heap (w : World) (n : Nat) : (w.drewN n).heap = w.heap := rfl
theorem ch_drewN (S : Nat → Prop) (w : World) (n : Nat) : Ch S w (w.drewN n) := Ch.ofBelow (pw_below_drewN (Below.refl _ _) n)

theorem add_step (q x : Int) (k : Nat) (q0 : 0 ≤ q) (hq : q < 128 ^ k) (x0 : 0 ≤ x) (x1 : x < 256) (hle : q + x % 128 * 128 ^ k < 18446744073709551616) : IntKind.u64.wrap (q + IntKind.u64.wrap (x % 128 * 2 ^ (7 * k))) = q + x % 128 * 128 ^ k := by
  have hp : (2 : Int) ^ (7 * k) = 128 ^ k := by rw [Int.pow_mul]; rfl
  have h0 : (0 : Int) ≤ x % 128 * 128 ^ k := Int.mul_nonneg (by omega) (Int.le_of_lt (Int.pow_pos (by omega)))
  rw [hp]
  generalize x % 128 * 128 ^ k = y at *
  rw [u64w, u64w]
  omega
theorem unzig_odd (q : Int) (h0 : 0 ≤ q) (h1 : q < 18446744073709551616) (h : q % 2 = 1) : wrap64 (wrap64 (-wrap64 (IntKind.u64.wrap (q.tdiv 2))) - 1) = unzig q := by
  rw [Int.tdiv_eq_ediv_of_nonneg h0, u64w]
  unfold unzig wrap64
  rw [if_neg (by omega)]
  omega
theorem unzig_even (q : Int) (h0 : 0 ≤ q) (h1 : q < 18446744073709551616) (h : ¬ q % 2 = 1) : wrap64 (IntKind.u64.wrap (q.tdiv 2)) = unzig q := by
  rw [Int.tdiv_eq_ediv_of_nonneg h0, u64w]
  unfold unzig wrap64
  rw [if_pos (by omega)]
  omega
theorem rf_err {g : Nat} {A : Option Addr} {c : Nat} {N : Int} {B : List Int} {e f : Int} {w : World} {S : Nat → Prop} (h1 : w.heap[g]? = some (.cells #[.slice A B.length c, .int .i64 N, .int .i64 e] 58 (0, 0))) (h2 : B.length ≤ c ∧ B.length ≤ 140737488351232) (h3 : 0 ≤ N ∧ N ≤ B.length) (h5 : RB w (fun k => S k ∧ k ≠ g) A B) (h6 : S g) (M : Nat) :
    Same (rfB g B N f) S w ((w.drewN M).setCell ⟨g, 2, none⟩ (.int .i64 f)) :=
  rf_set h1 h2 h3 h5 h6 (ch_set (ch_drewN _ w M) _) (set_at (w := w.drewN M) h1 2 _)
theorem rf_read {g : Nat} {A : Option Addr} {c : Nat} {N n : Int} {B : List Int} {e : Int} {w : World} {S : Nat → Prop} (h1 : w.heap[g]? = some (.cells #[.slice A B.length c, .int .i64 N, .int .i64 e] 58 (0, 0))) (h2 : B.length ≤ c ∧ B.length ≤ 140737488351232) (h3 : 0 ≤ N) (h5 : RB w (fun k => S k ∧ k ≠ g) A B) (h6 : S g) (M : Nat) (n0 : 0 ≤ n) (n1 : N + n ≤ B.length) :
    Same (rfB g B (N + n) e) S w ((w.drewN M).setCell ⟨g, 1, none⟩ (.int .i64 (N + n))) :=
  rf_set (N' := N + n) (e' := e) h1 h2 ⟨by omega, n1⟩ h5 h6 (ch_set (j := 1) (ch_drewN _ w M) (.int .i64 (N + n))) (set_at (w := w.drewN M) h1 1 _)
set_option maxRecDepth 100000 in
set_option maxHeartbeats 4000000 in
theorem fnumB_calls (g : Nat) (B l : List Int) (N : Int) (e : Int) (w : World) (S : Nat → Prop) (hA : (rfB g B N e).holds w S) (h4 : B.drop N.toNat = l) (hby : ∀ x ∈ l, 0 ≤ x ∧ x < 256) :
    Calls Try.prog 17 #[.pointer (some ⟨g, 0, none⟩)] w (NumPostB g B S w (rNum l e)) := by
  have hu58 := Try.underlying58
  have hu22 := Try.underlying22
  have U0 := Aside0.mk (Same.refl0 hA)
  obtain ⟨A, c, h1, ⟨h2, h2'⟩, ⟨h3, h3'⟩, h5, h6⟩ := hA
  have hmax := h5.now.2.1
  have hc0 : w.cell? ⟨g, 0, none⟩ = some (.slice A B.length c) := by simp [World.cell?, h1]
  have hc1 : w.cell? ⟨g, 1, none⟩ = some (.int .i64 N) := by simp [World.cell?, h1]
  have hc2 : w.cell? ⟨g, 2, none⟩ = some (.int .i64 e) := by simp [World.cell?, h1]
  have hf1 : w.frozen? ⟨g, 1, none⟩ = false := by simp [World.frozen?, h1]
  have hf2 : w.frozen? ⟨g, 2, none⟩ = false := by simp [World.frozen?, h1]
  have H1 := Aside0.mk h1
  have H4 := Aside0.mk h4
  have H5 := Aside0.mk h5
  have H6 := Aside0.mk h6
  have HBY := Aside0.mk hby
  have hll : l.length = B.length - N.toNat := by rw [← h4, List.length_drop]
  have HLL := Aside0.mk hll
  obtain ⟨d1, d2, d3, hd⟩ : ∃ d1 d2 d3, dec l = (d1, d2, d3) := ⟨_, _, _, rfl⟩
  have hrn : rNum l e = if e = 0 then (if d3 = 0 then (d1, l.drop d2.toNat, 0) else (0, l, d3)) else (0, l, e) := by unfold rNum rStep; rw [hd]
  have HRN := Aside0.mk hrn
  have HD := Aside0.mk hd
  clear h1 h4 h5 h6 hby hll hd hrn
  by_cases he : e = 0
  · have b0 : (e == 0) = true := by simp [he]
    have b1 : (e != 0) = false := by simp [he]
    have HRE := Aside0.mk (HRN.out.trans (if_pos he))
    have HE := Aside0.mk he
    clear he
    go_enter Try.func17, Try.ntmps17
    go_wp2_with fail
    go_loopw [4, 3] (fun i s wr => ∃ (k : Int) (m : Nat) (q : Int), 0 ≤ k ∧ k ≤ 9 ∧ i = .int .i64 k ∧ s = .int .u64 q ∧ 0 ≤ q ∧ wr = w.drewN m ∧ Aside0 (q < 128 ^ k.toNat ∧ (d1, d2, d3) = decG k.toNat q (l.drop k.toNat))) (fun i _ _ => 10 - (intOf i).toNat)
    case atStart => exact ⟨0, 0, 0, by omega, by omega, rfl, rfl, by omega, rfl, ⟨by simp, HD.out.symm⟩⟩
    case round =>
      obtain ⟨k, m, q, k0, hk, rfl, rfl, q0, rfl, HQ⟩ := hrel
      by_cases hlt : N + k < (B.length : Int)
      · have hkl : k.toNat < l.length := by have := HLL.out; omega
        have hsm : (N + k).toNat = N.toNat + k.toNat := by omega
        obtain ⟨ad, rfl, hcell⟩ := H5.out.now.at_ (N + k) (by omega) (by omega)
        obtain ⟨x, hx⟩ : ∃ x, rd l (k.toNat : Int) = x := ⟨_, rfl⟩
        have hx' : rd B (N + k) = x := by
          rw [← hx, ← H4.out, rd, rd, Int.toNat_natCast, hsm]
          simp [List.getD_eq_getElem?_getD, List.getElem?_drop]
        have hxr : 0 ≤ x ∧ x < 256 := by
          rw [← hx]
          refine HBY.out _ ?_
          rw [rd, Int.toNat_natCast, List.getD_eq_getElem?_getD, List.getElem?_eq_getElem hkl]
          exact List.getElem_mem hkl
        obtain ⟨x0, x1⟩ := hxr
        rw [hx'] at hcell
        have hde := HQ.out.2
        rw [dec_step hkl q, hx] at hde
        have HQ1 := Aside0.mk HQ.out.1
        clear hx hx' HQ hsm
        have s1 : IntKind.i64.wrap (N + k) = N + k := IntWalk.i64_in _ (by omega)
        have s2 : 0 ≤ N + k := by omega
        have s5 : decide ((B.length : Int) ≤ N + k) = false := by simp; omega
        have kx : ((k == 9) = true ∧ 1 < x) ∨ (((k == 9) = true ∧ ¬ 1 < x ∧ 0 < k) ∨ (k == 9) = false) := by
          by_cases h9 : k = 9
          · by_cases h1 : 1 < x
            · exact .inl ⟨by simp [h9], h1⟩
            · exact .inr (.inl ⟨by simp [h9], h1, by omega⟩)
          · exact .inr (.inr (by simp; omega))
        rcases kx with ⟨y1, y2⟩ | ky
        · have HDE := Aside0.mk (hde.trans (if_pos (.inl ⟨by (have h9 : k = 9 := (by simpa using y1)); omega, y2⟩)))
          clear hde
          go_wp2_with fail
          go_quiet (fail)
          go_wp2_with fail
          go_quiet (fail)
          clear s1 s2 s5
          go_wp2_with fail
          go_ret
          unfold NumPostB
          rw [HRE.out]
          have h := HDE.out
          simp only [Prod.mk.injEq] at h
          rw [h.1, h.2.1, h.2.2]
          exact ⟨rfl, N, H4.out, rf_err H1.out ⟨h2, h2'⟩ ⟨h3, h3'⟩ H5.out H6.out _⟩
        · have hkn : ¬ (k.toNat = 9 ∧ 1 < x) := fun h => by
            rcases ky with ⟨_, h1, _⟩ | h1
            · exact h1 h.2
            · have : ¬ k = 9 := by simpa using h1
              omega
          obtain ⟨hor, hle⟩ := or_step q x k.toNat q0 HQ1.out x0 x1 (by omega) (fun h => by omega)
          have hq2 := add_step q x k.toNat q0 HQ1.out x0 x1 hle
          rw [show 7 * k.toNat = (7 * k).toNat by omega] at hq2
          clear hor
          obtain ⟨q2, hq⟩ : ∃ q2, q + x % 128 * 128 ^ k.toNat = q2 := ⟨_, rfl⟩
          rw [hq] at hq2 hle
          have HQ2 := Aside0.mk hq2
          have HQQ := Aside0.mk hq
          have HLE := Aside0.mk hle
          have q20 : 0 ≤ q2 := by rw [← hq]; have : (0 : Int) ≤ x % 128 * 128 ^ k.toNat := Int.mul_nonneg (by omega) (Int.le_of_lt (Int.pow_pos (by omega))); omega
          clear hq2 hq hle
          have ky' : ((k == 9) = true ∧ ¬ 1 < x) ∨ (k == 9) = false := ky.imp (fun h => ⟨h.1, h.2.1⟩) id
          clear ky
          by_cases hx128 : x < 128
          · have hpar : (q2 % 2 == 1) = true ∨ (q2 % 2 == 1) = false := by cases (q2 % 2 == 1) <;> simp
            by_cases hz : 0 < k ∧ x = 0
            · have HDE := Aside0.mk (hde.trans (if_pos (.inr ⟨by omega, hz.2⟩)))
              have z1 : (x == 0) = true := by simp [hz.2]
              have z2 : 0 < k := hz.1
              clear hde hz hkn
              rcases ky' with ⟨y1, y2⟩ | y1
              all_goals
                go_wp2_with fail
                go_quiet (fail)
                go_wp2_with fail
                go_quiet (fail)
                clear s1 s2 s5
                go_upto_region 15 with fail
                rw [HQ2.out]
                go_wp2_with fail
                go_ret
                unfold NumPostB
                rw [HRE.out]
                have h := HDE.out
                simp only [Prod.mk.injEq] at h
                rw [h.1, h.2.1, h.2.2]
                exact ⟨rfl, N, H4.out, rf_err H1.out ⟨h2, h2'⟩ ⟨h3, h3'⟩ H5.out H6.out _⟩
            · have HDE := Aside0.mk (hde.trans ((if_neg (fun h => h.elim (fun h => hkn h) (fun h => hz ⟨by omega, h.2⟩))).trans (if_pos hx128)))
              have kz : (x == 0) = false ∨ ((x == 0) = true ∧ ¬ 0 < k) := by
                by_cases h0 : x = 0
                · exact .inr ⟨by simp [h0], fun h => hz ⟨h, h0⟩⟩
                · exact .inl (by simp [h0])
              clear hde hz hkn
              rcases ky' with ⟨y1, y2⟩ | y1
              all_goals rcases kz with z1 | ⟨z1, z2⟩
              all_goals rcases hpar with p1 | p1
              all_goals
                go_wp2_with fail
                go_quiet (fail)
                go_wp2_with fail
                go_quiet (fail)
                clear s1 s2 s5
                go_upto_region 15 with fail
                rw [HQ2.out]
                go_wp2_with fail
                go_ret
                unfold NumPostB
                rw [HRE.out]
                have h := HDE.out
                simp only [Prod.mk.injEq] at h
                have hx1 : q + x * 128 ^ k.toNat = q2 := by rw [← HQQ.out, show x % 128 = x by omega]
                rw [h.1, h.2.1, h.2.2, hx1]
                have hE := HE.out
                subst hE
                have hr : ∀ M, Same (rfB g B (N + k + 1) 0) S w ((w.drewN M).setCell ⟨g, 1, none⟩ (.int .i64 (N + k + 1))) := fun M => by
                  have hr := rf_read (n := k + 1) H1.out ⟨h2, h2'⟩ h3 H5.out H6.out M (by omega) (by omega)
                  rw [← Int.add_assoc] at hr
                  exact hr
                refine ⟨?_, N + k + 1, (by rw [if_pos rfl, ← H4.out, List.drop_drop, show (N + k + 1).toNat = N.toNat + ((k.toNat : Int) + 1).toNat by omega]), hr _⟩
                show Ending.returned _ = Ending.returned (.int .i64 (unzig q2))
                first | rw [← unzig_odd q2 q20 HLE.out (by simpa using p1)] | rw [← unzig_even q2 q20 HLE.out (by simpa using p1)]
                rfl
          · have HDE := Aside0.mk (hde.trans ((if_neg (fun h => h.elim (fun h => hkn h) (fun h => by omega))).trans (if_neg hx128)))
            clear hde
            rcases ky' with ⟨y1, y2⟩ | y1
            · exfalso; omega
            · have hk8 : k ≤ 8 := by have : ¬ k = 9 := (by simpa using y1); omega
              clear hkn
              go_wp2_with fail
              go_quiet (fail)
              go_wp2_with fail
              go_quiet (fail)
              clear s1 s2 s5
              go_upto_region 15 with fail
              rw [HQ2.out]
              go_wp2_with fail
              go_roundw
              case rel =>
                refine ⟨k + 1, _, q2, by omega, by omega, rfl, rfl, q20, rfl, ⟨?_, ?_⟩⟩
                · rw [← HQQ.out, show (k + 1).toNat = k.toNat + 1 by omega, Int.pow_succ]
                  have h6 : x % 128 * 128 ^ k.toNat + 128 ^ k.toNat = (x % 128 + 1) * (128 : Int) ^ k.toNat := by rw [Int.add_mul, Int.one_mul]
                  have h7 : (x % 128 + 1) * (128 : Int) ^ k.toNat ≤ 128 * 128 ^ k.toNat := Int.mul_le_mul_of_nonneg_right (by omega) (Int.le_of_lt (Int.pow_pos (by omega)))
                  have h8 := HQ1.out
                  have h9 : (128 : Int) ^ k.toNat * 128 = 128 * 128 ^ k.toNat := Int.mul_comm _ _
                  omega
                · rw [HDE.out, ← HQQ.out, show x % 128 = x - 128 by omega, show (k + 1).toNat = k.toNat + 1 by omega]
              case measure => simp [intOf]; omega
      · have s1 : IntKind.i64.wrap (N + k) = N + k := IntWalk.i64_in _ (by omega)
        have s5 : decide ((B.length : Int) ≤ N + k) = true := by simp; omega
        have hkl : l.length ≤ k.toNat := by have := HLL.out; omega
        have hde := HQ.out.2
        rw [List.drop_eq_nil_of_le hkl] at hde
        have HDE := Aside0.mk hde
        clear hde HQ
        go_wp2_with fail
        go_quiet (fail)
        go_wp2_with fail
        go_ret
        unfold NumPostB
        rw [HRE.out]
        have h := HDE.out
        simp only [decG, Prod.mk.injEq] at h
        rw [h.1, h.2.1, h.2.2]
        exact ⟨rfl, N, H4.out, rf_err H1.out ⟨h2, h2'⟩ ⟨h3, h3'⟩ H5.out H6.out _⟩
  · have b0 : (e == 0) = false := by simp [he]
    have b1 : (e != 0) = true := by simp [he]
    have HRE := Aside0.mk (HRN.out.trans (if_neg he))
    clear he
    go_enter Try.func17, Try.ntmps17
    go_wp2
    go_ret
    unfold NumPostB
    rw [HRE.out]
    exact ⟨rfl, N, H4.out, U0.out⟩
theorem fnumR_calls (g : Nat) (l : List Int) (e : Int) (w : World) (S : Nat → Prop) (hA : (rfA g l e).holds w S) (hby : ∀ x ∈ l, 0 ≤ x ∧ x < 256) :
    Calls Try.prog 17 #[.pointer (some ⟨g, 0, none⟩)] w (NumPostF g S w (rNum l e)) := by
  obtain ⟨B, N, h4, hB⟩ := hA
  refine (fnumB_calls g B l N e w S hB h4 hby).mono ?_
  rintro r w' ⟨rfl, N', h, hs⟩
  exact ⟨rfl, hs.1, B, N', h, hs.2⟩
end Go.Proofs.Ytpbkibafhabahaa.Wire
