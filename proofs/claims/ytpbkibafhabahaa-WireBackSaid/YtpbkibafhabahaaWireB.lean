/- Texts, copies of bytes and new readers: the program's and the reference's, walked through once. -/
import Derived.Test.YtpbkibafhabahaaWireA
import Derived.Lib.SliceRun
import Derived.WalkSpells
namespace Go.Proofs.Ytpbkibafhabahaa.Wire
open Go.RowKit Go.Proofs.YtpbkibafhabahaaW.PrintWords Go.Proofs.Ytpbkibafhabahaa.Obj
set_option linter.unusedVariables false

theorem wr_put2 {T : TypeId} {g : Nat} {ys zs : List Int} {S S1 : Nat → Prop} {w wx wa w1 : World} {v v1 : Value} (hch : Ch S w wx) (hm : More S w S1 wx) (hg : wx.heap[g]? = some (.cells #[v] T (0, 0))) (hS1 : S1 g) (hv : ∀ k, v.ownBlock = some k → S1 k ∧ k ≠ g)
    (hb : Below wx.heap.size wx wa) (hgrow : wa.grownBy w1 v.ownBlock) (hown1 : w1.ownsRow 0 5 1 v1 (ys ++ zs).length (nums .u8 (ys ++ zs))) (hat : v1.ownBlock = v.ownBlock ∨ ∃ b, v1.ownBlock = some b ∧ wa.heap.size ≤ b) :
    w1.heap[g]? = some (.cells #[v] T (0, 0)) ∧ Upd (wrA T g (ys ++ zs)) S w (w1.setCell ⟨g, 0, none⟩ v1) := by
  have hlt : g < wx.heap.size := (Array.getElem?_eq_some_iff.1 hg).1
  have hne : some g ≠ v.ownBlock := fun e => (hv g e.symm).2 rfl
  have e1 : w1.heap[g]? = some (.cells #[v] T (0, 0)) := (hgrow.block g (Nat.lt_of_lt_of_le hlt hb.size) hne).trans ((hb.block g hlt).trans hg)
  have hv1 : ∀ k, v1.ownBlock = some k → k ≠ g := fun k hk => by
    rcases hat with h | ⟨b, h, hb'⟩
    · exact (hv k (h.symm.trans hk)).2
    · rw [h] at hk; injection hk with hk; have := hb.size; omega
  have hc1 : Ch S w w1 := (hch.trans (Ch.ofBelow hb) (S' := fun _ => False) (fun _ h => h.elim)).grown hgrow (fun k hk => hm.1 k (hv k hk).1)
  refine ⟨e1, hc1.setCell (hm.1 g hS1) _, fun k => S1 k ∨ (wx.heap.size ≤ k ∧ k < w1.heap.size), ⟨fun k hk => ?_, fun k hk => ?_⟩, v1, ?_, ?_, .inl hS1, fun k hk => ⟨?_, hv1 k hk⟩⟩
  · rcases hk with h | h
    · exact hm.1 k h
    · exact .inr (Nat.le_trans hch.size h.1)
  · rw [show (w1.setCell ⟨g, 0, none⟩ v1).heap.size = w1.heap.size by simp [World.setCell]]
    rcases hk with h | h
    · exact Nat.lt_of_lt_of_le (hm.2 k h) (Nat.le_trans hb.size hgrow.size)
    · exact h.2
  · simp only [World.setCell, Array.getElem?_modify, e1]
    simp
  · exact own_move hown1 (fun k hk => Below.heap_setCell w1 ⟨g, 0, none⟩ v1 k (hv1 k hk))
  · rcases hat with h | ⟨b, h, hb'⟩
    · exact .inl (hv k (h.symm.trans hk)).1
    · rw [h] at hk; injection hk with hk; subst hk
      exact .inr ⟨Nat.le_trans hb.size hb', own_lt hown1 _ h⟩
/-- Bytes that are read, and stay while the blocks of T stay. -/
def RB (w : World) (T : Nat → Prop) (A : Option Addr) (l : List Int) : Prop := Foot (fun W => ReadsInt W .u8 A l.length l) w T
theorem RB.now {w : World} {T : Nat → Prop} {A : Option Addr} {l : List Int} (h : RB w T A l) : ReadsInt w .u8 A l.length l := Foot.now h
theorem RB.ch {w w' : World} {T S : Nat → Prop} {A : Option Addr} {l : List Int} (h : RB w T A l) (hc : Ch S w w') (hd : ∀ k, T k → ¬ S k) : RB w' T A l := Foot.step h (fun k hk hlt => hc.block k hlt (hd k hk))
theorem reads_block {w w' : World} {A : Option Addr} {l : List Int} (h : ReadsInt w .u8 A l.length l) (hb : ∀ ad, A = some ad → 0 < l.length → w'.heap[ad.block]? = w.heap[ad.block]?) : ReadsInt w' .u8 A l.length l := by
  refine ⟨h.1, h.2.1, fun hn => ?_⟩
  obtain ⟨ad, e, hc⟩ := h.2.2 hn
  refine ⟨ad, e, fun j hj => ?_⟩
  have e2 : (ad.add j).block = ad.block := by unfold Addr.add; split <;> rfl
  rw [← hc j hj]
  exact World.cell?_of_block (by rw [e2]; exact hb ad e hn)
/-- Read now: read as long as the one block stays. -/
theorem RB.mk {w : World} {A : Option Addr} {l : List Int} {T : Nat → Prop} (h : ReadsInt w .u8 A l.length l) (hT : ∀ ad, A = some ad → 0 < l.length → T ad.block) : RB w T A l := fun W' hW => by
  refine reads_block h (fun ad e hn => hW _ (hT ad e hn) ?_)
  obtain ⟨ad', e', hc⟩ := h.2.2 hn
  obtain rfl : ad = ad' := by rw [e] at e'; injection e'
  have e2 : (ad.add 0).block = ad.block := by unfold Addr.add; split <;> rfl
  have := World.block_lt_of_cell? w _ (hc 0 hn)
  omega
theorem RB.old {w : World} {A : Option Addr} {l : List Int} (h : ReadsInt w .u8 A l.length l) : RB w (fun k => k < w.heap.size) A l := RB.mk h (fun ad e hn => by
  obtain ⟨ad', e', hc⟩ := h.2.2 hn
  obtain rfl : ad = ad' := by rw [e] at e'; injection e'
  have e2 : (ad.add 0).block = ad.block := by unfold Addr.add; split <;> rfl
  have := World.block_lt_of_cell? w _ (hc 0 hn)
  omega)
theorem info5' : (Try.prog.info? 5).map (fun i => (i.zero, i.size, i.bytes)) = some (some (.int .u8 0), 1, 1) := by kernel_rfl

/-! ### A copy of bytes -/
set_option maxHeartbeats 1000000 in
theorem clone_calls (A : Option Addr) (c : Nat) (l : List Int) (w : World) (hR : ReadsInt w .u8 A l.length l) (hl : l.length ≤ 140737488351232) :
    Calls Try.prog 26 #[.slice A l.length c] w fun e w' => ∃ v, e = .returned v ∧ w'.ownsRow w.heap.size 5 1 v l.length (nums .u8 l) ∧ Below w.heap.size w w' := by
  have hu22 := Try.underlying22
  have hne := fun (w : World) (a : Option Addr) (n c : Nat) => Lib.run_eql_slice_nil (P := Try.prog) w 22 5 a n c 0 0 hu22
  have HR := Aside0.mk hR
  have hmax := hR.2.1
  cases A with
  | none =>
    have h0 : l = [] := by
      rcases Nat.eq_zero_or_pos l.length with h | h
      · exact List.eq_nil_of_length_eq_zero h
      · obtain ⟨ad, h', _⟩ := hR.2.2 h
        cases h'
    subst h0
    clear hR
    go_enter Try.func26, Try.ntmps26
    go_wp2
    go_ret
    exact ⟨_, rfl, own_nil _ _ _ _, Below.refl _ _⟩
  | some ad =>
    clear hR
    go_enter Try.func26, Try.ntmps26
    go_wp2_with (at_builtin; refine print_append_row (w0 := w) w.heap.size rfl _ _ 22 5 .u8 1 rfl hu22 info5' (by decide) (.slice (some ⟨w.heap.size, 0, none⟩) 0 0) [] l (some ad) l.length c rfl rfl (own_lit w w.heap.size 5 .u8 [] (Nat.le_refl _) (by simp)) (HR.out.allocS _) (below_alloc (Below.refl _ _) _) (by simp) (by simp; omega) ?_; intro v1 w1 hown hb hg hat; obtain ⟨A1, c1, rfl⟩ := own_slice hown; have HO := Aside0.mk hown; have HB := Aside0.mk hb; clear hown hb hg hat)
    go_ret
    exact ⟨_, rfl, HO.out, HB.out⟩

set_option maxHeartbeats 1000000 in
theorem wtext_calls (g : Nat) (xs : List Int) (A : Option Addr) (c : Nat) (l : List Int) (w : World) (S T : Nat → Prop) (hA : (wrA 41 g xs).holds w S) (hS : ∀ k, S k → k < w.heap.size) (hR : RB w T A l) (hd : ∀ k, T k → ¬ S k) (hl : xs.length + l.length ≤ 999999990) :
    Calls Try.prog 22 #[.pointer (some ⟨g, 0, none⟩), .slice A l.length c] w fun e w' => e = .returned (.tuple #[]) ∧ Upd (wrA 41 g ((xs ++ vb (zig l.length)) ++ l)) S w w' := by
  have hu41 := Try.underlying41
  have hu22 := Try.underlying22
  have HR := Aside0.mk hR
  have HS := Aside0.mk hS
  have HD := Aside0.mk hd
  have HA := Aside0.mk hA
  have hv := (vb_len (zig l.length)).2
  clear hA hS hR hd
  go_enter Try.func22, Try.ntmps22
  go_wp2_with fail
  refine (wnum_calls g xs l.length w S HA.out HS.out (by omega) (by omega) (by omega)).mono ?_
  rintro e w1 ⟨rfl, hch, S1, hm, v, hg, ho, hS1, hv⟩
  have hc : w1.cell? ⟨g, 0, none⟩ = some v := by simp [World.cell?, hg]
  have HR1 := Aside0.mk (HR.out.ch hch HD.out).now
  have HCH := Aside0.mk hch
  have HM := Aside0.mk hm
  have HG := Aside0.mk hg
  have HO := Aside0.mk ho
  have HS1 := Aside0.mk hS1
  have HV := Aside0.mk hv
  clear hch hm hg ho hS1 hv
  go_wp2_with (at_builtin; refine print_append_row (w0 := w1) 0 rfl _ _ 22 5 .u8 1 rfl hu22 info5' (by decide) v (xs ++ vb (zig l.length)) l A l.length c rfl rfl HO.out HR1.out (Below.refl _ _) (Nat.zero_le _) (by simp; omega) ?_; intro v1 w2 hown _ hgrow hat; obtain ⟨A1, c1, rfl⟩ := own_slice hown; obtain ⟨e1, hU⟩ := wr_put2 HCH.out HM.out HG.out HS1.out HV.out (Below.refl _ _) hgrow hown hat; have hc1 : w2.cell? ⟨g, 0, none⟩ = some v := (by simp [World.cell?, e1]); have hf1 : w2.frozen? ⟨g, 0, none⟩ = false := (by simp [World.frozen?, e1]); have HU1 := Aside0.mk hU; clear e1 hU hown hgrow hat)
  go_end0
  refine ⟨rfl, ?_⟩
  have h := HU1.out
  rw [show (xs ++ vb (zig l.length) ++ l).length = xs.length + ((vb (zig l.length)).length + l.length) from by simp] at h
  exact h

set_option maxHeartbeats 1000000 in
theorem ftext_calls (g : Nat) (xs : List Int) (A : Option Addr) (c : Nat) (l : List Int) (w : World) (S T : Nat → Prop) (hA : (wrA 44 g xs).holds w S) (hS : ∀ k, S k → k < w.heap.size) (hR : RB w T A l) (hd : ∀ k, T k → ¬ S k) (hl : xs.length + l.length ≤ 999999990) :
    Calls Try.prog 23 #[.pointer (some ⟨g, 0, none⟩), .slice A l.length c] w fun e w' => e = .returned (.tuple #[]) ∧ Upd (wrA 44 g ((xs ++ vb (zig l.length)) ++ l)) S w w' := by
  have hu41 := Try.underlying44
  have hu22 := Try.underlying22
  have HR := Aside0.mk hR
  have HS := Aside0.mk hS
  have HD := Aside0.mk hd
  have HA := Aside0.mk hA
  have hv := (vb_len (zig l.length)).2
  clear hA hS hR hd
  go_enter Try.func23, Try.ntmps23
  go_wp2_with fail
  refine (fnum_calls g xs l.length w S HA.out HS.out (by omega) (by omega) (by omega)).mono ?_
  rintro e w1 ⟨rfl, hch, S1, hm, v, hg, ho, hS1, hv⟩
  have hc : w1.cell? ⟨g, 0, none⟩ = some v := by simp [World.cell?, hg]
  have HR1 := Aside0.mk (HR.out.ch hch HD.out).now
  have HCH := Aside0.mk hch
  have HM := Aside0.mk hm
  have HG := Aside0.mk hg
  have HO := Aside0.mk ho
  have HS1 := Aside0.mk hS1
  have HV := Aside0.mk hv
  clear hch hm hg ho hS1 hv
  go_wp2_with (at_builtin; refine print_append_row (w0 := w1) 0 rfl _ _ 22 5 .u8 1 rfl hu22 info5' (by decide) v (xs ++ vb (zig l.length)) l A l.length c rfl rfl HO.out HR1.out (Below.refl _ _) (Nat.zero_le _) (by simp; omega) ?_; intro v1 w2 hown _ hgrow hat; obtain ⟨A1, c1, rfl⟩ := own_slice hown; obtain ⟨e1, hU⟩ := wr_put2 HCH.out HM.out HG.out HS1.out HV.out (Below.refl _ _) hgrow hown hat; have hc1 : w2.cell? ⟨g, 0, none⟩ = some v := (by simp [World.cell?, e1]); have hf1 : w2.frozen? ⟨g, 0, none⟩ = false := (by simp [World.frozen?, e1]); have HU1 := Aside0.mk hU; clear e1 hU hown hgrow hat)
  go_end0
  refine ⟨rfl, ?_⟩
  have h := HU1.out
  rw [show (xs ++ vb (zig l.length) ++ l).length = xs.length + ((vb (zig l.length)).length + l.length) from by simp] at h
  exact h

set_option maxHeartbeats 1000000 in
theorem wbytes_calls (g : Nat) (xs : List Int) (w : World) (S : Nat → Prop) (hA : (wrA 41 g xs).holds w S) (hl : xs.length ≤ 2000000000) :
    Calls Try.prog 24 #[.pointer (some ⟨g, 0, none⟩)] w fun e w' => ∃ v, e = .returned v ∧ w'.ownsRow w.heap.size 5 1 v xs.length (nums .u8 xs) ∧ Below w.heap.size w w' := by
  have hu41 := Try.underlying41
  have hu22 := Try.underlying22
  obtain ⟨v, hg, ho, hS1, hv⟩ := hA
  obtain ⟨A, c, rfl, hr⟩ := own_reads ho
  have hc : w.cell? ⟨g, 0, none⟩ = some (.slice A xs.length c) := by simp [World.cell?, hg]
  have hc2 : (w.alloc (.cells #[] 5)).cell? ⟨g, 0, none⟩ = some (.slice A xs.length c) := pw_cell_below (below_alloc (Below.refl _ _) _) hc
  have HR := Aside0.mk hr
  clear hg ho hS1 hv hr
  go_enter Try.func24, Try.ntmps24
  go_wp2_with (go_at_call 26; refine (clone_calls A c xs w HR.out (by omega)).mono ?_; rintro e w1 ⟨v1, rfl, hown, hb⟩; have HO := Aside0.mk hown; have HB := Aside0.mk hb; clear hown hb)
  go_ret
  exact ⟨_, rfl, HO.out, HB.out⟩

set_option maxHeartbeats 1000000 in
theorem fbytes_calls (g : Nat) (xs : List Int) (w : World) (S : Nat → Prop) (hA : (wrA 44 g xs).holds w S) (hl : xs.length ≤ 2000000000) :
    Calls Try.prog 25 #[.pointer (some ⟨g, 0, none⟩)] w fun e w' => ∃ v, e = .returned v ∧ w'.ownsRow w.heap.size 5 1 v xs.length (nums .u8 xs) ∧ Below w.heap.size w w' := by
  have hu41 := Try.underlying44
  have hu22 := Try.underlying22
  obtain ⟨v, hg, ho, hS1, hv⟩ := hA
  obtain ⟨A, c, rfl, hr⟩ := own_reads ho
  have hc : w.cell? ⟨g, 0, none⟩ = some (.slice A xs.length c) := by simp [World.cell?, hg]
  have hc2 : (w.alloc (.cells #[] 5)).cell? ⟨g, 0, none⟩ = some (.slice A xs.length c) := pw_cell_below (below_alloc (Below.refl _ _) _) hc
  have HR := Aside0.mk hr
  clear hg ho hS1 hv hr
  go_enter Try.func25, Try.ntmps25
  go_wp2_with (at_builtin; refine print_append_row (w0 := w) w.heap.size rfl _ _ 22 5 .u8 1 rfl hu22 info5' (by decide) (.slice (some ⟨w.heap.size, 0, none⟩) 0 0) [] xs A xs.length c rfl rfl (own_lit w w.heap.size 5 .u8 [] (Nat.le_refl _) (by simp)) (HR.out.allocS _) (below_alloc (Below.refl _ _) _) (by simp) (by simp; omega) ?_; intro v1 w1 hown hb hg hat; have HO := Aside0.mk hown; have HB := Aside0.mk hb; clear hown hb hg hat)
  go_ret
  exact ⟨_, rfl, HO.out, HB.out⟩
end Go.Proofs.Ytpbkibafhabahaa.Wire
