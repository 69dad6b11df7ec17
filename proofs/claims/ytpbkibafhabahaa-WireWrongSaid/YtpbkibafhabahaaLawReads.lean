/- What a reader of any bytes tells, whatever is asked: the statement's call, walked through. -/
import Derived.Test.YtpbkibafhabahaaWireHead
import Derived.StillTailTactics
import Derived.Deep.RegionWith
import Derived.Deep.RegionHeld3
namespace Go.Proofs.Ytpbkibafhabahaa.Wire
open Go.RowKit Go.Proofs.YtpbkibafhabahaaW.PrintWords Go.Proofs.Ytpbkibafhabahaa.Obj
set_option linter.unusedVariables false

/-- What is asked: kind, least, most. -/
def ReadsAsk (w : World) (A : Option Addr) (qs : List (Int × Int × Int)) : Prop :=
  qs.length ≤ 9223372036854775807 ∧ (0 < qs.length → ∃ ad, A = some ad ∧ ∀ j, (h : j < qs.length) → w.cell? (ad.add (j * 3)) = some (.int .i64 qs[j].1) ∧ w.cell? (ad.add (j * 3 + 1)) = some (.int .i64 qs[j].2.1) ∧ w.cell? (ad.add (j * 3 + 2)) = some (.int .i64 qs[j].2.2))
theorem reads_bytesN {l : List Int} {e : Int} (h : ∀ x ∈ l, 0 ≤ x ∧ x < 256) : ∀ x ∈ (rNum l e).2.1, 0 ≤ x ∧ x < 256 := by
  unfold rNum rStep
  split
  · split
    · exact fun x hx => h x (List.mem_of_mem_drop hx)
    · exact h
  · exact h
theorem reads_lenN (l : List Int) (e : Int) : (rNum l e).2.1.length ≤ l.length := by
  unfold rNum rStep
  split
  · split <;> simp
  · simp
theorem reads_bytesI {l : List Int} {e : Int} (a b : Int) (h : ∀ x ∈ l, 0 ≤ x ∧ x < 256) : ∀ x ∈ (rInt a b l e).2.1, 0 ≤ x ∧ x < 256 := by
  unfold rInt rStep
  split
  · split
    · exact fun x hx => h x (List.mem_of_mem_drop hx)
    · exact h
  · exact h
theorem reads_lenI (a b : Int) (l : List Int) (e : Int) : (rInt a b l e).2.1.length ≤ l.length := by
  unfold rInt rStep
  split
  · split <;> simp
  · simp
theorem reads_bytesT {l : List Int} {e : Int} (a : Int) (h : ∀ x ∈ l, 0 ≤ x ∧ x < 256) : ∀ x ∈ (rText a l e).2.1, 0 ≤ x ∧ x < 256 := by
  unfold rText
  split
  · split
    · exact fun x hx => h x (List.mem_of_mem_drop hx)
    · exact h
  · exact h
theorem reads_lenT (a : Int) (l : List Int) (e : Int) : (rText a l e).2.1.length ≤ l.length := by
  unfold rText
  split
  · split <;> simp
  · simp
set_option maxRecDepth 100000 in
set_option maxHeartbeats 8000000 in
theorem reads_calls (A0 : Option Addr) (c0 : Nat) (b : List Int) (A1 : Option Addr) (c1 : Nat) (qs : List (Int × Int × Int)) (w : World) (hR : ReadsInt w .u8 A0 b.length b) (hby : ∀ x ∈ b, 0 ≤ x ∧ x < 256) (hQ : ReadsAsk w A1 qs) (hq : ∀ q ∈ qs, -9223372036854775808 ≤ q.2.2 ∧ q.2.2 ≤ 9223372036854775807) :
    Calls Try.prog 3 #[.slice A0 b.length c0, .slice A1 qs.length c1] w fun e w' => e = .returned (.bool true) ∧ Below w.heap.size w w' := by
  have hu22 := Try.underlying22
  have hu23 := Try.underlying23
  have hu30 := Try.underlying30
  have hmaxb := hR.2.1
  have hmaxq := hQ.1
  have HR := Aside0.mk hR
  have HBY := Aside0.mk hby
  have HQ := Aside0.mk hQ
  have HQQ := Aside0.mk hq
  clear hR hby hQ hq
  by_cases h1 : 9000 < b.length
  · go_enter Try.func3, Try.ntmps3
    go_wp2_with (go_at_call 9; refine (head_calls w).mono ?_; rintro e w1 ⟨rfl, hb⟩; have HB := Aside0.mk hb; clear hb)
    go_ret
    exact ⟨rfl, HB.out⟩
  · by_cases h2 : 300 < qs.length
    · go_enter Try.func3, Try.ntmps3
      go_wp2_with (go_at_call 9; refine (head_calls w).mono ?_; rintro e w1 ⟨rfl, hb⟩; have HB := Aside0.mk hb; clear hb)
      go_ret
      exact ⟨rfl, HB.out⟩
    · go_enter Try.func3, Try.ntmps3
      go_wp2_with fail
      refine (head_calls w).mono ?_
      rintro e w1 ⟨rfl, hb⟩
      have HB := Aside0.mk hb
      have HR1 := Aside0.mk (HR.out.below hb)
      have HQ1 := Aside0.mk (show (0 < qs.length → ∃ ad, A1 = some ad ∧ ∀ j, (h : j < qs.length) → w1.cell? (ad.add (j * 3)) = some (.int .i64 qs[j].1) ∧ w1.cell? (ad.add (j * 3 + 1)) = some (.int .i64 qs[j].2.1) ∧ w1.cell? (ad.add (j * 3 + 2)) = some (.int .i64 qs[j].2.2)) from fun hp => by
        obtain ⟨ad, e, h⟩ := HQ.out.2 hp
        exact ⟨ad, e, fun j hj => ⟨pw_cell_below hb (h j hj).1, pw_cell_below hb (h j hj).2.1, pw_cell_below hb (h j hj).2.2⟩⟩)
      have HB9 := Aside0.mk (fun (wx : World) (h : Below w1.heap.size w1 wx) => below_then HB.out HB.out.size h)
      clear hb HR HQ
      go_wp2_with fail
      refine ((St.start w1).newR A0 c0 b HR1.out (by omega)).mono ?_
      rintro e w2 ⟨g1, rfl, h⟩
      have HS2 := Aside0.mk h
      have HR2 := Aside0.mk (HR1.out.below h.2)
      clear h
      go_wp2_with fail
      refine (HS2.out.newF A0 c0 b HR2.out (by omega)).mono ?_
      rintro e w3 ⟨g2, rfl, h⟩
      have HS3 := Aside0.mk (show St w1 [rdA g1 b 0, rfA g2 b 0] w3 from h)
      clear h HS2 HR2
      go_wp2_with fail
      go_loopw [8] (fun i wr => ∃ (k : Nat) (l : List Int) (e : Int), k ≤ qs.length ∧ i = .int .i64 k ∧ l.length ≤ 9000 ∧ Aside0 (∀ x ∈ l, 0 ≤ x ∧ x < 256) ∧ Aside0 (St w1 [rdA g1 l e, rfA g2 l e] wr)) (fun i _ => qs.length - (intOf i).toNat)
      case atStart => exact ⟨0, b, 0, by omega, rfl, by omega, HBY, HS3⟩
      case round =>
        clear HS3 HBY HR1
        obtain ⟨k, l, e, hk, rfl, hl, HLB, HS⟩ := hrel
        by_cases hlt : k < qs.length
        · obtain ⟨ad, rfl, hcells⟩ := HQ1.out (by omega)
          obtain ⟨p0, p1, p2⟩ := hcells k hlt
          have hmr := HQQ.out qs[k] (List.getElem_mem hlt)
          obtain ⟨q, hqe⟩ : ∃ q, qs[k] = q := ⟨_, rfl⟩
          rw [hqe] at p0 p1 p2 hmr
          obtain ⟨kd, lo, hi⟩ := q
          dsimp only at p0 p1 p2 hmr
          obtain ⟨m0, m1⟩ := hmr
          have M0 := Aside0.mk m0
          have M1 := Aside0.mk m1
          have P1 := Aside0.mk p1
          have P2 := Aside0.mk p2
          have r0 : wr.cell? (ad.add (k * 3)) = some (.int .i64 kd) := pw_cell_below HS.out.2 p0
          have r1 : wr.cell? ⟨(ad.add (k * 3)).block, (ad.add (k * 3)).off + 1, none⟩ = some (.int .i64 lo) := by rw [← add_field _ _ 1 (by omega)]; exact pw_cell_below HS.out.2 p1
          have r2 : wr.cell? ⟨(ad.add (k * 3)).block, (ad.add (k * 3)).off + 2, none⟩ = some (.int .i64 hi) := by rw [← add_field _ _ 2 (by omega)]; exact pw_cell_below HS.out.2 p2
          clear hcells p0 p1 p2 hqe m0 m1
          by_cases k1 : kd = 1
          · have b1 : (kd == 1) = true := by simp [k1]
            clear k1
            go_wp2_with fail
            go_still_tail 11, (by kernel_rfl)
            change wpList _ _ _ _ _ wr.drew
            have H3 := Aside0.mk (HS.out.below (below_drew (Below.refl _ _)))
            generalize wr.drew = w3 at H3 ⊢
            clear HS
            go_wp2_with fail
            refine (H3.out.rint 0 g1 lo hi l e rfl HLB.out).mono ?_
            rintro r w4 ⟨rfl, h⟩
            have H4 := Aside0.mk h
            have s1 : w4.cell? ⟨(ad.add (k * 3)).block, (ad.add (k * 3)).off + 1, none⟩ = some (.int .i64 lo) := by rw [← add_field _ _ 1 (by omega)]; exact pw_cell_below h.2 P1.out
            have s2 : w4.cell? ⟨(ad.add (k * 3)).block, (ad.add (k * 3)).off + 2, none⟩ = some (.int .i64 hi) := by rw [← add_field _ _ 2 (by omega)]; exact pw_cell_below h.2 P2.out
            clear h H3 r0 r1 r2
            go_wp2_with fail
            have hnew1 := World.new_ne w4 _ s1
            go_region_held3 (fun w' => w'.cell? ⟨(ad.add (k * 3)).block, (ad.add (k * 3)).off + 1, none⟩ = some (.int .i64 lo) ∧ w'.cell? ⟨(ad.add (k * 3)).block, (ad.add (k * 3)).off + 2, none⟩ = some (.int .i64 hi)) (first | go_keep | exact ⟨s61, s62⟩)
              ((go_at_call 13; refine ((H4.out.below (below_drew (Below.refl _ _))).fint 1 g2 lo hi l e rfl HLB.out).mono ?_; rintro r w6 ⟨rfl, h⟩; have s61 : w6.cell? ⟨(ad.add (k * 3)).block, (ad.add (k * 3)).off + 1, none⟩ = some (.int .i64 lo) := (by rw [← add_field _ _ 1 (by omega)]; exact pw_cell_below h.2 P1.out); have s62 : w6.cell? ⟨(ad.add (k * 3)).block, (ad.add (k * 3)).off + 2, none⟩ = some (.int .i64 hi) := (by rw [← add_field _ _ 2 (by omega)]; exact pw_cell_below h.2 P2.out); have H5 := Aside0.mk h; clear h))
            have h := H5.out
            have hl6 := reads_lenI lo hi l e
            have hb6 := reads_bytesI (e := e) lo hi HLB.out
            obtain ⟨x, l', e', hr⟩ : ∃ x l' e', rInt lo hi l e = (x, l', e') := ⟨_, _, _, rfl⟩
            have H6 := Aside0.mk (show St w1 [rdA g1 l' e', rfA g2 l' e'] w6 by
              have h' := h
              simp only [List.set_cons_succ, List.set_cons_zero, hr] at h'
              exact h')
            rw [hr] at hl6 hb6 ⊢
            have HLB' := Aside0.mk hb6
            dsimp only at hl6
            have hxx : (x != x) = false := by simp
            clear h H5 H4 hr hb6 s1 s2 s61 s62 hnew1
            go_wp2_with fail
            refine (H6.out.rend 0 g1 l' e' rfl).mono ?_
            rintro r wx ⟨rfl, rfl⟩
            go_wp2_with fail
            refine (H6.out.fend 1 g2 l' e' rfl).mono ?_
            rintro r wy ⟨rfl, h⟩
            have HZ := Aside0.mk h
            clear h H6
            obtain ⟨z, hz⟩ : ∃ z, rEnd l' e' = z := ⟨_, rfl⟩
            rw [hz]
            have hzz : (z != z) = false := by simp
            clear hz
            go_wp2_with fail
            go_roundw
            case rel => exact ⟨k + 1, l', e', by omega, by go_num, by omega, HLB', HZ⟩
            case measure => simp [intOf]; omega
          · by_cases k2 : kd = 2
            · have b1 : (kd == 1) = false := by simp [k1]
              have b2 : (kd == 2) = true := by simp [k2]
              clear k1 k2
              go_wp2_with fail
              refine (HS.out.rtext 0 g1 hi l e rfl (by omega) HLB.out M0.out M1.out).mono ?_
              rintro r w4 ⟨v, rfl, h⟩
              obtain ⟨A4, c4, rfl, _, hr4, _⟩ := h.bytes 2 rfl
              have hl6 := reads_lenT hi l e
              have hb6 := reads_bytesT (e := e) hi HLB.out
              obtain ⟨t, l', e', hr⟩ : ∃ t l' e', rText hi l e = (t, l', e') := ⟨_, _, _, rfl⟩
              have H4 := Aside0.mk (show St w1 [rdA g1 l' e', rfA g2 l e, byA (.slice A4 t.length c4) t] w4 by
                have h' := h
                simp only [List.set_cons_zero, hr] at h'
                exact h')
              rw [hr] at hl6 hb6 hr4 ⊢
              dsimp only at hl6 hr4 ⊢
              have HLB' := Aside0.mk hb6
              have HST := Aside0.mk (fun (wx : World) (A : Option Addr) (c : Nat) (hr : ReadsInt wx .u8 A t.length t) => string_of_reads (P := Try.prog) (c := c) hu22 Try.underlying5 Try.underlying9 hr)
              have s2 : w4.cell? ⟨(ad.add (k * 3)).block, (ad.add (k * 3)).off + 2, none⟩ = some (.int .i64 hi) := by rw [← add_field _ _ 2 (by omega)]; exact pw_cell_below h.2 P2.out
              have kd4 := HST.out _ A4 c4 (hr4.below (below_drew (Below.refl _ _)))
              have kd3 := HST.out _ A4 c4 hr4
              generalize strOfNums t = sy at HST kd4 kd3
              have HRE := Aside0.mk hr
              clear h HS hr hb6 r0 r1 r2 hr4
              go_wp2_with fail
              go_region_with ((go_at_call 15; refine ((H4.out.below (below_drew (Below.refl _ _))).ftextR 1 g2 hi l e rfl (by omega) HLB.out M0.out M1.out).mono ?_; rintro r w6 ⟨v6, rfl, h⟩; rw [HRE.out] at h; obtain ⟨A6, c6, rfl, _, hr6, _⟩ := h.bytes 3 rfl; obtain ⟨A7, c7, e7, _, hr7, _⟩ := h.bytes 2 rfl; injection e7 with e7 _ e7'; subst e7; subst e7'; have kd6 := HST.out w6 A6 c6 hr6; have kd7 := HST.out w6 A4 c4 hr7; have H6 := Aside0.mk (St.left (Bs := [byA (.slice A4 t.length c4) t, byA (.slice A6 t.length c6) t]) (show St w1 ([rdA g1 l' e', rfA g2 l' e'] ++ [byA (.slice A4 t.length c4) t, byA (.slice A6 t.length c6) t]) w6 from h)); clear h hr6 hr7))
              all_goals
                go_wp2_with fail
                refine (H6.out.rend 0 g1 l' e' rfl).mono ?_
                rintro r wx ⟨rfl, rfl⟩
                go_wp2_with fail
                refine (H6.out.fend 1 g2 l' e' rfl).mono ?_
                rintro r wy ⟨rfl, h⟩
                have HZ := Aside0.mk h
                clear h H6
                obtain ⟨z, hz⟩ : ∃ z, rEnd l' e' = z := ⟨_, rfl⟩
                rw [hz]
                have hzz : (z != z) = false := by simp
                clear hz
                go_wp2_with fail
                go_roundw
                case rel => exact ⟨k + 1, l', e', by omega, by go_num, by omega, HLB', HZ⟩
                case measure => simp [intOf]; omega
            · have b1 : (kd == 1) = false := by simp [k1]
              have b2 : (kd == 2) = false := by simp [k2]
              clear k1 k2
              go_wp2_with fail
              refine (HS.out.rnum 0 g1 l e rfl HLB.out).mono ?_
              rintro r w4 ⟨rfl, h⟩
              have H4 := Aside0.mk h
              clear h HS r0 r1 r2
              go_wp2_with fail
              refine (H4.out.fnumR 1 g2 l e rfl HLB.out).mono ?_
              rintro r w6 ⟨rfl, h⟩
              have hl6 := reads_lenN l e
              have hb6 := reads_bytesN (e := e) HLB.out
              obtain ⟨x, l', e', hr⟩ : ∃ x l' e', rNum l e = (x, l', e') := ⟨_, _, _, rfl⟩
              have H6 := Aside0.mk (show St w1 [rdA g1 l' e', rfA g2 l' e'] w6 by
                have h' := h
                simp only [List.set_cons_succ, List.set_cons_zero, hr] at h'
                exact h')
              rw [hr] at hl6 hb6 ⊢
              have HLB' := Aside0.mk hb6
              dsimp only at hl6
              have hxx : (x != x) = false := by simp
              clear h H4 hr hb6
              go_wp2_with fail
              refine (H6.out.rend 0 g1 l' e' rfl).mono ?_
              rintro r wx ⟨rfl, rfl⟩
              go_wp2_with fail
              refine (H6.out.fend 1 g2 l' e' rfl).mono ?_
              rintro r wy ⟨rfl, h⟩
              have HZ := Aside0.mk h
              clear h H6
              obtain ⟨z, hz⟩ : ∃ z, rEnd l' e' = z := ⟨_, rfl⟩
              rw [hz]
              have hzz : (z != z) = false := by simp
              clear hz
              go_wp2_with fail
              go_roundw
              case rel => exact ⟨k + 1, l', e', by omega, by go_num, by omega, HLB', HZ⟩
              case measure => simp [intOf]; omega
        · obtain rfl : k = qs.length := by omega
          go_wp2_with fail
          refine (HS.out.rend 0 g1 l e rfl).mono ?_
          rintro r wx ⟨rfl, rfl⟩
          go_wp2_with fail
          refine (HS.out.fend 1 g2 l e rfl).mono ?_
          rintro r wy ⟨rfl, h⟩
          have HZ := Aside0.mk h
          clear h HS
          obtain ⟨z, hz⟩ : ∃ z, rEnd l e = z := ⟨_, rfl⟩
          rw [hz]
          have hzz : (z == z) = true := by simp
          clear hz
          go_wp2_with fail
          go_ret
          exact ⟨by first | rfl | simp, HB9.out _ HZ.out.2⟩
end Go.Proofs.Ytpbkibafhabahaa.Wire
