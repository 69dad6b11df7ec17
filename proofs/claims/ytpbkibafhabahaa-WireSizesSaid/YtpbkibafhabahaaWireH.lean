/- Each call on one of several readers and writers that lie apart: what it leaves of all of them. -/
import Derived.Test.YtpbkibafhabahaaWireG
import Derived.Test.YtpbkibafhabahaaObjs
namespace Go.Proofs.Ytpbkibafhabahaa.Wire
open Go.RowKit Go.Proofs.YtpbkibafhabahaaW.PrintWords Go.Proofs.Ytpbkibafhabahaa.Obj
set_option linter.unusedVariables false

/-- Bytes of one's own. -/
def byA (v : Value) (xs : List Int) : Asr where
  holds := fun w S => w.ownsRow 0 5 1 v xs.length (nums .u8 xs) ∧ ∀ k, v.ownBlock = some k → S k
  keep := fun {w w' S} h ⟨h1, h2⟩ => ⟨own_move h1 (fun k hk => h k (h2 k hk)), h2⟩
theorem byA_one {w w' : World} {v : Value} {xs : List Int} (h : w'.ownsRow w.heap.size 5 1 v xs.length (nums .u8 xs)) : One (byA v xs) w.heap.size w' :=
  ⟨fun k => v.ownBlock = some k, fun k hk => ⟨own_base h k hk, own_lt h k hk⟩, own_weaken h (Nat.zero_le _), fun _ hk => hk⟩
theorem _root_.Go.Proofs.Ytpbkibafhabahaa.Obj.St.bytes {w0 w : World} {As : List Asr} (h : St w0 As w) (i : Nat) {v : Value} {xs : List Int} (hi : As[i]? = some (byA v xs)) : ∃ A c, v = .slice A xs.length c ∧ xs.length ≤ c ∧ ReadsInt w .u8 A xs.length xs ∧ xs.length ≤ 9223372036854775807 := by
  obtain ⟨S, _, ⟨h2, _⟩, _, _⟩ := h.at_ i hi
  obtain ⟨A, c, rfl, hr⟩ := own_reads h2
  refine ⟨A, c, rfl, ?_, hr, hr.2.1⟩
  rcases h2.2 with ⟨h, h'⟩ | ⟨g, cap, cur, h, _, _, h1, _⟩
  · injection h with _ h _; omega
  · injection h with _ _ h; omega

theorem _root_.Go.Proofs.Ytpbkibafhabahaa.Obj.St.wnum {w0 w : World} {As : List Asr} (h : St w0 As w) (i g : Nat) (xs : List Int) (n : Int) (hi : As[i]? = some (wrA 41 g xs)) (h0 : -9223372036854775808 ≤ n) (h1 : n ≤ 9223372036854775807) (hl : xs.length ≤ 1000000000) :
    Calls Try.prog 20 #[.pointer (some ⟨g, 0, none⟩), .int .i64 n] w fun e w' => e = .returned (.tuple #[]) ∧ St w0 (As.set i (wrA 41 g (xs ++ vb (zig n)))) w' := by
  obtain ⟨S, s1, s2, s3, s4⟩ := h.at_ i hi
  exact (wnum_calls g xs n w S s2 (fun k hk => (s1 k hk).2) h0 h1 hl).mono fun e w' ⟨he, hU⟩ => ⟨he, s3 hU⟩

theorem _root_.Go.Proofs.Ytpbkibafhabahaa.Obj.St.fnum {w0 w : World} {As : List Asr} (h : St w0 As w) (i g : Nat) (xs : List Int) (n : Int) (hi : As[i]? = some (wrA 44 g xs)) (h0 : -9223372036854775808 ≤ n) (h1 : n ≤ 9223372036854775807) (hl : xs.length ≤ 1000000000) :
    Calls Try.prog 21 #[.pointer (some ⟨g, 0, none⟩), .int .i64 n] w fun e w' => e = .returned (.tuple #[]) ∧ St w0 (As.set i (wrA 44 g (xs ++ vb (zig n)))) w' := by
  obtain ⟨S, s1, s2, s3, s4⟩ := h.at_ i hi
  exact (fnum_calls g xs n w S s2 (fun k hk => (s1 k hk).2) h0 h1 hl).mono fun e w' ⟨he, hU⟩ => ⟨he, s3 hU⟩

theorem _root_.Go.Proofs.Ytpbkibafhabahaa.Obj.St.wtext {w0 w : World} {As : List Asr} (h : St w0 As w) (i g : Nat) (xs : List Int) (A : Option Addr) (c : Nat) (l : List Int) (hi : As[i]? = some (wrA 41 g xs)) (hR : ReadsInt w0 .u8 A l.length l) (hl : xs.length + l.length ≤ 999999990) :
    Calls Try.prog 22 #[.pointer (some ⟨g, 0, none⟩), .slice A l.length c] w fun e w' => e = .returned (.tuple #[]) ∧ St w0 (As.set i (wrA 41 g ((xs ++ vb (zig l.length)) ++ l))) w' := by
  obtain ⟨S, s1, s2, s3, s4⟩ := h.at_ i hi
  have hR1 : RB w (fun k => k < w0.heap.size) A l := Foot.step (RB.old hR) (fun k hk _ => h.2.block k hk)
  exact (wtext_calls g xs A c l w S _ s2 (fun k hk => (s1 k hk).2) hR1 (fun k hk hs => by have := (s1 k hs).1; omega) hl).mono fun e w' ⟨he, hU⟩ => ⟨he, s3 hU⟩

theorem _root_.Go.Proofs.Ytpbkibafhabahaa.Obj.St.ftext {w0 w : World} {As : List Asr} (h : St w0 As w) (i g : Nat) (xs : List Int) (A : Option Addr) (c : Nat) (l : List Int) (hi : As[i]? = some (wrA 44 g xs)) (hR : ReadsInt w0 .u8 A l.length l) (hl : xs.length + l.length ≤ 999999990) :
    Calls Try.prog 23 #[.pointer (some ⟨g, 0, none⟩), .slice A l.length c] w fun e w' => e = .returned (.tuple #[]) ∧ St w0 (As.set i (wrA 44 g ((xs ++ vb (zig l.length)) ++ l))) w' := by
  obtain ⟨S, s1, s2, s3, s4⟩ := h.at_ i hi
  have hR1 : RB w (fun k => k < w0.heap.size) A l := Foot.step (RB.old hR) (fun k hk _ => h.2.block k hk)
  exact (ftext_calls g xs A c l w S _ s2 (fun k hk => (s1 k hk).2) hR1 (fun k hk hs => by have := (s1 k hs).1; omega) hl).mono fun e w' ⟨he, hU⟩ => ⟨he, s3 hU⟩

/-- Bytes that are read. -/
def rbA (A : Option Addr) (l : List Int) : Asr where
  holds := fun w S => RB w S A l
  keep := fun {w w' S} h hr => Foot.step hr (fun k hk _ => h k hk)
theorem _root_.Go.Proofs.Ytpbkibafhabahaa.Obj.St.wtextO {w0 w : World} {As : List Asr} (h : St w0 As w) (i j g : Nat) (hij : i ≠ j) (xs : List Int) (A : Option Addr) (c : Nat) (l : List Int) (hi : As[i]? = some (wrA 41 g xs)) (hj : As[j]? = some (rbA A l)) (hl : xs.length + l.length ≤ 999999990) :
    Calls Try.prog 22 #[.pointer (some ⟨g, 0, none⟩), .slice A l.length c] w fun e w' => e = .returned (.tuple #[]) ∧ St w0 (As.set i (wrA 41 g ((xs ++ vb (zig l.length)) ++ l))) w' := by
  obtain ⟨S, T, s1, t1, st, s2, t2, s3⟩ := h.at2 i j hij hi hj
  exact (wtext_calls g xs A c l w S T s2 (fun k hk => (s1 k hk).2) t2 st hl).mono fun e w' ⟨he, hU⟩ => ⟨he, s3 hU⟩

theorem _root_.Go.Proofs.Ytpbkibafhabahaa.Obj.St.wbytes {w0 w : World} {As : List Asr} (h : St w0 As w) (i g : Nat) (xs : List Int) (hi : As[i]? = some (wrA 41 g xs)) (hl : xs.length ≤ 2000000000) :
    Calls Try.prog 24 #[.pointer (some ⟨g, 0, none⟩)] w fun e w' => ∃ v, e = .returned v ∧ St w0 (As ++ [byA v xs]) w' := by
  obtain ⟨S, s1, s2, s3, s4⟩ := h.at_ i hi
  exact (wbytes_calls g xs w S s2 hl).mono fun e w' ⟨v, he, ho, hb⟩ => ⟨v, he, h.push hb (byA_one ho)⟩

theorem _root_.Go.Proofs.Ytpbkibafhabahaa.Obj.St.fbytes {w0 w : World} {As : List Asr} (h : St w0 As w) (i g : Nat) (xs : List Int) (hi : As[i]? = some (wrA 44 g xs)) (hl : xs.length ≤ 2000000000) :
    Calls Try.prog 25 #[.pointer (some ⟨g, 0, none⟩)] w fun e w' => ∃ v, e = .returned v ∧ St w0 (As ++ [byA v xs]) w' := by
  obtain ⟨S, s1, s2, s3, s4⟩ := h.at_ i hi
  exact (fbytes_calls g xs w S s2 hl).mono fun e w' ⟨v, he, ho, hb⟩ => ⟨v, he, h.push hb (byA_one ho)⟩

theorem _root_.Go.Proofs.Ytpbkibafhabahaa.Obj.St.newR {w0 w : World} {As : List Asr} (h : St w0 As w) (A : Option Addr) (c : Nat) (l : List Int) (hR : ReadsInt w .u8 A l.length l) (hl : l.length ≤ 140737488351232) :
    Calls Try.prog 10 #[.slice A l.length c] w fun e w' => ∃ g, e = .returned (.pointer (some ⟨g, 0, none⟩)) ∧ St w0 (As ++ [rdA g l 0]) w' :=
  (newReader_calls A c l w hR hl).mono fun e w' ⟨g, he, ho, hb⟩ => ⟨g, he, h.push hb ho⟩

theorem _root_.Go.Proofs.Ytpbkibafhabahaa.Obj.St.newF {w0 w : World} {As : List Asr} (h : St w0 As w) (A : Option Addr) (c : Nat) (l : List Int) (hR : ReadsInt w .u8 A l.length l) (hl : l.length ≤ 140737488351232) :
    Calls Try.prog 11 #[.slice A l.length c] w fun e w' => ∃ g, e = .returned (.pointer (some ⟨g, 0, none⟩)) ∧ St w0 (As ++ [rfA g l 0]) w' :=
  (newReaderF_calls A c l w hR hl).mono fun e w' ⟨g, he, ho, hb⟩ => ⟨g, he, h.push hb ho⟩

theorem _root_.Go.Proofs.Ytpbkibafhabahaa.Obj.St.rnum {w0 w : World} {As : List Asr} (h : St w0 As w) (i g : Nat) (l : List Int) (e : Int) (hi : As[i]? = some (rdA g l e)) (hby : ∀ x ∈ l, 0 ≤ x ∧ x < 256) :
    Calls Try.prog 16 #[.pointer (some ⟨g, 0, none⟩)] w fun r w' => r = .returned (.int .i64 (rNum l e).1) ∧ St w0 (As.set i (rdA g (rNum l e).2.1 (rNum l e).2.2)) w' := by
  obtain ⟨S, s1, s2, s3, s4⟩ := h.at_ i hi
  exact (rnum_calls g l e w S s2 (fun k hk => (s1 k hk).2) hby).mono fun r w' ⟨hr, hS⟩ => ⟨hr, s3 (hS.upd (fun k hk => (s1 k hk).2))⟩

theorem _root_.Go.Proofs.Ytpbkibafhabahaa.Obj.St.fnumR {w0 w : World} {As : List Asr} (h : St w0 As w) (i g : Nat) (l : List Int) (e : Int) (hi : As[i]? = some (rfA g l e)) (hby : ∀ x ∈ l, 0 ≤ x ∧ x < 256) :
    Calls Try.prog 17 #[.pointer (some ⟨g, 0, none⟩)] w fun r w' => r = .returned (.int .i64 (rNum l e).1) ∧ St w0 (As.set i (rfA g (rNum l e).2.1 (rNum l e).2.2)) w' := by
  obtain ⟨S, s1, s2, s3, s4⟩ := h.at_ i hi
  exact (fnumR_calls g l e w S s2 hby).mono fun r w' ⟨hr, hS⟩ => ⟨hr, s3 (hS.upd (fun k hk => (s1 k hk).2))⟩

theorem _root_.Go.Proofs.Ytpbkibafhabahaa.Obj.St.rint {w0 w : World} {As : List Asr} (h : St w0 As w) (i g : Nat) (least most : Int) (l : List Int) (e : Int) (hi : As[i]? = some (rdA g l e)) (hby : ∀ x ∈ l, 0 ≤ x ∧ x < 256) :
    Calls Try.prog 12 #[.pointer (some ⟨g, 0, none⟩), .int .i64 least, .int .i64 most] w fun r w' => r = .returned (.int .i64 (rInt least most l e).1) ∧ St w0 (As.set i (rdA g (rInt least most l e).2.1 (rInt least most l e).2.2)) w' := by
  obtain ⟨S, s1, s2, s3, s4⟩ := h.at_ i hi
  exact (rint_calls g least most l e w S s2 (fun k hk => (s1 k hk).2) hby).mono fun r w' ⟨hr, hS⟩ => ⟨hr, s3 (hS.upd (fun k hk => (s1 k hk).2))⟩

theorem _root_.Go.Proofs.Ytpbkibafhabahaa.Obj.St.fint {w0 w : World} {As : List Asr} (h : St w0 As w) (i g : Nat) (least most : Int) (l : List Int) (e : Int) (hi : As[i]? = some (rfA g l e)) (hby : ∀ x ∈ l, 0 ≤ x ∧ x < 256) :
    Calls Try.prog 13 #[.pointer (some ⟨g, 0, none⟩), .int .i64 least, .int .i64 most] w fun r w' => r = .returned (.int .i64 (rInt least most l e).1) ∧ St w0 (As.set i (rfA g (rInt least most l e).2.1 (rInt least most l e).2.2)) w' := by
  obtain ⟨S, s1, s2, s3, s4⟩ := h.at_ i hi
  exact (fintR_calls g least most l e w S s2 hby).mono fun r w' ⟨hr, hS⟩ => ⟨hr, s3 (hS.upd (fun k hk => (s1 k hk).2))⟩

theorem _root_.Go.Proofs.Ytpbkibafhabahaa.Obj.St.rtext {w0 w : World} {As : List Asr} (h : St w0 As w) (i g : Nat) (most : Int) (l : List Int) (e : Int) (hi : As[i]? = some (rdA g l e)) (hl : l.length ≤ 140737488351232) (hby : ∀ x ∈ l, 0 ≤ x ∧ x < 256) (hm : -9223372036854775808 ≤ most) (hm' : most ≤ 9223372036854775807) :
    Calls Try.prog 14 #[.pointer (some ⟨g, 0, none⟩), .int .i64 most] w fun r w' => ∃ v, r = .returned v ∧ St w0 (As.set i (rdA g (rText most l e).2.1 (rText most l e).2.2) ++ [byA v (rText most l e).1]) w' := by
  obtain ⟨S, s1, s2, s3, s4⟩ := h.at_ i hi
  refine (rtext_calls g most l e w S s2 (fun k hk => (s1 k hk).2) hl hby).mono fun r w' ⟨v, hr, ho, hS⟩ => ⟨v, hr, ?_⟩
  exact s4 hS (byA_one ho)

theorem _root_.Go.Proofs.Ytpbkibafhabahaa.Obj.St.ftextR {w0 w : World} {As : List Asr} (h : St w0 As w) (i g : Nat) (most : Int) (l : List Int) (e : Int) (hi : As[i]? = some (rfA g l e)) (hl : l.length ≤ 140737488351232) (hby : ∀ x ∈ l, 0 ≤ x ∧ x < 256) (hm : -9223372036854775808 ≤ most) (hm' : most ≤ 9223372036854775807) :
    Calls Try.prog 15 #[.pointer (some ⟨g, 0, none⟩), .int .i64 most] w fun r w' => ∃ v, r = .returned v ∧ St w0 (As.set i (rfA g (rText most l e).2.1 (rText most l e).2.2) ++ [byA v (rText most l e).1]) w' := by
  obtain ⟨S, s1, s2, s3, s4⟩ := h.at_ i hi
  refine (ftextR_calls g most l e w S s2 hby hm hm').mono fun r w' ⟨v, hr, ho, hS⟩ => ⟨v, hr, ?_⟩
  exact s4 hS (byA_one ho)

theorem reads_of_C {w : World} {A : Option Addr} {n : Nat} {l : List Int} (h : Kd.C (Kd.int .u8) w A n l) : ReadsInt w .u8 A n l := by
  obtain ⟨h1, h2, h3⟩ := h
  refine ⟨h1, h2, fun hn => ?_⟩
  obtain ⟨ad, e, hc⟩ := h3 hn
  refine ⟨ad, e, fun j hj => ?_⟩
  obtain ⟨cc, _, hK, hcell⟩ := hc j (l[j]'(by omega)) (List.getElem?_eq_getElem _)
  have hK' : cc = [.int .u8 (l[j]'(by omega))] := hK
  have h0 := hcell 0 (.int .u8 (l[j]'(by omega))) (by rw [hK']; rfl)
  have e2 : (Kd.int .u8).sz = 1 := rfl
  rw [e2, Nat.mul_one, Nat.add_zero] at h0
  rw [h0, List.getD_eq_getElem?_getD, List.getElem?_eq_getElem (by omega)]
  rfl
theorem readsI_of_C {w : World} {A : Option Addr} {n : Nat} {l : List Int} (h : Kd.C (Kd.int .i64) w A n l) : ReadsInt w .i64 A n l := by
  obtain ⟨h1, h2, h3⟩ := h
  refine ⟨h1, h2, fun hn => ?_⟩
  obtain ⟨ad, e, hc⟩ := h3 hn
  refine ⟨ad, e, fun j hj => ?_⟩
  obtain ⟨cc, _, hK, hcell⟩ := hc j (l[j]'(by omega)) (List.getElem?_eq_getElem _)
  have hK' : cc = [.int .i64 (l[j]'(by omega))] := hK
  have h0 := hcell 0 (.int .i64 (l[j]'(by omega))) (by rw [hK']; rfl)
  have e2 : (Kd.int .i64).sz = 1 := rfl
  rw [e2, Nat.mul_one, Nat.add_zero] at h0
  rw [h0, List.getD_eq_getElem?_getD, List.getElem?_eq_getElem (by omega)]
  rfl
theorem wf_u16 {n : Int} (h : (Lit.int .u16 n).wf = true) : 0 ≤ n ∧ n ≤ 65535 := by
  have e1 : IntKind.u16.min = 0 := by decide
  have e2 : IntKind.u16.max = 65535 := by decide
  simp [Lit.wf, e1, e2] at h
  omega
theorem wf_i64 {n : Int} (h : (Lit.int .i64 n).wf = true) : -9223372036854775808 ≤ n ∧ n ≤ 9223372036854775807 := by
  have e1 : IntKind.i64.min = -9223372036854775808 := by decide
  have e2 : IntKind.i64.max = 9223372036854775807 := by decide
  simp [Lit.wf, e1, e2] at h
  omega
theorem wf_u8 {n : Int} (h : (Lit.int .u8 n).wf = true) : 0 ≤ n ∧ n < 256 := by
  have e1 : IntKind.u8.min = 0 := by decide
  have e2 : IntKind.u8.max = 255 := by decide
  simp [Lit.wf, e1, e2] at h
  omega
/-- Own bytes, appended to. -/
theorem by_put {w w1 : World} {v v1 : Value} {xs ys : List Int} {S : Nat → Prop} {m : Nat} (h : (byA v xs).holds w S) (hS : ∀ k, S k → m ≤ k ∧ k < w.heap.size) (hg : w.grownBy w1 v.ownBlock) (ho : w1.ownsRow 0 5 1 v1 ys.length (nums .u8 ys)) (hat : v1.ownBlock = v.ownBlock ∨ ∃ b, v1.ownBlock = some b ∧ w.heap.size ≤ b) : Upd (byA v1 ys) S w w1 := by
  refine ⟨(Ch.refl S w).grown hg (fun k hk => .inl (h.2 k hk)), fun k => S k ∨ (w.heap.size ≤ k ∧ k < w1.heap.size), ⟨fun k hk => hk.imp id (fun h => h.1), fun k hk => ?_⟩, ho, fun k hk => ?_⟩
  · rcases hk with hk | hk
    · exact Nat.lt_of_lt_of_le (hS k hk).2 hg.size
    · exact hk.2
  · rcases hat with e | ⟨b, e, hb⟩
    · exact .inl (h.2 k (e.symm.trans hk))
    · rw [e] at hk; injection hk with hk; subst hk
      exact .inr ⟨hb, own_lt ho _ e⟩
theorem newW (w : World) (T : TypeId) : One (wrA T w.heap.size []) w.heap.size (w.alloc (.cells #[.slice none 0 0] T)) :=
  ⟨fun k => k = w.heap.size, fun k hk => ⟨by omega, by simp [hk]⟩, _, heap_alloc_new w _, own_nil _ _ _ _, rfl, fun k hk => by cases hk⟩
theorem newC (w : World) (xs : List Int) (fr : Nat × Nat) (hm : xs.length ≤ 9223372036854775807) : One (rbA (some ⟨w.heap.size, 0, none⟩) xs) w.heap.size (w.alloc (.cells (nums .u8 xs).toArray 5 fr)) := by
  refine ⟨fun k => k = w.heap.size, fun k hk => ⟨by omega, by simp [hk]⟩, RB.mk ⟨rfl, hm, fun hn => ⟨_, rfl, fun j hj => ?_⟩⟩ (fun ad e _ => by cases e; rfl)⟩
  rw [show (⟨w.heap.size, 0, none⟩ : Addr).add j = ⟨w.heap.size, j, none⟩ from add_plain _ _]
  refine cellOf (heap_alloc_new w _) j ?_
  rw [List.getElem?_toArray]
  simp [nums, List.getElem?_eq_getElem hj, List.getD_eq_getElem?_getD]
theorem newB (w : World) (xs : List Int) (hm : xs.length ≤ 9223372036854775807) : One (byA (.slice (some ⟨w.heap.size, 0, none⟩) xs.length xs.length) xs) w.heap.size (w.alloc (.cells (nums .u8 xs).toArray 5)) :=
  byA_one (own_lit w w.heap.size 5 .u8 xs (Nat.le_refl _) hm)
theorem _root_.Go.Proofs.Ytpbkibafhabahaa.Obj.St.rend {w0 w : World} {As : List Asr} (h : St w0 As w) (i g : Nat) (l : List Int) (e : Int) (hi : As[i]? = some (rdA g l e)) :
    Calls Try.prog 18 #[.pointer (some ⟨g, 0, none⟩)] w fun r w' => r = .returned (.int .i64 (rEnd l e)) ∧ w = w' := by
  obtain ⟨S, s1, s2, s3, s4⟩ := h.at_ i hi
  exact rend_calls g l e w S s2
theorem _root_.Go.Proofs.Ytpbkibafhabahaa.Obj.St.fend {w0 w : World} {As : List Asr} (h : St w0 As w) (i g : Nat) (l : List Int) (e : Int) (hi : As[i]? = some (rfA g l e)) :
    Calls Try.prog 19 #[.pointer (some ⟨g, 0, none⟩)] w fun r w' => r = .returned (.int .i64 (rEnd l e)) ∧ St w0 As w' := by
  obtain ⟨S, s1, s2, s3, s4⟩ := h.at_ i hi
  exact (fend_calls g l e w S s2).mono fun r w' ⟨hr, hd⟩ => ⟨hr, h.below hd.below⟩
end Go.Proofs.Ytpbkibafhabahaa.Wire
