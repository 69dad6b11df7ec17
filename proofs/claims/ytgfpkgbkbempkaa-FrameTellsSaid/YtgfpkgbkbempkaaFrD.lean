/- Numbers as bytes, the greater ones first, and back: plain; and what reads and writes them, walked through once. -/
import Derived.Test.YtgfpkgbkbempkaaFrC
import Derived.Test.YtgfpkgbkbempkaaSumF
set_option linter.unusedVariables false
set_option linter.unusedSimpArgs false
namespace Go.Proofs.Ytgfpkgbkbempkaa.W
open Go.RowKit Go.Proofs.YtgfpkgbkbempkaaW.PrintWords

theorem snoc_ind {α : Type} {P : List α → Prop} (h0 : P []) (h1 : ∀ l a, P l → P (l ++ [a])) (l : List α) : P l := by
  have h : ∀ n (l : List α), l.length = n → P l := by
    intro n
    induction n with
    | zero => intro l hl; rw [List.eq_nil_of_length_eq_zero hl]; exact h0
    | succ n ih =>
      intro l hl
      have hne : l ≠ [] := fun e => by rw [e] at hl; simp at hl
      rw [← List.dropLast_concat_getLast hne]
      exact h1 _ _ (ih _ (by simp [hl]))
  exact h _ l rfl
/-- A number's lowest m bytes, the greater ones first. -/
def be : Nat → Int → List Int
  | 0, _ => []
  | m + 1, n => be m (n / 256) ++ [n % 256]
theorem be_length (m : Nat) (n : Int) : (be m n).length = m := by
  induction m generalizing n with
  | zero => rfl
  | succ m ih => simp [be, ih]
theorem be_byte (m : Nat) (n : Int) : InByte (be m n) := by
  induction m generalizing n with
  | zero => intro x hx; cases hx
  | succ m ih =>
    intro x hx
    rcases List.mem_append.1 hx with h | h
    · exact ih _ x h
    · rw [List.mem_singleton.1 h]; omega
theorem div_pow (n : Int) (m : Nat) : n / 256 / 256 ^ m = n / 256 ^ (m + 1) := by
  rw [Int.ediv_ediv_of_nonneg (by decide), Int.pow_succ, Int.mul_comm]
theorem be_front (m : Nat) (n : Int) : be (m + 1) n = (n / 256 ^ m % 256) :: be m n := by
  induction m generalizing n with
  | zero => simp [be]
  | succ m ih =>
    rw [be, ih (n / 256), div_pow]
    rfl
/-- The number that bytes are. -/
def beN (l : List Int) : Int := l.foldl (fun n c => n * 256 + c) 0
theorem beN_snoc (l : List Int) (c : Int) : beN (l ++ [c]) = beN l * 256 + c := by simp [beN]
theorem beN_range (l : List Int) (h : InByte l) : 0 ≤ beN l ∧ beN l < 256 ^ l.length := by
  revert h
  refine snoc_ind (P := fun l => InByte l → 0 ≤ beN l ∧ beN l < 256 ^ l.length) ?_ ?_ l
  · intro _; simp [beN]
  · intro l c ih h
    have h1 := ih (fun x hx => h x (List.mem_append_left _ hx))
    have h2 := h c (by simp)
    rw [beN_snoc, List.length_append, List.length_singleton, Int.pow_succ]
    omega
theorem beN_be (m : Nat) (n : Int) (h0 : 0 ≤ n) (h1 : n < 256 ^ m) : beN (be m n) = n := by
  induction m generalizing n with
  | zero => simp [be, beN]; simp at h1; omega
  | succ m ih =>
    rw [Int.pow_succ] at h1
    rw [be, beN_snoc, ih (n / 256) (by omega) (by omega)]
    omega
theorem be_beN (l : List Int) (h : InByte l) : be l.length (beN l) = l := by
  revert h
  refine snoc_ind (P := fun l => InByte l → be l.length (beN l) = l) ?_ ?_ l
  · intro _; rfl
  · intro l c ih h
    have h2 := h c (by simp)
    rw [List.length_append, List.length_singleton, be, beN_snoc, show (beN l * 256 + c) / 256 = beN l by omega, show (beN l * 256 + c) % 256 = c by omega, ih (fun x hx => h x (List.mem_append_left _ hx))]
theorem or_byte (n c : Int) (h0 : 0 ≤ n) (h1 : n ≤ 16777215) (c0 : 0 ≤ c) (c1 : c ≤ 255) : bits .or .u32 (n * 256) c = n * 256 + c := by
  obtain ⟨a, rfl⟩ := Int.eq_ofNat_of_zero_le h0
  obtain ⟨b, rfl⟩ := Int.eq_ofNat_of_zero_le c0
  show IntKind.u32.wrap ((BitVec.ofInt 32 ((a : Int) * 256) ||| BitVec.ofInt 32 (b : Int)).toNat : Int) = _
  rw [show ((a : Int) * 256) = ((a * 256 : Nat) : Int) by omega, BitVec.ofInt_natCast, BitVec.ofInt_natCast, BitVec.toNat_or, BitVec.toNat_ofNat, BitVec.toNat_ofNat, Nat.mod_eq_of_lt (by omega), Nat.mod_eq_of_lt (by omega)]
  rw [show a * 256 = a <<< 8 by rw [Nat.shiftLeft_eq], ← Nat.shiftLeft_add_eq_or_of_lt (by omega : b < 2 ^ 8), Nat.shiftLeft_eq, IntKind.wrap_u32]
  omega
theorem take_rd0 (l : List Int) (k : Nat) (h : k < l.length) : beN (l.take (k + 1)) = beN (l.take k) * 256 + rd l k := by
  rw [take_rd l k h, beN_snoc]
theorem rd_byte {l : List Int} (h : InByte l) (k : Nat) (hk : k < l.length) : 0 ≤ rd l k ∧ rd l k ≤ 255 := by
  have := h l[k] (List.getElem_mem _)
  unfold rd
  rw [Int.toNat_natCast, List.getD_eq_getElem?_getD, List.getElem?_eq_getElem hk]
  exact this
theorem beN_take (l : List Int) (h : InByte l) (k : Nat) (hk : k ≤ l.length) (hl : l.length ≤ 4) : 0 ≤ beN (l.take k) ∧ beN (l.take k) ≤ 4294967295 ∧ (k < l.length → beN (l.take k) ≤ 16777215) := by
  obtain ⟨h1, h2⟩ := beN_range (l.take k) (fun x hx => h x (List.mem_of_mem_take hx))
  rw [List.length_take, Nat.min_eq_left hk] at h2
  have hp : ∀ j, j ≤ 4 → (256 : Int) ^ j ≤ 4294967296 := by decide
  have hq : ∀ j, j ≤ 3 → (256 : Int) ^ j ≤ 16777216 := by decide
  have := hp k (by omega)
  refine ⟨h1, by omega, fun hlt => ?_⟩
  have := hq k (by omega)
  omega
set_option maxRecDepth 100000 in
theorem read_calls (A : Option Addr) (c : Nat) (l : List Int) (w : World) (hR : Kd.C (Kd.int .u8) w A l.length l) (hb : InByte l) (hl : l.length ≤ 4) :
    Calls Try.prog 19 #[.slice A l.length c] w fun e w' => e = .returned (.int .u32 (beN l)) ∧ Drawn0 w w' := by
  have HR := Aside0.mk hR
  have HT := Aside0.mk (beN_take l hb)
  have HS := Aside0.mk (take_rd0 l)
  have HB := Aside0.mk hb
  clear hR hb
  go_enter Try.func19, Try.ntmps19
  go_wp2
  go_loopg [3, 8] l.length (fun g s i wx => ∃ k : Nat, k + g = l.length ∧ i = .int .i64 k ∧ s = .int .u32 (beN (l.take k)) ∧ Drawn0 w wx)
  case atStart => exact ⟨0, by omega, rfl, rfl, Drawn0.refl _⟩
  case round =>
    obtain ⟨k, hk, rfl, rfl, ⟨m1, rfl⟩⟩ := hrel
    obtain ⟨t0, t1, t2⟩ := HT.out k (by omega) hl
    cases gk with
    | zero =>
      obtain rfl : k = l.length := by omega
      rw [List.take_length] at *
      go_wp2
      go_ret
      exact ⟨rfl, by repeat (first | exact Drawn0.refl _ | apply Drawn0.step)⟩
    | succ g =>
      have hlt : k < l.length := by omega
      have t3 := t2 hlt
      obtain ⟨ad, rfl, hcell⟩ := Kd.at_int HR.out (k : Int) (by omega) (by omega)
      rw [Int.toNat_natCast] at hcell
      obtain ⟨b0, b1⟩ := rd_byte HB.out k hlt
      have hs := Aside0.mk (HS.out k hlt)
      generalize rd l k = x at *
      generalize beN (l.take k) = n at *
      have ho := or_byte n x t0 t3 b0 b1
      go_wp2
      go_roundg g
      case measure => omega
      case rel => exact ⟨k + 1, by omega, by go_num, by rw [hs.out, ← ho], by repeat (first | exact Drawn0.refl _ | apply Drawn0.step)⟩
set_option maxRecDepth 100000 in
theorem refread_calls (A : Option Addr) (c : Nat) (l : List Int) (w : World) (hR : Kd.C (Kd.int .u8) w A l.length l) (hb : InByte l) (hl : l.length ≤ 4) :
    Calls Try.prog 22 #[.slice A l.length c] w fun e w' => e = .returned (.int .u64 (beN l)) ∧ Drawn0 w w' := by
  have HR := Aside0.mk hR
  have HT := Aside0.mk (beN_take l hb)
  have HS := Aside0.mk (take_rd0 l)
  have HB := Aside0.mk hb
  clear hR hb
  go_enter Try.func22, Try.ntmps22
  go_wp2
  go_loopg [3, 4] l.length (fun g s i wx => ∃ k : Nat, k + g = l.length ∧ i = .int .i64 k ∧ s = .int .u64 (beN (l.take k)) ∧ Drawn0 w wx)
  case atStart => exact ⟨0, by omega, rfl, rfl, Drawn0.refl _⟩
  case round =>
    obtain ⟨k, hk, rfl, rfl, ⟨m1, rfl⟩⟩ := hrel
    obtain ⟨t0, t1, t2⟩ := HT.out k (by omega) hl
    cases gk with
    | zero =>
      obtain rfl : k = l.length := by omega
      rw [List.take_length] at *
      go_wp2
      go_ret
      exact ⟨rfl, by repeat (first | exact Drawn0.refl _ | apply Drawn0.step)⟩
    | succ g =>
      have hlt : k < l.length := by omega
      have t3 := t2 hlt
      obtain ⟨ad, rfl, hcell⟩ := Kd.at_int HR.out (k : Int) (by omega) (by omega)
      rw [Int.toNat_natCast] at hcell
      obtain ⟨b0, b1⟩ := rd_byte HB.out k hlt
      have hs := Aside0.mk (HS.out k hlt)
      generalize rd l k = x at *
      generalize beN (l.take k) = n at *
      go_wp2
      go_roundg g
      case measure => omega
      case rel => exact ⟨k + 1, by omega, by go_num, by rw [hs.out], by repeat (first | exact Drawn0.refl _ | apply Drawn0.step)⟩

theorem drop_set (l : List Int) (g : Nat) (x : Int) (h : g < l.length) : (l.set g x).drop g = x :: l.drop (g + 1) := by
  rw [List.drop_eq_getElem_cons (by simpa using h), List.getElem_set_self, List.drop_set_of_lt (by omega)]
set_option maxRecDepth 100000 in
theorem refnumber_calls (n : Int) (m : Nat) (w : World) (h0 : 0 ≤ n) (h1 : n ≤ 18446744073709551615) (hm : m ≤ 8) :
    Calls Try.prog 27 #[.int .u64 n, .int .i64 m] w fun e w' => ∃ v, e = .returned v ∧ w'.ownsRow w.heap.size 5 1 v (be m n).length (nums .u8 (be m n)) ∧ Below w.heap.size w w' := by
  have hu22 := Try.underlying22
  have hmake := print_make (P := Try.prog) 22 5 .u8 1 hu22 info5' (by decide) m (by omega)
  have hc : madeCells #[.int .u8 0] m = (nums .u8 (List.replicate m 0)).toArray := by
    apply Array.ext
    · simp [nums, madeCells]
    · intro i h1 h2
      simp [nums, madeCells, Nat.mod_one]
  rw [hc] at hmake
  have HI := Aside0.mk (show be m n = be m n ++ (List.replicate m (0 : Int)).drop m by simp)
  obtain ⟨B, hB⟩ : ∃ B, be m n = B := ⟨_, rfl⟩
  have HLB := Aside0.mk (show B.length = m by rw [← hB, be_length])
  rw [hB]
  have HI0 := Aside0.mk (show B = be m n ++ (List.replicate m (0 : Int)).drop m by rw [← hB]; exact HI.out)
  clear hB HI hc
  go_enter Try.func27, Try.ntmps27
  go_wp2
  go_loopg [0, 6] m (fun g v i wx => ∃ (x : Int) (out : List Int), 0 ≤ x ∧ x ≤ 18446744073709551615 ∧ g ≤ m ∧ out.length = m ∧ v = .int .u64 x ∧ i = .int .i64 ((g : Int) - 1) ∧ Aside0 (B = be g x ++ out.drop g) ∧ wx = w.alloc (.cells (nums .u8 out).toArray 5))
  case atStart => exact ⟨n, List.replicate m 0, h0, h1, Nat.le_refl _, by simp, rfl, by go_num, HI0, rfl⟩
  case round =>
    clear HI0
    obtain ⟨x, out, x0, x1, hg, hlen, rfl, rfl, HI, rfl⟩ := hrel
    cases gk with
    | zero =>
      have HE := Aside0.mk (show out = B by have := HI.out; simpa [be] using this.symm)
      go_wp2
      go_ret
      refine ⟨_, rfl, ?_, below_alloc (Below.refl _ _) _⟩
      rw [HLB.out, ← HE.out]
      have := own_lit w w.heap.size 5 .u8 out (Nat.le_refl _) (by omega)
      rw [hlen] at this
      exact this
    | succ g =>
      have hsz : (nums .u8 out).toArray.size = m := by simp [nums, hlen]
      have hgc : ((g + 1 : Nat) : Int) - 1 = (g : Int) := by omega
      rw [hgc]
      have hat := own_at (own_lit w w.heap.size 5 .u8 out (Nat.le_refl _) (by omega)) (g : Int) (by omega) (by omega)
      rw [Int.toNat_natCast] at hat
      obtain ⟨hc1, hf1⟩ := hat
      go_wp2
      go_roundg g
      case measure => omega
      case rel =>
        refine ⟨x / 256, out.set g (x % 256), by omega, by omega, by omega, by rw [List.length_set]; exact hlen, rfl, rfl, ⟨?_⟩, ?_⟩
        · rw [HI.out, be, drop_set out g _ (by omega), List.append_assoc]
          rfl
        · rw [show (nums .u8 out).set g (.int .u8 (x % 256)) = nums .u8 (out.set g (x % 256)) by simp [nums, List.map_set]]
end Go.Proofs.Ytgfpkgbkbempkaa.W
