/- The engine's words, ninth part: numbers and lists on the plain side. No condition. -/
import Derived.Test.YtheccnbamcdpmaaE8
import Derived.Laws.BitsLemmas
namespace Go.Proofs.Ytheccnbamcdpmaa.E
open Go Go.RowKit
theorem w64_id {x : Int} (h0 : -9223372036854775808 ≤ x) (h1 : x ≤ 9223372036854775807) : w64 x = x := by show IntKind.i64.wrap x = x; rw [IntKind.wrap_i64]; omega
theorem w32_id {x : Int} (h0 : -2147483648 ≤ x) (h1 : x ≤ 2147483647) : w32 x = x := by show IntKind.i32.wrap x = x; rw [IntKind.wrap_i32]; omega
theorem wu32_eq (x : Int) : wu32 x = x % 4294967296 := IntKind.wrap_u32 x
theorem wu8_eq (x : Int) : wu8 x = x % 256 := IntKind.wrap_u8 x
theorem wu16_eq (x : Int) : wu16 x = x % 65536 := by simp [wu16, IntKind.wrap, IntKind.bits, IntKind.signed]
theorem wu64_eq (x : Int) : wu64 x = x % 18446744073709551616 := by simp [wu64, IntKind.wrap, IntKind.bits, IntKind.signed]
theorem wu32_id {x : Int} (h0 : 0 ≤ x) (h1 : x ≤ 4294967295) : wu32 x = x := by rw [wu32_eq]; omega
theorem wu8_id {x : Int} (h0 : 0 ≤ x) (h1 : x ≤ 255) : wu8 x = x := by rw [wu8_eq]; omega
theorem wu16_id {x : Int} (h0 : 0 ≤ x) (h1 : x ≤ 65535) : wu16 x = x := by rw [wu16_eq]; omega
def umax : IntKind → Nat
  | .u8 => 256
  | .u16 => 65536
  | .u32 => 4294967296
  | _ => 1
theorem wrap_nat {k : IntKind} {m : Nat} (h : m < umax k) : k.wrap (m : Int) = (m : Int) := by
  cases k <;> simp only [umax] at h
  case u8 => rw [IntKind.wrap_u8]; omega
  case u16 => have := wu16_eq (m : Int); simp only [wu16] at this; rw [this]; omega
  case u32 => rw [IntKind.wrap_u32]; omega
  all_goals (obtain rfl : m = 0 := by omega); rfl
theorem bv_nat {k : IntKind} {x : Int} (h0 : 0 ≤ x) (h1 : x < (umax k : Int)) : (BitVec.ofInt k.bits x).toNat = x.toNat := by
  obtain ⟨n, rfl⟩ := Int.eq_ofNat_of_zero_le h0
  rw [show ((n : Nat) : Int).toNat = n by omega]
  have h1 : n < umax k := by omega
  rw [BitVec.ofInt_natCast, BitVec.toNat_ofNat]
  apply Nat.mod_eq_of_lt
  cases k <;> simp only [umax, IntKind.bits] at h1 ⊢ <;> omega
theorem umax_bits {k : IntKind} (h : 1 < umax k) : 2 ^ k.bits = umax k := by cases k <;> simp [umax, IntKind.bits] at h ⊢
theorem band_nat {k : IntKind} {x y : Int} (hx0 : 0 ≤ x) (hx : x < (umax k : Int)) (hy0 : 0 ≤ y) (hy : y < (umax k : Int)) : band k x y = ((x.toNat &&& y.toNat : Nat) : Int) := by
  unfold band
  rw [BitVec.toNat_and, bv_nat hx0 hx, bv_nat hy0 hy, wrap_nat]
  exact Nat.lt_of_le_of_lt Nat.and_le_left (by omega)
theorem bor_nat {k : IntKind} {x y : Int} (hk : 1 < umax k) (hx0 : 0 ≤ x) (hx : x < (umax k : Int)) (hy0 : 0 ≤ y) (hy : y < (umax k : Int)) : bor k x y = ((x.toNat ||| y.toNat : Nat) : Int) := by
  unfold bor
  rw [BitVec.toNat_or, bv_nat hx0 hx, bv_nat hy0 hy, wrap_nat]
  rw [← umax_bits hk] at hx hy ⊢
  exact Nat.or_lt_two_pow (by omega) (by omega)
theorem bxor_nat {k : IntKind} {x y : Int} (hk : 1 < umax k) (hx0 : 0 ≤ x) (hx : x < (umax k : Int)) (hy0 : 0 ≤ y) (hy : y < (umax k : Int)) : bxor k x y = ((x.toNat ^^^ y.toNat : Nat) : Int) := by
  unfold bxor
  rw [BitVec.toNat_xor, bv_nat hx0 hx, bv_nat hy0 hy, wrap_nat]
  rw [← umax_bits hk] at hx hy ⊢
  exact Nat.xor_lt_two_pow (by omega) (by omega)
theorem bandn_nat {k : IntKind} {x y : Int} (hk : 1 < umax k) (hx0 : 0 ≤ x) (hx : x < (umax k : Int)) (hy0 : 0 ≤ y) (hy : y < (umax k : Int)) : bandn k x y = ((x.toNat &&& (umax k - 1 - y.toNat) : Nat) : Int) := by
  unfold bandn
  rw [BitVec.toNat_and, BitVec.toNat_not, bv_nat hx0 hx, bv_nat hy0 hy, umax_bits hk, wrap_nat]
  exact Nat.lt_of_le_of_lt Nat.and_le_left (by omega)
theorem and_low (x n : Nat) : x &&& (2 ^ n - 1) = x % 2 ^ n := Nat.and_two_pow_sub_one_eq_mod x n
theorem or_high {x y n : Nat} (h : y < 2 ^ n) : 2 ^ n * x ||| y = 2 ^ n * x + y := (Nat.two_pow_add_eq_or_of_lt h x).symm
/-- The lower bits are taken away. -/
theorem and_high (x n m : Nat) (h : x < 2 ^ (n + m)) : x &&& ((2 ^ m - 1) * 2 ^ n) = x / 2 ^ n * 2 ^ n := by
  apply Nat.eq_of_testBit_eq
  intro i
  rw [Nat.testBit_and, Nat.testBit_mul_two_pow, Nat.testBit_mul_two_pow, Nat.testBit_two_pow_sub_one, Nat.testBit_div_two_pow]
  by_cases hi : n ≤ i
  · have e : n + (i - n) = i := by omega
    simp only [hi, decide_true, Bool.true_and, show i - n + n = i by omega]
    by_cases hm : i - n < m
    · simp [hm]
    · have : x.testBit i = false := Nat.testBit_lt_two_pow (Nat.lt_of_lt_of_le h (Nat.pow_le_pow_right (by omega) (by omega)))
      simp [this]
  · simp [hi]
theorem ixg {l : List Int} {d : Int} {i : Int} : ix d l i = l.getD i.toNat d := rfl
/-- A take's length, spelled out. -/
theorem take_min {α : Type} (l : List α) (m : Int) (hm : 0 ≤ m) : l.take (mnn (l.length : Int) m).toNat = l.take m.toNat := by
  unfold mnn
  split
  · rfl
  · rw [List.take_of_length_le (by omega), List.take_of_length_le (by omega)]
theorem mnn_ok (n m : Int) (hm : 0 ≤ m) (hn : 0 ≤ n) : 0 ≤ mnn n m ∧ mnn n m ≤ n := by unfold mnn; split <;> omega
theorem In.u32 {n : Int} (h : In .u32 n) : 0 ≤ n ∧ n ≤ 4294967295 := bounds_u32 h
theorem In.u16 {n : Int} (h : In .u16 n) : 0 ≤ n ∧ n ≤ 65535 := bounds_u16 h
theorem In.u8 {n : Int} (h : In .u8 n) : 0 ≤ n ∧ n ≤ 255 := bounds_u8 h
theorem In.i64 {n : Int} (h : In .i64 n) : -9223372036854775808 ≤ n ∧ n ≤ 9223372036854775807 := bounds_i64 h
theorem In.i32 {n : Int} (h : In .i32 n) : -2147483648 ≤ n ∧ n ≤ 2147483647 := bounds_i32 h
/-- All elements are of some kind. -/
theorem all_getD {l : List Int} {p : Int → Prop} (h : ∀ n ∈ l, p n) {d : Int} (hd : p d) (i : Nat) : p (l.getD i d) := by
  rw [List.getD_eq_getElem?_getD]
  cases hi : l[i]? with
  | none => exact hd
  | some x => exact h x (List.mem_of_getElem? hi)
theorem all_set {l : List Int} {p : Int → Prop} (h : ∀ n ∈ l, p n) {x : Int} (hx : p x) (i : Nat) : ∀ n ∈ l.set i x, p n := by
  intro n hn
  rcases List.mem_or_eq_of_mem_set hn with h1 | h1
  · exact h n h1
  · exact h1 ▸ hx
end Go.Proofs.Ytheccnbamcdpmaa.E
