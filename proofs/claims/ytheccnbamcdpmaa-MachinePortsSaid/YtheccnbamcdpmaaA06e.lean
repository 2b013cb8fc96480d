/- The words' shifts, products and quotients: the package word and its reference say the same. No condition. -/
import Derived.Test.YtheccnbamcdpmaaA06d
namespace Go.Proofs.Ytheccnbamcdpmaa.A06
set_option linter.unusedVariables false
set_option linter.unusedSimpArgs false
open Go Go.RowKit Go.Proofs.Ytheccnbamcdpmaa.E Go.Proofs.Ytheccnbamcdpmaa.T06
def sgn (a : Int) : Int := if a ≥ 2147483648 then a - 4294967296 else a
theorem w32_sgn {a : Int} (a0 : 0 ≤ a) (a1 : a ≤ 4294967295) : w64 (w32 a) = sgn a := by
  have e : w32 a = (a + 2147483648) % 4294967296 - 2147483648 := IntKind.wrap_i32 a
  rw [e, w64s (by omega) (by omega)]
  unfold sgn
  split <;> omega
theorem sgn_in {a : Int} (a0 : 0 ≤ a) (a1 : a ≤ 4294967295) : -2147483648 ≤ sgn a ∧ sgn a ≤ 2147483647 := by unfold sgn; split <;> omega
/-! ### shifts -/
def shiftN (kind : Int) (a k : Nat) : Int :=
  if kind = 1 then (((a * 2 ^ k) % 4294967296 : Nat) : Int)
  else if kind = 2 then (sgn (a : Int) / ((2 ^ k : Nat) : Int)) % 4294967296
  else if kind = 3 then ((a / 2 ^ k + a % 2 ^ k * 2 ^ (32 - k) : Nat) : Int)
  else (a : Int)
def shiftS (kind a n : Int) : Int := shiftN kind a.toNat (n % 32).toNat
theorem pow_split {k : Nat} (h : k ≤ 32) : 2 ^ k * 2 ^ (32 - k) = 4294967296 := by
  rw [← Nat.pow_add, show k + (32 - k) = 32 by omega]
theorem rot_lt {a k : Nat} (ha : a < 4294967296) (hk : k ≤ 32) : a / 2 ^ k + a % 2 ^ k * 2 ^ (32 - k) < 4294967296 := by
  have hp := pow_split hk
  have h1 : a / 2 ^ k < 2 ^ (32 - k) := Nat.div_lt_of_lt_mul (by rw [hp]; exact ha)
  have h2 : a % 2 ^ k < 2 ^ k := Nat.mod_lt _ (p2pos k)
  have h3 : (a % 2 ^ k + 1) * 2 ^ (32 - k) ≤ 2 ^ k * 2 ^ (32 - k) := Nat.mul_le_mul_right _ h2
  rw [Nat.add_mul, hp] at h3
  omega
theorem rot_s : ∀ k : Nat, k < 32 → band .u64 (wu64 (w64 (0 - (k : Int)))) 31 = (((32 - k) % 32 : Nat) : Int) := by decide
theorem rot_t : ∀ s : Nat, s < 32 → wu64 (32 - (s : Int)) = ((32 - s : Nat) : Int) := by decide
theorem shl_u32' {w i : Nat} (h : i ≤ 32) : shl .u32 (w : Int) (i : Int) = ((w * 2 ^ i % 4294967296 : Nat) : Int) := by
  unfold shl
  rw [Int.toNat_natCast, show min i IntKind.u32.bits = i from Nat.min_eq_left h, p2, ← Int.natCast_mul, IntKind.wrap_u32]
  rfl
theorem rotate_is {a k : Nat} (ha : a < 4294967296) (hk : k < 32) : math_bits_RotateLeft32 (a : Int) (w64 (0 - (k : Int))) = some ((a / 2 ^ k + a % 2 ^ k * 2 ^ (32 - k) : Nat) : Int) := by
  unfold math_bits_RotateLeft32
  rw [rot_s k hk]
  have hs : (32 - k) % 32 < 32 := Nat.mod_lt _ (by omega)
  rw [rot_t _ hs, if_pos (by omega), if_pos (by omega), shl_u32' (by omega), shr_nat (k := .u32) (by show 32 - (32 - k) % 32 ≤ 32; omega)]
  refine congrArg some ?_
  by_cases h0 : k = 0
  · subst h0
    have e : a / 2 ^ (32 - (32 - 0) % 32) = 0 := Nat.div_eq_of_lt (by simpa using ha)
    rw [e]
    have e2 : a * 2 ^ ((32 - 0) % 32) % 4294967296 = a := by simp; omega
    rw [e2, bor_u32 ha (by omega)]
    simp [Nat.mod_one]
  · have e1 : (32 - k) % 32 = 32 - k := Nat.mod_eq_of_lt (by omega)
    have e2 : 32 - (32 - k) = k := by omega
    rw [e1, e2]
    have hp := pow_split (show k ≤ 32 by omega)
    have e3 : a * 2 ^ (32 - k) % 4294967296 = a % 2 ^ k * 2 ^ (32 - k) := by rw [← hp, Nat.mul_mod_mul_right]
    have h1 : a / 2 ^ k < 2 ^ (32 - k) := Nat.div_lt_of_lt_mul (by rw [hp]; exact ha)
    have hl := rot_lt ha (show k ≤ 32 by omega)
    rw [e3, bor_u32 (by omega) (by omega), Nat.mul_comm (a % 2 ^ k), or_high h1, Nat.add_comm]
theorem shift_is {kind a n : Int} (a0 : 0 ≤ a) (a1 : a ≤ 4294967295) (n0 : 0 ≤ n) : word_Shift kind a n = some (shiftS kind a n) := by
  obtain ⟨x, rfl⟩ := Int.eq_ofNat_of_zero_le a0
  unfold word_Shift shiftS
  have hk0 : 0 ≤ n % 32 := Int.emod_nonneg _ (by omega)
  have hk1 : n % 32 < 32 := Int.emod_lt_of_pos _ (by omega)
  have e : w64 (n.tmod 32) = (((n % 32).toNat : Nat) : Int) := by rw [Int.tmod_eq_emod_of_nonneg n0, w64s (by omega) (by omega)]; omega
  rw [e]
  have hk : (n % 32).toNat < 32 := by omega
  generalize (n % 32).toNat = k at *
  unfold shiftN
  rw [Int.toNat_natCast]
  by_cases h1 : kind = 1
  · rw [if_pos h1, if_pos h1, if_pos (by omega), shl_u32' (by omega)]
  · rw [if_neg h1, if_neg h1]
    by_cases h2 : kind = 2
    · rw [if_pos h2, if_pos h2, if_pos (by omega)]
      have hw := w32_sgn a0 a1
      have hw2 : w32 (x : Int) = sgn (x : Int) := by
        have hb : w32 (x : Int) = ((x : Int) + 2147483648) % 4294967296 - 2147483648 := IntKind.wrap_i32 _
        rw [w64s (by omega) (by omega)] at hw
        exact hw
      rw [hw2, wu32_eq]
      unfold shr
      rw [Int.toNat_natCast, show min k IntKind.i32.bits = k from Nat.min_eq_left (by show k ≤ 32; omega), p2, Int.fdiv_eq_ediv_of_nonneg _ (Int.natCast_nonneg _)]
    · rw [if_neg h2, if_neg h2]
      by_cases h3 : kind = 3
      · rw [if_pos h3, if_pos h3, rotate_is (by omega) hk]
        rfl
      · rw [if_neg h3, if_neg h3]
theorem shiftN_in {kind : Int} {a k : Nat} (ha : a < 4294967296) (hk : k < 32) : 0 ≤ shiftN kind a k ∧ shiftN kind a k ≤ 4294967295 := by
  unfold shiftN
  split
  · omega
  · split
    · omega
    · split
      · have := rot_lt ha (show k ≤ 32 by omega)
        generalize a / 2 ^ k + a % 2 ^ k * 2 ^ (32 - k) = z at *
        omega
      · omega
theorem shiftN_zero (kind : Int) {a : Nat} (ha : a < 4294967296) : shiftN kind a 0 = (a : Int) := by
  unfold shiftN
  split
  · simp; omega
  · split
    · have : ((2 ^ 0 : Nat) : Int) = 1 := rfl
      rw [this, Int.ediv_one]
      unfold sgn
      split <;> omega
    · split
      · simp [Nat.mod_one]
      · rfl
/-! ### products -/
def mulS (a b : Int) (u : Bool) : Int × Int := ((if u = true then a * b else sgn a * sgn b) % 4294967296, (if u = true then a * b else sgn a * sgn b) / 4294967296 % 4294967296)
theorem mul_bound {x y m : Int} (hx0 : -m ≤ x) (hx1 : x ≤ m) (hy0 : -m ≤ y) (hy1 : y ≤ m) (hm : 0 ≤ m) : -(m * m) ≤ x * y ∧ x * y ≤ m * m := by
  have h : (x * y).natAbs ≤ (m * m).natAbs := by
    rw [Int.natAbs_mul, Int.natAbs_mul]
    exact Nat.mul_le_mul (by omega) (by omega)
  have hmm : 0 ≤ m * m := Int.mul_nonneg hm hm
  omega
theorem mul_is {a b : Int} (a0 : 0 ≤ a) (a1 : a ≤ 4294967295) (b0 : 0 ≤ b) (b1 : b ≤ 4294967295) (u : Bool) : word_Mul a b u = some (mulS a b u) := by
  unfold word_Mul word_Mul.j1 mulS
  have e32 : (2 : Int) ^ 32 = 4294967296 := by decide
  have sa := sgn_in a0 a1
  have sb := sgn_in b0 b1
  rw [e32, Int.fdiv_eq_ediv_of_nonneg _ (by omega), Int.fdiv_eq_ediv_of_nonneg _ (by omega), w32_sgn a0 a1, w32_sgn b0 b1]
  cases u
  · rw [if_neg (by simp), if_neg (by simp)]
    obtain ⟨h1, h2⟩ := mul_bound (m := 2147483648) (show -2147483648 ≤ sgn a by omega) (by omega) (show -2147483648 ≤ sgn b by omega) (by omega) (by omega)
    generalize sgn a * sgn b = p at *
    rw [w64s (by omega) (by omega)]
    simp only [wu64_eq, wu32_eq]
    refine congrArg some (Prod.ext ?_ ?_) <;> simp only <;> omega
  · rw [if_pos rfl, if_pos rfl]
    obtain ⟨h1, h2⟩ := mul_bound (m := 4294967295) (show -4294967295 ≤ a by omega) a1 (show -4294967295 ≤ b by omega) b1 (by omega)
    have h0 : 0 ≤ a * b := Int.mul_nonneg a0 b0
    rw [wu64_eq a, wu64_eq b, Int.emod_eq_of_lt a0 (by omega), Int.emod_eq_of_lt b0 (by omega)]
    generalize a * b = p at *
    simp only [wu64_eq, wu32_eq]
    refine congrArg some (Prod.ext ?_ ?_) <;> simp only <;> omega
/-! ### quotients -/
def divS (a b : Int) : Int × Int × Bool := if sgn b ≤ 0 then (0, 0, false) else (sgn a / sgn b % 4294967296, sgn a % sgn b, true)
theorem quo_le {n d : Int} (hd : 0 < d) : -n.natAbs ≤ n.tdiv d ∧ n.tdiv d ≤ n.natAbs ∧ -d < n.tmod d ∧ n.tmod d < d ∧ d * n.tdiv d + n.tmod d = n := by
  have h1 := Int.natAbs_tdiv_le_natAbs n d
  have h2 := Int.tmod_lt_of_pos n hd
  have h3 := Int.lt_tmod_of_pos n hd
  have h4 := Int.mul_tdiv_add_tmod n d
  refine ⟨by omega, by omega, h3, h2, h4⟩
theorem floor_of {n d : Int} (hd : 0 < d) : n / d = (if n.tmod d < 0 then n.tdiv d - 1 else n.tdiv d) ∧ n % d = (if n.tmod d < 0 then n.tmod d + d else n.tmod d) := by
  obtain ⟨_, _, h3, h4, h5⟩ := quo_le (n := n) hd
  rw [Int.ediv_emod_unique hd]
  by_cases h : n.tmod d < 0
  · rw [if_pos h, if_pos h, Int.mul_sub]; omega
  · rw [if_neg h, if_neg h]; omega
theorem div_is {a b : Int} (a0 : 0 ≤ a) (a1 : a ≤ 4294967295) (b0 : 0 ≤ b) (b1 : b ≤ 4294967295) : word_Div a b = some (divS a b) := by
  unfold word_Div word_Div.j1 divS
  have sa := sgn_in a0 a1
  have sb := sgn_in b0 b1
  rw [w32_sgn a0 a1, w32_sgn b0 b1]
  by_cases h : sgn b ≤ 0
  · rw [if_pos h, if_pos h]
  · rw [if_neg h, if_neg h, if_pos (by omega), if_pos (by omega)]
    obtain ⟨q1, q2, q3, q4, _⟩ := quo_le (n := sgn a) (d := sgn b) (by omega)
    obtain ⟨f1, f2⟩ := floor_of (n := sgn a) (d := sgn b) (by omega)
    rw [f1, f2, w64s (x := (sgn a).tdiv (sgn b)) (by omega) (by omega)]
    by_cases h2 : (sgn a).tmod (sgn b) < 0
    · rw [if_pos h2, if_pos h2, if_pos h2, w64s (by omega) (by omega), w64s (by omega) (by omega), wu32_eq, wu32_id (by omega) (by omega)]
    · rw [if_neg h2, if_neg h2, if_neg h2, wu32_eq, wu32_id (by omega) (by omega)]
end Go.Proofs.Ytheccnbamcdpmaa.A06
