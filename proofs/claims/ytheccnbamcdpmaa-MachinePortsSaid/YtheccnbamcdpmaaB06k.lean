/- Bytes of a word: what was set is there. No condition. -/
import Derived.Test.YtheccnbamcdpmaaB06p
namespace Go.Proofs.Ytheccnbamcdpmaa.A06
set_option linter.unusedVariables false
set_option linter.unusedSimpArgs false
open Go Go.RowKit Go.Proofs.Ytheccnbamcdpmaa.E Go.Proofs.Ytheccnbamcdpmaa.T06
def sb (n c j : Nat) : Nat := (n &&& (4294967295 - 255 * 2 ^ j)) ||| (c * 2 ^ j)
theorem mask_bit : ∀ j, j = 0 ∨ j = 8 ∨ j = 16 ∨ j = 24 → ∀ i, i < 32 → (4294967295 - 255 * 2 ^ j).testBit i = !decide (j ≤ i ∧ i < j + 8) := by
  rintro j (rfl | rfl | rfl | rfl) <;> decide
theorem sb_get {n c j : Nat} (hj : j = 0 ∨ j = 8 ∨ j = 16 ∨ j = 24) (hc : c < 2 ^ 8) : sb n c j / 2 ^ j % 2 ^ 8 = c := by
  apply Nat.eq_of_testBit_eq
  intro i
  rw [Nat.testBit_mod_two_pow, Nat.testBit_div_two_pow]
  by_cases hi : i < 8
  · unfold sb
    rw [Nat.testBit_or, Nat.testBit_and, Nat.testBit_mul_two_pow, mask_bit j hj (i + j) (by omega), Nat.add_sub_cancel]
    simp [hi]
    intro _ h; omega
  · have : c.testBit i = false := Nat.testBit_lt_two_pow (Nat.lt_of_lt_of_le hc (Nat.pow_le_pow_right (by omega) (by omega)))
    simp [hi, this]
theorem setb_nat {n c k : Nat} (hn : n < 4294967296) (hc : c < 256) (hk : k < 4) : setb (n : Int) (c : Int) ((8 * k : Nat) : Int) = (sb n c (8 * k) : Nat) := by
  have hp : 2 ^ (8 * k) ≤ 16777216 := by
    have hk : k = 0 ∨ k = 1 ∨ k = 2 ∨ k = 3 := by omega
    rcases hk with rfl | rfl | rfl | rfl <;> decide
  have h1 : c * 2 ^ (8 * k) ≤ 255 * 16777216 := Nat.mul_le_mul (by omega) hp
  unfold setb sb
  rw [wu32_id (by omega) (by omega)]
  show bor .u32 (bandn .u32 (n : Int) (shl .u32 ((255 : Nat) : Int) ((8 * k : Nat) : Int))) _ = _
  rw [shl_u32 (by omega) (by omega), shl_u32 (by omega) (by omega), bandn_u32 hn (by omega), bor_u32 (Nat.lt_of_le_of_lt Nat.and_le_left hn) (by omega)]
theorem byte_setb {x b a : Int} (hx : W x) (b0 : 0 ≤ b) (b1 : b ≤ 255) (ha : 0 ≤ a) : wu8 (shr .u32 (setb x b (a % 4 * 8)) (a % 4 * 8)) = b := by
  obtain ⟨n, rfl⟩ : ∃ n : Nat, x = (n : Int) := ⟨x.toNat, (Int.toNat_of_nonneg hx.1).symm⟩
  obtain ⟨c, rfl⟩ : ∃ c : Nat, b = (c : Int) := ⟨b.toNat, (Int.toNat_of_nonneg b0).symm⟩
  obtain ⟨k, hk, hk4⟩ : ∃ k : Nat, a % 4 * 8 = ((8 * k : Nat) : Int) ∧ k < 4 := ⟨(a % 4).toNat, by omega, by omega⟩
  have := hx.2
  rw [hk, setb_nat (by omega) (by omega) hk4, shr_nat (by simp only [IntKind.bits]; omega), wu8_eq]
  have h := sb_get (n := n) (c := c) (j := 8 * k) (by omega) (by omega)
  omega
theorem band255 {x : Int} (h : W x) : band .u32 x 255 = wu8 x := by
  obtain ⟨n, rfl⟩ : ∃ n : Nat, x = (n : Int) := ⟨x.toNat, (Int.toNat_of_nonneg h.1).symm⟩
  have := h.2
  show band .u32 (n : Int) ((255 : Nat) : Int) = _
  rw [band_u32 (by omega) (by omega), wu8_eq, show (255 : Nat) = 2 ^ 8 - 1 by rfl, Nat.and_two_pow_sub_one_eq_mod]
  omega
theorem step_at {m : Smachine_Machine} {y : Smemory_Memory} {i : Sapi_Instr} (h0 : m.status = 0) (hw : wordS y m.pc = ((wordN i : Int), 0)) (hi : MayP i) :
    stepS m y = { (actS m y i).2.2 with status := (actS m y i).2.1, pc := if (actS m y i).2.1 ≤ 1 then (actS m y i).1 else m.pc } := by
  unfold stepS
  rw [if_pos h0]
  simp only [hw, dec_word hi, if_true]
theorem word_at {y : Smemory_Memory} {k : Nat} (hk : (k : Int) < y.n) : wordS y ((4 * k : Nat) : Int) = (vx 0 y.w k, 0) := by
  unfold wordS
  have e : (((4 * k : Nat) : Int) / 4).toNat = k := by omega
  rw [if_pos (by omega), if_pos (by omega), e]
/-- An instruction of the memory. -/
abbrev mI (op a b n : Int) : Sapi_Instr := ⟨5, op, a, b, 0, n, false⟩
theorem mI_may {op a b n : Int} (ho : 0 ≤ op ∧ op ≤ 3) (ha : 0 ≤ a ∧ a ≤ 15) (hb : 0 ≤ b ∧ b ≤ 15) (hn : -64 ≤ n ∧ n ≤ 64) : MayP (mI op a b n) := by unfold MayP; simp; omega
end Go.Proofs.Ytheccnbamcdpmaa.A06
