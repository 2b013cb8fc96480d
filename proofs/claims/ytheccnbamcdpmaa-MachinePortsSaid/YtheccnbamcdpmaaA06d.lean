/- The words' arithmetic: the package word and its reference say the same. No condition. -/
import Derived.Test.YtheccnbamcdpmaaA06c
namespace Go.Proofs.Ytheccnbamcdpmaa.A06
set_option linter.unusedVariables false
set_option linter.unusedSimpArgs false
open Go Go.RowKit Go.Proofs.Ytheccnbamcdpmaa.E Go.Proofs.Ytheccnbamcdpmaa.T06
theorem reg_is (n : Int) : rivetref03_reg n = some (decide (0 ≤ n ∧ n ≤ 15)) := by
  unfold rivetref03_reg rivetref03_reg.j1
  by_cases h : n ≥ 0
  · rw [if_pos h]; congr 1; by_cases h2 : n ≤ 15 <;> simp [h2]; omega
  · rw [if_neg h]; congr 1; simp; omega
theorem fits20 (v : Int) : rivetref02_Fits v 20 = some (decide (-524288 ≤ v ∧ v ≤ 524287)) := by
  unfold rivetref02_Fits rivetref02_Fits.j1
  have e : w64 ((mnn (mxx 20 1) 32) - 1) = 19 := by kernel_rfl
  have e1 : shl .i64 (-1) 19 = -524288 := by kernel_rfl
  have e2 : shl .i64 1 19 = 524288 := by kernel_rfl
  rw [e, e1, e2, if_pos (by omega)]
  by_cases h : v ≥ -524288
  · rw [if_pos h, if_pos (by omega)]; congr 1; by_cases h2 : v ≤ 524287 <;> simp [h2] <;> omega
  · rw [if_neg h]; congr 1; simp; omega
theorem fits24 (v : Int) : rivetref02_Fits v 24 = some (decide (-8388608 ≤ v ∧ v ≤ 8388607)) := by
  unfold rivetref02_Fits rivetref02_Fits.j1
  have e : w64 ((mnn (mxx 24 1) 32) - 1) = 23 := by kernel_rfl
  have e1 : shl .i64 (-1) 23 = -8388608 := by kernel_rfl
  have e2 : shl .i64 1 23 = 8388608 := by kernel_rfl
  rw [e, e1, e2, if_pos (by omega)]
  by_cases h : v ≥ -8388608
  · rw [if_pos h, if_pos (by omega)]; congr 1; by_cases h2 : v ≤ 8388607 <;> simp [h2] <;> omega
  · rw [if_neg h]; congr 1; simp; omega
theorem some_dec {b : Bool} {p : Prop} [Decidable p] (h : b = true ↔ p) : some b = some (decide p) := by
  by_cases hp : p
  · rw [decide_eq_true hp, h.2 hp]
  · rw [decide_eq_false hp]
    cases b
    · rfl
    · exact absurd (h.1 rfl) hp
section
variable (A B C O M : Int) (U : Bool)
theorem refmay5 (hA : 0 ≤ A ∧ A ≤ 15) (hB : 0 ≤ B ∧ B ≤ 15) (_hC : 0 ≤ C ∧ C ≤ 15) : rivetref03_May.j3 ⟨5, O, A, B, C, M, U⟩ (decide (8 ≤ O ∧ O ≤ 10)) = some (decide (MayP ⟨5, O, A, B, C, M, U⟩)) := by
  simp only [rivetref03_May.j3, rivetref03_May.j4, rivetref03_May.j12, rivetref03_May.j13, fits20, Option.bind_some]
  rw [if_neg (show ¬ (5 : Int) = 1 by decide), show ((5 : Int) == 2) = false from rfl, if_neg Bool.false_ne_true, if_neg (show ¬ (5 : Int) = 3 by decide), show ((5 : Int) == 4) = false from rfl, if_neg Bool.false_ne_true, if_pos trivial]
  by_cases hc : C = 0
  · cases U
    · rw [if_pos (by simp [hc])]
      by_cases h0 : O ≥ 0
      · rw [if_pos h0]
        by_cases h3 : O ≤ 3
        · rw [if_pos h3]; refine some_dec ?_; simp [MayP]; omega
        · rw [if_neg h3]; refine some_dec ?_; simp [MayP]; omega
      · rw [if_neg h0]; refine some_dec ?_; simp [MayP]; omega
    · rw [if_neg (by simp)]; refine some_dec ?_; simp [MayP]
  · rw [if_neg (by simp; omega)]; refine some_dec ?_; simp [MayP]; omega
theorem refmay6 (hA : 0 ≤ A ∧ A ≤ 15) (hB : 0 ≤ B ∧ B ≤ 15) (hC : 0 ≤ C ∧ C ≤ 15) : rivetref03_May.j3 ⟨6, O, A, B, C, M, U⟩ (decide (8 ≤ O ∧ O ≤ 10)) = some (decide (MayP ⟨6, O, A, B, C, M, U⟩)) := by
  simp only [rivetref03_May.j3, rivetref03_May.j4, rivetref03_May.j12, rivetref03_May.j14, reg_is, Option.bind_some]
  rw [if_neg (show ¬ (6 : Int) = 1 by decide), show ((6 : Int) == 2) = false from rfl, if_neg Bool.false_ne_true, if_neg (show ¬ (6 : Int) = 3 by decide), show ((6 : Int) == 4) = false from rfl, if_neg Bool.false_ne_true, if_neg (show ¬ (6 : Int) = 5 by decide), if_pos trivial]
  by_cases hc : A = 0 ∧ B = 0 ∧ M = 0
  · obtain ⟨rfl, rfl, rfl⟩ := hc
    rw [if_pos (by simp)]; refine some_dec ?_; simp [MayP]; omega
  · rw [if_neg (by simp; omega)]; refine some_dec ?_; simp [MayP]; omega
theorem refmay7 (hA : 0 ≤ A ∧ A ≤ 15) (hB : 0 ≤ B ∧ B ≤ 15) (hC : 0 ≤ C ∧ C ≤ 15) : rivetref03_May.j3 ⟨7, O, A, B, C, M, U⟩ (decide (8 ≤ O ∧ O ≤ 10)) = some (decide (MayP ⟨7, O, A, B, C, M, U⟩)) := by
  simp only [rivetref03_May.j3, rivetref03_May.j4, rivetref03_May.j12, rivetref03_May.j15, reg_is, fits24, Option.bind_some]
  rw [if_neg (show ¬ (7 : Int) = 1 by decide), show ((7 : Int) == 2) = false from rfl, if_neg Bool.false_ne_true, if_neg (show ¬ (7 : Int) = 3 by decide), show ((7 : Int) == 4) = false from rfl, if_neg Bool.false_ne_true, if_neg (show ¬ (7 : Int) = 5 by decide), if_neg (show ¬ (7 : Int) = 6 by decide), if_pos trivial]
  by_cases hc : A = 0 ∧ B = 0 ∧ C = 0
  · obtain ⟨rfl, rfl, rfl⟩ := hc
    rw [if_pos (by simp)]
    by_cases h0 : 0 ≤ O ∧ O ≤ 15
    · rw [if_pos (by simpa using h0)]; refine some_dec ?_; simp [MayP]; omega
    · rw [if_neg (by simpa using h0)]; refine some_dec ?_; simp [MayP]; omega
  · rw [if_neg (by simp; omega)]; refine some_dec ?_; simp [MayP]; omega
end
set_option maxHeartbeats 4000000 in
theorem refmay_is (i : Sapi_Instr) : rivetref03_May i = some (decide (MayP i)) := by
  obtain ⟨K, O, A, B, C, M, U⟩ := i
  unfold rivetref03_May
  simp only [reg_is, Option.bind_some]
  by_cases hA : 0 ≤ A ∧ A ≤ 15
  · by_cases hB : 0 ≤ B ∧ B ≤ 15
    · by_cases hC : 0 ≤ C ∧ C ≤ 15
      · rw [decide_eq_true hA, decide_eq_true hB, decide_eq_true hC]
        simp only [if_true, rivetref03_May.j1, Bool.not_true, Bool.false_eq_true, if_false]
        have hk : K = 1 ∨ K = 2 ∨ (K = 3 ∨ K = 4) ∨ K = 5 ∨ K = 6 ∨ K = 7 ∨ (K < 1 ∨ 7 < K) := by omega
        have e2 : rivetref03_May.j2 ⟨K, O, A, B, C, M, U⟩ = rivetref03_May.j3 ⟨K, O, A, B, C, M, U⟩ (decide (8 ≤ O ∧ O ≤ 10)) := by
          unfold rivetref03_May.j2
          simp only
          by_cases h : O ≥ 8
          · rw [if_pos h]; congr 1; by_cases h2 : O ≤ 10 <;> simp [h2]; omega
          · rw [if_neg h]; congr 1; symm; simp; omega
        rw [e2]
        rcases hk with rfl | rfl | hk | rfl | rfl | rfl | hk
        · simp only [rivetref03_May.j3, rivetref03_May.j4, if_true]
          by_cases h1 : O < 0
          · rw [if_pos h1]; simp [rivetref03_May.j5, MayP]; omega
          · rw [if_neg h1]
            by_cases h2 : O > 11
            · simp [rivetref03_May.j5, h2, MayP]; omega
            · simp only [rivetref03_May.j5, decide_eq_false h2, Bool.false_eq_true, if_false, rivetref03_May.j6]
              by_cases h3 : O = 0 <;> by_cases h4 : 8 ≤ O ∧ O ≤ 10 <;> cases U <;> simp only [h3, h4, rivetref03_May.j7, rivetref03_May.j8, if_true, if_false, decide_true, decide_false, Bool.false_eq_true, and_self] <;> refine some_dec ?_ <;> simp [MayP] <;> omega
        · simp only [rivetref03_May.j3, rivetref03_May.j4]
          rw [if_neg (by omega)]
          simp only [beq_self_eq_true, if_true]
          by_cases h1 : O < 0
          · rw [if_pos h1]; simp [rivetref03_May.j5, MayP]; omega
          · rw [if_neg h1]
            by_cases h2 : O > 11
            · simp [rivetref03_May.j5, h2, MayP]; omega
            · simp only [rivetref03_May.j5, decide_eq_false h2, Bool.false_eq_true, if_false, rivetref03_May.j6]
              by_cases h3 : O = 0 <;> by_cases h4 : 8 ≤ O ∧ O ≤ 10 <;> cases U <;> simp only [h3, h4, rivetref03_May.j7, rivetref03_May.j8, rivetref03_May.j9, rivetref03_May.j10, rivetref03_May.j11, if_true, if_false, decide_true, decide_false, Bool.false_eq_true, and_self] <;> (repeat' split) <;> refine some_dec ?_ <;> simp_all [MayP] <;> omega
        · have e3 : rivetref03_May.j3 ⟨K, O, A, B, C, M, U⟩ (decide (8 ≤ O ∧ O ≤ 10)) = rivetref03_May.j12 ⟨K, O, A, B, C, M, U⟩ true := by
            rcases hk with rfl | rfl <;> rfl
          rw [e3]
          simp only [rivetref03_May.j12, if_true]
          refine some_dec ?_
          rcases hk with rfl | rfl <;> cases U <;> simp [MayP] <;> omega
        · exact refmay5 A B C O M U hA hB hC
        · exact refmay6 A B C O M U hA hB hC
        · exact refmay7 A B C O M U hA hB hC
        · have h1 : K ≠ 1 := by omega
          have h2 : K ≠ 2 := by omega
          have h3 : K ≠ 3 := by omega
          have h4 : K ≠ 4 := by omega
          have h5 : K ≠ 5 := by omega
          have h6 : K ≠ 6 := by omega
          have h7 : K ≠ 7 := by omega
          simp [rivetref03_May.j3, rivetref03_May.j4, rivetref03_May.j12, rivetref03_May.j16, h1, h2, h3, h4, h5, h6, h7, MayP]
      · rw [decide_eq_true hA, decide_eq_true hB, decide_eq_false hC]
        show some false = _
        refine some_dec ⟨fun h => (by cases h), fun h => ?_⟩
        exfalso
        unfold MayP at h
        simp only at h
        omega
    · rw [decide_eq_true hA, decide_eq_false hB]
      show some false = _
      refine some_dec ⟨fun h => (by cases h), fun h => ?_⟩
      exfalso
      unfold MayP at h
      simp only at h
      omega
  · rw [decide_eq_false hA]
    show some false = _
    refine some_dec ⟨fun h => (by cases h), fun h => ?_⟩
    exfalso
    unfold MayP at h
    simp only at h
    omega
/-! ### the top bit -/
theorem top_bit {x : Nat} (h : x < 4294967296) : (((x : Int).fdiv (2 ^ 31)) == 1) = x.testBit 31 := by
  rw [Int.fdiv_eq_ediv_of_nonneg _ (by decide), Nat.testBit_eq_decide_div_mod_eq, Bool.eq_iff_iff, beq_iff_eq, decide_eq_true_eq]
  have e1 : (2 : Int) ^ 31 = 2147483648 := by decide
  have e2 : (2 : Nat) ^ 31 = 2147483648 := by decide
  rw [e1, e2]
  omega
theorem bit31 {x : Nat} (h : x < 4294967296) : x.testBit 31 = decide (x ≥ 2147483648) := by
  rw [Nat.testBit_eq_decide_div_mod_eq, Bool.eq_iff_iff, decide_eq_true_eq, decide_eq_true_eq]
  have e2 : (2 : Nat) ^ 31 = 2147483648 := by decide
  rw [e2]
  omega
theorem bxor_u32 {x y : Nat} (hx : x < 4294967296) (hy : y < 4294967296) : bxor .u32 (x : Int) (y : Int) = ((x ^^^ y : Nat) : Int) := by
  rw [bxor_nat (by decide) (by omega) (by simp only [umax]; omega) (by omega) (by simp only [umax]; omega)]
  rfl
theorem band_u32 {x y : Nat} (hx : x < 4294967296) (hy : y < 4294967296) : band .u32 (x : Int) (y : Int) = ((x &&& y : Nat) : Int) := by
  rw [band_nat (by omega) (by simp only [umax]; omega) (by omega) (by simp only [umax]; omega)]
  rfl
theorem xor_lt {x y : Nat} (hx : x < 4294967296) (hy : y < 4294967296) : x ^^^ y < 4294967296 := Nat.xor_lt_two_pow (n := 32) hx hy
theorem and_lt {x y : Nat} (hx : x < 4294967296) : x &&& y < 4294967296 := Nat.lt_of_le_of_lt Nat.and_le_left hx
theorem or_lt {x y : Nat} (hx : x < 4294967296) (hy : y < 4294967296) : x ||| y < 4294967296 := Nat.or_lt_two_pow (n := 32) hx hy
def b2i (b : Bool) : Int := if b then 1 else 0
/-- Sum, carry, overflow. -/
def addS (a b : Int) (c : Bool) : Int × Bool × Bool :=
  ((a + b + b2i c) % 4294967296, decide (a + b + b2i c ≥ 4294967296), decide ((a < 2147483648 ∧ b < 2147483648 ∧ a + b + b2i c ≥ 2147483648) ∨ (a ≥ 2147483648 ∧ b ≥ 2147483648 ∧ a + b + b2i c - 4294967296 < 2147483648)))
def subS (a b : Int) (c : Bool) : Int × Bool × Bool :=
  ((a - b - b2i c) % 4294967296, decide (a - b - b2i c < 0), decide ((a < 2147483648 ∧ b ≥ 2147483648 ∧ a - b - b2i c + 4294967296 ≥ 2147483648) ∨ (a ≥ 2147483648 ∧ b < 2147483648 ∧ a - b - b2i c < 2147483648)))
theorem add_is {a b : Int} (a0 : 0 ≤ a) (a1 : a ≤ 4294967295) (b0 : 0 ≤ b) (b1 : b ≤ 4294967295) (c : Bool) : word_Add a b c = some (addS a b c) := by
  obtain ⟨x, rfl⟩ := Int.eq_ofNat_of_zero_le a0
  obtain ⟨y, rfl⟩ := Int.eq_ofNat_of_zero_le b0
  unfold word_Add word_one
  have hc : (if c = true then some (1 : Int) else some 0) = some (b2i c) := by cases c <;> rfl
  have hc1 : 0 ≤ b2i c ∧ b2i c ≤ 1 := by cases c <;> simp [b2i]
  rw [hc]
  simp only [Option.bind_some, math_bits_Add32]
  rw [wu64_eq (x : Int), wu64_eq (y : Int), wu64_eq (b2i c), Int.emod_eq_of_lt a0 (by omega), Int.emod_eq_of_lt b0 (by omega), Int.emod_eq_of_lt hc1.1 (by omega), wu64_eq ((x : Int) + y), Int.emod_eq_of_lt (a := (x : Int) + y) (by omega) (by omega), wu64_eq, Int.emod_eq_of_lt (by omega) (by omega)]
  have e : wu32 ((x : Int) + y + b2i c) = (((x + y + (b2i c).toNat) % 4294967296 : Nat) : Int) := by rw [wu32_eq]; omega
  have e32 : (2 : Int) ^ 32 = 4294967296 := by decide
  have ec : (wu32 (((x : Int) + y + b2i c).fdiv (2 ^ 32)) == 1) = decide ((x : Int) + y + b2i c ≥ 4294967296) := by
    rw [e32, Int.fdiv_eq_ediv_of_nonneg _ (by omega), wu32_eq, Bool.eq_iff_iff, beq_iff_eq, decide_eq_true_eq]
    omega
  have hs : (x + y + (b2i c).toNat) % 4294967296 < 4294967296 := Nat.mod_lt _ (by omega)
  rw [ec, e, bxor_u32 (by omega) hs, bxor_u32 (by omega) hs, band_u32 (xor_lt (by omega) hs) (xor_lt (by omega) hs), top_bit (and_lt (xor_lt (by omega) hs)), Nat.testBit_and, Nat.testBit_xor, Nat.testBit_xor, bit31 hs, bit31 (x := x) (by omega), bit31 (x := y) (by omega)]
  unfold addS
  congr 1
  refine Prod.ext ?_ (Prod.ext rfl ?_)
  · simp only; omega
  · simp only
    rw [Bool.eq_iff_iff, decide_eq_true_eq]
    by_cases h1 : x ≥ 2147483648 <;> by_cases h2 : y ≥ 2147483648 <;> by_cases h3 : (x + y + (b2i c).toNat) % 4294967296 ≥ 2147483648 <;> simp [h1, h2, h3] <;> omega
theorem sub_is {a b : Int} (a0 : 0 ≤ a) (a1 : a ≤ 4294967295) (b0 : 0 ≤ b) (b1 : b ≤ 4294967295) (c : Bool) : word_Sub a b c = some (subS a b c) := by
  obtain ⟨x, rfl⟩ := Int.eq_ofNat_of_zero_le a0
  obtain ⟨y, rfl⟩ := Int.eq_ofNat_of_zero_le b0
  unfold word_Sub word_one
  have hc : (if c = true then some (1 : Int) else some 0) = some (b2i c) := by cases c <;> rfl
  have hc1 : 0 ≤ b2i c ∧ b2i c ≤ 1 := by cases c <;> simp [b2i]
  rw [hc]
  simp only [Option.bind_some, math_bits_Sub32]
  have e : wu32 (wu32 ((x : Int) - y) - b2i c) = ((((x : Int) - y - b2i c) % 4294967296).toNat : Int) := by rw [wu32_eq, wu32_eq]; omega
  rw [e]
  have hs : (((x : Int) - y - b2i c) % 4294967296).toNat < 4294967296 := by omega
  generalize hd : (((x : Int) - y - b2i c) % 4294967296).toNat = d at *
  have hff : (4294967295 : Int) = ((4294967295 : Nat) : Int) := rfl
  have hx : x < 4294967296 := by omega
  have hy : y < 4294967296 := by omega
  rw [hff, bxor_u32 (by omega) hx, bxor_u32 hx hy, bxor_u32 (x := 4294967295) (by omega) (xor_lt hx hy), band_u32 (xor_lt (by omega) hx) hy, band_u32 (xor_lt (by omega) (xor_lt hx hy)) hs, bor_u32 (and_lt (xor_lt (by omega) hx)) (and_lt (xor_lt (by omega) (xor_lt hx hy))), bxor_u32 hx hs, band_u32 (xor_lt hx hy) (xor_lt hx hs), top_bit (and_lt (xor_lt hx hy)), top_bit (or_lt (and_lt (xor_lt (by omega) hx)) (and_lt (xor_lt (by omega) (xor_lt hx hy))))]
  simp only [Nat.testBit_or, Nat.testBit_and, Nat.testBit_xor, bit31 hx, bit31 hy, bit31 hs]
  have e31 : (4294967295 : Nat).testBit 31 = true := by decide
  rw [e31]
  unfold subS
  congr 1
  refine Prod.ext ?_ (Prod.ext ?_ ?_)
  · simp only; omega
  · simp only
    rw [Bool.eq_iff_iff, decide_eq_true_eq]
    by_cases h1 : x ≥ 2147483648 <;> by_cases h2 : y ≥ 2147483648 <;> by_cases h3 : d ≥ 2147483648 <;> simp [h1, h2, h3] <;> omega
  · simp only
    rw [Bool.eq_iff_iff, decide_eq_true_eq]
    by_cases h1 : x ≥ 2147483648 <;> by_cases h2 : y ≥ 2147483648 <;> by_cases h3 : d ≥ 2147483648 <;> simp [h1, h2, h3] <;> omega
end Go.Proofs.Ytheccnbamcdpmaa.A06
