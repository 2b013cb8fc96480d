/- Parts of words: what Get and Set of the package field come to. No condition. -/
import Derived.Test.YtheccnbamcdpmaaT06
import Derived.Test.YtheccnbamcdpmaaE9
namespace Go.Proofs.Ytheccnbamcdpmaa.A06
set_option linter.unusedVariables false
set_option linter.unusedSimpArgs false
open Go Go.RowKit Go.Proofs.Ytheccnbamcdpmaa.E Go.Proofs.Ytheccnbamcdpmaa.T06
theorem w64s {x : Int} (h0 : -9000000000000000000 ≤ x) (h1 : x ≤ 9000000000000000000) : w64 x = x := w64_id (by omega) (by omega)
theorem p2 (n : Nat) : ((2 : Int) ^ n) = ((2 ^ n : Nat) : Int) := by rw [Int.natCast_pow]; rfl
theorem p2pos (n : Nat) : 0 < 2 ^ n := Nat.pow_pos (by omega)
theorem p2le {i : Nat} (h : i ≤ 32) : 2 ^ i ≤ 4294967296 := Nat.pow_le_pow_right (n := 2) (by omega) h
theorem shr_nat {k : IntKind} {w i : Nat} (h : i ≤ k.bits) : shr k (w : Int) (i : Int) = ((w / 2 ^ i : Nat) : Int) := by
  unfold shr
  rw [Int.toNat_natCast, Nat.min_eq_left h, p2, Int.fdiv_eq_ediv_of_nonneg _ (Int.natCast_nonneg _)]
  rfl
theorem shl_u32 {w i : Nat} (h : i ≤ 32) (hw : w * 2 ^ i < 4294967296) : shl .u32 (w : Int) (i : Int) = ((w * 2 ^ i : Nat) : Int) := by
  unfold shl
  rw [Int.toNat_natCast, show min i IntKind.u32.bits = i from Nat.min_eq_left h, p2, ← Int.natCast_mul]
  exact wrap_nat (k := .u32) hw
theorem band_one {x : Nat} (h : x < 4294967296) : band .u32 (x : Int) 1 = ((x % 2 : Nat) : Int) := by
  rw [band_nat (by omega) (by simp only [umax]; omega) (by omega) (by decide)]
  rw [Int.toNat_natCast, show (1 : Int).toNat = 1 from rfl, Nat.and_one_is_mod]
theorem bor_u32 {x y : Nat} (hx : x < 4294967296) (hy : y < 4294967296) : bor .u32 (x : Int) (y : Int) = ((x ||| y : Nat) : Int) := by
  rw [bor_nat (by decide) (by omega) (by simp only [umax]; omega) (by omega) (by simp only [umax]; omega)]
  rfl
theorem bandn_u32 {x y : Nat} (hx : x < 4294967296) (hy : y < 4294967296) : bandn .u32 (x : Int) (y : Int) = ((x &&& (4294967295 - y) : Nat) : Int) := by
  rw [bandn_nat (by decide) (by omega) (by simp only [umax]; omega) (by omega) (by simp only [umax]; omega)]
  rfl
/-- A bit that is none is put in. -/
theorem or_bit {v i b : Nat} (h : v / 2 ^ i % 2 = 0) (hb : b ≤ 1) : v ||| b * 2 ^ i = v + b * 2 ^ i := by
  have hp := p2pos i
  have hr : v % 2 ^ i < 2 ^ i := Nat.mod_lt _ hp
  have hv : v = 2 ^ i * (v / 2 ^ i) + v % 2 ^ i := (Nat.div_add_mod v (2 ^ i)).symm
  obtain ⟨m, hm⟩ : ∃ m, v / 2 ^ i = 2 * m := ⟨v / 2 ^ i / 2, by omega⟩
  have e1 : 2 * m ||| b = 2 * m + b := by
    have := or_high (x := m) (y := b) (n := 1) (by omega)
    simpa using this
  have e2 : v ||| b * 2 ^ i = 2 ^ i * (2 * m ||| b) ||| v % 2 ^ i := by
    conv => lhs; rw [hv, ← or_high hr]
    rw [hm, Nat.mul_comm b, Nat.or_assoc, Nat.or_comm (v % 2 ^ i), ← Nat.or_assoc]
    congr 1
    rw [Nat.mul_comm _ (2 * m), Nat.mul_comm _ b, Nat.mul_comm _ (2 * m ||| b), ← Nat.shiftLeft_eq, ← Nat.shiftLeft_eq, ← Nat.shiftLeft_eq, Nat.shiftLeft_or_distrib]
  rw [e2, e1, or_high hr]
  conv => rhs; rw [hv, hm]
  rw [Nat.mul_add, Nat.mul_comm b]
  omega
theorem andn_bit {v i : Nat} (h : v / 2 ^ i % 2 = 0) (hv : v < 4294967296) (hi : i < 32) : v &&& (4294967295 - 2 ^ i) = v := by
  have h2 : 2 ^ i < 2 ^ 32 := Nat.pow_lt_pow_right (by omega) hi
  apply Nat.eq_of_testBit_eq
  intro j
  rw [Nat.testBit_and, show 4294967295 - 2 ^ i = 2 ^ 32 - (2 ^ i + 1) by omega, Nat.testBit_two_pow_sub_succ h2, Nat.testBit_two_pow]
  by_cases hj : j < 32
  · by_cases e : i = j
    · subst e
      have : v.testBit i = false := by rw [Nat.testBit_eq_decide_div_mod_eq, h]; rfl
      simp [this]
    · simp [hj, e]
  · have : v.testBit j = false := Nat.testBit_lt_two_pow (Nat.lt_of_lt_of_le hv (by have : 2 ^ 32 ≤ 2 ^ j := Nat.pow_le_pow_right (by omega) (by omega); omega))
    simp [this]
theorem get_is {w at' n : Nat} (hw : w < 4294967296) (h1 : 1 ≤ n) (h2 : at' + n ≤ 32) : field_Get (w : Int) (at' : Int) (n : Int) = some ((w / 2 ^ at' % 2 ^ n : Nat) : Int) := by
  have key : ∀ k p, p + k = n → loopO (fun σ : Int × Int => field_Get.b23 (at' : Int) (w : Int) (n : Int) σ.1 σ.2) (((w / 2 ^ at' % 2 ^ p : Nat) : Int), ((at' + p : Nat) : Int)) = some ((w / 2 ^ at' % 2 ^ n : Nat) : Int) := by
    intro k
    induction k with
    | zero =>
      intro p hp
      obtain rfl : p = n := by omega
      refine loopO_done ?_
      simp only [field_Get.b23]
      have e : w64 (((at' + p : Nat) : Int) - (at' : Int)) = (p : Int) := by rw [w64s (by omega) (by omega)]; omega
      rw [e]
      by_cases h : ((at' + p : Nat) : Int) < 32
      · rw [if_pos h]; simp [field_Get.j3]
      · rw [if_neg h]; simp [field_Get.j3]
    | succ k ih =>
      intro p hp
      rw [← ih (p + 1) (by omega)]
      refine loopO_next ?_
      simp only [field_Get.b23]
      have e : w64 (((at' + p : Nat) : Int) - (at' : Int)) = (p : Int) := by rw [w64s (by omega) (by omega)]; omega
      have hq : w / 2 ^ (at' + p) < 4294967296 := Nat.lt_of_le_of_lt (Nat.div_le_self _ _) hw
      have hb : w / 2 ^ (at' + p) % 2 < 2 := Nat.mod_lt _ (by omega)
      have hp2 : 2 ^ p * 2 ≤ 4294967296 := by rw [← Nat.pow_succ]; exact p2le (by omega)
      have hbp : w / 2 ^ (at' + p) % 2 * 2 ^ p ≤ 1 * 2 ^ p := Nat.mul_le_mul_right _ (by omega)
      have ho : w / 2 ^ at' % 2 ^ p < 2 ^ p := Nat.mod_lt _ (p2pos p)
      rw [if_pos (by omega), e]
      simp only [field_Get.j3, field_Get.j4]
      rw [if_pos (by simp; omega), if_pos (by omega), e, if_pos (by omega), shr_nat (k := .u32) (by simp only [IntKind.bits]; omega), band_one hq, shl_u32 (by omega) (by omega), bor_u32 (by omega) (by omega), w64s (by omega) (by omega)]
      have e2 : w / 2 ^ at' % 2 ^ p ||| w / 2 ^ (at' + p) % 2 * 2 ^ p = w / 2 ^ at' % 2 ^ (p + 1) := by
        rw [Nat.or_comm, Nat.mul_comm, or_high ho, Nat.mod_pow_succ, Nat.pow_add, ← Nat.div_div_eq_div_mul, Nat.add_comm]
      rw [e2]
      rfl
  have h0 := key n 0 (by omega)
  unfold field_Get
  rw [if_neg (by omega), if_neg (by omega)]
  have hd : decide ((at' : Int) ≤ w64 (0 - (n : Int))) = false := by
    rw [w64s (by omega) (by omega)]; simp; omega
  rw [hd]
  simp only [field_Get.j1, field_Get.j2, field_Get.j5]
  rw [if_neg (by simp)]
  have hm : mxx (at' : Int) 0 = (at' : Int) := by unfold mxx; rw [if_neg (by omega)]
  rw [hm]
  simp only [Nat.pow_zero, Nat.mod_one, Nat.add_zero] at h0
  have h0' : loopO (fun σ : Int × Int => field_Get.b23 (at' : Int) (w : Int) (n : Int) σ.1 σ.2) (0, (at' : Int)) = some ((w / 2 ^ at' % 2 ^ n : Nat) : Int) := h0
  rw [h0']
  rfl
theorem set_is {w at' n x : Nat} (hw : w < 4294967296) (hx : x < 4294967296) (h1 : 1 ≤ n) (h2 : at' + n ≤ 32) (hz : w / 2 ^ at' % 2 ^ n = 0) : field_Set (w : Int) (at' : Int) (n : Int) (x : Int) = some ((w + x % 2 ^ n * 2 ^ at' : Nat) : Int) := by
  have hwd : w = 2 ^ at' * (2 ^ n * (w / 2 ^ at' / 2 ^ n)) + w % 2 ^ at' := by
    have e1 := Nat.div_add_mod w (2 ^ at')
    have e2 := Nat.div_add_mod (w / 2 ^ at') (2 ^ n)
    rw [hz, Nat.add_zero] at e2
    rw [e2]; exact e1.symm
  have hlow : w % 2 ^ at' < 2 ^ at' := Nat.mod_lt _ (p2pos _)
  -- the field's place
  have hdiv : ∀ p y, p < n → y < 2 ^ p → (w + y * 2 ^ at') / 2 ^ (at' + p) % 2 = 0 := by
    intro p y hp hy
    have e : (w + y * 2 ^ at') / 2 ^ at' = 2 ^ n * (w / 2 ^ at' / 2 ^ n) + y := by
      conv => lhs; rw [hwd]
      rw [show 2 ^ at' * (2 ^ n * (w / 2 ^ at' / 2 ^ n)) + w % 2 ^ at' + y * 2 ^ at' = w % 2 ^ at' + 2 ^ at' * (2 ^ n * (w / 2 ^ at' / 2 ^ n) + y) by rw [Nat.mul_add, Nat.mul_comm y]; omega]
      rw [Nat.add_mul_div_left _ _ (p2pos _), Nat.div_eq_of_lt hlow, Nat.zero_add]
    rw [Nat.pow_add, ← Nat.div_div_eq_div_mul, e]
    rw [show n = p + (1 + (n - p - 1)) by omega, Nat.pow_add, Nat.mul_assoc, Nat.add_comm, Nat.add_mul_div_left _ _ (p2pos _), Nat.div_eq_of_lt hy, Nat.zero_add, Nat.pow_add, Nat.mul_assoc, Nat.pow_one]
    exact Nat.mul_mod_right _ _
  have hlt : ∀ p y, p ≤ n → y < 2 ^ p → w + y * 2 ^ at' < 4294967296 := by
    intro p y hp hy
    have hy : y < 2 ^ n := Nat.lt_of_lt_of_le hy (Nat.pow_le_pow_right (by omega) hp)
    have hm : y * 2 ^ at' + 2 ^ at' ≤ 2 ^ n * 2 ^ at' := by rw [← Nat.succ_mul]; exact Nat.mul_le_mul_right _ hy
    have hk : 2 ^ at' * (2 ^ n * (w / 2 ^ at' / 2 ^ n)) + 2 ^ n * 2 ^ at' ≤ 4294967296 := by
      have e : 2 ^ at' * (2 ^ n * (w / 2 ^ at' / 2 ^ n)) + 2 ^ n * 2 ^ at' = 2 ^ (at' + n) * (w / 2 ^ (at' + n) + 1) := by
        rw [Nat.div_div_eq_div_mul, ← Nat.pow_add, ← Nat.mul_assoc, ← Nat.pow_add, Nat.mul_add, Nat.mul_one, Nat.mul_comm (2 ^ n), ← Nat.pow_add]
      rw [e]
      have hs : 2 ^ 32 = 2 ^ (at' + n) * 2 ^ (32 - (at' + n)) := by rw [← Nat.pow_add]; congr 1; omega
      have hlt : w / 2 ^ (at' + n) < 2 ^ (32 - (at' + n)) := by
        apply Nat.div_lt_of_lt_mul
        rw [← hs]; exact hw
      calc 2 ^ (at' + n) * (w / 2 ^ (at' + n) + 1) ≤ 2 ^ (at' + n) * 2 ^ (32 - (at' + n)) := Nat.mul_le_mul_left _ hlt
        _ = 4294967296 := by rw [← hs]
    omega
  have key : ∀ k p, p + k = n → loopO (fun σ : Int × Int => field_Set.b22 (at' : Int) (x : Int) (n : Int) σ.1 σ.2) (((w + x % 2 ^ p * 2 ^ at' : Nat) : Int), ((at' + p : Nat) : Int)) = some ((w + x % 2 ^ n * 2 ^ at' : Nat) : Int) := by
    intro k
    induction k with
    | zero =>
      intro p hp
      obtain rfl : p = n := by omega
      refine loopO_done ?_
      simp only [field_Set.b22]
      have e : w64 (((at' + p : Nat) : Int) - (at' : Int)) = (p : Int) := by rw [w64s (by omega) (by omega)]; omega
      rw [e]
      by_cases h : ((at' + p : Nat) : Int) < 32
      · rw [if_pos h]; simp [field_Set.j3]
      · rw [if_neg h]; simp [field_Set.j3]
    | succ k ih =>
      intro p hp
      rw [← ih (p + 1) (by omega)]
      refine loopO_next ?_
      simp only [field_Set.b22]
      have e : w64 (((at' + p : Nat) : Int) - (at' : Int)) = (p : Int) := by rw [w64s (by omega) (by omega)]; omega
      have hy : x % 2 ^ p < 2 ^ p := Nat.mod_lt _ (p2pos _)
      have hv := hlt p (x % 2 ^ p) (by omega) hy
      have hd := hdiv p (x % 2 ^ p) (by omega) hy
      have hq : x / 2 ^ p < 4294967296 := Nat.lt_of_le_of_lt (Nat.div_le_self _ _) hx
      have hb : x / 2 ^ p % 2 < 2 := Nat.mod_lt _ (by omega)
      have hi : 2 ^ (at' + p) * 2 ≤ 4294967296 := by rw [← Nat.pow_succ]; exact p2le (by omega)
      have hbp : x / 2 ^ p % 2 * 2 ^ (at' + p) ≤ 1 * 2 ^ (at' + p) := Nat.mul_le_mul_right _ (by omega)
      have hs1 : shl .u32 (1 : Int) ((at' + p : Nat) : Int) = ((1 * 2 ^ (at' + p) : Nat) : Int) := shl_u32 (w := 1) (by omega) (by omega)
      rw [if_pos (by omega), e]
      simp only [field_Set.j3, field_Set.j4]
      rw [if_pos (by simp; omega), if_pos (by omega), e, if_pos (by omega), if_pos (by omega), hs1, Nat.one_mul, bandn_u32 hv (by omega), andn_bit hd hv (by omega), shr_nat (k := .u32) (by simp only [IntKind.bits]; omega), band_one hq, shl_u32 (by omega) (by omega), bor_u32 hv (by omega), or_bit hd (by omega), w64s (by omega) (by omega)]
      have e2 : w + x % 2 ^ p * 2 ^ at' + x / 2 ^ p % 2 * 2 ^ (at' + p) = w + x % 2 ^ (p + 1) * 2 ^ at' := by
        rw [Nat.mod_pow_succ, Nat.add_mul, Nat.pow_add, Nat.mul_comm (2 ^ p) (x / 2 ^ p % 2), Nat.mul_assoc, Nat.mul_comm (2 ^ p) (2 ^ at'), Nat.add_assoc]
      rw [e2]
      rfl
  have h0 := key n 0 (by omega)
  unfold field_Set
  rw [if_neg (by omega), if_neg (by omega)]
  have hd : decide ((at' : Int) ≤ w64 (0 - (n : Int))) = false := by
    rw [w64s (by omega) (by omega)]; simp; omega
  rw [hd]
  simp only [field_Set.j1, field_Set.j2, field_Set.j5]
  rw [if_neg (by simp)]
  have hm : mxx (at' : Int) 0 = (at' : Int) := by unfold mxx; rw [if_neg (by omega)]
  rw [hm]
  simp only [Nat.pow_zero, Nat.mod_one, Nat.zero_mul, Nat.add_zero] at h0
  rw [h0]
  rfl
end Go.Proofs.Ytheccnbamcdpmaa.A06
