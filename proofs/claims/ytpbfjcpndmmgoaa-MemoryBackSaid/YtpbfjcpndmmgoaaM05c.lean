/- Words and bytes of the memory, told by its words; the plain law of the statement MemoryTraps. No condition. -/
import Derived.Test.YtpbfjcpndmmgoaaM05b
namespace Go.Proofs.Ytpbfjcpndmmgoaa.M05
open Go Go.RowKit Go.Proofs.Ytpbfjcpndmmgoaa.E Go.Proofs.Ytpbfjcpndmmgoaa.T05
theorem quarter {a : Int} (h0 : 0 ≤ a) (h1 : a ≤ 4294967295) : wu32 (a.tdiv 4) = a / 4 := by
  rw [Int.tdiv_eq_ediv_of_nonneg h0, wu32_id (by omega) (by omega)]
theorem word_is {m : Smemory_Memory} {l : List Int} {a : Int} (h : Is m l) (h0 : 0 ≤ a) (h1 : a ≤ 4294967295) :
    memory_Memory_Word m a = some (if a % 4 = 0 then (if a / 4 ≥ (l.length : Int) then (0, 3, m) else (l.getD (a / 4).toNat 0, 0, m)) else (0, 4, m)) := by
  unfold memory_Memory_Word
  have hn := h.n
  have hle := h.le
  rw [Int.tmod_eq_emod_of_nonneg h0, quarter h0 h1, w64s (by omega) (by omega), hn]
  by_cases c1 : a % 4 = 0
  · rw [if_pos c1, if_pos c1]
    by_cases c2 : a / 4 ≥ (l.length : Int)
    · rw [if_pos c2, if_pos c2]
    · rw [if_neg c2, if_neg c2, if_pos (by omega)]
      simp only [nm]
      rw [h.at' _ (by omega)]
  · rw [if_neg c1, if_neg c1]
theorem byte_is {m : Smemory_Memory} {l : List Int} {a : Int} (h : Is m l) (h0 : 0 ≤ a) (h1 : a ≤ 4294967295) :
    memory_Memory_Byte m a = some (if a / 4 ≥ (l.length : Int) then (0, 3, m) else (wu8 (shr .u32 (l.getD (a / 4).toNat 0) (a % 4 * 8)), 0, m)) := by
  unfold memory_Memory_Byte
  have hn := h.n
  have hle := h.le
  rw [Int.tmod_eq_emod_of_nonneg h0, Int.tmod_eq_emod_of_nonneg h0, quarter h0 h1, w64s (by omega) (by omega), hn]
  have e : wu32 (a % 4 * 8) = a % 4 * 8 := wu32_id (by omega) (by omega)
  rw [if_pos (by omega), e]
  by_cases c2 : a / 4 ≥ (l.length : Int)
  · rw [if_pos c2, if_pos c2]
  · rw [if_neg c2, if_neg c2, if_pos (by omega), if_pos (by omega)]
    simp only [nm]
    rw [h.at' _ (by omega)]
theorem Is.set {m : Smemory_Memory} {l : List Int} {i : Nat} {v : Int} (h : Is m l) (hi : i < l.length) : Is { m with w := vset m.w i v } (l.set i v) := by
  have hn := h.n
  have hle := h.le
  refine ⟨by rw [List.length_set]; exact hn, by rw [List.length_set]; exact hle, fun j hj => ?_⟩
  rw [List.length_set] at hj
  show vx 0 (vset m.w i v) j = _
  rw [vx_vset (by omega)]
  have hat := h.at' j hj
  simp only [List.getD_eq_getElem?_getD, List.getElem?_set] at hat ⊢
  by_cases e : i = j
  · subst e; simp [hi]
  · rw [if_neg (fun e' => e e'.symm), if_neg e, hat]
theorem setword_is {m : Smemory_Memory} {l : List Int} {a x : Int} (h : Is m l) (h0 : 0 ≤ a) (h1 : a ≤ 4294967295) :
    ∃ m', memory_Memory_SetWord m a x = some (if a % 4 = 0 then (if a / 4 ≥ (l.length : Int) then 3 else 0) else 4, m') ∧ Is m' (if a % 4 = 0 ∧ a / 4 < (l.length : Int) then l.set (a / 4).toNat x else l) := by
  unfold memory_Memory_SetWord
  have hn := h.n
  have hle := h.le
  rw [Int.tmod_eq_emod_of_nonneg h0, quarter h0 h1, w64s (by omega) (by omega), hn]
  by_cases c1 : a % 4 = 0
  · rw [if_pos c1, if_pos c1]
    by_cases c2 : a / 4 ≥ (l.length : Int)
    · rw [if_pos c2, if_pos c2, if_neg (by omega)]
      exact ⟨m, rfl, h⟩
    · have hlt : (a / 4).toNat < l.length := by omega
      rw [if_neg c2, if_neg c2, if_pos (by omega), if_pos (by omega)]
      exact ⟨_, rfl, by have := h.set (v := x) hlt; rw [hn] at this; exact this⟩
  · rw [if_neg c1, if_neg c1, if_neg (by omega)]
    exact ⟨m, rfl, h⟩
/-- A word with one of its bytes set. -/
def setb (x b k : Int) : Int := bor .u32 (bandn .u32 x (shl .u32 255 k)) (shl .u32 (wu32 b) k)
theorem setbyte_is {m : Smemory_Memory} {l : List Int} {a b : Int} (h : Is m l) (h0 : 0 ≤ a) (h1 : a ≤ 4294967295) :
    ∃ m', memory_Memory_SetByte m a b = some (if a / 4 ≥ (l.length : Int) then 3 else 0, m') ∧ Is m' (if a / 4 < (l.length : Int) then l.set (a / 4).toNat (setb (l.getD (a / 4).toNat 0) b (a % 4 * 8)) else l) := by
  unfold memory_Memory_SetByte
  have hn := h.n
  have hle := h.le
  rw [Int.tmod_eq_emod_of_nonneg h0, Int.tmod_eq_emod_of_nonneg h0, quarter h0 h1, w64s (by omega) (by omega), hn]
  have e : wu32 (a % 4 * 8) = a % 4 * 8 := wu32_id (by omega) (by omega)
  rw [if_pos (by omega), e]
  by_cases c2 : a / 4 ≥ (l.length : Int)
  · rw [if_pos c2, if_pos c2, if_neg (by omega)]
    exact ⟨m, rfl, h⟩
  · have hlt : (a / 4).toNat < l.length := by omega
    rw [if_neg c2, if_neg c2, if_pos (by omega), if_pos (by omega), if_pos (by omega), if_pos (by omega), h.at' _ hlt]
    exact ⟨_, rfl, by have := h.set (v := setb (l.getD (a / 4).toNat 0) b (a % 4 * 8)) hlt; rw [hn] at this; exact this⟩
/-! ### bytes of a word -/
theorem byte_val {x k : Int} (k0 : 0 ≤ k) (k1 : k < 4) : wu8 (shr .u32 x (k * 8)) = x / 2 ^ (k * 8).toNat % 256 := by
  unfold shr
  have : min (k * 8).toNat IntKind.u32.bits = (k * 8).toNat := by simp only [IntKind.bits]; omega
  rw [wu8_eq, this, Int.fdiv_eq_ediv_of_nonneg _ (Int.le_of_lt (Int.pow_pos (by omega)))]
def sb (n c j : Nat) : Nat := (n &&& (4294967295 - 255 * 2 ^ j)) ||| (c * 2 ^ j)
theorem mask_bit : ∀ j, j = 0 ∨ j = 8 ∨ j = 16 ∨ j = 24 → ∀ i, i < 32 → (4294967295 - 255 * 2 ^ j).testBit i = !decide (j ≤ i ∧ i < j + 8) := by
  rintro j (rfl | rfl | rfl | rfl) <;> decide
theorem sb_bit {n c j : Nat} (hj : j = 0 ∨ j = 8 ∨ j = 16 ∨ j = 24) (hn : n < 2 ^ 32) (hc : c < 2 ^ 8) (i : Nat) : (sb n c j).testBit i = if j ≤ i ∧ i < j + 8 then c.testBit (i - j) else n.testBit i := by
  unfold sb
  rw [Nat.testBit_or, Nat.testBit_and, Nat.testBit_mul_two_pow]
  by_cases h : j ≤ i ∧ i < j + 8
  · rw [if_pos h, mask_bit j hj i (by omega)]
    simp [h.1, h.2]
  · rw [if_neg h]
    have hcb : (decide (j ≤ i) && c.testBit (i - j)) = false := by
      by_cases h1 : j ≤ i
      · have : c.testBit (i - j) = false := Nat.testBit_lt_two_pow (Nat.lt_of_lt_of_le hc (Nat.pow_le_pow_right (by omega) (by omega)))
        simp [this]
      · simp [h1]
    rw [hcb, Bool.or_false]
    by_cases h2 : i < 32
    · rw [mask_bit j hj i h2]
      simp [h]
    · have : n.testBit i = false := Nat.testBit_lt_two_pow (Nat.lt_of_lt_of_le hn (Nat.pow_le_pow_right (by omega) (by omega)))
      simp [this]
theorem sb_same {n j : Nat} (hj : j = 0 ∨ j = 8 ∨ j = 16 ∨ j = 24) (hn : n < 2 ^ 32) : sb n (n / 2 ^ j % 2 ^ 8) j = n := by
  apply Nat.eq_of_testBit_eq
  intro i
  rw [sb_bit hj hn (Nat.mod_lt _ (by decide))]
  split
  · rename_i h
    rw [Nat.testBit_mod_two_pow, Nat.testBit_div_two_pow, show i - j + j = i by omega]
    simp; omega
  · rfl
theorem sb_get {n c j k : Nat} (hj : j = 0 ∨ j = 8 ∨ j = 16 ∨ j = 24) (hk : k = 0 ∨ k = 8 ∨ k = 16 ∨ k = 24) (hn : n < 2 ^ 32) (hc : c < 2 ^ 8) : sb n c j / 2 ^ k % 2 ^ 8 = if k = j then c else n / 2 ^ k % 2 ^ 8 := by
  apply Nat.eq_of_testBit_eq
  intro i
  rw [Nat.testBit_mod_two_pow, Nat.testBit_div_two_pow, sb_bit hj hn hc]
  by_cases hi : i < 8
  · by_cases e : k = j
    · subst e
      rw [if_pos rfl, if_pos (by omega), show i + k - k = i by omega]
      simp [hi]
    · rw [if_neg e, if_neg (by omega), Nat.testBit_mod_two_pow, Nat.testBit_div_two_pow]
  · have h1 : (decide (i < 8)) = false := by simp [hi]
    rw [h1, Bool.false_and]
    symm
    split
    · exact Nat.testBit_lt_two_pow (Nat.lt_of_lt_of_le hc (Nat.pow_le_pow_right (by omega) (by omega)))
    · rw [Nat.testBit_mod_two_pow, h1, Bool.false_and]
theorem sb_lt {n c j : Nat} (hj : j = 0 ∨ j = 8 ∨ j = 16 ∨ j = 24) (hc : c < 2 ^ 8) : sb n c j < 2 ^ 32 := by
  unfold sb
  apply Nat.or_lt_two_pow
  · exact Nat.lt_of_le_of_lt Nat.and_le_right (by omega)
  · rcases hj with rfl | rfl | rfl | rfl <;> omega
theorem setb_val {x b : Int} {k : Nat} (h0 : 0 ≤ x) (h1 : x ≤ 4294967295) (b0 : 0 ≤ b) (b1 : b ≤ 255) (k1 : k < 4) : setb x b ((k : Int) * 8) = (sb x.toNat b.toNat (8 * k) : Nat) := by
  have hp : (0 : Int) < 2 ^ (8 * k) := Int.pow_pos (by omega)
  have hup : (2 : Int) ^ (8 * k) ≤ 16777216 := by
    have hk : k = 0 ∨ k = 1 ∨ k = 2 ∨ k = 3 := by omega
    rcases hk with rfl | rfl | rfl | rfl <;> decide
  have hs : ∀ y : Int, 0 ≤ y → y ≤ 255 → shl .u32 y ((k : Int) * 8) = y * 2 ^ (8 * k) := by
    intro y y0 y1
    unfold shl
    have e : min ((k : Int) * 8).toNat IntKind.u32.bits = 8 * k := by simp only [IntKind.bits]; omega
    have hm : y * 2 ^ (8 * k) ≤ 255 * 16777216 := Int.mul_le_mul y1 hup (by omega) (by omega)
    rw [e, IntKind.wrap_u32, Int.emod_eq_of_lt (Int.mul_nonneg y0 (by omega)) (by omega)]
  unfold setb
  rw [wu32_id b0 (by omega), hs 255 (by omega) (by omega), hs b b0 b1]
  have m1 : (255 : Int) * 2 ^ (8 * k) ≤ 4294967295 := by omega
  have hbm : b * 2 ^ (8 * k) ≤ 255 * 2 ^ (8 * k) := Int.mul_le_mul_of_nonneg_right b1 (by omega)
  have hbm0 : 0 ≤ b * 2 ^ (8 * k) := Int.mul_nonneg b0 (by omega)
  rw [bandn_nat (by decide) h0 (by simp only [umax]; omega) (by omega) (by simp only [umax]; omega)]
  have hpow : ((2 : Int) ^ (8 * k)) = ((2 ^ (8 * k) : Nat) : Int) := by rw [Int.natCast_pow]; rfl
  have e1 : ((255 : Int) * (2 : Int) ^ (8 * k)).toNat = 255 * 2 ^ (8 * k) := by
    rw [hpow]
    generalize 2 ^ (8 * k) = p
    omega
  have e2 : (b * (2 : Int) ^ (8 * k)).toNat = b.toNat * 2 ^ (8 * k) := by
    rw [hpow, show b * ((2 ^ (8 * k) : Nat) : Int) = ((b.toNat * 2 ^ (8 * k) : Nat) : Int) by rw [Int.natCast_mul, Int.toNat_of_nonneg b0], Int.toNat_natCast]
  rw [bor_nat (by decide) (by omega) (by have := Nat.and_le_left (n := x.toNat) (m := umax .u32 - 1 - (255 * 2 ^ (8 * k) : Int).toNat); simp only [umax] at this ⊢; omega) hbm0 (by simp only [umax]; omega)]
  rw [e1, e2]
  rfl
end Go.Proofs.Ytpbfjcpndmmgoaa.M05
