/- Memory, told by its places. No condition. -/
import Derived.Test.YtheccnbamcdpmaaA06g
namespace Go.Proofs.Ytheccnbamcdpmaa.A06
set_option linter.unusedVariables false
set_option linter.unusedSimpArgs false
open Go Go.RowKit Go.Proofs.Ytheccnbamcdpmaa.E Go.Proofs.Ytheccnbamcdpmaa.T06
structure OkM (y : Smemory_Memory) : Prop where
  n0 : 0 ≤ y.n
  n1 : y.n ≤ 4096
  w : ∀ j : Nat, j < 4096 → W (vx 0 y.w j)
theorem quarter {a : Int} (h : W a) : wu32 (a.tdiv 4) = a / 4 := by
  rw [Int.tdiv_eq_ediv_of_nonneg h.1, wu32_id (by have := h.1; omega) (by have := h.2; omega)]
def wordS (y : Smemory_Memory) (a : Int) : Int × Int := if a % 4 = 0 then (if a / 4 < y.n then (vx 0 y.w (a / 4).toNat, 0) else (0, 3)) else (0, 4)
def byteS (y : Smemory_Memory) (a : Int) : Int × Int := if a / 4 < y.n then (wu8 (shr .u32 (vx 0 y.w (a / 4).toNat) (a % 4 * 8)), 0) else (0, 3)
def setwS (y : Smemory_Memory) (a x : Int) : Int × Smemory_Memory := if a % 4 = 0 then (if a / 4 < y.n then (0, { y with w := vset y.w (a / 4).toNat x }) else (3, y)) else (4, y)
def setb (x b k : Int) : Int := bor .u32 (bandn .u32 x (shl .u32 255 k)) (shl .u32 (wu32 b) k)
def setbS (y : Smemory_Memory) (a b : Int) : Int × Smemory_Memory := if a / 4 < y.n then (0, { y with w := vset y.w (a / 4).toNat (setb (vx 0 y.w (a / 4).toNat) b (a % 4 * 8)) }) else (3, y)
section
variable {y : Smemory_Memory} {a x : Int}
theorem word_is (h : OkM y) (ha : W a) : memory_Memory_Word y a = some (wordS y a) := by
  have := h.n1
  have := ha.1
  have := ha.2
  unfold memory_Memory_Word wordS
  rw [quarter ha, w64s (by omega) (by omega), Int.tmod_eq_emod_of_nonneg ha.1]
  by_cases h4 : a % 4 = 0
  · rw [if_pos h4, if_pos h4]
    by_cases hn : a / 4 < y.n
    · rw [if_neg (by omega), if_pos (by omega), if_pos hn]; rfl
    · rw [if_pos (by omega), if_neg hn]
  · rw [if_neg h4, if_neg h4]
theorem byte_is (h : OkM y) (ha : W a) : memory_Memory_Byte y a = some (byteS y a) := by
  have := h.n1
  have := ha.1
  have := ha.2
  unfold memory_Memory_Byte byteS
  rw [quarter ha, w64s (by omega) (by omega), Int.tmod_eq_emod_of_nonneg (b := 4) ha.1, Int.tmod_one, if_pos rfl, wu32_id (x := a % 4 * 8) (by omega) (by omega)]
  by_cases hn : a / 4 < y.n
  · rw [if_neg (by omega), if_pos (by omega), if_pos (by omega), if_pos hn]; rfl
  · rw [if_pos (by omega), if_neg hn]
theorem setword_is (h : OkM y) (ha : W a) : memory_Memory_SetWord y a x = some (setwS y a x) := by
  have := h.n1
  have := ha.1
  have := ha.2
  unfold memory_Memory_SetWord setwS memory_Memory_SetWord.j1 memory_Memory_SetWord.j2 memory_Memory_SetWord.j3
  rw [quarter ha, w64s (by omega) (by omega), Int.tmod_eq_emod_of_nonneg ha.1]
  by_cases h4 : a % 4 = 0
  · rw [if_pos h4, if_pos h4]
    by_cases hn : a / 4 < y.n
    · rw [if_neg (by omega), if_pos (by omega), if_pos hn]
    · rw [if_pos (by omega), if_neg hn]
  · rw [if_neg h4, if_neg h4]
theorem setbyte_is (h : OkM y) (ha : W a) : memory_Memory_SetByte y a x = some (setbS y a x) := by
  have := h.n1
  have := ha.1
  have := ha.2
  unfold memory_Memory_SetByte setbS memory_Memory_SetByte.j2 memory_Memory_SetByte.j3
  rw [quarter ha, w64s (by omega) (by omega), Int.tmod_eq_emod_of_nonneg (b := 4) ha.1, Int.tmod_one, if_pos rfl, wu32_id (x := a % 4 * 8) (by omega) (by omega)]
  by_cases hn : a / 4 < y.n
  · rw [if_neg (by omega), if_pos (by omega), if_pos (by omega), if_pos (by omega), if_pos hn]; rfl
  · rw [if_pos (by omega), if_neg hn]
theorem OkM.set (h : OkM y) {i : Nat} (hx : W x) : OkM { y with w := vset y.w i x } := by
  refine ⟨h.n0, h.n1, fun j hj => ?_⟩
  by_cases hi : i < 4096
  · show W (vx 0 (vset y.w i x) j)
    rw [vx_vset hi]
    split
    · exact hx
    · exact h.w j hj
  · have : vx 0 (vset y.w i x) j = vx 0 y.w j := by
      unfold vx vset
      rw [show (y.w.setIfInBounds i x).toList = y.w.toList.set i x by simp [Vector.toList], List.set_eq_of_length_le (by simp; omega)]
    show W (vx 0 (vset y.w i x) j)
    rw [this]
    exact h.w j hj
theorem W_wrap (x : Int) : W (wu32 x) := by rw [wu32_eq]; exact ⟨by omega, by omega⟩
theorem W_setb {b k : Int} : W (setb x b k) := W_wrap _
end
end Go.Proofs.Ytheccnbamcdpmaa.A06
