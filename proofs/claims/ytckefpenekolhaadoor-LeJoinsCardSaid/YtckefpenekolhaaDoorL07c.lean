/- Strings as lists of bytes; equal rows; letters and digits; what strings.Trim leaves of digits. No condition. -/
import Derived.Test.YtckefpenekolhaaDoorL07b
import Derived.Laws.Strings
namespace Go.Proofs.YtckefpenekolhaaDoor.L07
set_option linter.unusedVariables false
set_option linter.unusedSimpArgs false
open Go Go.RowKit Go.Proofs.YtckefpenekolhaaDoor.E Go.Proofs.YtckefpenekolhaaDoor.T07
theorem drop_at {l : List Int} {i : Nat} (h : i < l.length) : l.drop i = l.getD i 0 :: l.drop (i + 1) := by
  rw [List.drop_eq_getElem_cons h, List.getD_eq_getElem?_getD, List.getElem?_eq_getElem h]
  rfl
theorem same32 {a b : List Int} (ha : a.length ≤ 1000000) : rivetref05_Same a b = some (decide (a = b)) := by
  unfold rivetref05_Same
  by_cases hl : a.length = b.length
  · rw [if_pos (by omega)]
    have key : ∀ n (i : Nat), i + n = a.length → loopO (fun σ : Int => rivetref05_Same.b9 a b σ) (i : Int) = some (if a.drop i = b.drop i then .done () else .ret false) := by
      intro n
      induction n with
      | zero =>
        intro i hn
        rw [loopO_done (r := .done ())]
        · rw [List.drop_of_length_le (by omega), List.drop_of_length_le (by omega)]; simp
        · simp only [rivetref05_Same.b9]
          rw [if_neg (by omega)]
      | succ n ih =>
        intro i hn
        have h1 : i < a.length := by omega
        have h2 : i < b.length := by omega
        by_cases he : a.getD i 0 = b.getD i 0
        · rw [loopO_next (s' := ((i + 1 : Nat) : Int)), ih (i + 1) (by omega), drop_at h1, drop_at h2, he]
          · simp only [List.cons.injEq, true_and]
          · simp only [rivetref05_Same.b9]
            rw [if_pos (by omega), if_pos (by omega), if_pos (by omega), ix32, ix32, if_pos he, w64s (by omega) (by omega)]
            rfl
        · rw [loopO_done (r := .ret false), drop_at h1, drop_at h2, if_neg (fun e => he (List.cons.inj e).1)]
          · simp only [rivetref05_Same.b9]
            rw [if_pos (by omega), if_pos (by omega), if_pos (by omega), ix32, ix32, if_neg he]
    have := key a.length 0 (by omega)
    simp only [Int.natCast_zero, List.drop_zero] at this
    rw [this]
    by_cases he : a = b
    · simp [he, rivetref05_Same.j1]
    · simp [he]
  · rw [if_neg (by omega)]
    have : a ≠ b := fun e => hl (by rw [e])
    simp [this]
theorem toL_eq (s t : ByteArray) : (s.toList == t.toList) = decide (s = t) := by
  rw [ByteArray.toList_eq, ByteArray.toList_eq, Bool.eq_iff_iff, beq_iff_eq, decide_eq_true_eq]
  constructor
  · intro h; exact ByteArray.ext (Array.toList_inj.1 h)
  · intro h; rw [h]
theorem bytesL_by (s : ByteArray) : By (bytesL s) := by
  intro x hx
  obtain ⟨b, _, rfl⟩ := List.mem_map.1 hx
  have := b.toNat_lt
  omega
theorem bytesL_nums {l : List Int} (h : By l) : bytesL (strOfNums l) = l := by
  unfold bytesL
  rw [strOfNums_data, List.map_map]
  conv => rhs; rw [← List.map_id l]
  apply List.map_congr_left
  intro x hx
  have := h x hx
  show ((UInt8.ofNat x.toNat).toNat : Int) = x
  rw [UInt8.toNat_ofNat']
  omega
theorem nums_bytesL (s : ByteArray) : strOfNums (bytesL s) = s := by
  apply ByteArray.ext
  apply Array.toList_inj.1
  rw [strOfNums_data]
  unfold bytesL
  rw [List.map_map]
  conv => rhs; rw [← List.map_id s.data.toList]
  apply List.map_congr_left
  intro x _
  simp
theorem nums_eq {a b : List Int} (ha : By a) (hb : By b) : strOfNums a = strOfNums b ↔ a = b := by
  constructor
  · intro h
    have := congrArg bytesL h
    rwa [bytesL_nums ha, bytesL_nums hb] at this
  · intro h; rw [h]
theorem bytesL_inj {s t : ByteArray} : bytesL s = bytesL t ↔ s = t := by
  constructor
  · intro h
    rw [← nums_bytesL s, ← nums_bytesL t, h]
  · intro h; rw [h]
theorem sx_at (s : ByteArray) (i : Nat) : sx s (i : Int) = (bytesL s).getD i 0 := by
  unfold sx bytesL
  rw [Int.toNat_natCast, List.getD_eq_getElem?_getD, List.getElem?_map]
  by_cases h : i < s.size
  · rw [dif_pos h, List.getElem?_eq_getElem (by rw [Array.length_toList]; exact h)]
    simp [ByteArray.getElem_eq_getElem_data]
  · rw [dif_neg h, List.getElem?_eq_none (by rw [Array.length_toList]; exact Nat.le_of_not_lt h)]
    rfl
theorem bytesL_cut (s : ByteArray) (a b : Nat) : bytesL (s.extract a b) = ((bytesL s).drop a).take (b - a) := by
  unfold bytesL
  have : (s.extract a b).data.toList = (s.data.toList.drop a).take (b - a) := by
    rw [ByteArray.data_extract, Array.toList_extract, List.extract_eq_take_drop]
  rw [this, List.map_take, List.map_drop]
/-! ### what a byte is -/
def letter (c : Int) : Bool := decide ((65 ≤ c ∧ c ≤ 90) ∨ (97 ≤ c ∧ c ≤ 122))
def digit (c : Int) : Bool := decide (48 ≤ c ∧ c ≤ 57)
def okc (c : Int) : Bool := decide (((65 ≤ c ∧ c ≤ 90) ∨ (97 ≤ c ∧ c ≤ 122)) ∨ (48 ≤ c ∧ c ≤ 57) ∨ c = 95)
theorem refletter_is (c : Int) : rivetref07_letter c = some (letter c) := by
  unfold rivetref07_letter rivetref07_letter.j1 letter
  by_cases h1 : c ≥ 65 <;> by_cases h2 : c ≤ 90 <;> by_cases h3 : c ≥ 97 <;> simp [h1, h2, h3] <;> omega
theorem refdigit_is (c : Int) : rivetref07_digit c = some (digit c) := by
  unfold rivetref07_digit rivetref07_digit.j1 digit
  by_cases h1 : c ≥ 48 <;> simp [h1] <;> omega
theorem is_is (c : Int) (b : Bool) : le_is c b = some (if b = true then letter c else okc c) := by
  unfold le_is le_is.j1 le_is.j2 le_is.j3 le_is.j4 letter okc
  by_cases h1 : c ≥ 65 <;> by_cases h2 : c ≤ 90 <;> by_cases h3 : c ≥ 97 <;> by_cases h4 : c ≤ 122 <;> by_cases h5 : c = 95 <;> by_cases h6 : c ≥ 48 <;> by_cases h7 : c ≤ 57 <;> cases b <;> simp [h1, h2, h3, h4, h5, h6, h7] <;> omega
/-! ### strings.Trim of digits -/
abbrev cut : ByteArray := ⟨#[48, 49, 50, 51, 52, 53, 54, 55, 56, 57]⟩
def setV : Vector Bool 256 := vset (vset (vset (vset (vset (vset (vset (vset (vset (vset (Vector.replicate 256 false) 48 true) 49 true) 50 true) 51 true) 52 true) 53 true) 54 true) 55 true) 56 true) 57 true
theorem ascii_is : strings_makeASCIISet cut = some (setV, true) := by
  unfold strings_makeASCIISet
  have step : ∀ (v : Vector Bool 256) (i : Nat), i < 10 → strings_makeASCIISet.b8 cut v (i : Int) = some (.inl (vset v (48 + i) true, ((i + 1 : Nat) : Int))) := by
    intro v i hi
    have hsz : (cut.size : Int) = 10 := rfl
    have hx : sx cut (i : Int) = ((48 + i : Nat) : Int) := by
      have : i = 0 ∨ i = 1 ∨ i = 2 ∨ i = 3 ∨ i = 4 ∨ i = 5 ∨ i = 6 ∨ i = 7 ∨ i = 8 ∨ i = 9 := by omega
      rcases this with rfl | rfl | rfl | rfl | rfl | rfl | rfl | rfl | rfl | rfl <;> rfl
    unfold strings_makeASCIISet.b8
    rw [hsz, hx, if_pos (by omega), if_pos (by omega), if_neg (by omega), if_pos (by omega), w64s (by omega) (by omega), Int.toNat_natCast]
    rfl
  have e0 : (((Vector.replicate 256 false) : Vector Bool 256), (0 : Int)) = ((Vector.replicate 256 false), ((0 : Nat) : Int)) := rfl
  rw [e0, loopO_next (step _ 0 (by omega)), loopO_next (step _ 1 (by omega)), loopO_next (step _ 2 (by omega)), loopO_next (step _ 3 (by omega)), loopO_next (step _ 4 (by omega)), loopO_next (step _ 5 (by omega)), loopO_next (step _ 6 (by omega)), loopO_next (step _ 7 (by omega)), loopO_next (step _ 8 (by omega)), loopO_next (step _ 9 (by omega)), loopO_done (r := .done setV) (by unfold strings_makeASCIISet.b8; rw [if_neg (by decide)]; rfl)]
  rfl
theorem setV_at {c : Int} (h0 : 0 ≤ c) (h1 : c ≤ 255) : vx false setV c.toNat = digit c := by
  unfold setV digit
  simp only [vx_vset (show (48 : Nat) < 256 by omega), vx_vset (show (49 : Nat) < 256 by omega), vx_vset (show (50 : Nat) < 256 by omega), vx_vset (show (51 : Nat) < 256 by omega), vx_vset (show (52 : Nat) < 256 by omega), vx_vset (show (53 : Nat) < 256 by omega), vx_vset (show (54 : Nat) < 256 by omega), vx_vset (show (55 : Nat) < 256 by omega), vx_vset (show (56 : Nat) < 256 by omega), vx_vset (show (57 : Nat) < 256 by omega)]
  have hz : vx false (Vector.replicate 256 false) c.toNat = false := by
    unfold vx
    rw [Vector.toList_replicate, List.getD_eq_getElem?_getD, List.getElem?_replicate]
    split <;> rfl
  rw [hz, Bool.eq_iff_iff, decide_eq_true_eq]
  repeat' split
  all_goals simp
  all_goals omega
end Go.Proofs.YtckefpenekolhaaDoor.L07
