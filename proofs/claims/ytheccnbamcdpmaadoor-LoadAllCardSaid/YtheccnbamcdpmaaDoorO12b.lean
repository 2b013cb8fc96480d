/- Names: what le and its reference say of them; strings as lists of bytes. No condition. -/
import Derived.Test.YtheccnbamcdpmaaDoorT12
namespace Go.Proofs.YtheccnbamcdpmaaDoor.L07
set_option linter.unusedVariables false
set_option linter.unusedSimpArgs false
open Go Go.RowKit Go.Proofs.YtheccnbamcdpmaaDoor.E Go.Proofs.YtheccnbamcdpmaaDoor.T12
abbrev By (l : List Int) : Prop := ∀ x ∈ l, 0 ≤ x ∧ x ≤ 255
abbrev Wd (l : List Int) : Prop := ∀ x ∈ l, 0 ≤ x ∧ x ≤ 4294967295
theorem w64s {x : Int} (h0 : -9000000000000000000 ≤ x) (h1 : x ≤ 9000000000000000000) : w64 x = x := w64_id (by omega) (by omega)
theorem wu8_eq (x : Int) : wu8 x = x % 256 := IntKind.wrap_u8 x
theorem ix8 (l : List Int) (i : Nat) : ix (eI .u8).d l (i : Int) = l.getD i 0 := rfl
theorem ix32 (l : List Int) (i : Nat) : ix (eI .u32).d l (i : Int) = l.getD i 0 := rfl
theorem getD_in {l : List Int} {p : Int → Prop} (h : ∀ x ∈ l, p x) {i : Nat} (hi : i < l.length) : p (l.getD i 0) := by
  rw [List.getD_eq_getElem?_getD, List.getElem?_eq_getElem hi]
  exact h _ (List.getElem_mem hi)
theorem take_one {l : List Int} {i : Nat} (hi : i < l.length) : l.take (i + 1) = l.take i ++ [l.getD i 0] := by
  rw [List.take_add_one, List.getElem?_eq_getElem hi, List.getD_eq_getElem?_getD, List.getElem?_eq_getElem hi]
  rfl
theorem drop_at {l : List Int} {i : Nat} (h : i < l.length) : l.drop i = l.getD i 0 :: l.drop (i + 1) := by
  rw [List.drop_eq_getElem_cons h, List.getD_eq_getElem?_getD, List.getElem?_eq_getElem h]
  rfl
theorem same32 {a b : List Int} (ha : a.length ≤ 1000000) : rivetref05_Same a b = some (decide (a = b)) := by
  unfold rivetref05_Same
  by_cases hl : a.length = b.length
  · rw [if_pos (by omega)]
    have key : ∀ n (i : Nat), i + n = a.length → loopO (fun σ : Int => rivetref05_Same.b9 a b σ) (i : Int) = some (if a.drop i = b.drop i then .done () else .ret false) := by
      intro n
      induction n with
      | zero =>
        intro i hn
        rw [loopO_done (r := .done ())]
        · rw [List.drop_of_length_le (by omega), List.drop_of_length_le (by omega)]; simp
        · simp only [rivetref05_Same.b9]
          rw [if_neg (by omega)]
      | succ n ih =>
        intro i hn
        have h1 : i < a.length := by omega
        have h2 : i < b.length := by omega
        by_cases he : a.getD i 0 = b.getD i 0
        · rw [loopO_next (s' := ((i + 1 : Nat) : Int)), ih (i + 1) (by omega), drop_at h1, drop_at h2, he]
          · simp only [List.cons.injEq, true_and]
          · simp only [rivetref05_Same.b9]
            rw [if_pos (by omega), if_pos (by omega), if_pos (by omega), ix32, ix32, if_pos he, w64s (by omega) (by omega)]
            rfl
        · rw [loopO_done (r := .ret false), drop_at h1, drop_at h2, if_neg (fun e => he (List.cons.inj e).1)]
          · simp only [rivetref05_Same.b9]
            rw [if_pos (by omega), if_pos (by omega), if_pos (by omega), ix32, ix32, if_neg he]
    have := key a.length 0 (by omega)
    simp only [Int.natCast_zero, List.drop_zero] at this
    rw [this]
    by_cases he : a = b
    · simp [he, rivetref05_Same.j1]
    · simp [he]
  · rw [if_neg (by omega)]
    have : a ≠ b := fun e => hl (by rw [e])
    simp [this]
theorem toL_eq (s t : ByteArray) : (s.toList == t.toList) = decide (s = t) := by
  rw [ByteArray.toList_eq, ByteArray.toList_eq, Bool.eq_iff_iff, beq_iff_eq, decide_eq_true_eq]
  constructor
  · intro h; exact ByteArray.ext (Array.toList_inj.1 h)
  · intro h; rw [h]
theorem bytesL_by (s : ByteArray) : By (bytesL s) := by
  intro x hx
  obtain ⟨b, _, rfl⟩ := List.mem_map.1 hx
  have := b.toNat_lt
  omega
theorem bytesL_nums {l : List Int} (h : By l) : bytesL (strOfNums l) = l := by
  unfold bytesL
  rw [strOfNums_data, List.map_map]
  conv => rhs; rw [← List.map_id l]
  apply List.map_congr_left
  intro x hx
  have := h x hx
  show ((UInt8.ofNat x.toNat).toNat : Int) = x
  rw [UInt8.toNat_ofNat']
  omega
theorem nums_bytesL (s : ByteArray) : strOfNums (bytesL s) = s := by
  apply ByteArray.ext
  apply Array.toList_inj.1
  rw [strOfNums_data]
  unfold bytesL
  rw [List.map_map]
  conv => rhs; rw [← List.map_id s.data.toList]
  apply List.map_congr_left
  intro x _
  simp
theorem nums_eq {a b : List Int} (ha : By a) (hb : By b) : strOfNums a = strOfNums b ↔ a = b := by
  constructor
  · intro h
    have := congrArg bytesL h
    rwa [bytesL_nums ha, bytesL_nums hb] at this
  · intro h; rw [h]
theorem bytesL_inj {s t : ByteArray} : bytesL s = bytesL t ↔ s = t := by
  constructor
  · intro h
    rw [← nums_bytesL s, ← nums_bytesL t, h]
  · intro h; rw [h]
theorem sx_at (s : ByteArray) (i : Nat) : sx s (i : Int) = (bytesL s).getD i 0 := by
  unfold sx bytesL
  rw [Int.toNat_natCast, List.getD_eq_getElem?_getD, List.getElem?_map]
  by_cases h : i < s.size
  · rw [dif_pos h, List.getElem?_eq_getElem (by rw [Array.length_toList]; exact h)]
    simp [ByteArray.getElem_eq_getElem_data]
  · rw [dif_neg h, List.getElem?_eq_none (by rw [Array.length_toList]; exact Nat.le_of_not_lt h)]
    rfl
theorem bytesL_cut (s : ByteArray) (a b : Nat) : bytesL (s.extract a b) = ((bytesL s).drop a).take (b - a) := by
  unfold bytesL
  have : (s.extract a b).data.toList = (s.data.toList.drop a).take (b - a) := by
    rw [ByteArray.data_extract, Array.toList_extract, List.extract_eq_take_drop]
  rw [this, List.map_take, List.map_drop]
/-! ### what a byte is -/
def letter (c : Int) : Bool := decide ((65 ≤ c ∧ c ≤ 90) ∨ (97 ≤ c ∧ c ≤ 122))
def digit (c : Int) : Bool := decide (48 ≤ c ∧ c ≤ 57)
def okc (c : Int) : Bool := decide (((65 ≤ c ∧ c ≤ 90) ∨ (97 ≤ c ∧ c ≤ 122)) ∨ (48 ≤ c ∧ c ≤ 57) ∨ c = 95)
theorem refletter_is (c : Int) : rivetref07_letter c = some (letter c) := by
  unfold rivetref07_letter rivetref07_letter.j1 letter
  by_cases h1 : c ≥ 65 <;> by_cases h2 : c ≤ 90 <;> by_cases h3 : c ≥ 97 <;> simp [h1, h2, h3] <;> omega
theorem refdigit_is (c : Int) : rivetref07_digit c = some (digit c) := by
  unfold rivetref07_digit rivetref07_digit.j1 digit
  by_cases h1 : c ≥ 48 <;> simp [h1] <;> omega
theorem is_is (c : Int) (b : Bool) : le_is c b = some (if b = true then letter c else okc c) := by
  unfold le_is le_is.j1 le_is.j2 le_is.j3 le_is.j4 letter okc
  by_cases h1 : c ≥ 65 <;> by_cases h2 : c ≤ 90 <;> by_cases h3 : c ≥ 97 <;> by_cases h4 : c ≤ 122 <;> by_cases h5 : c = 95 <;> by_cases h6 : c ≥ 48 <;> by_cases h7 : c ≤ 57 <;> cases b <;> simp [h1, h2, h3, h4, h5, h6, h7] <;> omega
/-! ### strings.Trim of digits -/
abbrev cut : ByteArray := ⟨#[48, 49, 50, 51, 52, 53, 54, 55, 56, 57]⟩
def setV : Vector Bool 256 := vset (vset (vset (vset (vset (vset (vset (vset (vset (vset (Vector.replicate 256 false) 48 true) 49 true) 50 true) 51 true) 52 true) 53 true) 54 true) 55 true) 56 true) 57 true
theorem ascii_is : strings_makeASCIISet cut = some (setV, true) := by
  unfold strings_makeASCIISet
  have step : ∀ (v : Vector Bool 256) (i : Nat), i < 10 → strings_makeASCIISet.b8 cut v (i : Int) = some (.inl (vset v (48 + i) true, ((i + 1 : Nat) : Int))) := by
    intro v i hi
    have hsz : (cut.size : Int) = 10 := rfl
    have hx : sx cut (i : Int) = ((48 + i : Nat) : Int) := by
      have : i = 0 ∨ i = 1 ∨ i = 2 ∨ i = 3 ∨ i = 4 ∨ i = 5 ∨ i = 6 ∨ i = 7 ∨ i = 8 ∨ i = 9 := by omega
      rcases this with rfl | rfl | rfl | rfl | rfl | rfl | rfl | rfl | rfl | rfl <;> rfl
    unfold strings_makeASCIISet.b8
    rw [hsz, hx, if_pos (by omega), if_pos (by omega), if_neg (by omega), if_pos (by omega), w64s (by omega) (by omega), Int.toNat_natCast]
    rfl
  have e0 : (((Vector.replicate 256 false) : Vector Bool 256), (0 : Int)) = ((Vector.replicate 256 false), ((0 : Nat) : Int)) := rfl
  rw [e0, loopO_next (step _ 0 (by omega)), loopO_next (step _ 1 (by omega)), loopO_next (step _ 2 (by omega)), loopO_next (step _ 3 (by omega)), loopO_next (step _ 4 (by omega)), loopO_next (step _ 5 (by omega)), loopO_next (step _ 6 (by omega)), loopO_next (step _ 7 (by omega)), loopO_next (step _ 8 (by omega)), loopO_next (step _ 9 (by omega)), loopO_done (r := .done setV) (by unfold strings_makeASCIISet.b8; rw [if_neg (by decide)]; rfl)]
  rfl
theorem setV_at {c : Int} (h0 : 0 ≤ c) (h1 : c ≤ 255) : vx false setV c.toNat = digit c := by
  unfold setV digit
  simp only [vx_vset (show (48 : Nat) < 256 by omega), vx_vset (show (49 : Nat) < 256 by omega), vx_vset (show (50 : Nat) < 256 by omega), vx_vset (show (51 : Nat) < 256 by omega), vx_vset (show (52 : Nat) < 256 by omega), vx_vset (show (53 : Nat) < 256 by omega), vx_vset (show (54 : Nat) < 256 by omega), vx_vset (show (55 : Nat) < 256 by omega), vx_vset (show (56 : Nat) < 256 by omega), vx_vset (show (57 : Nat) < 256 by omega)]
  have hz : vx false (Vector.replicate 256 false) c.toNat = false := by
    unfold vx
    rw [Vector.toList_replicate, List.getD_eq_getElem?_getD, List.getElem?_replicate]
    split <;> rfl
  rw [hz, Bool.eq_iff_iff, decide_eq_true_eq]
  repeat' split
  all_goals simp
  all_goals omega
theorem snoc_at {l : List Int} {n : Nat} (h : l.length = n + 1) : l = l.take n ++ [l.getD n 0] := by
  have := take_one (l := l) (i := n) (by omega)
  rw [List.take_of_length_le (by omega)] at this
  exact this
theorem right_is : ∀ (n : Nat) (y : ByteArray), y.size = n → n ≤ 1000 → ∃ y', loopO (fun σ : ByteArray => strings_Trim.b45 setV σ) y = some y' ∧ y'.size ≤ n ∧ ((y'.size = 0 ∧ (bytesL y).all digit = true) ∨ (0 < y'.size ∧ digit ((bytesL y').getD (y'.size - 1) 0) = false ∧ (bytesL y).all digit = false))
  | 0, y, hs, hn => by
    refine ⟨y, loopO_done (by unfold strings_Trim.b45; rw [if_neg (by omega)]), by omega, .inl ⟨hs, ?_⟩⟩
    have : bytesL y = [] := List.eq_nil_of_length_eq_zero (by rw [bytesL_length]; exact hs)
    rw [this]; rfl
  | n + 1, y, hs, hn => by
    have hb : (bytesL y).length = n + 1 := by rw [bytesL_length]; exact hs
    have hc := getD_in (bytesL_by y) (show n < (bytesL y).length by omega)
    have e1 : w64 ((y.size : Int) - 1) = (n : Int) := by rw [w64s (by omega) (by omega)]; omega
    have hall : (bytesL y).all digit = (((bytesL y).take n).all digit && digit ((bytesL y).getD n 0)) := by
      conv => lhs; rw [snoc_at hb]
      simp
    have hcut : bytesL (y.extract 0 n) = (bytesL y).take n := by rw [bytesL_cut]; simp
    by_cases hd : digit ((bytesL y).getD n 0) = true
    · obtain ⟨y', h1, hz, h2⟩ := right_is n (y.extract 0 n) (by rw [← bytesL_length, hcut, List.length_take]; omega) (by omega)
      refine ⟨y', ?_, by omega, ?_⟩
      · rw [loopO_next (s' := y.extract 0 n)]
        · exact h1
        · unfold strings_Trim.b45
          rw [e1, sx_at, if_pos (by omega), if_pos (by omega), if_pos (by omega), setV_at hc.1 hc.2, hd, if_pos rfl, if_pos (by omega)]
          rfl
      · rw [hall, hd, Bool.and_true, ← hcut]; exact h2
    · have hd : digit ((bytesL y).getD n 0) = false := by simpa using hd
      refine ⟨y, loopO_done ?_, by omega, .inr ⟨by omega, ?_, ?_⟩⟩
      · unfold strings_Trim.b45
        rw [e1, sx_at, if_pos (by omega), if_pos (by omega), if_pos (by omega), setV_at hc.1 hc.2, hd, if_neg (by simp)]
      · rw [hs]; exact hd
      · rw [hall, hd, Bool.and_false]
theorem left_is : ∀ (n : Nat) (y : ByteArray), y.size = n + 1 → n ≤ 1000 → digit ((bytesL y).getD n 0) = false → ∃ y', loopO (fun σ : ByteArray => strings_Trim.b67 setV σ) y = some y' ∧ 0 < y'.size
  | n, y, hs, hn, hl => by
    have hb : (bytesL y).length = n + 1 := by rw [bytesL_length]; exact hs
    have hc := getD_in (bytesL_by y) (show 0 < (bytesL y).length by omega)
    have hx : sx y 0 = (bytesL y).getD 0 0 := sx_at y 0
    by_cases hd : digit ((bytesL y).getD 0 0) = true
    · cases n with
      | zero => rw [hd] at hl; cases hl
      | succ m =>
        have hcut : bytesL (y.extract 1 y.size) = (bytesL y).drop 1 := by rw [bytesL_cut, List.take_of_length_le (by rw [List.length_drop]; omega)]
        obtain ⟨y', h1, h2⟩ := left_is m (y.extract 1 y.size) (by rw [← bytesL_length, hcut, List.length_drop]; omega) (by omega) (by
          rw [hcut, List.getD_eq_getElem?_getD, List.getElem?_drop]
          rw [List.getD_eq_getElem?_getD] at hl
          rw [Nat.add_comm 1 m]
          exact hl)
        refine ⟨y', ?_, h2⟩
        rw [loopO_next (s' := y.extract 1 y.size)]
        · exact h1
        · unfold strings_Trim.b67
          rw [hx, if_pos (by omega), if_pos (by omega), if_pos (by omega), setV_at hc.1 hc.2, hd, if_pos rfl, if_pos (by omega)]
          rfl
    · have hd : digit ((bytesL y).getD 0 0) = false := by simpa using hd
      refine ⟨y, loopO_done ?_, by omega⟩
      unfold strings_Trim.b67
      rw [hx, if_pos (by omega), if_pos (by omega), if_pos (by omega), setV_at hc.1 hc.2, hd, if_neg (by simp)]
theorem trim_is {y : ByteArray} (h0 : 0 < y.size) (h1 : y.size ≤ 1000) : ∃ t, strings_Trim y cut = some t ∧ (t.toList == (⟨#[]⟩ : ByteArray).toList) = (bytesL y).all digit := by
  have hemp : ∀ t : ByteArray, (t.toList == (⟨#[]⟩ : ByteArray).toList) = decide (t.size = 0) := by
    intro t
    rw [toL_eq, decide_eq_decide]
    constructor
    · intro h; rw [h]; rfl
    · intro h
      apply ByteArray.ext
      exact Array.eq_empty_of_size_eq_zero h
  unfold strings_Trim
  rw [hemp, if_neg (by rw [decide_eq_true_eq]; omega)]
  unfold strings_Trim.j1
  rw [hemp, if_neg (by decide)]
  unfold strings_Trim.j2
  rw [if_neg (by decide)]
  unfold strings_Trim.j3
  rw [if_neg (by simp)]
  unfold strings_Trim.j4
  rw [ascii_is]
  simp only [Option.bind_some, if_true]
  obtain ⟨y', r1, rz, r2⟩ := right_is y.size y rfl h1
  rw [r1]
  simp only [Option.bind_some]
  unfold strings_Trim.j5
  rcases r2 with ⟨z0, za⟩ | ⟨z0, zd, za⟩
  · rw [loopO_done (r := y') (by unfold strings_Trim.b67; rw [if_neg (by omega)])]
    refine ⟨y', rfl, ?_⟩
    rw [hemp, za, decide_eq_true z0]
  · obtain ⟨y2, l1, l2⟩ := left_is (y'.size - 1) y' (by omega) (by omega) zd
    rw [l1]
    refine ⟨y2, rfl, ?_⟩
    rw [hemp, za, decide_eq_false (by omega)]
theorem all_loop {f : Int → Option (Int ⊕ Ex Bool Unit)} {n : Nat} {p : Nat → Bool} (h1 : ∀ i, i < n → f (i : Int) = some (if p i = true then .inl ((i + 1 : Nat) : Int) else .inr (.ret false))) (h2 : f (n : Int) = some (.inr (.done ()))) :
    loopO f 0 = some (if (List.range n).all p = true then .done () else .ret false) := by
  have key : ∀ (m i : Nat), i + m = n → loopO f (i : Int) = some (if (List.range' i m).all p = true then .done () else .ret false) := by
    intro m
    induction m with
    | zero =>
      intro i h
      have : i = n := by omega
      subst this
      exact loopO_done h2
    | succ m ih =>
      intro i h
      rw [List.range'_succ, List.all_cons]
      cases hp : p i with
      | true =>
        rw [loopO_next (s' := ((i + 1 : Nat) : Int)) (by rw [h1 i (by omega), hp, if_pos rfl]), ih (i + 1) (by omega), Bool.true_and]
      | false =>
        rw [loopO_done (r := .ret false) (by rw [h1 i (by omega), hp, if_neg (by simp)]), Bool.false_and, if_neg (by simp)]
  have := key n 0 (by omega)
  rw [List.range_eq_range']
  exact this
def regS (l : List Int) : Bool := decide (l.length = 2 ∨ l.length = 3) && decide (l.getD 0 0 = 82) && (l.drop 1).all digit
def nameS (l : List Int) : Bool := decide (1 ≤ l.length ∧ l.length ≤ 12) && letter (l.getD 0 0) && l.all okc && !regS l
theorem list_all {l : List Int} (q : Int → Bool) : l.all q = (List.range l.length).all fun i => q (l.getD i 0) := by
  rw [Bool.eq_iff_iff, List.all_eq_true, List.all_eq_true]
  constructor
  · intro h i hi
    exact getD_in (p := fun x => q x = true) h (List.mem_range.1 hi)
  · intro h x hx
    obtain ⟨i, hi, rfl⟩ := List.getElem_of_mem hx
    have := h i (List.mem_range.2 hi)
    rwa [List.getD_eq_getElem?_getD, List.getElem?_eq_getElem hi] at this
theorem letter_ok {c : Int} (h : letter c = true) : okc c = true := by
  unfold letter okc at *
  rw [decide_eq_true_eq] at *
  exact .inl h
theorem reg2 {l : List Int} (h : l.length = 2) : (l.drop 1).all digit = digit (l.getD 1 0) := by
  obtain ⟨a, b, rfl⟩ : ∃ a b, l = [a, b] := by
    match l, h with
    | [a, b], _ => exact ⟨a, b, rfl⟩
  simp
theorem reg3 {l : List Int} (h : l.length = 3) : (l.drop 1).all digit = (digit (l.getD 1 0) && digit (l.getD 2 0)) := by
  obtain ⟨a, b, c, rfl⟩ : ∃ a b c, l = [a, b, c] := by
    match l, h with
    | [a, b, c], _ => exact ⟨a, b, c, rfl⟩
  simp
theorem refregister_is (s : ByteArray) : rivetref07_Register s = some (regS (bytesL s)) := by
  have hL := bytesL_length s
  unfold rivetref07_Register regS
  have x0 : sx s 0 = (bytesL s).getD 0 0 := sx_at s 0
  have x1 : sx s 1 = (bytesL s).getD 1 0 := sx_at s 1
  have x2 : sx s 2 = (bytesL s).getD 2 0 := sx_at s 2
  by_cases h2 : (s.size : Int) < 2
  · rw [if_pos h2, decide_eq_false (by omega)]; rfl
  · rw [if_neg h2]
    by_cases h3 : (s.size : Int) > 3
    · rw [if_pos h3, decide_eq_false (by omega)]; rfl
    · rw [if_neg h3, if_pos (by omega), decide_eq_true (show (bytesL s).length = 2 ∨ (bytesL s).length = 3 by omega), x0]
      unfold rivetref07_Register.j1
      by_cases hr : (bytesL s).getD 0 0 = 82
      · rw [hr, if_neg (by simp), decide_eq_true rfl]
        unfold rivetref07_Register.j2
        rw [if_pos (by omega), x1, x2, refdigit_is, refdigit_is]
        simp only [Option.bind_some, rivetref07_Register.j3]
        by_cases hz : (s.size : Int) = 2
        · rw [reg2 (by omega), if_pos hz]
          cases digit ((bytesL s).getD 1 0) <;> rfl
        · rw [reg3 (by omega), if_neg hz, if_pos (show (0 : Int) ≤ 2 ∧ (2 : Int) < (s.size : Int) by omega)]
          cases digit ((bytesL s).getD 1 0) <;> rfl
      · rw [if_pos (by rw [bne_iff_ne]; exact hr), decide_eq_false hr]
        simp
theorem refname_is {s : ByteArray} : rivetref07_Name s = some (nameS (bytesL s)) := by
  have hL := bytesL_length s
  unfold rivetref07_Name nameS
  have x0 : sx s 0 = (bytesL s).getD 0 0 := sx_at s 0
  by_cases h1 : (s.size : Int) < 1
  · rw [if_pos h1, decide_eq_false (by omega)]; rfl
  · rw [if_neg h1]
    by_cases h2 : (s.size : Int) > 12
    · rw [if_pos h2, decide_eq_false (by omega)]; rfl
    · rw [if_neg h2, if_pos (by omega), x0, refletter_is, decide_eq_true (show 1 ≤ (bytesL s).length ∧ (bytesL s).length ≤ 12 by omega)]
      simp only [Option.bind_some]
      cases hl : letter ((bytesL s).getD 0 0) with
      | false => rw [if_neg (by simp)]; simp [rivetref07_Name.j1]
      | true =>
        rw [if_pos rfl, refregister_is]
        simp only [Option.bind_some, rivetref07_Name.j1]
        cases hr : regS (bytesL s) with
        | true => simp
        | false =>
          rw [if_neg (by simp)]
          unfold rivetref07_Name.j2
          rw [all_loop (f := fun σ : Int => rivetref07_Name.b24 s σ) (n := s.size) (p := fun i => okc ((bytesL s).getD i 0))]
          · rw [list_all okc, hL]
            cases (List.range s.size).all fun i => okc ((bytesL s).getD i 0) <;> rfl
          · intro i hi
            unfold rivetref07_Name.b24
            rw [if_pos (by omega), if_pos (by omega), sx_at, refletter_is, refdigit_is]
            simp only [Option.bind_some, rivetref07_Name.j3, rivetref07_Name.j4]
            rw [w64s (by omega) (by omega)]
            generalize (bytesL s).getD i 0 = c
            have e : okc c = (letter c || digit c || decide (c = 95)) := by
              unfold okc letter digit
              rw [Bool.eq_iff_iff, Bool.or_eq_true, Bool.or_eq_true, decide_eq_true_eq, decide_eq_true_eq, decide_eq_true_eq, decide_eq_true_eq]
              omega
            rw [e]
            have hb : (c != 95) = !decide (c = 95) := by rw [Bool.eq_iff_iff, bne_iff_ne, Bool.not_eq_true', decide_eq_false_iff_not]
            rw [hb, if_pos (show (0 : Int) ≤ (i : Int) ∧ (i : Int) < (s.size : Int) by omega), if_pos (show (0 : Int) ≤ (i : Int) ∧ (i : Int) < (s.size : Int) by omega)]
            cases letter c <;> cases digit c <;> cases decide (c = 95) <;> rfl
          · unfold rivetref07_Name.b24
            rw [if_neg (by omega)]
theorem name_is {s : ByteArray} : le_Name s = some (nameS (bytesL s)) := by
  have hL := bytesL_length s
  unfold le_Name nameS
  have x0 : sx s 0 = (bytesL s).getD 0 0 := sx_at s 0
  by_cases h1 : (s.size : Int) = 0
  · rw [if_pos h1, decide_eq_false (by omega)]; rfl
  · rw [if_neg h1]
    by_cases h2 : (s.size : Int) > 12
    · rw [decide_eq_true h2, decide_eq_false (show ¬ (1 ≤ (bytesL s).length ∧ (bytesL s).length ≤ 12) by omega)]; rfl
    · rw [decide_eq_false h2, decide_eq_true (show 1 ≤ (bytesL s).length ∧ (bytesL s).length ≤ 12 by omega)]
      unfold le_Name.j1 le_Name.j2
      rw [if_neg (by simp), all_loop (f := fun σ : Int => le_Name.b11 s σ) (n := s.size) (p := fun i => if i = 0 then letter ((bytesL s).getD i 0) else okc ((bytesL s).getD i 0))]
      · have hall : ((List.range s.size).all fun i => if i = 0 then letter ((bytesL s).getD i 0) else okc ((bytesL s).getD i 0)) = (letter ((bytesL s).getD 0 0) && (bytesL s).all okc) := by
          rw [list_all okc, hL, Bool.eq_iff_iff, Bool.and_eq_true, List.all_eq_true, List.all_eq_true]
          constructor
          · intro h
            have g0 := h 0 (List.mem_range.2 (by omega))
            rw [if_pos rfl] at g0
            refine ⟨g0, fun i hi => ?_⟩
            have := h i hi
            by_cases hz : i = 0
            · subst hz; exact letter_ok g0
            · rwa [if_neg hz] at this
          · rintro ⟨g0, g⟩ i hi
            by_cases hz : i = 0
            · subst hz; rw [if_pos rfl]; exact g0
            · rw [if_neg hz]; exact g i hi
        rw [hall, Bool.true_and]
        cases hp : (letter ((bytesL s).getD 0 0) && (bytesL s).all okc) with
        | false => simp
        | true =>
          simp only [if_true, Option.bind_some, Bool.true_and]
          unfold le_Name.j3
          rw [if_pos (by omega), x0]
          unfold regS
          by_cases hr : (bytesL s).getD 0 0 = 82
          · rw [if_pos hr, decide_eq_true hr, Bool.and_true]
            have tr : 2 ≤ s.size → ∃ t, strings_Trim (s.extract (1 : Int).toNat (s.size : Int).toNat) cut = some t ∧ (t.toList == (⟨#[]⟩ : ByteArray).toList) = ((bytesL s).drop 1).all digit := by
              intro hz
              have hcut : bytesL (s.extract 1 s.size) = (bytesL s).drop 1 := by rw [bytesL_cut, List.take_of_length_le (by rw [List.length_drop]; omega)]
              have hsz : (s.extract 1 s.size).size = s.size - 1 := by rw [← bytesL_length, hcut, List.length_drop]; omega
              obtain ⟨t, t1, t2⟩ := trim_is (y := s.extract 1 s.size) (by omega) (by omega)
              exact ⟨t, t1, by rw [t2, hcut]⟩
            by_cases hz2 : (s.size : Int) = 2
            · obtain ⟨t, t1, t2⟩ := tr (by omega)
              rw [if_pos hz2, if_pos (by omega), t1, decide_eq_true (show (bytesL s).length = 2 ∨ (bytesL s).length = 3 by omega), Bool.true_and]
              simp only [Option.bind_some, le_Name.j4]
              rw [t2]
            · rw [if_neg hz2]
              by_cases hz3 : (s.size : Int) = 3
              · obtain ⟨t, t1, t2⟩ := tr (by omega)
                rw [if_pos hz3, if_pos (by omega), t1, decide_eq_true (show (bytesL s).length = 2 ∨ (bytesL s).length = 3 by omega), Bool.true_and]
                simp only [Option.bind_some, le_Name.j4]
                rw [t2]
              · rw [if_neg hz3, decide_eq_false (show ¬ ((bytesL s).length = 2 ∨ (bytesL s).length = 3) by omega)]
                rfl
          · rw [if_neg hr, decide_eq_false hr]
            simp [le_Name.j4]
      · intro i hi
        unfold le_Name.b11
        rw [if_pos (by omega), if_pos (by omega), sx_at, is_is]
        simp only [Option.bind_some]
        rw [w64s (by omega) (by omega)]
        by_cases hz : i = 0
        · subst hz
          rw [show (((0 : Nat) : Int) == 0) = true from rfl, if_pos rfl, if_pos rfl]
          cases letter ((bytesL s).getD 0 0) <;> rfl
        · have : (((i : Nat) : Int) == 0) = false := by simp [hz]
          rw [this, if_neg (show ¬ (false = true) by decide), if_neg hz]
          cases okc ((bytesL s).getD i 0) <;> rfl
      · unfold le_Name.b11
        rw [if_neg (by omega)]
end Go.Proofs.YtheccnbamcdpmaaDoor.L07
