/- Words as bytes: what le and its reference put, told by one function. No condition. -/
import Derived.Test.YtckefpenekolhaaDoorT07
namespace Go.Proofs.YtckefpenekolhaaDoor.L07
set_option linter.unusedVariables false
set_option linter.unusedSimpArgs false
open Go Go.RowKit Go.Proofs.YtckefpenekolhaaDoor.E Go.Proofs.YtckefpenekolhaaDoor.T07
abbrev By (l : List Int) : Prop := ∀ x ∈ l, 0 ≤ x ∧ x ≤ 255
abbrev Wd (l : List Int) : Prop := ∀ x ∈ l, 0 ≤ x ∧ x ≤ 4294967295
theorem w64s {x : Int} (h0 : -9000000000000000000 ≤ x) (h1 : x ≤ 9000000000000000000) : w64 x = x := w64_id (by omega) (by omega)
theorem wu8_eq (x : Int) : wu8 x = x % 256 := IntKind.wrap_u8 x
theorem ix8 (l : List Int) (i : Nat) : ix (eI .u8).d l (i : Int) = l.getD i 0 := rfl
theorem ix32 (l : List Int) (i : Nat) : ix (eI .u32).d l (i : Int) = l.getD i 0 := rfl
theorem getD_in {l : List Int} {p : Int → Prop} (h : ∀ x ∈ l, p x) {i : Nat} (hi : i < l.length) : p (l.getD i 0) := by
  rw [List.getD_eq_getElem?_getD, List.getElem?_eq_getElem hi]
  exact h _ (List.getElem_mem hi)
theorem take_one {l : List Int} {i : Nat} (hi : i < l.length) : l.take (i + 1) = l.take i ++ [l.getD i 0] := by
  rw [List.take_add_one, List.getElem?_eq_getElem hi, List.getD_eq_getElem?_getD, List.getElem?_eq_getElem hi]
  rfl
def put4 (x : Int) : List Int := [x % 256, x / 256 % 256, x / 65536 % 256, x / 16777216 % 256]
def putS (l : List Int) : List Int := l.flatMap put4
theorem putS_length : ∀ l : List Int, (putS l).length = 4 * l.length
  | [] => rfl
  | a :: r => by
    have := putS_length r
    unfold putS at *
    rw [List.flatMap_cons, List.length_append, this]
    simp only [put4, List.length_cons, List.length_nil]
    omega
theorem putS_append (a b : List Int) : putS (a ++ b) = putS a ++ putS b := List.flatMap_append ..
theorem putS_one (x : Int) : putS [x] = put4 x := by simp [putS]
theorem put_step {l : List Int} (hl : l.length ≤ 1000000) (hw : Wd l) {i : Nat} (hi : i < l.length) : le_Put.b6 l (putS (l.take i)) (i : Int) = some (.inl (putS (l.take (i + 1)), ((i + 1 : Nat) : Int))) := by
  unfold le_Put.b6
  have hx := getD_in hw hi
  rw [ix32]
  have e8 : (2 : Int) ^ 8 = 256 := by decide
  have e16 : (2 : Int) ^ 16 = 65536 := by decide
  have e24 : (2 : Int) ^ 24 = 16777216 := by decide
  have hlen : (putS (l.take i)).length = 4 * i := by rw [putS_length, List.length_take, Nat.min_eq_left (by omega)]
  rw [if_pos (by omega), if_pos (by omega), if_pos (by rw [hlen]; simp only [List.length_cons, List.length_nil]; omega), w64s (by omega) (by omega), take_one hi, putS_append, putS_one, e8, e16, e24, wu8_eq, wu8_eq, wu8_eq, wu8_eq, Int.fdiv_eq_ediv_of_nonneg _ (by omega), Int.fdiv_eq_ediv_of_nonneg _ (by omega), Int.fdiv_eq_ediv_of_nonneg _ (by omega)]
  rfl
theorem put_loop {l : List Int} (hl : l.length ≤ 1000000) (hw : Wd l) : ∀ (n i : Nat), i + n = l.length → loopO (fun σ : List Int × Int => le_Put.b6 l σ.1 σ.2) (putS (l.take i), (i : Int)) = some (putS l)
  | 0, i, h => by
    rw [List.take_of_length_le (by omega)]
    exact loopO_done (by unfold le_Put.b6; rw [if_neg (by omega)])
  | n + 1, i, h => by
    rw [loopO_next (put_step hl hw (show i < l.length by omega))]
    exact put_loop hl hw n (i + 1) (by omega)
theorem put_is {l : List Int} (hl : l.length ≤ 1000000) (hw : Wd l) : le_Put l = some (putS l) := by
  unfold le_Put
  have := put_loop hl hw l.length 0 (by omega)
  have e : (putS (l.take 0), ((0 : Nat) : Int)) = (([] : List Int), (0 : Int)) := rfl
  rw [e] at this
  rw [this]
  rfl
theorem refput_inner {l : List Int} (hl : l.length ≤ 1000000) {i : Nat} (hi : i < l.length) {x : Int} (hx : 0 ≤ x ∧ x ≤ 4294967295) : loopO (fun σ : List Int × Int × Int => rivetref07_Put.b24 σ.1 σ.2.1 σ.2.2) (putS (l.take i), x, 0) = some (putS (l.take i) ++ put4 x) := by
  have hlen : (putS (l.take i)).length = 4 * i := by rw [putS_length, List.length_take, Nat.min_eq_left (by omega)]
  generalize putS (l.take i) = p at *
  have step : ∀ (q : List Int) (y k : Int), q.length ≤ 4 * i + 3 → 0 ≤ y ∧ y ≤ 4294967295 → 0 ≤ k → k < 4 → rivetref07_Put.b24 q y k = some (.inl (q ++ [y % 256], y / 256, k + 1)) := by
    intro q y k hq hy h0 h4
    unfold rivetref07_Put.b24
    rw [if_pos h4, if_pos (by simp only [List.length_cons, List.length_nil]; omega), wu8_eq, wu32_eq, w64s (by omega) (by omega), Int.tmod_eq_emod_of_nonneg hy.1, Int.tdiv_eq_ediv_of_nonneg hy.1, Int.emod_emod_of_dvd _ (Int.dvd_refl 256), Int.emod_eq_of_lt (a := y / 256) (by omega) (by omega)]
  rw [loopO_next (step p x 0 (by omega) hx (by omega) (by omega))]
  rw [loopO_next (step (p ++ [x % 256]) (x / 256) (0 + 1) (by simp only [List.length_append, List.length_cons, List.length_nil]; omega) (by omega) (by omega) (by omega))]
  rw [loopO_next (step (p ++ [x % 256] ++ [x / 256 % 256]) (x / 256 / 256) (0 + 1 + 1) (by simp only [List.length_append, List.length_cons, List.length_nil]; omega) (by omega) (by omega) (by omega))]
  rw [loopO_next (step (p ++ [x % 256] ++ [x / 256 % 256] ++ [x / 256 / 256 % 256]) (x / 256 / 256 / 256) (0 + 1 + 1 + 1) (by simp only [List.length_append, List.length_cons, List.length_nil]; omega) (by omega) (by omega) (by omega))]
  rw [loopO_done (r := p ++ [x % 256] ++ [x / 256 % 256] ++ [x / 256 / 256 % 256] ++ [x / 256 / 256 / 256 % 256]) (by unfold rivetref07_Put.b24; rw [if_neg (show ¬ ((0 : Int) + 1 + 1 + 1 + 1 < 4) by omega)])]
  have e1 : x / 256 / 256 = x / 65536 := by omega
  have e2 : x / 65536 / 256 = x / 16777216 := by omega
  rw [e1, e2]
  simp [put4]
theorem refput_step {l : List Int} (hl : l.length ≤ 1000000) (hw : Wd l) {i : Nat} (hi : i < l.length) : rivetref07_Put.b10 l (putS (l.take i)) (i : Int) = some (.inl (putS (l.take (i + 1)), ((i + 1 : Nat) : Int))) := by
  unfold rivetref07_Put.b10
  rw [ix32, if_pos (by omega), if_pos (by omega), refput_inner hl hi (getD_in hw hi)]
  simp only [Option.bind_some, rivetref07_Put.j1]
  rw [w64s (by omega) (by omega), take_one hi, putS_append, putS_one]
  rfl
theorem refput_loop {l : List Int} (hl : l.length ≤ 1000000) (hw : Wd l) : ∀ (n i : Nat), i + n = l.length → loopO (fun σ : List Int × Int => rivetref07_Put.b10 l σ.1 σ.2) (putS (l.take i), (i : Int)) = some (putS l)
  | 0, i, h => by
    rw [List.take_of_length_le (by omega)]
    exact loopO_done (by unfold rivetref07_Put.b10; rw [if_neg (by omega)])
  | n + 1, i, h => by
    rw [loopO_next (refput_step hl hw (show i < l.length by omega))]
    exact refput_loop hl hw n (i + 1) (by omega)
theorem refput_is {l : List Int} (hl : l.length ≤ 1000000) (hw : Wd l) : rivetref07_Put l = some (putS l) := by
  unfold rivetref07_Put
  have := refput_loop hl hw l.length 0 (by omega)
  have e : (putS (l.take 0), ((0 : Nat) : Int)) = (([] : List Int), (0 : Int)) := rfl
  rw [e] at this
  rw [this]
  rfl
theorem putS_by : ∀ l : List Int, By (putS l)
  | [], x, h => by cases h
  | a :: r, x, h => by
    have e : putS (a :: r) = put4 a ++ putS r := List.flatMap_cons ..
    rw [e, List.mem_append] at h
    rcases h with h | h
    · simp only [put4, List.mem_cons, List.not_mem_nil, or_false] at h
      rcases h with rfl | rfl | rfl | rfl <;> omega
    · exact putS_by r x h
end Go.Proofs.YtckefpenekolhaaDoor.L07
