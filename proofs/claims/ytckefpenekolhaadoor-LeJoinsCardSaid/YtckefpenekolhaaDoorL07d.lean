/- Names: le and its reference, told by one function. No condition. -/
import Derived.Test.YtckefpenekolhaaDoorL07c
namespace Go.Proofs.YtckefpenekolhaaDoor.L07
set_option linter.unusedVariables false
set_option linter.unusedSimpArgs false
open Go Go.RowKit Go.Proofs.YtckefpenekolhaaDoor.E Go.Proofs.YtckefpenekolhaaDoor.T07
theorem snoc_at {l : List Int} {n : Nat} (h : l.length = n + 1) : l = l.take n ++ [l.getD n 0] := by
  have := take_one (l := l) (i := n) (by omega)
  rw [List.take_of_length_le (by omega)] at this
  exact this
theorem right_is : ∀ (n : Nat) (y : ByteArray), y.size = n → n ≤ 1000 → ∃ y', loopO (fun σ : ByteArray => strings_Trim.b45 setV σ) y = some y' ∧ y'.size ≤ n ∧ ((y'.size = 0 ∧ (bytesL y).all digit = true) ∨ (0 < y'.size ∧ digit ((bytesL y').getD (y'.size - 1) 0) = false ∧ (bytesL y).all digit = false))
  | 0, y, hs, hn => by
    refine ⟨y, loopO_done (by unfold strings_Trim.b45; rw [if_neg (by omega)]), by omega, .inl ⟨hs, ?_⟩⟩
    have : bytesL y = [] := List.eq_nil_of_length_eq_zero (by rw [bytesL_length]; exact hs)
    rw [this]; rfl
  | n + 1, y, hs, hn => by
    have hb : (bytesL y).length = n + 1 := by rw [bytesL_length]; exact hs
    have hc := getD_in (bytesL_by y) (show n < (bytesL y).length by omega)
    have e1 : w64 ((y.size : Int) - 1) = (n : Int) := by rw [w64s (by omega) (by omega)]; omega
    have hall : (bytesL y).all digit = (((bytesL y).take n).all digit && digit ((bytesL y).getD n 0)) := by
      conv => lhs; rw [snoc_at hb]
      simp
    have hcut : bytesL (y.extract 0 n) = (bytesL y).take n := by rw [bytesL_cut]; simp
    by_cases hd : digit ((bytesL y).getD n 0) = true
    · obtain ⟨y', h1, hz, h2⟩ := right_is n (y.extract 0 n) (by rw [← bytesL_length, hcut, List.length_take]; omega) (by omega)
      refine ⟨y', ?_, by omega, ?_⟩
      · rw [loopO_next (s' := y.extract 0 n)]
        · exact h1
        · unfold strings_Trim.b45
          rw [e1, sx_at, if_pos (by omega), if_pos (by omega), if_pos (by omega), setV_at hc.1 hc.2, hd, if_pos rfl, if_pos (by omega)]
          rfl
      · rw [hall, hd, Bool.and_true, ← hcut]; exact h2
    · have hd : digit ((bytesL y).getD n 0) = false := by simpa using hd
      refine ⟨y, loopO_done ?_, by omega, .inr ⟨by omega, ?_, ?_⟩⟩
      · unfold strings_Trim.b45
        rw [e1, sx_at, if_pos (by omega), if_pos (by omega), if_pos (by omega), setV_at hc.1 hc.2, hd, if_neg (by simp)]
      · rw [hs]; exact hd
      · rw [hall, hd, Bool.and_false]
theorem left_is : ∀ (n : Nat) (y : ByteArray), y.size = n + 1 → n ≤ 1000 → digit ((bytesL y).getD n 0) = false → ∃ y', loopO (fun σ : ByteArray => strings_Trim.b67 setV σ) y = some y' ∧ 0 < y'.size
  | n, y, hs, hn, hl => by
    have hb : (bytesL y).length = n + 1 := by rw [bytesL_length]; exact hs
    have hc := getD_in (bytesL_by y) (show 0 < (bytesL y).length by omega)
    have hx : sx y 0 = (bytesL y).getD 0 0 := sx_at y 0
    by_cases hd : digit ((bytesL y).getD 0 0) = true
    · cases n with
      | zero => rw [hd] at hl; cases hl
      | succ m =>
        have hcut : bytesL (y.extract 1 y.size) = (bytesL y).drop 1 := by rw [bytesL_cut, List.take_of_length_le (by rw [List.length_drop]; omega)]
        obtain ⟨y', h1, h2⟩ := left_is m (y.extract 1 y.size) (by rw [← bytesL_length, hcut, List.length_drop]; omega) (by omega) (by
          rw [hcut, List.getD_eq_getElem?_getD, List.getElem?_drop]
          rw [List.getD_eq_getElem?_getD] at hl
          rw [Nat.add_comm 1 m]
          exact hl)
        refine ⟨y', ?_, h2⟩
        rw [loopO_next (s' := y.extract 1 y.size)]
        · exact h1
        · unfold strings_Trim.b67
          rw [hx, if_pos (by omega), if_pos (by omega), if_pos (by omega), setV_at hc.1 hc.2, hd, if_pos rfl, if_pos (by omega)]
          rfl
    · have hd : digit ((bytesL y).getD 0 0) = false := by simpa using hd
      refine ⟨y, loopO_done ?_, by omega⟩
      unfold strings_Trim.b67
      rw [hx, if_pos (by omega), if_pos (by omega), if_pos (by omega), setV_at hc.1 hc.2, hd, if_neg (by simp)]
theorem trim_is {y : ByteArray} (h0 : 0 < y.size) (h1 : y.size ≤ 1000) : ∃ t, strings_Trim y cut = some t ∧ (t.toList == (⟨#[]⟩ : ByteArray).toList) = (bytesL y).all digit := by
  have hemp : ∀ t : ByteArray, (t.toList == (⟨#[]⟩ : ByteArray).toList) = decide (t.size = 0) := by
    intro t
    rw [toL_eq, decide_eq_decide]
    constructor
    · intro h; rw [h]; rfl
    · intro h
      apply ByteArray.ext
      exact Array.eq_empty_of_size_eq_zero h
  unfold strings_Trim
  rw [hemp, if_neg (by rw [decide_eq_true_eq]; omega)]
  unfold strings_Trim.j1
  rw [hemp, if_neg (by decide)]
  unfold strings_Trim.j2
  rw [if_neg (by decide)]
  unfold strings_Trim.j3
  rw [if_neg (by simp)]
  unfold strings_Trim.j4
  rw [ascii_is]
  simp only [Option.bind_some, if_true]
  obtain ⟨y', r1, rz, r2⟩ := right_is y.size y rfl h1
  rw [r1]
  simp only [Option.bind_some]
  unfold strings_Trim.j5
  rcases r2 with ⟨z0, za⟩ | ⟨z0, zd, za⟩
  · rw [loopO_done (r := y') (by unfold strings_Trim.b67; rw [if_neg (by omega)])]
    refine ⟨y', rfl, ?_⟩
    rw [hemp, za, decide_eq_true z0]
  · obtain ⟨y2, l1, l2⟩ := left_is (y'.size - 1) y' (by omega) (by omega) zd
    rw [l1]
    refine ⟨y2, rfl, ?_⟩
    rw [hemp, za, decide_eq_false (by omega)]
end Go.Proofs.YtckefpenekolhaaDoor.L07
