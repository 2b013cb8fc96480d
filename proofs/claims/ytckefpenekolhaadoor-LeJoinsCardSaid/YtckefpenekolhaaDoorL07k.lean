/- Names that are made; a name is taken as it was put; no beginning of its bytes is one, and none with a byte behind it turned. No condition. -/
import Derived.Test.YtckefpenekolhaaDoorL07i
namespace Go.Proofs.YtckefpenekolhaaDoor.L07
set_option linter.unusedVariables false
set_option linter.unusedSimpArgs false
open Go Go.RowKit Go.Proofs.YtckefpenekolhaaDoor.E Go.Proofs.YtckefpenekolhaaDoor.T07
abbrev tab : ByteArray := ⟨#[97, 98, 99, 88, 89, 90, 95, 48, 49, 57, 82, 109]⟩
structure Made (v : ByteArray) (n : Nat) : Prop where
  lo : 1 ≤ v.size
  hi : v.size ≤ n
  ok : (bytesL v).all okc = true
  first : 97 ≤ (bytesL v).getD 0 0 ∧ (bytesL v).getD 0 0 ≤ 122
theorem bytesL_append (a b : ByteArray) : bytesL (a ++ b) = bytesL a ++ bytesL b := by
  unfold bytesL
  rw [ByteArray.data_append, Array.toList_append, List.map_append]
theorem tab_at {k : Nat} (h : k < 12) : (bytesL (tab.extract k (k + 1))).all okc = true ∧ (bytesL (tab.extract k (k + 1))).length = 1 := by
  rw [bytesL_cut, show k + 1 - k = 1 by omega]
  have : k = 0 ∨ k = 1 ∨ k = 2 ∨ k = 3 ∨ k = 4 ∨ k = 5 ∨ k = 6 ∨ k = 7 ∨ k = 8 ∨ k = 9 ∨ k = 10 ∨ k = 11 := by omega
  rcases this with rfl | rfl | rfl | rfl | rfl | rfl | rfl | rfl | rfl | rfl | rfl | rfl <;> decide +kernel
theorem fit_loop {a0 : ByteArray} (hz : a0.size ≤ 140737488351232) : ∀ (m i : Nat) (v : ByteArray), i + m = 6 → Made v (i + 1) → ∃ r, loopO (fun σ : ByteArray × Int => rivetref07_Fit.b13 a0 tab σ.1 σ.2) (v, (i : Int)) = some r ∧ Made r 7 := by
  intro m
  induction m with
  | zero =>
    intro i v h hv
    refine ⟨v, loopO_done ?_, ⟨hv.lo, by have := hv.hi; omega, hv.ok, hv.first⟩⟩
    unfold rivetref07_Fit.b13 rivetref07_Fit.j1
    rw [decide_eq_false (show ¬ (i : Int) < 6 by omega), if_neg (show ¬ (false = true) by decide)]
    split <;> rfl
  | succ m ih =>
    intro i v h hv
    by_cases hi : (i : Int) < (a0.size : Int)
    · have hx := getD_in (bytesL_by a0) (show i < (bytesL a0).length by rw [bytesL_length]; omega)
      obtain ⟨c, hc⟩ := Int.eq_ofNat_of_zero_le hx.1
      have ht := tab_at (show c % 12 < 12 by omega)
      have hsz : (tab.extract (c % 12) (c % 12 + 1)).size = 1 := by rw [← bytesL_length]; exact ht.2
      have hts : (tab.size : Int) = 12 := rfl
      obtain ⟨r, h1, h2⟩ := ih (i + 1) (v ++ tab.extract (c % 12) (c % 12 + 1)) (by omega) (by
        have hl : (bytesL (v ++ tab.extract (c % 12) (c % 12 + 1))).length = v.size + 1 := by rw [bytesL_append, List.length_append, bytesL_length, ht.2]
        refine ⟨by rw [← bytesL_length, hl]; omega, by rw [← bytesL_length, hl]; have := hv.hi; omega, ?_, ?_⟩
        · rw [bytesL_append, List.all_append, hv.ok, ht.1]; rfl
        · have hlo := hv.lo
          rw [bytesL_append, List.getD_eq_getElem?_getD, List.getElem?_append_left (by rw [bytesL_length]; omega), ← List.getD_eq_getElem?_getD]
          exact hv.first)
      refine ⟨r, ?_, h2⟩
      rw [loopO_next (s' := (v ++ tab.extract (c % 12) (c % 12 + 1), ((i + 1 : Nat) : Int)))]
      · exact h1
      · have hvi := hv.hi
        show rivetref07_Fit.b13 a0 tab v (i : Int) = _
        unfold rivetref07_Fit.b13 rivetref07_Fit.j1 rivetref07_Fit.j2
        have e1 : (w64 (sx a0 (i : Int))).tmod 12 = ((c % 12 : Nat) : Int) := by
          rw [sx_at, hc, w64s (by omega) (by omega), Int.tmod_eq_emod_of_nonneg (by omega)]
          omega
        have e2 : w64 (((c % 12 : Nat) : Int) + 1) = ((c % 12 + 1 : Nat) : Int) := by rw [w64s (by omega) (by omega)]; omega
        rw [decide_eq_true (show (i : Int) < 6 by omega), if_pos hi, if_pos (show true = true from rfl), e1, e2, hts, Int.toNat_natCast, Int.toNat_natCast, hsz, if_pos (by omega), if_pos (by omega), if_pos (by omega), if_pos (by omega), w64s (by omega) (by omega)]
        rfl
    · refine ⟨v, loopO_done ?_, ⟨hv.lo, by have := hv.hi; omega, hv.ok, hv.first⟩⟩
      unfold rivetref07_Fit.b13 rivetref07_Fit.j1
      rw [if_neg hi, if_neg (show ¬ (false = true) by decide)]
theorem made_name {v : ByteArray} (h : Made v 7) : nameS (bytesL v) = true := by
  have h1 := h.lo
  have h2 := h.hi
  have h3 := h.first
  unfold nameS
  rw [bytesL_length, decide_eq_true (show 1 ≤ v.size ∧ v.size ≤ 12 by omega), h.ok]
  have e1 : letter ((bytesL v).getD 0 0) = true := by unfold letter; rw [decide_eq_true_eq]; omega
  have e2 : regS (bytesL v) = false := by
    unfold regS
    rw [decide_eq_false (show ¬ (bytesL v).getD 0 0 = 82 by omega)]
    simp
  rw [e1, e2]
  rfl
theorem fit_is {a0 : ByteArray} (hz : a0.size ≤ 140737488351232) : ∃ v, rivetref07_Fit a0 = some v ∧ nameS (bytesL v) = true := by
  unfold rivetref07_Fit
  simp only [nm]
  obtain ⟨c, hc⟩ : ∃ c : Nat, c < 26 ∧ wu8 (97 + wu8 ((a0.size : Int).tmod 26)) = ((97 + c : Nat) : Int) := by
    refine ⟨a0.size % 26, by omega, ?_⟩
    rw [Int.tmod_eq_emod_of_nonneg (by omega), wu8_eq, wu8_eq]
    omega
  rw [hc.2]
  have hb : By [((97 + c : Nat) : Int)] := by
    intro x hx
    simp only [List.mem_cons, List.not_mem_nil, or_false] at hx
    omega
  have hL := bytesL_nums hb
  obtain ⟨r, h1, h2⟩ := fit_loop hz 6 0 (strOfNums [((97 + c : Nat) : Int)]) (by omega) (by
    have hs : (strOfNums [((97 + c : Nat) : Int)]).size = 1 := by rw [← bytesL_length, hL]; rfl
    refine ⟨by omega, by omega, ?_, ?_⟩
    · rw [hL]
      simp only [List.all_cons, List.all_nil, Bool.and_true]
      unfold okc
      rw [decide_eq_true_eq]
      omega
    · rw [hL]
      show 97 ≤ ((97 + c : Nat) : Int) ∧ ((97 + c : Nat) : Int) ≤ 122
      omega)
  have e0 : ((0 : Nat) : Int) = 0 := rfl
  rw [e0] at h1
  rw [h1]
  exact ⟨r, rfl, made_name h2⟩
/-! ### what was put -/
theorem pad_split {l r : List Int} : padS l ++ r = ((l.length : Int) :: l) ++ (List.replicate ((l.length + 4) / 4 * 4 - 1 - l.length) 0 ++ r) := by
  unfold padS
  rw [List.append_assoc]
theorem pad_first (l r : List Int) : (padS l ++ r).getD 0 0 = (l.length : Int) := by
  rw [pad_split]
  rfl
theorem pad_name (l r : List Int) : ((padS l ++ r).take (1 + l.length)).drop 1 = l := by
  rw [pad_split, List.take_append_of_le_length (by simp only [List.length_cons]; omega), List.take_of_length_le (by simp only [List.length_cons]; omega)]
  rfl
theorem takeN_put {l : List Int} (hn : nameS l = true) (r : List Int) : takeN (padS l ++ r) = (l, (((padS l).length : Nat) : Int), 0) := by
  have hl := nameS_len hn
  have hp := padS_length l
  unfold takeN
  rw [pad_first, Int.toNat_natCast, pad_name, hn, if_neg (by rw [List.length_append]; omega), if_neg (by rw [List.length_append]; omega), if_neg (by decide), if_pos, hp]
  have : (padS l ++ r).take ((l.length + 4) / 4 * 4) = padS l := by rw [← hp, List.take_left']; rfl
  rw [this]
  unfold padS
  rw [List.drop_append, List.drop_of_length_le (by simp only [List.length_cons]; omega)]
  simp only [List.length_cons, List.nil_append, List.drop_replicate]
  exact rep_zeros _
theorem takeN_short {l : List Int} {i : Nat} (hi : i < (padS l).length) : (takeN ((padS l).take i)).2.2 = 3 := by
  have hp := padS_length l
  unfold takeN
  by_cases h0 : i = 0
  · subst h0
    rw [if_pos (by rw [List.take_zero]; rfl)]
  · have hlen : ((padS l).take i).length = i := by rw [List.length_take]; omega
    have h1 : ((padS l).take i).getD 0 0 = (l.length : Int) := by
      rw [List.getD_eq_getElem?_getD, List.getElem?_take_of_lt (by omega), ← List.getD_eq_getElem?_getD]
      have := pad_first l []
      rwa [List.append_nil] at this
    rw [if_neg (by omega), h1, Int.toNat_natCast, hlen, if_pos (by omega)]
theorem takeN_odd {l : List Int} (hn : nameS l = true) {i : Nat} (h1 : 1 + l.length ≤ i) (h2 : i < (padS l).length) {v : Int} (hv : v ≠ 0) : (takeN ((padS l).set i v)).2.2 = 6 := by
  have hl := nameS_len hn
  have hp := padS_length l
  have hf : ((padS l).set i v).getD 0 0 = (l.length : Int) := by
    rw [List.getD_eq_getElem?_getD, List.getElem?_set_ne (by omega), ← List.getD_eq_getElem?_getD]
    have := pad_first l []
    rwa [List.append_nil] at this
  have hnm : (((padS l).set i v).take (1 + l.length)).drop 1 = l := by
    rw [List.take_set_of_le h1]
    have := pad_name l []
    rwa [List.append_nil] at this
  unfold takeN
  rw [hf, Int.toNat_natCast, hnm, hn, if_neg (by rw [List.length_set]; omega), if_neg (by rw [List.length_set]; omega), if_neg (by decide), if_neg]
  have ht : ((padS l).set i v).take ((l.length + 4) / 4 * 4) = (padS l).set i v := List.take_of_length_le (by rw [List.length_set]; omega)
  rw [ht]
  intro hz
  unfold zeros at hz
  rw [List.all_eq_true] at hz
  have hm : v ∈ ((padS l).set i v).drop (1 + l.length) := by
    rw [List.mem_iff_getElem?]
    refine ⟨i - (1 + l.length), ?_⟩
    rw [List.getElem?_drop, show 1 + l.length + (i - (1 + l.length)) = i by omega, List.getElem?_set_self h2]
  have := hz v hm
  rw [decide_eq_true_eq] at this
  exact hv this
end Go.Proofs.YtckefpenekolhaaDoor.L07
