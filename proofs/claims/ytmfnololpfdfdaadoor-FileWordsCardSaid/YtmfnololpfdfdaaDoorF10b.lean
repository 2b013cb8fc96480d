/- What was put is taken. No condition. -/
import Derived.Test.YtmfnololpfdfdaaDoorF10a
namespace Go.Proofs.YtmfnololpfdfdaaDoor.L07
set_option linter.unusedVariables false
set_option linter.unusedSimpArgs false
open Go Go.RowKit Go.Proofs.YtmfnololpfdfdaaDoor.E Go.Proofs.YtmfnololpfdfdaaDoor.T09
theorem wd_in {b : List Int} (hb : By b) {i : Nat} (hi : 4 * i + 4 ≤ b.length) : 0 ≤ wd b i ∧ wd b i ≤ 4294967295 := by
  have h0 := getD_in hb (show 4 * i < b.length by omega)
  have h1 := getD_in hb (show 4 * i + 1 < b.length by omega)
  have h2 := getD_in hb (show 4 * i + 2 < b.length by omega)
  have h3 := getD_in hb (show 4 * i + 3 < b.length by omega)
  unfold wd
  omega
theorem wds_wd {b : List Int} (hb : By b) {n : Nat} (hn : 4 * n ≤ b.length) : Wd (wds b n) := by
  intro x hx
  obtain ⟨i, hi, rfl⟩ := List.mem_map.1 hx
  have := List.mem_range.1 hi
  exact wd_in hb (by omega)
theorem put4_wd {b : List Int} (hb : By b) {i : Nat} (hi : 4 * i + 4 ≤ b.length) : put4 (wd b i) = [b.getD (4 * i) 0, b.getD (4 * i + 1) 0, b.getD (4 * i + 2) 0, b.getD (4 * i + 3) 0] := by
  have h0 := getD_in hb (show 4 * i < b.length by omega)
  have h1 := getD_in hb (show 4 * i + 1 < b.length by omega)
  have h2 := getD_in hb (show 4 * i + 2 < b.length by omega)
  have h3 := getD_in hb (show 4 * i + 3 < b.length by omega)
  unfold put4 wd
  generalize b.getD (4 * i) 0 = a at *
  generalize b.getD (4 * i + 1) 0 = c at *
  generalize b.getD (4 * i + 2) 0 = d at *
  generalize b.getD (4 * i + 3) 0 = e at *
  have e1 : (a + 256 * c + 65536 * d + 16777216 * e) % 256 = a := by omega
  have e2 : (a + 256 * c + 65536 * d + 16777216 * e) / 256 % 256 = c := by omega
  have e3 : (a + 256 * c + 65536 * d + 16777216 * e) / 65536 % 256 = d := by omega
  have e4 : (a + 256 * c + 65536 * d + 16777216 * e) / 16777216 % 256 = e := by omega
  rw [e1, e2, e3, e4]
theorem put_wds {b : List Int} (hb : By b) : ∀ n : Nat, 4 * n ≤ b.length → putS (wds b n) = b.take (4 * n)
  | 0, _ => rfl
  | n + 1, h => by
    rw [wds_succ, putS_append, putS_one, put_wds hb n (by omega), put4_wd hb (by omega)]
    rw [show 4 * (n + 1) = 4 * n + 1 + 1 + 1 + 1 by omega, take_one (i := 4 * n + 1 + 1 + 1) (by omega), take_one (i := 4 * n + 1 + 1) (by omega), take_one (i := 4 * n + 1) (by omega), take_one (i := 4 * n) (by omega)]
    simp
theorem wds_put : ∀ (l r : List Int), Wd l → wds (putS l ++ r) l.length = l := by
  intro l r hw
  apply List.ext_getElem
  · rw [wds_length]
  · intro i h1 h2
    have hx := hw _ (List.getElem_mem h2)
    have hsplit : putS l ++ r = putS (l.take i) ++ (put4 l[i] ++ (putS (l.drop (i + 1)) ++ r)) := by
      have : l = l.take i ++ (l[i] :: l.drop (i + 1)) := by rw [← List.drop_eq_getElem_cons h2, List.take_append_drop]
      conv => lhs; rw [this]
      rw [putS_append, show l[i] :: l.drop (i + 1) = [l[i]] ++ l.drop (i + 1) from rfl, putS_append, putS_one]
      simp only [List.append_assoc]
    have hpl : (putS (l.take i)).length = 4 * i := by rw [putS_length, List.length_take]; omega
    have hg : ∀ j, j < 4 → (putS l ++ r).getD (4 * i + j) 0 = (put4 l[i]).getD j 0 := by
      intro j hj
      rw [hsplit, List.getD_eq_getElem?_getD, List.getElem?_append_right (by omega), hpl, show 4 * i + j - 4 * i = j by omega, List.getElem?_append_left (by simp only [put4, List.length_cons, List.length_nil]; omega), List.getD_eq_getElem?_getD]
    have g0 : (putS l ++ r).getD (4 * i) 0 = l[i] % 256 := hg 0 (by omega)
    have g1 : (putS l ++ r).getD (4 * i + 1) 0 = l[i] / 256 % 256 := hg 1 (by omega)
    have g2 : (putS l ++ r).getD (4 * i + 2) 0 = l[i] / 65536 % 256 := hg 2 (by omega)
    have g3 : (putS l ++ r).getD (4 * i + 3) 0 = l[i] / 16777216 % 256 := hg 3 (by omega)
    have hw' : ∀ (b : List Int) (n j : Nat) (hj : j < (wds b n).length), (wds b n)[j]'hj = wd b j := by
      intro b n j hj
      simp [wds]
    rw [hw']
    unfold wd
    rw [g0, g1, g2, g3]
    omega
theorem zeros_rep : ∀ {l : List Int}, zeros l = true → l = List.replicate l.length 0
  | [], _ => rfl
  | a :: r, h => by
    unfold zeros at h
    rw [List.all_cons, Bool.and_eq_true, decide_eq_true_eq] at h
    have := zeros_rep (l := r) h.2
    rw [List.length_cons, List.replicate_succ, ← this, h.1]
theorem rep_zeros (n : Nat) : zeros (List.replicate n 0) = true := by
  unfold zeros
  rw [List.all_eq_true]
  intro x hx
  rw [(List.mem_replicate.1 hx).2]
  rfl
theorem taken_ok {b : List Int} (hb : By b) (h : (takeN b).2.2 = 0) : nameS (takeN b).1 = true ∧ By (takeN b).1 ∧ (∃ k : Nat, (takeN b).2.1 = (k : Int) ∧ 4 ≤ k ∧ k ≤ b.length ∧ padS (takeN b).1 = b.take k) := by
  unfold takeN at h ⊢
  split at h
  · cases h
  rename_i h0
  split at h
  · cases h
  rename_i h1
  split at h
  · cases h
  rename_i h2
  split at h
  · rename_i h3
    rw [if_neg h0, if_neg h1, if_neg h2, if_pos h3]
    have hx := getD_in hb (show 0 < b.length by omega)
    have hn2 : nameS ((b.take (1 + (b.getD 0 0).toNat)).drop 1) = true := by simpa using h2
    obtain ⟨n, hn⟩ := Int.eq_ofNat_of_zero_le hx.1
    have hnn : (b.getD 0 0).toNat = n := by rw [hn]; rfl
    rw [hnn] at h1 h3 hn2
    rw [hnn]
    refine ⟨hn2, drop_by (take_by hb _) _, (n + 4) / 4 * 4, rfl, by omega, by omega, ?_⟩
    have hlen : ((b.take (1 + n)).drop 1).length = n := by rw [List.length_drop, List.length_take]; omega
    unfold padS
    rw [hlen]
    have e1 : b.take (1 + n) = (n : Int) :: (b.take (1 + n)).drop 1 := by
      have : 0 < (b.take (1 + n)).length := by rw [List.length_take]; omega
      have h5 := drop_at this
      rw [List.drop_zero] at h5
      rw [List.getD_eq_getElem?_getD, List.getElem?_take_of_lt (by omega), ← List.getD_eq_getElem?_getD, hn] at h5
      exact h5
    have e2 : b.take ((n + 4) / 4 * 4) = b.take (1 + n) ++ (b.take ((n + 4) / 4 * 4)).drop (1 + n) := by
      conv => lhs; rw [← List.take_append_drop (1 + n) (b.take ((n + 4) / 4 * 4))]
      rw [List.take_take, Nat.min_eq_left (by omega)]
    have e3 := zeros_rep h3
    have e4 : ((b.take ((n + 4) / 4 * 4)).drop (1 + n)).length = (n + 4) / 4 * 4 - 1 - n := by rw [List.length_drop, List.length_take]; omega
    rw [e4] at e3
    rw [e2, e3, ← e1]
  · cases h
theorem taken_no {b : List Int} (h : (takeN b).2.2 ≠ 0) : (takeN b).1 = [] ∧ (takeN b).2.1 = 0 ∧ ((takeN b).2.2 = 3 ∨ (takeN b).2.2 = 9 ∨ (takeN b).2.2 = 6) := by
  unfold takeN at h ⊢
  split
  · exact ⟨rfl, rfl, .inl rfl⟩
  split
  · exact ⟨rfl, rfl, .inl rfl⟩
  split
  · exact ⟨rfl, rfl, .inr (.inl rfl)⟩
  split
  · rename_i h0 h1 h2 h3
    rw [if_neg h0, if_neg h1, if_neg h2, if_pos h3] at h
    exact absurd rfl h
  · exact ⟨rfl, rfl, .inr (.inr rfl)⟩
/-! ### what was put -/
theorem pad_split {l r : List Int} : padS l ++ r = ((l.length : Int) :: l) ++ (List.replicate ((l.length + 4) / 4 * 4 - 1 - l.length) 0 ++ r) := by
  unfold padS
  rw [List.append_assoc]
theorem pad_first (l r : List Int) : (padS l ++ r).getD 0 0 = (l.length : Int) := by
  rw [pad_split]
  rfl
theorem pad_name (l r : List Int) : ((padS l ++ r).take (1 + l.length)).drop 1 = l := by
  rw [pad_split, List.take_append_of_le_length (by simp only [List.length_cons]; omega), List.take_of_length_le (by simp only [List.length_cons]; omega)]
  rfl
theorem takeN_put {l : List Int} (hn : nameS l = true) (r : List Int) : takeN (padS l ++ r) = (l, (((padS l).length : Nat) : Int), 0) := by
  have hl := nameS_len hn
  have hp := padS_length l
  unfold takeN
  rw [pad_first, Int.toNat_natCast, pad_name, hn, if_neg (by rw [List.length_append]; omega), if_neg (by rw [List.length_append]; omega), if_neg (by decide), if_pos, hp]
  have : (padS l ++ r).take ((l.length + 4) / 4 * 4) = padS l := by rw [← hp, List.take_left']; rfl
  rw [this]
  unfold padS
  rw [List.drop_append, List.drop_of_length_le (by simp only [List.length_cons]; omega)]
  simp only [List.length_cons, List.nil_append, List.drop_replicate]
  exact rep_zeros _
theorem takeN_short {l : List Int} {i : Nat} (hi : i < (padS l).length) : (takeN ((padS l).take i)).2.2 = 3 := by
  have hp := padS_length l
  unfold takeN
  by_cases h0 : i = 0
  · subst h0
    rw [if_pos (by rw [List.take_zero]; rfl)]
  · have hlen : ((padS l).take i).length = i := by rw [List.length_take]; omega
    have h1 : ((padS l).take i).getD 0 0 = (l.length : Int) := by
      rw [List.getD_eq_getElem?_getD, List.getElem?_take_of_lt (by omega), ← List.getD_eq_getElem?_getD]
      have := pad_first l []
      rwa [List.append_nil] at this
    rw [if_neg (by omega), h1, Int.toNat_natCast, hlen, if_pos (by omega)]
theorem takeN_odd {l : List Int} (hn : nameS l = true) {i : Nat} (h1 : 1 + l.length ≤ i) (h2 : i < (padS l).length) {v : Int} (hv : v ≠ 0) : (takeN ((padS l).set i v)).2.2 = 6 := by
  have hl := nameS_len hn
  have hp := padS_length l
  have hf : ((padS l).set i v).getD 0 0 = (l.length : Int) := by
    rw [List.getD_eq_getElem?_getD, List.getElem?_set_ne (by omega), ← List.getD_eq_getElem?_getD]
    have := pad_first l []
    rwa [List.append_nil] at this
  have hnm : (((padS l).set i v).take (1 + l.length)).drop 1 = l := by
    rw [List.take_set_of_le h1]
    have := pad_name l []
    rwa [List.append_nil] at this
  unfold takeN
  rw [hf, Int.toNat_natCast, hnm, hn, if_neg (by rw [List.length_set]; omega), if_neg (by rw [List.length_set]; omega), if_neg (by decide), if_neg]
  have ht : ((padS l).set i v).take ((l.length + 4) / 4 * 4) = (padS l).set i v := List.take_of_length_le (by rw [List.length_set]; omega)
  rw [ht]
  intro hz
  unfold zeros at hz
  rw [List.all_eq_true] at hz
  have hm : v ∈ ((padS l).set i v).drop (1 + l.length) := by
    rw [List.mem_iff_getElem?]
    refine ⟨i - (1 + l.length), ?_⟩
    rw [List.getElem?_drop, show 1 + l.length + (i - (1 + l.length)) = i by omega, List.getElem?_set_self h2]
  have := hz v hm
  rw [decide_eq_true_eq] at this
  exact hv this
end Go.Proofs.YtmfnololpfdfdaaDoor.L07
