/- Names that are made; how strings stand to each other; what Same comes to; objects that are made. No condition. -/
import Derived.Test.YtheccnbamcdpmaaDoorO12c
namespace Go.Proofs.YtheccnbamcdpmaaDoor.O12
set_option linter.unusedVariables false
set_option linter.unusedSimpArgs false
open Go Go.RowKit Go.Proofs.YtheccnbamcdpmaaDoor.E Go.Proofs.YtheccnbamcdpmaaDoor.T12 Go.Proofs.YtheccnbamcdpmaaDoor.L07
open Go.Proofs.YtheccnbamcdpmaaDoor.C08 (rise rise_is rise_all rise_of Ris fit_is getD_set)
abbrev tab : ByteArray := ⟨#[97, 98, 99, 88, 89, 90, 95, 48, 49, 57, 82, 109]⟩
structure Made (v : ByteArray) (n : Nat) : Prop where
  lo : 1 ≤ v.size
  hi : v.size ≤ n
  ok : (bytesL v).all okc = true
  first : 97 ≤ (bytesL v).getD 0 0 ∧ (bytesL v).getD 0 0 ≤ 122
  low : ∀ x ∈ (bytesL v).drop 1, x ≤ 109
theorem bytesL_append (a b : ByteArray) : bytesL (a ++ b) = bytesL a ++ bytesL b := by
  unfold bytesL
  rw [ByteArray.data_append, Array.toList_append, List.map_append]
theorem tab_at {k : Nat} (h : k < 12) : (bytesL (tab.extract k (k + 1))).all okc = true ∧ (bytesL (tab.extract k (k + 1))).length = 1 ∧ (bytesL (tab.extract k (k + 1))).all (fun x => decide (x ≤ 109)) = true := by
  rw [bytesL_cut, show k + 1 - k = 1 by omega]
  have : k = 0 ∨ k = 1 ∨ k = 2 ∨ k = 3 ∨ k = 4 ∨ k = 5 ∨ k = 6 ∨ k = 7 ∨ k = 8 ∨ k = 9 ∨ k = 10 ∨ k = 11 := by omega
  rcases this with rfl | rfl | rfl | rfl | rfl | rfl | rfl | rfl | rfl | rfl | rfl | rfl <;> decide +kernel
theorem fit_loop {a0 : ByteArray} (hz : a0.size ≤ 140737488351232) : ∀ (m i : Nat) (v : ByteArray), i + m = 6 → Made v (i + 1) → ∃ r, loopO (fun σ : ByteArray × Int => rivetref07_Fit.b13 a0 tab σ.1 σ.2) (v, (i : Int)) = some r ∧ Made r 7 := by
  intro m
  induction m with
  | zero =>
    intro i v h hv
    refine ⟨v, loopO_done ?_, ⟨hv.lo, by have := hv.hi; omega, hv.ok, hv.first, hv.low⟩⟩
    unfold rivetref07_Fit.b13 rivetref07_Fit.j1
    rw [decide_eq_false (show ¬ (i : Int) < 6 by omega), if_neg (show ¬ (false = true) by decide)]
    split <;> rfl
  | succ m ih =>
    intro i v h hv
    by_cases hi : (i : Int) < (a0.size : Int)
    · have hx := getD_in (bytesL_by a0) (show i < (bytesL a0).length by rw [bytesL_length]; omega)
      obtain ⟨c, hc⟩ := Int.eq_ofNat_of_zero_le hx.1
      have ht := tab_at (show c % 12 < 12 by omega)
      have hsz : (tab.extract (c % 12) (c % 12 + 1)).size = 1 := by rw [← bytesL_length]; exact ht.2.1
      have hts : (tab.size : Int) = 12 := rfl
      obtain ⟨r, h1, h2⟩ := ih (i + 1) (v ++ tab.extract (c % 12) (c % 12 + 1)) (by omega) (by
        have hl : (bytesL (v ++ tab.extract (c % 12) (c % 12 + 1))).length = v.size + 1 := by rw [bytesL_append, List.length_append, bytesL_length, ht.2.1]
        refine ⟨by rw [← bytesL_length, hl]; omega, by rw [← bytesL_length, hl]; have := hv.hi; omega, ?_, ?_, ?_⟩
        · rw [bytesL_append, List.all_append, hv.ok, ht.1]; rfl
        · have hlo := hv.lo
          rw [bytesL_append, List.getD_eq_getElem?_getD, List.getElem?_append_left (by rw [bytesL_length]; omega), ← List.getD_eq_getElem?_getD]
          exact hv.first
        · have hlo := hv.lo
          intro x hx
          rw [bytesL_append, List.drop_append_of_le_length (by rw [bytesL_length]; omega)] at hx
          rcases List.mem_append.1 hx with hx | hx
          · exact hv.low x hx
          · simpa using List.all_eq_true.1 ht.2.2 x hx)
      refine ⟨r, ?_, h2⟩
      rw [loopO_next (s' := (v ++ tab.extract (c % 12) (c % 12 + 1), ((i + 1 : Nat) : Int)))]
      · exact h1
      · have hvi := hv.hi
        show rivetref07_Fit.b13 a0 tab v (i : Int) = _
        unfold rivetref07_Fit.b13 rivetref07_Fit.j1 rivetref07_Fit.j2
        have e1 : (w64 (sx a0 (i : Int))).tmod 12 = ((c % 12 : Nat) : Int) := by
          rw [sx_at, hc, w64s (by omega) (by omega), Int.tmod_eq_emod_of_nonneg (by omega)]
          omega
        have e2 : w64 (((c % 12 : Nat) : Int) + 1) = ((c % 12 + 1 : Nat) : Int) := by rw [w64s (by omega) (by omega)]; omega
        rw [decide_eq_true (show (i : Int) < 6 by omega), if_pos hi, if_pos (show true = true from rfl), e1, e2, hts, Int.toNat_natCast, Int.toNat_natCast, hsz, if_pos (by omega), if_pos (by omega), if_pos (by omega), if_pos (by omega), w64s (by omega) (by omega)]
        rfl
    · refine ⟨v, loopO_done ?_, ⟨hv.lo, by have := hv.hi; omega, hv.ok, hv.first, hv.low⟩⟩
      unfold rivetref07_Fit.b13 rivetref07_Fit.j1
      rw [if_neg hi, if_neg (show ¬ (false = true) by decide)]
theorem made_name {v : ByteArray} (h : Made v 7) : nameS (bytesL v) = true := by
  have h1 := h.lo
  have h2 := h.hi
  have h3 := h.first
  unfold nameS
  rw [bytesL_length, decide_eq_true (show 1 ≤ v.size ∧ v.size ≤ 12 by omega), h.ok]
  have e1 : letter ((bytesL v).getD 0 0) = true := by unfold letter; rw [decide_eq_true_eq]; omega
  have e2 : regS (bytesL v) = false := by
    unfold regS
    rw [decide_eq_false (show ¬ (bytesL v).getD 0 0 = 82 by omega)]
    simp
  rw [e1, e2]
  rfl
theorem fitname_is {a0 : ByteArray} (hz : a0.size ≤ 140737488351232) : ∃ v, rivetref07_Fit a0 = some v ∧ Made v 7 := by
  unfold rivetref07_Fit
  simp only [nm]
  obtain ⟨c, hc⟩ : ∃ c : Nat, c < 26 ∧ wu8 (97 + wu8 ((a0.size : Int).tmod 26)) = ((97 + c : Nat) : Int) := by
    refine ⟨a0.size % 26, by omega, ?_⟩
    rw [Int.tmod_eq_emod_of_nonneg (by omega), E.wu8_eq, E.wu8_eq]
    omega
  rw [hc.2]
  have hb : By [((97 + c : Nat) : Int)] := by
    intro x hx
    simp only [List.mem_cons, List.not_mem_nil, or_false] at hx
    omega
  have hL := bytesL_nums hb
  obtain ⟨r, h1, h2⟩ := fit_loop hz 6 0 (strOfNums [((97 + c : Nat) : Int)]) (by omega) (by
    have hs : (strOfNums [((97 + c : Nat) : Int)]).size = 1 := by rw [← bytesL_length, hL]; rfl
    refine ⟨by omega, by omega, ?_, ?_, ?_⟩
    · rw [hL]
      simp only [List.all_cons, List.all_nil, Bool.and_true]
      unfold okc
      rw [decide_eq_true_eq]
      omega
    · rw [hL]
      show 97 ≤ ((97 + c : Nat) : Int) ∧ ((97 + c : Nat) : Int) ≤ 122
      omega
    · rw [hL]; simp)
  have e0 : ((0 : Nat) : Int) = 0 := rfl
  rw [e0] at h1
  rw [h1]
  exact ⟨r, rfl, h2⟩
/-! ### order -/
theorem less_irr : ∀ l : List UInt8, Op.bytesLess l l = false
  | [] => rfl
  | a :: l => by simp [Op.bytesLess, less_irr l]
theorem less_trans : ∀ {a b c : List UInt8}, Op.bytesLess a b = true → Op.bytesLess b c = true → Op.bytesLess a c = true
  | _, _, [], _, h => by cases h' : (by assumption : List UInt8) <;> simp [Op.bytesLess] at h
  | [], _, _ :: _, _, _ => rfl
  | a :: x, [], c :: z, h, _ => by simp [Op.bytesLess] at h
  | a :: x, b :: y, c :: z, h, k => by
    simp only [Op.bytesLess, Bool.or_eq_true, decide_eq_true_eq, Bool.and_eq_true, beq_iff_eq] at h k ⊢
    rcases h with h | ⟨rfl, h⟩
    · rcases k with k | ⟨rfl, k⟩
      · exact .inl (UInt8.lt_trans h k)
      · exact .inl h
    · rcases k with k | ⟨rfl, k⟩
      · exact .inl k
      · exact .inr ⟨rfl, less_trans h k⟩
theorem less_tri : ∀ {a b : List UInt8}, Op.bytesLess a b = false → a ≠ b → Op.bytesLess b a = true
  | [], [], _, h => absurd rfl h
  | [], _ :: _, h, _ => by simp [Op.bytesLess] at h
  | _ :: _, [], _, _ => rfl
  | a :: x, b :: y, h, hne => by
    simp only [Op.bytesLess, Bool.or_eq_false_iff, decide_eq_false_iff_not, Bool.and_eq_false_iff, beq_eq_false_iff_ne] at h
    simp only [Op.bytesLess, Bool.or_eq_true, decide_eq_true_eq, Bool.and_eq_true, beq_iff_eq]
    by_cases hab : a = b
    · subst hab
      refine .inr ⟨rfl, less_tri (h.2.resolve_left (by simp)) fun e => hne (by rw [e])⟩
    · refine .inl ?_
      have h1 := h.1
      rw [UInt8.lt_iff_toNat_lt] at h1 ⊢
      have : a.toNat ≠ b.toNat := fun e => hab (UInt8.toNat_inj.1 e)
      omega
def ls (s t : ByteArray) : Prop := Op.bytesLess s.toList t.toList = true
theorem ls.trans {a b c : ByteArray} (h : ls a b) (k : ls b c) : ls a c := less_trans h k
theorem ls.irr (a : ByteArray) : ¬ ls a a := by unfold ls; rw [less_irr]; simp
theorem le2_false {s t : ByteArray} (h : ls t s) : le2 s t = false := by
  unfold le2
  rw [Bool.or_eq_false_iff]
  constructor
  · cases hc : Op.bytesLess s.toList t.toList with
    | false => rfl
    | true => exact absurd (less_trans h hc) (by rw [less_irr]; simp)
  · rw [toL_eq, decide_eq_false_iff_not]
    rintro rfl
    exact ls.irr _ h
theorem le2_true {s t : ByteArray} (h : s = t) : le2 s t = true := by
  unfold le2
  rw [Bool.or_eq_true]
  exact .inr (by rw [toL_eq]; simpa using h)
/-! ### Same -/
def symEq (a b : Sapi_Sym) : Bool := a.Name.toList == b.Name.toList && (a.At == b.At && true)
theorem rows_iff {α : Type} {l m : List α} {d : α} {p : α → α → Bool} (hp : ∀ a b, p a b = true ↔ a = b) (hl : l.length = m.length) : (List.range l.length).all (fun i => p (l.getD i d) (m.getD i d)) = true ↔ l = m := by
  rw [List.all_eq_true]
  constructor
  · intro h
    apply List.ext_getElem hl
    intro i h1 h2
    have := (hp _ _).1 (h i (by simpa using h1))
    simpa [List.getD_eq_getElem?_getD, h1, h2] using this
  · rintro rfl i _
    exact (hp _ _).2 rfl
theorem obj_eq {a b : Sapi_Obj} : a = b ↔ a.Words = b.Words ∧ a.Sites = b.Sites ∧ a.Syms = b.Syms := by cases a; cases b; simp
end Go.Proofs.YtheccnbamcdpmaaDoor.O12
