/- Names, what they are put as, and what is taken: le and its reference, told by one function. No condition. -/
import Derived.Test.YtckefpenekolhaaDoorL07d
namespace Go.Proofs.YtckefpenekolhaaDoor.L07
set_option linter.unusedVariables false
set_option linter.unusedSimpArgs false
open Go Go.RowKit Go.Proofs.YtckefpenekolhaaDoor.E Go.Proofs.YtckefpenekolhaaDoor.T07
theorem all_loop {f : Int → Option (Int ⊕ Ex Bool Unit)} {n : Nat} {p : Nat → Bool} (h1 : ∀ i, i < n → f (i : Int) = some (if p i = true then .inl ((i + 1 : Nat) : Int) else .inr (.ret false))) (h2 : f (n : Int) = some (.inr (.done ()))) :
    loopO f 0 = some (if (List.range n).all p = true then .done () else .ret false) := by
  have key : ∀ (m i : Nat), i + m = n → loopO f (i : Int) = some (if (List.range' i m).all p = true then .done () else .ret false) := by
    intro m
    induction m with
    | zero =>
      intro i h
      have : i = n := by omega
      subst this
      exact loopO_done h2
    | succ m ih =>
      intro i h
      rw [List.range'_succ, List.all_cons]
      cases hp : p i with
      | true =>
        rw [loopO_next (s' := ((i + 1 : Nat) : Int)) (by rw [h1 i (by omega), hp, if_pos rfl]), ih (i + 1) (by omega), Bool.true_and]
      | false =>
        rw [loopO_done (r := .ret false) (by rw [h1 i (by omega), hp, if_neg (by simp)]), Bool.false_and, if_neg (by simp)]
  have := key n 0 (by omega)
  rw [List.range_eq_range']
  exact this
def regS (l : List Int) : Bool := decide (l.length = 2 ∨ l.length = 3) && decide (l.getD 0 0 = 82) && (l.drop 1).all digit
def nameS (l : List Int) : Bool := decide (1 ≤ l.length ∧ l.length ≤ 12) && letter (l.getD 0 0) && l.all okc && !regS l
theorem list_all {l : List Int} (q : Int → Bool) : l.all q = (List.range l.length).all fun i => q (l.getD i 0) := by
  rw [Bool.eq_iff_iff, List.all_eq_true, List.all_eq_true]
  constructor
  · intro h i hi
    exact getD_in (p := fun x => q x = true) h (List.mem_range.1 hi)
  · intro h x hx
    obtain ⟨i, hi, rfl⟩ := List.getElem_of_mem hx
    have := h i (List.mem_range.2 hi)
    rwa [List.getD_eq_getElem?_getD, List.getElem?_eq_getElem hi] at this
theorem letter_ok {c : Int} (h : letter c = true) : okc c = true := by
  unfold letter okc at *
  rw [decide_eq_true_eq] at *
  exact .inl h
theorem reg2 {l : List Int} (h : l.length = 2) : (l.drop 1).all digit = digit (l.getD 1 0) := by
  obtain ⟨a, b, rfl⟩ : ∃ a b, l = [a, b] := by
    match l, h with
    | [a, b], _ => exact ⟨a, b, rfl⟩
  simp
theorem reg3 {l : List Int} (h : l.length = 3) : (l.drop 1).all digit = (digit (l.getD 1 0) && digit (l.getD 2 0)) := by
  obtain ⟨a, b, c, rfl⟩ : ∃ a b c, l = [a, b, c] := by
    match l, h with
    | [a, b, c], _ => exact ⟨a, b, c, rfl⟩
  simp
theorem refregister_is (s : ByteArray) : rivetref07_Register s = some (regS (bytesL s)) := by
  have hL := bytesL_length s
  unfold rivetref07_Register regS
  have x0 : sx s 0 = (bytesL s).getD 0 0 := sx_at s 0
  have x1 : sx s 1 = (bytesL s).getD 1 0 := sx_at s 1
  have x2 : sx s 2 = (bytesL s).getD 2 0 := sx_at s 2
  by_cases h2 : (s.size : Int) < 2
  · rw [if_pos h2, decide_eq_false (by omega)]; rfl
  · rw [if_neg h2]
    by_cases h3 : (s.size : Int) > 3
    · rw [if_pos h3, decide_eq_false (by omega)]; rfl
    · rw [if_neg h3, if_pos (by omega), decide_eq_true (show (bytesL s).length = 2 ∨ (bytesL s).length = 3 by omega), x0]
      unfold rivetref07_Register.j1
      by_cases hr : (bytesL s).getD 0 0 = 82
      · rw [hr, if_neg (by simp), decide_eq_true rfl]
        unfold rivetref07_Register.j2
        rw [if_pos (by omega), x1, x2, refdigit_is, refdigit_is]
        simp only [Option.bind_some, rivetref07_Register.j3]
        by_cases hz : (s.size : Int) = 2
        · rw [reg2 (by omega), if_pos hz]
          cases digit ((bytesL s).getD 1 0) <;> rfl
        · rw [reg3 (by omega), if_neg hz, if_pos (show (0 : Int) ≤ 2 ∧ (2 : Int) < (s.size : Int) by omega)]
          cases digit ((bytesL s).getD 1 0) <;> rfl
      · rw [if_pos (by rw [bne_iff_ne]; exact hr), decide_eq_false hr]
        simp
theorem refname_is {s : ByteArray} : rivetref07_Name s = some (nameS (bytesL s)) := by
  have hL := bytesL_length s
  unfold rivetref07_Name nameS
  have x0 : sx s 0 = (bytesL s).getD 0 0 := sx_at s 0
  by_cases h1 : (s.size : Int) < 1
  · rw [if_pos h1, decide_eq_false (by omega)]; rfl
  · rw [if_neg h1]
    by_cases h2 : (s.size : Int) > 12
    · rw [if_pos h2, decide_eq_false (by omega)]; rfl
    · rw [if_neg h2, if_pos (by omega), x0, refletter_is, decide_eq_true (show 1 ≤ (bytesL s).length ∧ (bytesL s).length ≤ 12 by omega)]
      simp only [Option.bind_some]
      cases hl : letter ((bytesL s).getD 0 0) with
      | false => rw [if_neg (by simp)]; simp [rivetref07_Name.j1]
      | true =>
        rw [if_pos rfl, refregister_is]
        simp only [Option.bind_some, rivetref07_Name.j1]
        cases hr : regS (bytesL s) with
        | true => simp
        | false =>
          rw [if_neg (by simp)]
          unfold rivetref07_Name.j2
          rw [all_loop (f := fun σ : Int => rivetref07_Name.b24 s σ) (n := s.size) (p := fun i => okc ((bytesL s).getD i 0))]
          · rw [list_all okc, hL]
            cases (List.range s.size).all fun i => okc ((bytesL s).getD i 0) <;> rfl
          · intro i hi
            unfold rivetref07_Name.b24
            rw [if_pos (by omega), if_pos (by omega), sx_at, refletter_is, refdigit_is]
            simp only [Option.bind_some, rivetref07_Name.j3, rivetref07_Name.j4]
            rw [w64s (by omega) (by omega)]
            generalize (bytesL s).getD i 0 = c
            have e : okc c = (letter c || digit c || decide (c = 95)) := by
              unfold okc letter digit
              rw [Bool.eq_iff_iff, Bool.or_eq_true, Bool.or_eq_true, decide_eq_true_eq, decide_eq_true_eq, decide_eq_true_eq, decide_eq_true_eq]
              omega
            rw [e]
            have hb : (c != 95) = !decide (c = 95) := by rw [Bool.eq_iff_iff, bne_iff_ne, Bool.not_eq_true', decide_eq_false_iff_not]
            rw [hb, if_pos (show (0 : Int) ≤ (i : Int) ∧ (i : Int) < (s.size : Int) by omega), if_pos (show (0 : Int) ≤ (i : Int) ∧ (i : Int) < (s.size : Int) by omega)]
            cases letter c <;> cases digit c <;> cases decide (c = 95) <;> rfl
          · unfold rivetref07_Name.b24
            rw [if_neg (by omega)]
theorem name_is {s : ByteArray} : le_Name s = some (nameS (bytesL s)) := by
  have hL := bytesL_length s
  unfold le_Name nameS
  have x0 : sx s 0 = (bytesL s).getD 0 0 := sx_at s 0
  by_cases h1 : (s.size : Int) = 0
  · rw [if_pos h1, decide_eq_false (by omega)]; rfl
  · rw [if_neg h1]
    by_cases h2 : (s.size : Int) > 12
    · rw [decide_eq_true h2, decide_eq_false (show ¬ (1 ≤ (bytesL s).length ∧ (bytesL s).length ≤ 12) by omega)]; rfl
    · rw [decide_eq_false h2, decide_eq_true (show 1 ≤ (bytesL s).length ∧ (bytesL s).length ≤ 12 by omega)]
      unfold le_Name.j1 le_Name.j2
      rw [if_neg (by simp), all_loop (f := fun σ : Int => le_Name.b11 s σ) (n := s.size) (p := fun i => if i = 0 then letter ((bytesL s).getD i 0) else okc ((bytesL s).getD i 0))]
      · have hall : ((List.range s.size).all fun i => if i = 0 then letter ((bytesL s).getD i 0) else okc ((bytesL s).getD i 0)) = (letter ((bytesL s).getD 0 0) && (bytesL s).all okc) := by
          rw [list_all okc, hL, Bool.eq_iff_iff, Bool.and_eq_true, List.all_eq_true, List.all_eq_true]
          constructor
          · intro h
            have g0 := h 0 (List.mem_range.2 (by omega))
            rw [if_pos rfl] at g0
            refine ⟨g0, fun i hi => ?_⟩
            have := h i hi
            by_cases hz : i = 0
            · subst hz; exact letter_ok g0
            · rwa [if_neg hz] at this
          · rintro ⟨g0, g⟩ i hi
            by_cases hz : i = 0
            · subst hz; rw [if_pos rfl]; exact g0
            · rw [if_neg hz]; exact g i hi
        rw [hall, Bool.true_and]
        cases hp : (letter ((bytesL s).getD 0 0) && (bytesL s).all okc) with
        | false => simp
        | true =>
          simp only [if_true, Option.bind_some, Bool.true_and]
          unfold le_Name.j3
          rw [if_pos (by omega), x0]
          unfold regS
          by_cases hr : (bytesL s).getD 0 0 = 82
          · rw [if_pos hr, decide_eq_true hr, Bool.and_true]
            have tr : 2 ≤ s.size → ∃ t, strings_Trim (s.extract (1 : Int).toNat (s.size : Int).toNat) cut = some t ∧ (t.toList == (⟨#[]⟩ : ByteArray).toList) = ((bytesL s).drop 1).all digit := by
              intro hz
              have hcut : bytesL (s.extract 1 s.size) = (bytesL s).drop 1 := by rw [bytesL_cut, List.take_of_length_le (by rw [List.length_drop]; omega)]
              have hsz : (s.extract 1 s.size).size = s.size - 1 := by rw [← bytesL_length, hcut, List.length_drop]; omega
              obtain ⟨t, t1, t2⟩ := trim_is (y := s.extract 1 s.size) (by omega) (by omega)
              exact ⟨t, t1, by rw [t2, hcut]⟩
            by_cases hz2 : (s.size : Int) = 2
            · obtain ⟨t, t1, t2⟩ := tr (by omega)
              rw [if_pos hz2, if_pos (by omega), t1, decide_eq_true (show (bytesL s).length = 2 ∨ (bytesL s).length = 3 by omega), Bool.true_and]
              simp only [Option.bind_some, le_Name.j4]
              rw [t2]
            · rw [if_neg hz2]
              by_cases hz3 : (s.size : Int) = 3
              · obtain ⟨t, t1, t2⟩ := tr (by omega)
                rw [if_pos hz3, if_pos (by omega), t1, decide_eq_true (show (bytesL s).length = 2 ∨ (bytesL s).length = 3 by omega), Bool.true_and]
                simp only [Option.bind_some, le_Name.j4]
                rw [t2]
              · rw [if_neg hz3, decide_eq_false (show ¬ ((bytesL s).length = 2 ∨ (bytesL s).length = 3) by omega)]
                rfl
          · rw [if_neg hr, decide_eq_false hr]
            simp [le_Name.j4]
      · intro i hi
        unfold le_Name.b11
        rw [if_pos (by omega), if_pos (by omega), sx_at, is_is]
        simp only [Option.bind_some]
        rw [w64s (by omega) (by omega)]
        by_cases hz : i = 0
        · subst hz
          rw [show (((0 : Nat) : Int) == 0) = true from rfl, if_pos rfl, if_pos rfl]
          cases letter ((bytesL s).getD 0 0) <;> rfl
        · have : (((i : Nat) : Int) == 0) = false := by simp [hz]
          rw [this, if_neg (show ¬ (false = true) by decide), if_neg hz]
          cases okc ((bytesL s).getD i 0) <;> rfl
      · unfold le_Name.b11
        rw [if_neg (by omega)]
end Go.Proofs.YtckefpenekolhaaDoor.L07
