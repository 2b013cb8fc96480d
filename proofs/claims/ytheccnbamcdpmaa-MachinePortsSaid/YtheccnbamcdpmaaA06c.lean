/- Which instructions may be: the package isa says what the reference says. No condition. -/
import Derived.Test.YtheccnbamcdpmaaA06b
namespace Go.Proofs.Ytheccnbamcdpmaa.A06
set_option linter.unusedVariables false
set_option linter.unusedSimpArgs false
open Go Go.RowKit Go.Proofs.Ytheccnbamcdpmaa.E Go.Proofs.Ytheccnbamcdpmaa.T06
theorem digits {W h a r : Nat} (e : W = h * 268435456 + a * 16777216 + r) (hh : h < 16) (ha : a < 16) (hr : r < 16777216) :
    W < 4294967296 ∧ dg W 30 2 = ((h / 4 : Nat) : Int) ∧ dg W 29 1 = ((h / 2 % 2 : Nat) : Int) ∧ dg W 28 1 = ((h % 2 : Nat) : Int) ∧ dg W 24 4 = (a : Int) ∧ dg W 20 4 = ((r / 1048576 : Nat) : Int) ∧ dg W 16 4 = ((r / 65536 % 16 : Nat) : Int) ∧
      dg W 0 4 = ((r % 16 : Nat) : Int) ∧ dg W 0 16 = ((r % 65536 : Nat) : Int) ∧ W % 2 ^ 20 = r % 1048576 ∧ W % 2 ^ 24 = r := by
  unfold dg
  simp only [show (2 : Nat) ^ 30 = 1073741824 by decide, show (2 : Nat) ^ 29 = 536870912 by decide, show (2 : Nat) ^ 28 = 268435456 by decide, show (2 : Nat) ^ 24 = 16777216 by decide, show (2 : Nat) ^ 20 = 1048576 by decide, show (2 : Nat) ^ 16 = 65536 by decide, show (2 : Nat) ^ 4 = 16 by decide, show (2 : Nat) ^ 2 = 4 by decide, show (2 : Nat) ^ 1 = 2 by decide, show (2 : Nat) ^ 0 = 1 by decide, Nat.div_one]
  subst e
  refine ⟨?_, ?_, ?_, ?_, ?_, ?_, ?_, ?_, ?_, ?_, ?_⟩ <;> omega
theorem between_is (n lo hi : Int) : isa_between n lo hi = some (decide (lo ≤ n ∧ n ≤ hi)) := by
  unfold isa_between isa_between.j1
  by_cases h : n ≥ lo
  · rw [if_pos h]; congr 1; by_cases h2 : n ≤ hi <;> simp [h2]; omega
  · rw [if_neg h]; congr 1; simp; omega
def MayP (i : Sapi_Instr) : Prop :=
  (0 ≤ i.A ∧ i.A ≤ 15) ∧ (0 ≤ i.B ∧ i.B ≤ 15) ∧ (0 ≤ i.C ∧ i.C ≤ 15) ∧
  ((i.Kind = 1 ∧ i.Imm = 0 ∧ 0 ≤ i.Op ∧ i.Op ≤ 11 ∧ (i.Op = 0 → i.B = 0 ∧ i.U = false) ∧ (i.U = true → 8 ≤ i.Op ∧ i.Op ≤ 10)) ∨
   (i.Kind = 2 ∧ i.C = 0 ∧ 0 ≤ i.Op ∧ i.Op ≤ 11 ∧ -65536 ≤ i.Imm ∧ i.Imm ≤ 65535 ∧ (i.Op = 0 → i.B = 0 ∧ (i.U = true → 0 ≤ i.Imm)) ∧ (i.U = true → i.Op = 0 ∨ (8 ≤ i.Op ∧ i.Op ≤ 10))) ∨
   ((i.Kind = 3 ∨ i.Kind = 4) ∧ i.Op = 0 ∧ i.B = 0 ∧ i.C = 0 ∧ i.Imm = 0 ∧ i.U = false) ∨
   (i.Kind = 5 ∧ i.C = 0 ∧ i.U = false ∧ 0 ≤ i.Op ∧ i.Op ≤ 3 ∧ -524288 ≤ i.Imm ∧ i.Imm ≤ 524287) ∨
   (i.Kind = 6 ∧ i.A = 0 ∧ i.B = 0 ∧ i.Imm = 0 ∧ 0 ≤ i.Op ∧ i.Op ≤ 15) ∨
   (i.Kind = 7 ∧ i.A = 0 ∧ i.B = 0 ∧ i.C = 0 ∧ 0 ≤ i.Op ∧ i.Op ≤ 15 ∧ -8388608 ≤ i.Imm ∧ i.Imm ≤ 8388607))
noncomputable instance (i : Sapi_Instr) : Decidable (MayP i) := Classical.propDecidable _
/-- What May tells, once the word has been read back. -/
def mayR (i j : Sapi_Instr) : Bool :=
  if i.Kind = j.Kind ∧ i.Op = j.Op ∧ i.A = j.A ∧ i.B = j.B ∧ i.C = j.C ∧ i.Imm = j.Imm ∧ i.U = j.U then
    (if i.Kind = 1 ∨ i.Kind = 2 then
      (if i.Op = 0 then decide (i.B = 0 ∧ (i.Kind = 2 ∨ i.U = false) ∧ (i.U = false ∨ i.Imm ≥ 0))
      else if i.Op > 11 then false else decide (i.U = false ∨ (8 ≤ i.Op ∧ i.Op ≤ 10)))
    else true)
  else false
theorem may_read {i j : Sapi_Instr} {W : Nat} (hK : 1 ≤ i.Kind ∧ i.Kind ≤ 7) (hO : 0 ≤ i.Op ∧ i.Op ≤ 15) (hw : isa_word i = some (W : Int)) (hr : isa_read (W : Int) = some j) : isa_May i = some (mayR i j) := by
  unfold isa_May
  rw [between_is, between_is, decide_eq_true hK, decide_eq_true hO]
  simp only [Option.bind_some, if_true]
  rw [hw]
  simp only [Option.bind_some]
  rw [hr]
  simp only [Option.bind_some, isa_May.j1]
  unfold mayR
  by_cases hE : i.Kind = j.Kind ∧ i.Op = j.Op ∧ i.A = j.A ∧ i.B = j.B ∧ i.C = j.C ∧ i.Imm = j.Imm ∧ i.U = j.U
  · rw [if_neg (by obtain ⟨h1, h2, h3, h4, h5, h6, h7⟩ := hE; simp [h1, h2, h3, h4, h5, h6, h7]), if_pos hE]
    clear hE hr hw
    unfold isa_May.j2 isa_May.j3 isa_May.j4 isa_May.j5 isa_May.j6
    obtain ⟨K, O, A, B, C, M, U⟩ := i
    simp only at *
    by_cases h1 : K = 1
    · subst h1
      by_cases h2 : O = 0
      · by_cases h3 : B = 0 <;> cases U <;> simp [h2, h3]
      · by_cases h4 : O > 11
        · simp [h2, h4]
        · cases U <;> simp [h2, h4, between_is]
    · by_cases h2 : K = 2
      · subst h2
        by_cases h2 : O = 0
        · by_cases h3 : B = 0 <;> cases U <;> simp [h2, h3]
        · by_cases h4 : O > 11
          · simp [h2, h4]
          · cases U <;> simp [h2, h4, between_is]
      · simp [h1, h2]
  · rw [if_pos ?_, if_neg hE]
    simp only [Bool.not_eq_true', Bool.and_eq_false_imp, beq_iff_eq, beq_eq_false_iff_ne, Bool.and_true, ne_eq]
    intro h1 h2 h3 h4 h5 h6 h7
    exact hE ⟨h1, h2, h3, h4, h5, h6, h7⟩
theorem may_is (i : Sapi_Instr) : isa_May i = some (decide (MayP i)) := by
  by_cases hK : 1 ≤ i.Kind ∧ i.Kind ≤ 7
  · by_cases hO : 0 ≤ i.Op ∧ i.Op ≤ 15
    · obtain ⟨K, O, A, B, C, M, U⟩ := i
      simp only at hK hO
      have fA := fld_int A 4; have fB := fld_int B 4; have fC := fld_int C 4; have fO := fld_int O 4; have f16 := fld_int M 16; have f20 := fld_int M 20; have f24 := fld_int M 24
      have lA := fld_lt A 4; have lB := fld_lt B 4; have lC := fld_lt C 4; have lO := fld_lt O 4; have l16 := fld_lt M 16; have l20 := fld_lt M 20; have l24 := fld_lt M 24
      simp only [show (2 : Nat) ^ 24 = 16777216 by decide, show (2 : Nat) ^ 20 = 1048576 by decide, show (2 : Nat) ^ 16 = 65536 by decide, show (2 : Nat) ^ 4 = 16 by decide] at fA fB fC fO f16 f20 f24 lA lB lC lO l16 l20 l24
      have hk : K = 1 ∨ K = 2 ∨ (K = 3 ∨ K = 4) ∨ K = 5 ∨ K = 6 ∨ K = 7 := by omega
      rcases hk with rfl | rfl | hk | rfl | rfl | rfl
      · have hw := word1 A B C O M U
        obtain ⟨w0, d30, d29, d28, d24, d20, d16, d4, d0, -, -⟩ := digits (W := (4 * 0 + 2 * b2n U + b2n false) * 268435456 + fld A 4 * 16777216 + fld B 4 * 1048576 + fld O 4 * 65536 + fld C 4) (h := 4 * 0 + 2 * b2n U + b2n false) (a := fld A 4) (r := fld B 4 * 1048576 + fld O 4 * 65536 + fld C 4) (by omega) (hd_lt 0 (by omega) _ _) lA (by omega)
        have e20 : (fld B 4 * 1048576 + fld O 4 * 65536 + fld C 4) / 1048576 = fld B 4 := by omega
        have e16 : (fld B 4 * 1048576 + fld O 4 * 65536 + fld C 4) / 65536 % 16 = fld O 4 := by omega
        have e4 : (fld B 4 * 1048576 + fld O 4 * 65536 + fld C 4) % 16 = fld C 4 := by omega
        rw [e20] at d20
        rw [e16] at d16
        rw [e4] at d4
        rw [may_read hK hO hw (read_is w0)]
        congr 1
        unfold rd
        rw [d30, d29, d28, d24, d20, d16, d4]
        clear hw w0 d30 d29 d28 d24 d20 d16 d4 d0 e20 e16 e4 f16 f20 f24 l16 l20 l24
        generalize fld A 4 = a at *
        generalize fld B 4 = b at *
        generalize fld C 4 = c at *
        generalize fld O 4 = o at *
        cases U
        · rw [if_pos (by simp [b2n]), if_neg (by simp [b2n]), Bool.eq_iff_iff]
          unfold mayR MayP
          simp only [b2n]
          by_cases h0 : O = 0
          · simp [h0]; omega
          · by_cases h11 : O > 11
            · simp [h0, h11]; try omega
            · simp [h0, h11]; omega
        · by_cases hz : o = 0
          · rw [if_pos (by simp [b2n]), if_pos (by simp [b2n, hz]), Bool.eq_iff_iff]
            unfold mayR MayP
            simp
            omega
          · rw [if_pos (by simp [b2n]), if_neg (by simp [b2n]; omega), Bool.eq_iff_iff]
            unfold mayR MayP
            simp only [b2n]
            by_cases h0 : O = 0
            · simp [h0]; try omega
            · by_cases h11 : O > 11
              · simp [h0, h11]; try omega
              · simp [h0, h11]; omega
      · have hw := word2 A B C O M U
        obtain ⟨w0, d30, d29, d28, d24, d20, d16, d4, d0, -, -⟩ := digits (W := (4 * 1 + 2 * b2n U + b2n (decide (M < 0))) * 268435456 + fld A 4 * 16777216 + fld B 4 * 1048576 + fld O 4 * 65536 + fld M 16) (h := 4 * 1 + 2 * b2n U + b2n (decide (M < 0))) (a := fld A 4) (r := fld B 4 * 1048576 + fld O 4 * 65536 + fld M 16) (by omega) (hd_lt 1 (by omega) _ _) lA (by omega)
        have e20 : (fld B 4 * 1048576 + fld O 4 * 65536 + fld M 16) / 1048576 = fld B 4 := by omega
        have e16 : (fld B 4 * 1048576 + fld O 4 * 65536 + fld M 16) / 65536 % 16 = fld O 4 := by omega
        have e0 : (fld B 4 * 1048576 + fld O 4 * 65536 + fld M 16) % 65536 = fld M 16 := by omega
        rw [e20] at d20
        rw [e16] at d16
        rw [e0] at d0
        rw [may_read hK hO hw (read_is w0)]
        congr 1
        unfold rd
        rw [d30, d29, d28, d24, d20, d16, d0]
        clear hw w0 d30 d29 d28 d24 d20 d16 d4 d0 e20 e16 e0 f20 f24 l20 l24
        generalize fld A 4 = a at *
        generalize fld B 4 = b at *
        generalize fld C 4 = c at *
        generalize fld O 4 = o at *
        generalize fld M 16 = m at *
        by_cases hM : M < 0 <;> cases U
        all_goals
          rw [if_neg (by simp [b2n, hM]), if_pos (by simp [b2n, hM]), Bool.eq_iff_iff]
          unfold mayR MayP
          simp only [b2n, hM]
          by_cases h0 : O = 0
          · simp [h0]; try omega
          · by_cases h11 : O > 11
            · simp [h0, h11]; try omega
            · simp [h0, h11]; try omega
      · have hw := word34 A B C O M U hk
        obtain ⟨w0, d30, d29, d28, d24, d20, d16, d4, d0, -, -⟩ := digits (W := (4 * 0 + 2 * b2n true + b2n (K == 4)) * 268435456 + fld A 4 * 16777216) (h := 4 * 0 + 2 * b2n true + b2n (K == 4)) (a := fld A 4) (r := 0) (by omega) (hd_lt 0 (by omega) _ _) lA (by omega)
        rw [may_read hK hO hw (read_is w0)]
        congr 1
        unfold rd
        rw [d30, d29, d28, d24, d20, d16, d4]
        clear hw w0 d30 d29 d28 d24 d20 d16 d4 d0 f20 f24 f16 l20 l24 l16
        generalize fld A 4 = a at *
        rcases hk with rfl | rfl
        all_goals
          rw [if_pos (by simp [b2n]), if_pos (by simp [b2n]), Bool.eq_iff_iff]
          unfold mayR MayP
          simp only [b2n]
          cases U <;> simp <;> omega
      · have e20 : (fld B 4 * 1048576 + fld M 20) / 1048576 = fld B 4 := by omega
        have e0 : (fld B 4 * 1048576 + fld M 20) % 1048576 = fld M 20 := by omega
        have hw := word5 A B C O M U
        obtain ⟨w0, d30, d29, d28, d24, d20, d16, d4, d0, q20, -⟩ := digits (W := (4 * 2 + 2 * b2n (decide (O ≥ 2)) + b2n (O.tmod 2 == 1)) * 268435456 + fld A 4 * 16777216 + fld B 4 * 1048576 + fld M 20) (h := 4 * 2 + 2 * b2n (decide (O ≥ 2)) + b2n (O.tmod 2 == 1)) (a := fld A 4) (r := fld B 4 * 1048576 + fld M 20) (by omega) (hd_lt 2 (by omega) _ _) lA (by omega)
        rw [e20] at d20
        rw [e0] at q20
        rw [may_read hK hO hw (read_is w0)]
        congr 1
        unfold rd sg
        rw [q20, d30, d29, d28, d24, d20, show (2 : Nat) ^ 20 = 1048576 from rfl, show (2 : Nat) ^ (20 - 1) = 524288 from rfl]
        have ht : O.tmod 2 = O % 2 := Int.tmod_eq_emod_of_nonneg hO.1
        rw [ht]
        clear hw w0 d30 d29 d28 d24 d20 d16 d4 d0 e20 e0 q20 f24 f16 l24 l16 ht
        generalize fld A 4 = a at *
        generalize fld B 4 = b at *
        generalize fld M 20 = m at *
        by_cases hO2 : O ≥ 2 <;> by_cases hO1 : O % 2 = 1
        all_goals
          have x1 : b2n (decide (O ≥ 2)) = if O ≥ 2 then 1 else 0 := by simp [b2n]
          have x2 : b2n (O % 2 == 1) = if O % 2 = 1 then 1 else 0 := by simp [b2n]
          rw [x1, x2]
          clear x1 x2
          simp only [hO2, hO1, if_true, if_false]
          rw [if_neg (by decide), if_neg (by decide), if_pos (by decide), Bool.eq_iff_iff]
          unfold mayR MayP
          by_cases hm : m ≥ 524288 <;> cases U <;> simp [hm] <;> omega
      · have hw := word6 A B C O M U
        obtain ⟨w0, d30, d29, d28, d24, d20, d16, d4, d0, -, -⟩ := digits (W := (4 * 3 + 2 * b2n false + b2n U) * 268435456 + fld O 4 * 16777216 + fld C 4) (h := 4 * 3 + 2 * b2n false + b2n U) (a := fld O 4) (r := fld C 4) (by omega) (hd_lt 3 (by omega) _ _) lO (by omega)
        rw [may_read hK hO hw (read_is w0)]
        congr 1
        unfold rd
        rw [d30, d29, d28, d24, d20, d4]
        clear hw w0 d30 d29 d28 d24 d20 d16 d4 d0 f20 f24 f16 l20 l24 l16
        generalize fld O 4 = o at *
        generalize fld C 4 = c at *
        cases U
        all_goals
          rw [if_neg (by simp [b2n]), if_neg (by simp [b2n]), if_neg (by simp [b2n]), if_neg (by simp [b2n]), Bool.eq_iff_iff]
          unfold mayR MayP
          simp [b2n]
          omega
      · have hw := word7 A B C O M U
        obtain ⟨w0, d30, d29, d28, d24, d20, d16, d4, d0, -, q24⟩ := digits (W := (4 * 3 + 2 * b2n true + b2n U) * 268435456 + fld O 4 * 16777216 + fld M 24) (h := 4 * 3 + 2 * b2n true + b2n U) (a := fld O 4) (r := fld M 24) (by omega) (hd_lt 3 (by omega) _ _) lO (by omega)
        rw [may_read hK hO hw (read_is w0)]
        congr 1
        unfold rd sg
        rw [q24, d30, d29, d28, d24, show (2 : Nat) ^ 24 = 16777216 from rfl, show (2 : Nat) ^ (24 - 1) = 8388608 from rfl]
        clear hw w0 d30 d29 d28 d24 d20 d16 d4 d0 q24 f20 f16 l20 l16
        generalize fld O 4 = o at *
        generalize fld M 24 = m at *
        cases U
        all_goals
          rw [if_neg (by simp [b2n]), if_neg (by simp [b2n]), if_neg (by simp [b2n]), if_pos (by simp [b2n]), Bool.eq_iff_iff]
          unfold mayR MayP
          by_cases hm : m ≥ 8388608
          · simp [b2n, hm]; omega
          · simp [b2n, hm]; omega
    · unfold isa_May
      rw [between_is, between_is, decide_eq_true hK, decide_eq_false hO]
      simp only [Option.bind_some, if_true, Bool.false_eq_true, if_false, isa_May.j1]
      congr 1
      symm
      rw [decide_eq_false_iff_not]
      unfold MayP
      omega
  · unfold isa_May
    rw [between_is, decide_eq_false hK]
    simp only [Option.bind_some, if_true, Bool.false_eq_true, if_false, isa_May.j1]
    congr 1
    symm
    rw [decide_eq_false_iff_not]
    unfold MayP
    omega
end Go.Proofs.Ytheccnbamcdpmaa.A06
