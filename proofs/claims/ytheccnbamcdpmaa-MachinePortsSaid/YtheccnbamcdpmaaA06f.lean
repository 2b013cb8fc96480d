/- What an operation does, which conditions hold: alu and its reference, told by one function. No condition. -/
import Derived.Test.YtheccnbamcdpmaaA06e
namespace Go.Proofs.Ytheccnbamcdpmaa.A06
set_option linter.unusedVariables false
set_option linter.unusedSimpArgs false
open Go Go.RowKit Go.Proofs.Ytheccnbamcdpmaa.E Go.Proofs.Ytheccnbamcdpmaa.T06
/-- A word. -/
abbrev W (x : Int) : Prop := 0 ≤ x ∧ x ≤ 4294967295
structure OkR (s : Sapi_Regs) : Prop where
  r : ∀ j : Int, 0 ≤ j → j < 16 → W (vx 0 s.R j.toNat)
  h : W s.H
theorem okR_of {s : Sapi_Regs} (h : okSapi_Regs s) : OkR s := ⟨fun j h0 h1 => (h.1 j.toNat (by omega)).u32, h.2.u32⟩
def showS (s : Sapi_Regs) (x : Int) : Sapi_Regs := { s with N := decide (x ≥ 2147483648), Z := decide (x = 0) }
def setA (t : Sapi_Regs) (A x : Int) : Sapi_Regs := showS { t with R := vset t.R A.toNat x } x
theorem show_is (s : Sapi_Regs) {x : Int} (h : W x) : alu_Show s x = some (showS s x) := by
  unfold alu_Show showS
  have e : (x.fdiv (2 ^ 31) == 1) = decide (x ≥ 2147483648) := by
    have e31 : (2 : Int) ^ 31 = 2147483648 := by decide
    rw [e31, Int.fdiv_eq_ediv_of_nonneg _ (by omega), Bool.eq_iff_iff, beq_iff_eq, decide_eq_true_eq]
    have := h.1; have := h.2
    omega
  have e2 : (x == 0) = decide (x = 0) := by rw [Bool.eq_iff_iff, beq_iff_eq, decide_eq_true_eq]
  rw [e, e2]
def flagsS (s : Sapi_Regs) : Int := 2147483648 * b2i s.N + 1073741824 * b2i s.Z + 536870912 * b2i s.C + 268435456 * b2i s.V
theorem flags_is (s : Sapi_Regs) : alu_flags s = some (flagsS s) := by
  obtain ⟨R, H, n, z, c, v⟩ := s
  unfold alu_flags flagsS
  have key : loopO (fun σ : Int × Int => alu_flags.b9 ⟨R, H, n, z, c, v⟩ σ.1 σ.2) (0, 0) = some (2147483648 * b2i n + 1073741824 * b2i z + 536870912 * b2i c + 268435456 * b2i v) := by
    cases n <;> cases z <;> cases c <;> cases v
    all_goals
      rw [loopO_next (s' := (_, 1)) (by rfl), loopO_next (s' := (_, 2)) (by rfl), loopO_next (s' := (_, 3)) (by rfl), loopO_next (s' := (_, 4)) (by rfl), loopO_done (by rfl)]
      rfl
  rw [key]
  rfl
def condS (s : Sapi_Regs) (k : Int) : Bool :=
  if k = 0 then s.N else if k = 1 then s.Z else if k = 2 then s.C else if k = 3 then s.V else if k = 4 then s.C || s.Z else if k = 5 then s.N != s.V else if k = 6 then (s.N != s.V) || s.Z else true
def takenS (s : Sapi_Regs) (k : Int) : Bool := if k < 0 ∨ k > 15 then false else condS s (k % 8) != decide (k > 7)
theorem taken_is (s : Sapi_Regs) (k : Int) : alu_Taken s k = some (takenS s k) := by
  unfold alu_Taken takenS
  by_cases h0 : k < 0
  · rw [if_pos h0, if_pos (.inl h0)]; rfl
  · rw [if_neg h0]
    by_cases h1 : k > 15
    · rw [decide_eq_true h1, if_pos (.inr h1)]; rfl
    · rw [decide_eq_false h1, if_neg (by omega)]
      obtain ⟨R, H, n, z, c, v⟩ := s
      have hk : k = 0 ∨ k = 1 ∨ k = 2 ∨ k = 3 ∨ k = 4 ∨ k = 5 ∨ k = 6 ∨ k = 7 ∨ k = 8 ∨ k = 9 ∨ k = 10 ∨ k = 11 ∨ k = 12 ∨ k = 13 ∨ k = 14 ∨ k = 15 := by omega
      rcases hk with rfl | rfl | rfl | rfl | rfl | rfl | rfl | rfl | rfl | rfl | rfl | rfl | rfl | rfl | rfl | rfl <;> cases n <;> cases z <;> cases c <;> cases v <;> rfl
/-- An operation of b and n. -/
def opS (s : Sapi_Regs) (op b n : Int) (u : Bool) : Option (Int × Sapi_Regs) :=
  if op = 0 then some (if u = true then n * 65536 % 4294967296 else n, s)
  else if op = 1 ∨ op = 2 ∨ op = 3 then some (shiftS op b n, s)
  else if op = 4 then some (band .u32 b n, s)
  else if op = 5 then some (bandn .u32 b n, s)
  else if op = 6 then some (bor .u32 b n, s)
  else if op = 7 then some (bxor .u32 b n, s)
  else if op = 8 then some ((addS b n (u && s.C)).1, { s with C := (addS b n (u && s.C)).2.1, V := (addS b n (u && s.C)).2.2 })
  else if op = 9 then some ((subS b n (u && s.C)).1, { s with C := (subS b n (u && s.C)).2.1, V := (subS b n (u && s.C)).2.2 })
  else if op = 10 then some ((mulS b n u).1, { s with H := (mulS b n u).2 })
  else if (divS b n).2.2 = true then some ((divS b n).1, { s with H := (divS b n).2.1 }) else none
/-- The number that an operation works with. -/
def numS (s : Sapi_Regs) (i : Sapi_Instr) : Int := if i.Kind = 2 then i.Imm % 4294967296 else vx 0 s.R i.C.toNat
noncomputable def doS (s : Sapi_Regs) (i : Sapi_Instr) : Sapi_Regs × Int :=
  if ¬ MayP i ∨ i.Kind ≥ 5 then (s, 0)
  else if i.Kind = 3 then (setA s i.A s.H, 0)
  else if i.Kind = 4 then (setA s i.A (flagsS s), 0)
  else match opS s i.Op (vx 0 s.R i.B.toNat) (numS s i) i.U with
    | some (x, t) => (setA t i.A x, 0)
    | none => (s, 5)
theorem W_shift {k a n : Int} (ha : W a) : W (shiftS k a n) := by
  have h0 : 0 ≤ n % 32 := Int.emod_nonneg _ (by omega)
  have h1 : n % 32 < 32 := Int.emod_lt_of_pos _ (by omega)
  exact shiftN_in (by have := ha.2; omega) (by omega)
theorem W_nat {x : Nat} (h : x < 4294967296) : W (x : Int) := ⟨by omega, by omega⟩
theorem W_band {a b : Int} (ha : W a) (hb : W b) : W (band .u32 a b) := by
  obtain ⟨x, rfl⟩ := Int.eq_ofNat_of_zero_le ha.1
  obtain ⟨y, rfl⟩ := Int.eq_ofNat_of_zero_le hb.1
  have hx : x < 4294967296 := by have := ha.2; omega
  have hy : y < 4294967296 := by have := hb.2; omega
  rw [band_u32 hx hy]
  exact W_nat (and_lt hx)
theorem W_bandn {a b : Int} (ha : W a) (hb : W b) : W (bandn .u32 a b) := by
  obtain ⟨x, rfl⟩ := Int.eq_ofNat_of_zero_le ha.1
  obtain ⟨y, rfl⟩ := Int.eq_ofNat_of_zero_le hb.1
  have hx : x < 4294967296 := by have := ha.2; omega
  have hy : y < 4294967296 := by have := hb.2; omega
  rw [bandn_u32 hx hy]
  exact W_nat (and_lt hx)
theorem W_bor {a b : Int} (ha : W a) (hb : W b) : W (bor .u32 a b) := by
  obtain ⟨x, rfl⟩ := Int.eq_ofNat_of_zero_le ha.1
  obtain ⟨y, rfl⟩ := Int.eq_ofNat_of_zero_le hb.1
  have hx : x < 4294967296 := by have := ha.2; omega
  have hy : y < 4294967296 := by have := hb.2; omega
  rw [bor_u32 hx hy]
  exact W_nat (or_lt hx hy)
theorem W_bxor {a b : Int} (ha : W a) (hb : W b) : W (bxor .u32 a b) := by
  obtain ⟨x, rfl⟩ := Int.eq_ofNat_of_zero_le ha.1
  obtain ⟨y, rfl⟩ := Int.eq_ofNat_of_zero_le hb.1
  have hx : x < 4294967296 := by have := ha.2; omega
  have hy : y < 4294967296 := by have := hb.2; omega
  rw [bxor_u32 hx hy]
  exact W_nat (xor_lt hx hy)
theorem W_mod (x : Int) : W (x % 4294967296) := ⟨Int.emod_nonneg _ (by omega), by have := Int.emod_lt_of_pos x (show (0 : Int) < 4294967296 by omega); omega⟩
theorem W_flags (s : Sapi_Regs) : W (flagsS s) := by
  unfold flagsS
  have h : ∀ b : Bool, 0 ≤ b2i b ∧ b2i b ≤ 1 := by intro b; cases b <;> simp [b2i]
  have := h s.N; have := h s.Z; have := h s.C; have := h s.V
  exact ⟨by omega, by omega⟩
theorem j7_is {i : Sapi_Instr} (hA : 0 ≤ i.A ∧ i.A ≤ 15) (t : Sapi_Regs) {x : Int} (h : W x) : alu_Do.j7 i t x = some (setA t i.A x, 0) := by
  unfold alu_Do.j7
  rw [if_pos (by omega), show_is _ h]
  rfl
theorem W_num {s : Sapi_Regs} {i : Sapi_Instr} (h : OkR s) (hC : 0 ≤ i.C ∧ i.C ≤ 15) : W (numS s i) := by
  unfold numS
  split
  · exact W_mod _
  · exact h.r i.C hC.1 (by omega)
theorem j3_is {s : Sapi_Regs} {i : Sapi_Instr} (hs : OkR s) (hA : 0 ≤ i.A ∧ i.A ≤ 15) (hB : 0 ≤ i.B ∧ i.B ≤ 15) (hO : 0 ≤ i.Op ∧ i.Op ≤ 11) {n : Int} (hn : W n) :
    alu_Do.j3 i s n = some (match opS s i.Op (vx 0 s.R i.B.toNat) n i.U with
      | some (x, t) => (setA t i.A x, 0)
      | none => (s, 5)) := by
  have hb := hs.r i.B hB.1 (by omega)
  unfold alu_Do.j3
  rw [if_pos (by omega), if_pos (by omega)]
  generalize hbv : vx 0 s.R i.B.toNat = b at *
  have e16 : (2 : Int) ^ 16 = 65536 := by decide
  unfold opS
  by_cases h0 : i.Op = 0
  · rw [if_pos h0, if_pos h0]
    cases hu : i.U
    · rw [if_neg (by simp), alu_Do.j4, j7_is hA _ hn, if_neg (by simp)]
    · rw [if_pos rfl, alu_Do.j4, e16, wu32_eq, j7_is hA _ (W_mod _), if_pos rfl]
  rw [if_neg h0, if_neg h0]
  by_cases h1 : i.Op = 1
  · rw [if_pos h1, shift_is hb.1 hb.2 hn.1, if_pos (.inl h1), h1]
    exact j7_is hA _ (W_shift hb)
  rw [if_neg h1]
  by_cases h2 : i.Op = 2
  · rw [if_pos h2, shift_is hb.1 hb.2 hn.1, if_pos (.inr (.inl h2)), h2]
    exact j7_is hA _ (W_shift hb)
  rw [if_neg h2]
  by_cases h3 : i.Op = 3
  · rw [if_pos h3, shift_is hb.1 hb.2 hn.1, if_pos (.inr (.inr h3)), h3]
    exact j7_is hA _ (W_shift hb)
  rw [if_neg h3, if_neg (show ¬ (i.Op = 1 ∨ i.Op = 2 ∨ i.Op = 3) by omega)]
  by_cases h4 : i.Op = 4
  · rw [if_pos h4, if_pos h4]; exact j7_is hA _ (W_band hb hn)
  rw [if_neg h4, if_neg h4]
  by_cases h5 : i.Op = 5
  · rw [if_pos h5, if_pos h5]; exact j7_is hA _ (W_bandn hb hn)
  rw [if_neg h5, if_neg h5]
  by_cases h6 : i.Op = 6
  · rw [if_pos h6, if_pos h6]; exact j7_is hA _ (W_bor hb hn)
  rw [if_neg h6, if_neg h6]
  by_cases h7 : i.Op = 7
  · rw [if_pos h7, if_pos h7]; exact j7_is hA _ (W_bxor hb hn)
  rw [if_neg h7, if_neg h7]
  by_cases h8 : i.Op = 8
  · rw [if_pos h8, if_pos h8]
    cases hu : i.U
    · rw [if_neg (by simp), add_is hb.1 hb.2 hn.1 hn.2]
      exact j7_is hA _ (W_mod _)
    · rw [if_pos rfl, add_is hb.1 hb.2 hn.1 hn.2]
      exact j7_is hA _ (W_mod _)
  rw [if_neg h8, if_neg h8]
  by_cases h9 : i.Op = 9
  · rw [if_pos h9, if_pos h9]
    cases hu : i.U
    · rw [if_neg (by simp), sub_is hb.1 hb.2 hn.1 hn.2]
      exact j7_is hA _ (W_mod _)
    · rw [if_pos rfl, sub_is hb.1 hb.2 hn.1 hn.2]
      exact j7_is hA _ (W_mod _)
  rw [if_neg h9, if_neg h9]
  by_cases h10 : i.Op = 10
  · rw [if_pos h10, if_pos h10, mul_is hb.1 hb.2 hn.1 hn.2]
    exact j7_is hA _ (W_mod _)
  rw [if_neg h10, if_neg h10, if_pos (by omega), div_is hb.1 hb.2 hn.1 hn.2]
  simp only [Option.bind_some]
  by_cases hd : (divS b n).2.2 = true
  · have e : (divS b n) = ((divS b n).1, (divS b n).2.1, (divS b n).2.2) := rfl
    rw [if_pos hd]
    rw [e]
    simp only
    rw [if_pos hd]
    refine j7_is hA _ ?_
    unfold divS
    split
    · exact ⟨by simp, by simp⟩
    · exact W_mod _
  · have e : (divS b n) = ((divS b n).1, (divS b n).2.1, (divS b n).2.2) := rfl
    rw [if_neg hd]
    rw [e]
    simp only
    rw [if_neg hd]
theorem do_is {s : Sapi_Regs} {i : Sapi_Instr} (hs : OkR s) : alu_Do s i = some (doS s i) := by
  unfold alu_Do doS
  rw [may_is]
  simp only [Option.bind_some]
  by_cases hm : MayP i
  · rw [decide_eq_true hm, if_pos rfl]
    by_cases h5 : i.Kind ≥ 5
    · rw [decide_eq_true h5, if_pos (.inr h5)]
      rfl
    · rw [decide_eq_false h5, if_neg (by simp [hm, h5])]
      have hm' := hm
      unfold MayP at hm'
      obtain ⟨hA, hB, hC, hK⟩ := hm'
      simp only [alu_Do.j1, alu_Do.j2]
      rw [if_neg (by simp)]
      by_cases h3 : i.Kind = 3
      · rw [if_pos h3, if_pos h3, j7_is hA _ hs.h]
      · rw [if_neg h3, if_neg h3]
        by_cases h4 : i.Kind = 4
        · rw [if_pos h4, if_pos h4, flags_is]
          exact j7_is hA _ (W_flags s)
        · rw [if_neg h4, if_neg h4, if_pos (by omega)]
          have hO : 0 ≤ i.Op ∧ i.Op ≤ 11 := by omega
          by_cases h2 : i.Kind = 2
          · rw [if_pos h2, wu32_eq, j3_is hs hA hB hO (W_mod _)]
            unfold numS
            rw [if_pos h2]
          · rw [if_neg h2, j3_is hs hA hB hO (hs.r i.C hC.1 (by omega))]
            unfold numS
            rw [if_neg h2]
  · rw [decide_eq_false hm, if_neg (by simp), if_pos (.inl hm)]
    rfl
end Go.Proofs.Ytheccnbamcdpmaa.A06
