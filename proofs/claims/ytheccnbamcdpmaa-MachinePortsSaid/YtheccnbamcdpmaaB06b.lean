/- Words and instructions: what Decode and Encode come to. No condition. -/
import Derived.Test.YtheccnbamcdpmaaB06a
namespace Go.Proofs.Ytheccnbamcdpmaa.A06
set_option linter.unusedVariables false
set_option linter.unusedSimpArgs false
open Go Go.RowKit Go.Proofs.Ytheccnbamcdpmaa.E Go.Proofs.Ytheccnbamcdpmaa.T06
noncomputable def wordN (i : Sapi_Instr) : Nat := ((isa_word i).getD 0).toNat
theorem wordN_of {i : Sapi_Instr} {n : Nat} (h : isa_word i = some (n : Int)) (hn : n < 4294967296) : isa_word i = some (wordN i : Int) ∧ wordN i < 4294967296 := by
  have : wordN i = n := by unfold wordN; rw [h]; rfl
  rw [this]
  exact ⟨h, hn⟩
theorem word_some {i : Sapi_Instr} (h : 1 ≤ i.Kind ∧ i.Kind ≤ 7) : isa_word i = some (wordN i : Int) ∧ wordN i < 4294967296 := by
  obtain ⟨K, O, A, B, C, M, U⟩ := i
  simp only at h
  have lA := fld_lt A 4; have lB := fld_lt B 4; have lC := fld_lt C 4; have lO := fld_lt O 4; have l16 := fld_lt M 16; have l20 := fld_lt M 20; have l24 := fld_lt M 24
  simp only [show (2 : Nat) ^ 24 = 16777216 by decide, show (2 : Nat) ^ 20 = 1048576 by decide, show (2 : Nat) ^ 16 = 65536 by decide, show (2 : Nat) ^ 4 = 16 by decide] at lA lB lC lO l16 l20 l24
  have hk : K = 1 ∨ K = 2 ∨ (K = 3 ∨ K = 4) ∨ K = 5 ∨ K = 6 ∨ K = 7 := by omega
  rcases hk with rfl | rfl | hk | rfl | rfl | rfl
  · have := hd_lt 0 (by omega) U false; exact wordN_of (word1 A B C O M U) (by omega)
  · have := hd_lt 1 (by omega) U (decide (M < 0)); exact wordN_of (word2 A B C O M U) (by omega)
  · have := hd_lt 0 (by omega) true (K == 4); exact wordN_of (word34 A B C O M U hk) (by omega)
  · have := hd_lt 2 (by omega) (decide (O ≥ 2)) (O.tmod 2 == 1); exact wordN_of (word5 A B C O M U) (by omega)
  · have := hd_lt 3 (by omega) false U; exact wordN_of (word6 A B C O M U) (by omega)
  · have := hd_lt 3 (by omega) true U; exact wordN_of (word7 A B C O M U) (by omega)
theorem MayP.kind {i : Sapi_Instr} (h : MayP i) : 1 ≤ i.Kind ∧ i.Kind ≤ 7 := by obtain ⟨_, _, _, h⟩ := h; omega
theorem MayP.op {i : Sapi_Instr} (h : MayP i) : 0 ≤ i.Op ∧ i.Op ≤ 15 := by obtain ⟨_, _, _, h⟩ := h; omega
/-- A word that is an instruction's is read back. -/
theorem read_word {i : Sapi_Instr} (h : MayP i) : rd (wordN i) = i := by
  obtain ⟨h1, h2⟩ := word_some h.kind
  have h3 := may_read h.kind h.op h1 (read_is h2)
  rw [may_is, decide_eq_true h] at h3
  have h4 : mayR i (rd (wordN i)) = true := (Option.some.inj h3).symm
  unfold mayR at h4
  by_cases hE : i.Kind = (rd (wordN i)).Kind ∧ i.Op = (rd (wordN i)).Op ∧ i.A = (rd (wordN i)).A ∧ i.B = (rd (wordN i)).B ∧ i.C = (rd (wordN i)).C ∧ i.Imm = (rd (wordN i)).Imm ∧ i.U = (rd (wordN i)).U
  · obtain ⟨e1, e2, e3, e4, e5, e6, e7⟩ := hE
    generalize rd (wordN i) = j at *
    cases i; cases j
    simp only at *
    subst e1 e2 e3 e4 e5 e6 e7
    rfl
  · rw [if_neg hE] at h4; cases h4
/-- What Decode tells. -/
noncomputable def decS (w : Int) : Sapi_Instr × Bool := if MayP (rd w.toNat) ∧ wordN (rd w.toNat) = w.toNat then (rd w.toNat, true) else (⟨0, 0, 0, 0, 0, 0, false⟩, false)
theorem dec_is {w : Int} (h : W w) : isa_Decode w = some (decS w) := by
  obtain ⟨n, rfl⟩ := Int.eq_ofNat_of_zero_le h.1
  have hn : n < 4294967296 := by have := h.2; omega
  unfold isa_Decode decS
  rw [read_is hn, Option.bind_some, may_is, Option.bind_some, Int.toNat_natCast]
  unfold isa_Decode.j1 isa_Decode.j2
  by_cases hm : MayP (rd n)
  · rw [decide_eq_true hm, if_pos rfl, (word_some hm.kind).1, Option.bind_some]
    by_cases he : wordN (rd n) = n
    · rw [if_neg (by rw [he]; simp), if_pos ⟨hm, he⟩]
    · rw [if_pos (by simp; omega), if_neg (fun hh => he hh.2)]
  · rw [decide_eq_false hm, if_neg (by simp), if_pos rfl, if_neg (fun hh => hm hh.1)]
theorem dec_ok {w : Int} (h : (decS w).2 = true) : MayP (decS w).1 ∧ (decS w).1 = rd w.toNat := by
  unfold decS at h ⊢
  split
  · rename_i hh; exact ⟨hh.1, rfl⟩
  · rename_i hh; rw [if_neg hh] at h; cases h
theorem dec_word {i : Sapi_Instr} (h : MayP i) : decS (wordN i : Int) = (i, true) := by
  unfold decS
  rw [Int.toNat_natCast, read_word h, if_pos ⟨h, rfl⟩]
theorem enc_is (i : Sapi_Instr) : isa_Encode i = some (if MayP i then ((wordN i : Int), 0) else (0, 1)) := by
  unfold isa_Encode
  rw [may_is, Option.bind_some]
  by_cases h : MayP i
  · rw [decide_eq_true h, if_pos rfl, if_pos h, (word_some h.kind).1]; rfl
  · rw [decide_eq_false h, if_neg (by simp), if_neg h]
theorem W_word {i : Sapi_Instr} (h : MayP i) : W (wordN i : Int) := ⟨by omega, by have := (word_some h.kind).2; omega⟩
theorem one_is (b : Bool) : rivetref03_one b = some (b2i b) := by
  unfold rivetref03_one b2i
  cases b <;> rfl
theorem W_bor' (x y : Int) : W (bor .u32 x y) := W_wrap _
/-- The reference's Encode tells a word. -/
theorem refenc_some (i : Sapi_Instr) : ∃ x e, rivetref03_Encode i = some (x, e) ∧ W x := by
  unfold rivetref03_Encode
  rw [refmay_is, Option.bind_some]
  simp only [one_is, Option.bind_some]
  by_cases h : MayP i
  · rw [decide_eq_true h, if_pos rfl]
    (repeat' split) <;> exact ⟨_, _, rfl, W_bor' _ _⟩
  · rw [decide_eq_false h, if_neg (by simp)]
    exact ⟨0, 1, rfl, by unfold W; omega⟩
end Go.Proofs.Ytheccnbamcdpmaa.A06
