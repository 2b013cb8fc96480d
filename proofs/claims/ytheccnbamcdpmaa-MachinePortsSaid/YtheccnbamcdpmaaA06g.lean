/- What all statements on alu use: the document's example, instructions made such as may be, equal registers. No condition. -/
import Derived.Test.YtheccnbamcdpmaaA06f
namespace Go.Proofs.Ytheccnbamcdpmaa.A06
set_option linter.unusedVariables false
set_option linter.unusedSimpArgs false
open Go Go.RowKit Go.Proofs.Ytheccnbamcdpmaa.E Go.Proofs.Ytheccnbamcdpmaa.T06
theorem band64 (x : Int) (n : Nat) (hn : n ≤ 62) : band .i64 x ((2 ^ n - 1 : Nat) : Int) = x % ((2 ^ n : Nat) : Int) := by
  have hp := p2pos n
  have hle : 2 ^ n ≤ 2 ^ 62 := Nat.pow_le_pow_right (by omega) hn
  have h62 : (2 : Nat) ^ 62 = 4611686018427387904 := by rfl
  unfold band
  rw [BitVec.toNat_and, BitVec.toNat_ofInt, BitVec.toNat_ofInt]
  have e64 : (((2 : Nat) ^ IntKind.i64.bits : Nat) : Int) = 18446744073709551616 := by rfl
  rw [e64]
  have e2 : (((2 ^ n - 1 : Nat) : Int) % 18446744073709551616).toNat = 2 ^ n - 1 := by
    rw [Int.emod_eq_of_lt (by omega) (by omega)]
    rfl
  rw [e2, and_low]
  have hd : ((2 ^ n : Nat) : Int) ∣ 18446744073709551616 := by
    refine ⟨((2 ^ (64 - n) : Nat) : Int), ?_⟩
    rw [← Int.natCast_mul, ← Nat.pow_add, show n + (64 - n) = 64 by omega]
    rfl
  have h1 : x % 18446744073709551616 % ((2 ^ n : Nat) : Int) = x % ((2 ^ n : Nat) : Int) := Int.emod_emod_of_dvd x hd
  have h0 : 0 ≤ x % 18446744073709551616 := Int.emod_nonneg x (by omega)
  have e3 : (((x % 18446744073709551616).toNat % 2 ^ n : Nat) : Int) = x % ((2 ^ n : Nat) : Int) := by
    rw [← h1, Int.natCast_emod, Int.toNat_of_nonneg h0]
  rw [e3]
  have b0 := Int.emod_nonneg x (show ((2 ^ n : Nat) : Int) ≠ 0 by omega)
  have b1 := Int.emod_lt_of_pos x (show (0 : Int) < ((2 ^ n : Nat) : Int) by omega)
  exact w64_id (by omega) (by omega)
theorem b15 (x : Int) : band .i64 x 15 = x % 16 := band64 x 4 (by omega)
theorem b3 (x : Int) : band .i64 x 3 = x % 4 := band64 x 2 (by omega)
theorem b16 (x : Int) : band .i64 x 65535 = x % 65536 := band64 x 16 (by omega)
theorem b17 (x : Int) : band .i64 x 131071 = x % 131072 := band64 x 17 (by omega)
theorem b20 (x : Int) : band .i64 x 1048575 = x % 1048576 := band64 x 20 (by omega)
theorem b24 (x : Int) : band .i64 x 16777215 = x % 16777216 := band64 x 24 (by omega)
theorem u8_15 {x : Int} (h0 : 0 ≤ x) (h1 : x ≤ 255) : w64 (band .u8 x 15) = x % 16 := by
  have e : band .u8 x 15 = x % 16 := by
    rw [band_nat h0 (by simp only [umax]; omega) (by omega) (by decide)]
    have := and_low x.toNat 4
    rw [show (15 : Int).toNat = 2 ^ 4 - 1 from rfl, this]
    omega
  rw [e, w64s (by omega) (by omega)]
theorem tmod_in (x : Int) {n : Int} (hn : 0 < n) (hn2 : n < 1000) : 0 ≤ (w64 (x.tmod n + n)).tmod n ∧ (w64 (x.tmod n + n)).tmod n < n := by
  have h2 := Int.tmod_lt_of_pos x hn
  have h3 := Int.lt_tmod_of_pos x hn
  rw [w64s (by omega) (by omega), Int.tmod_eq_emod_of_nonneg (by omega)]
  exact ⟨Int.emod_nonneg _ (by omega), Int.emod_lt_of_pos _ hn⟩
set_option maxHeartbeats 4000000 in
theorem fit_may (i : Sapi_Instr) : ∃ f, rivetref03_Fit i = some f ∧ MayP f := by
  obtain ⟨K, O, A, B, C, M, U⟩ := i
  have hk := tmod_in K (n := 7) (by omega) (by omega)
  have ho := tmod_in O (n := 12) (by omega) (by omega)
  unfold rivetref03_Fit rivetref03_Fit.j1 rivetref03_Fit.j2 rivetref03_Fit.j3 rivetref03_Fit.j4 rivetref03_Fit.j5
  simp only [b15, b3, b16, b17, b20, b24]
  generalize (w64 (K.tmod 7 + 7)).tmod 7 = k at *
  generalize (w64 (O.tmod 12 + 12)).tmod 12 = o at *
  rw [w64s (x := 1 + k) (by omega) (by omega), w64s (x := M % 131072 - 65536) (by omega) (by omega), w64s (x := M % 1048576 - 524288) (by omega) (by omega), w64s (x := M % 16777216 - 8388608) (by omega) (by omega)]
  have hk' : k = 0 ∨ k = 1 ∨ k = 2 ∨ k = 3 ∨ k = 4 ∨ k = 5 ∨ k = 6 := by omega
  have a1 : 0 ≤ A % 16 ∧ A % 16 ≤ 15 := by omega
  have a2 : 0 ≤ B % 16 ∧ B % 16 ≤ 15 := by omega
  have a3 : 0 ≤ C % 16 ∧ C % 16 ≤ 15 := by omega
  have a4 : 0 ≤ O % 16 ∧ O % 16 ≤ 15 := by omega
  have a5 : 0 ≤ O % 4 ∧ O % 4 ≤ 3 := by omega
  rcases hk' with rfl | rfl | rfl | rfl | rfl | rfl | rfl
  · by_cases h0 : o = 0 <;> by_cases h8 : o ≥ 8 <;> by_cases h10 : o ≤ 10 <;> cases U <;> simp [h0, h8, h10, MayP] <;> omega
  · by_cases h0 : o = 0 <;> by_cases h8 : o ≥ 8 <;> by_cases h10 : o ≤ 10 <;> cases U <;> simp [h0, h8, h10, MayP] <;> omega
  · simp [MayP]; omega
  · simp [MayP]; omega
  · simp [MayP]; omega
  · simp [MayP]; omega
  · simp [MayP]; omega
/-- Equal registers, as the walk tells them. -/
theorem regs_eq (a b : Sapi_Regs) : ((decide (a.R = b.R)) && ((a.H == b.H) && ((a.N == b.N) && ((a.Z == b.Z) && ((a.C == b.C) && ((a.V == b.V) && true)))))) = true ↔ a = b := by
  obtain ⟨R, H, n, z, c, v⟩ := a
  obtain ⟨R', H', n', z', c', v'⟩ := b
  simp [and_assoc]
theorem regs_same (a : Sapi_Regs) : ((decide (a.R = a.R)) && ((a.H == a.H) && ((a.N == a.N) && ((a.Z == a.Z) && ((a.C == a.C) && ((a.V == a.V) && true)))))) = true := (regs_eq a a).2 rfl
theorem op_keeps {s t : Sapi_Regs} {op b n x : Int} {u : Bool} (hO : 0 ≤ op ∧ op ≤ 11) (hb : W b) (hn : W n) (h : opS s op b n u = some (x, t)) :
    W x ∧ t.R = s.R ∧ t.N = s.N ∧ t.Z = s.Z ∧ (op ≠ 10 → op ≠ 11 → t.H = s.H) ∧ (op ≠ 8 → op ≠ 9 → t.C = s.C ∧ t.V = s.V) := by
  unfold opS at h
  split at h
  · cases h
    refine ⟨?_, rfl, rfl, rfl, fun _ _ => rfl, fun _ _ => ⟨rfl, rfl⟩⟩
    split
    · exact W_mod _
    · exact hn
  split at h
  · cases h; exact ⟨W_shift hb, rfl, rfl, rfl, fun _ _ => rfl, fun _ _ => ⟨rfl, rfl⟩⟩
  split at h
  · cases h; exact ⟨W_band hb hn, rfl, rfl, rfl, fun _ _ => rfl, fun _ _ => ⟨rfl, rfl⟩⟩
  split at h
  · cases h; exact ⟨W_bandn hb hn, rfl, rfl, rfl, fun _ _ => rfl, fun _ _ => ⟨rfl, rfl⟩⟩
  split at h
  · cases h; exact ⟨W_bor hb hn, rfl, rfl, rfl, fun _ _ => rfl, fun _ _ => ⟨rfl, rfl⟩⟩
  split at h
  · cases h; exact ⟨W_bxor hb hn, rfl, rfl, rfl, fun _ _ => rfl, fun _ _ => ⟨rfl, rfl⟩⟩
  split at h
  · rename_i e; cases h; exact ⟨W_mod _, rfl, rfl, rfl, fun _ _ => rfl, fun h8 _ => absurd e h8⟩
  split at h
  · rename_i e; cases h; exact ⟨W_mod _, rfl, rfl, rfl, fun _ _ => rfl, fun _ h9 => absurd e h9⟩
  split at h
  · rename_i e; cases h; exact ⟨W_mod _, rfl, rfl, rfl, fun h10 _ => absurd e h10, fun _ _ => ⟨rfl, rfl⟩⟩
  split at h
  · cases h
    refine ⟨?_, rfl, rfl, rfl, fun h10 h11 => by omega, fun _ _ => ⟨rfl, rfl⟩⟩
    unfold divS
    split
    · exact ⟨by simp, by simp⟩
    · exact W_mod _
  · cases h
theorem op_none {s : Sapi_Regs} {op b n : Int} {u : Bool} (hO : 0 ≤ op ∧ op ≤ 11) (h : opS s op b n u = none) : op = 11 := by
  unfold opS at h
  by_cases h11 : op = 11
  · exact h11
  · exfalso
    (repeat' (split at h)) <;> first | omega | cases h
theorem get_set (R : Vector Int 16) {A : Int} (h0 : 0 ≤ A) (h1 : A ≤ 15) (x : Int) : vx 0 (vset R A.toNat x) A.toNat = x := by
  rw [vx_vset (by omega), if_pos rfl]
theorem set_ok {s : Sapi_Regs} (h : OkR s) {A : Int} (h0 : 0 ≤ A) (h1 : A ≤ 15) {x : Int} (hx : W x) : OkR { s with R := vset s.R A.toNat x } := by
  refine ⟨fun j j0 j1 => ?_, h.h⟩
  show W (vx 0 (vset s.R A.toNat x) j.toNat)
  rw [vx_vset (by omega)]
  split
  · exact hx
  · exact h.r j j0 j1
end Go.Proofs.Ytheccnbamcdpmaa.A06
