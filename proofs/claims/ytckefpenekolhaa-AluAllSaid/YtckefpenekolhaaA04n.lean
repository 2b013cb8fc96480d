/- The reference's operation is told by the same function; the plain law of the statement AluAll. No condition. -/
import Derived.Test.YtckefpenekolhaaA04i
import Derived.Test.YtckefpenekolhaaT04zAluAll
namespace Go.Proofs.Ytckefpenekolhaa.T04
set_option linter.unusedVariables false
set_option linter.unusedSimpArgs false
open Go Go.RowKit Go.Proofs.Ytckefpenekolhaa.E Go.Proofs.Ytckefpenekolhaa.A04
theorem or_xor {x y : Nat} (hx : x < 4294967296) (hy : y < 4294967296) : (((x ||| y : Nat) : Int) - ((x &&& y : Nat) : Int)) % 4294967296 = ((x ^^^ y : Nat) : Int) := by
  have ha : x &&& y < 4294967296 := and_lt hx
  have hb : x ^^^ y < 4294967296 := xor_lt hx hy
  have h := BitVec.add_eq_or_of_and_eq_zero (BitVec.ofNat 32 (x &&& y)) (BitVec.ofNat 32 (x ^^^ y)) (by
    apply BitVec.eq_of_toNat_eq
    rw [BitVec.toNat_and, BitVec.toNat_ofNat, BitVec.toNat_ofNat, Nat.mod_eq_of_lt ha, Nat.mod_eq_of_lt hb]
    show _ = 0
    apply Nat.eq_of_testBit_eq
    intro i
    rw [Nat.testBit_and, Nat.testBit_and, Nat.testBit_xor, Nat.zero_testBit]
    cases x.testBit i <;> cases y.testBit i <;> rfl)
  have h2 := congrArg BitVec.toNat h
  rw [BitVec.toNat_add, BitVec.toNat_or, BitVec.toNat_ofNat, BitVec.toNat_ofNat, Nat.mod_eq_of_lt ha, Nat.mod_eq_of_lt hb] at h2
  have h3 : x ||| y = (x &&& y) ||| (x ^^^ y) := by
    apply Nat.eq_of_testBit_eq
    intro i
    rw [Nat.testBit_or, Nat.testBit_or, Nat.testBit_and, Nat.testBit_xor]
    cases x.testBit i <;> cases y.testBit i <;> rfl
  rw [h3, ← h2]
  have e : (2 : Nat) ^ 32 = 4294967296 := by rfl
  rw [e]
  generalize x &&& y = p at *
  generalize x ^^^ y = q at *
  clear h h2 h3 e
  omega
theorem ref_xor {a b : Int} (ha : W a) (hb : W b) : wu32 (bor .u32 a b - band .u32 a b) = bxor .u32 a b := by
  obtain ⟨x, rfl⟩ := Int.eq_ofNat_of_zero_le ha.1
  obtain ⟨y, rfl⟩ := Int.eq_ofNat_of_zero_le hb.1
  have hx : x < 4294967296 := by have := ha.2; omega
  have hy : y < 4294967296 := by have := hb.2; omega
  rw [wu32_eq, bor_u32 hx hy, band_u32 hx hy, bxor_u32 hx hy, or_xor hx hy]
theorem ref_andn {a b : Int} (ha : W a) (hb : W b) : band .u32 a (wu32 (4294967295 - b)) = bandn .u32 a b := by
  obtain ⟨x, rfl⟩ := Int.eq_ofNat_of_zero_le ha.1
  obtain ⟨y, rfl⟩ := Int.eq_ofNat_of_zero_le hb.1
  have hx : x < 4294967296 := by have := ha.2; omega
  have hy : y < 4294967296 := by have := hb.2; omega
  have e : wu32 (4294967295 - (y : Int)) = ((4294967295 - y : Nat) : Int) := by rw [wu32_eq]; omega
  rw [e, band_u32 hx (by omega), bandn_u32 hx hy]
theorem refj4_is {i : Sapi_Instr} (hA : 0 ≤ i.A ∧ i.A ≤ 15) (t : Sapi_Regs) (x : Int) : rivetref04_Do.j4 i t x = some (setA t i.A x, 0) := by
  unfold rivetref04_Do.j4
  rw [if_pos (by omega), refshow_is]
  rfl
theorem refflags0 : ∀ n z c v : Bool, bor .u32 (bor .u32 (bor .u32 (b2i n * ((2 ^ 31 : Nat) : Int)) (b2i z * ((2 ^ 30 : Nat) : Int))) (b2i c * ((2 ^ 29 : Nat) : Int))) (b2i v * ((2 ^ 28 : Nat) : Int)) = 2147483648 * b2i n + 1073741824 * b2i z + 536870912 * b2i c + 268435456 * b2i v := by decide +kernel
theorem refflags (s : Sapi_Regs) : bor .u32 (bor .u32 (bor .u32 (b2i s.N * ((2 ^ 31 : Nat) : Int)) (b2i s.Z * ((2 ^ 30 : Nat) : Int))) (b2i s.C * ((2 ^ 29 : Nat) : Int))) (b2i s.V * ((2 ^ 28 : Nat) : Int)) = flagsS s := refflags0 s.N s.Z s.C s.V
theorem refone_is (c : Bool) : rivetref01_one c = some (b2i c) := by cases c <;> rfl
theorem refout_is (x : Int) : rivetref01_out x = some (decide (x < -2147483648 ∨ x > 2147483647)) := by
  unfold rivetref01_out
  by_cases h : x < -2147483648
  · rw [if_pos h, decide_eq_true (.inl h)]; rfl
  · rw [if_neg h]
    have e : (x < -2147483648 ∨ x > 2147483647) ↔ x > 2147483647 := by omega
    simp only [e]
    rfl
theorem refadd_is {a b : Int} (a0 : 0 ≤ a) (a1 : a ≤ 4294967295) (b0 : 0 ≤ b) (b1 : b ≤ 4294967295) (c : Bool) : rivetref01_Add a b c = some (addS a b c) := by
  unfold rivetref01_Add addS
  have hc1 : 0 ≤ b2i c ∧ b2i c ≤ 1 := by cases c <;> simp [b2i]
  have ha := sgn_in a0 a1
  have hb := sgn_in b0 b1
  rw [refone_is, refsigned_is a0 a1, refsigned_is b0 b1]
  simp only [Option.bind_some]
  rw [w64s (x := sgn a + sgn b) (by omega) (by omega), w64s (x := sgn a + sgn b + b2i c) (by omega) (by omega), refout_is, w64s (x := a) (by omega) (by omega), w64s (x := b) (by omega) (by omega), w64s (x := a + b) (by omega) (by omega), w64s (x := a + b + b2i c) (by omega) (by omega), wu32_eq, Int.tmod_eq_emod_of_nonneg (by omega)]
  simp only [Option.bind_some]
  congr 1
  refine Prod.ext ?_ (Prod.ext ?_ ?_)
  · simp only; omega
  · rfl
  · simp only
    rw [decide_eq_decide]
    unfold sgn
    split <;> split <;> omega
theorem refsub_is {a b : Int} (a0 : 0 ≤ a) (a1 : a ≤ 4294967295) (b0 : 0 ≤ b) (b1 : b ≤ 4294967295) (c : Bool) : rivetref01_Sub a b c = some (subS a b c) := by
  unfold rivetref01_Sub subS
  have hc1 : 0 ≤ b2i c ∧ b2i c ≤ 1 := by cases c <;> simp [b2i]
  have ha := sgn_in a0 a1
  have hb := sgn_in b0 b1
  rw [refone_is, refsigned_is a0 a1, refsigned_is b0 b1]
  simp only [Option.bind_some]
  rw [w64s (x := sgn a - sgn b) (by omega) (by omega), w64s (x := sgn a - sgn b - b2i c) (by omega) (by omega), refout_is, w64s (x := a) (by omega) (by omega), w64s (x := b) (by omega) (by omega), w64s (x := a - b) (by omega) (by omega), w64s (x := a - b - b2i c) (by omega) (by omega), w64s (x := a - b - b2i c + 8589934592) (by omega) (by omega), wu32_eq, Int.tmod_eq_emod_of_nonneg (by omega)]
  simp only [Option.bind_some]
  congr 1
  refine Prod.ext ?_ (Prod.ext ?_ ?_)
  · simp only; omega
  · rfl
  · simp only
    rw [decide_eq_decide]
    unfold sgn
    split <;> split <;> omega
theorem refj3_is {s : Sapi_Regs} {i : Sapi_Instr} (hs : OkR s) (hA : 0 ≤ i.A ∧ i.A ≤ 15) (hB : 0 ≤ i.B ∧ i.B ≤ 15) (hk : i.Kind = 1 ∨ i.Kind = 2) (hO : 0 ≤ i.Op ∧ i.Op ≤ 11) {n : Int} (hn : W n) :
    rivetref04_Do.j3 i s n = some (match opS s i.Op (vx 0 s.R i.B.toNat) n i.U with
      | some (x, t) => (setA t i.A x, 0)
      | none => (s, 5)) := by
  have hb := hs.r i.B hB.1 (by omega)
  unfold rivetref04_Do.j3
  rw [if_neg (by omega), if_neg (by omega)]
  generalize hbv : vx 0 s.R i.B.toNat = b at *
  have e16 : (2 : Int) ^ 16 = 65536 := by decide
  unfold opS
  by_cases h0 : i.Op = 0
  · rw [if_pos h0, if_pos h0]
    cases hu : i.U
    · rw [if_neg (by simp), refj4_is hA, if_neg (by simp)]
    · rw [if_pos rfl, e16, wu32_eq, refj4_is hA, if_pos rfl]
  rw [if_neg h0, if_neg h0]
  by_cases h3 : i.Op ≤ 3
  · rw [if_pos h3, refshift_is hb.1 hb.2 hn.1, if_pos (by omega)]
    exact refj4_is hA _ _
  rw [if_neg h3, if_neg (show ¬ (i.Op = 1 ∨ i.Op = 2 ∨ i.Op = 3) by omega)]
  by_cases h4 : i.Op = 4
  · rw [if_pos h4, if_pos h4]; exact refj4_is hA _ _
  rw [if_neg h4, if_neg h4]
  by_cases h5 : i.Op = 5
  · rw [if_pos h5, if_pos h5, ref_andn hb hn]; exact refj4_is hA _ _
  rw [if_neg h5, if_neg h5]
  by_cases h6 : i.Op = 6
  · rw [if_pos h6, if_pos h6]; exact refj4_is hA _ _
  rw [if_neg h6, if_neg h6]
  by_cases h7 : i.Op = 7
  · rw [if_pos h7, if_pos h7, ref_xor hb hn]; exact refj4_is hA _ _
  rw [if_neg h7, if_neg h7]
  by_cases h8 : i.Op = 8
  · rw [if_pos h8, if_pos h8]
    cases hu : i.U
    · rw [if_neg (by simp), refadd_is hb.1 hb.2 hn.1 hn.2]
      exact refj4_is hA _ _
    · rw [if_pos rfl, refadd_is hb.1 hb.2 hn.1 hn.2]
      exact refj4_is hA _ _
  rw [if_neg h8, if_neg h8]
  by_cases h9 : i.Op = 9
  · rw [if_pos h9, if_pos h9]
    cases hu : i.U
    · rw [if_neg (by simp), refsub_is hb.1 hb.2 hn.1 hn.2]
      exact refj4_is hA _ _
    · rw [if_pos rfl, refsub_is hb.1 hb.2 hn.1 hn.2]
      exact refj4_is hA _ _
  rw [if_neg h9, if_neg h9]
  by_cases h10 : i.Op = 10
  · rw [if_pos h10, if_pos h10, refmul_is hb.1 hb.2 hn.1 hn.2]
    exact refj4_is hA _ _
  rw [if_neg h10, if_neg h10, refdiv_is hb.1 hb.2 hn.1 hn.2]
  simp only [Option.bind_some]
  have e : (divS b n) = ((divS b n).1, (divS b n).2.1, (divS b n).2.2) := rfl
  by_cases hd : (divS b n).2.2 = true
  · rw [if_pos hd]
    rw [e]
    simp only
    rw [if_pos hd]
    exact refj4_is hA _ _
  · rw [if_neg hd]
    rw [e]
    simp only
    rw [if_neg hd]
theorem refdo_is {s : Sapi_Regs} {i : Sapi_Instr} (hs : OkR s) : rivetref04_Do s i = some (doS s i) := by
  unfold rivetref04_Do doS
  rw [refmay_is]
  simp only [Option.bind_some]
  by_cases hm : MayP i
  · rw [decide_eq_true hm, if_pos rfl]
    by_cases h5 : i.Kind ≥ 5
    · have hm' := hm
      unfold MayP at hm'
      obtain ⟨hA, hB, hC, hK⟩ := hm'
      have hk : i.Kind = 5 ∨ i.Kind = 6 ∨ i.Kind = 7 := by omega
      have e : (if i.Kind = 5 then rivetref04_Do.j1 s i true else (if i.Kind = 6 then rivetref04_Do.j1 s i true else rivetref04_Do.j1 s i (i.Kind == 7))) = rivetref04_Do.j1 s i true := by
        rcases hk with h | h | h
        · rw [if_pos h]
        · rw [if_neg (by omega), if_pos h]
        · rw [if_neg (by omega), if_neg (by omega), h]; rfl
      rw [e, if_pos (.inr h5)]
      rfl
    · rw [if_neg (by omega), if_neg (by omega), show (i.Kind == 7) = false by simp; omega, if_neg (by rw [not_or]; exact ⟨fun h => h hm, by omega⟩)]
      have hm' := hm
      unfold MayP at hm'
      obtain ⟨hA, hB, hC, hK⟩ := hm'
      unfold rivetref04_Do.j1 rivetref04_Do.j2
      rw [if_neg (by simp), if_pos (by omega), if_pos (by omega)]
      by_cases h3 : i.Kind = 3
      · rw [if_neg (by omega), if_pos h3, rivetref04_Do.j3, if_pos h3, refj4_is hA]
      · rw [if_neg h3]
        by_cases h4 : i.Kind = 4
        · rw [if_neg (by omega), if_pos h4, rivetref04_Do.j3, if_neg h3, if_pos h4]
          have g1 : rivetref04_bit s.N 31 = some (b2i s.N * ((2 ^ 31 : Nat) : Int)) := refbit_is s.N 31 (by omega)
          have g2 : rivetref04_bit s.Z 30 = some (b2i s.Z * ((2 ^ 30 : Nat) : Int)) := refbit_is s.Z 30 (by omega)
          have g3 : rivetref04_bit s.C 29 = some (b2i s.C * ((2 ^ 29 : Nat) : Int)) := refbit_is s.C 29 (by omega)
          have g4 : rivetref04_bit s.V 28 = some (b2i s.V * ((2 ^ 28 : Nat) : Int)) := refbit_is s.V 28 (by omega)
          rw [g1, g2, g3, g4]
          simp only [Option.bind_some]
          rw [refflags, refj4_is hA]
        · rw [if_neg h4]
          have hO : 0 ≤ i.Op ∧ i.Op ≤ 11 := by omega
          by_cases h2 : i.Kind = 2
          · rw [if_pos h2, wu32_eq, refj3_is hs hA hB (.inr h2) hO (W_mod _)]
            unfold numS
            rw [if_pos h2]
            cases opS s i.Op (vx 0 s.R i.B.toNat) (i.Imm % 4294967296) i.U <;> rfl
          · rw [if_neg h2, refj3_is hs hA hB (by omega) hO (hs.r i.C hC.1 (by omega))]
            unfold numS
            rw [if_neg h2]
            cases opS s i.Op (vx 0 s.R i.B.toNat) (vx 0 s.R i.C.toNat) i.U <;> rfl
  · rw [decide_eq_false hm, if_neg (by simp), if_pos (.inl hm)]
    rfl
theorem all_step (s : Sapi_Regs) {k : Int} (h0 : -1 ≤ k) (h : k < 17) : rivetlaw04_AluAll.b64 s k = some (.inl (k + 1)) := by
  unfold rivetlaw04_AluAll.b64
  rw [if_pos h, taken_is, reftaken_is]
  simp only [Option.bind_some]
  rw [w64s (by omega) (by omega)]
  simp
theorem all_loop (s : Sapi_Regs) : ∀ (n : Nat) (k : Int), -1 ≤ k → k + n = 17 → loopO (fun (σ : Int) => rivetlaw04_AluAll.b64 s σ) k = some (.done ())
  | 0, k, h0, h => loopO_done (by unfold rivetlaw04_AluAll.b64; rw [if_neg (by omega)])
  | n + 1, k, h0, h => by
    rw [loopO_next (s' := k + 1) (all_step s h0 (by omega))]
    exact all_loop s n (k + 1) (by omega) (by omega)
theorem Pure.AluAll (a0 : Sapi_Regs) (a1 : Sapi_Instr) (a2 : Int) : okSapi_Regs a0 → okSapi_Instr a1 → In .i64 a2 → rivetlaw04_AluAll a0 a1 a2 = some true := by
  intro h0 h1 h2
  have hs := okR_of h0
  obtain ⟨f, hf, hm⟩ := fit_may a1
  unfold rivetlaw04_AluAll
  rw [shown_is, do_is hs, refdo_is hs, hf]
  simp only [Option.bind_some]
  rw [do_is hs, refdo_is hs]
  simp only [Option.bind_some]
  rw [all_loop a0 18 (-1) (by omega) (by omega)]
  simp only [Option.bind_some]
  unfold rivetlaw04_AluAll.j1
  rw [taken_is, reftaken_is]
  simp [rivetlaw04_AluAll.j2]
end Go.Proofs.Ytckefpenekolhaa.T04
