/- The plain law of the statement AluBits. No condition. -/
import Derived.Test.YtckefpenekolhaaA04i
import Derived.Test.YtckefpenekolhaaT04zAluBits
namespace Go.Proofs.Ytckefpenekolhaa.T04
set_option linter.unusedVariables false
set_option linter.unusedSimpArgs false
open Go Go.RowKit Go.Proofs.Ytckefpenekolhaa.E Go.Proofs.Ytckefpenekolhaa.A04
theorem comp_bit {y : Nat} (hy : y < 4294967296) (i : Nat) : (4294967295 - y).testBit i = (decide (i < 32) && !y.testBit i) := by
  have h : y < 2 ^ 32 := hy
  have := Nat.testBit_two_pow_sub_succ h i
  rw [← this, show 2 ^ 32 - (y + 1) = 4294967295 - y by omega]
theorem bits_four {x y : Nat} (hx : x < 4294967296) (hy : y < 4294967296) :
    (x &&& y) ||| (x &&& (4294967295 - y)) = x ∧ (x &&& y) &&& (x &&& (4294967295 - y)) = 0 ∧ x ||| y = (x &&& y) ||| (x ^^^ y) ∧ (x &&& y) &&& (x ^^^ y) = 0 := by
  have hi : ∀ i, i ≥ 32 → x.testBit i = false := fun i h => Nat.testBit_lt_two_pow (Nat.lt_of_lt_of_le (show x < 2 ^ 32 from hx) (Nat.pow_le_pow_right (by omega) h))
  refine ⟨?_, ?_, ?_, ?_⟩
  · apply Nat.eq_of_testBit_eq
    intro i
    rw [Nat.testBit_or, Nat.testBit_and, Nat.testBit_and, comp_bit hy]
    by_cases h : i < 32
    · rw [decide_eq_true h]; cases x.testBit i <;> cases y.testBit i <;> rfl
    · rw [hi i (by omega)]; rfl
  · apply Nat.eq_of_testBit_eq
    intro i
    rw [Nat.testBit_and, Nat.testBit_and, Nat.testBit_and, comp_bit hy, Nat.zero_testBit]
    cases x.testBit i <;> cases y.testBit i <;> simp
  · apply Nat.eq_of_testBit_eq
    intro i
    rw [Nat.testBit_or, Nat.testBit_or, Nat.testBit_and, Nat.testBit_xor]
    cases x.testBit i <;> cases y.testBit i <;> rfl
  · apply Nat.eq_of_testBit_eq
    intro i
    rw [Nat.testBit_and, Nat.testBit_and, Nat.testBit_xor, Nat.zero_testBit]
    cases x.testBit i <;> cases y.testBit i <;> rfl
theorem bits_int {a b : Int} (ha : W a) (hb : W b) :
    bor .u32 (band .u32 a b) (bandn .u32 a b) = a ∧ band .u32 (band .u32 a b) (bandn .u32 a b) = 0 ∧ bor .u32 a b = bor .u32 (band .u32 a b) (bxor .u32 a b) ∧ band .u32 (band .u32 a b) (bxor .u32 a b) = 0 := by
  obtain ⟨x, rfl⟩ := Int.eq_ofNat_of_zero_le ha.1
  obtain ⟨y, rfl⟩ := Int.eq_ofNat_of_zero_le hb.1
  have hx : x < 4294967296 := by have := ha.2; omega
  have hy : y < 4294967296 := by have := hb.2; omega
  obtain ⟨h1, h2, h3, h4⟩ := bits_four hx hy
  rw [band_u32 hx hy, bandn_u32 hx hy, bor_u32 hx hy, bxor_u32 hx hy, bor_u32 (and_lt hx) (and_lt hx), band_u32 (and_lt hx) (and_lt hx), bor_u32 (and_lt hx) (xor_lt hx hy), band_u32 (and_lt hx) (xor_lt hx hy), h1, h2, h3, h4]
  exact ⟨rfl, rfl, rfl, rfl⟩
theorem flags_bits (n z c v : Bool) (f : Int) (hf : f = 2147483648 * b2i n + 1073741824 * b2i z + 536870912 * b2i c + 268435456 * b2i v) :
    ((f.fdiv (2 ^ 31)) == 1) = n ∧ (band .u32 (f.fdiv (2 ^ 30)) 1 == 1) = z ∧ (band .u32 (f.fdiv (2 ^ 29)) 1 == 1) = c ∧ (band .u32 (f.fdiv (2 ^ 28)) 1 == 1) = v ∧ (wu32 (f * 2 ^ 4) == 0) = true := by
  subst hf
  cases n <;> cases z <;> cases c <;> cases v <;> exact ⟨rfl, rfl, rfl, rfl, rfl⟩
section
variable {s : Sapi_Regs} {a b : Int}
theorem bits_ok (hs : OkR s) (ha : W a) (hb : W b) : OkR { ({ s with R := vset s.R 1 a } : Sapi_Regs) with R := vset (vset s.R 1 a) 2 b } :=
  set_ok (s := { s with R := vset s.R 1 a }) (A := 2) (set_ok (A := 1) hs (by omega) (by omega) ha) (by omega) (by omega) hb
def bitsS (k a b : Int) : Int := if k = 4 then band .u32 a b else if k = 5 then bandn .u32 a b else if k = 6 then bor .u32 a b else bxor .u32 a b
theorem bits_do (hs : OkR s) (ha : W a) (hb : W b) {k : Int} (h4 : 4 ≤ k) (h7 : k ≤ 7) : ∃ t, alu_Do { ({ s with R := vset s.R 1 a } : Sapi_Regs) with R := vset (vset s.R 1 a) 2 b } ⟨1, k, 3, 1, 2, 0, false⟩ = some (t, 0) ∧ vx 0 t.R 3 = bitsS k a b := by
  rw [do_is (bits_ok hs ha hb), do_num (by simp [MayP]; omega) (.inl rfl)]
  have e1 : numS ({ ({ s with R := vset s.R 1 a } : Sapi_Regs) with R := vset (vset s.R 1 a) 2 b }) ⟨1, k, 3, 1, 2, 0, false⟩ = b := by
    show vx 0 (vset (vset s.R 1 a) 2 b) 2 = b
    rw [vx_vset (by omega), if_pos rfl]
  have e2 : vx 0 (vset (vset s.R 1 a) 2 b) (1 : Int).toNat = a := by
    show vx 0 (vset (vset s.R 1 a) 2 b) 1 = a
    rw [vx_vset (by omega), if_neg (by omega), vx_vset (by omega), if_pos rfl]
  rw [e1]
  simp only
  rw [e2]
  have e3 : opS ({ ({ s with R := vset s.R 1 a } : Sapi_Regs) with R := vset (vset s.R 1 a) 2 b }) k a b false = some (bitsS k a b, { ({ s with R := vset s.R 1 a } : Sapi_Regs) with R := vset (vset s.R 1 a) 2 b }) := by
    have : k = 4 ∨ k = 5 ∨ k = 6 ∨ k = 7 := by omega
    rcases this with rfl | rfl | rfl | rfl <;> simp [opS, bitsS]
  rw [e3]
  refine ⟨_, rfl, ?_⟩
  exact get_set _ (A := 3) (by omega) (by omega) _
theorem bits_step (hs : OkR s) (ha : W a) (hb : W b) (v : Vector Int 4) {k : Int} (h0 : 0 ≤ k) (h3 : k < 4) : rivetlaw04_AluBits.b27 s a b v k = some (.inl (vset v k.toNat (bitsS (4 + k) a b), k + 1)) := by
  unfold rivetlaw04_AluBits.b27
  obtain ⟨t, e, h⟩ := bits_do hs ha hb (k := 4 + k) (by omega) (by omega)
  rw [if_pos h3, w64s (by omega) (by omega), e]
  simp only [Option.bind_some]
  rw [if_pos True.intro, if_pos (by omega), h, w64s (by omega) (by omega)]
end
theorem Pure.AluBits (a0 : Sapi_Regs) (a1 : Int) (a2 : Int) : okSapi_Regs a0 → In .u32 a1 → In .u32 a2 → rivetlaw04_AluBits a0 a1 a2 = some true := by
  intro h0 h1 h2
  have hs := okR_of h0
  have b1 := h1.u32
  have b2 := h2.u32
  unfold rivetlaw04_AluBits
  rw [shown_is]
  simp only [Option.bind_some]
  rw [loopO_next (s' := (_, 0 + 1)) (bits_step hs b1 b2 _ (by omega) (by omega)), loopO_next (s' := (_, 0 + 1 + 1)) (bits_step hs b1 b2 _ (by omega) (by omega)), loopO_next (s' := (_, 0 + 1 + 1 + 1)) (bits_step hs b1 b2 _ (by omega) (by omega)), loopO_next (s' := (_, 0 + 1 + 1 + 1 + 1)) (bits_step hs b1 b2 _ (by omega) (by omega)), loopO_done (r := .done _) (by unfold rivetlaw04_AluBits.b27; rw [if_neg (by omega)])]
  simp only [Option.bind_some]
  generalize hv : vset (vset (vset (vset (#v[0, 0, 0, 0] : Vector Int 4) (0 : Int).toNat (bitsS (4 + 0) a1 a2)) (0 + 1 : Int).toNat (bitsS (4 + (0 + 1)) a1 a2)) (0 + 1 + 1 : Int).toNat (bitsS (4 + (0 + 1 + 1)) a1 a2)) (0 + 1 + 1 + 1 : Int).toNat (bitsS (4 + (0 + 1 + 1 + 1)) a1 a2) = v
  have v0 : vx 0 v 0 = band .u32 a1 a2 := by rw [← hv]; rfl
  have v1 : vx 0 v 1 = bandn .u32 a1 a2 := by rw [← hv]; rfl
  have v2 : vx 0 v 2 = bor .u32 a1 a2 := by rw [← hv]; rfl
  have v3 : vx 0 v 3 = bxor .u32 a1 a2 := by rw [← hv]; rfl
  unfold rivetlaw04_AluBits.j1
  rw [do_is (bits_ok hs b1 b2), do_is (bits_ok hs b1 b2)]
  simp only [Option.bind_some, nm]
  have d3 : doS ({ ({ a0 with R := vset a0.R 1 a1 } : Sapi_Regs) with R := vset (vset a0.R 1 a1) 2 a2 }) ⟨3, 0, 4, 0, 0, 0, false⟩ = (setA ({ ({ a0 with R := vset a0.R 1 a1 } : Sapi_Regs) with R := vset (vset a0.R 1 a1) 2 a2 }) 4 a0.H, 0) := by
    unfold doS
    rw [if_neg (by simp [MayP]), if_pos rfl]
  have d4 : doS ({ ({ a0 with R := vset a0.R 1 a1 } : Sapi_Regs) with R := vset (vset a0.R 1 a1) 2 a2 }) ⟨4, 0, 5, 0, 0, 0, false⟩ = (setA ({ ({ a0 with R := vset a0.R 1 a1 } : Sapi_Regs) with R := vset (vset a0.R 1 a1) 2 a2 }) 5 (flagsS a0), 0) := by
    unfold doS
    rw [if_neg (by simp [MayP]), if_neg (by simp), if_pos rfl]
    rfl
  rw [d3, d4]
  simp only
  have r5 : vx 0 (setA ({ ({ a0 with R := vset a0.R 1 a1 } : Sapi_Regs) with R := vset (vset a0.R 1 a1) 2 a2 }) 5 (flagsS a0)).R 5 = flagsS a0 := get_set _ (A := 5) (by omega) (by omega) _
  have r4 : vx 0 (setA ({ ({ a0 with R := vset a0.R 1 a1 } : Sapi_Regs) with R := vset (vset a0.R 1 a1) 2 a2 }) 4 a0.H).R 4 = a0.H := get_set _ (A := 4) (by omega) (by omega) _
  rw [r5]
  obtain ⟨f1, f2, f3, f4, f5⟩ := flags_bits a0.N a0.Z a0.C a0.V (flagsS a0) rfl
  obtain ⟨q1, q2, q3, q4⟩ := bits_int b1 b2
  rw [f1, f2, f3, f4, f5]
  unfold rivetlaw04_AluBits.j2
  rw [v0, v1, v2, v3, q1, q2, ← q3, q4, r4]
  simp [rivetlaw04_AluBits.j3]
end Go.Proofs.Ytckefpenekolhaa.T04
