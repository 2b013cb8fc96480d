/- The plain law of the statement AluTests. No condition. -/
import Derived.Test.YtckefpenekolhaaA04i
import Derived.Test.YtckefpenekolhaaT04zAluTests
namespace Go.Proofs.Ytckefpenekolhaa.T04
set_option linter.unusedVariables false
set_option linter.unusedSimpArgs false
open Go Go.RowKit Go.Proofs.Ytckefpenekolhaa.E Go.Proofs.Ytckefpenekolhaa.A04
theorem tests_step (t : Sapi_Regs) {k : Int} (h0 : 0 ≤ k) (h8 : k < 8) : rivetlaw04_AluTests.b35 t k = some (.inl (k + 1)) := by
  unfold rivetlaw04_AluTests.b35
  rw [if_pos h8, taken_is, w64s (by omega) (by omega), taken_is]
  simp only [Option.bind_some]
  have e : (takenS t k == takenS t (k + 8)) = false := by
    unfold takenS
    rw [if_neg (by omega), if_neg (by omega), show (k + 8) % 8 = k % 8 by omega, decide_eq_false (show ¬ k > 7 by omega), decide_eq_true (show k + 8 > 7 by omega)]
    cases condS t (k % 8) <;> simp
  rw [w64s (by omega) (by omega)]
  rw [e]
  rfl
theorem two_ok {s : Sapi_Regs} (hs : OkR s) {a b : Int} (ha : W a) (hb : W b) : OkR { s with R := vset (vset s.R 1 a) 2 b } :=
  set_ok (s := { s with R := vset s.R 1 a }) (A := 2) (set_ok (A := 1) hs (by omega) (by omega) ha) (by omega) (by omega) hb
theorem two_1 (R : Vector Int 16) (a b : Int) : vx 0 (vset (vset R 1 a) 2 b) 1 = a := by
  rw [vx_vset (by omega), if_neg (by omega), vx_vset (by omega), if_pos rfl]
theorem two_2 (R : Vector Int 16) (a b : Int) : vx 0 (vset (vset R 1 a) 2 b) 2 = b := by
  rw [vx_vset (by omega), if_pos rfl]
theorem Pure.AluTests (a0 : Sapi_Regs) (a1 : Int) (a2 : Int) : okSapi_Regs a0 → In .u32 a1 → In .u32 a2 → rivetlaw04_AluTests a0 a1 a2 = some true := by
  intro h0 h1 h2
  have hs := okR_of h0
  have b1 := h1.u32
  have b2 := h2.u32
  unfold rivetlaw04_AluTests
  rw [shown_is]
  simp only [Option.bind_some]
  have hok : OkR { ({ a0 with R := vset a0.R 1 a1 } : Sapi_Regs) with R := vset (vset a0.R 1 a1) 2 a2 } := two_ok hs b1 b2
  rw [do_is hok, do_num (by simp [MayP]) (.inl rfl)]
  have e : opS ({ ({ a0 with R := vset a0.R 1 a1 } : Sapi_Regs) with R := vset (vset a0.R 1 a1) 2 a2 }) 9 a1 a2 false = some ((subS a1 a2 false).1, { a0 with R := vset (vset a0.R 1 a1) 2 a2, C := (subS a1 a2 false).2.1, V := (subS a1 a2 false).2.2 }) := by
    unfold opS
    simp
  have e1 : numS ({ ({ a0 with R := vset a0.R 1 a1 } : Sapi_Regs) with R := vset (vset a0.R 1 a1) 2 a2 }) ⟨1, 9, 3, 1, 2, 0, false⟩ = a2 := two_2 a0.R a1 a2
  have e2 : vx 0 ({ ({ a0 with R := vset a0.R 1 a1 } : Sapi_Regs) with R := vset (vset a0.R 1 a1) 2 a2 } : Sapi_Regs).R (1 : Int).toNat = a1 := two_1 a0.R a1 a2
  rw [e1]
  simp only
  have e2' : vx 0 (vset (vset a0.R 1 a1) 2 a2) (1 : Int).toNat = a1 := two_1 a0.R a1 a2
  rw [e2', e]
  simp only [Option.bind_some]
  generalize ht : setA { a0 with R := vset (vset a0.R 1 a1) 2 a2, C := (subS a1 a2 false).2.1, V := (subS a1 a2 false).2.2 } 3 (subS a1 a2 false).1 = t
  rw [loopO_next (s' := 0 + 1) (tests_step t (by omega) (by omega)), loopO_next (s' := 0 + 1 + 1) (tests_step t (by omega) (by omega)), loopO_next (s' := 0 + 1 + 1 + 1) (tests_step t (by omega) (by omega)), loopO_next (s' := 0 + 1 + 1 + 1 + 1) (tests_step t (by omega) (by omega)), loopO_next (s' := 0 + 1 + 1 + 1 + 1 + 1) (tests_step t (by omega) (by omega)), loopO_next (s' := 0 + 1 + 1 + 1 + 1 + 1 + 1) (tests_step t (by omega) (by omega)), loopO_next (s' := 0 + 1 + 1 + 1 + 1 + 1 + 1 + 1) (tests_step t (by omega) (by omega)), loopO_next (s' := 0 + 1 + 1 + 1 + 1 + 1 + 1 + 1 + 1) (tests_step t (by omega) (by omega)), loopO_done (r := .done ()) (by unfold rivetlaw04_AluTests.b35; rw [if_neg (by omega)])]
  simp only [Option.bind_some]
  have s1 : (subS a1 a2 false).1 = (a1 - a2) % 4294967296 := by simp [subS, b2i]
  have s2 : (subS a1 a2 false).2.1 = decide (a1 < a2) := by
    show decide (a1 - a2 - b2i false < 0) = _
    rw [show b2i false = 0 from rfl, decide_eq_decide]
    omega
  have s3 : (subS a1 a2 false).2.2 = decide ((a1 < 2147483648 ∧ a2 ≥ 2147483648 ∧ a1 - a2 + 4294967296 ≥ 2147483648) ∨ (a1 ≥ 2147483648 ∧ a2 < 2147483648 ∧ a1 - a2 < 2147483648)) := by
    unfold subS
    simp only [show b2i false = 0 from rfl, Int.sub_zero]
  have hR : vx 0 t.R 3 = wu32 (a1 - a2) := by
    rw [← ht, wu32_eq, ← s1]
    exact get_set _ (A := 3) (by omega) (by omega) _
  have hN : t.N = decide ((a1 - a2) % 4294967296 ≥ 2147483648) := by rw [← ht, setA_N, s1]
  have hZ : t.Z = decide ((a1 - a2) % 4294967296 = 0) := by rw [← ht, setA_Z, s1]
  have hC : t.C = decide (a1 < a2) := by rw [← ht, setA_C]; exact s2
  have hV : t.V = decide ((a1 < 2147483648 ∧ a2 ≥ 2147483648 ∧ a1 - a2 + 4294967296 ≥ 2147483648) ∨ (a1 ≥ 2147483648 ∧ a2 < 2147483648 ∧ a1 - a2 < 2147483648)) := by rw [← ht, setA_V]; exact s3
  have g1 : w64 (w32 a1) = sgn a1 := w32_sgn b1.1 b1.2
  have g2 : w64 (w32 a2) = sgn a2 := w32_sgn b2.1 b2.2
  have c1 : takenS t 1 = (a1 == a2) := by
    have : takenS t 1 = t.Z := by simp [takenS, condS]
    rw [this, hZ, Bool.eq_iff_iff, decide_eq_true_eq, beq_iff_eq]
    omega
  have c2 : takenS t 2 = decide (a1 < a2) := by
    have : takenS t 2 = t.C := by simp [takenS, condS]
    rw [this, hC]
  have c4 : takenS t 4 = decide (a1 ≤ a2) := by
    have : takenS t 4 = (t.C || t.Z) := by simp [takenS, condS]
    rw [this, hC, hZ, Bool.eq_iff_iff, Bool.or_eq_true, decide_eq_true_eq, decide_eq_true_eq, decide_eq_true_eq]
    omega
  have hNV : (t.N != t.V) = decide (sgn a1 < sgn a2) := by
    rw [hN, hV, bne_dec, decide_eq_decide]
    unfold sgn
    split <;> split <;> omega
  have c5 : takenS t 5 = decide (sgn a1 < sgn a2) := by
    have : takenS t 5 = (t.N != t.V) := by simp [takenS, condS]
    rw [this, hNV]
  have c6 : takenS t 6 = decide (sgn a1 ≤ sgn a2) := by
    have : takenS t 6 = ((t.N != t.V) || t.Z) := by simp [takenS, condS]
    rw [this, hNV, hZ, Bool.eq_iff_iff, Bool.or_eq_true, decide_eq_true_eq, decide_eq_true_eq, decide_eq_true_eq]
    unfold sgn
    split <;> split <;> omega
  have c7 : takenS t 7 = true := by simp [takenS, condS]
  have c16 : takenS t 16 = false := by simp [takenS]
  have cm : takenS t (-1) = false := by simp [takenS]
  unfold rivetlaw04_AluTests.j1
  simp only [taken_is, Option.bind_some, hR, g1, g2, c1, c2, c4, c5, c6, c7, c16, cm]
  simp [rivetlaw04_AluTests.j2]
end Go.Proofs.Ytckefpenekolhaa.T04
