/- The plain law of the statement AluMoves. No condition. -/
import Derived.Test.YtckefpenekolhaaA04i
import Derived.Test.YtckefpenekolhaaT04zAluMoves
namespace Go.Proofs.Ytckefpenekolhaa.T04
set_option linter.unusedVariables false
set_option linter.unusedSimpArgs false
open Go Go.RowKit Go.Proofs.Ytckefpenekolhaa.E Go.Proofs.Ytckefpenekolhaa.A04
/-- A number of 16 bits is put below 16 bits that are none. -/
theorem low_bor {m : Int} (h0 : 0 ≤ m) (h1 : m < 65536) : bor .u32 (m * 65536) m = m * 65536 + m := by
  obtain ⟨x, rfl⟩ := Int.eq_ofNat_of_zero_le h0
  have hx : x < 65536 := by omega
  have e : ((x : Int) * 65536) = ((x * 65536 : Nat) : Int) := by omega
  rw [e, bor_u32 (by omega) (by omega)]
  have h2 : x * 65536 ||| x = x * 65536 + x := by
    have := Nat.two_pow_add_eq_or_of_lt (i := 16) (b := x) (by omega) x
    rw [show x * 65536 = 2 ^ 16 * x by omega, ← this]
  rw [h2]
  omega
theorem Pure.AluMoves (a0 : Sapi_Regs) (a1 : Int) (a2 : Int) : okSapi_Regs a0 → In .i32 a1 → In .u8 a2 → rivetlaw04_AluMoves a0 a1 a2 = some true := by
  intro h0 h1 h2
  have hs := okR_of h0
  have b1 := h1.i32
  have b2 := h2.u8
  unfold rivetlaw04_AluMoves
  rw [shown_is]
  simp only [Option.bind_some, nm]
  rw [u8_15 b2.1 b2.2, w64s (x := a1) (by omega) (by omega), b17, w64s (x := a1 % 131072 - 65536) (by omega) (by omega)]
  have hm : -65536 ≤ a1 % 131072 - 65536 ∧ a1 % 131072 - 65536 ≤ 65535 := by omega
  have hA : 0 ≤ a2 % 16 ∧ a2 % 16 ≤ 15 := by omega
  generalize a1 % 131072 - 65536 = m at *
  generalize a2 % 16 = A at *
  rw [b16]
  have hp : 0 ≤ m % 65536 ∧ m % 65536 < 65536 := by omega
  generalize m % 65536 = p at *
  have d1 : doS a0 ⟨2, 0, A, 0, 0, m, false⟩ = (setA a0 A (m % 4294967296), 0) := by
    rw [do_num (by simp [MayP]; omega) (.inr rfl)]
    simp [opS, numS]
  have d2 : doS a0 ⟨2, 0, A, 0, 0, p, true⟩ = (setA a0 A (p * 65536), 0) := by
    rw [do_num (by simp [MayP]; omega) (.inr rfl)]
    have e : p % 4294967296 * 65536 % 4294967296 = p * 65536 := by omega
    simp [opS, numS, e]
  have d3 : doS a0 ⟨1, 0, A, 0, A, 0, false⟩ = (setA a0 A (vx 0 a0.R A.toNat), 0) := by
    rw [do_num (by simp [MayP]; omega) (.inl rfl)]
    simp [opS, numS]
  have hv : vx 0 (setA a0 A (p * 65536)).R A.toNat = p * 65536 := get_set a0.R hA.1 hA.2 _
  have d4 : doS (setA a0 A (p * 65536)) ⟨2, 6, A, A, 0, p, false⟩ = (setA (setA a0 A (p * 65536)) A (p * 65536 + p), 0) := by
    rw [do_num (by simp [MayP]; omega) (.inr rfl)]
    have e : p % 4294967296 = p := by omega
    simp only [hv]
    simp [opS, numS, e, low_bor hp.1 hp.2]
  have hok : OkR (setA a0 A (p * 65536)) := by
    have := set_ok hs hA.1 hA.2 (x := p * 65536) ⟨by omega, by omega⟩
    exact ⟨this.r, this.h⟩
  rw [do_is hs, do_is hs, do_is hs, d1, d2, d3]
  simp only [Option.bind_some]
  rw [do_is hok, d4]
  simp only [Option.bind_some]
  rw [show_is a0 (hs.r A hA.1 (by omega))]
  simp only [Option.bind_some]
  have e16 : (2 : Int) ^ 16 = 65536 := by decide
  have g1 : vx 0 (setA a0 A (m % 4294967296)).R A.toNat = wu32 m := by rw [wu32_eq]; exact get_set a0.R hA.1 hA.2 _
  have g2 : vx 0 (setA a0 A (p * 65536)).R A.toNat = wu32 (wu32 p * 2 ^ 16) := by
    rw [wu32_eq, wu32_eq, e16, hv]
    omega
  have g4 : vx 0 (setA (setA a0 A (p * 65536)) A (p * 65536 + p)).R A.toNat = wu32 (wu32 (wu32 p * 2 ^ 16) + wu32 p) := by
    rw [wu32_eq, wu32_eq, wu32_eq, e16]
    refine (get_set _ hA.1 hA.2 _).trans ?_
    omega
  have gN : (setA a0 A (m % 4294967296)).N = decide (m < 0) := by
    rw [setA_N, decide_eq_decide]
    omega
  have gZ : (setA a0 A (m % 4294967296)).Z = (m == 0) := by
    rw [setA_Z, Bool.eq_iff_iff, decide_eq_true_eq, beq_iff_eq]
    omega
  have hr : (0 ≤ A ∧ A < ((16 : Nat) : Int)) := by omega
  have hR : vset a0.R A.toNat (vx 0 a0.R A.toNat) = a0.R := by
    apply Vector.ext
    intro j hj
    have := vx_vset (d := (0 : Int)) (x := a0.R) (i := A.toNat) (j := j) (v := vx 0 a0.R A.toNat) (by omega)
    have h3 : ∀ R : Vector Int 16, vx 0 R j = R[j] := by
      intro R
      unfold vx
      rw [List.getD_eq_getElem?_getD, List.getElem?_eq_getElem (by simp; omega)]
      simp
    rw [← h3, ← h3, this]
    split
    · rename_i e; rw [e]
    · rfl
  have g3 : setA a0 A (vx 0 a0.R A.toNat) = showS a0 (vx 0 a0.R A.toNat) := by
    unfold setA
    rw [hR]
  rw [g1, g2, g4, gN, gZ, g3]
  simp only [if_pos hr]
  simp [rivetlaw04_AluMoves.j1, showS]
end Go.Proofs.Ytckefpenekolhaa.T04
