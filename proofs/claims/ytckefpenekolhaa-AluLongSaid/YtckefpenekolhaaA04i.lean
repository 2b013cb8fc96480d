/- What the statements on single operations share: an operation that works on numbers, the register that it sets. No condition. -/
import Derived.Test.YtckefpenekolhaaA04g
namespace Go.Proofs.Ytckefpenekolhaa.A04
set_option linter.unusedVariables false
set_option linter.unusedSimpArgs false
open Go Go.RowKit Go.Proofs.Ytckefpenekolhaa.E Go.Proofs.Ytckefpenekolhaa.T04
theorem do_num {s : Sapi_Regs} {i : Sapi_Instr} (hm : MayP i) (hk : i.Kind = 1 ∨ i.Kind = 2) : doS s i = match opS s i.Op (vx 0 s.R i.B.toNat) (numS s i) i.U with
    | some (x, t) => (setA t i.A x, 0)
    | none => (s, 5) := by
  unfold doS
  rw [if_neg (by rw [not_or]; exact ⟨fun h => h hm, by omega⟩), if_neg (by omega), if_neg (by omega)]
  cases opS s i.Op (vx 0 s.R i.B.toNat) (numS s i) i.U <;> rfl
theorem setA_R (t : Sapi_Regs) (A x : Int) : (setA t A x).R = vset t.R A.toNat x := rfl
theorem setA_H (t : Sapi_Regs) (A x : Int) : (setA t A x).H = t.H := rfl
theorem setA_C (t : Sapi_Regs) (A x : Int) : (setA t A x).C = t.C := rfl
theorem setA_V (t : Sapi_Regs) (A x : Int) : (setA t A x).V = t.V := rfl
theorem setA_N (t : Sapi_Regs) (A x : Int) : (setA t A x).N = decide (x ≥ 2147483648) := rfl
theorem setA_Z (t : Sapi_Regs) (A x : Int) : (setA t A x).Z = decide (x = 0) := rfl
theorem bne_dec {P Q : Prop} [Decidable P] [Decidable Q] : (decide P != decide Q) = decide (¬ (P ↔ Q)) := by
  by_cases hp : P <;> by_cases hq : Q <;> simp [hp, hq]
end Go.Proofs.Ytckefpenekolhaa.A04
