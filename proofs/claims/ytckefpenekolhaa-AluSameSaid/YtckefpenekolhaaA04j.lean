/- The plain law of the statement AluSame. No condition. -/
import Derived.Test.YtckefpenekolhaaA04i
import Derived.Test.YtckefpenekolhaaT04zAluSame
namespace Go.Proofs.Ytckefpenekolhaa.T04
set_option linter.unusedVariables false
set_option linter.unusedSimpArgs false
open Go Go.RowKit Go.Proofs.Ytckefpenekolhaa.E Go.Proofs.Ytckefpenekolhaa.A04
theorem same_do {s : Sapi_Regs} {O A B C M : Int} (hO : 0 ≤ O ∧ O ≤ 11) (hA : 0 ≤ A ∧ A ≤ 15) (hB : 0 ≤ B ∧ B ≤ 15) (hC : 0 ≤ C ∧ C ≤ 15) (hM : -65536 ≤ M ∧ M ≤ 65535) (h0 : O = 0 → B = 0) (hv : vx 0 s.R C.toNat = M % 4294967296) :
    doS s ⟨1, O, A, B, C, 0, false⟩ = doS s ⟨2, O, A, B, 0, M, false⟩ := by
  rw [do_num (i := ⟨1, O, A, B, C, 0, false⟩) (by simp [MayP]; omega) (.inl rfl), do_num (i := ⟨2, O, A, B, 0, M, false⟩) (by simp [MayP]; omega) (.inr rfl)]
  have e : numS s ⟨1, O, A, B, C, 0, false⟩ = numS s ⟨2, O, A, B, 0, M, false⟩ := hv
  rw [e]
theorem same_end {s : Sapi_Regs} (hs : OkR s) {O A B C M : Int} (hO : 0 ≤ O ∧ O ≤ 11) (hA : 0 ≤ A ∧ A ≤ 15) (hB : 0 ≤ B ∧ B ≤ 15) (hC : 0 ≤ C ∧ C ≤ 15) (hM : -65536 ≤ M ∧ M ≤ 65535) : rivetlaw04_AluSame.j1 O C s M A true B = some true := by
  have key : ∀ b : Int, 0 ≤ b ∧ b ≤ 15 → (O = 0 → b = 0) → rivetlaw04_AluSame.j2 C s M O A true b = some true := by
    intro b hb h0
    unfold rivetlaw04_AluSame.j2
    have hok : OkR { s with R := vset s.R C.toNat (wu32 M) } := set_ok hs hC.1 hC.2 (by rw [wu32_eq]; exact W_mod _)
    rw [if_pos (by omega), do_is hok, do_is hok, same_do hO hA hb hC hM h0 (by rw [← wu32_eq]; exact get_set s.R hC.1 hC.2 _)]
    simp [rivetlaw04_AluSame.j3]
  unfold rivetlaw04_AluSame.j1
  by_cases h : O = 0
  · rw [if_pos h]; exact key 0 (by omega) (fun _ => rfl)
  · rw [if_neg h]; exact key B hB (fun e => absurd e h)
theorem Pure.AluSame (a0 : Sapi_Regs) (a1 : Vector Int 4) (a2 : Int) : okSapi_Regs a0 → (∀ j, j < 4 → In .u8 (vx 0 a1 j)) → In .i32 a2 → rivetlaw04_AluSame a0 a1 a2 = some true := by
  intro h0 h1 h2
  have hs := okR_of h0
  have b0 := (h1 0 (by omega)).u8
  have b1 := (h1 1 (by omega)).u8
  have b2 := (h1 2 (by omega)).u8
  have b3 := (h1 3 (by omega)).u8
  have b4 := h2.i32
  unfold rivetlaw04_AluSame
  rw [shown_is]
  simp only [Option.bind_some, nm]
  rw [u8_15 b1.1 b1.2, u8_15 b2.1 b2.2, u8_15 b3.1 b3.2, w64s (x := a2) (by omega) (by omega), b17, w64s (x := a2 % 131072 - 65536) (by omega) (by omega)]
  generalize hx : vx 0 a1 0 = x at *
  have e : x.tmod 12 = x % 12 := Int.tmod_eq_emod_of_nonneg (by omega)
  rw [e, w64s (x := x % 12) (by omega) (by omega)]
  have e1 : w64 (vx 0 a1 3 % 16 + 1) = vx 0 a1 3 % 16 + 1 := w64s (by omega) (by omega)
  rw [e1, Int.tmod_eq_emod_of_nonneg (by omega)]
  split
  · exact same_end hs (by omega) (by omega) (by omega) (by omega) (by omega)
  · exact same_end hs (by omega) (by omega) (by omega) (by omega) (by omega)
end Go.Proofs.Ytckefpenekolhaa.T04
