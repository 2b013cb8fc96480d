/- The plain laws of the statements AluKeeps and AluSame. No condition. -/
import Derived.Test.YtckefpenekolhaaA04g
import Derived.Test.YtckefpenekolhaaT04zAluKeeps
namespace Go.Proofs.Ytckefpenekolhaa.T04
set_option linter.unusedVariables false
set_option linter.unusedSimpArgs false
open Go Go.RowKit Go.Proofs.Ytckefpenekolhaa.E Go.Proofs.Ytckefpenekolhaa.A04
theorem keeps_end {t u : Sapi_Regs} {f : Sapi_Instr} (hA : 0 ≤ f.A ∧ f.A ≤ 15) {x : Int} (hx : W x) (hv : vx 0 t.R f.A.toNat = x) (h : showS u x = t) : rivetlaw04_AluKeeps.j9 true f t u = some true := by
  unfold rivetlaw04_AluKeeps.j9 rivetlaw04_AluKeeps.j10
  rw [if_pos rfl, if_pos (by omega), hv, show_is _ hx, h]
  simp
theorem Pure.AluKeeps (a0 : Sapi_Regs) (a1 : Sapi_Instr) : okSapi_Regs a0 → okSapi_Instr a1 → rivetlaw04_AluKeeps a0 a1 = some true := by
  intro h0 h1
  have hs := okR_of h0
  obtain ⟨f, hf, hm⟩ := fit_may a1
  unfold rivetlaw04_AluKeeps
  rw [shown_is, hf]
  simp only [Option.bind_some]
  rw [do_is hs]
  simp only [Option.bind_some]
  have hm' := hm
  unfold MayP at hm'
  obtain ⟨hA, hB, hC, hK⟩ := hm'
  by_cases h5 : f.Kind ≥ 5
  · have hd : doS a0 f = (a0, 0) := by unfold doS; rw [if_pos (.inr h5)]
    rw [hd]
    simp only
    have hk : f.Kind = 5 ∨ f.Kind = 6 ∨ f.Kind = 7 := by omega
    have e : (if f.Kind = 5 then rivetlaw04_AluKeeps.j1 0 true a0 a0 f true else (if f.Kind = 6 then rivetlaw04_AluKeeps.j1 0 true a0 a0 f true else rivetlaw04_AluKeeps.j1 0 true a0 a0 f (f.Kind == 7))) = rivetlaw04_AluKeeps.j1 0 true a0 a0 f true := by
      rcases hk with h | h | h
      · rw [if_pos h]
      · rw [if_neg (by omega), if_pos h]
      · rw [if_neg (by omega), if_neg (by omega), h]; rfl
    rw [e]
    simp [rivetlaw04_AluKeeps.j1, rivetlaw04_AluKeeps.j2, rivetlaw04_AluKeeps.j3]
  · rw [if_neg (by omega), if_neg (by omega), show (f.Kind == 7) = false by simp; omega]
    by_cases h3 : f.Kind = 3 ∨ f.Kind = 4
    · obtain ⟨x, hx, hd⟩ : ∃ x, W x ∧ doS a0 f = (setA a0 f.A x, 0) := by
        unfold doS
        rw [if_neg (by simp [hm, h5])]
        rcases h3 with h3 | h3
        · rw [if_pos h3]; exact ⟨_, hs.h, rfl⟩
        · rw [if_neg (by omega), if_pos h3]; exact ⟨_, W_flags a0, rfl⟩
      rw [hd]
      unfold rivetlaw04_AluKeeps.j1 rivetlaw04_AluKeeps.j2
      rw [if_pos rfl, if_neg (by simp)]
      unfold rivetlaw04_AluKeeps.j4 rivetlaw04_AluKeeps.j5 rivetlaw04_AluKeeps.j6 rivetlaw04_AluKeeps.j7 rivetlaw04_AluKeeps.j8
      rw [if_pos (by omega), if_pos (by omega), if_neg (by omega), show (f.Kind == 2) = false by simp; omega]
      simp only [Bool.false_eq_true, if_false]
      have hv : vx 0 (setA a0 f.A x).R f.A.toNat = x := get_set a0.R hA.1 hA.2 x
      rw [hv]
      exact keeps_end hA hx hv rfl
    · have hk : f.Kind = 1 ∨ f.Kind = 2 := by omega
      have hO : 0 ≤ f.Op ∧ f.Op ≤ 11 := by omega
      have hb := hs.r f.B hB.1 (by omega)
      have hn := W_num hs (i := f) hC
      have hd : doS a0 f = match opS a0 f.Op (vx 0 a0.R f.B.toNat) (numS a0 f) f.U with
          | some (x, t) => (setA t f.A x, 0)
          | none => (a0, 5) := by
        unfold doS
        rw [if_neg (by simp [hm, h5]), if_neg (by omega), if_neg (by omega)]
        cases opS a0 f.Op (vx 0 a0.R f.B.toNat) (numS a0 f) f.U <;> rfl
      rw [hd]
      cases ho : opS a0 f.Op (vx 0 a0.R f.B.toNat) (numS a0 f) f.U with
      | none =>
        have h11 := op_none hO ho
        simp [rivetlaw04_AluKeeps.j1, rivetlaw04_AluKeeps.j2, rivetlaw04_AluKeeps.j3, h11]
      | some p =>
        obtain ⟨x, t⟩ := p
        obtain ⟨hx, kR, kN, kZ, kH, kC⟩ := op_keeps hO hb hn ho
        unfold rivetlaw04_AluKeeps.j1 rivetlaw04_AluKeeps.j2
        rw [if_pos rfl, if_neg (by simp)]
        have hv : vx 0 (setA t f.A x).R f.A.toNat = x := get_set t.R hA.1 hA.2 x
        have e5 : (if f.Kind = 1 then rivetlaw04_AluKeeps.j5 f true (setA t f.A x) a0 true else rivetlaw04_AluKeeps.j5 f true (setA t f.A x) a0 (f.Kind == 2)) = rivetlaw04_AluKeeps.j5 f true (setA t f.A x) a0 true := by
          rcases hk with h | h
          · rw [if_pos h]
          · rw [if_neg (by omega), h]; rfl
        unfold rivetlaw04_AluKeeps.j4
        rw [if_pos (by omega), if_pos (by omega), e5]
        unfold rivetlaw04_AluKeeps.j5
        rw [if_pos rfl]
        obtain ⟨R, H, n, z, c, v⟩ := t
        obtain ⟨R0, H0, n0, z0, c0, v0⟩ := a0
        simp only at kR kN kZ kH kC
        subst kR kN kZ
        have e6 : (if f.Op = 10 then rivetlaw04_AluKeeps.j6 f true (setA ⟨R, H, n, z, c, v⟩ f.A x) ⟨R, H0, n, z, c0, v0⟩ true true else rivetlaw04_AluKeeps.j6 f true (setA ⟨R, H, n, z, c, v⟩ f.A x) ⟨R, H0, n, z, c0, v0⟩ true (f.Op == 11)) = rivetlaw04_AluKeeps.j7 f true (setA ⟨R, H, n, z, c, v⟩ f.A x) ⟨vset R f.A.toNat x, H, n, z, c0, v0⟩ true := by
          by_cases h10 : f.Op = 10
          · rw [if_pos h10]
            unfold rivetlaw04_AluKeeps.j6
            rw [if_pos rfl, hv]
            rfl
          · rw [if_neg h10]
            by_cases h11 : f.Op = 11
            · rw [h11]
              unfold rivetlaw04_AluKeeps.j6
              rw [if_pos (show ((11 : Int) == 11) = true from rfl), hv]
              rfl
            · rw [show (f.Op == 11) = false by simp [h11]]
              unfold rivetlaw04_AluKeeps.j6
              rw [if_neg (by simp), hv, kH h10 h11]
        rw [e6]
        unfold rivetlaw04_AluKeeps.j7
        rw [if_pos rfl]
        have e8 : (if f.Op = 8 then rivetlaw04_AluKeeps.j8 true f (setA ⟨R, H, n, z, c, v⟩ f.A x) ⟨vset R f.A.toNat x, H, n, z, c0, v0⟩ true else rivetlaw04_AluKeeps.j8 true f (setA ⟨R, H, n, z, c, v⟩ f.A x) ⟨vset R f.A.toNat x, H, n, z, c0, v0⟩ (f.Op == 9)) = rivetlaw04_AluKeeps.j9 true f (setA ⟨R, H, n, z, c, v⟩ f.A x) ⟨vset R f.A.toNat x, H, n, z, c, v⟩ := by
          by_cases h8 : f.Op = 8
          · rw [if_pos h8]
            unfold rivetlaw04_AluKeeps.j8
            rw [if_pos rfl]
            rfl
          · rw [if_neg h8]
            by_cases h9 : f.Op = 9
            · rw [h9]
              unfold rivetlaw04_AluKeeps.j8
              rw [if_pos (show ((9 : Int) == 9) = true from rfl)]
              rfl
            · rw [show (f.Op == 9) = false by simp [h9]]
              unfold rivetlaw04_AluKeeps.j8
              obtain ⟨k1, k2⟩ := kC h8 h9
              rw [if_neg (by simp), k1, k2]
        rw [e8]
        exact keeps_end hA hx hv rfl
end Go.Proofs.Ytckefpenekolhaa.T04
