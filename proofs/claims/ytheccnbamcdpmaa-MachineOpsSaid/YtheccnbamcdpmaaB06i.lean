/- MachineOps: the plain law. No condition. -/
import Derived.Test.YtheccnbamcdpmaaB06f
import Derived.Test.YtheccnbamcdpmaaT06zMachineOps
namespace Go.Proofs.Ytheccnbamcdpmaa.A06
set_option linter.unusedVariables false
set_option linter.unusedSimpArgs false
open Go Go.RowKit Go.Proofs.Ytheccnbamcdpmaa.E Go.Proofs.Ytheccnbamcdpmaa.T06
theorem fit_jmp (O M : Int) (U : Bool) : ∃ f, rivetref03_Fit ⟨6, O, 0, 0, 0, M, U⟩ = some f ∧ MayP f ∧ f.Kind = 7 := by
  obtain ⟨f, h1, h2⟩ := fit_may ⟨6, O, 0, 0, 0, M, U⟩
  refine ⟨f, h1, h2, ?_⟩
  unfold rivetref03_Fit rivetref03_Fit.j1 rivetref03_Fit.j2 rivetref03_Fit.j3 rivetref03_Fit.j4 rivetref03_Fit.j5 at h1
  have e : w64 (1 + (w64 ((6 : Int).tmod 7 + 7)).tmod 7) = 7 := by decide
  simp only [e] at h1
  simp at h1
  rw [← h1]
theorem fit_not5 (i : Sapi_Instr) : ∃ f, (if ∃ g, rivetref03_Fit i = some g ∧ g.Kind = 5 then rivetref03_Fit ⟨6, i.Op, 0, 0, 0, i.Imm, i.U⟩ else rivetref03_Fit i) = some f ∧ MayP f ∧ f.Kind ≠ 5 := by
  obtain ⟨g, h1, h2⟩ := fit_may i
  by_cases h5 : g.Kind = 5
  · obtain ⟨f, h3, h4, h6⟩ := fit_jmp i.Op i.Imm i.U
    rw [if_pos ⟨g, h1, h5⟩]
    exact ⟨f, h3, h4, by omega⟩
  · rw [if_neg]
    · exact ⟨g, h1, h2, h5⟩
    · rintro ⟨g', h3, h4⟩
      rw [h1] at h3
      cases h3
      exact h5 h4
theorem doS_two (s : Sapi_Regs) (i : Sapi_Instr) : (doS s i).2 = 0 ∨ (doS s i).2 = 5 := by
  unfold doS
  split
  · exact .inl rfl
  · split
    · exact .inl rfl
    · split
      · exact .inl rfl
      · split
        · exact .inl rfl
        · exact .inr rfl
/-- The machine with one word at a place. -/
abbrev oneM (S : Sapi_Regs) (k : Nat) (w : Int) : Smachine_Machine := ⟨some ⟨vcopy (Vector.replicate 4096 0) k [w], 16⟩, S, ((4 * k : Nat) : Int), 0, [], []⟩
theorem oneM_ok {S : Sapi_Regs} {k : Nat} {w : Int} (hs : OkR S) (hk : k < 16) (hw : W w) : OkMa (oneM S k w) ⟨vcopy (Vector.replicate 4096 0) k [w], 16⟩ :=
  ⟨rfl, vcopy_ok (mem0_ok (n := 16) (by omega) (by omega)) (fun n hn => by rw [List.mem_singleton.1 hn]; exact hw), hs, ⟨by show (0 : Int) ≤ ((4 * k : Nat) : Int); omega, by show ((4 * k : Nat) : Int) ≤ _; omega⟩, by simp, by simp, by simp⟩
theorem oneM_word {S : Sapi_Regs} {k : Nat} {w : Int} (hk : k < 16) : wordS ⟨vcopy (Vector.replicate 4096 0) k [w], 16⟩ ((4 * k : Nat) : Int) = (w, 0) := by
  unfold wordS
  rw [if_pos (by omega), if_pos (by show ((4 * k : Nat) : Int) / 4 < 16; omega)]
  have e : (((4 * k : Nat) : Int) / 4).toNat = k := by omega
  rw [e]
  show (vx 0 (vcopy _ _ _) k, (0 : Int)) = _
  rw [vx_vcopy (by omega), if_pos (by simp), Nat.sub_self]
  rfl
theorem oneM_step {S : Sapi_Regs} {k : Nat} {i : Sapi_Instr} (hk : k < 16) (hi : MayP i) :
    stepS (oneM S k (wordN i : Int)) ⟨vcopy (Vector.replicate 4096 0) k [(wordN i : Int)], 16⟩ =
      { (actS (oneM S k (wordN i : Int)) ⟨vcopy (Vector.replicate 4096 0) k [(wordN i : Int)], 16⟩ i).2.2 with
        status := (actS (oneM S k (wordN i : Int)) ⟨vcopy (Vector.replicate 4096 0) k [(wordN i : Int)], 16⟩ i).2.1
        pc := if (actS (oneM S k (wordN i : Int)) ⟨vcopy (Vector.replicate 4096 0) k [(wordN i : Int)], 16⟩ i).2.1 ≤ 1 then (actS (oneM S k (wordN i : Int)) ⟨vcopy (Vector.replicate 4096 0) k [(wordN i : Int)], 16⟩ i).1 else ((4 * k : Nat) : Int) } := by
  have hw := @oneM_word S k (wordN i : Int) hk
  unfold stepS
  rw [if_pos rfl]
  simp only [hw, dec_word hi, if_true]
end Go.Proofs.Ytheccnbamcdpmaa.A06
namespace Go.Proofs.Ytheccnbamcdpmaa.T06
set_option linter.unusedVariables false
set_option linter.unusedSimpArgs false
open Go Go.RowKit Go.Proofs.Ytheccnbamcdpmaa.E Go.Proofs.Ytheccnbamcdpmaa.A06
theorem ops_j1 {x : Srivetlaw06_Set} (hs : OkR x.S) (hp : W x.PC) {i : Sapi_Instr} (hi : MayP i) (h5 : i.Kind ≠ 5) : rivetlaw06_MachineOps.j1 true x i = some true := by
  obtain ⟨k, hk1, hk2⟩ : ∃ k : Nat, x.PC.tmod 16 = (k : Int) ∧ k < 16 := by
    rw [Int.tmod_eq_emod_of_nonneg hp.1]
    exact ⟨(x.PC % 16).toNat, by omega, by omega⟩
  have hok := oneM_ok (w := (wordN i : Int)) hs hk2 (W_word hi)
  have hst := oneM_step (S := x.S) hk2 hi
  have hstep := step_is hok (by simp)
  unfold rivetlaw06_MachineOps.j1
  rw [enc_is, if_pos hi, Option.bind_some]
  show (machine_New 16 []).bind _ = _
  rw [mnew_ok (by omega) (by omega) (by simp), Option.bind_some]
  show (if true = true then (if (0 : Int) = 0 then rivetlaw06_MachineOps.j3 _ _ _ _ (0 != 0) else _) else _) = _
  rw [if_pos rfl, if_pos rfl]
  unfold rivetlaw06_MachineOps.j3
  rw [if_neg (by simp)]
  unfold rivetlaw06_MachineOps.j4
  rw [hk1, w64s (x := (k : Int)) (by omega) (by omega), w64s (by omega) (by omega), wu32_id (x := 4 * (k : Int)) (by omega) (by omega), show 4 * (k : Int) = ((4 * k : Nat) : Int) by omega]
  simp only [nm, Option.bind_some]
  rw [place_ok (by omega) (by simp; omega) (by show (16 : Int) ≤ 4096; omega), Option.bind_some]
  show (machine_Machine_Start _ _ _).bind _ = _
  rw [mstart_is rfl, Option.bind_some]
  show (machine_Machine_Step (oneM x.S k (wordN i : Int))).bind _ = _
  rw [hstep, Option.bind_some, hst]
  have e4 : (oneM x.S k (wordN i : Int)).pc = ((4 * k : Nat) : Int) := rfl
  have eS : (oneM x.S k (wordN i : Int)).s = x.S := rfl
  by_cases hlt : i.Kind < 5
  · have ha : actS (oneM x.S k (wordN i : Int)) ⟨vcopy (Vector.replicate 4096 0) k [(wordN i : Int)], 16⟩ i = (wu32 (((4 * k : Nat) : Int) + 4), (doS x.S i).2, { oneM x.S k (wordN i : Int) with s := (doS x.S i).1 }) := by
      unfold actS
      rw [if_neg (by omega), if_neg (by omega)]
    rw [ha]
    show (if i.Kind < 5 then _ else _) = _
    rw [if_pos hlt, do_is hs, Option.bind_some]
    have htwo := doS_two x.S i
    generalize doS x.S i = d at *
    obtain ⟨d1, d2⟩ := d
    simp only at htwo ⊢
    unfold rivetlaw06_MachineOps.j5
    simp only [machine_Machine_Regs, machine_Machine_PC, Option.bind_some, decide_true, beq_self_eq_true, Bool.and_true, if_true]
    rcases htwo with h0 | h0 <;> subst h0 <;> simp [rivetlaw06_MachineOps.j6]
  · have h67 : i.Kind = 6 ∨ i.Kind = 7 := by have := hi.kind; omega
    have hC : 0 ≤ i.C ∧ i.C ≤ 15 := hi.2.2.1
    have ha : actS (oneM x.S k (wordN i : Int)) ⟨vcopy (Vector.replicate 4096 0) k [(wordN i : Int)], 16⟩ i =
        (if takenS x.S i.Op = true then (goTo (oneM x.S k (wordN i : Int)) i, 0, if i.U = true then { oneM x.S k (wordN i : Int) with s := { x.S with R := vset x.S.R 15 (wu32 (((4 * k : Nat) : Int) + 4)) } } else oneM x.S k (wordN i : Int))
         else (wu32 (((4 * k : Nat) : Int) + 4), 0, oneM x.S k (wordN i : Int))) := by
      unfold actS
      rw [if_neg h5, if_pos h67]
    rw [ha]
    show (if i.Kind < 5 then _ else _) = _
    rw [if_neg hlt, taken_is, Option.bind_some]
    have j8 : ∀ (t : Sapi_Regs) (v : Int) (m : Smachine_Machine), m.s = t → m.pc = v → rivetlaw06_MachineOps.j8 0 m t v = some true := fun t v m h1 h2 => by
      subst h1 h2
      unfold rivetlaw06_MachineOps.j8
      simp only [machine_Machine_Regs, machine_Machine_PC, Option.bind_some, decide_true, beq_self_eq_true, Bool.and_true, if_true]
      rfl
    by_cases ht : takenS x.S i.Op = true
    · rw [if_pos ht, if_pos ht]
      have j7 : rivetlaw06_MachineOps.j7 i 0 { (if i.U = true then { oneM x.S k (wordN i : Int) with s := { x.S with R := vset x.S.R 15 (wu32 (((4 * k : Nat) : Int) + 4)) } } else oneM x.S k (wordN i : Int)) with status := 0, pc := goTo (oneM x.S k (wordN i : Int)) i } x ((4 * k : Nat) : Int) (goTo (oneM x.S k (wordN i : Int)) i) = some true := by
        unfold rivetlaw06_MachineOps.j7
        by_cases hu : i.U = true
        · rw [if_pos hu]; exact j8 _ _ _ (by rw [if_pos hu]) rfl
        · rw [if_neg hu]; exact j8 _ _ _ (by rw [if_neg hu]) rfl
      by_cases h6 : i.Kind = 6
      · have eg : goTo (oneM x.S k (wordN i : Int)) i = vx 0 x.S.R i.C.toNat := by unfold goTo; rw [if_neg (by omega)]
        rw [eg] at j7 ⊢
        simp only [nm]
        rw [if_pos h6, if_pos (by omega)]
        exact j7
      · have eg : goTo (oneM x.S k (wordN i : Int)) i = wu32 (wu32 (((4 * k : Nat) : Int) + 4) + wu32 (wu32 i.Imm * 4)) := by unfold goTo; rw [if_pos (by omega)]
        rw [eg] at j7 ⊢
        simp only [nm]
        rw [if_neg h6]
        exact j7
    · rw [if_neg ht, if_neg ht]
      exact j8 _ _ _ rfl rfl
theorem Pure.MachineOps (a0 : Sapi_Instr) (a1 : Srivetlaw06_Set) : okSapi_Instr a0 → okSrivetlaw06_Set a1 → rivetlaw06_MachineOps a0 a1 = some true := by
  intro h0 h1
  obtain ⟨hs, hp, hi, _⟩ := h1
  have hs' := okR_of hs
  have hp' : W a1.PC := hp.u32
  unfold rivetlaw06_MachineOps
  rw [shown_is, Option.bind_some]
  obtain ⟨g, g1, g2⟩ := fit_may a0
  rw [g1, Option.bind_some]
  by_cases h5 : g.Kind = 5
  · rw [if_pos h5]
    obtain ⟨f, f1, f2, f3⟩ := fit_jmp a0.Op a0.Imm a0.U
    rw [f1, Option.bind_some]
    exact ops_j1 hs' hp' f2 (by omega)
  · rw [if_neg h5]
    exact ops_j1 hs' hp' g2 h5
end Go.Proofs.Ytheccnbamcdpmaa.T06
