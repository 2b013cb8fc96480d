/- MachineLinks: the plain law. No condition. -/
import Derived.Test.YtheccnbamcdpmaaB06f
import Derived.Test.YtheccnbamcdpmaaT06zMachineLinks
namespace Go.Proofs.Ytheccnbamcdpmaa.A06
set_option linter.unusedVariables false
set_option linter.unusedSimpArgs false
open Go Go.RowKit Go.Proofs.Ytheccnbamcdpmaa.E Go.Proofs.Ytheccnbamcdpmaa.T06
theorem step_at {m : Smachine_Machine} {y : Smemory_Memory} {i : Sapi_Instr} (h0 : m.status = 0) (hw : wordS y m.pc = ((wordN i : Int), 0)) (hi : MayP i) :
    stepS m y = { (actS m y i).2.2 with status := (actS m y i).2.1, pc := if (actS m y i).2.1 ≤ 1 then (actS m y i).1 else m.pc } := by
  unfold stepS
  rw [if_pos h0]
  simp only [hw, dec_word hi, if_true]
theorem word_at {y : Smemory_Memory} {k : Nat} (hk : (k : Int) < y.n) : wordS y ((4 * k : Nat) : Int) = (vx 0 y.w k, 0) := by
  unfold wordS
  have e : (((4 * k : Nat) : Int) / 4).toNat = k := by omega
  rw [if_pos (by omega), if_pos (by omega), e]
theorem taken7 (s : Sapi_Regs) : takenS s 7 = true := by unfold takenS condS; simp
theorem taken15 (s : Sapi_Regs) : takenS s 15 = false := by unfold takenS condS; simp
end Go.Proofs.Ytheccnbamcdpmaa.A06
namespace Go.Proofs.Ytheccnbamcdpmaa.T06
set_option linter.unusedVariables false
set_option linter.unusedSimpArgs false
open Go Go.RowKit Go.Proofs.Ytheccnbamcdpmaa.E Go.Proofs.Ytheccnbamcdpmaa.A06
abbrev jI (c n : Int) : Sapi_Instr := ⟨7, c, 0, 0, 0, n, true⟩
abbrev bI : Sapi_Instr := ⟨6, 7, 0, 0, 15, 0, false⟩
theorem jI_may {c n : Int} (h : 0 ≤ c ∧ c ≤ 15) (hn : 1 ≤ n ∧ n ≤ 8) : MayP (jI c n) := by unfold MayP; simp; omega
theorem bI_may : MayP bI := by unfold MayP; simp
theorem links_3 {s : Sapi_Regs} (hs : OkR s) {n : Nat} (hn : 1 ≤ n ∧ n ≤ 8) {a1 c : Int} (hc : 0 ≤ c ∧ c ≤ 15) (hca : w64 (a1.tmod 16) = c) {y : Smemory_Memory} (hy : OkM y) (h12 : y.n = 12) (w0 : vx 0 y.w 0 = (wordN (jI c n) : Int)) (w1 : vx 0 y.w (1 + n) = (wordN bI : Int)) (u : Smachine_Machine) (hu : u.Memory = some y) (hui : u.in' = []) (huo : u.out = []) :
    rivetlaw06_MachineLinks.j3 s (n : Int) a1 u = some true := by
  have hok : OkMa ⟨some y, s, 0, 0, [], []⟩ y := ⟨rfl, hy, hs, ⟨by simp, by simp⟩, by simp, by simp, by simp⟩
  have hjm := jI_may (c := c) (n := n) hc (by omega)
  have hst := step_at (m := ⟨some y, s, 0, 0, [], []⟩) (y := y) (i := jI c n) rfl (by have := word_at (y := y) (k := 0) (by omega); rw [w0] at this; exact this) hjm
  unfold rivetlaw06_MachineLinks.j3
  rw [mstart_is hu, Option.bind_some]
  have eu : ({ u with s := s, pc := 0, status := 0 } : Smachine_Machine) = ⟨some y, s, 0, 0, [], []⟩ := by cases u; simp only at *; subst hu hui huo; rfl
  rw [eu, step_is hok (by simp), Option.bind_some, hst]
  have e0 : wu32 ((0 : Int) + 4) = 4 := by decide
  have et : wu32 (w64 (4 + w64 (4 * (n : Int)))) = 4 + 4 * n := by rw [w64s (x := 4 * (n : Int)) (by omega) (by omega), w64s (by omega) (by omega), wu32_id (by omega) (by omega)]
  have eg : goTo ⟨some y, s, 0, 0, [], []⟩ (jI c n) = 4 + 4 * n := by
    unfold goTo
    rw [if_pos rfl]
    simp only [wu32_eq]
    omega
  by_cases ht : takenS s c = true
  · have ha : actS ⟨some y, s, 0, 0, [], []⟩ y (jI c n) = (4 + 4 * (n : Int), 0, ⟨some y, { s with R := vset s.R 15 4 }, 0, 0, [], []⟩) := by
      unfold actS
      rw [if_neg (by show ¬ (7 : Int) = 5; decide), if_pos (.inr rfl)]
      show (if takenS s c = true then _ else _) = _
      rw [if_pos ht, eg]
      rfl
    rw [ha]
    simp only [machine_Machine_Regs, machine_Machine_PC, Option.bind_some]
    rw [et]
    have h15 : vx 0 (vset s.R 15 4) 15 = 4 := by rw [vx_vset (by decide), if_pos rfl]
    rw [if_pos (by simp), h15]
    unfold rivetlaw06_MachineLinks.j4
    rw [if_pos (by decide)]
    have hs2 := set_ok (A := 15) hs (by omega) (by omega) (show W (4 : Int) from ⟨by omega, by omega⟩)
    have hok2 : OkMa ⟨some y, { s with R := vset s.R 15 4 }, 4 + 4 * (n : Int), 0, [], []⟩ y := ⟨rfl, hy, hs2, ⟨by show (0 : Int) ≤ 4 + 4 * n; omega, by show 4 + 4 * (n : Int) ≤ _; omega⟩, by simp, by simp, by simp⟩
    have hst2 := step_at (m := ⟨some y, { s with R := vset s.R 15 4 }, 4 + 4 * (n : Int), 0, [], []⟩) (y := y) (i := bI) rfl (by have := word_at (y := y) (k := 1 + n) (by omega); rw [w1, show ((4 * (1 + n) : Nat) : Int) = 4 + 4 * (n : Int) by omega] at this; exact this) bI_may
    have ha2 : actS ⟨some y, { s with R := vset s.R 15 4 }, 4 + 4 * (n : Int), 0, [], []⟩ y bI = (4, 0, ⟨some y, { s with R := vset s.R 15 4 }, 4 + 4 * (n : Int), 0, [], []⟩) := by
      unfold actS
      rw [if_neg (by decide), if_pos (.inl rfl)]
      show (if takenS _ 7 = true then _ else _) = _
      rw [if_pos (taken7 _), if_neg (by decide)]
      unfold goTo
      rw [if_neg (by decide)]
      show (vx 0 (vset s.R 15 4) 15, (0 : Int), _) = _
      rw [h15]
    rw [ha2] at hst2
    show (machine_Machine_Step ⟨some y, { s with R := vset s.R 15 4 }, 4 + 4 * (n : Int), 0, [], []⟩).bind _ = _
    rw [step_is hok2 (by simp), Option.bind_some, hst2]
    have hc15 : c ≠ 15 := fun h => by rw [h, taken15] at ht; cases ht
    simp [rivetlaw06_MachineLinks.j5, machine_Machine_PC, hca, hc15]
  · have ha : actS ⟨some y, s, 0, 0, [], []⟩ y (jI c n) = (4, 0, ⟨some y, s, 0, 0, [], []⟩) := by
      unfold actS
      rw [if_neg (by show ¬ (7 : Int) = 5; decide), if_pos (.inr rfl)]
      show (if takenS s c = true then _ else _) = _
      rw [if_neg ht]
      rfl
    rw [ha]
    simp only [machine_Machine_Regs, machine_Machine_PC, Option.bind_some]
    rw [et, if_neg (by simp; omega)]
    unfold rivetlaw06_MachineLinks.j4 rivetlaw06_MachineLinks.j6
    have hc7 : c ≠ 7 := fun h => ht (by rw [h]; exact taken7 s)
    simp [machine_Machine_PC, rivetlaw06_MachineLinks.j7, hca, hc7]
theorem Pure.MachineLinks (a0 : Sapi_Regs) (a1 : Int) (a2 : Int) : okSapi_Regs a0 → In .u8 a1 → In .u8 a2 → rivetlaw06_MachineLinks a0 a1 a2 = some true := by
  intro h0 h1 h2
  have h1 := h1.u8
  have h2 := h2.u8
  have hs := okR_of h0
  obtain ⟨n, en, hn⟩ : ∃ n : Nat, w64 (1 + w64 (a2.tmod 8)) = (n : Int) ∧ 1 ≤ n ∧ n ≤ 8 := by
    rw [Int.tmod_eq_emod_of_nonneg h2.1, w64s (x := a2 % 8) (by omega) (by omega), w64s (by omega) (by omega)]
    exact ⟨(1 + a2 % 8).toNat, by omega, by omega, by omega⟩
  obtain ⟨c, ec, hc⟩ : ∃ c : Int, w64 (a1.tmod 16) = c ∧ 0 ≤ c ∧ c ≤ 15 := by
    rw [Int.tmod_eq_emod_of_nonneg h1.1, w64s (by omega) (by omega)]
    exact ⟨_, rfl, by omega, by omega⟩
  have hjm := jI_may (c := c) (n := n) hc (by omega)
  unfold rivetlaw06_MachineLinks
  rw [shown_is, Option.bind_some, en, ec]
  simp only [nm]
  rw [enc_is, if_pos hjm, Option.bind_some]
  show (isa_Encode bI).bind _ = _
  rw [enc_is, if_pos bI_may, Option.bind_some]
  show (machine_New 12 []).bind _ = _
  rw [mnew_ok (by omega) (by omega) (by simp), Option.bind_some]
  simp only [if_true, Option.bind_some]
  rw [place_ok (by omega) (by simp) (by show (12 : Int) ≤ 4096; omega), Option.bind_some]
  show (memory_Memory_Place _ (w64 (1 + (n : Int))) [(wordN bI : Int)]).bind _ = _
  rw [w64s (by omega) (by omega), place_ok (by omega) (by show 1 + (n : Int) + (1 : Nat) ≤ 12; omega) (by show (12 : Int) ≤ 4096; omega), Option.bind_some]
  show rivetlaw06_MachineLinks.j2 _ _ _ _ (0 != 0) = _
  unfold rivetlaw06_MachineLinks.j2
  rw [if_neg (by simp)]
  have W1 : ∀ x ∈ [(wordN (jI c n) : Int)], W x := fun x hx => by rw [List.mem_singleton.1 hx]; exact W_word hjm
  have W2 : ∀ x ∈ [(wordN bI : Int)], W x := fun x hx => by rw [List.mem_singleton.1 hx]; exact W_word bI_may
  have hy := vcopy_ok (a := (1 + (n : Int)).toNat) (vcopy_ok (a := (0 : Int).toNat) (mem0_ok (n := 12) (by omega) (by omega)) W1) W2
  have en' : (1 + (n : Int)).toNat = 1 + n := by omega
  refine links_3 hs hn hc ec hy rfl ?_ ?_ _ rfl rfl rfl
  · show vx 0 (vcopy (vcopy _ _ _) _ _) 0 = _
    rw [vx_vcopy (by decide), if_neg (by omega), vx_vcopy (by decide)]
    rfl
  · show vx 0 (vcopy (vcopy _ _ _) _ _) (1 + n) = _
    rw [vx_vcopy (by omega), en', if_pos (by simp), Nat.sub_self]
    rfl
end Go.Proofs.Ytheccnbamcdpmaa.T06
