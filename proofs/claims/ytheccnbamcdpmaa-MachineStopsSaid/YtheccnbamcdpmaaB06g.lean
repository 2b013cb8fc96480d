/- MachineStops: the plain law. No condition. -/
import Derived.Test.YtheccnbamcdpmaaB06f
import Derived.Test.YtheccnbamcdpmaaT06zMachineStops
namespace Go.Proofs.Ytheccnbamcdpmaa.T06
set_option linter.unusedVariables false
set_option linter.unusedSimpArgs false
open Go Go.RowKit Go.Proofs.Ytheccnbamcdpmaa.E Go.Proofs.Ytheccnbamcdpmaa.A06
section
variable {m : Smachine_Machine} {y : Smemory_Memory}
theorem stops_same (h : OkMa m y) (hy : y.n ≤ 30) (ho : m.out.length ≤ 1000) {i : Nat} (hi : i < 40) {m' : Smachine_Machine} (hm : ∃ t, m' = { m with status := t }) (hst : 0 ≤ m'.status ∧ m'.status ≤ 5) (hr : m.status ≠ 0 → m'.status = m.status) :
    rivetlaw06_MachineStops.j4 m.status m'.status m' m.s (i : Int) m.pc (y.w.toList.take y.n.toNat) m.out = some (.inl (m', ((i + 1 : Nat) : Int))) := by
  obtain ⟨t, rfl⟩ := hm
  have hn := h.ok.n0
  have e8 : rivetlaw06_MachineStops.j8 (i : Int) ({ m with status := t } : Smachine_Machine) = some (.inl ({ m with status := t }, ((i + 1 : Nat) : Int))) := by
    unfold rivetlaw06_MachineStops.j8
    rw [w64s (by omega) (by omega)]
    rfl
  rw [h.mem] at e8
  have hW : memory_Memory_Words y = some (y.w.toList.take y.n.toNat) := by
    unfold memory_Memory_Words
    rw [if_pos ⟨by decide, hn, by omega⟩, clone_is (by simp; omega)]
    rfl
  have hS1 : rivetref05_Same (y.w.toList.take y.n.toNat) (y.w.toList.take y.n.toNat) = some true := by
    rw [same32 (by simp; omega), decide_eq_true rfl]
  have hS2 : rivetref05_Same m.out m.out = some true := by rw [same32 (by omega), decide_eq_true rfl]
  have hmem : ({ m with status := t } : Smachine_Machine).Memory = some y := h.mem
  unfold rivetlaw06_MachineStops.j4
  simp only [machine_Machine_Regs, machine_Machine_PC, machine_Machine_Out, Option.bind_some, h.mem, hW, hS1, clone_is (show m.out.length ≤ 1000000000000 by omega), hS2, decide_true, beq_self_eq_true, Bool.and_true, Bool.not_true, Bool.false_eq_true, if_false, if_true]
  by_cases h0 : m.status = 0
  · rw [if_pos h0]
    split
    · unfold rivetlaw06_MachineStops.j5 rivetlaw06_MachineStops.j6 rivetlaw06_MachineStops.j7
      simp only [Bool.not_true, Bool.false_eq_true, if_false]
      exact e8
    · unfold rivetlaw06_MachineStops.j5 rivetlaw06_MachineStops.j6 rivetlaw06_MachineStops.j7
      simp only [Bool.not_true, Bool.false_eq_true, if_false]
      exact e8
  · rw [if_neg h0]
    have he : t = m.status := hr h0
    unfold rivetlaw06_MachineStops.j5 rivetlaw06_MachineStops.j6 rivetlaw06_MachineStops.j7
    simp only [Bool.not_true, Bool.false_eq_true, if_false, if_true]
    rw [if_neg (by rw [he]; simp)]
    exact e8
theorem stops_round (h : OkMa m y) (hy : y.n ≤ 30) (ho : m.out.length ≤ 1000) {i : Nat} (hi : i < 40) : rivetlaw06_MachineStops.b55 m (i : Int) = some (.inl (stepS m y, ((i + 1 : Nat) : Int))) := by
  have hn := h.ok.n0
  have hW : memory_Memory_Words y = some (y.w.toList.take y.n.toNat) := by
    unfold memory_Memory_Words
    rw [if_pos ⟨by decide, hn, by omega⟩, clone_is (by simp; omega)]
    rfl
  have hs := step_ok h
  obtain ⟨⟨y', hy', hyn⟩, ⟨l, hl, hl1⟩, hrest, htrap⟩ := hs
  unfold rivetlaw06_MachineStops.b55
  rw [if_pos (by omega)]
  simp only [machine_Machine_Regs, machine_Machine_PC, machine_Machine_Out, machine_Machine_Status, Option.bind_some, h.mem, hW, clone_is (show m.out.length ≤ 1000000000000 by omega), step_is h (by omega), if_true]
  rw [if_neg (by have := hy'.st.1; omega), decide_eq_false (by have := hy'.st.2; omega)]
  unfold rivetlaw06_MachineStops.j3
  rw [if_neg (by simp)]
  by_cases h0 : m.status = 0
  · by_cases hgt : (stepS m y).status > 1
    · exact stops_same h hy ho hi ⟨_, htrap hgt⟩ hy'.st (fun hn => absurd h0 hn)
    · unfold rivetlaw06_MachineStops.j4 rivetlaw06_MachineStops.j5 rivetlaw06_MachineStops.j6 rivetlaw06_MachineStops.j7 rivetlaw06_MachineStops.j8
      rw [if_pos h0, if_neg hgt, if_neg (by simp), if_neg (by simp), if_neg (by simp), w64s (by omega) (by omega)]
      rfl
  · have e := hrest h0
    exact stops_same h hy ho hi ⟨m.status, by rw [e]⟩ hy'.st (fun _ => by rw [e])
theorem stops_loop : ∀ (k i : Nat) (m : Smachine_Machine) (y : Smemory_Memory), i + k = 40 → OkMa m y → y.n ≤ 30 → m.out.length ≤ i →
    ∃ e, loopO (fun (σ : Smachine_Machine × Int) => rivetlaw06_MachineStops.b55 σ.1 σ.2) (m, (i : Int)) = some (.done e) := by
  intro k
  induction k with
  | zero =>
    intro i m y hi h hy ho
    refine ⟨m, loopO_done ?_⟩
    show rivetlaw06_MachineStops.b55 m (i : Int) = _
    unfold rivetlaw06_MachineStops.b55
    rw [if_neg (by omega)]
  | succ k ih =>
    intro i m y hi h hy ho
    obtain ⟨⟨y', hy', hyn⟩, ⟨l, hl, hl1⟩, hrest, htrap⟩ := step_ok h
    rw [loopO_next (b := fun (σ : Smachine_Machine × Int) => rivetlaw06_MachineStops.b55 σ.1 σ.2) (s := (m, (i : Int))) (stops_round h hy (by omega) (by omega))]
    exact ih (i + 1) _ y' (by omega) hy' (by omega) (by rw [hl, List.length_append]; omega)
end
theorem Pure.MachineStops (l0 : List Int) (a1 : Srivetlaw06_Set) : (∀ n ∈ l0, In .u32 n) → l0.length * 4 ≤ 140737488351232 → okSrivetlaw06_Set a1 → rivetlaw06_MachineStops l0 a1 = some true := by
  intro h0 h1 h2
  obtain ⟨r, hr, hr20, hrw⟩ := fit_some (l := l0) fun n hn => (h0 n hn).u32
  obtain ⟨hs, hp, hi, _⟩ := h2
  have hpc : 0 ≤ a1.PC ∧ a1.PC ≤ 4294967295 := hp.u32
  have hset : W (a1.PC.tmod 80) := by rw [Int.tmod_eq_emod_of_nonneg hpc.1]; exact ⟨by omega, by omega⟩
  obtain ⟨B, hm, _⟩ := made_is (x := ⟨a1.S, a1.PC.tmod 80, a1.In⟩) hrw hr20 fun n hn => (hi n hn).u32
  have hok := made_ok (x := ⟨a1.S, a1.PC.tmod 80, a1.In⟩) hrw hr20 (fun n hn => (hi n hn).u32) (okR_of hs) hset
  unfold rivetlaw06_MachineStops
  rw [shown_is, Option.bind_some, hr, Option.bind_some, hm, Option.bind_some]
  show (if true = true then rivetlaw06_MachineStops.j1 _ false else _) = _
  rw [if_pos rfl]
  unfold rivetlaw06_MachineStops.j1 rivetlaw06_MachineStops.j2
  rw [if_neg (by simp), Option.bind_some]
  obtain ⟨e, he⟩ := stops_loop 40 0 _ _ (by omega) hok (by show ((r.length + 4 : Nat) : Int) ≤ 30; omega) (by simp)
  rw [show ((0 : Nat) : Int) = 0 from rfl] at he
  rw [he]
  rfl
end Go.Proofs.Ytheccnbamcdpmaa.T06
