/- MachineRuns: the plain law. No condition. -/
import Derived.Test.YtheccnbamcdpmaaB06f
import Derived.Test.YtheccnbamcdpmaaT06zMachineRuns
namespace Go.Proofs.Ytheccnbamcdpmaa.A06
set_option linter.unusedVariables false
set_option linter.unusedSimpArgs false
open Go Go.RowKit Go.Proofs.Ytheccnbamcdpmaa.E Go.Proofs.Ytheccnbamcdpmaa.T06
noncomputable def stp (m : Smachine_Machine) : Smachine_Machine := match m.Memory with | some y => stepS m y | none => m
noncomputable def itS : Nat → Smachine_Machine → Smachine_Machine
  | 0, m => m
  | n + 1, m => itS n (stp m)
theorem stp_is {m : Smachine_Machine} {y : Smemory_Memory} (h : OkMa m y) : stp m = stepS m y := by unfold stp; rw [h.mem]
theorem itS_add : ∀ (a b : Nat) (m : Smachine_Machine), itS (a + b) m = itS b (itS a m)
  | 0, b, m => by rw [Nat.zero_add]; rfl
  | a + 1, b, m => by rw [show a + 1 + b = (a + b) + 1 by omega]; exact itS_add a b (stp m)
theorem itS_fix {m : Smachine_Machine} (h : stp m = m) : ∀ n, itS n m = m
  | 0 => rfl
  | n + 1 => by show itS n (stp m) = m; rw [h]; exact itS_fix h n
theorem itS_ok : ∀ (n : Nat) {m : Smachine_Machine} {y : Smemory_Memory}, OkMa m y → ∃ y', OkMa (itS n m) y' ∧ y'.n = y.n ∧ (itS n m).out.length ≤ m.out.length + n
  | 0, m, y, h => ⟨y, h, rfl, by show m.out.length ≤ _; omega⟩
  | n + 1, m, y, h => by
    obtain ⟨⟨y', hy', hyn⟩, ⟨l, hl, hl1⟩, _, _⟩ := step_ok h
    show ∃ y', OkMa (itS n (stp m)) y' ∧ _
    rw [stp_is h]
    obtain ⟨y2, h2, h3, h4⟩ := itS_ok n hy'
    refine ⟨y2, h2, by omega, ?_⟩
    show (itS n (stp m)).out.length ≤ _
    rw [stp_is h]
    rw [hl, List.length_append] at h4
    omega
theorem run_loop (N : Int) : ∀ (k i : Nat) (m : Smachine_Machine) (y : Smemory_Memory), ((i + k : Nat) : Int) = mxx N 0 → i + k ≤ 1000 → OkMa m y → m.out.length + k ≤ 100000 →
    loopO (fun (σ : Smachine_Machine × Int) => machine_Machine_Run.b5 N σ.1 σ.2) (m, (i : Int)) = some (itS k m) := by
  intro k
  induction k with
  | zero =>
    intro i m y hi h1 h ho
    refine loopO_done ?_
    show machine_Machine_Run.b5 N m (i : Int) = _
    unfold machine_Machine_Run.b5
    rw [if_neg (by omega)]
    rfl
  | succ k ih =>
    intro i m y hi h1 h ho
    obtain ⟨⟨y', hy', hyn⟩, ⟨l, hl, hl1⟩, hrest, _⟩ := step_ok h
    have hol : (stepS m y).out.length ≤ m.out.length + 1 := by rw [hl, List.length_append]; omega
    by_cases hs : (stepS m y).status = 0
    · have : machine_Machine_Run.b5 N m (i : Int) = some (.inl (stepS m y, ((i + 1 : Nat) : Int))) := by
        unfold machine_Machine_Run.b5
        rw [if_pos (by omega), step_is h (by omega), Option.bind_some]
        show (if (stepS m y).status = 0 then _ else _) = _
        rw [if_pos hs, w64s (by omega) (by omega)]
        rfl
      rw [loopO_next (b := fun (σ : Smachine_Machine × Int) => machine_Machine_Run.b5 N σ.1 σ.2) (s := (m, (i : Int))) this]
      rw [ih (i + 1) _ y' (by rw [← hi]; congr 1; omega) (by omega) hy' (by omega)]
      show _ = some (itS k (stp m))
      rw [stp_is h]
    · have : machine_Machine_Run.b5 N m (i : Int) = some (.inr (stepS m y)) := by
        unfold machine_Machine_Run.b5
        rw [if_pos (by omega), step_is h (by omega), Option.bind_some]
        show (if (stepS m y).status = 0 then _ else _) = _
        rw [if_neg hs]
      rw [loopO_done this]
      show _ = some (itS k (stp m))
      rw [stp_is h, itS_fix]
      rw [stp_is hy']
      exact (step_ok hy').rest hs
theorem run_is {N : Int} {n : Nat} {m : Smachine_Machine} {y : Smemory_Memory} (hN : (n : Int) = mxx N 0) (hn : n ≤ 1000) (h : OkMa m y) (ho : m.out.length + n ≤ 100000) : machine_Machine_Run m N = some ((itS n m).status, itS n m) := by
  have := run_loop N n 0 m y (by rw [Nat.zero_add]; exact hN) (by omega) h ho
  unfold machine_Machine_Run
  rw [show ((0 : Nat) : Int) = 0 from rfl] at this
  rw [this, Option.bind_some]
  obtain ⟨y', hy', _⟩ := itS_ok n h
  unfold machine_Machine_Run.j1
  rw [hy'.mem]
  rfl
end Go.Proofs.Ytheccnbamcdpmaa.A06
namespace Go.Proofs.Ytheccnbamcdpmaa.T06
open Go Go.RowKit Go.Proofs.Ytheccnbamcdpmaa.E Go.Proofs.Ytheccnbamcdpmaa.A06
theorem words_ok {y : Smemory_Memory} (h : OkM y) : memory_Memory_Words y = some (y.w.toList.take y.n.toNat) := by
  have := h.n0
  have := h.n1
  unfold memory_Memory_Words
  rw [if_pos ⟨by decide, by omega, by omega⟩, clone_is (by simp; omega)]
  rfl
theorem c_loop_is (A B : Int) : ∀ (k i : Nat) (m : Smachine_Machine) (y : Smemory_Memory), ((i + k : Nat) : Int) = w64 (A + B) → i + k ≤ 1000 → OkMa m y → m.out.length + k ≤ 100000 →
    loopO (fun (σ : Smachine_Machine × Int) => rivetlaw06_MachineRuns.b146 A B σ.1 σ.2) (m, (i : Int)) = some (itS k m) := by
  intro k
  induction k with
  | zero =>
    intro i m y hi h1 h ho
    refine loopO_done ?_
    show rivetlaw06_MachineRuns.b146 A B m (i : Int) = _
    unfold rivetlaw06_MachineRuns.b146
    rw [if_neg (by omega)]
    rfl
  | succ k ih =>
    intro i m y hi h1 h ho
    obtain ⟨⟨y', hy', hyn⟩, ⟨l, hl, hl1⟩, hrest, _⟩ := step_ok h
    have hol : (stepS m y).out.length ≤ m.out.length + 1 := by rw [hl, List.length_append]; omega
    have : rivetlaw06_MachineRuns.b146 A B m (i : Int) = some (.inl (stepS m y, ((i + 1 : Nat) : Int))) := by
      unfold rivetlaw06_MachineRuns.b146
      rw [if_pos (by omega), step_is h (by omega), Option.bind_some]
      show some (Sum.inl (stepS m y, w64 ((i : Int) + 1))) = _
      rw [w64s (by omega) (by omega)]
      rfl
    rw [loopO_next (b := fun (σ : Smachine_Machine × Int) => rivetlaw06_MachineRuns.b146 A B σ.1 σ.2) (s := (m, (i : Int))) this]
    rw [ih (i + 1) _ y' (by rw [← hi]; congr 1; omega) (by omega) hy' (by omega)]
    show _ = some (itS k (stp m))
    rw [stp_is h]
theorem Pure.MachineRuns (l0 : List Int) (a1 : Srivetlaw06_Set) (a2 : Vector Int 2) : (∀ n ∈ l0, In .u32 n) → l0.length * 4 ≤ 140737488351232 → okSrivetlaw06_Set a1 → (∀ j, j < 2 → In .i8 (vx 0 a2 j)) → rivetlaw06_MachineRuns l0 a1 a2 = some true := by
  intro h0 h1 h2 h3
  obtain ⟨r, hr, hr20, hrw⟩ := fit_some (l := l0) fun n hn => (h0 n hn).u32
  obtain ⟨hs, hp, hi, _⟩ := h2
  have hpc : 0 ≤ a1.PC ∧ a1.PC ≤ 4294967295 := hp.u32
  have hset : W (a1.PC.tmod 80) := by rw [Int.tmod_eq_emod_of_nonneg hpc.1]; exact ⟨by omega, by omega⟩
  obtain ⟨B, hm, _⟩ := made_is (x := ⟨a1.S, a1.PC.tmod 80, a1.In⟩) hrw hr20 fun n hn => (hi n hn).u32
  have hok := made_ok (x := ⟨a1.S, a1.PC.tmod 80, a1.In⟩) hrw hr20 (fun n hn => (hi n hn).u32) (okR_of hs) hset
  have b6 : ∀ x : Int, band .i64 x 63 = x % 64 := fun x => band64 x 6 (by omega)
  unfold rivetlaw06_MachineRuns
  simp only [shown_is, Option.bind_some, hr, hm, if_true]
  unfold rivetlaw06_MachineRuns.j1 rivetlaw06_MachineRuns.j2
  rw [if_neg (by simp)]
  simp only [nm, b6, Option.bind_some]
  obtain ⟨p, hp1, hp2⟩ : ∃ p : Nat, (w64 (vx 0 a2 0)) % 64 = (p : Int) ∧ p < 64 := ⟨((w64 (vx 0 a2 0)) % 64).toNat, by omega, by omega⟩
  obtain ⟨q, hq1, hq2⟩ : ∃ q : Nat, (w64 (vx 0 a2 1)) % 64 = (q : Int) ∧ q < 64 := ⟨((w64 (vx 0 a2 1)) % 64).toNat, by omega, by omega⟩
  rw [hp1, hq1]
  generalize hmm : madeM r ⟨a1.S, a1.PC.tmod 80, a1.In⟩ = m at *
  have ho : m.out.length = 0 := by rw [← hmm]; rfl
  have mx : ∀ n : Nat, ((n : Nat) : Int) = mxx (n : Int) 0 := fun n => by unfold mxx; split <;> omega
  have mm1 : ((0 : Nat) : Int) = mxx (-1) 0 := by decide
  obtain ⟨y1, k1, k2, k3⟩ := itS_ok p hok
  obtain ⟨y2, k4, k5, k6⟩ := itS_ok (p + q) hok
  have ew : w64 ((p : Int) + (q : Int)) = ((p + q : Nat) : Int) := by rw [w64s (by omega) (by omega)]; omega
  have hc := c_loop_is (p : Int) (q : Int) (p + q) 0 m _ (by rw [Nat.zero_add, ew]) (by omega) hok (by omega)
  rw [show ((0 : Nat) : Int) = 0 from rfl] at hc
  rw [run_is (mx p) (by omega) hok (by omega), Option.bind_some]
  simp only
  rw [run_is (mx q) (by omega) k1 (by omega), Option.bind_some]
  simp only
  rw [← itS_add, ew, run_is (mx (p + q)) (by omega) hok (by omega), Option.bind_some]
  simp only
  rw [hc, Option.bind_some]
  generalize itS (p + q) m = M at *
  unfold rivetlaw06_MachineRuns.j3
  rw [run_is mm1 (by omega) k4 (by omega), Option.bind_some]
  rw [show itS 0 M = M from rfl]
  show (if M.status = M.status then _ else _) = _
  rw [if_pos rfl]
  show (machine_Machine_Run M 0).bind _ = _
  rw [run_is (n := 0) (by decide) (by omega) k4 (by omega), Option.bind_some, show itS 0 M = M from rfl]
  show (if M.status = M.status then _ else _) = _
  rw [if_pos rfl, if_pos rfl]
  show (machine_Machine_Status M).bind _ = _
  simp only [machine_Machine_Status, Option.bind_some]
  unfold rivetlaw06_MachineRuns.j4
  rw [if_neg (by simp)]
  unfold rivetlaw06_MachineRuns.j5
  have hn := k4.ok.n0
  have hn1 := k4.ok.n1
  have hS1 : rivetref05_Same (y2.w.toList.take y2.n.toNat) (y2.w.toList.take y2.n.toNat) = some true := by rw [same32 (by simp; omega), decide_eq_true rfl]
  have hS2 : rivetref05_Same M.out M.out = some true := by rw [same32 (by omega), decide_eq_true rfl]
  simp only [machine_Machine_Regs, machine_Machine_PC, machine_Machine_Out, Option.bind_some, k4.mem, words_ok k4.ok, hS1, clone_is (show M.out.length ≤ 1000000000000 by omega), hS2, decide_true, beq_self_eq_true, Bool.and_true, if_true]
  rfl
end Go.Proofs.Ytheccnbamcdpmaa.T06
