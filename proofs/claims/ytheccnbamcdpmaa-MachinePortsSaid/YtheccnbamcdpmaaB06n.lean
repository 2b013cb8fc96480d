/- Runs of the machine. No condition. -/
import Derived.Test.YtheccnbamcdpmaaB06p
namespace Go.Proofs.Ytheccnbamcdpmaa.A06
set_option linter.unusedVariables false
set_option linter.unusedSimpArgs false
open Go Go.RowKit Go.Proofs.Ytheccnbamcdpmaa.E Go.Proofs.Ytheccnbamcdpmaa.T06
noncomputable def stp (m : Smachine_Machine) : Smachine_Machine := match m.Memory with | some y => stepS m y | none => m
noncomputable def itS : Nat → Smachine_Machine → Smachine_Machine
  | 0, m => m
  | n + 1, m => itS n (stp m)
theorem stp_is {m : Smachine_Machine} {y : Smemory_Memory} (h : OkMa m y) : stp m = stepS m y := by unfold stp; rw [h.mem]
theorem itS_add : ∀ (a b : Nat) (m : Smachine_Machine), itS (a + b) m = itS b (itS a m)
  | 0, b, m => by rw [Nat.zero_add]; rfl
  | a + 1, b, m => by rw [show a + 1 + b = (a + b) + 1 by omega]; exact itS_add a b (stp m)
theorem itS_fix {m : Smachine_Machine} (h : stp m = m) : ∀ n, itS n m = m
  | 0 => rfl
  | n + 1 => by show itS n (stp m) = m; rw [h]; exact itS_fix h n
theorem itS_ok : ∀ (n : Nat) {m : Smachine_Machine} {y : Smemory_Memory}, OkMa m y → ∃ y', OkMa (itS n m) y' ∧ y'.n = y.n ∧ (itS n m).out.length ≤ m.out.length + n
  | 0, m, y, h => ⟨y, h, rfl, by show m.out.length ≤ _; omega⟩
  | n + 1, m, y, h => by
    obtain ⟨⟨y', hy', hyn⟩, ⟨l, hl, hl1⟩, _, _⟩ := step_ok h
    show ∃ y', OkMa (itS n (stp m)) y' ∧ _
    rw [stp_is h]
    obtain ⟨y2, h2, h3, h4⟩ := itS_ok n hy'
    refine ⟨y2, h2, by omega, ?_⟩
    show (itS n (stp m)).out.length ≤ _
    rw [stp_is h]
    rw [hl, List.length_append] at h4
    omega
theorem run_loop (N : Int) : ∀ (k i : Nat) (m : Smachine_Machine) (y : Smemory_Memory), ((i + k : Nat) : Int) = mxx N 0 → i + k ≤ 1000 → OkMa m y → m.out.length + k ≤ 100000 →
    loopO (fun (σ : Smachine_Machine × Int) => machine_Machine_Run.b5 N σ.1 σ.2) (m, (i : Int)) = some (itS k m) := by
  intro k
  induction k with
  | zero =>
    intro i m y hi h1 h ho
    refine loopO_done ?_
    show machine_Machine_Run.b5 N m (i : Int) = _
    unfold machine_Machine_Run.b5
    rw [if_neg (by omega)]
    rfl
  | succ k ih =>
    intro i m y hi h1 h ho
    obtain ⟨⟨y', hy', hyn⟩, ⟨l, hl, hl1⟩, hrest, _⟩ := step_ok h
    have hol : (stepS m y).out.length ≤ m.out.length + 1 := by rw [hl, List.length_append]; omega
    by_cases hs : (stepS m y).status = 0
    · have : machine_Machine_Run.b5 N m (i : Int) = some (.inl (stepS m y, ((i + 1 : Nat) : Int))) := by
        unfold machine_Machine_Run.b5
        rw [if_pos (by omega), step_is h (by omega), Option.bind_some]
        show (if (stepS m y).status = 0 then _ else _) = _
        rw [if_pos hs, w64s (by omega) (by omega)]
        rfl
      rw [loopO_next (b := fun (σ : Smachine_Machine × Int) => machine_Machine_Run.b5 N σ.1 σ.2) (s := (m, (i : Int))) this]
      rw [ih (i + 1) _ y' (by rw [← hi]; congr 1; omega) (by omega) hy' (by omega)]
      show _ = some (itS k (stp m))
      rw [stp_is h]
    · have : machine_Machine_Run.b5 N m (i : Int) = some (.inr (stepS m y)) := by
        unfold machine_Machine_Run.b5
        rw [if_pos (by omega), step_is h (by omega), Option.bind_some]
        show (if (stepS m y).status = 0 then _ else _) = _
        rw [if_neg hs]
      rw [loopO_done this]
      show _ = some (itS k (stp m))
      rw [stp_is h, itS_fix]
      rw [stp_is hy']
      exact (step_ok hy').rest hs
theorem run_is {N : Int} {n : Nat} {m : Smachine_Machine} {y : Smemory_Memory} (hN : (n : Int) = mxx N 0) (hn : n ≤ 1000) (h : OkMa m y) (ho : m.out.length + n ≤ 100000) : machine_Machine_Run m N = some ((itS n m).status, itS n m) := by
  have := run_loop N n 0 m y (by rw [Nat.zero_add]; exact hN) (by omega) h ho
  unfold machine_Machine_Run
  rw [show ((0 : Nat) : Int) = 0 from rfl] at this
  rw [this, Option.bind_some]
  obtain ⟨y', hy', _⟩ := itS_ok n h
  unfold machine_Machine_Run.j1
  rw [hy'.mem]
  rfl
end Go.Proofs.Ytheccnbamcdpmaa.A06
namespace Go.Proofs.Ytheccnbamcdpmaa.T06
open Go Go.RowKit Go.Proofs.Ytheccnbamcdpmaa.E Go.Proofs.Ytheccnbamcdpmaa.A06
theorem words_ok {y : Smemory_Memory} (h : OkM y) : memory_Memory_Words y = some (y.w.toList.take y.n.toNat) := by
  have := h.n0
  have := h.n1
  unfold memory_Memory_Words
  rw [if_pos ⟨by decide, by omega, by omega⟩, clone_is (by simp; omega)]
  rfl
end Go.Proofs.Ytheccnbamcdpmaa.T06
