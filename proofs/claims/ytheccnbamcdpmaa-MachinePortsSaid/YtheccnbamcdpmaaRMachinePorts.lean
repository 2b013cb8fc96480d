/- Statement MachinePorts: the Go function of that name answers true for every input; shown by its walk (the contract) and the plain law. No condition: it is the given statement, without anything ahead of it. -/
import Derived.Test.YtheccnbamcdpmaaRows
import Derived.Test.YtheccnbamcdpmaaT06zMachinePorts
import Derived.Test.YtheccnbamcdpmaaB06m
import Derived.Test.YtheccnbamcdpmaaEH
import Derived.WalkKit
import Derived.ProofKit
import Derived.OpenShut
import Derived.ShutString
import Derived.ChangeOld
import Derived.Below
import Derived.SizedLaws
namespace Go.Proofs.Ytheccnbamcdpmaa.RMachinePorts
open Go Go.ChangeShapes Go.WideShapes Go.ChangeAt Go.RowKit Go.Proofs.Ytheccnbamcdpmaa.E Go.Proofs.Ytheccnbamcdpmaa.T06
open Go.ChangeMaps (open_string shut_string)
set_option linter.unusedVariables false
theorem ownKn : ownKnob Try.prog.godebug = none := by kernel_rfl
theorem laidOut : laidOutB Try.prog = true := by kernel_rfl
set_option maxRecDepth 100000 in
theorem lifted (os : Os) (started : os.Started) (H : Type) (enc : TypeId × Value → H) :
    ReturnsInHanded {} Try.checked os 8 .any (Rows.machinePortsSpec.pre6 enc Try.prog Try.f8 Rows.machinePortsRow.domain false) (Rows.machinePortsSpec.post enc Try.prog Try.f8 false true false false) := by
  refine returnsInHanded_of_change_sized (C := Try.checked) ownKn started (by kernel_rfl) Try.func8
    (ChangeSpec.witness6 (enc := enc) (C := Try.checked) false ⟨#[], #[.slice none 0 0], []⟩ 8 (by kernel_rfl) (by kernel_rfl) (by kernel_rfl) (by kernel_rfl)) ?_
  intro W base args ds gs before hval0 hW hcnd hsz0 _
  have hsz : (DataW.weightsEach Try.prog (Try.f8.params.toList ++ Rows.machinePortsSpec.plain.varTypes Try.prog) (ds ++ gs)).all (· ≤ reachBytes) = true := hsz0
  have hval : ∀ (j : Nat) t v, Try.f8.params[j]? = some t → args[j]? = some v → Value.okWide Try.prog W .any base t v := hval0
  have hW' := hW
  obtain ⟨p, q, hA0, hV, rfl, hfz, hnd⟩ := hW
  have hA : DataW.TrodAll enc Try.prog W 0 (fun _ => true) true Try.f8.params.toList args.toList ds p := hA0
  rw [Try.params8] at hA hval hsz
  obtain ⟨v0, vs0, d0, ds0, p0, q0, hargs, rfl, rfl, h0, r0⟩ := trodAll_cons hA
  obtain ⟨rfl, rfl, rfl⟩ := trodAll_nil r0
  obtain rfl : args = #[v0] := by cases args; simp_all
  obtain ⟨rfl, rfl⟩ := trodVars_none hV
  have lt0 : ∀ x ∈ p0, x.block < W.heap.size := by obtain ⟨m, hm⟩ := h0; exact DataW.trod_lt m _ _ _ hm
  have k0 := h0
  obtain ⟨A0, c0, l0, rfl, hr0, w0, y0⟩ := E.open_row (hval 0 22 v0 rfl rfl) h0 Try.underlying22 Try.underlying23 (by kernel_rfl) hsz (j := 0) rfl rfl (B := 4) (by kernel_rfl)
  clear hA0 hval0 hsz0 hsz
  refine (rivetlaw06_MachinePorts.calls A0 c0 l0 true W hr0 (Pure.MachinePorts l0 w0 y0)).mono fun e W' hx => ?_
  obtain ⟨rfl, hst⟩ := hx
  have bel := hst.below
  exact ⟨_, rfl, _, _, _, [], _, [], hW', trodAll_mk1 (shut_bool Try.underlying4 _), (trodAll_cons_mk (Below.trod laidOut (by kernel_rfl) (of_decide_eq_true (by kernel_rfl)) k0 bel lt0) trodAll_mk0), rfl, bel.frame _, fun h => by cases h⟩
theorem over : Rows.machinePortsRow.holds Try.pinned (OpenSpec.ofChange Rows.machinePortsSpec) :=
  OpenClaim.holds_of_wide 8 Try.f8 rfl rfl rfl rfl rfl rfl rfl ⟨rfl, rfl, rfl, rfl, rfl⟩ rfl rfl rfl rfl rfl (by kernel_rfl) Try.func8 (by kernel_rfl)
    (of_decide_eq_true (by kernel_rfl)) (by unfold Func.isWrapper; first | (rw [if_pos (by decide +kernel)]; kernel_rfl) | (rw [if_neg (by decide +kernel)]; exact ⟨rfl, rfl⟩))
    (fun os started H enc _ => lifted os started H enc)
end Go.Proofs.Ytheccnbamcdpmaa.RMachinePorts
namespace Go.Proofs.Ytheccnbamcdpmaa
/-- The statement. -/
theorem machinePorts_holds : Rows.MachinePortsSaid := RMachinePorts.over
end Go.Proofs.Ytheccnbamcdpmaa

