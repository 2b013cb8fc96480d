/- Statement MachineLinks: the Go function of that name answers true for every input; shown by its walk (the contract) and the plain law. No condition: it is the given statement, without anything ahead of it. -/
import Derived.Test.YtheccnbamcdpmaaRows
import Derived.Test.YtheccnbamcdpmaaT06zMachineLinks
import Derived.Test.YtheccnbamcdpmaaB06j
import Derived.Test.YtheccnbamcdpmaaEH
import Derived.WalkKit
import Derived.ProofKit
import Derived.OpenShut
import Derived.ShutString
import Derived.ChangeOld
import Derived.Below
import Derived.SizedLaws
namespace Go.Proofs.Ytheccnbamcdpmaa.RMachineLinks
open Go Go.ChangeShapes Go.WideShapes Go.ChangeAt Go.RowKit Go.Proofs.Ytheccnbamcdpmaa.E Go.Proofs.Ytheccnbamcdpmaa.T06
open Go.ChangeMaps (open_string shut_string)
set_option linter.unusedVariables false
theorem ownKn : ownKnob Try.prog.godebug = none := by kernel_rfl
theorem laidOut : laidOutB Try.prog = true := by kernel_rfl
theorem openSapi_Regs : OpenP Try.prog 26 eSapi_Regs okSapi_Regs := by
  intro H enc w base spare held fuel cs x h hw
  obtain ⟨hl, m, hf⟩ := struct_fields Try.underlying26 h hw
  obtain ⟨y0, e0, o0⟩ := fieldOpen (E := eA24) (ft := 24) (o := 0) (n := 16) hf 0 (by kernel_rfl) rfl (openP_arr (E := eA24) Try.underlying24 Try.underlying23 (by kernel_rfl) (by kernel_rfl) (fun _ => rfl))
  obtain ⟨y1, e1, o1⟩ := fieldOpen (E := (eI .u32)) (ft := 23) (o := 16) (n := 1) hf 1 (by kernel_rfl) rfl (openP_int Try.underlying23)
  obtain ⟨y2, e2, o2⟩ := fieldOpen (E := eB) (ft := 4) (o := 17) (n := 1) hf 2 (by kernel_rfl) rfl (openP_bool Try.underlying4)
  obtain ⟨y3, e3, o3⟩ := fieldOpen (E := eB) (ft := 4) (o := 18) (n := 1) hf 3 (by kernel_rfl) rfl (openP_bool Try.underlying4)
  obtain ⟨y4, e4, o4⟩ := fieldOpen (E := eB) (ft := 4) (o := 19) (n := 1) hf 4 (by kernel_rfl) rfl (openP_bool Try.underlying4)
  obtain ⟨y5, e5, o5⟩ := fieldOpen (E := eB) (ft := 4) (o := 20) (n := 1) hf 5 (by kernel_rfl) rfl (openP_bool Try.underlying4)
  refine ⟨⟨y0, y1, y2, y3, y4, y5⟩, ?_, ⟨o0, o1⟩⟩
  have h0 : cs = eA24.enc y0 ++ ((eI .u32).enc y1 ++ (eB.enc y2 ++ (eB.enc y3 ++ (eB.enc y4 ++ (eB.enc y5 ++ (cs.drop 21)))))) := by
    have f0 : cs.drop 0 = eA24.enc y0 ++ cs.drop 16 := e0
    have f1 : cs.drop 16 = (eI .u32).enc y1 ++ cs.drop 17 := e1
    have f2 : cs.drop 17 = eB.enc y2 ++ cs.drop 18 := e2
    have f3 : cs.drop 18 = eB.enc y3 ++ cs.drop 19 := e3
    have f4 : cs.drop 19 = eB.enc y4 ++ cs.drop 20 := e4
    have f5 : cs.drop 20 = eB.enc y5 ++ cs.drop 21 := e5
    rw [List.drop_zero] at f0
    refine f0.trans ?_
    rw [f1, f2, f3, f4, f5]
  have hz : cs.drop 21 = [] := List.drop_of_length_le (by rw [hl]; exact Nat.le_of_eq (by kernel_rfl))
  rw [hz] at h0
  refine h0.trans ?_
  kernel_rfl
set_option maxRecDepth 100000 in
theorem lifted (os : Os) (started : os.Started) (H : Type) (enc : TypeId × Value → H) :
    ReturnsInHanded {} Try.checked os 5 .any (Rows.machineLinksSpec.pre6 enc Try.prog Try.f5 Rows.machineLinksRow.domain false) (Rows.machineLinksSpec.post enc Try.prog Try.f5 false true false false) := by
  refine returnsInHanded_of_change_sized (C := Try.checked) ownKn started (by kernel_rfl) Try.func5
    (ChangeSpec.witness6 (enc := enc) (C := Try.checked) false ⟨#[], #[.agg #[.int .u32 0, .int .u32 0, .int .u32 0, .int .u32 0, .int .u32 0, .int .u32 0, .int .u32 0, .int .u32 0, .int .u32 0, .int .u32 0, .int .u32 0, .int .u32 0, .int .u32 0, .int .u32 0, .int .u32 0, .int .u32 0, .int .u32 0, .bool false, .bool false, .bool false, .bool false], .int .u8 0, .int .u8 0], []⟩ 8 (by kernel_rfl) (by kernel_rfl) (by kernel_rfl) (by kernel_rfl)) ?_
  intro W base args ds gs before hval0 hW hcnd hsz0 _
  have hsz : (DataW.weightsEach Try.prog (Try.f5.params.toList ++ Rows.machineLinksSpec.plain.varTypes Try.prog) (ds ++ gs)).all (· ≤ reachBytes) = true := hsz0
  have hval : ∀ (j : Nat) t v, Try.f5.params[j]? = some t → args[j]? = some v → Value.okWide Try.prog W .any base t v := hval0
  have hW' := hW
  obtain ⟨p, q, hA0, hV, rfl, hfz, hnd⟩ := hW
  have hA : DataW.TrodAll enc Try.prog W 0 (fun _ => true) true Try.f5.params.toList args.toList ds p := hA0
  rw [Try.params5] at hA hval hsz
  obtain ⟨v0, vs0, d0, ds0, p0, q0, hargs, rfl, rfl, h0, r0⟩ := trodAll_cons hA
  obtain ⟨v1, vs1, d1, ds1, p1, q1, rfl, rfl, rfl, h1, r1⟩ := trodAll_cons r0
  obtain ⟨v2, vs2, d2, ds2, p2, q2, rfl, rfl, rfl, h2, r2⟩ := trodAll_cons r1
  obtain ⟨rfl, rfl, rfl⟩ := trodAll_nil r2
  obtain rfl : args = #[v0, v1, v2] := by cases args; simp_all
  obtain ⟨rfl, rfl⟩ := trodVars_none hV
  have lt0 : ∀ x ∈ p0, x.block < W.heap.size := by obtain ⟨m, hm⟩ := h0; exact DataW.trod_lt m _ _ _ hm
  have k0 := h0
  obtain ⟨a0, rfl, w0⟩ := E.open_struct openSapi_Regs Try.underlying26 (hval 0 26 v0 rfl rfl) h0 hsz (j := 0) rfl rfl
  obtain ⟨a1, rfl, rfl, rfl, w1⟩ := open_int Try.underlying5 (hval 1 5 v1 rfl rfl) h1
  obtain ⟨a2, rfl, rfl, rfl, w2⟩ := open_int Try.underlying5 (hval 2 5 v2 rfl rfl) h2
  clear hA0 hval0 hsz0 hsz
  refine (rivetlaw06_MachineLinks.calls a0 a1 a2 true W  (Pure.MachineLinks a0 a1 a2 w0 w1 w2)).mono fun e W' hx => ?_
  obtain ⟨rfl, hst⟩ := hx
  have bel := hst.below
  exact ⟨_, rfl, _, _, _, [], _, [], hW', trodAll_mk1 (shut_bool Try.underlying4 _), (trodAll_cons_mk (Below.trod laidOut (by kernel_rfl) (of_decide_eq_true (by kernel_rfl)) k0 bel lt0) (trodAll_cons_mk (shut_int Try.underlying5 w1) (trodAll_cons_mk (shut_int Try.underlying5 w2) trodAll_mk0))), rfl, bel.frame _, fun h => by cases h⟩
theorem over : Rows.machineLinksRow.holds Try.pinned (OpenSpec.ofChange Rows.machineLinksSpec) :=
  OpenClaim.holds_of_wide 5 Try.f5 rfl rfl rfl rfl rfl rfl rfl ⟨rfl, rfl, rfl, rfl, rfl⟩ rfl rfl rfl rfl rfl (by kernel_rfl) Try.func5 (by kernel_rfl)
    (of_decide_eq_true (by kernel_rfl)) (by unfold Func.isWrapper; first | (rw [if_pos (by decide +kernel)]; kernel_rfl) | (rw [if_neg (by decide +kernel)]; exact ⟨rfl, rfl⟩))
    (fun os started H enc _ => lifted os started H enc)
end Go.Proofs.Ytheccnbamcdpmaa.RMachineLinks
namespace Go.Proofs.Ytheccnbamcdpmaa
/-- The statement. -/
theorem machineLinks_holds : Rows.MachineLinksSaid := RMachineLinks.over
end Go.Proofs.Ytheccnbamcdpmaa

