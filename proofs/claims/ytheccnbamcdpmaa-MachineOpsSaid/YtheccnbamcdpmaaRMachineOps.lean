/- Statement MachineOps: the Go function of that name answers true for every input; shown by its walk (the contract) and the plain law. No condition: it is the given statement, without anything ahead of it. -/
import Derived.Test.YtheccnbamcdpmaaRows
import Derived.Test.YtheccnbamcdpmaaT06zMachineOps
import Derived.Test.YtheccnbamcdpmaaB06i
import Derived.Test.YtheccnbamcdpmaaEH
import Derived.WalkKit
import Derived.ProofKit
import Derived.OpenShut
import Derived.ShutString
import Derived.ChangeOld
import Derived.Below
import Derived.SizedLaws
namespace Go.Proofs.Ytheccnbamcdpmaa.RMachineOps
open Go Go.ChangeShapes Go.WideShapes Go.ChangeAt Go.RowKit Go.Proofs.Ytheccnbamcdpmaa.E Go.Proofs.Ytheccnbamcdpmaa.T06
open Go.ChangeMaps (open_string shut_string)
set_option linter.unusedVariables false
theorem ownKn : ownKnob Try.prog.godebug = none := by kernel_rfl
theorem laidOut : laidOutB Try.prog = true := by kernel_rfl
theorem openSapi_Instr : OpenP Try.prog 45 eSapi_Instr okSapi_Instr := by
  intro H enc w base spare held fuel cs x h hw
  obtain ⟨hl, m, hf⟩ := struct_fields Try.underlying45 h hw
  obtain ⟨y0, e0, o0⟩ := fieldOpen (E := (eI .i64)) (ft := 3) (o := 0) (n := 1) hf 0 (by kernel_rfl) rfl (openP_int Try.underlying3)
  obtain ⟨y1, e1, o1⟩ := fieldOpen (E := (eI .i64)) (ft := 3) (o := 1) (n := 1) hf 1 (by kernel_rfl) rfl (openP_int Try.underlying3)
  obtain ⟨y2, e2, o2⟩ := fieldOpen (E := (eI .i64)) (ft := 3) (o := 2) (n := 1) hf 2 (by kernel_rfl) rfl (openP_int Try.underlying3)
  obtain ⟨y3, e3, o3⟩ := fieldOpen (E := (eI .i64)) (ft := 3) (o := 3) (n := 1) hf 3 (by kernel_rfl) rfl (openP_int Try.underlying3)
  obtain ⟨y4, e4, o4⟩ := fieldOpen (E := (eI .i64)) (ft := 3) (o := 4) (n := 1) hf 4 (by kernel_rfl) rfl (openP_int Try.underlying3)
  obtain ⟨y5, e5, o5⟩ := fieldOpen (E := (eI .i64)) (ft := 3) (o := 5) (n := 1) hf 5 (by kernel_rfl) rfl (openP_int Try.underlying3)
  obtain ⟨y6, e6, o6⟩ := fieldOpen (E := eB) (ft := 4) (o := 6) (n := 1) hf 6 (by kernel_rfl) rfl (openP_bool Try.underlying4)
  refine ⟨⟨y0, y1, y2, y3, y4, y5, y6⟩, ?_, ⟨o0, o1, o2, o3, o4, o5⟩⟩
  have h0 : cs = (eI .i64).enc y0 ++ ((eI .i64).enc y1 ++ ((eI .i64).enc y2 ++ ((eI .i64).enc y3 ++ ((eI .i64).enc y4 ++ ((eI .i64).enc y5 ++ (eB.enc y6 ++ (cs.drop 7))))))) := by
    have f0 : cs.drop 0 = (eI .i64).enc y0 ++ cs.drop 1 := e0
    have f1 : cs.drop 1 = (eI .i64).enc y1 ++ cs.drop 2 := e1
    have f2 : cs.drop 2 = (eI .i64).enc y2 ++ cs.drop 3 := e2
    have f3 : cs.drop 3 = (eI .i64).enc y3 ++ cs.drop 4 := e3
    have f4 : cs.drop 4 = (eI .i64).enc y4 ++ cs.drop 5 := e4
    have f5 : cs.drop 5 = (eI .i64).enc y5 ++ cs.drop 6 := e5
    have f6 : cs.drop 6 = eB.enc y6 ++ cs.drop 7 := e6
    rw [List.drop_zero] at f0
    refine f0.trans ?_
    rw [f1, f2, f3, f4, f5, f6]
  have hz : cs.drop 7 = [] := List.drop_of_length_le (by rw [hl]; exact Nat.le_of_eq (by kernel_rfl))
  rw [hz] at h0
  refine h0.trans ?_
  kernel_rfl
theorem openSapi_Regs : OpenP Try.prog 26 eSapi_Regs okSapi_Regs := by
  intro H enc w base spare held fuel cs x h hw
  obtain ⟨hl, m, hf⟩ := struct_fields Try.underlying26 h hw
  obtain ⟨y0, e0, o0⟩ := fieldOpen (E := eA24) (ft := 24) (o := 0) (n := 16) hf 0 (by kernel_rfl) rfl (openP_arr (E := eA24) Try.underlying24 Try.underlying23 (by kernel_rfl) (by kernel_rfl) (fun _ => rfl))
  obtain ⟨y1, e1, o1⟩ := fieldOpen (E := (eI .u32)) (ft := 23) (o := 16) (n := 1) hf 1 (by kernel_rfl) rfl (openP_int Try.underlying23)
  obtain ⟨y2, e2, o2⟩ := fieldOpen (E := eB) (ft := 4) (o := 17) (n := 1) hf 2 (by kernel_rfl) rfl (openP_bool Try.underlying4)
  obtain ⟨y3, e3, o3⟩ := fieldOpen (E := eB) (ft := 4) (o := 18) (n := 1) hf 3 (by kernel_rfl) rfl (openP_bool Try.underlying4)
  obtain ⟨y4, e4, o4⟩ := fieldOpen (E := eB) (ft := 4) (o := 19) (n := 1) hf 4 (by kernel_rfl) rfl (openP_bool Try.underlying4)
  obtain ⟨y5, e5, o5⟩ := fieldOpen (E := eB) (ft := 4) (o := 20) (n := 1) hf 5 (by kernel_rfl) rfl (openP_bool Try.underlying4)
  refine ⟨⟨y0, y1, y2, y3, y4, y5⟩, ?_, ⟨o0, o1⟩⟩
  have h0 : cs = eA24.enc y0 ++ ((eI .u32).enc y1 ++ (eB.enc y2 ++ (eB.enc y3 ++ (eB.enc y4 ++ (eB.enc y5 ++ (cs.drop 21)))))) := by
    have f0 : cs.drop 0 = eA24.enc y0 ++ cs.drop 16 := e0
    have f1 : cs.drop 16 = (eI .u32).enc y1 ++ cs.drop 17 := e1
    have f2 : cs.drop 17 = eB.enc y2 ++ cs.drop 18 := e2
    have f3 : cs.drop 18 = eB.enc y3 ++ cs.drop 19 := e3
    have f4 : cs.drop 19 = eB.enc y4 ++ cs.drop 20 := e4
    have f5 : cs.drop 20 = eB.enc y5 ++ cs.drop 21 := e5
    rw [List.drop_zero] at f0
    refine f0.trans ?_
    rw [f1, f2, f3, f4, f5]
  have hz : cs.drop 21 = [] := List.drop_of_length_le (by rw [hl]; exact Nat.le_of_eq (by kernel_rfl))
  rw [hz] at h0
  refine h0.trans ?_
  kernel_rfl
set_option maxRecDepth 100000 in
theorem lifted (os : Os) (started : os.Started) (H : Type) (enc : TypeId × Value → H) :
    ReturnsInHanded {} Try.checked os 4 .any (Rows.machineOpsSpec.pre6 enc Try.prog Try.f4 Rows.machineOpsRow.domain false) (Rows.machineOpsSpec.post enc Try.prog Try.f4 false true false false) := by
  refine returnsInHanded_of_change_sized (C := Try.checked) ownKn started (by kernel_rfl) Try.func4
    (ChangeSpec.witness6 (enc := enc) (C := Try.checked) false ⟨#[], #[.agg #[.int .i64 0, .int .i64 0, .int .i64 0, .int .i64 0, .int .i64 0, .int .i64 0, .bool false], .agg #[.int .u32 0, .int .u32 0, .int .u32 0, .int .u32 0, .int .u32 0, .int .u32 0, .int .u32 0, .int .u32 0, .int .u32 0, .int .u32 0, .int .u32 0, .int .u32 0, .int .u32 0, .int .u32 0, .int .u32 0, .int .u32 0, .int .u32 0, .bool false, .bool false, .bool false, .bool false, .int .u32 0, .slice none 0 0]], []⟩ 8 (by kernel_rfl) (by kernel_rfl) (by kernel_rfl) (by kernel_rfl)) ?_
  intro W base args ds gs before hval0 hW hcnd hsz0 _
  have hsz : (DataW.weightsEach Try.prog (Try.f4.params.toList ++ Rows.machineOpsSpec.plain.varTypes Try.prog) (ds ++ gs)).all (· ≤ reachBytes) = true := hsz0
  have hval : ∀ (j : Nat) t v, Try.f4.params[j]? = some t → args[j]? = some v → Value.okWide Try.prog W .any base t v := hval0
  have hW' := hW
  obtain ⟨p, q, hA0, hV, rfl, hfz, hnd⟩ := hW
  have hA : DataW.TrodAll enc Try.prog W 0 (fun _ => true) true Try.f4.params.toList args.toList ds p := hA0
  rw [Try.params4] at hA hval hsz
  obtain ⟨v0, vs0, d0, ds0, p0, q0, hargs, rfl, rfl, h0, r0⟩ := trodAll_cons hA
  obtain ⟨v1, vs1, d1, ds1, p1, q1, rfl, rfl, rfl, h1, r1⟩ := trodAll_cons r0
  obtain ⟨rfl, rfl, rfl⟩ := trodAll_nil r1
  obtain rfl : args = #[v0, v1] := by cases args; simp_all
  obtain ⟨rfl, rfl⟩ := trodVars_none hV
  have lt0 : ∀ x ∈ p0, x.block < W.heap.size := by obtain ⟨m, hm⟩ := h0; exact DataW.trod_lt m _ _ _ hm
  have k0 := h0
  obtain ⟨a0, rfl, w0⟩ := E.open_struct openSapi_Instr Try.underlying45 (hval 0 45 v0 rfl rfl) h0 hsz (j := 0) rfl rfl
  have lt1 : ∀ x ∈ p1, x.block < W.heap.size := by obtain ⟨m, hm⟩ := h1; exact DataW.trod_lt m _ _ _ hm
  have k1 := h1
  obtain ⟨cs1, rfl, hl1, m1, hf1⟩ := E.open_fields Try.underlying28 (hval 1 28 v1 rfl rfl) h1 hsz (j := 1) rfl rfl
  obtain ⟨z1_0, e1_0, x1_0⟩ := E.fieldOpen (E := eSapi_Regs) (ft := 26) (o := 0) (n := 21) hf1 0 (by kernel_rfl) rfl openSapi_Regs
  obtain ⟨z1_1, e1_1, x1_1⟩ := E.fieldOpen (E := (eI .u32)) (ft := 23) (o := 21) (n := 1) hf1 1 (by kernel_rfl) rfl (openP_int Try.underlying23)
  obtain ⟨A1_2, c1_2, l1_2, e1_2, hr1_2, x1_2, v1_2⟩ := E.fieldSlice (ft := 22) (o := 22) (E := (eI .u32)) (B := 4) hf1 2 (by kernel_rfl) Try.underlying22 (by kernel_rfl) (openP_int Try.underlying23) (by kernel_rfl)
  have f1_0 : cs1.toList.drop 0 = [.int .u32 (vx 0 z1_0.R 0), .int .u32 (vx 0 z1_0.R 1), .int .u32 (vx 0 z1_0.R 2), .int .u32 (vx 0 z1_0.R 3), .int .u32 (vx 0 z1_0.R 4), .int .u32 (vx 0 z1_0.R 5), .int .u32 (vx 0 z1_0.R 6), .int .u32 (vx 0 z1_0.R 7), .int .u32 (vx 0 z1_0.R 8), .int .u32 (vx 0 z1_0.R 9), .int .u32 (vx 0 z1_0.R 10), .int .u32 (vx 0 z1_0.R 11), .int .u32 (vx 0 z1_0.R 12), .int .u32 (vx 0 z1_0.R 13), .int .u32 (vx 0 z1_0.R 14), .int .u32 (vx 0 z1_0.R 15), .int .u32 z1_0.H, .bool z1_0.N, .bool z1_0.Z, .bool z1_0.C, .bool z1_0.V] ++ cs1.toList.drop 21 := e1_0
  have f1_1 : cs1.toList.drop 21 = [.int .u32 z1_1] ++ cs1.toList.drop 22 := e1_1
  have f1_2 : cs1.toList.drop 22 = [.slice A1_2 l1_2.length c1_2] ++ cs1.toList.drop 23 := e1_2
  rw [List.drop_zero, f1_1, f1_2, List.drop_of_length_le (by rw [hl1]; exact Nat.le_of_eq (by kernel_rfl))] at f1_0
  obtain rfl : cs1 = #[.int .u32 (vx 0 z1_0.R 0), .int .u32 (vx 0 z1_0.R 1), .int .u32 (vx 0 z1_0.R 2), .int .u32 (vx 0 z1_0.R 3), .int .u32 (vx 0 z1_0.R 4), .int .u32 (vx 0 z1_0.R 5), .int .u32 (vx 0 z1_0.R 6), .int .u32 (vx 0 z1_0.R 7), .int .u32 (vx 0 z1_0.R 8), .int .u32 (vx 0 z1_0.R 9), .int .u32 (vx 0 z1_0.R 10), .int .u32 (vx 0 z1_0.R 11), .int .u32 (vx 0 z1_0.R 12), .int .u32 (vx 0 z1_0.R 13), .int .u32 (vx 0 z1_0.R 14), .int .u32 (vx 0 z1_0.R 15), .int .u32 z1_0.H, .bool z1_0.N, .bool z1_0.Z, .bool z1_0.C, .bool z1_0.V, .int .u32 z1_1, .slice A1_2 l1_2.length c1_2] := by cases cs1; simpa using f1_0
  have w1 : okSrivetlaw06_Set ⟨z1_0, z1_1, l1_2⟩ := ⟨x1_0, x1_1, x1_2, v1_2⟩
  clear hA0 hval0 hsz0 hsz
  refine (rivetlaw06_MachineOps.calls a0 (⟨z1_0, z1_1, l1_2⟩ : Srivetlaw06_Set) A1_2 c1_2 true W hr1_2 (Pure.MachineOps a0 (⟨z1_0, z1_1, l1_2⟩ : Srivetlaw06_Set) w0 w1)).mono fun e W' hx => ?_
  obtain ⟨rfl, hst⟩ := hx
  have bel := hst.below
  exact ⟨_, rfl, _, _, _, [], _, [], hW', trodAll_mk1 (shut_bool Try.underlying4 _), (trodAll_cons_mk (Below.trod laidOut (by kernel_rfl) (of_decide_eq_true (by kernel_rfl)) k0 bel lt0) (trodAll_cons_mk (Below.trod laidOut (by kernel_rfl) (of_decide_eq_true (by kernel_rfl)) k1 bel lt1) trodAll_mk0)), rfl, bel.frame _, fun h => by cases h⟩
theorem over : Rows.machineOpsRow.holds Try.pinned (OpenSpec.ofChange Rows.machineOpsSpec) :=
  OpenClaim.holds_of_wide 4 Try.f4 rfl rfl rfl rfl rfl rfl rfl ⟨rfl, rfl, rfl, rfl, rfl⟩ rfl rfl rfl rfl rfl (by kernel_rfl) Try.func4 (by kernel_rfl)
    (of_decide_eq_true (by kernel_rfl)) (by unfold Func.isWrapper; first | (rw [if_pos (by decide +kernel)]; kernel_rfl) | (rw [if_neg (by decide +kernel)]; exact ⟨rfl, rfl⟩))
    (fun os started H enc _ => lifted os started H enc)
end Go.Proofs.Ytheccnbamcdpmaa.RMachineOps
namespace Go.Proofs.Ytheccnbamcdpmaa
/-- The statement. -/
theorem machineOps_holds : Rows.MachineOpsSaid := RMachineOps.over
end Go.Proofs.Ytheccnbamcdpmaa

