/- Statement MachinePlays: the Go function of that name answers true for every input; shown by its walk (the contract) and the plain law. No condition: it is the given statement, without anything ahead of it. -/
import Derived.Test.YtheccnbamcdpmaaGreatM6
import Derived.Test.YtheccnbamcdpmaaGreatRows
import Derived.WalkKit
import Derived.ProofKit
import Derived.OpenShut
import Derived.ShutString
import Derived.ChangeOld
import Derived.Below
import Derived.SizedLaws
namespace Go.Proofs.YtheccnbamcdpmaaGreat.RMachinePlays
open Go Go.ChangeShapes Go.WideShapes Go.ChangeAt Go.RowKit Go.Proofs.YtheccnbamcdpmaaGreat.E Go.Proofs.YtheccnbamcdpmaaGreat.ZA
open Go.ChangeMaps (open_string shut_string)
set_option linter.unusedVariables false
set_option maxRecDepth 100000
set_option maxHeartbeats 4000000
theorem ownKn : ownKnob Tryz.prog.godebug = none := by kernel_rfl
theorem laidOut : laidOutB Tryz.prog = true := by kernel_rfl
noncomputable def tT23 : TI X.τ Int := TI.int .u32
noncomputable def eT23 : Enc Int := tT23.E
theorem qT23 : X.E 23 = eT23 := by kernel_rfl
theorem oT23 : OpenP Tryz.prog 23 eT23 (In .u32) := (show eI .u32 = eT23 by kernel_rfl) ▸ openP_int Tryz.underlying23
noncomputable def tT24 : TI X.τ (Vector Int 16) := TI.vec .u32 16
noncomputable def eT24 : Enc (Vector Int 16) := tT24.E
theorem oT24 : OpenP Tryz.prog 24 eT24 (fun y => ∀ j, j < 16 → In .u32 (vx 0 y j)) := openP_arr (E := eT24) Tryz.underlying24 Tryz.underlying23 (by kernel_rfl) (by kernel_rfl) (fun y => vec_enc y)
noncomputable def tT4 : TI X.τ Bool := TI.bool
noncomputable def eT4 : Enc Bool := tT4.E
theorem oT4 : OpenP Tryz.prog 4 eT4 (fun _ => True) := (show eB = eT4 by kernel_rfl) ▸ openP_bool Tryz.underlying4
noncomputable def tT26 : TI X.τ Sapi_Regs := X.ti 26
noncomputable def eT26 : Enc Sapi_Regs := tT26.E
theorem openSapi_Regs : OpenP Tryz.prog 26 eT26 okSapi_Regs := by
  intro H enc w base spare held fuel cs x h hw
  obtain ⟨hl, m, hf⟩ := struct_fields Tryz.underlying26 h hw
  obtain ⟨y0, e0, o0⟩ := fieldOpen (E := eT24) (ft := 24) (o := 0) (n := 16) hf 0 (by kernel_rfl) (by kernel_rfl) oT24
  obtain ⟨y1, e1, o1⟩ := fieldOpen (E := eT23) (ft := 23) (o := 16) (n := 1) hf 1 (by kernel_rfl) (by kernel_rfl) oT23
  obtain ⟨y2, e2, o2⟩ := fieldOpen (E := eT4) (ft := 4) (o := 17) (n := 1) hf 2 (by kernel_rfl) (by kernel_rfl) oT4
  obtain ⟨y3, e3, o3⟩ := fieldOpen (E := eT4) (ft := 4) (o := 18) (n := 1) hf 3 (by kernel_rfl) (by kernel_rfl) oT4
  obtain ⟨y4, e4, o4⟩ := fieldOpen (E := eT4) (ft := 4) (o := 19) (n := 1) hf 4 (by kernel_rfl) (by kernel_rfl) oT4
  obtain ⟨y5, e5, o5⟩ := fieldOpen (E := eT4) (ft := 4) (o := 20) (n := 1) hf 5 (by kernel_rfl) (by kernel_rfl) oT4
  refine ⟨⟨y0, y1, y2, y3, y4, y5⟩, ?_, ⟨o0, o1⟩⟩
  have h0 : cs = eT24.enc y0 ++ (eT23.enc y1 ++ (eT4.enc y2 ++ (eT4.enc y3 ++ (eT4.enc y4 ++ (eT4.enc y5 ++ (cs.drop 21)))))) := by
    have f0 : cs.drop 0 = eT24.enc y0 ++ cs.drop 16 := e0
    have f1 : cs.drop 16 = eT23.enc y1 ++ cs.drop 17 := e1
    have f2 : cs.drop 17 = eT4.enc y2 ++ cs.drop 18 := e2
    have f3 : cs.drop 18 = eT4.enc y3 ++ cs.drop 19 := e3
    have f4 : cs.drop 19 = eT4.enc y4 ++ cs.drop 20 := e4
    have f5 : cs.drop 20 = eT4.enc y5 ++ cs.drop 21 := e5
    rw [List.drop_zero] at f0
    refine f0.trans ?_
    rw [f1, f2, f3, f4, f5]
  have hz : cs.drop 21 = [] := List.drop_of_length_le (by rw [hl]; exact Nat.le_of_eq (by kernel_rfl))
  rw [hz] at h0
  refine h0.trans ?_
  kernel_rfl
theorem lifted (os : Os) (started : os.Started) (H : Type) (enc : TypeId × Value → H) :
    ReturnsInHanded {} Tryz.checked os 3 .any (Rows.machinePlaysSpec.pre6 enc Tryz.prog Tryz.f3 Rows.machinePlaysRow.domain false) (Rows.machinePlaysSpec.post enc Tryz.prog Tryz.f3 false true false false) := by
  refine returnsInHanded_of_change_sized (C := Tryz.checked) ownKn started (by kernel_rfl) Tryz.func3
    (ChangeSpec.witness6 (enc := enc) (C := Tryz.checked) false ⟨#[], #[.slice none 0 0, .agg #[.int .u32 0, .int .u32 0, .int .u32 0, .int .u32 0, .int .u32 0, .int .u32 0, .int .u32 0, .int .u32 0, .int .u32 0, .int .u32 0, .int .u32 0, .int .u32 0, .int .u32 0, .int .u32 0, .int .u32 0, .int .u32 0, .int .u32 0, .bool false, .bool false, .bool false, .bool false, .int .u32 0, .slice none 0 0]], []⟩ 8 (by kernel_rfl) (by kernel_rfl) (by kernel_rfl) (by kernel_rfl)) ?_
  intro W base args ds gs before hval0 hW hcnd hsz0 _
  have hsz : (DataW.weightsEach Tryz.prog (Tryz.f3.params.toList ++ Rows.machinePlaysSpec.plain.varTypes Tryz.prog) (ds ++ gs)).all (· ≤ reachBytes) = true := hsz0
  have hval : ∀ (j : Nat) t v, Tryz.f3.params[j]? = some t → args[j]? = some v → Value.okWide Tryz.prog W .any base t v := hval0
  have hW' := hW
  obtain ⟨p, q, hA0, hV, rfl, hfz, hnd⟩ := hW
  have hA : DataW.TrodAll enc Tryz.prog W 0 (fun _ => true) true Tryz.f3.params.toList args.toList ds p := hA0
  rw [Tryz.params3] at hA hval hsz
  obtain ⟨v0, vs0, d0, ds0, p0, q0, hargs, rfl, rfl, h0, r0⟩ := trodAll_cons hA
  obtain ⟨v1, vs1, d1, ds1, p1, q1, rfl, rfl, rfl, h1, r1⟩ := trodAll_cons r0
  obtain ⟨rfl, rfl, rfl⟩ := trodAll_nil r1
  obtain rfl : args = #[v0, v1] := by cases args; simp_all
  obtain ⟨rfl, rfl⟩ := trodVars_none hV
  have lt0 : ∀ x ∈ p0, x.block < W.heap.size := by obtain ⟨m, hm⟩ := h0; exact DataW.trod_lt m _ _ _ hm
  have k0 := h0
  obtain ⟨A0, c0, l0, rfl, hr0, w0, y0⟩ := E.open_rowP (E := eT23) oT23 Tryz.underlying22 (by kernel_rfl) (B := 4) (by kernel_rfl) (hval 0 22 v0 rfl rfl) h0 hsz (j := 0) rfl rfl
  have lt1 : ∀ x ∈ p1, x.block < W.heap.size := by obtain ⟨m, hm⟩ := h1; exact DataW.trod_lt m _ _ _ hm
  have k1 := h1
  obtain ⟨cs1, rfl, hl1, m1, hf1⟩ := E.open_fields Tryz.underlying28 (hval 1 28 v1 rfl rfl) h1 hsz (j := 1) rfl rfl
  obtain ⟨z1_0, e1_0, x1_0⟩ := E.fieldOpen (E := eT26) (ft := 26) (o := 0) (n := 21) hf1 0 (by kernel_rfl) (by kernel_rfl) openSapi_Regs
  have f1_0 : cs1.toList.drop 0 = eT26.enc z1_0 ++ cs1.toList.drop 21 := e1_0
  obtain ⟨z1_1, e1_1, x1_1⟩ := E.fieldOpen (E := eT23) (ft := 23) (o := 21) (n := 1) hf1 1 (by kernel_rfl) (by kernel_rfl) oT23
  have f1_1 : cs1.toList.drop 21 = eT23.enc z1_1 ++ cs1.toList.drop 22 := e1_1
  obtain ⟨A1_2, c1_2, l1_2, e1_2, hr1_2, x1_2, v1_2⟩ := E.fieldSlice (ft := 22) (o := 22) (E := eT23) (B := 4) hf1 2 (by kernel_rfl) Tryz.underlying22 (by kernel_rfl) oT23 (by kernel_rfl)
  have f1_2 : cs1.toList.drop 22 = ([.slice A1_2 l1_2.length c1_2] : List Value) ++ cs1.toList.drop 23 := e1_2
  rw [List.drop_zero, f1_1, f1_2, List.drop_of_length_le (by rw [hl1]; exact Nat.le_of_eq (by kernel_rfl)), List.append_nil] at f1_0
  obtain rfl : cs1 = (eT26.enc z1_0 ++ (eT23.enc z1_1 ++ (([.slice A1_2 l1_2.length c1_2] : List Value)))).toArray := by rw [← f1_0]
  have w1 : okSrivetlaw06_Set ⟨z1_0, z1_1, l1_2⟩ := ⟨x1_0, x1_1, ⟨x1_2, v1_2⟩⟩
  clear hA0 hval0 hsz0 hsz
  have e1 : (fOs X id (fun _ => 0) rivetlaw06_MachinePlays.C.oi (fAs X id rivetlaw06_MachinePlays.C.ai ((z1_0.R, z1_0.H, z1_0.N, z1_0.Z, z1_0.C, z1_0.V, z1_1, l0, l1_2) : HLs rivetlaw06_MachinePlays.C.I)).2).1 = roL 0 ([⟨23, l0, A0, c0, qT23 ▸ hr0⟩, ⟨23, l1_2, A1_2, c1_2, qT23 ▸ hr1_2⟩] : List (Ro X W)) := by kernel_rfl
  have e2 : (fAs X id rivetlaw06_MachinePlays.C.ai ((z1_0.R, z1_0.H, z1_0.N, z1_0.Z, z1_0.C, z1_0.V, z1_1, l0, l1_2) : HLs rivetlaw06_MachinePlays.C.I)).1 = [.o (.c (.sl 0)), .o (.a (tT26.seg z1_0 ++ (tT23.seg z1_1 ++ ([.sl 1]))))] := by kernel_rfl
  have e3 : AVs (roR ([⟨23, l0, A0, c0, qT23 ▸ hr0⟩, ⟨23, l1_2, A1_2, c1_2, qT23 ▸ hr1_2⟩] : List (Ro X W))) [.o (.c (.sl 0)), .o (.a (tT26.seg z1_0 ++ (tT23.seg z1_1 ++ ([.sl 1]))))] [_, _] := ⟨_, _, rfl, (CR_row (i := 0) rfl), ⟨_, _, rfl, ⟨_, rfl, (CRs.app (tT26.hseg _ z1_0) (CRs.app (tT23.hseg _ z1_1) (CRs.one.2 (CR_row (i := 1) rfl))))⟩, rfl⟩⟩
  refine (rivetlaw06_MachinePlays.ok.law ([⟨23, l0, A0, c0, qT23 ▸ hr0⟩, ⟨23, l1_2, A1_2, c1_2, qT23 ▸ hr1_2⟩] : List (Ro X W)) (h := (z1_0.R, z1_0.H, z1_0.N, z1_0.Z, z1_0.C, z1_0.V, z1_1, l0, l1_2)) (h' := true) (Pure.MachinePlays l0 (⟨z1_0, z1_1, l1_2⟩ : Srivetlaw06_Set) ⟨w0, y0⟩ w1) e1 (by rw [e2]; exact e3) rfl).mono fun e W' hx => ?_
  obtain ⟨v, rfl, ρ', _, _, hv, hr⟩ := hx
  obtain rfl : v = .bool true := (List.cons.inj (show [v] = [.bool true] from hv)).1
  have bel := hr.st.below
  exact ⟨_, rfl, _, _, _, [], _, [], hW', trodAll_mk1 (shut_bool Tryz.underlying4 _), (trodAll_cons_mk (Below.trod laidOut (by kernel_rfl) (of_decide_eq_true (by kernel_rfl)) k0 bel lt0) (trodAll_cons_mk (Below.trod laidOut (by kernel_rfl) (of_decide_eq_true (by kernel_rfl)) k1 bel lt1) trodAll_mk0)), rfl, bel.frame _, fun h => by cases h⟩
theorem over : Rows.machinePlaysRow.holds Tryz.pinned (OpenSpec.ofChange Rows.machinePlaysSpec) :=
  OpenClaim.holds_of_wide 3 Tryz.f3 rfl rfl rfl rfl rfl rfl rfl ⟨rfl, rfl, rfl, rfl, rfl⟩ rfl rfl rfl rfl rfl (by kernel_rfl) Tryz.func3 (by kernel_rfl)
    (of_decide_eq_true (by kernel_rfl)) (by unfold Func.isWrapper; first | (rw [if_pos (by decide +kernel)]; kernel_rfl) | (rw [if_neg (by decide +kernel)]; exact ⟨rfl, rfl⟩))
    (fun os started H enc _ => lifted os started H enc)
end Go.Proofs.YtheccnbamcdpmaaGreat.RMachinePlays
namespace Go.Proofs.YtheccnbamcdpmaaGreat
/-- The statement. -/
theorem machinePlays_holds : Rows.MachinePlaysSaid := RMachinePlays.over
end Go.Proofs.YtheccnbamcdpmaaGreat

