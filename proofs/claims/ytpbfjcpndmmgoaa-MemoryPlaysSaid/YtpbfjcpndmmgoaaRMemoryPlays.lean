/- Statement MemoryPlays: the Go function of that name answers true for every input; shown by its walk (the contract) and the plain law. No condition: it is the given statement, without anything ahead of it. -/
import Derived.Test.YtpbfjcpndmmgoaaM6
import Derived.Test.YtpbfjcpndmmgoaaRows
import Derived.WalkKit
import Derived.ProofKit
import Derived.OpenShut
import Derived.ShutString
import Derived.ChangeOld
import Derived.Below
import Derived.SizedLaws
namespace Go.Proofs.Ytpbfjcpndmmgoaa.RMemoryPlays
open Go Go.ChangeShapes Go.WideShapes Go.ChangeAt Go.RowKit Go.Proofs.Ytpbfjcpndmmgoaa.E Go.Proofs.Ytpbfjcpndmmgoaa.MP
open Go.ChangeMaps (open_string shut_string)
set_option linter.unusedVariables false
set_option maxRecDepth 100000
set_option maxHeartbeats 4000000
theorem ownKn : ownKnob Try.prog.godebug = none := by kernel_rfl
theorem laidOut : laidOutB Try.prog = true := by kernel_rfl
noncomputable def tT5 : TI X.τ Int := TI.int .u8
noncomputable def eT5 : Enc Int := tT5.E
theorem oT5 : OpenP Try.prog 5 eT5 (In .u8) := (show eI .u8 = eT5 by kernel_rfl) ▸ openP_int Try.underlying5
noncomputable def tT3 : TI X.τ Int := TI.int .i64
noncomputable def eT3 : Enc Int := tT3.E
theorem oT3 : OpenP Try.prog 3 eT3 (In .i64) := (show eI .i64 = eT3 by kernel_rfl) ▸ openP_int Try.underlying3
noncomputable def tT23 : TI X.τ Int := TI.int .u32
noncomputable def eT23 : Enc Int := tT23.E
theorem qT23 : X.E 23 = eT23 := by kernel_rfl
theorem oT23 : OpenP Try.prog 23 eT23 (In .u32) := (show eI .u32 = eT23 by kernel_rfl) ▸ openP_int Try.underlying23
theorem openDSrivetlaw05_Call : OpenD X Try.prog 57 okSrivetlaw05_Call := by
  intro H enc w base spare held fuel cs x h hw
  obtain ⟨hl, m, hf⟩ := struct_fields Try.underlying57 h hw
  obtain ⟨z0, e0, x0⟩ := E.fieldOpen (E := eT3) (ft := 3) (o := 0) (n := 1) hf 0 (by kernel_rfl) (by kernel_rfl) oT3
  have f0 : cs.drop 0 = eT3.enc z0 ++ cs.drop 1 := e0
  obtain ⟨z1, e1, x1⟩ := E.fieldOpen (E := eT23) (ft := 23) (o := 1) (n := 1) hf 1 (by kernel_rfl) (by kernel_rfl) oT23
  have f1 : cs.drop 1 = eT23.enc z1 ++ cs.drop 2 := e1
  obtain ⟨z2, e2, x2⟩ := E.fieldOpen (E := eT23) (ft := 23) (o := 2) (n := 1) hf 2 (by kernel_rfl) (by kernel_rfl) oT23
  have f2 : cs.drop 2 = eT23.enc z2 ++ cs.drop 3 := e2
  obtain ⟨A3, c3, l3, e3, hr3, x3, v3⟩ := E.fieldSlice (ft := 22) (o := 3) (E := eT23) (B := 4) hf 3 (by kernel_rfl) Try.underlying22 (by kernel_rfl) oT23 (by kernel_rfl)
  have f3 : cs.drop 3 = ([.slice A3 l3.length c3] : List Value) ++ cs.drop 4 := e3
  rw [List.drop_zero, f1, f2, f3, List.drop_of_length_le (by rw [hl]; exact Nat.le_of_eq (by kernel_rfl)), List.append_nil] at f0
  refine ⟨(⟨z0, z1, z2, l3⟩ : Srivetlaw05_Call), ?_, ⟨x0, x1, x2, ⟨x3, v3⟩⟩⟩
  rw [f0]
  show RRepL X _ w [.c (.int .i64 z0), .c (.int .u32 z1), .c (.int .u32 z2), .sl 23 l3] (eT3.enc z0 ++ (eT23.enc z1 ++ (eT23.enc z2 ++ (([.slice A3 l3.length c3] : List Value)))))
  exact ⟨eT3.enc z0, _, rfl, rfl, eT23.enc z1, _, rfl, rfl, eT23.enc z2, _, rfl, rfl, A3, c3, _, rfl, (qT23 ▸ hr3), rfl⟩
theorem lifted (os : Os) (started : os.Started) (H : Type) (enc : TypeId × Value → H) :
    ReturnsInHanded {} Try.checked os 10 .any (Rows.memoryPlaysSpec.pre6 enc Try.prog Try.f10 Rows.memoryPlaysRow.domain false) (Rows.memoryPlaysSpec.post enc Try.prog Try.f10 false true false false) := by
  refine returnsInHanded_of_change_sized (C := Try.checked) ownKn started (by kernel_rfl) Try.func10
    (ChangeSpec.witness6 (enc := enc) (C := Try.checked) false ⟨#[], #[.int .u8 0, .int .i64 0, .slice none 0 0], []⟩ 8 (by kernel_rfl) (by kernel_rfl) (by kernel_rfl) (by kernel_rfl)) ?_
  intro W base args ds gs before hval0 hW hcnd hsz0 _
  have hsz : (DataW.weightsEach Try.prog (Try.f10.params.toList ++ Rows.memoryPlaysSpec.plain.varTypes Try.prog) (ds ++ gs)).all (· ≤ reachBytes) = true := hsz0
  have hval : ∀ (j : Nat) t v, Try.f10.params[j]? = some t → args[j]? = some v → Value.okWide Try.prog W .any base t v := hval0
  have hW' := hW
  obtain ⟨p, q, hA0, hV, rfl, hfz, hnd⟩ := hW
  have hA : DataW.TrodAll enc Try.prog W 0 (fun _ => true) true Try.f10.params.toList args.toList ds p := hA0
  rw [Try.params10] at hA hval hsz
  obtain ⟨v0, vs0, d0, ds0, p0, q0, hargs, rfl, rfl, h0, r0⟩ := trodAll_cons hA
  obtain ⟨v1, vs1, d1, ds1, p1, q1, rfl, rfl, rfl, h1, r1⟩ := trodAll_cons r0
  obtain ⟨v2, vs2, d2, ds2, p2, q2, rfl, rfl, rfl, h2, r2⟩ := trodAll_cons r1
  obtain ⟨rfl, rfl, rfl⟩ := trodAll_nil r2
  obtain rfl : args = #[v0, v1, v2] := by cases args; simp_all
  obtain ⟨rfl, rfl⟩ := trodVars_none hV
  obtain ⟨a0, rfl, rfl, rfl, w0⟩ := open_int Try.underlying5 (hval 0 5 v0 rfl rfl) h0
  obtain ⟨a1, rfl, rfl, rfl, w1⟩ := open_int Try.underlying3 (hval 1 3 v1 rfl rfl) h1
  have lt2 : ∀ x ∈ p2, x.block < W.heap.size := by obtain ⟨m, hm⟩ := h2; exact DataW.trod_lt m _ _ _ hm
  have k2 := h2
  obtain ⟨A2, c2, l2, f2, rfl, hr2, w2, y2⟩ := E.open_rowD (X := X) (e := 57) openDSrivetlaw05_Call Try.underlying52 (by kernel_rfl) (B := 40) (by kernel_rfl) (hval 2 52 v2 rfl rfl) h2 hsz (j := 2) rfl rfl
  clear hA0 hval0 hsz0 hsz
  have e1 : (fOs X id (fun _ => 0) rivetlaw05_MemoryPlays.C.oi (fAs X id rivetlaw05_MemoryPlays.C.ai ((a0, a1, l2) : HLs rivetlaw05_MemoryPlays.C.I)).2).1 = roL 0 ([roD 57 l2 A2 c2 f2 hr2] : List (Ro X W)) := by kernel_rfl
  have e2 : (fAs X id rivetlaw05_MemoryPlays.C.ai ((a0, a1, l2) : HLs rivetlaw05_MemoryPlays.C.I)).1 = [.o (.c (.int .u8 a0)), .o (.c (.int .i64 a1)), .o (.c (.sl 0))] := by kernel_rfl
  have e3 : AVs (roR ([roD 57 l2 A2 c2 f2 hr2] : List (Ro X W))) [.o (.c (.int .u8 a0)), .o (.c (.int .i64 a1)), .o (.c (.sl 0))] [_, _, _] := ⟨_, _, rfl, rfl, ⟨_, _, rfl, rfl, ⟨_, _, rfl, (CR_row (i := 0) rfl), rfl⟩⟩⟩
  refine (rivetlaw05_MemoryPlays.ok.law ([roD 57 l2 A2 c2 f2 hr2] : List (Ro X W)) (h := (a0, a1, l2)) (h' := true) (Pure.MemoryPlays a0 a1 l2 w0 w1 ⟨w2, y2⟩) e1 (by rw [e2]; exact e3) rfl).mono fun e W' hx => ?_
  obtain ⟨v, rfl, ρ', _, _, hv, hr⟩ := hx
  obtain rfl : v = .bool true := (List.cons.inj (show [v] = [.bool true] from hv)).1
  have bel := hr.st.below
  exact ⟨_, rfl, _, _, _, [], _, [], hW', trodAll_mk1 (shut_bool Try.underlying4 _), (trodAll_cons_mk (shut_int Try.underlying5 w0) (trodAll_cons_mk (shut_int Try.underlying3 w1) (trodAll_cons_mk (Below.trod laidOut (by kernel_rfl) (of_decide_eq_true (by kernel_rfl)) k2 bel lt2) trodAll_mk0))), rfl, bel.frame _, fun h => by cases h⟩
theorem over : Rows.memoryPlaysRow.holds Try.pinned (OpenSpec.ofChange Rows.memoryPlaysSpec) :=
  OpenClaim.holds_of_wide 10 Try.f10 rfl rfl rfl rfl rfl rfl rfl ⟨rfl, rfl, rfl, rfl, rfl⟩ rfl rfl rfl rfl rfl (by kernel_rfl) Try.func10 (by kernel_rfl)
    (of_decide_eq_true (by kernel_rfl)) (by unfold Func.isWrapper; first | (rw [if_pos (by decide +kernel)]; kernel_rfl) | (rw [if_neg (by decide +kernel)]; exact ⟨rfl, rfl⟩))
    (fun os started H enc _ => lifted os started H enc)
end Go.Proofs.Ytpbfjcpndmmgoaa.RMemoryPlays
namespace Go.Proofs.Ytpbfjcpndmmgoaa
/-- The statement. -/
theorem memoryPlays_holds : Rows.MemoryPlaysSaid := RMemoryPlays.over
end Go.Proofs.Ytpbfjcpndmmgoaa

