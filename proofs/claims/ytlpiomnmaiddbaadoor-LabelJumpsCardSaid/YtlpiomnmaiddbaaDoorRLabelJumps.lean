/- Statement LabelJumps: the Go function of that name answers true for every input; shown by its walk (the contract) and the plain law. No condition: it is the given statement, without anything ahead of it. -/
import Derived.Test.YtlpiomnmaiddbaaDoorM8
import Derived.Test.YtlpiomnmaiddbaaDoorRows
import Derived.Test.YtlpiomnmaiddbaaDoorCards
import Derived.Test.YtlpiomnmaiddbaaDoorTie
import Derived.WalkKit
import Derived.ProofKit
import Derived.OpenShut
import Derived.ShutString
import Derived.ChangeOld
import Derived.Below
import Derived.SizedLaws
import Derived.LaidMore
import Derived.Lay
import Derived.SevenTiedAt
import Derived.Stop.Joined
namespace Go.Proofs.YtlpiomnmaiddbaaDoor.RLabelJumps
open Go Go.ChangeShapes Go.WideShapes Go.ChangeAt Go.RowKit Go.Proofs.YtlpiomnmaiddbaaDoor.E Go.Proofs.YtlpiomnmaiddbaaDoor.LB
open Go.ChangeMaps (open_string shut_string)
set_option linter.unusedVariables false
set_option maxRecDepth 100000
set_option maxHeartbeats 4000000
theorem ownKn : ownKnob Tryd.prog.godebug = none := by kernel_rfl
theorem laidOut : laidOutB Tryd.prog = true := by kernel_rfl
noncomputable def tT5 : TI X.τ Int := TI.int .u8
noncomputable def eT5 : Enc Int := tT5.E
theorem oT5 : OpenP Tryd.prog 5 eT5 (In .u8) := (show eI .u8 = eT5 by kernel_rfl) ▸ openP_int Tryd.underlying5
noncomputable def tT67 : TI X.τ Int := TI.int .i8
noncomputable def eT67 : Enc Int := tT67.E
theorem oT67 : OpenP Tryd.prog 67 eT67 (In .i8) := (show eI .i8 = eT67 by kernel_rfl) ▸ openP_int Tryd.underlying67
theorem lifted (os : Os) (started : os.Started) (H : Type) (enc : TypeId × Value → H) :
    ReturnsInHanded {} Tryd.checked os 10 .any (fun w args => (Rows.labelJumpsSpec.pre enc Tryd.prog Tryd.f10 Rows.labelJumpsRow.domain false w args ∧ laidMetH Tryd.prog Rows.labelJumpsRow.laid w) ∧ sizedMet enc Tryd.prog Tryd.f10 (OpenSpec.ofChange Rows.labelJumpsSpec) false w args) (Rows.labelJumpsSpec.post enc Tryd.prog Tryd.f10 false true false false) := by
  refine returnsInHanded_of_change_and (C := Tryd.checked) (X := fun w _ => laidMetH Tryd.prog Rows.labelJumpsRow.laid w) (fun _ _ _ hh h => h.of_heap hh) ownKn started (by kernel_rfl) Tryd.func10
    (ChangeSpec.witness_shaped (enc := enc) (C := Tryd.checked) (os := os) (X := fun w _ => laidMetH Tryd.prog Rows.labelJumpsRow.laid w) false (World.laidAll Tryd.prog os Rows.labelJumpsRow.laid) #[.int .u8 0, .int .u8 0, .int .i8 0] 8 (World.laidAll_os _ _ _)
      (World.shaped_of_ZipB (by kernel_rfl) (by kernel_rfl)) (by kernel_rfl) (by kernel_rfl) (by kernel_rfl)
      (by rw [MakeChecks.laidMetH_plain _ _ _ (by kernel_rfl)]; exact laidMet_laidAll _ (by kernel_rfl) (by kernel_rfl))) ?_
  intro W base args ds gs before hval0 hW hcnd hsz0 _ _
  have hsz : (DataW.weightsEach Tryd.prog (Tryd.f10.params.toList ++ Rows.labelJumpsSpec.plain.varTypes Tryd.prog) (ds ++ gs)).all (· ≤ reachBytes) = true := hsz0
  have hval : ∀ (j : Nat) t v, Tryd.f10.params[j]? = some t → args[j]? = some v → Value.okWide Tryd.prog W .any base t v := hval0
  have hW' := hW
  obtain ⟨p, q, hA0, hV, rfl, hfz, hnd⟩ := hW
  have hA : DataW.TrodAll enc Tryd.prog W 0 (fun _ => true) true Tryd.f10.params.toList args.toList ds p := hA0
  rw [Tryd.params10] at hA hval hsz
  obtain ⟨v0, vs0, d0, ds0, p0, q0, hargs, rfl, rfl, h0, r0⟩ := trodAll_cons hA
  obtain ⟨v1, vs1, d1, ds1, p1, q1, rfl, rfl, rfl, h1, r1⟩ := trodAll_cons r0
  obtain ⟨v2, vs2, d2, ds2, p2, q2, rfl, rfl, rfl, h2, r2⟩ := trodAll_cons r1
  obtain ⟨rfl, rfl, rfl⟩ := trodAll_nil r2
  obtain rfl : args = #[v0, v1, v2] := by cases args; simp_all
  obtain ⟨rfl, rfl⟩ := trodVars_none hV
  obtain ⟨a0, rfl, rfl, rfl, w0⟩ := open_int Tryd.underlying5 (hval 0 5 v0 rfl rfl) h0
  obtain ⟨a1, rfl, rfl, rfl, w1⟩ := open_int Tryd.underlying5 (hval 1 5 v1 rfl rfl) h1
  obtain ⟨a2, rfl, rfl, rfl, w2⟩ := open_int Tryd.underlying67 (hval 2 67 v2 rfl rfl) h2
  clear hA0 hval0 hsz0 hsz
  have e1 : (fOs X id (fun _ => 0) rivetlaw22_LabelJumps.C.oi (fAs X id rivetlaw22_LabelJumps.C.ai ((a0, a1, a2) : HLs rivetlaw22_LabelJumps.C.I)).2).1 = roL 0 ([] : List (Ro X W)) := by kernel_rfl
  have e2 : (fAs X id rivetlaw22_LabelJumps.C.ai ((a0, a1, a2) : HLs rivetlaw22_LabelJumps.C.I)).1 = [.o (.c (.int .u8 a0)), .o (.c (.int .u8 a1)), .o (.c (.int .i8 a2))] := by kernel_rfl
  have e3 : AVs (roR ([] : List (Ro X W))) [.o (.c (.int .u8 a0)), .o (.c (.int .u8 a1)), .o (.c (.int .i8 a2))] [_, _, _] := ⟨_, _, rfl, rfl, ⟨_, _, rfl, rfl, ⟨_, _, rfl, rfl, rfl⟩⟩⟩
  refine (rivetlaw22_LabelJumps.ok.law ([] : List (Ro X W)) (h := (a0, a1, a2)) (h' := true) (Pure.LabelJumps a0 a1 a2 w0 w1 w2) e1 (by rw [e2]; exact e3) rfl).mono fun e W' hx => ?_
  obtain ⟨v, rfl, ρ', _, _, hv, hr⟩ := hx
  obtain rfl : v = .bool true := (List.cons.inj (show [v] = [.bool true] from hv)).1
  have bel := hr.st.below
  exact ⟨_, rfl, _, _, _, [], _, [], hW', trodAll_mk1 (shut_bool Tryd.underlying4 _), (trodAll_cons_mk (shut_int Tryd.underlying5 w0) (trodAll_cons_mk (shut_int Tryd.underlying5 w1) (trodAll_cons_mk (shut_int Tryd.underlying67 w2) trodAll_mk0))), rfl, bel.frame _, fun h => by cases h⟩
theorem over : Rows.labelJumpsRow.holds Tryd.pinned (OpenSpec.ofChange Rows.labelJumpsSpec) :=
  OpenClaim.holds_of_wide 10 Tryd.f10 rfl rfl rfl rfl rfl rfl rfl ⟨rfl, rfl, rfl, rfl, rfl⟩ rfl rfl rfl rfl rfl (by kernel_rfl) Tryd.func10 (by kernel_rfl)
    (of_decide_eq_true (by kernel_rfl)) (by unfold Func.isWrapper; first | (rw [if_pos (by decide +kernel)]; kernel_rfl) | (rw [if_neg (by decide +kernel)]; exact ⟨rfl, rfl⟩))
    (fun os started H enc _ => lifted os started H enc)
end Go.Proofs.YtlpiomnmaiddbaaDoor.RLabelJumps
namespace Go.Proofs.YtlpiomnmaiddbaaDoor
/-- The statement: the tied card. -/
theorem labelJumps_holds : Rows.LabelJumpsCardSaid :=
  Claim7.holds_tied_plain_at .later [] [.data, .pinned] true (true, "90a5d2a72452b3dc0a14b746e5a482c5552382da5f1e4a7724a35735fc481d8e") false RLabelJumps.over (fun _ h => by cases h) (by kernel_rfl) (fun _ h => by cases h) labelJumps_row_tie rfl ⟨rfl, rfl⟩ (by kernel_rfl) rfl
    (fun f fn hf hfn => by
      obtain rfl : f = 10 := Option.some.inj ((show Tryd.prog.funcNamed "rivet/rivetlaw22.LabelJumps" = some 10 by kernel_rfl).symm.trans hf) |>.symm
      obtain rfl : fn = Tryd.f10 := (Option.some.inj (Tryd.func10.symm.trans hfn)).symm
      exact ⟨by kernel_rfl, fun j t ht => by
        rw [Tryd.params10] at ht
        have hm : t ∈ [5, 5, 67] := by simpa using Array.mem_of_getElem? ht
        have hall : ([5, 5, 67].all fun u => !Tryd.prog.wantsStandIn u) = true := by kernel_rfl
        exact (show Tryd.prog.wantsStandIn t = false by simpa using List.all_eq_true.1 hall t hm)⟩)
    (by kernel_rfl)
end Go.Proofs.YtlpiomnmaiddbaaDoor

