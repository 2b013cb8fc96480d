/- Statement LabelFewer: the Go function of that name answers true for every input; shown by its walk (the contract) and the plain law. No condition: it is the given statement, without anything ahead of it. -/
import Derived.Test.YtlpiomnmaiddbaaDoorM8
import Derived.Test.YtlpiomnmaiddbaaDoorRows
import Derived.Test.YtlpiomnmaiddbaaDoorCards
import Derived.Test.YtlpiomnmaiddbaaDoorTie
import Derived.WalkKit
import Derived.ProofKit
import Derived.OpenShut
import Derived.ShutString
import Derived.ChangeOld
import Derived.Below
import Derived.SizedLaws
import Derived.LaidMore
import Derived.Lay
import Derived.SevenTiedAt
import Derived.Stop.Joined
namespace Go.Proofs.YtlpiomnmaiddbaaDoor.RLabelFewer
open Go Go.ChangeShapes Go.WideShapes Go.ChangeAt Go.RowKit Go.Proofs.YtlpiomnmaiddbaaDoor.E Go.Proofs.YtlpiomnmaiddbaaDoor.LB
open Go.ChangeMaps (open_string shut_string)
set_option linter.unusedVariables false
set_option maxRecDepth 100000
set_option maxHeartbeats 4000000
theorem ownKn : ownKnob Tryd.prog.godebug = none := by kernel_rfl
theorem laidOut : laidOutB Tryd.prog = true := by kernel_rfl
noncomputable def tT22 : TI X.τ Int := TI.int .u32
noncomputable def eT22 : Enc Int := tT22.E
theorem qT22 : X.E 22 = eT22 := by kernel_rfl
theorem oT22 : OpenP Tryd.prog 22 eT22 (In .u32) := (show eI .u32 = eT22 by kernel_rfl) ▸ openP_int Tryd.underlying22
noncomputable def tT5 : TI X.τ Int := TI.int .u8
noncomputable def eT5 : Enc Int := tT5.E
theorem qT5 : X.E 5 = eT5 := by kernel_rfl
theorem oT5 : OpenP Tryd.prog 5 eT5 (In .u8) := (show eI .u8 = eT5 by kernel_rfl) ▸ openP_int Tryd.underlying5
noncomputable def tT9 : TI X.τ ByteArray := TI.str
noncomputable def eT9 : Enc ByteArray := tT9.E
theorem qT9 : X.E 9 = eT9 := by kernel_rfl
theorem oT9 : OpenP Tryd.prog 9 eT9 (fun s => s.size ≤ 140737488351232) := (show eS = eT9 by kernel_rfl) ▸ openP_str Tryd.underlying9
theorem lifted (os : Os) (started : os.Started) (H : Type) (enc : TypeId × Value → H) :
    ReturnsInHanded {} Tryd.checked os 9 .any (fun w args => (Rows.labelFewerSpec.pre enc Tryd.prog Tryd.f9 Rows.labelFewerRow.domain false w args ∧ laidMetH Tryd.prog Rows.labelFewerRow.laid w) ∧ sizedMet enc Tryd.prog Tryd.f9 (OpenSpec.ofChange Rows.labelFewerSpec) false w args) (Rows.labelFewerSpec.post enc Tryd.prog Tryd.f9 false true false false) := by
  refine returnsInHanded_of_change_and (C := Tryd.checked) (X := fun w _ => laidMetH Tryd.prog Rows.labelFewerRow.laid w) (fun _ _ _ hh h => h.of_heap hh) ownKn started (by kernel_rfl) Tryd.func9
    (ChangeSpec.witness_shaped (enc := enc) (C := Tryd.checked) (os := os) (X := fun w _ => laidMetH Tryd.prog Rows.labelFewerRow.laid w) false (World.laidAll Tryd.prog os Rows.labelFewerRow.laid) #[.agg #[.slice none 0 0, .slice none 0 0, .slice none 0 0]] 8 (World.laidAll_os _ _ _)
      (World.shaped_of_ZipB (by kernel_rfl) (by kernel_rfl)) (by kernel_rfl) (by kernel_rfl) (by kernel_rfl)
      (by rw [MakeChecks.laidMetH_plain _ _ _ (by kernel_rfl)]; exact laidMet_laidAll _ (by kernel_rfl) (by kernel_rfl))) ?_
  intro W base args ds gs before hval0 hW hcnd hsz0 _ _
  have hsz : (DataW.weightsEach Tryd.prog (Tryd.f9.params.toList ++ Rows.labelFewerSpec.plain.varTypes Tryd.prog) (ds ++ gs)).all (· ≤ reachBytes) = true := hsz0
  have hval : ∀ (j : Nat) t v, Tryd.f9.params[j]? = some t → args[j]? = some v → Value.okWide Tryd.prog W .any base t v := hval0
  have hW' := hW
  obtain ⟨p, q, hA0, hV, rfl, hfz, hnd⟩ := hW
  have hA : DataW.TrodAll enc Tryd.prog W 0 (fun _ => true) true Tryd.f9.params.toList args.toList ds p := hA0
  rw [Tryd.params9] at hA hval hsz
  obtain ⟨v0, vs0, d0, ds0, p0, q0, hargs, rfl, rfl, h0, r0⟩ := trodAll_cons hA
  obtain ⟨rfl, rfl, rfl⟩ := trodAll_nil r0
  obtain rfl : args = #[v0] := by cases args; simp_all
  obtain ⟨rfl, rfl⟩ := trodVars_none hV
  have lt0 : ∀ x ∈ p0, x.block < W.heap.size := by obtain ⟨m, hm⟩ := h0; exact DataW.trod_lt m _ _ _ hm
  have k0 := h0
  obtain ⟨cs0, rfl, hl0, m0, hf0⟩ := E.open_fields Tryd.underlying55 (hval 0 55 v0 rfl rfl) h0 hsz (j := 0) rfl rfl
  obtain ⟨A0_0, c0_0, l0_0, e0_0, hr0_0, x0_0, v0_0⟩ := E.fieldSlice (ft := 28) (o := 0) (E := eT22) (B := 4) hf0 0 (by kernel_rfl) Tryd.underlying28 (by kernel_rfl) oT22 (by kernel_rfl)
  have f0_0 : cs0.toList.drop 0 = ([.slice A0_0 l0_0.length c0_0] : List Value) ++ cs0.toList.drop 1 := e0_0
  obtain ⟨A0_1, c0_1, l0_1, e0_1, hr0_1, x0_1, v0_1⟩ := E.fieldSlice (ft := 44) (o := 1) (E := eT5) (B := 1) hf0 1 (by kernel_rfl) Tryd.underlying44 (by kernel_rfl) oT5 (by kernel_rfl)
  have f0_1 : cs0.toList.drop 1 = ([.slice A0_1 l0_1.length c0_1] : List Value) ++ cs0.toList.drop 2 := e0_1
  obtain ⟨A0_2, c0_2, l0_2, e0_2, hr0_2, x0_2, v0_2⟩ := E.fieldSlice (ft := 45) (o := 2) (E := eT9) (B := 16) hf0 2 (by kernel_rfl) Tryd.underlying45 (by kernel_rfl) oT9 (by kernel_rfl)
  have f0_2 : cs0.toList.drop 2 = ([.slice A0_2 l0_2.length c0_2] : List Value) ++ cs0.toList.drop 3 := e0_2
  rw [List.drop_zero, f0_1, f0_2, List.drop_of_length_le (by rw [hl0]; exact Nat.le_of_eq (by kernel_rfl)), List.append_nil] at f0_0
  obtain rfl : cs0 = (([.slice A0_0 l0_0.length c0_0] : List Value) ++ (([.slice A0_1 l0_1.length c0_1] : List Value) ++ (([.slice A0_2 l0_2.length c0_2] : List Value)))).toArray := by rw [← f0_0]
  have w0 : okSrivetlaw22_Parts ⟨l0_0, l0_1, l0_2⟩ := ⟨⟨x0_0, v0_0⟩, ⟨x0_1, v0_1⟩, ⟨x0_2, v0_2⟩⟩
  clear hA0 hval0 hsz0 hsz
  have e1 : (fOs X id (fun _ => 0) rivetlaw22_LabelFewer.C.oi (fAs X id (ts := POs.ty X.τ rivetlaw22_LabelFewer.C.oi []) rivetlaw22_LabelFewer.C.ai ((l0_0, l0_1, l0_2) : HLs rivetlaw22_LabelFewer.C.I)).2).1 = roL 0 ([roP 22 l0_0 A0_0 c0_0 (qT22 ▸ hr0_0), roP 5 l0_1 A0_1 c0_1 (qT5 ▸ hr0_1), roP 9 l0_2 A0_2 c0_2 (qT9 ▸ hr0_2)] : List (Ro X W)) := by kernel_rfl
  have e2 : (fAs X id (ts := POs.ty X.τ rivetlaw22_LabelFewer.C.oi []) rivetlaw22_LabelFewer.C.ai ((l0_0, l0_1, l0_2) : HLs rivetlaw22_LabelFewer.C.I)).1 = [.o (.a ([.sl 0] ++ ([.sl 1] ++ ([.sl 2]))))] := by kernel_rfl
  have e3 : AVs (roR ([roP 22 l0_0 A0_0 c0_0 (qT22 ▸ hr0_0), roP 5 l0_1 A0_1 c0_1 (qT5 ▸ hr0_1), roP 9 l0_2 A0_2 c0_2 (qT9 ▸ hr0_2)] : List (Ro X W))) [.o (.a ([.sl 0] ++ ([.sl 1] ++ ([.sl 2]))))] [_] := ⟨_, _, rfl, ⟨_, rfl, (CRs.app (CRs.one.2 (CR_row (i := 0) rfl)) (CRs.app (CRs.one.2 (CR_row (i := 1) rfl)) (CRs.one.2 (CR_row (i := 2) rfl))))⟩, rfl⟩
  refine (rivetlaw22_LabelFewer.ok.law ([roP 22 l0_0 A0_0 c0_0 (qT22 ▸ hr0_0), roP 5 l0_1 A0_1 c0_1 (qT5 ▸ hr0_1), roP 9 l0_2 A0_2 c0_2 (qT9 ▸ hr0_2)] : List (Ro X W)) (h := (l0_0, l0_1, l0_2)) (h' := true) (Pure.LabelFewer (⟨l0_0, l0_1, l0_2⟩ : Srivetlaw22_Parts) w0) e1 (by rw [e2]; exact e3) rfl).mono fun e W' hx => ?_
  obtain ⟨v, rfl, ρ', _, _, hv, hr⟩ := hx
  obtain rfl : v = .bool true := (List.cons.inj (show [v] = [.bool true] from hv)).1
  have bel := hr.st.below
  exact ⟨_, rfl, _, _, _, [], _, [], hW', trodAll_mk1 (shut_bool Tryd.underlying4 _), (trodAll_cons_mk (Below.trod laidOut (by kernel_rfl) (of_decide_eq_true (by kernel_rfl)) k0 bel lt0) trodAll_mk0), rfl, bel.frame _, fun h => by cases h⟩
theorem over : Rows.labelFewerRow.holds Tryd.pinned (OpenSpec.ofChange Rows.labelFewerSpec) :=
  OpenClaim.holds_of_wide 9 Tryd.f9 rfl rfl rfl rfl rfl rfl rfl ⟨rfl, rfl, rfl, rfl, rfl⟩ rfl rfl rfl rfl rfl (by kernel_rfl) Tryd.func9 (by kernel_rfl)
    (of_decide_eq_true (by kernel_rfl)) (by unfold Func.isWrapper; first | (rw [if_pos (by decide +kernel)]; kernel_rfl) | (rw [if_neg (by decide +kernel)]; exact ⟨rfl, rfl⟩))
    (fun os started H enc _ => lifted os started H enc)
end Go.Proofs.YtlpiomnmaiddbaaDoor.RLabelFewer
namespace Go.Proofs.YtlpiomnmaiddbaaDoor
/-- The statement: the tied card. -/
theorem labelFewer_holds : Rows.LabelFewerCardSaid :=
  Claim7.holds_tied_plain_at .later [] [.data, .pinned] true (true, "90a5d2a72452b3dc0a14b746e5a482c5552382da5f1e4a7724a35735fc481d8e") false RLabelFewer.over (fun _ h => by cases h) (by kernel_rfl) (fun _ h => by cases h) labelFewer_row_tie rfl ⟨rfl, rfl⟩ (by kernel_rfl) rfl
    (fun f fn hf hfn => by
      obtain rfl : f = 9 := Option.some.inj ((show Tryd.prog.funcNamed "rivet/rivetlaw22.LabelFewer" = some 9 by kernel_rfl).symm.trans hf) |>.symm
      obtain rfl : fn = Tryd.f9 := (Option.some.inj (Tryd.func9.symm.trans hfn)).symm
      exact ⟨by kernel_rfl, fun j t ht => by
        rw [Tryd.params9] at ht
        have hm : t ∈ [55] := by simpa using Array.mem_of_getElem? ht
        have hall : ([55].all fun u => !Tryd.prog.wantsStandIn u) = true := by kernel_rfl
        exact (show Tryd.prog.wantsStandIn t = false by simpa using List.all_eq_true.1 hall t hm)⟩)
    (by kernel_rfl)
end Go.Proofs.YtlpiomnmaiddbaaDoor

