/- Statement LabelAll: the Go function of that name answers true for every input; shown by its walk (the contract) and the plain law. No condition: it is the given statement, without anything ahead of it. -/
import Derived.Test.YtlpiomnmaiddbaaGreatDoorM8
import Derived.Test.YtlpiomnmaiddbaaGreatDoorRows
import Derived.Test.YtlpiomnmaiddbaaGreatDoorCards
import Derived.Test.YtlpiomnmaiddbaaGreatDoorTie
import Derived.WalkKit
import Derived.ProofKit
import Derived.OpenShut
import Derived.ShutString
import Derived.ChangeOld
import Derived.Below
import Derived.SizedLaws
import Derived.LaidMore
import Derived.Lay
import Derived.SevenTiedAt
import Derived.Stop.Joined
namespace Go.Proofs.YtlpiomnmaiddbaaGreatDoor.RLabelAll
open Go Go.ChangeShapes Go.WideShapes Go.ChangeAt Go.RowKit Go.Proofs.YtlpiomnmaiddbaaGreatDoor.E Go.Proofs.YtlpiomnmaiddbaaGreatDoor.LA
open Go.ChangeMaps (open_string shut_string)
set_option linter.unusedVariables false
set_option maxRecDepth 100000
set_option maxHeartbeats 4000000
theorem ownKn : ownKnob Tryz.prog.godebug = none := by kernel_rfl
theorem laidOut : laidOutB Tryz.prog = true := by kernel_rfl
noncomputable def tT37 : TI X.τ Int := TI.int .u32
noncomputable def eT37 : Enc Int := tT37.E
theorem qT37 : X.E 37 = eT37 := by kernel_rfl
theorem oT37 : OpenP Tryz.prog 37 eT37 (In .u32) := (show eI .u32 = eT37 by kernel_rfl) ▸ openP_int Tryz.underlying37
noncomputable def tT3 : TI X.τ Int := TI.int .i64
noncomputable def eT3 : Enc Int := tT3.E
theorem qT3 : X.E 3 = eT3 := by kernel_rfl
theorem oT3 : OpenP Tryz.prog 3 eT3 (In .i64) := (show eI .i64 = eT3 by kernel_rfl) ▸ openP_int Tryz.underlying3
noncomputable def tT9 : TI X.τ ByteArray := TI.str
noncomputable def eT9 : Enc ByteArray := tT9.E
theorem oT9 : OpenP Tryz.prog 9 eT9 (fun s => s.size ≤ 140737488351232) := (show eS = eT9 by kernel_rfl) ▸ openP_str Tryz.underlying9
noncomputable def tT39 : TI X.τ Sapi_Sym := X.ti 39
noncomputable def eT39 : Enc Sapi_Sym := tT39.E
theorem qT39 : X.E 39 = eT39 := by kernel_rfl
theorem openSapi_Sym : OpenP Tryz.prog 39 eT39 okSapi_Sym := by
  intro H enc w base spare held fuel cs x h hw
  obtain ⟨hl, m, hf⟩ := struct_fields Tryz.underlying39 h hw
  obtain ⟨y0, e0, o0⟩ := fieldOpen (E := eT9) (ft := 9) (o := 0) (n := 1) hf 0 (by kernel_rfl) (by kernel_rfl) oT9
  obtain ⟨y1, e1, o1⟩ := fieldOpen (E := eT3) (ft := 3) (o := 1) (n := 1) hf 1 (by kernel_rfl) (by kernel_rfl) oT3
  refine ⟨⟨y0, y1⟩, ?_, ⟨o0, o1⟩⟩
  have h0 : cs = eT9.enc y0 ++ (eT3.enc y1 ++ (cs.drop 2)) := by
    have f0 : cs.drop 0 = eT9.enc y0 ++ cs.drop 1 := e0
    have f1 : cs.drop 1 = eT3.enc y1 ++ cs.drop 2 := e1
    rw [List.drop_zero] at f0
    refine f0.trans ?_
    rw [f1]
  have hz : cs.drop 2 = [] := List.drop_of_length_le (by rw [hl]; exact Nat.le_of_eq (by kernel_rfl))
  rw [hz] at h0
  refine h0.trans ?_
  kernel_rfl
theorem lifted (os : Os) (started : os.Started) (H : Type) (enc : TypeId × Value → H) :
    ReturnsInHanded {} Tryz.checked os 3 .any (fun w args => (Rows.labelAllSpec.pre enc Tryz.prog Tryz.f3 Rows.labelAllRow.domain false w args ∧ laidMetH Tryz.prog Rows.labelAllRow.laid w) ∧ sizedMet enc Tryz.prog Tryz.f3 (OpenSpec.ofChange Rows.labelAllSpec) false w args) (Rows.labelAllSpec.post enc Tryz.prog Tryz.f3 false true false false) := by
  refine returnsInHanded_of_change_and (C := Tryz.checked) (X := fun w _ => laidMetH Tryz.prog Rows.labelAllRow.laid w) (fun _ _ _ hh h => h.of_heap hh) ownKn started (by kernel_rfl) Tryz.func3
    (ChangeSpec.witness_shaped (enc := enc) (C := Tryz.checked) (os := os) (X := fun w _ => laidMetH Tryz.prog Rows.labelAllRow.laid w) false (World.laidAll Tryz.prog os Rows.labelAllRow.laid) #[.agg #[.slice none 0 0, .slice none 0 0, .slice none 0 0], .int .i64 0] 8 (World.laidAll_os _ _ _)
      (World.shaped_of_ZipB (by kernel_rfl) (by kernel_rfl)) (by kernel_rfl) (by kernel_rfl) (by kernel_rfl)
      (by rw [MakeChecks.laidMetH_plain _ _ _ (by kernel_rfl)]; exact laidMet_laidAll _ (by kernel_rfl) (by kernel_rfl))) ?_
  intro W base args ds gs before hval0 hW hcnd hsz0 _ _
  have hsz : (DataW.weightsEach Tryz.prog (Tryz.f3.params.toList ++ Rows.labelAllSpec.plain.varTypes Tryz.prog) (ds ++ gs)).all (· ≤ reachBytes) = true := hsz0
  have hval : ∀ (j : Nat) t v, Tryz.f3.params[j]? = some t → args[j]? = some v → Value.okWide Tryz.prog W .any base t v := hval0
  have hW' := hW
  obtain ⟨p, q, hA0, hV, rfl, hfz, hnd⟩ := hW
  have hA : DataW.TrodAll enc Tryz.prog W 0 (fun _ => true) true Tryz.f3.params.toList args.toList ds p := hA0
  rw [Tryz.params3] at hA hval hsz
  obtain ⟨v0, vs0, d0, ds0, p0, q0, hargs, rfl, rfl, h0, r0⟩ := trodAll_cons hA
  obtain ⟨v1, vs1, d1, ds1, p1, q1, rfl, rfl, rfl, h1, r1⟩ := trodAll_cons r0
  obtain ⟨rfl, rfl, rfl⟩ := trodAll_nil r1
  obtain rfl : args = #[v0, v1] := by cases args; simp_all
  obtain ⟨rfl, rfl⟩ := trodVars_none hV
  have lt0 : ∀ x ∈ p0, x.block < W.heap.size := by obtain ⟨m, hm⟩ := h0; exact DataW.trod_lt m _ _ _ hm
  have k0 := h0
  obtain ⟨cs0, rfl, hl0, m0, hf0⟩ := E.open_fields Tryz.underlying26 (hval 0 26 v0 rfl rfl) h0 hsz (j := 0) rfl rfl
  obtain ⟨A0_0, c0_0, l0_0, e0_0, hr0_0, x0_0, v0_0⟩ := E.fieldSlice (ft := 22) (o := 0) (E := eT37) (B := 4) hf0 0 (by kernel_rfl) Tryz.underlying22 (by kernel_rfl) oT37 (by kernel_rfl)
  have f0_0 : cs0.toList.drop 0 = ([.slice A0_0 l0_0.length c0_0] : List Value) ++ cs0.toList.drop 1 := e0_0
  obtain ⟨A0_1, c0_1, l0_1, e0_1, hr0_1, x0_1, v0_1⟩ := E.fieldSlice (ft := 23) (o := 1) (E := eT3) (B := 8) hf0 1 (by kernel_rfl) Tryz.underlying23 (by kernel_rfl) oT3 (by kernel_rfl)
  have f0_1 : cs0.toList.drop 1 = ([.slice A0_1 l0_1.length c0_1] : List Value) ++ cs0.toList.drop 2 := e0_1
  obtain ⟨A0_2, c0_2, l0_2, e0_2, hr0_2, x0_2, v0_2⟩ := E.fieldSlice (ft := 24) (o := 2) (E := eT39) (B := 24) hf0 2 (by kernel_rfl) Tryz.underlying24 (by kernel_rfl) openSapi_Sym (by kernel_rfl)
  have f0_2 : cs0.toList.drop 2 = ([.slice A0_2 l0_2.length c0_2] : List Value) ++ cs0.toList.drop 3 := e0_2
  rw [List.drop_zero, f0_1, f0_2, List.drop_of_length_le (by rw [hl0]; exact Nat.le_of_eq (by kernel_rfl)), List.append_nil] at f0_0
  obtain rfl : cs0 = (([.slice A0_0 l0_0.length c0_0] : List Value) ++ (([.slice A0_1 l0_1.length c0_1] : List Value) ++ (([.slice A0_2 l0_2.length c0_2] : List Value)))).toArray := by rw [← f0_0]
  have w0 : okSapi_Obj ⟨l0_0, l0_1, l0_2⟩ := ⟨⟨x0_0, v0_0⟩, ⟨x0_1, v0_1⟩, ⟨x0_2, v0_2⟩⟩
  obtain ⟨a1, rfl, rfl, rfl, w1⟩ := open_int Tryz.underlying3 (hval 1 3 v1 rfl rfl) h1
  clear hA0 hval0 hsz0 hsz
  have e1 : (fOs X id (fun _ => 0) rivetlaw22_LabelAll.C.oi (fAs X id (ts := POs.ty X.τ rivetlaw22_LabelAll.C.oi []) rivetlaw22_LabelAll.C.ai ((a1, l0_0, l0_1, l0_2) : HLs rivetlaw22_LabelAll.C.I)).2).1 = roL 0 ([roP 37 l0_0 A0_0 c0_0 (qT37 ▸ hr0_0), roP 3 l0_1 A0_1 c0_1 (qT3 ▸ hr0_1), roP 39 l0_2 A0_2 c0_2 (qT39 ▸ hr0_2)] : List (Ro X W)) := by kernel_rfl
  have e2 : (fAs X id (ts := POs.ty X.τ rivetlaw22_LabelAll.C.oi []) rivetlaw22_LabelAll.C.ai ((a1, l0_0, l0_1, l0_2) : HLs rivetlaw22_LabelAll.C.I)).1 = [.o (.a ([.sl 0] ++ ([.sl 1] ++ ([.sl 2])))), .o (.c (.int .i64 a1))] := by kernel_rfl
  have e3 : AVs (roR ([roP 37 l0_0 A0_0 c0_0 (qT37 ▸ hr0_0), roP 3 l0_1 A0_1 c0_1 (qT3 ▸ hr0_1), roP 39 l0_2 A0_2 c0_2 (qT39 ▸ hr0_2)] : List (Ro X W))) [.o (.a ([.sl 0] ++ ([.sl 1] ++ ([.sl 2])))), .o (.c (.int .i64 a1))] [_, _] := ⟨_, _, rfl, ⟨_, rfl, (CRs.app (CRs.one.2 (CR_row (i := 0) rfl)) (CRs.app (CRs.one.2 (CR_row (i := 1) rfl)) (CRs.one.2 (CR_row (i := 2) rfl))))⟩, ⟨_, _, rfl, rfl, rfl⟩⟩
  refine (rivetlaw22_LabelAll.ok.law ([roP 37 l0_0 A0_0 c0_0 (qT37 ▸ hr0_0), roP 3 l0_1 A0_1 c0_1 (qT3 ▸ hr0_1), roP 39 l0_2 A0_2 c0_2 (qT39 ▸ hr0_2)] : List (Ro X W)) (h := (a1, l0_0, l0_1, l0_2)) (h' := true) (Pure.LabelAll (⟨l0_0, l0_1, l0_2⟩ : Sapi_Obj) a1 w0 w1) e1 (by rw [e2]; exact e3) rfl).mono fun e W' hx => ?_
  obtain ⟨v, rfl, ρ', _, _, hv, hr⟩ := hx
  obtain rfl : v = .bool true := (List.cons.inj (show [v] = [.bool true] from hv)).1
  have bel := hr.st.below
  exact ⟨_, rfl, _, _, _, [], _, [], hW', trodAll_mk1 (shut_bool Tryz.underlying4 _), (trodAll_cons_mk (Below.trod laidOut (by kernel_rfl) (of_decide_eq_true (by kernel_rfl)) k0 bel lt0) (trodAll_cons_mk (shut_int Tryz.underlying3 w1) trodAll_mk0)), rfl, bel.frame _, fun h => by cases h⟩
theorem over : Rows.labelAllRow.holds Tryz.pinned (OpenSpec.ofChange Rows.labelAllSpec) :=
  OpenClaim.holds_of_wide 3 Tryz.f3 rfl rfl rfl rfl rfl rfl rfl ⟨rfl, rfl, rfl, rfl, rfl⟩ rfl rfl rfl rfl rfl (by kernel_rfl) Tryz.func3 (by kernel_rfl)
    (of_decide_eq_true (by kernel_rfl)) (by unfold Func.isWrapper; first | (rw [if_pos (by decide +kernel)]; kernel_rfl) | (rw [if_neg (by decide +kernel)]; exact ⟨rfl, rfl⟩))
    (fun os started H enc _ => lifted os started H enc)
end Go.Proofs.YtlpiomnmaiddbaaGreatDoor.RLabelAll
namespace Go.Proofs.YtlpiomnmaiddbaaGreatDoor
/-- The statement: the tied card. -/
theorem labelAll_holds : Rows.LabelAllCardSaid :=
  Claim7.holds_tied_plain_at .later [] [.data, .pinned] true (true, "0d09519944fcd20b748f6f2e5c1944a756e8946571c4a1aa3b2320988d84e695") false RLabelAll.over (fun _ h => by cases h) (by kernel_rfl) (fun _ h => by cases h) labelAll_row_tie rfl ⟨rfl, rfl⟩ (by kernel_rfl) rfl
    (fun f fn hf hfn => by
      obtain rfl : f = 3 := Option.some.inj ((show Tryz.prog.funcNamed "rivet/rivetlaw22.LabelAll" = some 3 by kernel_rfl).symm.trans hf) |>.symm
      obtain rfl : fn = Tryz.f3 := (Option.some.inj (Tryz.func3.symm.trans hfn)).symm
      exact ⟨by kernel_rfl, fun j t ht => by
        rw [Tryz.params3] at ht
        have hm : t ∈ [26, 3] := by simpa using Array.mem_of_getElem? ht
        have hall : ([26, 3].all fun u => !Tryz.prog.wantsStandIn u) = true := by kernel_rfl
        exact (show Tryz.prog.wantsStandIn t = false by simpa using List.all_eq_true.1 hall t hm)⟩)
    (by kernel_rfl)
end Go.Proofs.YtlpiomnmaiddbaaGreatDoor

