/- Statement LoadAll: the Go function of that name answers true for every input; shown by its walk (the contract) and the plain law. No condition: it is the given statement, without anything ahead of it. -/
import Derived.Test.YtheccnbamcdpmaaDoorRows
import Derived.Test.YtheccnbamcdpmaaDoorT12zLoadAll
import Derived.Test.YtheccnbamcdpmaaDoorO12l
import Derived.Test.YtheccnbamcdpmaaDoorEH
import Derived.Test.YtheccnbamcdpmaaDoorCards
import Derived.Test.YtheccnbamcdpmaaDoorTie
import Derived.WalkKit
import Derived.ProofKit
import Derived.OpenShut
import Derived.ShutString
import Derived.ChangeOld
import Derived.Below
import Derived.SizedLaws
import Derived.LaidMore
import Derived.Lay
import Derived.SevenTiedAt
import Derived.Stop.Joined
namespace Go.Proofs.YtheccnbamcdpmaaDoor.RLoadAll
open Go Go.ChangeShapes Go.WideShapes Go.ChangeAt Go.RowKit Go.Proofs.YtheccnbamcdpmaaDoor.E Go.Proofs.YtheccnbamcdpmaaDoor.T12
open Go.ChangeMaps (open_string shut_string)
set_option linter.unusedVariables false
theorem ownKn : ownKnob Tryd.prog.godebug = none := by kernel_rfl
theorem laidOut : laidOutB Tryd.prog = true := by kernel_rfl
theorem openSapi_Sym : OpenP Tryd.prog 72 eSapi_Sym okSapi_Sym := by
  intro H enc w base spare held fuel cs x h hw
  obtain ⟨hl, m, hf⟩ := struct_fields Tryd.underlying72 h hw
  obtain ⟨y0, e0, o0⟩ := fieldOpen (E := eS) (ft := 9) (o := 0) (n := 1) hf 0 (by kernel_rfl) rfl (openP_str Tryd.underlying9)
  obtain ⟨y1, e1, o1⟩ := fieldOpen (E := (eI .i64)) (ft := 3) (o := 1) (n := 1) hf 1 (by kernel_rfl) rfl (openP_int Tryd.underlying3)
  refine ⟨⟨y0, y1⟩, ?_, ⟨o0, o1⟩⟩
  have h0 : cs = eS.enc y0 ++ ((eI .i64).enc y1 ++ (cs.drop 2)) := by
    have f0 : cs.drop 0 = eS.enc y0 ++ cs.drop 1 := e0
    have f1 : cs.drop 1 = (eI .i64).enc y1 ++ cs.drop 2 := e1
    rw [List.drop_zero] at f0
    refine f0.trans ?_
    rw [f1]
  have hz : cs.drop 2 = [] := List.drop_of_length_le (by rw [hl]; exact Nat.le_of_eq (by kernel_rfl))
  rw [hz] at h0
  refine h0.trans ?_
  kernel_rfl
set_option maxRecDepth 100000 in
theorem lifted (os : Os) (started : os.Started) (H : Type) (enc : TypeId × Value → H) :
    ReturnsInHanded {} Tryd.checked os 5 .any (fun w args => (Rows.loadAllSpec.pre enc Tryd.prog Tryd.f5 Rows.loadAllRow.domain false w args ∧ laidMetH Tryd.prog Rows.loadAllRow.laid w) ∧ sizedMet enc Tryd.prog Tryd.f5 (OpenSpec.ofChange Rows.loadAllSpec) false w args) (Rows.loadAllSpec.post enc Tryd.prog Tryd.f5 false true false false) := by
  refine returnsInHanded_of_change_and (C := Tryd.checked) (X := fun w _ => laidMetH Tryd.prog Rows.loadAllRow.laid w) (fun _ _ _ hh h => h.of_heap hh) ownKn started (by kernel_rfl) Tryd.func5
    (ChangeSpec.witness_shaped (enc := enc) (C := Tryd.checked) (os := os) (X := fun w _ => laidMetH Tryd.prog Rows.loadAllRow.laid w) false (World.laidAll Tryd.prog os Rows.loadAllRow.laid) #[.agg #[.slice none 0 0, .slice none 0 0, .slice none 0 0], .int .i64 0, .int .i64 0] 8 (World.laidAll_os _ _ _)
      (World.shaped_of_ZipB (by kernel_rfl) (by kernel_rfl)) (by kernel_rfl) (by kernel_rfl) (by kernel_rfl)
      (by rw [MakeChecks.laidMetH_plain _ _ _ (by kernel_rfl)]; exact laidMet_laidAll _ (by kernel_rfl) (by kernel_rfl))) ?_
  intro W base args ds gs before hval0 hW hcnd hsz0 _ _
  have hsz : (DataW.weightsEach Tryd.prog (Tryd.f5.params.toList ++ Rows.loadAllSpec.plain.varTypes Tryd.prog) (ds ++ gs)).all (· ≤ reachBytes) = true := hsz0
  have hval : ∀ (j : Nat) t v, Tryd.f5.params[j]? = some t → args[j]? = some v → Value.okWide Tryd.prog W .any base t v := hval0
  have hW' := hW
  obtain ⟨p, q, hA0, hV, rfl, hfz, hnd⟩ := hW
  have hA : DataW.TrodAll enc Tryd.prog W 0 (fun _ => true) true Tryd.f5.params.toList args.toList ds p := hA0
  rw [Tryd.params5] at hA hval hsz
  obtain ⟨v0, vs0, d0, ds0, p0, q0, hargs, rfl, rfl, h0, r0⟩ := trodAll_cons hA
  obtain ⟨v1, vs1, d1, ds1, p1, q1, rfl, rfl, rfl, h1, r1⟩ := trodAll_cons r0
  obtain ⟨v2, vs2, d2, ds2, p2, q2, rfl, rfl, rfl, h2, r2⟩ := trodAll_cons r1
  obtain ⟨rfl, rfl, rfl⟩ := trodAll_nil r2
  obtain rfl : args = #[v0, v1, v2] := by cases args; simp_all
  obtain ⟨rfl, rfl⟩ := trodVars_none hV
  have lt0 : ∀ x ∈ p0, x.block < W.heap.size := by obtain ⟨m, hm⟩ := h0; exact DataW.trod_lt m _ _ _ hm
  have k0 := h0
  obtain ⟨cs0, rfl, hl0, m0, hf0⟩ := E.open_fields Tryd.underlying32 (hval 0 32 v0 rfl rfl) h0 hsz (j := 0) rfl rfl
  obtain ⟨A0_0, c0_0, l0_0, e0_0, hr0_0, x0_0, v0_0⟩ := E.fieldSlice (ft := 22) (o := 0) (E := (eI .u32)) (B := 4) hf0 0 (by kernel_rfl) Tryd.underlying22 (by kernel_rfl) (openP_int Tryd.underlying38) (by kernel_rfl)
  obtain ⟨A0_1, c0_1, l0_1, e0_1, hr0_1, x0_1, v0_1⟩ := E.fieldSlice (ft := 29) (o := 1) (E := (eI .i64)) (B := 8) hf0 1 (by kernel_rfl) Tryd.underlying29 (by kernel_rfl) (openP_int Tryd.underlying3) (by kernel_rfl)
  obtain ⟨A0_2, c0_2, l0_2, e0_2, hr0_2, x0_2, v0_2⟩ := E.fieldSlice (ft := 30) (o := 2) (E := eSapi_Sym) (B := 24) hf0 2 (by kernel_rfl) Tryd.underlying30 (by kernel_rfl) openSapi_Sym (by kernel_rfl)
  have f0_0 : cs0.toList.drop 0 = [.slice A0_0 l0_0.length c0_0] ++ cs0.toList.drop 1 := e0_0
  have f0_1 : cs0.toList.drop 1 = [.slice A0_1 l0_1.length c0_1] ++ cs0.toList.drop 2 := e0_1
  have f0_2 : cs0.toList.drop 2 = [.slice A0_2 l0_2.length c0_2] ++ cs0.toList.drop 3 := e0_2
  rw [List.drop_zero, f0_1, f0_2, List.drop_of_length_le (by rw [hl0]; exact Nat.le_of_eq (by kernel_rfl))] at f0_0
  obtain rfl : cs0 = #[.slice A0_0 l0_0.length c0_0, .slice A0_1 l0_1.length c0_1, .slice A0_2 l0_2.length c0_2] := by cases cs0; simpa using f0_0
  have w0 : okSapi_Obj ⟨l0_0, l0_1, l0_2⟩ := ⟨x0_0, v0_0, x0_1, v0_1, x0_2, v0_2⟩
  obtain ⟨a1, rfl, rfl, rfl, w1⟩ := open_int Tryd.underlying3 (hval 1 3 v1 rfl rfl) h1
  obtain ⟨a2, rfl, rfl, rfl, w2⟩ := open_int Tryd.underlying3 (hval 2 3 v2 rfl rfl) h2
  clear hA0 hval0 hsz0 hsz
  refine (rivetlaw12_LoadAll.calls (⟨l0_0, l0_1, l0_2⟩ : Sapi_Obj) A0_0 c0_0 A0_1 c0_1 A0_2 c0_2 a1 a2 true W hr0_0 hr0_1 hr0_2 (Pure.LoadAll (⟨l0_0, l0_1, l0_2⟩ : Sapi_Obj) a1 a2 w0 w1 w2)).mono fun e W' hx => ?_
  obtain ⟨rfl, hst⟩ := hx
  have bel := hst.below
  exact ⟨_, rfl, _, _, _, [], _, [], hW', trodAll_mk1 (shut_bool Tryd.underlying4 _), (trodAll_cons_mk (Below.trod laidOut (by kernel_rfl) (of_decide_eq_true (by kernel_rfl)) k0 bel lt0) (trodAll_cons_mk (shut_int Tryd.underlying3 w1) (trodAll_cons_mk (shut_int Tryd.underlying3 w2) trodAll_mk0))), rfl, bel.frame _, fun h => by cases h⟩
theorem over : Rows.loadAllRow.holds Tryd.pinned (OpenSpec.ofChange Rows.loadAllSpec) :=
  OpenClaim.holds_of_wide 5 Tryd.f5 rfl rfl rfl rfl rfl rfl rfl ⟨rfl, rfl, rfl, rfl, rfl⟩ rfl rfl rfl rfl rfl (by kernel_rfl) Tryd.func5 (by kernel_rfl)
    (of_decide_eq_true (by kernel_rfl)) (by unfold Func.isWrapper; first | (rw [if_pos (by decide +kernel)]; kernel_rfl) | (rw [if_neg (by decide +kernel)]; exact ⟨rfl, rfl⟩))
    (fun os started H enc _ => lifted os started H enc)
end Go.Proofs.YtheccnbamcdpmaaDoor.RLoadAll
namespace Go.Proofs.YtheccnbamcdpmaaDoor
/-- The statement: the tied card. -/
theorem loadAll_holds : Rows.LoadAllCardSaid :=
  Claim7.holds_tied_plain_at .later [] [.data, .pinned] true (true, "78158d48992f4f475614602b131000ef0f7a29b3f2e7169cc325525294f43a77") false RLoadAll.over (fun _ h => by cases h) (by kernel_rfl) (fun _ h => by cases h) loadAll_row_tie rfl ⟨rfl, rfl⟩ (by kernel_rfl) rfl
    (fun f fn hf hfn => by
      obtain rfl : f = 5 := Option.some.inj ((show Tryd.prog.funcNamed "rivet/rivetlaw12.LoadAll" = some 5 by kernel_rfl).symm.trans hf) |>.symm
      obtain rfl : fn = Tryd.f5 := (Option.some.inj (Tryd.func5.symm.trans hfn)).symm
      exact ⟨by kernel_rfl, fun j t ht => by
        rw [Tryd.params5] at ht
        have hm : t ∈ [32, 3, 3] := by simpa using Array.mem_of_getElem? ht
        have hall : ([32, 3, 3].all fun u => !Tryd.prog.wantsStandIn u) = true := by kernel_rfl
        exact (show Tryd.prog.wantsStandIn t = false by simpa using List.all_eq_true.1 hall t hm)⟩)
    (by kernel_rfl)
end Go.Proofs.YtheccnbamcdpmaaDoor

