/- Statement LoadRuns: the Go function of that name answers true for every input; shown by its walk (the contract) and the plain law. No condition: it is the given statement, without anything ahead of it. -/
import Derived.Test.YtheccnbamcdpmaaGreatDoorM7
import Derived.Test.YtheccnbamcdpmaaGreatDoorRows
import Derived.Test.YtheccnbamcdpmaaGreatDoorCards
import Derived.Test.YtheccnbamcdpmaaGreatDoorTie
import Derived.WalkKit
import Derived.ProofKit
import Derived.OpenShut
import Derived.ShutString
import Derived.ChangeOld
import Derived.Below
import Derived.SizedLaws
import Derived.LaidMore
import Derived.Lay
import Derived.SevenTiedAt
import Derived.Stop.Joined
namespace Go.Proofs.YtheccnbamcdpmaaGreatDoor.RLoadRuns
open Go Go.ChangeShapes Go.WideShapes Go.ChangeAt Go.RowKit Go.Proofs.YtheccnbamcdpmaaGreatDoor.E Go.Proofs.YtheccnbamcdpmaaGreatDoor.ZD
open Go.ChangeMaps (open_string shut_string)
set_option linter.unusedVariables false
set_option maxRecDepth 100000
set_option maxHeartbeats 4000000
theorem ownKn : ownKnob Tryz.prog.godebug = none := by kernel_rfl
theorem laidOut : laidOutB Tryz.prog = true := by kernel_rfl
noncomputable def tT43 : TI X.τ Int := TI.int .u32
noncomputable def eT43 : Enc Int := tT43.E
theorem qT43 : X.E 43 = eT43 := by kernel_rfl
theorem oT43 : OpenP Tryz.prog 43 eT43 (In .u32) := (show eI .u32 = eT43 by kernel_rfl) ▸ openP_int Tryz.underlying43
noncomputable def tT5 : TI X.τ Int := TI.int .u8
noncomputable def eT5 : Enc Int := tT5.E
theorem qT5 : X.E 5 = eT5 := by kernel_rfl
theorem oT5 : OpenP Tryz.prog 5 eT5 (In .u8) := (show eI .u8 = eT5 by kernel_rfl) ▸ openP_int Tryz.underlying5
noncomputable def tT9 : TI X.τ ByteArray := TI.str
noncomputable def eT9 : Enc ByteArray := tT9.E
theorem qT9 : X.E 9 = eT9 := by kernel_rfl
theorem oT9 : OpenP Tryz.prog 9 eT9 (fun s => s.size ≤ 140737488351232) := (show eS = eT9 by kernel_rfl) ▸ openP_str Tryz.underlying9
noncomputable def tT3 : TI X.τ Int := TI.int .i64
noncomputable def eT3 : Enc Int := tT3.E
theorem oT3 : OpenP Tryz.prog 3 eT3 (In .i64) := (show eI .i64 = eT3 by kernel_rfl) ▸ openP_int Tryz.underlying3
theorem lifted (os : Os) (started : os.Started) (H : Type) (enc : TypeId × Value → H) :
    ReturnsInHanded {} Tryz.checked os 3 .any (fun w args => (Rows.loadRunsSpec.pre enc Tryz.prog Tryz.f3 Rows.loadRunsRow.domain false w args ∧ laidMetH Tryz.prog Rows.loadRunsRow.laid w) ∧ sizedMet enc Tryz.prog Tryz.f3 (OpenSpec.ofChange Rows.loadRunsSpec) false w args) (Rows.loadRunsSpec.post enc Tryz.prog Tryz.f3 false true false false) := by
  refine returnsInHanded_of_change_and (C := Tryz.checked) (X := fun w _ => laidMetH Tryz.prog Rows.loadRunsRow.laid w) (fun _ _ _ hh h => h.of_heap hh) ownKn started (by kernel_rfl) Tryz.func3
    (ChangeSpec.witness_shaped (enc := enc) (C := Tryz.checked) (os := os) (X := fun w _ => laidMetH Tryz.prog Rows.loadRunsRow.laid w) false (World.laidAll Tryz.prog os Rows.loadRunsRow.laid) #[.agg #[.slice none 0 0, .slice none 0 0, .slice none 0 0], .agg #[.int .i64 0, .int .i64 0, .slice none 0 0], .int .u8 0] 8 (World.laidAll_os _ _ _)
      (World.shaped_of_ZipB (by kernel_rfl) (by kernel_rfl)) (by kernel_rfl) (by kernel_rfl) (by kernel_rfl)
      (by rw [MakeChecks.laidMetH_plain _ _ _ (by kernel_rfl)]; exact laidMet_laidAll _ (by kernel_rfl) (by kernel_rfl))) ?_
  intro W base args ds gs before hval0 hW hcnd hsz0 _ _
  have hsz : (DataW.weightsEach Tryz.prog (Tryz.f3.params.toList ++ Rows.loadRunsSpec.plain.varTypes Tryz.prog) (ds ++ gs)).all (· ≤ reachBytes) = true := hsz0
  have hval : ∀ (j : Nat) t v, Tryz.f3.params[j]? = some t → args[j]? = some v → Value.okWide Tryz.prog W .any base t v := hval0
  have hW' := hW
  obtain ⟨p, q, hA0, hV, rfl, hfz, hnd⟩ := hW
  have hA : DataW.TrodAll enc Tryz.prog W 0 (fun _ => true) true Tryz.f3.params.toList args.toList ds p := hA0
  rw [Tryz.params3] at hA hval hsz
  obtain ⟨v0, vs0, d0, ds0, p0, q0, hargs, rfl, rfl, h0, r0⟩ := trodAll_cons hA
  obtain ⟨v1, vs1, d1, ds1, p1, q1, rfl, rfl, rfl, h1, r1⟩ := trodAll_cons r0
  obtain ⟨v2, vs2, d2, ds2, p2, q2, rfl, rfl, rfl, h2, r2⟩ := trodAll_cons r1
  obtain ⟨rfl, rfl, rfl⟩ := trodAll_nil r2
  obtain rfl : args = #[v0, v1, v2] := by cases args; simp_all
  obtain ⟨rfl, rfl⟩ := trodVars_none hV
  have lt0 : ∀ x ∈ p0, x.block < W.heap.size := by obtain ⟨m, hm⟩ := h0; exact DataW.trod_lt m _ _ _ hm
  have k0 := h0
  obtain ⟨cs0, rfl, hl0, m0, hf0⟩ := E.open_fields Tryz.underlying26 (hval 0 26 v0 rfl rfl) h0 hsz (j := 0) rfl rfl
  obtain ⟨A0_0, c0_0, l0_0, e0_0, hr0_0, x0_0, v0_0⟩ := E.fieldSlice (ft := 22) (o := 0) (E := eT43) (B := 4) hf0 0 (by kernel_rfl) Tryz.underlying22 (by kernel_rfl) oT43 (by kernel_rfl)
  have f0_0 : cs0.toList.drop 0 = ([.slice A0_0 l0_0.length c0_0] : List Value) ++ cs0.toList.drop 1 := e0_0
  obtain ⟨A0_1, c0_1, l0_1, e0_1, hr0_1, x0_1, v0_1⟩ := E.fieldSlice (ft := 23) (o := 1) (E := eT5) (B := 1) hf0 1 (by kernel_rfl) Tryz.underlying23 (by kernel_rfl) oT5 (by kernel_rfl)
  have f0_1 : cs0.toList.drop 1 = ([.slice A0_1 l0_1.length c0_1] : List Value) ++ cs0.toList.drop 2 := e0_1
  obtain ⟨A0_2, c0_2, l0_2, e0_2, hr0_2, x0_2, v0_2⟩ := E.fieldSlice (ft := 24) (o := 2) (E := eT9) (B := 16) hf0 2 (by kernel_rfl) Tryz.underlying24 (by kernel_rfl) oT9 (by kernel_rfl)
  have f0_2 : cs0.toList.drop 2 = ([.slice A0_2 l0_2.length c0_2] : List Value) ++ cs0.toList.drop 3 := e0_2
  rw [List.drop_zero, f0_1, f0_2, List.drop_of_length_le (by rw [hl0]; exact Nat.le_of_eq (by kernel_rfl)), List.append_nil] at f0_0
  obtain rfl : cs0 = (([.slice A0_0 l0_0.length c0_0] : List Value) ++ (([.slice A0_1 l0_1.length c0_1] : List Value) ++ (([.slice A0_2 l0_2.length c0_2] : List Value)))).toArray := by rw [← f0_0]
  have w0 : okSrivetlaw12_Parts ⟨l0_0, l0_1, l0_2⟩ := ⟨⟨x0_0, v0_0⟩, ⟨x0_1, v0_1⟩, ⟨x0_2, v0_2⟩⟩
  have lt1 : ∀ x ∈ p1, x.block < W.heap.size := by obtain ⟨m, hm⟩ := h1; exact DataW.trod_lt m _ _ _ hm
  have k1 := h1
  obtain ⟨cs1, rfl, hl1, m1, hf1⟩ := E.open_fields Tryz.underlying28 (hval 1 28 v1 rfl rfl) h1 hsz (j := 1) rfl rfl
  obtain ⟨z1_0, e1_0, x1_0⟩ := E.fieldOpen (E := eT3) (ft := 3) (o := 0) (n := 1) hf1 0 (by kernel_rfl) (by kernel_rfl) oT3
  have f1_0 : cs1.toList.drop 0 = eT3.enc z1_0 ++ cs1.toList.drop 1 := e1_0
  obtain ⟨z1_1, e1_1, x1_1⟩ := E.fieldOpen (E := eT3) (ft := 3) (o := 1) (n := 1) hf1 1 (by kernel_rfl) (by kernel_rfl) oT3
  have f1_1 : cs1.toList.drop 1 = eT3.enc z1_1 ++ cs1.toList.drop 2 := e1_1
  obtain ⟨A1_2, c1_2, l1_2, e1_2, hr1_2, x1_2, v1_2⟩ := E.fieldSlice (ft := 22) (o := 2) (E := eT43) (B := 4) hf1 2 (by kernel_rfl) Tryz.underlying22 (by kernel_rfl) oT43 (by kernel_rfl)
  have f1_2 : cs1.toList.drop 2 = ([.slice A1_2 l1_2.length c1_2] : List Value) ++ cs1.toList.drop 3 := e1_2
  rw [List.drop_zero, f1_1, f1_2, List.drop_of_length_le (by rw [hl1]; exact Nat.le_of_eq (by kernel_rfl)), List.append_nil] at f1_0
  obtain rfl : cs1 = (eT3.enc z1_0 ++ (eT3.enc z1_1 ++ (([.slice A1_2 l1_2.length c1_2] : List Value)))).toArray := by rw [← f1_0]
  have w1 : okSrivetlaw12_Where ⟨z1_0, z1_1, l1_2⟩ := ⟨x1_0, x1_1, ⟨x1_2, v1_2⟩⟩
  obtain ⟨a2, rfl, rfl, rfl, w2⟩ := open_int Tryz.underlying5 (hval 2 5 v2 rfl rfl) h2
  clear hA0 hval0 hsz0 hsz
  have e1 : (fOs X id (fun _ => 0) rivetlaw12_LoadRuns.C.oi (fAs X id rivetlaw12_LoadRuns.C.ai ((z1_0, z1_1, a2, l0_0, l0_1, l0_2, l1_2) : HLs rivetlaw12_LoadRuns.C.I)).2).1 = roL 0 ([roP 43 l0_0 A0_0 c0_0 (qT43 ▸ hr0_0), roP 5 l0_1 A0_1 c0_1 (qT5 ▸ hr0_1), roP 9 l0_2 A0_2 c0_2 (qT9 ▸ hr0_2), roP 43 l1_2 A1_2 c1_2 (qT43 ▸ hr1_2)] : List (Ro X W)) := by kernel_rfl
  have e2 : (fAs X id rivetlaw12_LoadRuns.C.ai ((z1_0, z1_1, a2, l0_0, l0_1, l0_2, l1_2) : HLs rivetlaw12_LoadRuns.C.I)).1 = [.o (.a ([.sl 0] ++ ([.sl 1] ++ ([.sl 2])))), .o (.a (tT3.seg z1_0 ++ (tT3.seg z1_1 ++ ([.sl 3])))), .o (.c (.int .u8 a2))] := by kernel_rfl
  have e3 : AVs (roR ([roP 43 l0_0 A0_0 c0_0 (qT43 ▸ hr0_0), roP 5 l0_1 A0_1 c0_1 (qT5 ▸ hr0_1), roP 9 l0_2 A0_2 c0_2 (qT9 ▸ hr0_2), roP 43 l1_2 A1_2 c1_2 (qT43 ▸ hr1_2)] : List (Ro X W))) [.o (.a ([.sl 0] ++ ([.sl 1] ++ ([.sl 2])))), .o (.a (tT3.seg z1_0 ++ (tT3.seg z1_1 ++ ([.sl 3])))), .o (.c (.int .u8 a2))] [_, _, _] := ⟨_, _, rfl, ⟨_, rfl, (CRs.app (CRs.one.2 (CR_row (i := 0) rfl)) (CRs.app (CRs.one.2 (CR_row (i := 1) rfl)) (CRs.one.2 (CR_row (i := 2) rfl))))⟩, ⟨_, _, rfl, ⟨_, rfl, (CRs.app (tT3.hseg _ z1_0) (CRs.app (tT3.hseg _ z1_1) (CRs.one.2 (CR_row (i := 3) rfl))))⟩, ⟨_, _, rfl, rfl, rfl⟩⟩⟩
  refine (rivetlaw12_LoadRuns.ok.law ([roP 43 l0_0 A0_0 c0_0 (qT43 ▸ hr0_0), roP 5 l0_1 A0_1 c0_1 (qT5 ▸ hr0_1), roP 9 l0_2 A0_2 c0_2 (qT9 ▸ hr0_2), roP 43 l1_2 A1_2 c1_2 (qT43 ▸ hr1_2)] : List (Ro X W)) (h := (z1_0, z1_1, a2, l0_0, l0_1, l0_2, l1_2)) (h' := true) (Pure.LoadRuns (⟨l0_0, l0_1, l0_2⟩ : Srivetlaw12_Parts) (⟨z1_0, z1_1, l1_2⟩ : Srivetlaw12_Where) a2 w0 w1 w2) e1 (by rw [e2]; exact e3) rfl).mono fun e W' hx => ?_
  obtain ⟨v, rfl, ρ', _, _, hv, hr⟩ := hx
  obtain rfl : v = .bool true := (List.cons.inj (show [v] = [.bool true] from hv)).1
  have bel := hr.st.below
  exact ⟨_, rfl, _, _, _, [], _, [], hW', trodAll_mk1 (shut_bool Tryz.underlying4 _), (trodAll_cons_mk (Below.trod laidOut (by kernel_rfl) (of_decide_eq_true (by kernel_rfl)) k0 bel lt0) (trodAll_cons_mk (Below.trod laidOut (by kernel_rfl) (of_decide_eq_true (by kernel_rfl)) k1 bel lt1) (trodAll_cons_mk (shut_int Tryz.underlying5 w2) trodAll_mk0))), rfl, bel.frame _, fun h => by cases h⟩
theorem over : Rows.loadRunsRow.holds Tryz.pinned (OpenSpec.ofChange Rows.loadRunsSpec) :=
  OpenClaim.holds_of_wide 3 Tryz.f3 rfl rfl rfl rfl rfl rfl rfl ⟨rfl, rfl, rfl, rfl, rfl⟩ rfl rfl rfl rfl rfl (by kernel_rfl) Tryz.func3 (by kernel_rfl)
    (of_decide_eq_true (by kernel_rfl)) (by unfold Func.isWrapper; first | (rw [if_pos (by decide +kernel)]; kernel_rfl) | (rw [if_neg (by decide +kernel)]; exact ⟨rfl, rfl⟩))
    (fun os started H enc _ => lifted os started H enc)
end Go.Proofs.YtheccnbamcdpmaaGreatDoor.RLoadRuns
namespace Go.Proofs.YtheccnbamcdpmaaGreatDoor
/-- The statement: the tied card. -/
theorem loadRuns_holds : Rows.LoadRunsCardSaid :=
  Claim7.holds_tied_plain_at .later [] [.data, .pinned] true (true, "a232e620cdecfc4db832a0e8c05df61c1338c7cbb11f2747f54893b1f3a374f3") false RLoadRuns.over (fun _ h => by cases h) (by kernel_rfl) (fun _ h => by cases h) loadRuns_row_tie rfl ⟨rfl, rfl⟩ (by kernel_rfl) rfl
    (fun f fn hf hfn => by
      obtain rfl : f = 3 := Option.some.inj ((show Tryz.prog.funcNamed "rivet/rivetlaw12.LoadRuns" = some 3 by kernel_rfl).symm.trans hf) |>.symm
      obtain rfl : fn = Tryz.f3 := (Option.some.inj (Tryz.func3.symm.trans hfn)).symm
      exact ⟨by kernel_rfl, fun j t ht => by
        rw [Tryz.params3] at ht
        have hm : t ∈ [26, 28, 5] := by simpa using Array.mem_of_getElem? ht
        have hall : ([26, 28, 5].all fun u => !Tryz.prog.wantsStandIn u) = true := by kernel_rfl
        exact (show Tryz.prog.wantsStandIn t = false by simpa using List.all_eq_true.1 hall t hm)⟩)
    (by kernel_rfl)
end Go.Proofs.YtheccnbamcdpmaaGreatDoor

