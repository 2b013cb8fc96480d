/- Statement LoadStarts: the Go function of that name answers true for every input; shown by its walk (the contract) and the plain law. No condition: it is the given statement, without anything ahead of it. -/
import Derived.Test.YtheccnbamcdpmaaDoorRows
import Derived.Test.YtheccnbamcdpmaaDoorT12zLoadStarts
import Derived.Test.YtheccnbamcdpmaaDoorO12j
import Derived.Test.YtheccnbamcdpmaaDoorEH
import Derived.Test.YtheccnbamcdpmaaDoorCards
import Derived.Test.YtheccnbamcdpmaaDoorTie
import Derived.WalkKit
import Derived.ProofKit
import Derived.OpenShut
import Derived.ShutString
import Derived.ChangeOld
import Derived.Below
import Derived.SizedLaws
import Derived.LaidMore
import Derived.Lay
import Derived.SevenTiedAt
import Derived.Stop.Joined
namespace Go.Proofs.YtheccnbamcdpmaaDoor.RLoadStarts
open Go Go.ChangeShapes Go.WideShapes Go.ChangeAt Go.RowKit Go.Proofs.YtheccnbamcdpmaaDoor.E Go.Proofs.YtheccnbamcdpmaaDoor.T12
open Go.ChangeMaps (open_string shut_string)
set_option linter.unusedVariables false
theorem ownKn : ownKnob Tryd.prog.godebug = none := by kernel_rfl
theorem laidOut : laidOutB Tryd.prog = true := by kernel_rfl
set_option maxRecDepth 100000 in
theorem lifted (os : Os) (started : os.Started) (H : Type) (enc : TypeId × Value → H) :
    ReturnsInHanded {} Tryd.checked os 6 .any (fun w args => (Rows.loadStartsSpec.pre enc Tryd.prog Tryd.f6 Rows.loadStartsRow.domain false w args ∧ laidMetH Tryd.prog Rows.loadStartsRow.laid w) ∧ sizedMet enc Tryd.prog Tryd.f6 (OpenSpec.ofChange Rows.loadStartsSpec) false w args) (Rows.loadStartsSpec.post enc Tryd.prog Tryd.f6 false true false false) := by
  refine returnsInHanded_of_change_and (C := Tryd.checked) (X := fun w _ => laidMetH Tryd.prog Rows.loadStartsRow.laid w) (fun _ _ _ hh h => h.of_heap hh) ownKn started (by kernel_rfl) Tryd.func6
    (ChangeSpec.witness_shaped (enc := enc) (C := Tryd.checked) (os := os) (X := fun w _ => laidMetH Tryd.prog Rows.loadStartsRow.laid w) false (World.laidAll Tryd.prog os Rows.loadStartsRow.laid) #[.agg #[.slice none 0 0, .slice none 0 0, .slice none 0 0], .agg #[.int .i64 0, .int .i64 0, .slice none 0 0]] 8 (World.laidAll_os _ _ _)
      (World.shaped_of_ZipB (by kernel_rfl) (by kernel_rfl)) (by kernel_rfl) (by kernel_rfl) (by kernel_rfl)
      (by rw [MakeChecks.laidMetH_plain _ _ _ (by kernel_rfl)]; exact laidMet_laidAll _ (by kernel_rfl) (by kernel_rfl))) ?_
  intro W base args ds gs before hval0 hW hcnd hsz0 _ _
  have hsz : (DataW.weightsEach Tryd.prog (Tryd.f6.params.toList ++ Rows.loadStartsSpec.plain.varTypes Tryd.prog) (ds ++ gs)).all (· ≤ reachBytes) = true := hsz0
  have hval : ∀ (j : Nat) t v, Tryd.f6.params[j]? = some t → args[j]? = some v → Value.okWide Tryd.prog W .any base t v := hval0
  have hW' := hW
  obtain ⟨p, q, hA0, hV, rfl, hfz, hnd⟩ := hW
  have hA : DataW.TrodAll enc Tryd.prog W 0 (fun _ => true) true Tryd.f6.params.toList args.toList ds p := hA0
  rw [Tryd.params6] at hA hval hsz
  obtain ⟨v0, vs0, d0, ds0, p0, q0, hargs, rfl, rfl, h0, r0⟩ := trodAll_cons hA
  obtain ⟨v1, vs1, d1, ds1, p1, q1, rfl, rfl, rfl, h1, r1⟩ := trodAll_cons r0
  obtain ⟨rfl, rfl, rfl⟩ := trodAll_nil r1
  obtain rfl : args = #[v0, v1] := by cases args; simp_all
  obtain ⟨rfl, rfl⟩ := trodVars_none hV
  have lt0 : ∀ x ∈ p0, x.block < W.heap.size := by obtain ⟨m, hm⟩ := h0; exact DataW.trod_lt m _ _ _ hm
  have k0 := h0
  obtain ⟨cs0, rfl, hl0, m0, hf0⟩ := E.open_fields Tryd.underlying26 (hval 0 26 v0 rfl rfl) h0 hsz (j := 0) rfl rfl
  obtain ⟨A0_0, c0_0, l0_0, e0_0, hr0_0, x0_0, v0_0⟩ := E.fieldSlice (ft := 22) (o := 0) (E := (eI .u32)) (B := 4) hf0 0 (by kernel_rfl) Tryd.underlying22 (by kernel_rfl) (openP_int Tryd.underlying38) (by kernel_rfl)
  obtain ⟨A0_1, c0_1, l0_1, e0_1, hr0_1, x0_1, v0_1⟩ := E.fieldSlice (ft := 23) (o := 1) (E := (eI .u8)) (B := 1) hf0 1 (by kernel_rfl) Tryd.underlying23 (by kernel_rfl) (openP_int Tryd.underlying5) (by kernel_rfl)
  obtain ⟨A0_2, c0_2, l0_2, e0_2, hr0_2, x0_2, v0_2⟩ := E.fieldSlice (ft := 24) (o := 2) (E := eS) (B := 16) hf0 2 (by kernel_rfl) Tryd.underlying24 (by kernel_rfl) (openP_str Tryd.underlying9) (by kernel_rfl)
  have f0_0 : cs0.toList.drop 0 = [.slice A0_0 l0_0.length c0_0] ++ cs0.toList.drop 1 := e0_0
  have f0_1 : cs0.toList.drop 1 = [.slice A0_1 l0_1.length c0_1] ++ cs0.toList.drop 2 := e0_1
  have f0_2 : cs0.toList.drop 2 = [.slice A0_2 l0_2.length c0_2] ++ cs0.toList.drop 3 := e0_2
  rw [List.drop_zero, f0_1, f0_2, List.drop_of_length_le (by rw [hl0]; exact Nat.le_of_eq (by kernel_rfl))] at f0_0
  obtain rfl : cs0 = #[.slice A0_0 l0_0.length c0_0, .slice A0_1 l0_1.length c0_1, .slice A0_2 l0_2.length c0_2] := by cases cs0; simpa using f0_0
  have w0 : okSrivetlaw12_Parts ⟨l0_0, l0_1, l0_2⟩ := ⟨x0_0, v0_0, x0_1, v0_1, x0_2, v0_2⟩
  have lt1 : ∀ x ∈ p1, x.block < W.heap.size := by obtain ⟨m, hm⟩ := h1; exact DataW.trod_lt m _ _ _ hm
  have k1 := h1
  obtain ⟨cs1, rfl, hl1, m1, hf1⟩ := E.open_fields Tryd.underlying64 (hval 1 64 v1 rfl rfl) h1 hsz (j := 1) rfl rfl
  obtain ⟨z1_0, e1_0, x1_0⟩ := E.fieldOpen (E := (eI .i64)) (ft := 3) (o := 0) (n := 1) hf1 0 (by kernel_rfl) rfl (openP_int Tryd.underlying3)
  obtain ⟨z1_1, e1_1, x1_1⟩ := E.fieldOpen (E := (eI .i64)) (ft := 3) (o := 1) (n := 1) hf1 1 (by kernel_rfl) rfl (openP_int Tryd.underlying3)
  obtain ⟨A1_2, c1_2, l1_2, e1_2, hr1_2, x1_2, v1_2⟩ := E.fieldSlice (ft := 22) (o := 2) (E := (eI .u32)) (B := 4) hf1 2 (by kernel_rfl) Tryd.underlying22 (by kernel_rfl) (openP_int Tryd.underlying38) (by kernel_rfl)
  have f1_0 : cs1.toList.drop 0 = [.int .i64 z1_0] ++ cs1.toList.drop 1 := e1_0
  have f1_1 : cs1.toList.drop 1 = [.int .i64 z1_1] ++ cs1.toList.drop 2 := e1_1
  have f1_2 : cs1.toList.drop 2 = [.slice A1_2 l1_2.length c1_2] ++ cs1.toList.drop 3 := e1_2
  rw [List.drop_zero, f1_1, f1_2, List.drop_of_length_le (by rw [hl1]; exact Nat.le_of_eq (by kernel_rfl))] at f1_0
  obtain rfl : cs1 = #[.int .i64 z1_0, .int .i64 z1_1, .slice A1_2 l1_2.length c1_2] := by cases cs1; simpa using f1_0
  have w1 : okSrivetlaw12_Where ⟨z1_0, z1_1, l1_2⟩ := ⟨x1_0, x1_1, x1_2, v1_2⟩
  clear hA0 hval0 hsz0 hsz
  refine (rivetlaw12_LoadStarts.calls (⟨l0_0, l0_1, l0_2⟩ : Srivetlaw12_Parts) A0_0 c0_0 A0_1 c0_1 A0_2 c0_2 (⟨z1_0, z1_1, l1_2⟩ : Srivetlaw12_Where) A1_2 c1_2 true W hr0_0 hr0_1 hr0_2 hr1_2 (Pure.LoadStarts (⟨l0_0, l0_1, l0_2⟩ : Srivetlaw12_Parts) (⟨z1_0, z1_1, l1_2⟩ : Srivetlaw12_Where) w0 w1)).mono fun e W' hx => ?_
  obtain ⟨rfl, hst⟩ := hx
  have bel := hst.below
  exact ⟨_, rfl, _, _, _, [], _, [], hW', trodAll_mk1 (shut_bool Tryd.underlying4 _), (trodAll_cons_mk (Below.trod laidOut (by kernel_rfl) (of_decide_eq_true (by kernel_rfl)) k0 bel lt0) (trodAll_cons_mk (Below.trod laidOut (by kernel_rfl) (of_decide_eq_true (by kernel_rfl)) k1 bel lt1) trodAll_mk0)), rfl, bel.frame _, fun h => by cases h⟩
theorem over : Rows.loadStartsRow.holds Tryd.pinned (OpenSpec.ofChange Rows.loadStartsSpec) :=
  OpenClaim.holds_of_wide 6 Tryd.f6 rfl rfl rfl rfl rfl rfl rfl ⟨rfl, rfl, rfl, rfl, rfl⟩ rfl rfl rfl rfl rfl (by kernel_rfl) Tryd.func6 (by kernel_rfl)
    (of_decide_eq_true (by kernel_rfl)) (by unfold Func.isWrapper; first | (rw [if_pos (by decide +kernel)]; kernel_rfl) | (rw [if_neg (by decide +kernel)]; exact ⟨rfl, rfl⟩))
    (fun os started H enc _ => lifted os started H enc)
end Go.Proofs.YtheccnbamcdpmaaDoor.RLoadStarts
namespace Go.Proofs.YtheccnbamcdpmaaDoor
/-- The statement: the tied card. -/
theorem loadStarts_holds : Rows.LoadStartsCardSaid :=
  Claim7.holds_tied_plain_at .later [] [.data, .pinned] true (true, "78158d48992f4f475614602b131000ef0f7a29b3f2e7169cc325525294f43a77") false RLoadStarts.over (fun _ h => by cases h) (by kernel_rfl) (fun _ h => by cases h) loadStarts_row_tie rfl ⟨rfl, rfl⟩ (by kernel_rfl) rfl
    (fun f fn hf hfn => by
      obtain rfl : f = 6 := Option.some.inj ((show Tryd.prog.funcNamed "rivet/rivetlaw12.LoadStarts" = some 6 by kernel_rfl).symm.trans hf) |>.symm
      obtain rfl : fn = Tryd.f6 := (Option.some.inj (Tryd.func6.symm.trans hfn)).symm
      exact ⟨by kernel_rfl, fun j t ht => by
        rw [Tryd.params6] at ht
        have hm : t ∈ [26, 64] := by simpa using Array.mem_of_getElem? ht
        have hall : ([26, 64].all fun u => !Tryd.prog.wantsStandIn u) = true := by kernel_rfl
        exact (show Tryd.prog.wantsStandIn t = false by simpa using List.all_eq_true.1 hall t hm)⟩)
    (by kernel_rfl)
end Go.Proofs.YtheccnbamcdpmaaDoor

