/- Statement FileWords: the Go function of that name answers true for every input; shown by its walk (the contract) and the plain law. No condition: it is the given statement, without anything ahead of it. -/
import Derived.Test.YtmfnololpfdfdaaDoorRows
import Derived.Test.YtmfnololpfdfdaaDoorT09zFileWords
import Derived.Test.YtmfnololpfdfdaaDoorF10l
import Derived.Test.YtmfnololpfdfdaaDoorEH
import Derived.Test.YtmfnololpfdfdaaDoorCards
import Derived.Test.YtmfnololpfdfdaaDoorTie
import Derived.WalkKit
import Derived.ProofKit
import Derived.OpenShut
import Derived.ShutString
import Derived.ChangeOld
import Derived.Below
import Derived.SizedLaws
import Derived.LaidMore
import Derived.Lay
import Derived.SevenTiedAt
import Derived.Stop.Joined
namespace Go.Proofs.YtmfnololpfdfdaaDoor.RFileWords
open Go Go.ChangeShapes Go.WideShapes Go.ChangeAt Go.RowKit Go.Proofs.YtmfnololpfdfdaaDoor.E Go.Proofs.YtmfnololpfdfdaaDoor.T09
open Go.ChangeMaps (open_string shut_string)
set_option linter.unusedVariables false
theorem ownKn : ownKnob Tryd.prog.godebug = none := by kernel_rfl
theorem laidOut : laidOutB Tryd.prog = true := by kernel_rfl
set_option maxRecDepth 100000 in
theorem lifted (os : Os) (started : os.Started) (H : Type) (enc : TypeId × Value → H) :
    ReturnsInHanded {} Tryd.checked os 12 .any (fun w args => (Rows.fileWordsSpec.pre enc Tryd.prog Tryd.f12 Rows.fileWordsRow.domain false w args ∧ laidMetH Tryd.prog Rows.fileWordsRow.laid w) ∧ sizedMet enc Tryd.prog Tryd.f12 (OpenSpec.ofChange Rows.fileWordsSpec) false w args) (Rows.fileWordsSpec.post enc Tryd.prog Tryd.f12 false true false false) := by
  refine returnsInHanded_of_change_and (C := Tryd.checked) (X := fun w _ => laidMetH Tryd.prog Rows.fileWordsRow.laid w) (fun _ _ _ hh h => h.of_heap hh) ownKn started (by kernel_rfl) Tryd.func12
    (ChangeSpec.witness_shaped (enc := enc) (C := Tryd.checked) (os := os) (X := fun w _ => laidMetH Tryd.prog Rows.fileWordsRow.laid w) false (World.laidAll Tryd.prog os Rows.fileWordsRow.laid) #[.slice none 0 0, .int .u32 0, .int .u32 0] 8 (World.laidAll_os _ _ _)
      (World.shaped_of_ZipB (by kernel_rfl) (by kernel_rfl)) (by kernel_rfl) (by kernel_rfl) (by kernel_rfl)
      (by rw [MakeChecks.laidMetH_plain _ _ _ (by kernel_rfl)]; exact laidMet_laidAll _ (by kernel_rfl) (by kernel_rfl))) ?_
  intro W base args ds gs before hval0 hW hcnd hsz0 _ _
  have hsz : (DataW.weightsEach Tryd.prog (Tryd.f12.params.toList ++ Rows.fileWordsSpec.plain.varTypes Tryd.prog) (ds ++ gs)).all (· ≤ reachBytes) = true := hsz0
  have hval : ∀ (j : Nat) t v, Tryd.f12.params[j]? = some t → args[j]? = some v → Value.okWide Tryd.prog W .any base t v := hval0
  have hW' := hW
  obtain ⟨p, q, hA0, hV, rfl, hfz, hnd⟩ := hW
  have hA : DataW.TrodAll enc Tryd.prog W 0 (fun _ => true) true Tryd.f12.params.toList args.toList ds p := hA0
  rw [Tryd.params12] at hA hval hsz
  obtain ⟨v0, vs0, d0, ds0, p0, q0, hargs, rfl, rfl, h0, r0⟩ := trodAll_cons hA
  obtain ⟨v1, vs1, d1, ds1, p1, q1, rfl, rfl, rfl, h1, r1⟩ := trodAll_cons r0
  obtain ⟨v2, vs2, d2, ds2, p2, q2, rfl, rfl, rfl, h2, r2⟩ := trodAll_cons r1
  obtain ⟨rfl, rfl, rfl⟩ := trodAll_nil r2
  obtain rfl : args = #[v0, v1, v2] := by cases args; simp_all
  obtain ⟨rfl, rfl⟩ := trodVars_none hV
  have lt0 : ∀ x ∈ p0, x.block < W.heap.size := by obtain ⟨m, hm⟩ := h0; exact DataW.trod_lt m _ _ _ hm
  have k0 := h0
  obtain ⟨A0, c0, l0, rfl, hr0, w0, y0⟩ := E.open_row (hval 0 22 v0 rfl rfl) h0 Tryd.underlying22 Tryd.underlying37 (by kernel_rfl) hsz (j := 0) rfl rfl (B := 4) (by kernel_rfl)
  obtain ⟨a1, rfl, rfl, rfl, w1⟩ := open_int Tryd.underlying37 (hval 1 37 v1 rfl rfl) h1
  obtain ⟨a2, rfl, rfl, rfl, w2⟩ := open_int Tryd.underlying37 (hval 2 37 v2 rfl rfl) h2
  clear hA0 hval0 hsz0 hsz
  refine (rivetlaw10_FileWords.calls A0 c0 l0 a1 a2 true W hr0 (Pure.FileWords l0 a1 a2 w0 y0 w1 w2)).mono fun e W' hx => ?_
  obtain ⟨rfl, hst⟩ := hx
  have bel := hst.below
  exact ⟨_, rfl, _, _, _, [], _, [], hW', trodAll_mk1 (shut_bool Tryd.underlying4 _), (trodAll_cons_mk (Below.trod laidOut (by kernel_rfl) (of_decide_eq_true (by kernel_rfl)) k0 bel lt0) (trodAll_cons_mk (shut_int Tryd.underlying37 w1) (trodAll_cons_mk (shut_int Tryd.underlying37 w2) trodAll_mk0))), rfl, bel.frame _, fun h => by cases h⟩
theorem over : Rows.fileWordsRow.holds Tryd.pinned (OpenSpec.ofChange Rows.fileWordsSpec) :=
  OpenClaim.holds_of_wide 12 Tryd.f12 rfl rfl rfl rfl rfl rfl rfl ⟨rfl, rfl, rfl, rfl, rfl⟩ rfl rfl rfl rfl rfl (by kernel_rfl) Tryd.func12 (by kernel_rfl)
    (of_decide_eq_true (by kernel_rfl)) (by unfold Func.isWrapper; first | (rw [if_pos (by decide +kernel)]; kernel_rfl) | (rw [if_neg (by decide +kernel)]; exact ⟨rfl, rfl⟩))
    (fun os started H enc _ => lifted os started H enc)
end Go.Proofs.YtmfnololpfdfdaaDoor.RFileWords
namespace Go.Proofs.YtmfnololpfdfdaaDoor
/-- The statement: the tied card. -/
theorem fileWords_holds : Rows.FileWordsCardSaid :=
  Claim7.holds_tied_plain_at .later [] [.data, .pinned] true (true, "310fd94ad1f1f615751a34ac6d76e8ee9fb4b08c8ac8797c6fcef604a2c7fb9e") false RFileWords.over (fun _ h => by cases h) (by kernel_rfl) (fun _ h => by cases h) fileWords_row_tie rfl ⟨rfl, rfl⟩ (by kernel_rfl) rfl
    (fun f fn hf hfn => by
      obtain rfl : f = 12 := Option.some.inj ((show Tryd.prog.funcNamed "rivet/rivetlaw10.FileWords" = some 12 by kernel_rfl).symm.trans hf) |>.symm
      obtain rfl : fn = Tryd.f12 := (Option.some.inj (Tryd.func12.symm.trans hfn)).symm
      exact ⟨by kernel_rfl, fun j t ht => by
        rw [Tryd.params12] at ht
        have hm : t ∈ [22, 37, 37] := by simpa using Array.mem_of_getElem? ht
        have hall : ([22, 37, 37].all fun u => !Tryd.prog.wantsStandIn u) = true := by kernel_rfl
        exact (show Tryd.prog.wantsStandIn t = false by simpa using List.all_eq_true.1 hall t hm)⟩)
    (by kernel_rfl)
end Go.Proofs.YtmfnololpfdfdaaDoor

