/- The plain law of the statement FileBack. No condition. -/
import Derived.Test.YtmfnololpfdfdaaDoorF10f
import Derived.Test.YtmfnololpfdfdaaDoorT09zFileBack
namespace Go.Proofs.YtmfnololpfdfdaaDoor.T09
set_option linter.unusedVariables false
set_option linter.unusedSimpArgs false
open Go Go.RowKit Go.Proofs.YtmfnololpfdfdaaDoor.E Go.Proofs.YtmfnololpfdfdaaDoor.L07 Go.Proofs.YtmfnololpfdfdaaDoor.O09 Go.Proofs.YtmfnololpfdfdaaDoor.F10
theorem back_loop {o : Sapi_Obj} (h : MayOk o) (hw : Wd o.Words) : loopO (fun σ : Int => rivetlaw10_FileBack.b73 (bytesF o) σ) 0 = some (.done ()) := by
  obtain ⟨k1, k2, k3⟩ := bytesF_len h hw
  have hby := bytesF_by h
  have key : ∀ (m i : Nat), i + m = (bytesF o).length → loopO (fun σ : Int => rivetlaw10_FileBack.b73 (bytesF o) σ) (i : Int) = some (.done ()) := by
    intro m
    induction m with
    | zero =>
      intro i hi
      refine loopO_done ?_
      unfold rivetlaw10_FileBack.b73
      rw [if_neg (by omega)]
    | succ m ih =>
      intro i hi
      refine Eq.trans (loopO_next (s' := ((i + 1 : Nat) : Int)) ?_) (ih (i + 1) (by omega))
      unfold rivetlaw10_FileBack.b73
      rw [if_pos (by omega), if_pos (by omega), Int.toNat_natCast, take_isF (take_by hby i) (by rw [List.length_take]; omega), Option.bind_some, take_prefix h hw (by omega)]
      simp only
      rw [if_pos trivial, w64s (by omega) (by omega)]
      rfl
  exact key _ 0 (Nat.zero_add _)
theorem Pure.FileBack (a0 : Srivetlaw10_Parts) (l1 : List Int) : okSrivetlaw10_Parts a0 → (∀ n ∈ l1, In .u8 n) → l1.length * 1 ≤ 140737488351232 → rivetlaw10_FileBack a0 l1 = some true := by
  intro h0 h1 h2
  obtain ⟨o, ho, hf⟩ := fitobj_is (w := a0.Words) (b := a0.Bits) (ns := a0.Names) (fun x hx => (h0.1 x hx).u32) (fun s hs => h0.2.2.2.2.1 s hs)
  have hob := hf.ob
  have h := may_elim hf.may
  have hw := hf.w
  obtain ⟨k1, k2, k3⟩ := bytesF_len h hw
  have hby := bytesF_by h
  have hput : file_Put o = some (bytesF o, 0) := by rw [put_isF hob]; unfold putF; rw [if_pos hf.may]
  have hwl := hf.wl
  have hb : By (l1.take (mnn (l1.length : Int) 400).toNat) := fun x hx => (h1 x (List.mem_of_mem_take hx)).u8
  have hbl : (l1.take (mnn (l1.length : Int) 400).toNat).length ≤ 400 := by rw [take_min _ 400 (by omega), List.length_take]; omega
  have t0 := take_put h hw []
  rw [List.append_nil, if_pos rfl] at t0
  obtain ⟨t, e1, e2⟩ := refsame_is (b := o) hob (by omega)
  unfold rivetlaw10_FileBack
  rw [F10.shown_is, Option.bind_some, ho, Option.bind_some, hput, Option.bind_some]
  simp only
  rw [take_isF hby (by omega), Option.bind_some, t0]
  simp only
  rw [back_loop h hw, Option.bind_some]
  simp only
  unfold rivetlaw10_FileBack.j1
  rw [if_pos (mnn_ok _ _ (by omega) (by omega))]
  generalize l1.take (mnn (l1.length : Int) 400).toNat = b at *
  rw [List.nil_append, if_pos (by simp; omega), if_pos (by omega), take_isF (by_append hby hb) (by rw [List.length_append]; omega), Option.bind_some, take_put h hw]
  unfold rivetlaw10_FileBack.j2
  have h4 : ((bytesF o).length : Int).tmod 4 = 0 := by rw [Int.tmod_eq_emod_of_nonneg (by omega)]; omega
  cases b with
  | nil =>
    rw [if_pos rfl]
    simp only
    rw [if_pos trivial, if_pos trivial, if_pos trivial, e1, Option.bind_some, if_pos (e2.2 rfl), if_pos h4]
    rfl
  | cons x r =>
    rw [if_neg (by simp)]
    simp only
    rw [if_pos trivial, if_pos trivial, if_pos trivial, e1, Option.bind_some, if_pos (e2.2 rfl), if_pos h4, decide_eq_true (by simp)]
    rfl
end Go.Proofs.YtmfnololpfdfdaaDoor.T09
