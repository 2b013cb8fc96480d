/- The plain law of the statement FileParts. No condition. -/
import Derived.Test.YtmfnololpfdfdaaDoorF10f
import Derived.Test.YtmfnololpfdfdaaDoorT09zFileParts
namespace Go.Proofs.YtmfnololpfdfdaaDoor.T09
set_option linter.unusedVariables false
set_option linter.unusedSimpArgs false
open Go Go.RowKit Go.Proofs.YtmfnololpfdfdaaDoor.E Go.Proofs.YtmfnololpfdfdaaDoor.L07 Go.Proofs.YtmfnololpfdfdaaDoor.O09 Go.Proofs.YtmfnololpfdfdaaDoor.F10
open Go.Proofs.YtmfnololpfdfdaaDoor.C08 (packed pack_chain)
theorem parts_loop {o : Sapi_Obj} (h : MayOk o) {b : List Int} (hb : b.length ≤ 10000) : loopO (fun σ : List Int × Int => rivetlaw10_FileParts.b88 o σ.1 σ.2) (b, 0) = some (.done (b ++ symsB o.Syms)) := by
  have hyl := h.yl
  have key : ∀ (m i : Nat), i + m = o.Syms.length → loopO (fun σ : List Int × Int => rivetlaw10_FileParts.b88 o σ.1 σ.2) (b ++ symsB (o.Syms.take i), (i : Int)) = some (.done (b ++ symsB o.Syms)) := by
    intro m
    induction m with
    | zero =>
      intro i hi
      rw [List.take_of_length_le (by omega)]
      refine loopO_done ?_
      show rivetlaw10_FileParts.b88 o _ (i : Int) = _
      unfold rivetlaw10_FileParts.b88
      rw [if_neg (by omega)]
    | succ m ih =>
      intro i hi
      have hi' : i < o.Syms.length := by omega
      have hn := h.nm _ (sy_mem hi')
      have hl := symsB_len (l := o.Syms.take i) fun x hx => h.nm x (List.mem_of_mem_take hx)
      rw [List.length_take] at hl
      have e : ix eSapi_Sym.d o.Syms (i : Int) = sy o.Syms i := rfl
      have hp := pad_len hn
      refine Eq.trans (loopO_next (s' := (b ++ symsB (o.Syms.take (i + 1)), ((i + 1 : Nat) : Int))) ?_) (ih (i + 1) (by omega))
      show rivetlaw10_FileParts.b88 o _ (i : Int) = _
      unfold rivetlaw10_FileParts.b88 rivetlaw10_FileParts.j1
      rw [if_pos (by omega), if_pos (by omega), e, putname_is, Option.bind_some]
      unfold putN
      rw [if_pos hn]
      simp only
      rw [if_pos trivial, if_pos (by rw [List.length_append]; omega), if_pos (by omega), put_is (by simp) (wd1 _), Option.bind_some, if_pos (by rw [List.length_append, List.length_append, putS_length, List.length_singleton]; omega), w64s (by omega) (by omega), symsB_take hi']
      unfold symB
      simp only [List.append_assoc]
      rfl
  have := key o.Syms.length 0 (by omega)
  simpa [symsB] using this
theorem Pure.FileParts (a0 : Srivetlaw10_Parts) : okSrivetlaw10_Parts a0 → rivetlaw10_FileParts a0 = some true := by
  intro h0
  obtain ⟨o, ho, hf⟩ := fitobj_is (w := a0.Words) (b := a0.Bits) (ns := a0.Names) (fun x hx => (h0.1 x hx).u32) (fun s hs => h0.2.2.2.2.1 s hs)
  have hob := hf.ob
  have h := may_elim hf.may
  have hw := hf.w
  obtain ⟨k1, k2, k3⟩ := bytesF_len h hw
  have hby := bytesF_by h
  have hput : file_Put o = some (bytesF o, 0) := by rw [put_isF hob]; unfold putF; rw [if_pos hf.may]
  have hwl := hf.wl
  obtain ⟨p, hd, h1, h2, h3, h4, h5, h6, h7⟩ := bytesF_is h hw
  have hsl := ris_len hf.ris
  have hyl := hf.yl
  have hw4 : Wd [894847314, (o.Words.length : Int), (hd : Int), (o.Syms.length : Int)] := fun x hx => by
    simp only [List.mem_cons, List.not_mem_nil, or_false] at hx
    omega
  unfold rivetlaw10_FileParts
  rw [F10.shown_is, Option.bind_some, ho, Option.bind_some, hput, Option.bind_some]
  simp only
  rw [Go.Proofs.YtmfnololpfdfdaaDoor.C08.pack_chain _ _ (by omega) (by omega) hw, Option.bind_some, h6]
  simp only
  rw [h3, wu32_id (x := (o.Words.length : Int)) (by omega) (by omega), wu32_id (x := (hd : Int)) (by omega) (by omega), wu32_id (x := (o.Syms.length : Int)) (by omega) (by omega), put_is (by simp) hw4, Option.bind_some, put_is (by omega) h4, Option.bind_some, if_pos (by rw [putS_length, putS_length]; simp; omega), parts_loop h (by rw [List.length_append, putS_length, putS_length]; simp; omega), Option.bind_some]
  simp only
  unfold rivetlaw10_FileParts.j2 rivetlaw10_FileParts.j3
  rw [if_pos rfl, if_pos rfl, if_pos rfl, h7, List.append_assoc]
  simp
end Go.Proofs.YtmfnololpfdfdaaDoor.T09
