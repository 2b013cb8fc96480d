/- The plain law of the statement ObjectAll. No condition. -/
import Derived.Test.YtmfnololpfdfdaaDoorO09e
import Derived.Test.YtmfnololpfdfdaaDoorT09zObjectAll
namespace Go.Proofs.YtmfnololpfdfdaaDoor.T09
set_option linter.unusedVariables false
set_option linter.unusedSimpArgs false
open Go Go.RowKit Go.Proofs.YtmfnololpfdfdaaDoor.E Go.Proofs.YtmfnololpfdfdaaDoor.L07 Go.Proofs.YtmfnololpfdfdaaDoor.O09
theorem few_a {o : Sapi_Obj} (h : okSapi_Obj o) : ∃ l, loopO (fun σ : List Sapi_Sym × Int => rivetlaw09_ObjectAll.b55 o σ.1 σ.2) (([] : List Sapi_Sym), 0) = some l ∧ l.length ≤ 12 := by
  have hy := h.2.2.2.2.2
  have hn := h.2.2.2.2.1
  have key : ∀ (m i : Nat) (l : List Sapi_Sym), i + m = 12 → l.length = i → ∃ l', loopO (fun σ : List Sapi_Sym × Int => rivetlaw09_ObjectAll.b55 o σ.1 σ.2) (l, (i : Int)) = some l' ∧ l'.length ≤ 12 := by
    intro m
    induction m with
    | zero =>
      intro i l h hl
      refine ⟨l, loopO_done ?_, by omega⟩
      unfold rivetlaw09_ObjectAll.b55 rivetlaw09_ObjectAll.j1
      rw [decide_eq_false (by omega)]
      split <;> rfl
    | succ m ih =>
      intro i l h hl
      by_cases hi : i < o.Syms.length
      · have e : ix eSapi_Sym.d o.Syms (i : Int) = sy o.Syms i := rfl
        have hs := (hn _ (sy_mem hi)).1
        have hm := mnn_ok ((sy o.Syms i).Name.size : Int) 20 (by omega) (by omega)
        rw [loopO_next (s' := _)]
        rotate_left
        · show rivetlaw09_ObjectAll.b55 o l (i : Int) = _
          unfold rivetlaw09_ObjectAll.b55 rivetlaw09_ObjectAll.j1 rivetlaw09_ObjectAll.j2
          rw [if_pos (by omega), decide_eq_true (by omega), if_pos rfl, if_pos (by omega), e, if_pos ⟨by omega, hm.1, hm.2⟩, if_pos (by simp; omega), w64s (by omega) (by omega)]
        · exact ih (i + 1) _ (by omega) (by simp [hl])
      · refine ⟨l, loopO_done ?_, by omega⟩
        unfold rivetlaw09_ObjectAll.b55 rivetlaw09_ObjectAll.j1
        rw [if_neg (by omega)]
        rfl
  exact key 12 0 [] (by omega) rfl
theorem few_b {o : Sapi_Obj} (h : okSapi_Obj o) : ∃ l, loopO (fun σ : List Sapi_Sym × Int => rivetlaw09_ObjectAll.b147 o σ.1 σ.2) (([] : List Sapi_Sym), 0) = some l ∧ l.length ≤ 12 := few_a h
theorem Pure.ObjectAll (a0 : Sapi_Obj) (a1 : Sapi_Obj) : okSapi_Obj a0 → okSapi_Obj a1 → rivetlaw09_ObjectAll a0 a1 = some true := by
  intro h0 h1
  have obf : ∀ {o : Sapi_Obj} {l : List Sapi_Sym}, okSapi_Obj o → l.length ≤ 12 → Ob ⟨o.Words.take (mnn (o.Words.length : Int) 30).toNat, o.Sites.take (mnn (o.Sites.length : Int) 30).toNat, l⟩ := fun {o l} h hl => by
    have a := h.2.1
    have b := h.2.2.2.1
    refine ⟨fun x hx => (h.1 x (List.mem_of_mem_take hx)).u32, ?_, ?_, by simp only; omega⟩
    · simp only; rw [take_min _ 30 (by omega), List.length_take]; omega
    · simp only; rw [take_min _ 30 (by omega), List.length_take]; omega
  obtain ⟨l, hl, hl2⟩ := few_a h0
  obtain ⟨m, hm, hm2⟩ := few_b h1
  unfold rivetlaw09_ObjectAll rivetlaw09_ObjectAll.j3
  rw [shown_is, Option.bind_some, if_pos (mnn_ok _ _ (by omega) (by omega)), if_pos (mnn_ok _ _ (by omega) (by omega)), hl, Option.bind_some, if_pos (mnn_ok _ _ (by omega) (by omega)), if_pos (mnn_ok _ _ (by omega) (by omega)), hm, Option.bind_some]
  have hx := obf h0 hl2
  have hy := obf h1 hm2
  have hx1 : (a0.Words.take (mnn (a0.Words.length : Int) 30).toNat).length ≤ 1000000 := by rw [take_min _ 30 (by omega), List.length_take]; omega
  unfold rivetlaw09_ObjectAll.j6
  generalize a0.Words.take (mnn (a0.Words.length : Int) 30).toNat = w0 at *
  generalize a0.Sites.take (mnn (a0.Sites.length : Int) 30).toNat = s0 at *
  generalize a1.Words.take (mnn (a1.Words.length : Int) 30).toNat = w1 at *
  generalize a1.Sites.take (mnn (a1.Sites.length : Int) 30).toNat = s1 at *
  obtain ⟨t1, q1, r1⟩ := obsame_is (b := (⟨w1, s1, m⟩ : Sapi_Obj)) hx
  obtain ⟨t2, q2, r2⟩ := refsame_is (b := (⟨w1, s1, m⟩ : Sapi_Obj)) hx hx1
  obtain ⟨t3, q3, r3⟩ := obsame_is (b := (⟨w0, s0, l⟩ : Sapi_Obj)) hx
  obtain ⟨t4, q4, r4⟩ := obsame_is (b := (⟨w0, s0, l⟩ : Sapi_Obj)) hy
  have e12 : t1 = t2 := Bool.eq_iff_iff.2 (r1.trans r2.symm)
  have e14 : t4 = t1 := Bool.eq_iff_iff.2 (r4.trans ⟨fun h => r1.2 h.symm, fun h => (r1.1 h).symm⟩)
  have e3 : t3 = true := r3.2 rfl
  rw [if_pos rfl, obmay_is hx, Option.bind_some, refmay_is hx, Option.bind_some, if_pos rfl, obmay_is hy, Option.bind_some, refmay_is hy, Option.bind_some, if_pos rfl, q1, Option.bind_some, q2, Option.bind_some, e12, if_pos (by simp), q3, Option.bind_some, if_pos e3, q4, Option.bind_some, Option.bind_some, e14, e12]
  simp [rivetlaw09_ObjectAll.j7]
end Go.Proofs.YtmfnololpfdfdaaDoor.T09
