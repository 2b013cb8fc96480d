/- The plain law of the statement FileAll. No condition. -/
import Derived.Test.YtmfnololpfdfdaaDoorF10f
import Derived.Test.YtmfnololpfdfdaaDoorT09zFileAll
namespace Go.Proofs.YtmfnololpfdfdaaDoor.T09
set_option linter.unusedVariables false
set_option linter.unusedSimpArgs false
open Go Go.RowKit Go.Proofs.YtmfnololpfdfdaaDoor.E Go.Proofs.YtmfnololpfdfdaaDoor.L07 Go.Proofs.YtmfnololpfdfdaaDoor.O09 Go.Proofs.YtmfnololpfdfdaaDoor.F10
theorem few_f {o : Sapi_Obj} (h : okSapi_Obj o) : ∃ l, loopO (fun σ : List Sapi_Sym × Int => rivetlaw10_FileAll.b51 o σ.1 σ.2) (([] : List Sapi_Sym), 0) = some l ∧ l.length ≤ 12 := by
  have hy := h.2.2.2.2.2
  have hn := h.2.2.2.2.1
  have key : ∀ (m i : Nat) (l : List Sapi_Sym), i + m = 12 → l.length = i → ∃ l', loopO (fun σ : List Sapi_Sym × Int => rivetlaw10_FileAll.b51 o σ.1 σ.2) (l, (i : Int)) = some l' ∧ l'.length ≤ 12 := by
    intro m
    induction m with
    | zero =>
      intro i l h hl
      refine ⟨l, loopO_done ?_, by omega⟩
      unfold rivetlaw10_FileAll.b51 rivetlaw10_FileAll.j1
      rw [decide_eq_false (by omega)]
      split <;> rfl
    | succ m ih =>
      intro i l h hl
      by_cases hi : i < o.Syms.length
      · have e : ix eSapi_Sym.d o.Syms (i : Int) = sy o.Syms i := rfl
        have hs := (hn _ (sy_mem hi)).1
        have hm := mnn_ok ((sy o.Syms i).Name.size : Int) 20 (by omega) (by omega)
        rw [loopO_next (s' := _)]
        rotate_left
        · show rivetlaw10_FileAll.b51 o l (i : Int) = _
          unfold rivetlaw10_FileAll.b51 rivetlaw10_FileAll.j1 rivetlaw10_FileAll.j2
          rw [if_pos (by omega), decide_eq_true (by omega), if_pos rfl, if_pos (by omega), e, if_pos ⟨by omega, hm.1, hm.2⟩, if_pos (by simp; omega), w64s (by omega) (by omega)]
        · exact ih (i + 1) _ (by omega) (by simp [hl])
      · refine ⟨l, loopO_done ?_, by omega⟩
        unfold rivetlaw10_FileAll.b51 rivetlaw10_FileAll.j1
        rw [if_neg (by omega)]
        rfl
  exact key 12 0 [] (by omega) rfl
theorem Pure.FileAll (a0 : Sapi_Obj) (l1 : List Int) : okSapi_Obj a0 → (∀ n ∈ l1, In .u8 n) → l1.length * 1 ≤ 140737488351232 → rivetlaw10_FileAll a0 l1 = some true := by
  intro h0 h1 h2
  have hob : ∀ {l : List Sapi_Sym}, l.length ≤ 12 → Ob ⟨a0.Words.take (mnn (a0.Words.length : Int) 30).toNat, a0.Sites.take (mnn (a0.Sites.length : Int) 30).toNat, l⟩ := fun {l} hl =>
    ⟨fun x hx => (h0.1 x (List.mem_of_mem_take hx)).u32, by simp only; rw [take_min _ 30 (by omega), List.length_take]; omega, by simp only; rw [take_min _ 30 (by omega), List.length_take]; omega, by simp only; omega⟩
  obtain ⟨l, hl, hl2⟩ := few_f h0
  have hl' : loopO (fun σ : List Sapi_Sym × Int => rivetlaw10_FileAll.b143 a0 σ.1 σ.2) (([] : List Sapi_Sym), 0) = some l := hl
  have hb : By (l1.take (mnn (l1.length : Int) 400).toNat) := fun x hx => (h1 x (List.mem_of_mem_take hx)).u8
  have hbl : (l1.take (mnn (l1.length : Int) 400).toNat).length ≤ 400 := by rw [take_min _ 400 (by omega), List.length_take]; omega
  unfold rivetlaw10_FileAll rivetlaw10_FileAll.j3 rivetlaw10_FileAll.j6
  rw [F10.shown_is, Option.bind_some, if_pos (mnn_ok _ _ (by omega) (by omega)), if_pos (mnn_ok _ _ (by omega) (by omega)), hl, Option.bind_some, put_isF (hob hl2), Option.bind_some]
  have hr := refput_isF (hob hl2)
  generalize putF (⟨a0.Words.take (mnn (a0.Words.length : Int) 30).toNat, a0.Sites.take (mnn (a0.Sites.length : Int) 30).toNat, l⟩ : Sapi_Obj) = q at hr ⊢
  obtain ⟨q1, q2⟩ := q
  simp only
  rw [if_pos (mnn_ok _ _ (by omega) (by omega)), if_pos (mnn_ok _ _ (by omega) (by omega)), hl', Option.bind_some, hr, Option.bind_some]
  simp only
  rw [if_pos (mnn_ok _ _ (by omega) (by omega)), take_isF hb (by omega), Option.bind_some]
  rw [if_pos (mnn_ok _ _ (by omega) (by omega)), reftake_isF hb (by omega), Option.bind_some]
  generalize l1.take (mnn (l1.length : Int) 400).toNat = b at *
  have hx : Ob (takeF b).1 ∧ (takeF b).1.Words.length ≤ 1000000 := by
    by_cases hc : (takeF b).2 = 0
    · obtain ⟨q1, q2, q3⟩ := taken_put hb (o := (takeF b).1) (by rw [← hc])
      have := q1.wl
      have := q1.yl
      have := ris_len q1.ris
      exact ⟨⟨q2, by omega, by omega, by omega⟩, by omega⟩
    · rw [(taken_err.resolve_left hc).1]
      exact ⟨⟨by intro x hx; simp [nob] at hx, by simp [nob], by simp [nob], by simp [nob]⟩, by simp [nob]⟩
  obtain ⟨t, e1, e2⟩ := refsame_is (b := (takeF b).1) hx.1 hx.2
  rw [if_pos trivial, if_pos (by simp), if_pos trivial, e1, Option.bind_some, if_pos (e2.2 rfl)]
  simp [rivetlaw10_FileAll.j7]
end Go.Proofs.YtmfnololpfdfdaaDoor.T09
