/- The plain law of the statement FileTaken. No condition. -/
import Derived.Test.YtmfnololpfdfdaaDoorF10f
import Derived.Test.YtmfnololpfdfdaaDoorT09zFileTaken
namespace Go.Proofs.YtmfnololpfdfdaaDoor.T09
set_option linter.unusedVariables false
set_option linter.unusedSimpArgs false
open Go Go.RowKit Go.Proofs.YtmfnololpfdfdaaDoor.E Go.Proofs.YtmfnololpfdfdaaDoor.L07 Go.Proofs.YtmfnololpfdfdaaDoor.O09 Go.Proofs.YtmfnololpfdfdaaDoor.F10
theorem Pure.FileTaken (l0 : List Int) : (∀ n ∈ l0, In .u8 n) → l0.length * 1 ≤ 140737488351232 → rivetlaw10_FileTaken l0 = some true := by
  intro h1 h2
  have hb : By (l0.take (mnn (l0.length : Int) 400).toNat) := fun x hx => (h1 x (List.mem_of_mem_take hx)).u8
  have hbl : (l0.take (mnn (l0.length : Int) 400).toNat).length ≤ 400 := by rw [take_min _ 400 (by omega), List.length_take]; omega
  unfold rivetlaw10_FileTaken
  rw [F10.shown_is, Option.bind_some, if_pos (mnn_ok _ _ (by omega) (by omega))]
  generalize l0.take (mnn (l0.length : Int) 400).toNat = b at *
  rw [take_isF hb (by omega), Option.bind_some]
  simp only
  by_cases hc : (takeF b).2 = 0
  · obtain ⟨q1, q2, q3⟩ := taken_put hb (o := (takeF b).1) (by rw [← hc])
    have l1 := q1.wl
    have l2 := q1.yl
    have l3 := ris_len q1.ris
    have hob : Ob (takeF b).1 := ⟨q2, by omega, by omega, by omega⟩
    rw [if_pos hc, put_isF hob, Option.bind_some]
    unfold putF
    rw [if_pos q1.may]
    simp only
    rw [if_pos trivial, if_pos trivial, q3, if_pos (by simp), obmay_is hob, Option.bind_some, q1.may]
    rfl
  · obtain ⟨q1, q2, q3⟩ := taken_err.resolve_left hc
    have hob : Ob nob := ⟨by intro x hx; simp [nob] at hx, by simp [nob], by simp [nob], by simp [nob]⟩
    obtain ⟨t, e1, e2⟩ := obsame_is (b := nob) hob
    rw [if_neg hc, if_pos trivial, q1]
    have e1 : object_Same nob ⟨[], [], []⟩ = some t := e1
    rw [e1, Option.bind_some, if_pos (e2.2 rfl), if_neg q2]
    unfold rivetlaw10_FileTaken.j1
    simp [q3]
end Go.Proofs.YtmfnololpfdfdaaDoor.T09
