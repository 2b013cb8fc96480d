/- The plain law of the statement LeTaken. No condition. -/
import Derived.Test.YtckefpenekolhaaDoorL07i
import Derived.Test.YtckefpenekolhaaDoorT07zLeTaken
namespace Go.Proofs.YtckefpenekolhaaDoor.T07
set_option linter.unusedVariables false
set_option linter.unusedSimpArgs false
open Go Go.RowKit Go.Proofs.YtckefpenekolhaaDoor.E Go.Proofs.YtckefpenekolhaaDoor.L07
theorem taken_end {l0 : List Int} (hb : By (l0.take (mnn (l0.length : Int) 200).toNat)) (hl : (l0.take (mnn (l0.length : Int) 200).toNat).length ≤ 1000000) : rivetlaw07_LeTaken.j1 l0 true false = some true := by
  unfold rivetlaw07_LeTaken.j1 rivetlaw07_LeTaken.j2
  rw [if_neg (by decide)]
  generalize l0.take (mnn (l0.length : Int) 200).toNat = b at *
  rw [takename_is hb hl, Option.bind_some]
  by_cases h : (takeN b).2.2 = 0
  · obtain ⟨h1, h2, k, h3, h4, h5, h6⟩ := taken_ok hb h
    generalize takeN b = t at *
    obtain ⟨t1, t2, t3⟩ := t
    simp only at h h1 h2 h3 h6 ⊢
    subst h h3
    rw [if_pos rfl, putname_is, Option.bind_some, bytesL_nums h2]
    unfold putN
    rw [if_pos h1]
    simp only
    rw [if_pos trivial, if_pos trivial, name_is, Option.bind_some, bytesL_nums h2, h1, if_pos rfl, if_pos (by omega), if_pos (by omega), if_pos (by omega), Int.toNat_natCast, h6]
    simp [rivetlaw07_LeTaken.j4]
  · obtain ⟨h1, h2, h3⟩ := taken_no h
    generalize takeN b = t at *
    obtain ⟨t1, t2, t3⟩ := t
    simp only at h h1 h2 h3 ⊢
    subst h1 h2
    rw [if_neg h, if_pos trivial, toL_eq, if_pos (by rw [decide_eq_true_eq]; rfl), if_pos rfl]
    rcases h3 with rfl | rfl | rfl <;> simp [rivetlaw07_LeTaken.j3]
theorem Pure.LeTaken (l0 : List Int) (a1 : Int) : (∀ n ∈ l0, In .u8 n) → l0.length * 1 ≤ 140737488351232 → In .u8 a1 → rivetlaw07_LeTaken l0 a1 = some true := by
  intro h0 h1 h2
  have hb0 : By l0 := fun x hx => (h0 x hx).u8
  have ha := h2.u8
  have m1 : 0 ≤ mnn (l0.length : Int) 200 ∧ mnn (l0.length : Int) 200 ≤ (l0.length : Int) ∧ mnn (l0.length : Int) 200 ≤ 200 := by unfold mnn; split <;> omega
  have hm : (0 ≤ mnn (l0.length : Int) 200 ∧ mnn (l0.length : Int) 200 ≤ (l0.length : Int)) := ⟨m1.1, m1.2.1⟩
  have hb : By (l0.take (mnn (l0.length : Int) 200).toNat) := take_by hb0 _
  have hl : (l0.take (mnn (l0.length : Int) 200).toNat).length ≤ 1000000 := by rw [List.length_take]; omega
  have hend := taken_end hb hl
  have e : w64 (a1.tmod 64) = a1 % 64 := by rw [Int.tmod_eq_emod_of_nonneg ha.1, w64s (by omega) (by omega)]
  unfold rivetlaw07_LeTaken
  rw [shown_is, Option.bind_some, if_pos hm, e, take_is hl hb, Option.bind_some]
  obtain ⟨n, hn⟩ := Int.eq_ofNat_of_zero_le (show 0 ≤ a1 % 64 by omega)
  rw [hn]
  unfold takeS
  by_cases hs : (n : Int) < 0 ∨ ((l0.take (mnn (l0.length : Int) 200).toNat).length : Int) / 4 < (n : Int)
  · rw [if_pos hs]
    simp only
    rw [if_neg (by decide)]
    exact hend
  · rw [if_neg hs]
    simp only
    generalize hbb : l0.take (mnn (l0.length : Int) 200).toNat = b at *
    have h4 : 4 * n ≤ b.length := by omega
    rw [Int.toNat_natCast, wds_length, if_pos trivial, if_pos rfl, w64s (by omega) (by omega), if_neg (by omega), if_pos (by omega), put_is (by rw [wds_length]; omega) (wds_wd hb h4), Option.bind_some, put_wds hb n h4, show (4 * (n : Int)).toNat = 4 * n by omega]
    simp only [beq_self_eq_true, Bool.not_true]
    exact hend
end Go.Proofs.YtckefpenekolhaaDoor.T07
