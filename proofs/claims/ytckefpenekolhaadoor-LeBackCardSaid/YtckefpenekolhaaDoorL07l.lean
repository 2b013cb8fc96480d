/- The plain law of the statement LeBack. No condition. -/
import Derived.Test.YtckefpenekolhaaDoorL07k
import Derived.Test.YtckefpenekolhaaDoorT07zLeBack
namespace Go.Proofs.YtckefpenekolhaaDoor.T07
set_option linter.unusedVariables false
set_option linter.unusedSimpArgs false
open Go Go.RowKit Go.Proofs.YtckefpenekolhaaDoor.E Go.Proofs.YtckefpenekolhaaDoor.L07
theorem takeS_put {l r : List Int} (hw : Wd l) : takeS (putS l ++ r) (l.length : Int) = (l, 0) := by
  unfold takeS
  have := putS_length l
  rw [if_neg (by rw [List.length_append]; omega), Int.toNat_natCast, wds_put l r hw]
theorem takeS_less {l : List Int} (h : 0 < l.length) : takeS ((putS l).take ((putS l).length - 1)) (l.length : Int) = ([], 3) := by
  unfold takeS
  have := putS_length l
  rw [if_pos (.inr (by rw [List.length_take]; omega))]
theorem by_append {a b : List Int} (ha : By a) (hb : By b) : By (a ++ b) := fun x hx => (List.mem_append.1 hx).elim (ha x) (hb x)
theorem back_loop {l : List Int} (hb : By (padS l)) (hl : (padS l).length ≤ 1000) : ∀ (m i : Nat), i + m = (padS l).length → loopO (fun σ : Int => rivetlaw07_LeBack.b115 (padS l) σ) (i : Int) = some (.done ())
  | 0, i, h => loopO_done (by unfold rivetlaw07_LeBack.b115; rw [if_neg (by omega)])
  | m + 1, i, h => by
    rw [loopO_next (s' := ((i + 1 : Nat) : Int))]
    · exact back_loop hb hl m (i + 1) (by omega)
    · unfold rivetlaw07_LeBack.b115
      rw [if_pos (by omega), if_pos (by omega), Int.toNat_natCast, takename_is (take_by hb i) (by rw [List.length_take]; omega), Option.bind_some]
      have := takeN_short (l := l) (i := i) (by omega)
      generalize takeN ((padS l).take i) = t at *
      obtain ⟨t1, t2, t3⟩ := t
      simp only at this ⊢
      subst this
      rw [if_pos rfl, w64s (by omega) (by omega)]
      rfl
theorem back_end {l0 : List Int} {v : ByteArray} {w : List Int} {e : Int} (hw : w = l0.take (mnn (l0.length : Int) 40).toNat) (hl : w.length ≤ 40) (hn : nameS (bytesL v) = true) (he : e = 3 ∨ w.length = 0) :
    rivetlaw07_LeBack.j3 true (putS w) l0 0 w v 0 0 v ((padS (bytesL v)).length : Int) (padS (bytesL v)) e = some true := by
  have hp := putS_length w
  have hq := padS_length (bytesL v)
  unfold rivetlaw07_LeBack.j3
  rw [← hw, if_pos rfl, w64s (by omega) (by omega), if_pos (by omega), if_pos rfl, same32 (by omega), Option.bind_some, if_pos (by simp), name_is, Option.bind_some, hn, if_pos rfl, if_pos rfl, if_pos rfl, if_pos (by simp), if_pos rfl, Int.tmod_eq_emod_of_nonneg (by omega), if_pos (by omega)]
  unfold rivetlaw07_LeBack.j4
  rcases he with rfl | he
  · rfl
  · rw [he]
    split <;> rfl
theorem Pure.LeBack (l0 : List Int) (a1 : ByteArray) (l2 : List Int) : (∀ n ∈ l0, In .u32 n) → l0.length * 4 ≤ 140737488351232 → a1.size ≤ 140737488351232 → (∀ n ∈ l2, In .u8 n) → l2.length * 1 ≤ 140737488351232 → rivetlaw07_LeBack l0 a1 l2 = some true := by
  intro h0 h1 h2 h3 h4
  have hw0 : Wd l0 := fun x hx => (h0 x hx).u32
  have hb0 : By l2 := fun x hx => (h3 x hx).u8
  have m0 : 0 ≤ mnn (l0.length : Int) 40 ∧ mnn (l0.length : Int) 40 ≤ (l0.length : Int) ∧ mnn (l0.length : Int) 40 ≤ 40 := by unfold mnn; split <;> omega
  have m2 : 0 ≤ mnn (l2.length : Int) 200 ∧ mnn (l2.length : Int) 200 ≤ (l2.length : Int) ∧ mnn (l2.length : Int) 200 ≤ 200 := by unfold mnn; split <;> omega
  have hm0 : (0 ≤ mnn (l0.length : Int) 40 ∧ mnn (l0.length : Int) 40 ≤ (l0.length : Int)) := ⟨m0.1, m0.2.1⟩
  have hm2 : (0 ≤ mnn (l2.length : Int) 200 ∧ mnn (l2.length : Int) 200 ≤ (l2.length : Int)) := ⟨m2.1, m2.2.1⟩
  have hw : Wd (l0.take (mnn (l0.length : Int) 40).toNat) := fun x hx => hw0 x (List.mem_of_mem_take hx)
  have hl : (l0.take (mnn (l0.length : Int) 40).toNat).length ≤ 40 := by rw [List.length_take]; omega
  have hb : By (l2.take (mnn (l2.length : Int) 200).toNat) := take_by hb0 _
  have hr : (l2.take (mnn (l2.length : Int) 200).toNat).length ≤ 200 := by rw [List.length_take]; omega
  have hend := fun (v : ByteArray) (e : Int) => @back_end l0 v _ e rfl hl
  unfold rivetlaw07_LeBack
  rw [shown_is, Option.bind_some, if_pos hm0]
  unfold rivetlaw07_LeBack.j1 rivetlaw07_LeBack.j2
  simp only [if_pos hm2, List.nil_append]
  generalize l0.take (mnn (l0.length : Int) 40).toNat = w at *
  generalize l2.take (mnn (l2.length : Int) 200).toNat = r at *
  have hp := putS_length w
  rw [put_is (by omega) hw, Option.bind_some, if_pos (by rw [List.length_nil]; omega), if_pos (by omega), take_is (by rw [List.length_append]; omega) (by_append (putS_by w) hb), Option.bind_some, takeS_put hw]
  obtain ⟨v, f1, f2⟩ := fit_is h2
  have hnl := nameS_len f2
  have hq := padS_length (bytesL v)
  have hpb : By (padS (bytesL v)) := padS_by (bytesL_by v) (by omega)
  simp only
  rw [f1, Option.bind_some, putname_is, Option.bind_some]
  unfold putN
  rw [if_pos f2]
  simp only
  rw [if_pos (by rw [List.length_nil]; omega), if_pos (by omega), takename_is (by_append hpb hb) (by rw [List.length_append]; omega), Option.bind_some, takeN_put f2]
  simp only
  have e0 : ((0 : Nat) : Int) = 0 := rfl
  have hloop := back_loop (l := bytesL v) hpb (by omega) (padS (bytesL v)).length 0 (Nat.zero_add _)
  rw [e0] at hloop
  rw [hloop, Option.bind_some, nums_bytesL]
  simp only
  by_cases hz : w.length = 0
  · rw [if_neg (by omega), if_neg (by decide)]
    exact hend v 0 f2 (.inr hz)
  · have e1 : (w64 (((putS w).length : Int) - 1)).toNat = (putS w).length - 1 := by rw [w64s (by omega) (by omega)]; omega
    have e2 : 0 ≤ w64 (((putS w).length : Int) - 1) ∧ w64 (((putS w).length : Int) - 1) ≤ ((putS w).length : Int) := by rw [w64s (by omega) (by omega)]; omega
    rw [if_pos (by omega), if_pos (by rw [decide_eq_true_eq]; omega), if_pos e2, e1, take_is (by rw [List.length_take]; omega) (take_by (putS_by w) _), Option.bind_some, takeS_less (by omega)]
    exact hend v 3 f2 (.inl rfl)
end Go.Proofs.YtckefpenekolhaaDoor.T07
