/- The plain law of the statement LeAll. No condition. -/
import Derived.Test.YtckefpenekolhaaDoorL07f
import Derived.Test.YtckefpenekolhaaDoorT07zLeAll
namespace Go.Proofs.YtckefpenekolhaaDoor.T07
set_option linter.unusedVariables false
set_option linter.unusedSimpArgs false
open Go Go.RowKit Go.Proofs.YtckefpenekolhaaDoor.E Go.Proofs.YtckefpenekolhaaDoor.L07
theorem takeS_len (b : List Int) (n : Int) : (takeS b n).1.length ≤ b.length := by
  unfold takeS
  split
  · simp
  · rw [wds_length]; omega
theorem all_step {l1 : List Int} (hb : By l1) {i : Nat} (hi : i < 60) : rivetlaw07_LeAll.b10 l1 (i : Int) = some (.inl ((i + 1 : Nat) : Int)) := by
  have m1 : 0 ≤ mnn (l1.length : Int) 200 ∧ mnn (l1.length : Int) 200 ≤ (l1.length : Int) ∧ mnn (l1.length : Int) 200 ≤ 200 := by unfold mnn; split <;> omega
  have hm : (0 ≤ mnn (l1.length : Int) 200 ∧ mnn (l1.length : Int) 200 ≤ (l1.length : Int)) := ⟨m1.1, m1.2.1⟩
  have hb2 : By (l1.take (mnn (l1.length : Int) 200).toNat) := take_by hb _
  have hl2 : (l1.take (mnn (l1.length : Int) 200).toNat).length ≤ 1000000 := by rw [List.length_take]; omega
  unfold rivetlaw07_LeAll.b10
  rw [if_pos (by omega)]
  simp only [if_pos hm]
  generalize l1.take (mnn (l1.length : Int) 200).toNat = b at *
  have := takeS_len b (i : Int)
  rw [take_is hl2 hb2, Option.bind_some, reftake_is hl2 hb2, Option.bind_some]
  generalize takeS b (i : Int) = t at *
  obtain ⟨t1, t2⟩ := t
  simp only
  rw [same32 (by have : t1.length ≤ b.length := this; omega), Option.bind_some, if_pos (by simp)]
  unfold rivetlaw07_LeAll.j1 rivetlaw07_LeAll.j2
  rw [if_neg (by simp), w64s (by omega) (by omega)]
  rfl
theorem all_loop60 {l1 : List Int} (hb : By l1) : ∀ (m i : Nat), i + m = 60 → loopO (fun σ : Int => rivetlaw07_LeAll.b10 l1 σ) (i : Int) = some (.done ())
  | 0, i, h => loopO_done (by unfold rivetlaw07_LeAll.b10; rw [if_neg (by omega)])
  | m + 1, i, h => by
    rw [loopO_next (all_step hb (show i < 60 by omega))]
    exact all_loop60 hb m (i + 1) (by omega)
theorem Pure.LeAll (l0 : List Int) (l1 : List Int) (a2 : Int) : (∀ n ∈ l0, In .u32 n) → l0.length * 4 ≤ 140737488351232 → (∀ n ∈ l1, In .u8 n) → l1.length * 1 ≤ 140737488351232 → In .i64 a2 → rivetlaw07_LeAll l0 l1 a2 = some true := by
  intro h0 h1 h2 h3 h4
  have hw : Wd l0 := fun x hx => (h0 x hx).u32
  have hb : By l1 := fun x hx => (h2 x hx).u8
  have m0 : 0 ≤ mnn (l0.length : Int) 40 ∧ mnn (l0.length : Int) 40 ≤ (l0.length : Int) ∧ mnn (l0.length : Int) 40 ≤ 40 := by unfold mnn; split <;> omega
  have m1 : 0 ≤ mnn (l1.length : Int) 200 ∧ mnn (l1.length : Int) 200 ≤ (l1.length : Int) ∧ mnn (l1.length : Int) 200 ≤ 200 := by unfold mnn; split <;> omega
  have hm0 : (0 ≤ mnn (l0.length : Int) 40 ∧ mnn (l0.length : Int) 40 ≤ (l0.length : Int)) := ⟨m0.1, m0.2.1⟩
  have hm : (0 ≤ mnn (l1.length : Int) 200 ∧ mnn (l1.length : Int) 200 ≤ (l1.length : Int)) := ⟨m1.1, m1.2.1⟩
  have hb2 : By (l1.take (mnn (l1.length : Int) 200).toNat) := take_by hb _
  have hl2 : (l1.take (mnn (l1.length : Int) 200).toNat).length ≤ 1000000 := by rw [List.length_take]; omega
  have hw2 : Wd (l0.take (mnn (l0.length : Int) 40).toNat) := fun x hx => hw x (List.mem_of_mem_take hx)
  have hl0 : (l0.take (mnn (l0.length : Int) 40).toNat).length ≤ 1000000 := by rw [List.length_take]; omega
  unfold rivetlaw07_LeAll
  have e0 : ((0 : Nat) : Int) = 0 := rfl
  have := all_loop60 hb 60 0 (by omega)
  rw [e0] at this
  rw [shown_is, Option.bind_some, this, Option.bind_some]
  simp only
  unfold rivetlaw07_LeAll.j3
  simp only [if_pos hm, if_pos hm0]
  generalize l1.take (mnn (l1.length : Int) 200).toNat = b at *
  generalize l0.take (mnn (l0.length : Int) 40).toNat = l at *
  have := takeS_len b a2
  rw [take_is hl2 hb2, Option.bind_some, reftake_is hl2 hb2, Option.bind_some, put_is hl0 hw2, Option.bind_some, refput_is hl0 hw2, Option.bind_some]
  generalize takeS b a2 = t at *
  obtain ⟨t1, t2⟩ := t
  simp only
  rw [same32 (by have : t1.length ≤ b.length := this; omega), Option.bind_some]
  simp [rivetlaw07_LeAll.j4]
end Go.Proofs.YtckefpenekolhaaDoor.T07
