/- The plain law of the statement LeNames. No condition. -/
import Derived.Test.YtckefpenekolhaaDoorL07f
import Derived.Test.YtckefpenekolhaaDoorT07zLeNames
namespace Go.Proofs.YtckefpenekolhaaDoor.T07
set_option linter.unusedVariables false
set_option linter.unusedSimpArgs false
open Go Go.RowKit Go.Proofs.YtckefpenekolhaaDoor.E Go.Proofs.YtckefpenekolhaaDoor.L07
theorem Pure.LeNames (a0 : ByteArray) (l1 : List Int) : a0.size ≤ 140737488351232 → (∀ n ∈ l1, In .u8 n) → l1.length * 1 ≤ 140737488351232 → rivetlaw07_LeNames a0 l1 = some true := by
  intro h0 h1 h2
  have hb : By l1 := fun x hx => (h1 x hx).u8
  have m0 : 0 ≤ mnn (a0.size : Int) 30 ∧ mnn (a0.size : Int) 30 ≤ (a0.size : Int) := by unfold mnn; split <;> omega
  have m1 : 0 ≤ mnn (l1.length : Int) 200 ∧ mnn (l1.length : Int) 200 ≤ (l1.length : Int) ∧ mnn (l1.length : Int) 200 ≤ 200 := by unfold mnn; split <;> omega
  unfold rivetlaw07_LeNames
  rw [shown_is, Option.bind_some, if_pos ⟨by omega, m0.1, m0.2⟩]
  simp only [nm]
  generalize a0.extract (0 : Int).toNat (mnn (a0.size : Int) 30).toNat = y
  have hm : (0 ≤ mnn (l1.length : Int) 200 ∧ mnn (l1.length : Int) 200 ≤ (l1.length : Int)) := ⟨m1.1, m1.2.1⟩
  have hb2 : By (l1.take (mnn (l1.length : Int) 200).toNat) := take_by hb _
  have hl2 : (l1.take (mnn (l1.length : Int) 200).toNat).length ≤ 1000000 := by rw [List.length_take]; omega
  rw [putname_is, Option.bind_some, refputname_is, Option.bind_some]
  generalize putN (bytesL y) = pe
  obtain ⟨p, e⟩ := pe
  simp only [if_pos hm]
  generalize l1.take (mnn (l1.length : Int) 200).toNat = b at *
  rw [takename_is hb2 hl2, Option.bind_some, reftakename_is hb2 hl2, Option.bind_some, name_is, Option.bind_some, refname_is, Option.bind_some]
  generalize takeN b = t
  obtain ⟨t1, t2, t3⟩ := t
  simp [rivetlaw07_LeNames.j1]
end Go.Proofs.YtckefpenekolhaaDoor.T07
