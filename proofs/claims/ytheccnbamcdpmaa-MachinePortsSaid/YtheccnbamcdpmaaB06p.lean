/- The document's example; instructions that are made. No condition. -/
import Derived.Test.YtheccnbamcdpmaaB06q
namespace Go.Proofs.Ytheccnbamcdpmaa.A06
set_option linter.unusedVariables false
set_option linter.unusedSimpArgs false
open Go Go.RowKit Go.Proofs.Ytheccnbamcdpmaa.E Go.Proofs.Ytheccnbamcdpmaa.T06
abbrev exI : Sapi_Instr := ⟨2, 0, 1, 0, 0, 5, false⟩
theorem exI_may : MayP exI := by unfold MayP; simp
theorem exI_word : (wordN exI : Int) = 1090519045 := by
  have h := word2 1 0 0 0 5 false
  have h2 := (word_some exI_may.kind).1
  rw [h] at h2
  have := Option.some.inj h2
  rw [← this]
  rfl
theorem shown_is : rivetlaw06_shown = some true := by
  unfold rivetlaw06_shown
  rw [mnew_ok (by omega) (by omega) (by simp), Option.bind_some]
  show rivetlaw06_shown.j2 _ (0 != 0) = _
  unfold rivetlaw06_shown.j2
  rw [if_neg (by simp)]
  unfold rivetlaw06_shown.j3
  have hw : ∀ n ∈ [(1090519045 : Int)], W n := fun n hn => by rw [List.mem_singleton.1 hn]; exact ⟨by omega, by omega⟩
  rw [Option.bind_some, place_ok (by omega) (by simp) (by show (1 : Int) ≤ 4096; omega), Option.bind_some]
  have hok : OkMa ⟨some ⟨vcopy (Vector.replicate 4096 0) (0 : Int).toNat [1090519045], 1⟩, regs0, 0, 0, [], []⟩ ⟨vcopy (Vector.replicate 4096 0) (0 : Int).toNat [1090519045], 1⟩ :=
    ⟨rfl, vcopy_ok (mem0_ok (n := 1) (by omega) (by omega)) hw, ⟨fun j j0 j1 => by show W (vx 0 (Vector.replicate 16 0) j.toNat); rw [vx_get (by omega)]; simp; exact ⟨by omega, by omega⟩, ⟨by simp, by simp⟩⟩, ⟨by simp, by simp⟩, by simp, by simp, by simp⟩
  show (machine_Machine_Step ⟨some ⟨vcopy (Vector.replicate 4096 0) (0 : Int).toNat [1090519045], 1⟩, regs0, 0, 0, [], []⟩).bind _ = _
  rw [step_is hok (by simp), Option.bind_some]
  have hv : wordS ⟨vcopy (Vector.replicate 4096 0) (0 : Int).toNat [1090519045], 1⟩ 0 = (1090519045, 0) := by
    unfold wordS
    rw [if_pos (by decide), if_pos (by show (0 : Int) / 4 < 1; decide)]
    show (vx 0 (vcopy _ _ _) _, (0 : Int)) = _
    rw [vx_vcopy (by decide)]
    rfl
  have hdec : decS 1090519045 = (exI, true) := by rw [← exI_word]; exact dec_word exI_may
  have hs : stepS ⟨some ⟨vcopy (Vector.replicate 4096 0) (0 : Int).toNat [1090519045], 1⟩, regs0, 0, 0, [], []⟩ ⟨vcopy (Vector.replicate 4096 0) (0 : Int).toNat [1090519045], 1⟩ =
      ⟨some ⟨vcopy (Vector.replicate 4096 0) (0 : Int).toNat [1090519045], 1⟩, setA regs0 1 5, 4, 0, [], []⟩ := by
    unfold stepS
    rw [if_pos rfl]
    simp only [hv, hdec, if_pos]
    have hact : actS ⟨some ⟨vcopy (Vector.replicate 4096 0) (0 : Int).toNat [1090519045], 1⟩, regs0, 0, 0, [], []⟩ ⟨vcopy (Vector.replicate 4096 0) (0 : Int).toNat [1090519045], 1⟩ exI = (4, 0, ⟨some ⟨vcopy (Vector.replicate 4096 0) (0 : Int).toNat [1090519045], 1⟩, setA regs0 1 5, 0, 0, [], []⟩) := by
      unfold actS
      rw [if_neg (by decide), if_neg (by decide)]
      have hdo : doS regs0 exI = (setA regs0 1 5, 0) := by
        unfold doS
        rw [if_neg (by rintro (h | h); exact h exI_may; revert h; decide), if_neg (by decide), if_neg (by decide)]
        rfl
      rw [hdo]
      rfl
    rw [hact]
    rfl
  rw [hs]
  simp only [if_pos]
  have hr : vx 0 (setA regs0 1 5).R 1 = 5 := by show vx 0 (vset _ 1 5) 1 = 5; rw [vx_vset (by decide), if_pos rfl]
  simp only [machine_Machine_Regs, machine_Machine_PC, Option.bind_some]
  show (if vx 0 (setA regs0 1 5).R 1 = 5 then _ else _) = _
  rw [if_pos hr]
  rfl
end Go.Proofs.Ytheccnbamcdpmaa.A06
