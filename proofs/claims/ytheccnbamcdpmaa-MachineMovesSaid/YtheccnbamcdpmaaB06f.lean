/- The document's example; instructions that are made. No condition. -/
import Derived.Test.YtheccnbamcdpmaaB06e
namespace Go.Proofs.Ytheccnbamcdpmaa.A06
set_option linter.unusedVariables false
set_option linter.unusedSimpArgs false
open Go Go.RowKit Go.Proofs.Ytheccnbamcdpmaa.E Go.Proofs.Ytheccnbamcdpmaa.T06
theorem fit_some {l : List Int} (hl : ∀ n ∈ l, W n) : ∃ r, rivetlaw06_fit l = some r ∧ r.length ≤ 20 ∧ ∀ n ∈ r, W n := by
  have key : ∀ (m i : Nat) (r : List Int), i + m = 20 → r.length = i → (∀ n ∈ r, W n) → ∃ r', loopO (fun (σ : (List Int) × Int) => rivetlaw06_fit.b10 l σ.1 σ.2) (r, (i : Int)) = some r' ∧ r'.length ≤ 20 ∧ ∀ n ∈ r', W n := by
    intro m
    induction m with
    | zero =>
      intro i r hi hr hw
      refine ⟨r, loopO_done ?_, by omega, hw⟩
      show rivetlaw06_fit.b10 l r (i : Int) = _
      unfold rivetlaw06_fit.b10 rivetlaw06_fit.j1
      rw [decide_eq_false (by omega)]
      split <;> rfl
    | succ m ih =>
      intro i r hi hr hw
      by_cases hil : i < l.length
      · have hx : W (ix (eI .u32).d l (i : Int)) := hl _ (by rw [ixu]; exact getD_mem (by omega))
        obtain ⟨x, hW, hx2⟩ : ∃ x, W x ∧ rivetlaw06_fit.b10 l r (i : Int) = some (.inl (r ++ [x], ((i + 1 : Nat) : Int))) := by
          unfold rivetlaw06_fit.b10 rivetlaw06_fit.j1 rivetlaw06_fit.j2
          rw [if_pos (by omega), decide_eq_true (by omega), if_pos rfl, if_pos (by omega)]
          obtain ⟨f, hf, _⟩ := fit_may ⟨w64 (band .u32 (ix (eI .u32).d l (i : Int)) 7), w64 (band .u32 ((ix (eI .u32).d l (i : Int)).fdiv (2 ^ 3)) 15), w64 (band .u32 ((ix (eI .u32).d l (i : Int)).fdiv (2 ^ 7)) 15), w64 (band .u32 ((ix (eI .u32).d l (i : Int)).fdiv (2 ^ 11)) 15), w64 (band .u32 ((ix (eI .u32).d l (i : Int)).fdiv (2 ^ 15)) 15), w64 (band .u32 ((ix (eI .u32).d l (i : Int)).fdiv (2 ^ 19)) 63), (band .u32 ((ix (eI .u32).d l (i : Int)).fdiv (2 ^ 25)) 1) == 1⟩
          rw [hf, Option.bind_some]
          have j5 : ∀ v, rivetlaw06_fit.j5 r (i : Int) v = some (.inl (r ++ [v], ((i + 1 : Nat) : Int))) := fun v => by
            unfold rivetlaw06_fit.j5 rivetlaw06_fit.j6
            rw [if_pos (by simp only [List.length_singleton]; omega), w64s (by omega) (by omega)]
            rfl
          have j4 : ∀ j, ∃ x, W x ∧ rivetlaw06_fit.j4 l (i : Int) r j = some (.inl (r ++ [x], ((i + 1 : Nat) : Int))) := fun j => by
            obtain ⟨x, e, h1, h2⟩ := refenc_some j
            unfold rivetlaw06_fit.j4
            rw [h1, Option.bind_some]
            simp only [j5]
            split
            · exact ⟨_, hx, rfl⟩
            · exact ⟨_, h2, rfl⟩
          unfold rivetlaw06_fit.j3
          (repeat' split) <;> exact j4 _
        rw [loopO_next (b := fun (σ : (List Int) × Int) => rivetlaw06_fit.b10 l σ.1 σ.2) (s := (r, (i : Int))) hx2]
        exact ih (i + 1) _ (by omega) (by simp [hr]) (fun n hn => by
          rcases List.mem_append.1 hn with h | h
          · exact hw n h
          · rw [List.mem_singleton.1 h]; exact hW)
      · refine ⟨r, loopO_done ?_, by omega, hw⟩
        show rivetlaw06_fit.b10 l r (i : Int) = _
        unfold rivetlaw06_fit.b10 rivetlaw06_fit.j1
        rw [if_neg (by omega)]
        rfl
  obtain ⟨r, h1, h2, h3⟩ := key 20 0 [] (by omega) rfl (by simp)
  refine ⟨r, ?_, h2, h3⟩
  unfold rivetlaw06_fit
  rw [show ((0 : Nat) : Int) = 0 from rfl] at h1
  rw [h1]
  rfl
abbrev exI : Sapi_Instr := ⟨2, 0, 1, 0, 0, 5, false⟩
theorem exI_may : MayP exI := by unfold MayP; simp
theorem exI_word : (wordN exI : Int) = 1090519045 := by
  have h := word2 1 0 0 0 5 false
  have h2 := (word_some exI_may.kind).1
  rw [h] at h2
  have := Option.some.inj h2
  rw [← this]
  rfl
theorem shown_is : rivetlaw06_shown = some true := by
  unfold rivetlaw06_shown
  rw [mnew_ok (by omega) (by omega) (by simp), Option.bind_some]
  show rivetlaw06_shown.j2 _ (0 != 0) = _
  unfold rivetlaw06_shown.j2
  rw [if_neg (by simp)]
  unfold rivetlaw06_shown.j3
  have hw : ∀ n ∈ [(1090519045 : Int)], W n := fun n hn => by rw [List.mem_singleton.1 hn]; exact ⟨by omega, by omega⟩
  rw [Option.bind_some, place_ok (by omega) (by simp) (by show (1 : Int) ≤ 4096; omega), Option.bind_some]
  have hok : OkMa ⟨some ⟨vcopy (Vector.replicate 4096 0) (0 : Int).toNat [1090519045], 1⟩, regs0, 0, 0, [], []⟩ ⟨vcopy (Vector.replicate 4096 0) (0 : Int).toNat [1090519045], 1⟩ :=
    ⟨rfl, vcopy_ok (mem0_ok (n := 1) (by omega) (by omega)) hw, ⟨fun j j0 j1 => by show W (vx 0 (Vector.replicate 16 0) j.toNat); rw [vx_get (by omega)]; simp; exact ⟨by omega, by omega⟩, ⟨by simp, by simp⟩⟩, ⟨by simp, by simp⟩, by simp, by simp, by simp⟩
  show (machine_Machine_Step ⟨some ⟨vcopy (Vector.replicate 4096 0) (0 : Int).toNat [1090519045], 1⟩, regs0, 0, 0, [], []⟩).bind _ = _
  rw [step_is hok (by simp), Option.bind_some]
  have hv : wordS ⟨vcopy (Vector.replicate 4096 0) (0 : Int).toNat [1090519045], 1⟩ 0 = (1090519045, 0) := by
    unfold wordS
    rw [if_pos (by decide), if_pos (by show (0 : Int) / 4 < 1; decide)]
    show (vx 0 (vcopy _ _ _) _, (0 : Int)) = _
    rw [vx_vcopy (by decide)]
    rfl
  have hdec : decS 1090519045 = (exI, true) := by rw [← exI_word]; exact dec_word exI_may
  have hs : stepS ⟨some ⟨vcopy (Vector.replicate 4096 0) (0 : Int).toNat [1090519045], 1⟩, regs0, 0, 0, [], []⟩ ⟨vcopy (Vector.replicate 4096 0) (0 : Int).toNat [1090519045], 1⟩ =
      ⟨some ⟨vcopy (Vector.replicate 4096 0) (0 : Int).toNat [1090519045], 1⟩, setA regs0 1 5, 4, 0, [], []⟩ := by
    unfold stepS
    rw [if_pos rfl]
    simp only [hv, hdec, if_pos]
    have hact : actS ⟨some ⟨vcopy (Vector.replicate 4096 0) (0 : Int).toNat [1090519045], 1⟩, regs0, 0, 0, [], []⟩ ⟨vcopy (Vector.replicate 4096 0) (0 : Int).toNat [1090519045], 1⟩ exI = (4, 0, ⟨some ⟨vcopy (Vector.replicate 4096 0) (0 : Int).toNat [1090519045], 1⟩, setA regs0 1 5, 0, 0, [], []⟩) := by
      unfold actS
      rw [if_neg (by decide), if_neg (by decide)]
      have hdo : doS regs0 exI = (setA regs0 1 5, 0) := by
        unfold doS
        rw [if_neg (by rintro (h | h); exact h exI_may; revert h; decide), if_neg (by decide), if_neg (by decide)]
        rfl
      rw [hdo]
      rfl
    rw [hact]
    rfl
  rw [hs]
  simp only [if_pos]
  have hr : vx 0 (setA regs0 1 5).R 1 = 5 := by show vx 0 (vset _ 1 5) 1 = 5; rw [vx_vset (by decide), if_pos rfl]
  simp only [machine_Machine_Regs, machine_Machine_PC, Option.bind_some]
  show (if vx 0 (setA regs0 1 5).R 1 = 5 then _ else _) = _
  rw [if_pos hr]
  rfl
end Go.Proofs.Ytheccnbamcdpmaa.A06
