/- LoadAll: the plain law. No condition. -/
import Derived.Test.YtheccnbamcdpmaaDoorO12k
import Derived.Test.YtheccnbamcdpmaaDoorT12zLoadAll
namespace Go.Proofs.YtheccnbamcdpmaaDoor.O12
set_option linter.unusedVariables false
set_option linter.unusedSimpArgs false
open Go Go.RowKit Go.Proofs.YtheccnbamcdpmaaDoor.E Go.Proofs.YtheccnbamcdpmaaDoor.T12 Go.Proofs.YtheccnbamcdpmaaDoor.L07
theorem wd_set {l : List Int} (h : Wd l) {i : Nat} {x : Int} (h0 : 0 ≤ x) (h1 : x ≤ 4294967295) : Wd (l.set i x) := fun y hy => by
  rcases List.mem_or_eq_of_mem_set hy with h2 | h2
  · exact h y h2
  · subst h2; exact ⟨h0, h1⟩
theorem addAll_wd (b : Int) : ∀ (s l : List Int), Wd l → Wd (addAll b l s)
  | [], l, h => h
  | x :: s, l, h => by
    rw [addAll_cons]
    refine addAll_wd b s _ (wd_set h ?_ ?_) <;> rw [wu32_eq] <;> omega
theorem words_ok {x : Smemory_Memory} (h0 : 0 ≤ x.n) (h1 : x.n ≤ 4096) : memory_Memory_Words x = some ((List.range x.n.toNat).map fun j => vx 0 x.w j) := by
  unfold memory_Memory_Words
  rw [if_pos ⟨by decide, h0, h1⟩, clone_is (by simp; omega), Option.bind_some, Int.toNat_zero, List.drop_zero]
  congr 1
  refine List.ext_getElem (by simp; omega) fun i q1 q2 => ?_
  have : i < 4096 := by simp at q1; omega
  simp only [List.getElem_take, List.getElem_map, List.getElem_range]
  rw [vx_get this]
  rfl
theorem rstart_is {x : Srivetref06_Machine} {y : Srivetref05_Memory} (h : x.M = some y) (pc : Int) (s : Sapi_Regs) : rivetref06_Machine_Start x pc s = some { x with S := s, PC := pc, Status := 0 } := by
  unfold rivetref06_Machine_Start
  rw [h, Option.bind_some, ← h]
theorem rmnew_ok {n : Nat} {l : List Int} (hn : n ≤ 4096) (hl : l.length ≤ 1000000000000) : ∃ B, rivetref06_New (n : Int) l = some (some ⟨some ⟨B⟩, regs0, 0, 0, l, []⟩, 0) ∧ RB B n fun _ => 0 := by
  obtain ⟨B, h1, h2⟩ := ref5_new hn
  refine ⟨B, ?_, h2⟩
  unfold rivetref06_New
  rw [h1, Option.bind_some]
  show (if (0 : Int) = 0 then _ else _) = _
  rw [if_pos rfl, if_pos (by simp; omega)]
  rfl
theorem rmnew_big {n : Int} {l : List Int} (h : n < 0 ∨ 4096 < n) : rivetref06_New n l = some (none, 2) := by
  unfold rivetref06_New
  rw [ref5_big h]
  rfl
section
variable {o : Sapi_Obj} {b mem : Int} {l : List Int}
theorem rm_may (h : Ob o) (hm : mayS o ≠ 0) : rivetref12_Machine o b mem l = some (none, mayS o) := by
  unfold rivetref12_Machine
  rw [refimage_is h, Option.bind_some]
  unfold imgS
  rw [if_neg hm]
  show (if mayS o = 0 then _ else _) = _
  rw [if_neg hm]
theorem rm_base (h : Ob o) (hm : mayS o = 0) (hb : baseOk b = false) : rivetref12_Machine o b mem l = some (none, 11) := by
  unfold rivetref12_Machine
  rw [refimage_is h, Option.bind_some]
  unfold imgS
  rw [if_pos hm, hb]
  rfl
theorem rm_mem (h : Ob o) (hm : mayS o = 0) (hb : baseOk b = true) (hn : mem < 0 ∨ 4096 < mem) : rivetref12_Machine o b mem l = some (none, 2) := by
  unfold rivetref12_Machine
  rw [refimage_is h, Option.bind_some]
  unfold imgS
  rw [if_pos hm, if_pos hb]
  show (if (0 : Int) = 0 then _ else _) = _
  rw [if_pos rfl, rmnew_big hn]
  rfl
theorem rm_no (h : Ob o) (hm : mayS o = 0) (hb : baseOk b = true) (h0 : 0 ≤ mem) (h1 : mem ≤ 4096) (hl : l.length ≤ 1000000000000) (hf : mem < b / 4 + o.Words.length) : rivetref12_Machine o b mem l = some (none, 11) := by
  obtain ⟨e1, e2, e3⟩ := base_div hb
  obtain ⟨n, rfl⟩ := Int.eq_ofNat_of_zero_le h0
  obtain ⟨B, g1, g2⟩ := rmnew_ok (n := n) (l := l) (by omega) hl
  unfold rivetref12_Machine
  rw [refimage_is h, Option.bind_some]
  unfold imgS
  rw [if_pos hm, if_pos hb]
  show (if (0 : Int) = 0 then _ else _) = _
  rw [if_pos rfl]
  have g3 := g2.placeNo (a := (b / 4).toNat) (l := addAll b o.Words o.Sites) (by omega) (by omega) (by rw [addAll_len]; omega)
  rw [Int.toNat_of_nonneg e2] at g3
  show (rivetref06_New (n : Int) l).bind _ = _
  rw [g1, Option.bind_some]
  show (if (0 : Int) = 0 then _ else _) = _
  rw [if_pos rfl, Option.bind_some, e1, g3]
  rfl
theorem rm_ok (h : Ob o) (hm : mayS o = 0) (hb : baseOk b = true) (h1 : mem ≤ 4096) (hl : l.length ≤ 1000000000000) (hf : b / 4 + o.Words.length ≤ mem) :
    ∃ B, rivetref12_Machine o b mem l = some (some ⟨some ⟨B⟩, regsS b mem, wu32 b, 0, l, []⟩, 0) ∧
      RB B mem.toNat fun j => if (b / 4).toNat ≤ j ∧ j < (b / 4).toNat + (addAll b o.Words o.Sites).length then (addAll b o.Words o.Sites).getD (j - (b / 4).toNat) 0 else 0 := by
  obtain ⟨e1, e2, e3⟩ := base_div hb
  obtain ⟨n, rfl⟩ := Int.eq_ofNat_of_zero_le (show 0 ≤ mem by omega)
  obtain ⟨B, g1, g2⟩ := rmnew_ok (n := n) (l := l) (by omega) hl
  obtain ⟨B', g3, g4⟩ := g2.place (a := (b / 4).toNat) (l := addAll b o.Words o.Sites) (by omega) (addAll_wd b _ _ h.w) (by rw [addAll_len]; omega)
  rw [Int.toNat_of_nonneg e2] at g3
  refine ⟨B', ?_, g4⟩
  unfold rivetref12_Machine
  rw [refimage_is h, Option.bind_some]
  unfold imgS
  rw [if_pos hm, if_pos hb]
  show (if (0 : Int) = 0 then _ else _) = _
  rw [if_pos rfl]
  show (rivetref06_New (n : Int) l).bind _ = _
  rw [g1, Option.bind_some]
  show (if (0 : Int) = 0 then _ else _) = _
  rw [if_pos rfl, Option.bind_some, e1, g3, Option.bind_some]
  show (if (0 : Int) = 0 then _ else _) = _
  rw [if_pos rfl, refregs_is, Option.bind_some, rstart_is rfl]
  rfl
end
theorem few_loop {o : Sapi_Obj} (h : okSapi_Obj o) : ∃ l, loopO (fun σ : List Sapi_Sym × Int => rivetlaw12_few.b38 o σ.1 σ.2) (([] : List Sapi_Sym), 0) = some l ∧ l.length ≤ 12 := by
  have hy := h.2.2.2.2.2
  have hn := h.2.2.2.2.1
  have key : ∀ (m i : Nat) (l : List Sapi_Sym), i + m = 12 → l.length = i → ∃ l', loopO (fun σ : List Sapi_Sym × Int => rivetlaw12_few.b38 o σ.1 σ.2) (l, (i : Int)) = some l' ∧ l'.length ≤ 12 := by
    intro m
    induction m with
    | zero =>
      intro i l h hl
      refine ⟨l, loopO_done ?_, by omega⟩
      unfold rivetlaw12_few.b38 rivetlaw12_few.j1
      rw [decide_eq_false (by omega)]
      split <;> rfl
    | succ m ih =>
      intro i l h hl
      by_cases hi : i < o.Syms.length
      · have e : ix eSapi_Sym.d o.Syms (i : Int) = sy o.Syms i := rfl
        have hs := (hn _ (sy_mem hi)).1
        have hm := mnn_ok ((sy o.Syms i).Name.size : Int) 20 (by omega) (by omega)
        rw [loopO_next (s' := _)]
        rotate_left
        · show rivetlaw12_few.b38 o l (i : Int) = _
          unfold rivetlaw12_few.b38 rivetlaw12_few.j1 rivetlaw12_few.j2
          rw [if_pos (by omega), decide_eq_true (by omega), if_pos rfl, if_pos (by omega), e, if_pos ⟨by omega, hm.1, hm.2⟩, if_pos (by simp; omega), w64s (by omega) (by omega)]
        · exact ih (i + 1) _ (by omega) (by simp [hl])
      · refine ⟨l, loopO_done ?_, by omega⟩
        unfold rivetlaw12_few.b38 rivetlaw12_few.j1
        rw [if_neg (by omega)]
        rfl
  exact key 12 0 [] (by omega) rfl
theorem few_is {o : Sapi_Obj} (h : okSapi_Obj o) : ∃ p, rivetlaw12_few o = some p ∧ Ob p := by
  obtain ⟨l, h1, h2⟩ := few_loop h
  have m1 := mnn_ok (o.Words.length : Int) 30 (by omega) (by omega)
  have m2 := mnn_ok (o.Sites.length : Int) 30 (by omega) (by omega)
  unfold rivetlaw12_few
  rw [if_pos ⟨m1.1, m1.2⟩, if_pos ⟨m2.1, m2.2⟩, h1]
  refine ⟨_, rfl, fun x hx => (h.1 x (List.mem_of_mem_take hx)).u32, ?_, ?_, ?_⟩
  · show (o.Words.take _).length ≤ _
    rw [take_min _ 30 (by omega), List.length_take]; omega
  · show (o.Sites.take _).length ≤ _
    rw [take_min _ 30 (by omega), List.length_take]; omega
  · show l.length ≤ _; omega
end Go.Proofs.YtheccnbamcdpmaaDoor.O12
namespace Go.Proofs.YtheccnbamcdpmaaDoor.T12
open Go Go.RowKit Go.Proofs.YtheccnbamcdpmaaDoor.E Go.Proofs.YtheccnbamcdpmaaDoor.O12 Go.Proofs.YtheccnbamcdpmaaDoor.L07
theorem Pure.LoadAll (a0 : Sapi_Obj) (a1 : Int) (a2 : Int) : okSapi_Obj a0 → In .i64 a1 → In .i64 a2 → rivetlaw12_LoadAll a0 a1 a2 = some true := by
  intro h0 h1 h2
  obtain ⟨o, ho, hob⟩ := few_is h0
  have hwl : (imgS o a1).1.length ≤ 1000000 := by
    unfold imgS
    split
    · rename_i hm
      have := (may_sites hm).1
      split
      · show (addAll _ _ _).length ≤ _; rw [addAll_len]; omega
      · simp
    · simp
  have hI := image_is (b := a1) hob
  have hR := refimage_is (b := a1) hob
  rcases hi : imgS o a1 with ⟨iw, ie⟩
  rw [hi] at hwl hI hR
  have hS := same32 (a := iw) (b := iw) (by show iw.length ≤ _; exact hwl)
  rw [decide_eq_true rfl] at hS
  have nn : ∀ e : Int, e ≠ 0 → load_Machine o a1 a2 [] = some (none, e) → rivetref12_Machine o a1 a2 [] = some (none, e) → rivetlaw12_LoadAll a0 a1 a2 = some true := fun e he hA hB => by
    unfold rivetlaw12_LoadAll
    rw [shown_is, Option.bind_some, ho, Option.bind_some, hI, Option.bind_some]
    dsimp only
    rw [Option.bind_some, hR, Option.bind_some]
    dsimp only
    rw [Option.bind_some, hA, Option.bind_some]
    dsimp only
    rw [Option.bind_some, hB, Option.bind_some]
    dsimp only
    rw [if_pos rfl, hS, Option.bind_some, if_pos rfl, if_pos rfl, if_pos rfl, if_neg (by simp [he]), regs_is, refregs_is, Option.bind_some, Option.bind_some]
    unfold rivetlaw12_LoadAll.j1
    rw [if_neg (by simp)]
    rfl
  have fin : rivetlaw12_LoadAll a0 a1 a2 = some true := by
    by_cases hm : mayS o = 0
    · cases hb : baseOk a1 with
      | false => exact nn 11 (by decide) (lm_base hob hm hb) (rm_base hob hm hb)
      | true =>
        by_cases hn : a2 < 0 ∨ 4096 < a2
        · exact nn 2 (by decide) (lm_mem hob hm hb hn) (rm_mem hob hm hb hn)
        · by_cases hf : a1 / 4 + o.Words.length ≤ a2
          · obtain ⟨d1, d2, d3⟩ := base_div hb
            have hA := lm_ok (l := []) hob hm hb (show a2 ≤ 4096 by omega) (by simp) hf
            obtain ⟨B, hB, hrb⟩ := rm_ok (l := []) hob hm hb (show a2 ≤ 4096 by omega) (by simp) hf
            unfold rivetlaw12_LoadAll
            rw [shown_is, Option.bind_some, ho, Option.bind_some, hI, Option.bind_some]
            dsimp only
            rw [Option.bind_some, hR, Option.bind_some]
            dsimp only
            rw [Option.bind_some, hA, Option.bind_some]
            dsimp only
            rw [Option.bind_some, hB, Option.bind_some]
            dsimp only
            rw [if_pos rfl, hS, Option.bind_some, if_pos rfl, if_pos rfl, if_pos rfl, if_neg (by simp), regs_is, refregs_is, Option.bind_some, Option.bind_some]
            unfold rivetlaw12_LoadAll.j10
            rw [if_neg (by simp)]
            unfold rivetlaw12_LoadAll.j11 rivetlaw12_LoadAll.j12 rivetlaw12_LoadAll.j13
            rw [Option.bind_some, Option.bind_some, words_ok (by show 0 ≤ a2; omega) (by show a2 ≤ 4096; omega), Option.bind_some, hrb.words (by omega), Option.bind_some]
            have e : ((List.range a2.toNat).map fun j => vx 0 (vcopy (Vector.replicate 4096 0) (a1 / 4).toNat (addAll a1 o.Words o.Sites)) j) =
                (List.range a2.toNat).map fun j => if (a1 / 4).toNat ≤ j ∧ j < (a1 / 4).toNat + (addAll a1 o.Words o.Sites).length then (addAll a1 o.Words o.Sites).getD (j - (a1 / 4).toNat) 0 else 0 := by
              refine List.map_congr_left fun j hj => ?_
              have hj : j < a2.toNat := by simpa using hj
              rw [vx_vcopy (by omega)]
              congr 1
              rw [vx_get (by omega)]
              simp
            show (rivetref05_Same ((List.range a2.toNat).map _) _).bind _ = _
            rw [e, same32 (by simp; omega), decide_eq_true rfl, Option.bind_some, if_pos rfl]
            simp only [machine_Machine_Regs, machine_Machine_PC, machine_Machine_Status, Option.bind_some]
            simp
            rfl
          · exact nn 11 (by decide) (lm_no hob hm hb (by omega) (by omega) (by simp) (by omega)) (rm_no hob hm hb (by omega) (by omega) (by simp) (by omega))
    · exact nn (mayS o) hm (lm_may hob hm) (rm_may hob hm)
  exact fin
end Go.Proofs.YtheccnbamcdpmaaDoor.T12
