/- What a step of the machine comes to. No condition. -/
import Derived.Test.YtheccnbamcdpmaaB06b
namespace Go.Proofs.Ytheccnbamcdpmaa.A06
set_option linter.unusedVariables false
set_option linter.unusedSimpArgs false
open Go Go.RowKit Go.Proofs.Ytheccnbamcdpmaa.E Go.Proofs.Ytheccnbamcdpmaa.T06
/-- A machine as it stands. -/
structure OkMa (m : Smachine_Machine) (y : Smemory_Memory) : Prop where
  mem : m.Memory = some y
  ok : OkM y
  s : OkR m.s
  pc : W m.pc
  inw : ∀ n ∈ m.in', W n
  st : 0 ≤ m.status ∧ m.status ≤ 5
def loadS (m : Smachine_Machine) (y : Smemory_Memory) (op a : Int) : Int × Int × Smachine_Machine :=
  if op = 1 then (wu32 (byteS y a).1, (byteS y a).2, m)
  else if a = 4294967232 then (match m.in' with | [] => (0, 0, m) | x :: r => (x, 0, { m with in' := r }))
  else ((wordS y a).1, (wordS y a).2, m)
def storeS (m : Smachine_Machine) (y : Smemory_Memory) (op a x : Int) : Int × Smachine_Machine :=
  if op = 3 then ((setbS y a (wu8 x)).1, { m with Memory := some (setbS y a (wu8 x)).2 })
  else if a = 4294967236 then (0, { m with out := m.out ++ [x] })
  else if a = 4294967240 then (1, m)
  else ((setwS y a x).1, { m with Memory := some (setwS y a x).2 })
def goTo (m : Smachine_Machine) (i : Sapi_Instr) : Int := if i.Kind = 7 then wu32 (wu32 (m.pc + 4) + wu32 (wu32 i.Imm * 4)) else vx 0 m.s.R i.C.toNat
noncomputable def actS (m : Smachine_Machine) (y : Smemory_Memory) (i : Sapi_Instr) : Int × Int × Smachine_Machine :=
  if i.Kind = 5 then
    if i.Op ≥ 2 then (wu32 (m.pc + 4), (storeS m y i.Op (wu32 (vx 0 m.s.R i.B.toNat + wu32 i.Imm)) (vx 0 m.s.R i.A.toNat)).1, (storeS m y i.Op (wu32 (vx 0 m.s.R i.B.toNat + wu32 i.Imm)) (vx 0 m.s.R i.A.toNat)).2)
    else if (loadS m y i.Op (wu32 (vx 0 m.s.R i.B.toNat + wu32 i.Imm))).2.1 = 0 then
      (wu32 (m.pc + 4), 0, { (loadS m y i.Op (wu32 (vx 0 m.s.R i.B.toNat + wu32 i.Imm))).2.2 with s := setA m.s i.A (loadS m y i.Op (wu32 (vx 0 m.s.R i.B.toNat + wu32 i.Imm))).1 })
    else (wu32 (m.pc + 4), (loadS m y i.Op (wu32 (vx 0 m.s.R i.B.toNat + wu32 i.Imm))).2.1, m)
  else if i.Kind = 6 ∨ i.Kind = 7 then
    if takenS m.s i.Op = true then (goTo m i, 0, if i.U = true then { m with s := { m.s with R := vset m.s.R 15 (wu32 (m.pc + 4)) } } else m)
    else (wu32 (m.pc + 4), 0, m)
  else (wu32 (m.pc + 4), (doS m.s i).2, { m with s := (doS m.s i).1 })
/-- A step: how it stands, and the machine. -/
noncomputable def stepS (m : Smachine_Machine) (y : Smemory_Memory) : Smachine_Machine :=
  if m.status = 0 then
    if (wordS y m.pc).2 = 0 then
      if (decS (wordS y m.pc).1).2 = true then
        { (actS m y (decS (wordS y m.pc).1).1).2.2 with
          status := (actS m y (decS (wordS y m.pc).1).1).2.1
          pc := if (actS m y (decS (wordS y m.pc).1).1).2.1 ≤ 1 then (actS m y (decS (wordS y m.pc).1).1).1 else m.pc }
      else { m with status := 2 }
    else { m with status := (wordS y m.pc).2 }
  else m
theorem ma_eta {m : Smachine_Machine} {y : Smemory_Memory} (h : m.Memory = some y) : (⟨some y, m.s, m.pc, m.status, m.in', m.out⟩ : Smachine_Machine) = m := by cases m; simp only at h; subst h; rfl
theorem ixu (l : List Int) (x : Int) : ix (eI .u32).d l x = l.getD x.toNat 0 := rfl
section
variable {m : Smachine_Machine} {y : Smemory_Memory} {op a x : Int} {i : Sapi_Instr}
theorem W_wordS (h : OkM y) : W (wordS y a).1 := by
  have := h.n1
  unfold wordS
  split
  · split
    · by_cases h0 : (a / 4).toNat < 4096
      · exact h.w _ h0
      · unfold vx; rw [List.getD_eq_getElem?_getD, List.getElem?_eq_none (by simp; omega)]; exact ⟨by simp, by simp⟩
    · exact ⟨by simp, by simp⟩
  · exact ⟨by simp, by simp⟩
theorem wordS_st : 0 ≤ (wordS y a).2 ∧ (wordS y a).2 ≤ 5 ∧ (wordS y a).2 ≠ 1 := by
  unfold wordS
  split
  · split <;> exact ⟨by simp, by simp, by simp⟩
  · exact ⟨by simp, by simp, by simp⟩
theorem load_is (h : OkMa m y) (ha : W a) : machine_Machine_load m op a = some (loadS m y op a) := by
  unfold machine_Machine_load loadS
  by_cases h1 : op = 1
  · rw [if_pos h1, if_pos h1, h.mem, Option.bind_some, byte_is h.ok ha]; rfl
  · rw [if_neg h1, if_neg h1]
    by_cases h2 : a = 4294967232
    · rw [if_pos h2, if_pos h2, h.mem, Option.bind_some]
      cases hl : m.in' with
      | nil => rw [if_pos (by simp)]
      | cons z r =>
        rw [if_neg (by simp only [List.length_cons]; omega), if_pos (by simp only [List.length_cons]; omega)]
        simp only [nm]
        rw [if_pos (by simp only [List.length_cons]; omega)]
        show some (z, 0, _) = some (z, 0, _)
        rw [← h.mem]
        rfl
    · rw [if_neg h2, if_neg h2, h.mem, Option.bind_some, word_is h.ok ha]; rfl
theorem store_is (h : OkMa m y) (ha : W a) (ho : m.out.length ≤ 1000000) : machine_Machine_store m op a x = some (storeS m y op a x) := by
  unfold machine_Machine_store storeS
  by_cases h1 : op = 3
  · rw [if_pos h1, if_pos h1, h.mem, Option.bind_some, setbyte_is h.ok ha]; rfl
  · rw [if_neg h1, if_neg h1]
    by_cases h2 : a = 4294967236
    · rw [if_pos h2, if_pos h2, h.mem, Option.bind_some, if_pos (by simp only [List.length_singleton]; omega)]
      all_goals rw [← h.mem]
    · rw [if_neg h2, if_neg h2]
      by_cases h3 : a = 4294967240
      · rw [if_pos h3, if_pos h3]
      · rw [if_neg h3, if_neg h3, h.mem, Option.bind_some, setword_is h.ok ha]; rfl
theorem W_loadS (h : OkMa m y) : W (loadS m y op a).1 := by
  unfold loadS
  split
  · exact W_wrap _
  · split
    · split
      · exact ⟨by simp, by simp⟩
      · rename_i z r hl; exact h.inw z (by rw [hl]; exact List.mem_cons_self ..)
    · exact W_wordS h.ok
theorem loadS_mem : (loadS m y op a).2.2 = m ∨ ∃ r, (loadS m y op a).2.2 = { m with in' := r } ∧ (∀ n ∈ r, n ∈ m.in') ∧ (loadS m y op a).2.1 = 0 := by
  unfold loadS
  split
  · exact .inl rfl
  · split
    · split
      · exact .inl rfl
      · rename_i z r hl; exact .inr ⟨r, rfl, fun n hn => by rw [hl]; exact List.mem_cons_of_mem _ hn, rfl⟩
    · exact .inl rfl
theorem act_is (h : OkMa m y) (hi : MayP i) (ho : m.out.length ≤ 1000000) : machine_Machine_do m i = some (actS m y i) := by
  obtain ⟨hA, hB, hC, hk⟩ := hi
  unfold machine_Machine_do actS
  rw [h.mem, Option.bind_some]
  by_cases h5 : i.Kind = 5
  · rw [if_pos h5, if_pos h5, if_pos (by omega)]
    by_cases h2 : i.Op ≥ 2
    · rw [if_pos h2, if_pos h2, if_pos (by omega), store_is h (W_wrap _) ho]; rfl
    · rw [if_neg h2, if_neg h2, load_is h (W_wrap _), Option.bind_some]
      generalize hl : loadS m y i.Op (wu32 (vx 0 m.s.R i.B.toNat + wu32 i.Imm)) = l
      have hW : W l.1 := by rw [← hl]; exact W_loadS h
      have hm := @loadS_mem m y i.Op (wu32 (vx 0 m.s.R i.B.toNat + wu32 i.Imm))
      rw [hl] at hm
      obtain ⟨l1, l2, l3⟩ := l
      simp only at hm hW ⊢
      by_cases h0 : l2 = 0
      · rw [if_pos h0, if_pos h0, if_pos (by omega)]
        have hmem : l3.Memory = some y := by
          rcases hm with hm | ⟨r, hm, _⟩ <;> rw [hm] <;> exact h.mem
        have hs : l3.s = m.s := by
          rcases hm with hm | ⟨r, hm, _⟩ <;> rw [hm]
        rw [hmem, Option.bind_some, show_is _ hW, Option.bind_some]
        unfold machine_Machine_do.j1
        rw [h0]
        congr 3
        cases l3; simp only at *; subst hmem hs; rfl
      · rw [if_neg h0, if_neg h0]
        unfold machine_Machine_do.j1
        rcases hm with hm | ⟨r, _, _, hm⟩
        · rw [hm]
        · exact absurd hm h0
  · rw [if_neg h5, if_neg h5]
    have hb : (if i.Kind = 6 then machine_Machine_do.j2 m i true else machine_Machine_do.j2 m i (i.Kind == 7)) = machine_Machine_do.j2 m i (decide (i.Kind = 6 ∨ i.Kind = 7)) := by
      by_cases h6 : i.Kind = 6
      · rw [if_pos h6, decide_eq_true (.inl h6)]
      · rw [if_neg h6]; congr 1; by_cases h7 : i.Kind = 7 <;> simp [h6, h7]
    rw [hb]
    unfold machine_Machine_do.j2
    by_cases h67 : i.Kind = 6 ∨ i.Kind = 7
    · rw [decide_eq_true h67, if_pos rfl, if_pos h67, h.mem, Option.bind_some, taken_is, Option.bind_some]
      by_cases ht : takenS m.s i.Op = true
      · rw [if_pos ht, if_pos ht, if_pos (by omega)]
        have j3 : ∀ v, machine_Machine_do.j3 i m v = some (v, 0, if i.U = true then { m with s := { m.s with R := vset m.s.R 15 (wu32 (m.pc + 4)) } } else m) := fun v => by
          unfold machine_Machine_do.j3 machine_Machine_do.j4
          by_cases hu : i.U = true
          · rw [if_pos hu, if_pos hu, h.mem]; rfl
          · rw [if_neg hu, if_neg hu]
        unfold goTo
        by_cases h7 : i.Kind = 7
        · rw [if_pos h7, if_pos h7]; simp only [nm]; exact (j3 _).trans (by rw [← h.mem])
        · rw [if_neg h7, if_neg h7]; exact (j3 _).trans (by rw [← h.mem])
      · rw [if_neg ht, if_neg ht]
    · rw [decide_eq_false h67, if_neg (by simp), if_neg h67]
      unfold machine_Machine_do.j5
      rw [h.mem, Option.bind_some, do_is h.s, Option.bind_some, ← h.mem]
end
end Go.Proofs.Ytheccnbamcdpmaa.A06
