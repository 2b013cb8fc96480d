/- A step, and that what is known of a machine stays. No condition. -/
import Derived.Test.YtheccnbamcdpmaaB06c
namespace Go.Proofs.Ytheccnbamcdpmaa.A06
set_option linter.unusedVariables false
set_option linter.unusedSimpArgs false
open Go Go.RowKit Go.Proofs.Ytheccnbamcdpmaa.E Go.Proofs.Ytheccnbamcdpmaa.T06
section
variable {m : Smachine_Machine} {y : Smemory_Memory} {op a x : Int} {i : Sapi_Instr}
theorem setw_ok (h : OkM y) (hx : W x) : OkM (setwS y a x).2 ∧ 0 ≤ (setwS y a x).1 ∧ (setwS y a x).1 ≤ 5 ∧ ((setwS y a x).1 > 1 → (setwS y a x).2 = y) ∧ (setwS y a x).2.n = y.n := by
  unfold setwS
  split
  · split
    · exact ⟨h.set hx, by simp, by simp, by simp, rfl⟩
    · exact ⟨h, by simp, by simp, fun _ => rfl, rfl⟩
  · exact ⟨h, by simp, by simp, fun _ => rfl, rfl⟩
theorem setb_ok (h : OkM y) : OkM (setbS y a x).2 ∧ 0 ≤ (setbS y a x).1 ∧ (setbS y a x).1 ≤ 5 ∧ ((setbS y a x).1 > 1 → (setbS y a x).2 = y) ∧ (setbS y a x).2.n = y.n := by
  unfold setbS
  split
  · exact ⟨h.set W_setb, by simp, by simp, by simp, rfl⟩
  · exact ⟨h, by simp, by simp, fun _ => rfl, rfl⟩
theorem byteS_st : 0 ≤ (byteS y a).2 ∧ (byteS y a).2 ≤ 5 ∧ (byteS y a).2 ≠ 1 := by
  unfold byteS
  split <;> exact ⟨by simp, by simp, by simp⟩
theorem loadS_st : 0 ≤ (loadS m y op a).2.1 ∧ (loadS m y op a).2.1 ≤ 5 ∧ (loadS m y op a).2.1 ≠ 1 := by
  unfold loadS
  split
  · exact byteS_st
  · split
    · split <;> exact ⟨by simp, by simp, by simp⟩
    · exact wordS_st
theorem op_H {s t : Sapi_Regs} {op b n z : Int} {u : Bool} (hs : OkR s) (hb : W b) (hn : W n) (h : opS s op b n u = some (z, t)) : W t.H := by
  unfold opS at h
  (repeat' (split at h)) <;> first
    | (cases h; exact hs.h)
    | (cases h; exact W_mod _)
    | (cases h; show W (mulS _ _ _).2; unfold mulS; exact W_mod _)
    | (cases h
       show W (divS b n).2.1
       unfold divS
       have hs2 := sgn_in hn.1 hn.2
       split
       · exact ⟨by simp, by simp⟩
       · rename_i hd
         have h1 := Int.emod_nonneg (sgn b) (show sgn n ≠ 0 by omega)
         have h2 := Int.emod_lt_of_pos (sgn b) (show 0 < sgn n by omega)
         exact ⟨h1, by show sgn b % sgn n ≤ _; omega⟩)
    | (cases h)
theorem doS_ok {s : Sapi_Regs} (hs : OkR s) (hi : MayP i) : OkR (doS s i).1 ∧ 0 ≤ (doS s i).2 ∧ (doS s i).2 ≤ 5 ∧ ((doS s i).2 > 1 → (doS s i).1 = s) := by
  have hm := hi
  obtain ⟨hA, hB, hC, hK⟩ := hi
  have setok : ∀ (t : Sapi_Regs) (z : Int), OkR t → W z → OkR (setA t i.A z) := fun t z ht hz => by
    have h1 := set_ok ht hA.1 hA.2 hz
    exact ⟨h1.r, h1.h⟩
  unfold doS
  split
  · exact ⟨hs, by simp, by simp, fun _ => rfl⟩
  · split
    · exact ⟨setok s _ hs hs.h, by simp, by simp, by simp⟩
    · split
      · exact ⟨setok s _ hs (W_flags s), by simp, by simp, by simp⟩
      · rename_i g1 g2 g3
        have hO : 0 ≤ i.Op ∧ i.Op ≤ 11 := by omega
        have hb := hs.r i.B hB.1 (by omega)
        have hn := W_num hs (i := i) hC
        cases ho : opS s i.Op (vx 0 s.R i.B.toNat) (numS s i) i.U with
        | none => exact ⟨hs, by simp, by simp, fun _ => rfl⟩
        | some p =>
          obtain ⟨z, t⟩ := p
          obtain ⟨k1, k2, k3, k4, k5, k6⟩ := op_keeps hO hb hn ho
          have hH := op_H hs hb hn ho
          have ht : OkR t := ⟨fun j j0 j1 => by rw [k2]; exact hs.r j j0 j1, hH⟩
          exact ⟨setok t z ht k1, by simp, by simp, by simp⟩
/-- What a step leaves as it was, and what it turns. -/
structure Acted (m : Smachine_Machine) (y : Smemory_Memory) (r : Int × Int × Smachine_Machine) : Prop where
  to : W r.1
  st0 : 0 ≤ r.2.1
  st1 : r.2.1 ≤ 5
  ok : ∃ y', OkMa r.2.2 y' ∧ y'.n = y.n
  pc : r.2.2.pc = m.pc
  stt : r.2.2.status = m.status
  out : ∃ l, r.2.2.out = m.out ++ l ∧ l.length ≤ 1
  trap : r.2.1 > 1 → r.2.2 = m
theorem OkMa.with_s (h : OkMa m y) {s : Sapi_Regs} (hs : OkR s) : OkMa { m with s := s } y := ⟨h.mem, h.ok, hs, h.pc, h.inw, h.st⟩
theorem OkMa.with_mem (h : OkMa m y) {y' : Smemory_Memory} (hy : OkM y') : OkMa { m with Memory := some y' } y' := ⟨rfl, hy, h.s, h.pc, h.inw, h.st⟩
theorem mem_same (h : m.Memory = some y) : ({ m with Memory := some y } : Smachine_Machine) = m := by cases m; simp only at h; subst h; rfl
theorem store_ok (h : OkMa m y) (hx : W x) : 0 ≤ (storeS m y op a x).1 ∧ (storeS m y op a x).1 ≤ 5 ∧ (∃ y', OkMa (storeS m y op a x).2 y' ∧ y'.n = y.n) ∧ (storeS m y op a x).2.pc = m.pc ∧ (storeS m y op a x).2.status = m.status ∧
    (∃ l, (storeS m y op a x).2.out = m.out ++ l ∧ l.length ≤ 1) ∧ ((storeS m y op a x).1 > 1 → (storeS m y op a x).2 = m) := by
  unfold storeS
  split
  · obtain ⟨k1, k2, k3, k4, k5⟩ := setb_ok (a := a) (x := wu8 x) h.ok
    exact ⟨k2, k3, ⟨_, h.with_mem k1, k5⟩, rfl, rfl, ⟨[], by simp, by simp⟩, fun ht => by
      have := k4 ht
      show ({ m with Memory := some (setbS y a (wu8 x)).2 } : Smachine_Machine) = m
      rw [this]; exact mem_same h.mem⟩
  · split
    · exact ⟨by simp, by simp, ⟨y, ⟨h.mem, h.ok, h.s, h.pc, h.inw, h.st⟩, rfl⟩, rfl, rfl, ⟨[x], rfl, by simp⟩, by simp⟩
    · split
      · exact ⟨by simp, by simp, ⟨y, h, rfl⟩, rfl, rfl, ⟨[], by simp, by simp⟩, by simp⟩
      · obtain ⟨k1, k2, k3, k4, k5⟩ := setw_ok (a := a) h.ok hx
        exact ⟨k2, k3, ⟨_, h.with_mem k1, k5⟩, rfl, rfl, ⟨[], by simp, by simp⟩, fun ht => by
          have := k4 ht
          show ({ m with Memory := some (setwS y a x).2 } : Smachine_Machine) = m
          rw [this]; exact mem_same h.mem⟩
theorem act_ok (h : OkMa m y) (hi : MayP i) : Acted m y (actS m y i) := by
  have hm := hi
  obtain ⟨hA, hB, hC, hk⟩ := hi
  unfold actS
  split
  · split
    · obtain ⟨k1, k2, k3, k4, k5, k6, k7⟩ := store_ok (op := i.Op) (a := wu32 (vx 0 m.s.R i.B.toNat + wu32 i.Imm)) h (h.s.r i.A hA.1 (by omega))
      exact ⟨W_wrap _, k1, k2, k3, k4, k5, k6, k7⟩
    · split
      · have hW := W_loadS (op := i.Op) (a := wu32 (vx 0 m.s.R i.B.toNat + wu32 i.Imm)) h
        have hs := set_ok h.s hA.1 hA.2 hW
        have hs2 : OkR (setA m.s i.A (loadS m y i.Op (wu32 (vx 0 m.s.R i.B.toNat + wu32 i.Imm))).1) := ⟨hs.r, hs.h⟩
        rcases @loadS_mem m y i.Op (wu32 (vx 0 m.s.R i.B.toNat + wu32 i.Imm)) with e | ⟨r, e, hr, _⟩
        · simp only [e]
          exact ⟨W_wrap _, by simp, by simp, ⟨y, h.with_s hs2, rfl⟩, rfl, rfl, ⟨[], by simp, by simp⟩, by simp⟩
        · simp only [e]
          exact ⟨W_wrap _, by simp, by simp, ⟨y, ⟨h.mem, h.ok, hs2, h.pc, fun n hn => h.inw n (hr n hn), h.st⟩, rfl⟩, rfl, rfl, ⟨[], by simp, by simp⟩, by simp⟩
      · have := @loadS_st m y i.Op (wu32 (vx 0 m.s.R i.B.toNat + wu32 i.Imm))
        exact ⟨W_wrap _, this.1, this.2.1, ⟨y, h, rfl⟩, rfl, rfl, ⟨[], by simp, by simp⟩, fun _ => rfl⟩
  · split
    · split
      · have hto : W (goTo m i) := by
          unfold goTo
          split
          · exact W_wrap _
          · exact h.s.r i.C hC.1 (by omega)
        have hs := set_ok (A := 15) h.s (by omega) (by omega) (W_wrap (m.pc + 4))
        split
        · exact ⟨hto, by simp, by simp, ⟨y, h.with_s hs, rfl⟩, rfl, rfl, ⟨[], by simp, by simp⟩, by simp⟩
        · exact ⟨hto, by simp, by simp, ⟨y, h, rfl⟩, rfl, rfl, ⟨[], by simp, by simp⟩, by simp⟩
      · exact ⟨W_wrap _, by simp, by simp, ⟨y, h, rfl⟩, rfl, rfl, ⟨[], by simp, by simp⟩, by simp⟩
    · obtain ⟨k1, k2, k3, k4⟩ := doS_ok h.s hm
      exact ⟨W_wrap _, k2, k3, ⟨y, h.with_s k1, rfl⟩, rfl, rfl, ⟨[], by simp, by simp⟩, fun ht => by
        have := k4 ht
        show ({ m with s := (doS m.s i).1 } : Smachine_Machine) = m
        rw [this]⟩
/-- What a step turns. -/
structure Stepped (m : Smachine_Machine) (y : Smemory_Memory) (m' : Smachine_Machine) : Prop where
  ok : ∃ y', OkMa m' y' ∧ y'.n = y.n
  out : ∃ l, m'.out = m.out ++ l ∧ l.length ≤ 1
  rest : m.status ≠ 0 → m' = m
  trap : m'.status > 1 → m' = { m with status := m'.status }
theorem step_is (h : OkMa m y) (ho : m.out.length ≤ 1000000) : machine_Machine_Step m = some ((stepS m y).status, stepS m y) := by
  have j1 : ∀ {v : Smachine_Machine} {z : Smemory_Memory}, v.Memory = some z → machine_Machine_Step.j1 v = some (v.status, v) := fun hz => by
    unfold machine_Machine_Step.j1
    rw [hz]; rfl
  unfold machine_Machine_Step stepS
  rw [h.mem, Option.bind_some]
  by_cases h0 : m.status = 0
  · rw [if_pos h0, if_pos h0, word_is h.ok h.pc, Option.bind_some]
    have hW := W_wordS (a := m.pc) h.ok
    generalize wordS y m.pc = wt at *
    obtain ⟨w, t⟩ := wt
    simp only at hW ⊢
    by_cases ht : t = 0
    · rw [if_pos ht, if_pos ht, dec_is hW, Option.bind_some]
      have hd := @dec_ok w
      generalize decS w = d at *
      obtain ⟨i, b⟩ := d
      simp only at hd ⊢
      by_cases hb : b = true
      · rw [if_pos hb, if_pos hb]
        have hi := (hd hb).1
        have e : (⟨some y, m.s, m.pc, t, m.in', m.out⟩ : Smachine_Machine) = m := by
          have := ma_eta h.mem
          rw [ht, ← h0]; exact this
        rw [e, act_is h hi ho, Option.bind_some]
        obtain ⟨y', hy', _⟩ := (act_ok h hi).ok
        have hpc := (act_ok h hi).pc
        generalize actS m y i = r at *
        obtain ⟨to, tt, m'⟩ := r
        simp only at hy' hpc ⊢
        rw [hy'.mem, Option.bind_some]
        by_cases hr : tt ≤ 1
        · rw [if_pos hr, if_pos hr, j1 rfl, ← hy'.mem]
        · rw [if_neg hr, if_neg hr, j1 rfl, ← hy'.mem, hpc]
      · rw [if_neg hb, if_neg hb, ← h.mem]
    · rw [if_neg ht, if_neg ht, ← h.mem]
  · rw [if_neg h0, if_neg h0]
theorem step_ok (h : OkMa m y) : Stepped m y (stepS m y) := by
  unfold stepS
  by_cases h0 : m.status = 0
  · rw [if_pos h0]
    have hW := W_wordS (a := m.pc) h.ok
    have hs := @wordS_st y m.pc
    by_cases ht : (wordS y m.pc).2 = 0
    · rw [if_pos ht]
      have hd := @dec_ok (wordS y m.pc).1
      by_cases hb : (decS (wordS y m.pc).1).2 = true
      · rw [if_pos hb]
        have ha := act_ok h (hd hb).1
        generalize actS m y (decS (wordS y m.pc).1).1 = r at *
        obtain ⟨to, tt, m'⟩ := r
        obtain ⟨a1, a2, a3, ⟨y', a4, a5⟩, a6, a7, a8, a9⟩ := ha
        refine ⟨⟨y', ⟨a4.mem, a4.ok, a4.s, ?_, a4.inw, a2, a3⟩, a5⟩, a8, fun hn => absurd h0 hn, fun hgt => ?_⟩
        · show W (if tt ≤ 1 then to else m.pc)
          split
          · exact a1
          · exact h.pc
        · have hgt : tt > 1 := hgt
          have e : m' = m := a9 hgt
          show ({ m' with status := tt, pc := if tt ≤ 1 then to else m.pc } : Smachine_Machine) = { m with status := tt }
          rw [if_neg (by omega), e]
      · rw [if_neg hb]
        exact ⟨⟨y, ⟨h.mem, h.ok, h.s, h.pc, h.inw, by simp, by simp⟩, rfl⟩, ⟨[], by simp, by simp⟩, fun hn => absurd h0 hn, fun _ => rfl⟩
    · rw [if_neg ht]
      exact ⟨⟨y, ⟨h.mem, h.ok, h.s, h.pc, h.inw, hs.1, hs.2.1⟩, rfl⟩, ⟨[], by simp, by simp⟩, fun hn => absurd h0 hn, fun _ => rfl⟩
  · rw [if_neg h0]
    exact ⟨⟨y, h, rfl⟩, ⟨[], by simp, by simp⟩, fun _ => rfl, fun _ => rfl⟩
end
end Go.Proofs.Ytheccnbamcdpmaa.A06
