/- MachinePorts: the plain law. No condition. -/
import Derived.Test.YtheccnbamcdpmaaB06n
import Derived.Test.YtheccnbamcdpmaaB06k
import Derived.Test.YtheccnbamcdpmaaT06zMachinePorts
namespace Go.Proofs.Ytheccnbamcdpmaa.T06
set_option linter.unusedVariables false
set_option linter.unusedSimpArgs false
open Go Go.RowKit Go.Proofs.Ytheccnbamcdpmaa.E Go.Proofs.Ytheccnbamcdpmaa.A06
abbrev bkI : Sapi_Instr := ⟨7, 7, 0, 0, 0, -3, false⟩
theorem bkI_may : MayP bkI := by unfold MayP; simp
theorem taken7 (s : Sapi_Regs) : takenS s 7 = true := by unfold takenS condS; simp
/-- The three words of the program. -/
structure Prog3 (y : Smemory_Memory) : Prop where
  n : y.n = 3
  w0 : vx 0 y.w 0 = (wordN (mI 0 1 0 (-64)) : Int)
  w1 : vx 0 y.w 1 = (wordN (mI 2 1 0 (-60)) : Int)
  w2 : vx 0 y.w 2 = (wordN bkI : Int)
theorem st_at {m : Smachine_Machine} {y : Smemory_Memory} {i : Sapi_Instr} {k : Nat} (hm : m.Memory = some y) (h0 : m.status = 0) (hp : m.pc = ((4 * k : Nat) : Int)) (hk : (k : Int) < y.n) (hw : vx 0 y.w k = (wordN i : Int)) (hi : MayP i) :
    stp m = { (actS m y i).2.2 with status := (actS m y i).2.1, pc := if (actS m y i).2.1 ≤ 1 then (actS m y i).1 else m.pc } := by
  unfold stp
  rw [hm]
  exact step_at h0 (by rw [hp, word_at hk, hw]) hi
section
variable {y : Smemory_Memory} {s : Sapi_Regs} {inp out : List Int}
theorem ports3 (hy : Prog3 y) (hs : OkR s) (h0 : vx 0 s.R 0 = 0) (hi : ∀ z ∈ inp, W z) :
    ∃ s', OkR s' ∧ vx 0 s'.R 0 = 0 ∧ stp (stp (stp ⟨some y, s, 0, 0, inp, out⟩)) = ⟨some y, s', 0, 0, inp.tail, out ++ [inp.headD 0]⟩ := by
  have hn := hy.n
  have a1 : wu32 ((0 : Int) + wu32 (-64)) = 4294967232 := by decide
  have a2 : wu32 ((0 : Int) + wu32 (-60)) = 4294967236 := by decide
  have hW : W (inp.headD 0) := by
    cases inp with
    | nil => exact ⟨by simp, by simp⟩
    | cons z r => exact hi z (by simp)
  have hs1 := set_ok (A := 1) hs (by omega) (by omega) hW
  have hs2 : OkR (setA s 1 (inp.headD 0)) := ⟨hs1.r, hs1.h⟩
  have e1 : stp ⟨some y, s, 0, 0, inp, out⟩ = ⟨some y, setA s 1 (inp.headD 0), 4, 0, inp.tail, out⟩ := by
    have el : loadS ⟨some y, s, 0, 0, inp, out⟩ y 0 (wu32 (vx 0 s.R 0 + wu32 (-64))) = (inp.headD 0, 0, ⟨some y, s, 0, 0, inp.tail, out⟩) := by
      rw [h0, a1]
      unfold loadS
      rw [if_neg (by decide), if_pos rfl]
      cases inp <;> rfl
    have ha : actS ⟨some y, s, 0, 0, inp, out⟩ y (mI 0 1 0 (-64)) = (4, 0, ⟨some y, setA s 1 (inp.headD 0), 0, 0, inp.tail, out⟩) := by
      unfold actS
      rw [if_pos (by rfl), if_neg (show ¬ (0 : Int) ≥ 2 by decide)]
      show (if (loadS ⟨some y, s, 0, 0, inp, out⟩ y 0 (wu32 (vx 0 s.R 0 + wu32 (-64)))).2.1 = 0 then _ else _) = _
      rw [if_pos (by rw [el])]
      show (_, _, ({ (loadS ⟨some y, s, 0, 0, inp, out⟩ y 0 (wu32 (vx 0 s.R 0 + wu32 (-64)))).2.2 with s := setA s 1 (loadS ⟨some y, s, 0, 0, inp, out⟩ y 0 (wu32 (vx 0 s.R 0 + wu32 (-64)))).1 } : Smachine_Machine)) = _
      rw [el]
      rfl
    rw [st_at (m := ⟨some y, s, 0, 0, inp, out⟩) (k := 0) rfl rfl rfl (by omega) hy.w0 (mI_may (by omega) (by omega) (by omega) (by omega)), ha]
    rfl
  have hR0 : vx 0 (setA s 1 (inp.headD 0)).R 0 = 0 := by
    show vx 0 (vset s.R 1 (inp.headD 0)) 0 = 0
    rw [vx_vset (by omega), if_neg (by omega)]; exact h0
  have hR1 : vx 0 (setA s 1 (inp.headD 0)).R 1 = inp.headD 0 := by
    show vx 0 (vset s.R 1 (inp.headD 0)) 1 = _
    rw [vx_vset (by omega), if_pos rfl]
  generalize setA s 1 (inp.headD 0) = t at *
  have e2 : stp ⟨some y, t, 4, 0, inp.tail, out⟩ = ⟨some y, t, 8, 0, inp.tail, out ++ [inp.headD 0]⟩ := by
    have ha : actS ⟨some y, t, 4, 0, inp.tail, out⟩ y (mI 2 1 0 (-60)) = (8, 0, ⟨some y, t, 4, 0, inp.tail, out ++ [inp.headD 0]⟩) := by
      unfold actS
      rw [if_pos (by rfl), if_pos (show (2 : Int) ≥ 2 by decide)]
      show (_, (storeS ⟨some y, t, 4, 0, inp.tail, out⟩ y 2 (wu32 (vx 0 t.R 0 + wu32 (-60))) (vx 0 t.R 1)).1, (storeS ⟨some y, t, 4, 0, inp.tail, out⟩ y 2 (wu32 (vx 0 t.R 0 + wu32 (-60))) (vx 0 t.R 1)).2) = _
      rw [hR0, a2, hR1]
      unfold storeS
      rw [if_neg (by decide), if_pos rfl]
      rfl
    rw [st_at (m := ⟨some y, t, 4, 0, inp.tail, out⟩) (k := 1) rfl rfl rfl (by omega) hy.w1 (mI_may (by omega) (by omega) (by omega) (by omega)), ha]
    rfl
  have e3 : stp ⟨some y, t, 8, 0, inp.tail, out ++ [inp.headD 0]⟩ = ⟨some y, t, 0, 0, inp.tail, out ++ [inp.headD 0]⟩ := by
    have ha : actS ⟨some y, t, 8, 0, inp.tail, out ++ [inp.headD 0]⟩ y bkI = (0, 0, ⟨some y, t, 8, 0, inp.tail, out ++ [inp.headD 0]⟩) := by
      unfold actS
      rw [if_neg (show ¬ (7 : Int) = 5 by decide), if_pos (.inr rfl)]
      show (if takenS t 7 = true then _ else _) = _
      rw [if_pos (taken7 t), if_neg (show ¬ false = true by decide)]
      rfl
    rw [st_at (m := ⟨some y, t, 8, 0, inp.tail, out ++ [inp.headD 0]⟩) (k := 2) rfl rfl rfl (by omega) hy.w2 bkI_may, ha]
    rfl
  exact ⟨t, hs2, hR0, by rw [e1, e2, e3]⟩
end
theorem ports_run {y : Smemory_Memory} (hy : Prog3 y) : ∀ (inp : List Int) (s : Sapi_Regs) (out : List Int), OkR s → vx 0 s.R 0 = 0 → (∀ z ∈ inp, W z) →
    ∃ s', itS (3 * inp.length + 6) ⟨some y, s, 0, 0, inp, out⟩ = ⟨some y, s', 0, 0, [], out ++ inp ++ [0, 0]⟩
  | [], s, out, hs, h0, hi => by
    obtain ⟨s1, k1, k2, k3⟩ := ports3 (out := out) hy hs h0 hi
    obtain ⟨s2, k4, k5, k6⟩ := ports3 (inp := []) (out := out ++ [0]) hy k1 k2 (by simp)
    refine ⟨s2, ?_⟩
    show stp (stp (stp (stp (stp (stp ⟨some y, s, 0, 0, [], out⟩))))) = _
    rw [k3]
    refine k6.trans ?_
    simp
  | z :: r, s, out, hs, h0, hi => by
    obtain ⟨s1, k1, k2, k3⟩ := ports3 (out := out) hy hs h0 hi
    obtain ⟨s2, k4⟩ := ports_run hy r s1 (out ++ [z]) k1 k2 (fun w hw => hi w (List.mem_cons_of_mem _ hw))
    refine ⟨s2, ?_⟩
    rw [show 3 * (z :: r).length + 6 = 3 + (3 * r.length + 6) by simp only [List.length_cons]; omega, itS_add]
    show itS _ (stp (stp (stp ⟨some y, s, 0, 0, z :: r, out⟩))) = _
    rw [k3]
    refine k4.trans ?_
    simp
/-- An instruction that traps at the memory of three words. -/
def Traps (i : Sapi_Instr) : Prop := ∀ (m : Smachine_Machine) (y : Smemory_Memory), m.Memory = some y → y.n = 3 → vx 0 m.s.R 0 = 0 → ∃ to, actS m y i = (to, 3, m)
theorem traps_ld {op n a : Int} (ho : op = 0 ∨ op = 1) (ha : wu32 ((0 : Int) + wu32 n) = a) (h1 : a ≠ 4294967232 ∨ op = 1) (h2 : a % 4 = 0) (h3 : a ≥ 4294967232) : Traps (mI op 0 0 n) := by
  intro m y hm hn h0
  have el : loadS m y op (wu32 (vx 0 m.s.R 0 + wu32 n)) = (0, 3, m) := by
    rw [h0, ha]
    unfold loadS
    by_cases h : op = 1
    · rw [if_pos h]
      unfold byteS
      rw [if_neg (by omega)]
      rfl
    · rw [if_neg h, if_neg (by omega)]
      unfold wordS
      rw [if_pos h2, if_neg (by omega)]
  refine ⟨wu32 (m.pc + 4), ?_⟩
  unfold actS
  rw [if_pos (by rfl), if_neg (show ¬ op ≥ 2 by omega)]
  show (if (loadS m y op (wu32 (vx 0 m.s.R 0 + wu32 n))).2.1 = 0 then _ else (_, (loadS m y op (wu32 (vx 0 m.s.R 0 + wu32 n))).2.1, m)) = _
  rw [el, if_neg (show ¬ (3 : Int) = 0 by decide)]
theorem traps_st {op n a : Int} (ho : op = 2 ∨ op = 3) (ha : wu32 ((0 : Int) + wu32 n) = a) (h1 : op = 2 → a ≠ 4294967236 ∧ a ≠ 4294967240) (h2 : a % 4 = 0) (h3 : a ≥ 4294967232) : Traps (mI op 0 0 n) := by
  intro m y hm hn h0
  have el : storeS m y op (wu32 (vx 0 m.s.R 0 + wu32 n)) (vx 0 m.s.R 0) = (3, m) := by
    rw [h0, ha]
    unfold storeS
    by_cases h : op = 3
    · rw [if_pos h]
      unfold setbS
      rw [if_neg (by omega)]
      show ((3 : Int), ({ m with Memory := some y } : Smachine_Machine)) = _
      rw [mem_same hm]
    · have h1 := h1 (by omega)
      rw [if_neg h, if_neg h1.1, if_neg h1.2]
      unfold setwS
      rw [if_pos h2, if_neg (by omega)]
      show ((3 : Int), ({ m with Memory := some y } : Smachine_Machine)) = _
      rw [mem_same hm]
  refine ⟨wu32 (m.pc + 4), ?_⟩
  unfold actS
  rw [if_pos (by rfl), if_pos (show op ≥ 2 by omega)]
  show (_, (storeS m y op (wu32 (vx 0 m.s.R 0 + wu32 n)) (vx 0 m.s.R 0)).1, (storeS m y op (wu32 (vx 0 m.s.R 0 + wu32 n)) (vx 0 m.s.R 0)).2) = _
  rw [el]
theorem regs0_ok : OkR regs0 := ⟨fun j j0 j1 => by show W (vx 0 (Vector.replicate 16 0) j.toNat); rw [vx_get (by omega)]; simp; exact ⟨by omega, by omega⟩, ⟨by simp, by simp⟩⟩
theorem regs0_0 : vx 0 regs0.R 0 = 0 := by show vx 0 (Vector.replicate 16 0) 0 = 0; rw [vx_get (by omega)]; simp
/-- One word placed at 0, and a step of it. -/
theorem one_placed {m : Smachine_Machine} {y : Smemory_Memory} {i : Sapi_Instr} (hm : OkMa m y) (h3 : y.n = 3) (h : MayP i) :
    memory_Memory_Place y 0 [(wordN i : Int)] = some (0, { y with w := vcopy y.w 0 [(wordN i : Int)] }) ∧
    OkMa ⟨some { y with w := vcopy y.w 0 [(wordN i : Int)] }, regs0, 0, 0, m.in', m.out⟩ { y with w := vcopy y.w 0 [(wordN i : Int)] } ∧
    stepS ⟨some { y with w := vcopy y.w 0 [(wordN i : Int)] }, regs0, 0, 0, m.in', m.out⟩ { y with w := vcopy y.w 0 [(wordN i : Int)] } =
      { (actS ⟨some { y with w := vcopy y.w 0 [(wordN i : Int)] }, regs0, 0, 0, m.in', m.out⟩ { y with w := vcopy y.w 0 [(wordN i : Int)] } i).2.2 with
        status := (actS ⟨some { y with w := vcopy y.w 0 [(wordN i : Int)] }, regs0, 0, 0, m.in', m.out⟩ { y with w := vcopy y.w 0 [(wordN i : Int)] } i).2.1
        pc := if (actS ⟨some { y with w := vcopy y.w 0 [(wordN i : Int)] }, regs0, 0, 0, m.in', m.out⟩ { y with w := vcopy y.w 0 [(wordN i : Int)] } i).2.1 ≤ 1 then (actS ⟨some { y with w := vcopy y.w 0 [(wordN i : Int)] }, regs0, 0, 0, m.in', m.out⟩ { y with w := vcopy y.w 0 [(wordN i : Int)] } i).1 else 0 } := by
  have hy := vcopy_ok (a := 0) hm.ok (l := [(wordN i : Int)]) (fun n hn => by rw [List.mem_singleton.1 hn]; exact W_word h)
  refine ⟨place_ok (by omega) (by rw [h3]; show (0 : Int) + (1 : Nat) ≤ 3; omega) (by omega), ⟨rfl, hy, regs0_ok, ⟨by simp, by simp⟩, hm.inw, by simp, by simp⟩, ?_⟩
  refine step_at (m := ⟨some { y with w := vcopy y.w 0 [(wordN i : Int)] }, regs0, 0, 0, m.in', m.out⟩) rfl ?_ h
  have := word_at (y := { y with w := vcopy y.w 0 [(wordN i : Int)] }) (k := 0) (by show (0 : Int) < y.n; omega)
  refine this.trans ?_
  rw [vx_vcopy (by omega)]
  rfl
theorem odd_step {m : Smachine_Machine} {y : Smemory_Memory} {l : List Int} {i : Sapi_Instr} {k : Int} (hk : 0 ≤ k ∧ k ≤ 10) (hm : OkMa m y) (h3 : y.n = 3) (ho : m.out.length = l.length) (hl : l.length ≤ 100) (h : MayP i) (ht : Traps i) (a b c d e : Sapi_Instr) :
    ∃ m' y', OkMa m' y' ∧ y'.n = 3 ∧ m'.out.length = l.length ∧ rivetlaw06_MachinePorts.j7 m k a b c d e l (wordN i : Int) 0 = some (.inl (a, b, c, d, e, m', k + 1)) := by
  obtain ⟨g1, g2, g3⟩ := one_placed hm h3 h
  obtain ⟨to, ha⟩ := ht ⟨some { y with w := vcopy y.w 0 [(wordN i : Int)] }, regs0, 0, 0, m.in', m.out⟩ _ rfl h3 regs0_0
  rw [ha] at g3
  obtain ⟨⟨y', q1, q2⟩, _, _, _⟩ := step_ok g2
  refine ⟨_, y', q1, q2.trans h3, ?_, ?_⟩
  · rw [g3]; exact ho
  · unfold rivetlaw06_MachinePorts.j7
    rw [hm.mem, Option.bind_some, g1, Option.bind_some]
    simp only
    rw [mstart_is rfl, Option.bind_some]
    simp only [if_true]
    show (machine_Machine_Step ⟨some { y with w := vcopy y.w 0 [(wordN i : Int)] }, regs0, 0, 0, m.in', m.out⟩).bind _ = _
    rw [step_is g2 (by show m.out.length ≤ 1000000; omega), Option.bind_some]
    generalize hM : stepS ⟨some { y with w := vcopy y.w 0 [(wordN i : Int)] }, regs0, 0, 0, m.in', m.out⟩ { y with w := vcopy y.w 0 [(wordN i : Int)] } = M at *
    have hs : M.status = 3 := by rw [g3]
    have hoM : M.out = m.out := by rw [g3]
    simp only
    rw [if_pos hs]
    simp only [machine_Machine_Out]
    rw [clone_is (by rw [hoM]; omega)]
    simp only [Option.bind_some]
    show rivetlaw06_MachinePorts.j8 k a b c d e M ((M.out.length : Int) != (l.length : Int)) = _
    rw [hoM, ho]
    unfold rivetlaw06_MachinePorts.j8
    rw [if_neg (by simp)]
    show rivetlaw06_MachinePorts.j9 k a b c d e M = _
    unfold rivetlaw06_MachinePorts.j9
    rw [w64s (by omega) (by omega)]
    rfl
section
variable {a b c d e : Sapi_Instr} {m : Smachine_Machine} {y : Smemory_Memory} {l : List Int}
theorem po0 (hm : OkMa m y) (h3 : y.n = 3) (ho : m.out.length = l.length) (hl : l.length ≤ 100) (h : MayP { a with Kind := 5 }) (ht : Traps { a with Kind := 5 }) :
    ∃ m' y', OkMa m' y' ∧ y'.n = 3 ∧ m'.out.length = l.length ∧ rivetlaw06_MachinePorts.b138 l a b c d e m 0 = some (.inl ({ a with Kind := 5 }, b, c, d, e, m', 1)) := by
  obtain ⟨m', y', k1, k2, k3, k4⟩ := odd_step (i := { a with Kind := 5 }) (k := 0) (by omega) hm h3 ho hl h ht { a with Kind := 5 } b c d e
  refine ⟨m', y', k1, k2, k3, ?_⟩
  unfold rivetlaw06_MachinePorts.b138
  rw [if_pos (by decide), if_pos (by decide), if_pos rfl]
  show rivetlaw06_MachinePorts.j6 0 m l { a with Kind := 5 } b c d e = _
  unfold rivetlaw06_MachinePorts.j6
  rw [if_pos (by decide), if_pos rfl]
  show (isa_Encode { a with Kind := 5 }).bind _ = _
  rw [enc_is, if_pos h, Option.bind_some]
  exact k4
theorem po1 (hm : OkMa m y) (h3 : y.n = 3) (ho : m.out.length = l.length) (hl : l.length ≤ 100) (h : MayP { b with Kind := 5 }) (ht : Traps { b with Kind := 5 }) :
    ∃ m' y', OkMa m' y' ∧ y'.n = 3 ∧ m'.out.length = l.length ∧ rivetlaw06_MachinePorts.b138 l a b c d e m 1 = some (.inl (a, { b with Kind := 5 }, c, d, e, m', 2)) := by
  obtain ⟨m', y', k1, k2, k3, k4⟩ := odd_step (i := { b with Kind := 5 }) (k := 1) (by omega) hm h3 ho hl h ht a { b with Kind := 5 } c d e
  refine ⟨m', y', k1, k2, k3, ?_⟩
  unfold rivetlaw06_MachinePorts.b138
  rw [if_pos (by decide), if_pos (by decide), if_neg (by decide), if_pos rfl]
  show rivetlaw06_MachinePorts.j6 1 m l a { b with Kind := 5 } c d e = _
  unfold rivetlaw06_MachinePorts.j6
  rw [if_pos (by decide), if_neg (by decide), if_pos rfl]
  show (isa_Encode { b with Kind := 5 }).bind _ = _
  rw [enc_is, if_pos h, Option.bind_some]
  exact k4
theorem po2 (hm : OkMa m y) (h3 : y.n = 3) (ho : m.out.length = l.length) (hl : l.length ≤ 100) (h : MayP { c with Kind := 5 }) (ht : Traps { c with Kind := 5 }) :
    ∃ m' y', OkMa m' y' ∧ y'.n = 3 ∧ m'.out.length = l.length ∧ rivetlaw06_MachinePorts.b138 l a b c d e m 2 = some (.inl (a, b, { c with Kind := 5 }, d, e, m', 3)) := by
  obtain ⟨m', y', k1, k2, k3, k4⟩ := odd_step (i := { c with Kind := 5 }) (k := 2) (by omega) hm h3 ho hl h ht a b { c with Kind := 5 } d e
  refine ⟨m', y', k1, k2, k3, ?_⟩
  unfold rivetlaw06_MachinePorts.b138
  rw [if_pos (by decide), if_pos (by decide), if_neg (by decide), if_neg (by decide), if_pos rfl]
  show rivetlaw06_MachinePorts.j6 2 m l a b { c with Kind := 5 } d e = _
  unfold rivetlaw06_MachinePorts.j6
  rw [if_pos (by decide), if_neg (by decide), if_neg (by decide), if_pos rfl]
  show (isa_Encode { c with Kind := 5 }).bind _ = _
  rw [enc_is, if_pos h, Option.bind_some]
  exact k4
theorem po3 (hm : OkMa m y) (h3 : y.n = 3) (ho : m.out.length = l.length) (hl : l.length ≤ 100) (h : MayP { d with Kind := 5 }) (ht : Traps { d with Kind := 5 }) :
    ∃ m' y', OkMa m' y' ∧ y'.n = 3 ∧ m'.out.length = l.length ∧ rivetlaw06_MachinePorts.b138 l a b c d e m 3 = some (.inl (a, b, c, { d with Kind := 5 }, e, m', 4)) := by
  obtain ⟨m', y', k1, k2, k3, k4⟩ := odd_step (i := { d with Kind := 5 }) (k := 3) (by omega) hm h3 ho hl h ht a b c { d with Kind := 5 } e
  refine ⟨m', y', k1, k2, k3, ?_⟩
  unfold rivetlaw06_MachinePorts.b138
  rw [if_pos (by decide), if_pos (by decide), if_neg (by decide), if_neg (by decide), if_neg (by decide), if_pos rfl]
  show rivetlaw06_MachinePorts.j6 3 m l a b c { d with Kind := 5 } e = _
  unfold rivetlaw06_MachinePorts.j6
  rw [if_pos (by decide), if_neg (by decide), if_neg (by decide), if_neg (by decide), if_pos rfl]
  show (isa_Encode { d with Kind := 5 }).bind _ = _
  rw [enc_is, if_pos h, Option.bind_some]
  exact k4
theorem po4 (hm : OkMa m y) (h3 : y.n = 3) (ho : m.out.length = l.length) (hl : l.length ≤ 100) (h : MayP { e with Kind := 5 }) (ht : Traps { e with Kind := 5 }) :
    ∃ m' y', OkMa m' y' ∧ y'.n = 3 ∧ m'.out.length = l.length ∧ rivetlaw06_MachinePorts.b138 l a b c d e m 4 = some (.inl (a, b, c, d, { e with Kind := 5 }, m', 5)) := by
  obtain ⟨m', y', k1, k2, k3, k4⟩ := odd_step (i := { e with Kind := 5 }) (k := 4) (by omega) hm h3 ho hl h ht a b c d { e with Kind := 5 }
  refine ⟨m', y', k1, k2, k3, ?_⟩
  unfold rivetlaw06_MachinePorts.b138
  rw [if_pos (by decide), if_pos (by decide), if_neg (by decide), if_neg (by decide), if_neg (by decide), if_neg (by decide), if_pos rfl]
  show rivetlaw06_MachinePorts.j6 4 m l a b c d { e with Kind := 5 } = _
  unfold rivetlaw06_MachinePorts.j6
  rw [if_pos (by decide), if_neg (by decide), if_neg (by decide), if_neg (by decide), if_neg (by decide), if_pos rfl]
  show (isa_Encode { e with Kind := 5 }).bind _ = _
  rw [enc_is, if_pos h, Option.bind_some]
  exact k4
theorem po5 : rivetlaw06_MachinePorts.b138 l a b c d e m 5 = some (.inr (.done (a, b, c, d, e, m))) := by
  unfold rivetlaw06_MachinePorts.b138
  rw [if_neg (by decide)]
  rfl
end
theorem ports_j5 {m : Smachine_Machine} {y : Smemory_Memory} {l : List Int} (hm : OkMa m y) (h3 : y.n = 3) (ho : m.out.length = l.length) (hl : l.length ≤ 100) : rivetlaw06_MachinePorts.j5 l m = some true := by
  obtain ⟨m1, y1, a1, a2, a3, a4⟩ := po0 (a := ⟨0, 0, 0, 0, 0, -60, false⟩) (b := ⟨0, 2, 0, 0, 0, -64, false⟩) (c := ⟨0, 1, 0, 0, 0, -64, false⟩) (d := ⟨0, 3, 0, 0, 0, -60, false⟩) (e := ⟨0, 0, 0, 0, 0, -56, false⟩) hm h3 ho hl (mI_may (op := 0) (a := 0) (b := 0) (n := -60) (by omega) (by omega) (by omega) (by omega)) (traps_ld (op := 0) (n := -60) (.inl rfl) rfl (by decide) (by decide) (by decide))
  obtain ⟨m2, y2, b1, b2, b3, b4⟩ := po1 (a := mI 0 0 0 (-60)) (b := ⟨0, 2, 0, 0, 0, -64, false⟩) (c := ⟨0, 1, 0, 0, 0, -64, false⟩) (d := ⟨0, 3, 0, 0, 0, -60, false⟩) (e := ⟨0, 0, 0, 0, 0, -56, false⟩) a1 a2 a3 hl (mI_may (op := 2) (a := 0) (b := 0) (n := -64) (by omega) (by omega) (by omega) (by omega)) (traps_st (op := 2) (n := -64) (.inl rfl) rfl (by decide) (by decide) (by decide))
  obtain ⟨m3, y3, c1, c2, c3, c4⟩ := po2 (a := mI 0 0 0 (-60)) (b := mI 2 0 0 (-64)) (c := ⟨0, 1, 0, 0, 0, -64, false⟩) (d := ⟨0, 3, 0, 0, 0, -60, false⟩) (e := ⟨0, 0, 0, 0, 0, -56, false⟩) b1 b2 b3 hl (mI_may (op := 1) (a := 0) (b := 0) (n := -64) (by omega) (by omega) (by omega) (by omega)) (traps_ld (op := 1) (n := -64) (.inr rfl) rfl (by decide) (by decide) (by decide))
  obtain ⟨m4, y4, d1, d2, d3, d4⟩ := po3 (a := mI 0 0 0 (-60)) (b := mI 2 0 0 (-64)) (c := mI 1 0 0 (-64)) (d := ⟨0, 3, 0, 0, 0, -60, false⟩) (e := ⟨0, 0, 0, 0, 0, -56, false⟩) c1 c2 c3 hl (mI_may (op := 3) (a := 0) (b := 0) (n := -60) (by omega) (by omega) (by omega) (by omega)) (traps_st (op := 3) (n := -60) (.inr rfl) rfl (by decide) (by decide) (by decide))
  obtain ⟨m5, y5, e1, e2, e3, e4⟩ := po4 (a := mI 0 0 0 (-60)) (b := mI 2 0 0 (-64)) (c := mI 1 0 0 (-64)) (d := mI 3 0 0 (-60)) (e := ⟨0, 0, 0, 0, 0, -56, false⟩) d1 d2 d3 hl (mI_may (op := 0) (a := 0) (b := 0) (n := -56) (by omega) (by omega) (by omega) (by omega)) (traps_ld (op := 0) (n := -56) (.inl rfl) rfl (by decide) (by decide) (by decide))
  have hloop : loopO (fun (σ : Sapi_Instr × Sapi_Instr × Sapi_Instr × Sapi_Instr × Sapi_Instr × Smachine_Machine × Int) => rivetlaw06_MachinePorts.b138 l σ.1 σ.2.1 σ.2.2.1 σ.2.2.2.1 σ.2.2.2.2.1 σ.2.2.2.2.2.1 σ.2.2.2.2.2.2) ((⟨0, 0, 0, 0, 0, -60, false⟩ : Sapi_Instr), (⟨0, 2, 0, 0, 0, -64, false⟩ : Sapi_Instr), (⟨0, 1, 0, 0, 0, -64, false⟩ : Sapi_Instr), (⟨0, 3, 0, 0, 0, -60, false⟩ : Sapi_Instr), (⟨0, 0, 0, 0, 0, -56, false⟩ : Sapi_Instr), m, 0) =
      some (.done (mI 0 0 0 (-60), mI 2 0 0 (-64), mI 1 0 0 (-64), mI 3 0 0 (-60), mI 0 0 0 (-56), m5)) := by
    rw [loopO_next a4, loopO_next b4, loopO_next c4, loopO_next d4, loopO_next e4]
    exact loopO_done po5
  unfold rivetlaw06_MachinePorts.j5
  show Option.bind (loopO _ ((⟨0, 0, 0, 0, 0, -60, false⟩ : Sapi_Instr), (⟨0, 2, 0, 0, 0, -64, false⟩ : Sapi_Instr), (⟨0, 1, 0, 0, 0, -64, false⟩ : Sapi_Instr), (⟨0, 3, 0, 0, 0, -60, false⟩ : Sapi_Instr), (⟨0, 0, 0, 0, 0, -56, false⟩ : Sapi_Instr), m, 0)) _ = _
  rw [hloop, Option.bind_some]
  show rivetlaw06_MachinePorts.j10 _ _ _ _ _ m5 = _
  have hi := mI_may (op := 2) (a := 1) (b := 0) (n := -56) (by omega) (by omega) (by omega) (by omega)
  obtain ⟨g1, g2, g3⟩ := one_placed e1 e2 hi
  unfold rivetlaw06_MachinePorts.j10
  rw [enc_is, if_pos hi, Option.bind_some]
  simp only
  rw [e1.mem, Option.bind_some, g1, Option.bind_some]
  simp only
  rw [mstart_is rfl, Option.bind_some]
  show (machine_Machine_Step ⟨some { y5 with w := vcopy y5.w 0 [(wordN (mI 2 1 0 (-56)) : Int)] }, regs0, 0, 0, m5.in', m5.out⟩).bind _ = _
  rw [step_is g2 (by show m5.out.length ≤ 1000000; omega), Option.bind_some]
  have a1' : wu32 ((0 : Int) + wu32 (-56)) = 4294967240 := by decide
  have ha : actS ⟨some { y5 with w := vcopy y5.w 0 [(wordN (mI 2 1 0 (-56)) : Int)] }, regs0, 0, 0, m5.in', m5.out⟩ { y5 with w := vcopy y5.w 0 [(wordN (mI 2 1 0 (-56)) : Int)] } (mI 2 1 0 (-56)) = (4, 1, ⟨some { y5 with w := vcopy y5.w 0 [(wordN (mI 2 1 0 (-56)) : Int)] }, regs0, 0, 0, m5.in', m5.out⟩) := by
    unfold actS
    rw [if_pos (by rfl), if_pos (show (2 : Int) ≥ 2 by decide)]
    show (_, (storeS ⟨some { y5 with w := vcopy y5.w 0 [(wordN (mI 2 1 0 (-56)) : Int)] }, regs0, 0, 0, m5.in', m5.out⟩ _ 2 (wu32 (vx 0 regs0.R 0 + wu32 (-56))) (vx 0 regs0.R 1)).1, (storeS ⟨some { y5 with w := vcopy y5.w 0 [(wordN (mI 2 1 0 (-56)) : Int)] }, regs0, 0, 0, m5.in', m5.out⟩ _ 2 (wu32 (vx 0 regs0.R 0 + wu32 (-56))) (vx 0 regs0.R 1)).2) = _
    rw [regs0_0, a1']
    unfold storeS
    rw [if_neg (by decide), if_neg (by decide), if_pos rfl]
    rfl
  rw [ha] at g3
  obtain ⟨⟨y6, q1, q2⟩, _, q3, _⟩ := step_ok g2
  rw [g3] at q1 ⊢
  show (if (1 : Int) = 1 then _ else _) = _
  rw [if_pos rfl]
  simp only [machine_Machine_PC, Option.bind_some]
  show (if (4 : Int) = 4 then _ else _) = _
  rw [if_pos rfl, step_is q1 (by show m5.out.length ≤ 1000000; omega), Option.bind_some]
  have hst := (step_ok q1).rest (by show ¬ (1 : Int) = 0; decide)
  rw [hst]
  rfl
theorem Pure.MachinePorts (l0 : List Int) : (∀ n ∈ l0, In .u32 n) → l0.length * 4 ≤ 140737488351232 → rivetlaw06_MachinePorts l0 = some true := by
  intro h0 h1
  have m0 := mI_may (op := 0) (a := 1) (b := 0) (n := -64) (by omega) (by omega) (by omega) (by omega)
  have m1 := mI_may (op := 2) (a := 1) (b := 0) (n := -60) (by omega) (by omega) (by omega) (by omega)
  unfold rivetlaw06_MachinePorts
  rw [shown_is, Option.bind_some, enc_is, if_pos m0, Option.bind_some]
  simp only
  rw [enc_is, if_pos m1, Option.bind_some]
  simp only
  rw [enc_is, if_pos bkI_may, Option.bind_some]
  simp only
  rw [few_is, Option.bind_some]
  have hW : ∀ z ∈ l0.take 20, W z := fun z hz => (h0 z (List.mem_of_mem_take hz)).u32
  have h20 : (l0.take 20).length ≤ 20 := by simp; omega
  generalize l0.take 20 = l at *
  rw [mnew_ok (by omega) (by omega) (by omega), Option.bind_some]
  simp only [if_true, Option.bind_some]
  generalize hL : [(wordN (mI 0 1 0 (-64)) : Int), (wordN (mI 2 1 0 (-60)) : Int), (wordN bkI : Int)] = L
  have hL3 : L.length = 3 := by rw [← hL]; rfl
  have hLW : ∀ z ∈ L, W z := by
    intro z hz
    rw [← hL] at hz
    simp only [List.mem_cons, List.not_mem_nil, or_false] at hz
    rcases hz with rfl | rfl | rfl
    · exact W_word m0
    · exact W_word m1
    · exact W_word bkI_may
  rw [place_ok (by omega) (by show (0 : Int) + (L.length : Int) ≤ 3; omega) (by show (3 : Int) ≤ 4096; omega), Option.bind_some]
  show rivetlaw06_MachinePorts.j2 l ⟨some ⟨vcopy (Vector.replicate 4096 0) (0 : Int).toNat L, 3⟩, regs0, 0, 0, l, []⟩ (0 != 0) = _
  have hy := vcopy_ok (a := (0 : Int).toNat) (mem0_ok (n := 3) (by omega) (by omega)) hLW
  have hw : ∀ j : Nat, j < 3 → vx 0 (vcopy (Vector.replicate 4096 0) (0 : Int).toNat L) j = L.getD j 0 := fun j hj => by
    rw [vx_vcopy (by omega), if_pos (by rw [hL3]; show 0 ≤ j ∧ j < 0 + 3; omega)]
    rfl
  have hp : Prog3 ⟨vcopy (Vector.replicate 4096 0) (0 : Int).toNat L, 3⟩ := ⟨rfl, (hw 0 (by omega)).trans (by rw [← hL]; rfl), (hw 1 (by omega)).trans (by rw [← hL]; rfl), (hw 2 (by omega)).trans (by rw [← hL]; rfl)⟩
  generalize hY : (⟨vcopy (Vector.replicate 4096 0) (0 : Int).toNat L, 3⟩ : Smemory_Memory) = Y at *
  have hok : OkMa ⟨some Y, regs0, 0, 0, l, []⟩ Y := ⟨rfl, hy, regs0_ok, ⟨by simp, by simp⟩, hW, by simp, by simp⟩
  unfold rivetlaw06_MachinePorts.j2
  rw [if_neg (by simp)]
  unfold rivetlaw06_MachinePorts.j3
  have eN : w64 (w64 (3 * (l.length : Int)) + 6) = ((3 * l.length + 6 : Nat) : Int) := by rw [w64s (x := 3 * (l.length : Int)) (by omega) (by omega), w64s (by omega) (by omega)]; omega
  rw [eN, run_is (n := 3 * l.length + 6) (by unfold mxx; split <;> omega) (by omega) hok (by show 0 + (3 * l.length + 6) ≤ 100000; omega), Option.bind_some]
  obtain ⟨s', hr⟩ := ports_run hp l regs0 [] regs0_ok regs0_0 hW
  obtain ⟨y', k1, k2, k3⟩ := itS_ok (3 * l.length + 6) hok
  rw [hr] at k1 ⊢
  simp only [if_true, List.nil_append, machine_Machine_Out]
  rw [clone_is (by simp; omega)]
  simp only [Option.bind_some]
  have eo : ((l ++ [0, 0]).length : Int) = (l.length : Int) + 2 := by simp
  have e2 : w64 ((l.length : Int) + 2) = (l.length : Int) + 2 := w64s (by omega) (by omega)
  have e1 : w64 ((l.length : Int) + 1) = (l.length : Int) + 1 := w64s (by omega) (by omega)
  rw [eo, e2, e1]
  simp only [if_true]
  rw [if_pos ⟨by omega, by omega⟩]
  have et : (l ++ [0, 0]).take ((l.length : Int) : Int).toNat = l := by
    rw [Int.toNat_natCast, List.take_append_of_le_length (Nat.le_refl _), List.take_length]
  rw [et, same32 (by omega), decide_eq_true rfl, Option.bind_some]
  simp only [if_true]
  rw [if_pos ⟨by omega, by omega⟩]
  have i0 : ix (eI .u32).d (l ++ [0, 0]) (l.length : Int) = 0 := by
    rw [ixd, Int.toNat_natCast, List.getD_eq_getElem?_getD, List.getElem?_append_right (Nat.le_refl _), Nat.sub_self]; rfl
  have i1 : ix (eI .u32).d (l ++ [0, 0]) ((l.length : Int) + 1) = 0 := by
    rw [ixd, show ((l.length : Int) + 1).toNat = l.length + 1 by omega, List.getD_eq_getElem?_getD, List.getElem?_append_right (by omega), show l.length + 1 - l.length = 1 by omega]; rfl
  rw [i0, i1, if_pos rfl, if_pos ⟨by omega, by omega⟩]
  unfold rivetlaw06_MachinePorts.j4
  rw [if_neg (by simp)]
  have hn3 : y'.n = 3 := k2.trans hp.n
  exact ports_j5 k1 hn3 rfl (by simp; omega)
end Go.Proofs.Ytheccnbamcdpmaa.T06
