/- MachineMoves: the plain law. No condition. -/
import Derived.Test.YtheccnbamcdpmaaB06n
import Derived.Test.YtheccnbamcdpmaaB06k
import Derived.Test.YtheccnbamcdpmaaT06zMachineMoves
namespace Go.Proofs.Ytheccnbamcdpmaa.T06
set_option linter.unusedVariables false
set_option linter.unusedSimpArgs false
open Go Go.RowKit Go.Proofs.Ytheccnbamcdpmaa.E Go.Proofs.Ytheccnbamcdpmaa.A06
section
variable {a b c d : Sapi_Instr} {l : List Int}
theorem mv0 (h : MayP { a with Kind := 5 }) (hl : l.length ≤ 10) : rivetlaw06_MachineMoves.b28 a b c d l 0 = some (.inl ({ a with Kind := 5 }, b, c, d, l ++ [(wordN { a with Kind := 5 } : Int)], 1)) := by
  unfold rivetlaw06_MachineMoves.b28
  rw [if_pos (by decide), if_pos (by decide), if_pos rfl]
  show rivetlaw06_MachineMoves.j1 0 l { a with Kind := 5 } b c d = _
  unfold rivetlaw06_MachineMoves.j1
  rw [if_pos (by decide), if_pos rfl]
  show (isa_Encode { a with Kind := 5 }).bind _ = _
  rw [enc_is, if_pos h, Option.bind_some]
  show rivetlaw06_MachineMoves.j2 l 0 { a with Kind := 5 } b c d _ 0 = _
  unfold rivetlaw06_MachineMoves.j2
  rw [if_pos rfl, if_pos (by simp only [List.length_singleton]; omega)]
  rfl
theorem mv1 (h : MayP { b with Kind := 5 }) (hl : l.length ≤ 10) : rivetlaw06_MachineMoves.b28 a b c d l 1 = some (.inl (a, { b with Kind := 5 }, c, d, l ++ [(wordN { b with Kind := 5 } : Int)], 2)) := by
  unfold rivetlaw06_MachineMoves.b28
  rw [if_pos (by decide), if_pos (by decide), if_neg (by decide), if_pos rfl]
  show rivetlaw06_MachineMoves.j1 1 l a { b with Kind := 5 } c d = _
  unfold rivetlaw06_MachineMoves.j1
  rw [if_pos (by decide), if_neg (by decide), if_pos rfl]
  show (isa_Encode { b with Kind := 5 }).bind _ = _
  rw [enc_is, if_pos h, Option.bind_some]
  show rivetlaw06_MachineMoves.j2 l 1 a { b with Kind := 5 } c d _ 0 = _
  unfold rivetlaw06_MachineMoves.j2
  rw [if_pos rfl, if_pos (by simp only [List.length_singleton]; omega)]
  rfl
theorem mv2 (h : MayP { c with Kind := 5 }) (hl : l.length ≤ 10) : rivetlaw06_MachineMoves.b28 a b c d l 2 = some (.inl (a, b, { c with Kind := 5 }, d, l ++ [(wordN { c with Kind := 5 } : Int)], 3)) := by
  unfold rivetlaw06_MachineMoves.b28
  rw [if_pos (by decide), if_pos (by decide), if_neg (by decide), if_neg (by decide), if_pos rfl]
  show rivetlaw06_MachineMoves.j1 2 l a b { c with Kind := 5 } d = _
  unfold rivetlaw06_MachineMoves.j1
  rw [if_pos (by decide), if_neg (by decide), if_neg (by decide), if_pos rfl]
  show (isa_Encode { c with Kind := 5 }).bind _ = _
  rw [enc_is, if_pos h, Option.bind_some]
  show rivetlaw06_MachineMoves.j2 l 2 a b { c with Kind := 5 } d _ 0 = _
  unfold rivetlaw06_MachineMoves.j2
  rw [if_pos rfl, if_pos (by simp only [List.length_singleton]; omega)]
  rfl
theorem mv3 (h : MayP { d with Kind := 5 }) (hl : l.length ≤ 10) : rivetlaw06_MachineMoves.b28 a b c d l 3 = some (.inl (a, b, c, { d with Kind := 5 }, l ++ [(wordN { d with Kind := 5 } : Int)], 4)) := by
  unfold rivetlaw06_MachineMoves.b28
  rw [if_pos (by decide), if_pos (by decide), if_neg (by decide), if_neg (by decide), if_neg (by decide), if_pos rfl]
  show rivetlaw06_MachineMoves.j1 3 l a b c { d with Kind := 5 } = _
  unfold rivetlaw06_MachineMoves.j1
  rw [if_pos (by decide), if_neg (by decide), if_neg (by decide), if_neg (by decide), if_pos rfl]
  show (isa_Encode { d with Kind := 5 }).bind _ = _
  rw [enc_is, if_pos h, Option.bind_some]
  show rivetlaw06_MachineMoves.j2 l 3 a b c { d with Kind := 5 } _ 0 = _
  unfold rivetlaw06_MachineMoves.j2
  rw [if_pos rfl, if_pos (by simp only [List.length_singleton]; omega)]
  rfl
theorem mv4 : rivetlaw06_MachineMoves.b28 a b c d l 4 = some (.inr (.done (a, b, c, d, l))) := by
  unfold rivetlaw06_MachineMoves.b28
  rw [if_neg (by decide)]
  rfl
end
/-- Two steps. -/
theorem run2 {m : Smachine_Machine} {y : Smemory_Memory} (h : OkMa m y) (ho : m.out.length ≤ 100) : machine_Machine_Run m 2 = some ((stp (stp m)).status, stp (stp m)) := run_is (n := 2) (by decide) (by omega) h (by omega)
theorem st_one {m : Smachine_Machine} {y : Smemory_Memory} {i : Sapi_Instr} {k : Nat} (hm : m.Memory = some y) (h0 : m.status = 0) (hp : m.pc = ((4 * k : Nat) : Int)) (hk : (k : Int) < y.n) (hw : vx 0 y.w k = (wordN i : Int)) (hi : MayP i) :
    stp m = { (actS m y i).2.2 with status := (actS m y i).2.1, pc := if (actS m y i).2.1 ≤ 1 then (actS m y i).1 else m.pc } := by
  unfold stp
  rw [hm]
  exact step_at h0 (by rw [hp, word_at hk, hw]) hi
section
variable {m : Smachine_Machine} {y : Smemory_Memory} {a b n t : Int}
theorem act_stw (ht : wu32 (vx 0 m.s.R b.toNat + wu32 n) = t) (h4 : t % 4 = 0) (h0 : 0 ≤ t) (h1 : t < 1000) (hy : t / 4 < y.n) :
    actS m y (mI 2 a b n) = (wu32 (m.pc + 4), 0, { m with Memory := some { y with w := vset y.w (t / 4).toNat (vx 0 m.s.R a.toNat) } }) := by
  unfold actS
  rw [if_pos (by rfl), if_pos (show (2 : Int) ≥ 2 by decide)]
  show (wu32 (m.pc + 4), (storeS m y 2 (wu32 (vx 0 m.s.R b.toNat + wu32 n)) _).1, (storeS m y 2 (wu32 (vx 0 m.s.R b.toNat + wu32 n)) _).2) = _
  rw [ht]
  unfold storeS setwS
  rw [if_neg (by decide), if_neg (by omega), if_neg (by omega), if_pos h4, if_pos hy]
theorem act_stb (ht : wu32 (vx 0 m.s.R b.toNat + wu32 n) = t) (hy : t / 4 < y.n) :
    actS m y (mI 3 a b n) = (wu32 (m.pc + 4), 0, { m with Memory := some { y with w := vset y.w (t / 4).toNat (setb (vx 0 y.w (t / 4).toNat) (wu8 (vx 0 m.s.R a.toNat)) (t % 4 * 8)) } }) := by
  unfold actS
  rw [if_pos (by rfl), if_pos (show (3 : Int) ≥ 2 by decide)]
  show (wu32 (m.pc + 4), (storeS m y 3 (wu32 (vx 0 m.s.R b.toNat + wu32 n)) _).1, (storeS m y 3 (wu32 (vx 0 m.s.R b.toNat + wu32 n)) _).2) = _
  rw [ht]
  unfold storeS setbS
  rw [if_pos rfl, if_pos hy]
theorem act_ldw (ht : wu32 (vx 0 m.s.R b.toNat + wu32 n) = t) (h4 : t % 4 = 0) (h0 : 0 ≤ t) (h1 : t < 1000) (hy : t / 4 < y.n) :
    actS m y (mI 0 a b n) = (wu32 (m.pc + 4), 0, { m with s := setA m.s a (vx 0 y.w (t / 4).toNat) }) := by
  have e : loadS m y 0 (wu32 (vx 0 m.s.R b.toNat + wu32 n)) = (vx 0 y.w (t / 4).toNat, 0, m) := by
    rw [ht]
    unfold loadS wordS
    rw [if_neg (by decide), if_neg (by omega), if_pos h4, if_pos hy]
  unfold actS
  rw [if_pos (by rfl), if_neg (show ¬ (0 : Int) ≥ 2 by decide)]
  show (if (loadS m y 0 (wu32 (vx 0 m.s.R b.toNat + wu32 n))).2.1 = 0 then _ else _) = _
  simp only [e, if_true]
theorem act_ldb (ht : wu32 (vx 0 m.s.R b.toNat + wu32 n) = t) (hy : t / 4 < y.n) :
    actS m y (mI 1 a b n) = (wu32 (m.pc + 4), 0, { m with s := setA m.s a (wu8 (shr .u32 (vx 0 y.w (t / 4).toNat) (t % 4 * 8))) }) := by
  have hw : ∀ x : Int, wu32 (wu8 x) = wu8 x := fun x => by rw [wu8_eq, wu32_id (by omega) (by omega)]
  have e : loadS m y 1 (wu32 (vx 0 m.s.R b.toNat + wu32 n)) = (wu8 (shr .u32 (vx 0 y.w (t / 4).toNat) (t % 4 * 8)), 0, m) := by
    rw [ht]
    unfold loadS byteS
    rw [if_pos rfl, if_pos hy]
    simp only [hw]
  unfold actS
  rw [if_pos (by rfl), if_neg (show ¬ (1 : Int) ≥ 2 by decide)]
  show (if (loadS m y 1 (wu32 (vx 0 m.s.R b.toNat + wu32 n))).2.1 = 0 then _ else _) = _
  simp only [e, if_true]
end
theorem moves_run {x n t : Int} (hx : W x) (hn : -64 ≤ n ∧ n ≤ 64) (ht : 32 ≤ t ∧ t ≤ 63) {R : Vector Int 16} (hR : OkR ⟨R, 0, false, false, false, false⟩) (r1 : vx 0 R 1 = x) (r2 : vx 0 R 2 = wu32 (t / 4 * 4 - n)) (r4 : vx 0 R 4 = wu32 (t - n))
    {y : Smemory_Memory} (hy : OkM y) (h16 : y.n = 16) (w0 : vx 0 y.w 0 = (wordN (mI 2 1 2 n) : Int)) (w1 : vx 0 y.w 1 = (wordN (mI 0 3 2 n) : Int)) (w2 : vx 0 y.w 2 = (wordN (mI 3 1 4 n) : Int)) (w3 : vx 0 y.w 3 = (wordN (mI 1 5 4 n) : Int)) :
    ∃ y2, OkM y2 ∧ stp (stp ⟨some y, ⟨R, 0, false, false, false, false⟩, 0, 0, [], []⟩) = ⟨some y2, setA ⟨R, 0, false, false, false, false⟩ 3 x, 8, 0, [], []⟩ ∧
      ∃ y4, stp (stp ⟨some y2, setA ⟨R, 0, false, false, false, false⟩ 3 x, 8, 0, [], []⟩) = ⟨some y4, setA (setA ⟨R, 0, false, false, false, false⟩ 3 x) 5 (wu8 x), 16, 0, [], []⟩ := by
  have q1 : t / 4 * 4 / 4 = t / 4 := by omega
  have hq : (t / 4).toNat < 16 ∧ 8 ≤ (t / 4).toNat := by omega
  have hne : ∀ (v : Int) (j : Nat), j < 4 → vx 0 (vset y.w (t / 4).toNat v) j = vx 0 y.w j := fun v j hj => by rw [vx_vset (by omega), if_neg (by omega)]
  have hst : vx 0 (vset y.w (t / 4).toNat x) (t / 4).toNat = x := by rw [vx_vset (by omega), if_pos rfl]
  have add2 : wu32 (wu32 (t / 4 * 4 - n) + wu32 n) = t / 4 * 4 := by simp only [wu32_eq]; omega
  have add4 : wu32 (wu32 (t - n) + wu32 n) = t := by simp only [wu32_eq]; omega
  have k3 : ∀ (j : Nat), j < 16 → j ≠ 3 → vx 0 (setA ⟨R, 0, false, false, false, false⟩ 3 x).R j = vx 0 R j := fun j hj h3 => by
    show vx 0 (vset R 3 x) j = _
    rw [vx_vset (by omega), if_neg h3]
  refine ⟨{ y with w := vset y.w (t / 4).toNat x }, hy.set hx, ?_, { y with w := vset (vset y.w (t / 4).toNat x) (t / 4).toNat (setb x (wu8 x) (t % 4 * 8)) }, ?_⟩
  · rw [st_one (m := ⟨some y, ⟨R, 0, false, false, false, false⟩, 0, 0, [], []⟩) (k := 0) (y := y) rfl rfl rfl (by omega) w0 (mI_may (by omega) (by omega) (by omega) hn)]
    rw [act_stw (t := t / 4 * 4) (by show wu32 (vx 0 R 2 + wu32 n) = _; rw [r2]; exact add2) (by omega) (by omega) (by omega) (by omega)]
    rw [q1]
    show stp ⟨some { y with w := vset y.w (t / 4).toNat (vx 0 R 1) }, ⟨R, 0, false, false, false, false⟩, 4, 0, [], []⟩ = _
    rw [r1]
    rw [st_one (m := ⟨some { y with w := vset y.w (t / 4).toNat x }, ⟨R, 0, false, false, false, false⟩, 4, 0, [], []⟩) (k := 1) (y := { y with w := vset y.w (t / 4).toNat x }) rfl rfl rfl (by show (1 : Int) < y.n; omega) ((hne _ 1 (by omega)).trans w1) (mI_may (by omega) (by omega) (by omega) hn)]
    rw [act_ldw (t := t / 4 * 4) (by show wu32 (vx 0 R 2 + wu32 n) = _; rw [r2]; exact add2) (by omega) (by omega) (by omega) (by show _ < y.n; omega)]
    rw [q1]
    show (⟨some { y with w := vset y.w (t / 4).toNat x }, setA ⟨R, 0, false, false, false, false⟩ 3 (vx 0 (vset y.w (t / 4).toNat x) (t / 4).toNat), 8, 0, [], []⟩ : Smachine_Machine) = _
    rw [hst]
  · rw [st_one (m := ⟨some { y with w := vset y.w (t / 4).toNat x }, setA ⟨R, 0, false, false, false, false⟩ 3 x, 8, 0, [], []⟩) (k := 2) (y := { y with w := vset y.w (t / 4).toNat x }) rfl rfl rfl (by show (2 : Int) < y.n; omega) ((hne _ 2 (by omega)).trans w2) (mI_may (by omega) (by omega) (by omega) hn)]
    rw [act_stb (t := t) (by show wu32 (vx 0 (setA ⟨R, 0, false, false, false, false⟩ 3 x).R 4 + wu32 n) = _; rw [k3 4 (by omega) (by omega), r4]; exact add4) (by show _ < y.n; omega)]
    show stp ⟨some { y with w := vset (vset y.w (t / 4).toNat x) (t / 4).toNat (setb (vx 0 (vset y.w (t / 4).toNat x) (t / 4).toNat) (wu8 (vx 0 (setA ⟨R, 0, false, false, false, false⟩ 3 x).R 1)) (t % 4 * 8)) }, setA ⟨R, 0, false, false, false, false⟩ 3 x, 12, 0, [], []⟩ = _
    rw [k3 1 (by omega) (by omega), r1, hst]
    have h3 : vx 0 (vset (vset y.w (t / 4).toNat x) (t / 4).toNat (setb x (wu8 x) (t % 4 * 8))) 3 = (wordN (mI 1 5 4 n) : Int) := by
      rw [vx_vset (by omega), if_neg (by omega), hne _ 3 (by omega)]; exact w3
    rw [st_one (m := ⟨some { y with w := vset (vset y.w (t / 4).toNat x) (t / 4).toNat (setb x (wu8 x) (t % 4 * 8)) }, setA ⟨R, 0, false, false, false, false⟩ 3 x, 12, 0, [], []⟩) (k := 3) (y := { y with w := vset (vset y.w (t / 4).toNat x) (t / 4).toNat (setb x (wu8 x) (t % 4 * 8)) }) rfl rfl rfl (by show (3 : Int) < y.n; omega) h3 (mI_may (by omega) (by omega) (by omega) hn)]
    rw [act_ldb (t := t) (by show wu32 (vx 0 (setA ⟨R, 0, false, false, false, false⟩ 3 x).R 4 + wu32 n) = _; rw [k3 4 (by omega) (by omega), r4]; exact add4) (by show _ < y.n; omega)]
    show (⟨some { y with w := vset (vset y.w (t / 4).toNat x) (t / 4).toNat (setb x (wu8 x) (t % 4 * 8)) }, setA (setA ⟨R, 0, false, false, false, false⟩ 3 x) 5 (wu8 (shr .u32 (vx 0 (vset (vset y.w (t / 4).toNat x) (t / 4).toNat (setb x (wu8 x) (t % 4 * 8))) (t / 4).toNat) (t % 4 * 8))), 16, 0, [], []⟩ : Smachine_Machine) = _
    rw [vx_vset (by omega), if_pos rfl, byte_setb hx (by rw [wu8_eq]; omega) (by rw [wu8_eq]; omega) (by omega)]
theorem Pure.MachineMoves (a0 : Int) (a1 : Int) (a2 : Int) : In .u32 a0 → In .u8 a1 → In .i8 a2 → rivetlaw06_MachineMoves a0 a1 a2 = some true := by
  intro h0 h1 h2
  have hx : W a0 := h0.u32
  have h1 := h1.u8
  have h2 : -128 ≤ a2 ∧ a2 ≤ 127 := bounds_i8 h2
  obtain ⟨n, en, hn⟩ : ∃ n : Int, (w64 a2).tmod 64 = n ∧ -64 ≤ n ∧ n ≤ 64 := by
    rw [w64s (by omega) (by omega)]
    have := Int.tmod_lt_of_pos a2 (show (0 : Int) < 64 by omega)
    have := Int.lt_tmod_of_pos a2 (show (0 : Int) < 64 by omega)
    exact ⟨_, rfl, by omega, by omega⟩
  obtain ⟨t, et, ht⟩ : ∃ t : Int, w64 (32 + (w64 a1).tmod 32) = t ∧ 32 ≤ t ∧ t ≤ 63 := by
    rw [w64s (x := a1) (by omega) (by omega), Int.tmod_eq_emod_of_nonneg h1.1, w64s (by omega) (by omega)]
    exact ⟨_, rfl, by omega, by omega⟩
  have ew : w64 (w64 (t.tdiv 4) * 4) = t / 4 * 4 := by
    rw [Int.tdiv_eq_ediv_of_nonneg (by omega), w64s (x := t / 4) (by omega) (by omega), w64s (by omega) (by omega)]
  unfold rivetlaw06_MachineMoves
  rw [shown_is, Option.bind_some, et, en]
  simp only [nm]
  rw [ew]
  have m0 := mI_may (op := 2) (a := 1) (b := 2) (by omega) (by omega) (by omega) hn
  have m1 := mI_may (op := 0) (a := 3) (b := 2) (by omega) (by omega) (by omega) hn
  have m2 := mI_may (op := 3) (a := 1) (b := 4) (by omega) (by omega) (by omega) hn
  have m3 := mI_may (op := 1) (a := 5) (b := 4) (by omega) (by omega) (by omega) hn
  have hl : loopO (fun (σ : Sapi_Instr × Sapi_Instr × Sapi_Instr × Sapi_Instr × (List Int) × Int) => rivetlaw06_MachineMoves.b28 σ.1 σ.2.1 σ.2.2.1 σ.2.2.2.1 σ.2.2.2.2.1 σ.2.2.2.2.2) ((⟨0, 2, 1, 2, 0, n, false⟩ : Sapi_Instr), (⟨0, 0, 3, 2, 0, n, false⟩ : Sapi_Instr), (⟨0, 3, 1, 4, 0, n, false⟩ : Sapi_Instr), (⟨0, 1, 5, 4, 0, n, false⟩ : Sapi_Instr), ([] : List Int), 0) =
      some (.done (mI 2 1 2 n, mI 0 3 2 n, mI 3 1 4 n, mI 1 5 4 n, [(wordN (mI 2 1 2 n) : Int), (wordN (mI 0 3 2 n) : Int), (wordN (mI 3 1 4 n) : Int), (wordN (mI 1 5 4 n) : Int)])) := by
    rw [loopO_next (mv0 m0 (by simp)), loopO_next (mv1 m1 (by simp)), loopO_next (mv2 m2 (by simp)), loopO_next (mv3 m3 (by simp))]
    exact loopO_done mv4
  show Option.bind (loopO _ ((⟨0, 2, 1, 2, 0, n, false⟩ : Sapi_Instr), (⟨0, 0, 3, 2, 0, n, false⟩ : Sapi_Instr), (⟨0, 3, 1, 4, 0, n, false⟩ : Sapi_Instr), (⟨0, 1, 5, 4, 0, n, false⟩ : Sapi_Instr), ([] : List Int), 0)) _ = _
  rw [hl, Option.bind_some]
  show rivetlaw06_MachineMoves.j4 true a0 _ a2 t _ _ _ _ _ = _
  unfold rivetlaw06_MachineMoves.j4
  rw [mnew_ok (by omega) (by omega) (by simp), Option.bind_some]
  simp only [if_true, Option.bind_some]
  generalize hL : [(wordN (mI 2 1 2 n) : Int), (wordN (mI 0 3 2 n) : Int), (wordN (mI 3 1 4 n) : Int), (wordN (mI 1 5 4 n) : Int)] = L
  have hL4 : L.length = 4 := by rw [← hL]; rfl
  have hLW : ∀ z ∈ L, W z := by
    intro z hz
    rw [← hL] at hz
    simp only [List.mem_cons, List.not_mem_nil, or_false] at hz
    rcases hz with rfl | rfl | rfl | rfl
    · exact W_word m0
    · exact W_word m1
    · exact W_word m2
    · exact W_word m3
  rw [place_ok (by omega) (by show (0 : Int) + (L.length : Int) ≤ 16; omega) (by show (16 : Int) ≤ 4096; omega), Option.bind_some]
  show rivetlaw06_MachineMoves.j6 a0 _ a2 t _ (0 != 0) = _
  unfold rivetlaw06_MachineMoves.j6
  rw [if_neg (by simp)]
  unfold rivetlaw06_MachineMoves.j7
  rw [mstart_is rfl, Option.bind_some, en, w64s (x := t / 4 * 4 - n) (by omega) (by omega), w64s (x := t - n) (by omega) (by omega)]
  have hy := vcopy_ok (a := (0 : Int).toNat) (mem0_ok (n := 16) (by omega) (by omega)) hLW
  generalize hR : vset (vset (vset (Vector.replicate 16 0) 1 a0) 2 (wu32 (t / 4 * 4 - n))) 4 (wu32 (t - n)) = R
  have hv : ∀ j : Nat, j < 16 → vx 0 R j = if j = 4 then wu32 (t - n) else if j = 2 then wu32 (t / 4 * 4 - n) else if j = 1 then a0 else 0 := fun j hj => by
    rw [← hR, vx_vset (by omega), vx_vset (by omega), vx_vset (by omega), vx_get hj]
    simp
  have hRok : OkR ⟨R, 0, false, false, false, false⟩ := ⟨fun j j0 j1 => by
    show W (vx 0 R j.toNat)
    rw [hv _ (by omega)]
    split
    · exact W_wrap _
    · split
      · exact W_wrap _
      · split
        · exact hx
        · exact ⟨by simp, by simp⟩, ⟨by simp, by simp⟩⟩
  have hw : ∀ j : Nat, j < 4 → vx 0 (vcopy (Vector.replicate 4096 0) (0 : Int).toNat L) j = L.getD j 0 := fun j hj => by
    rw [vx_vcopy (by omega), if_pos (by rw [hL4]; show 0 ≤ j ∧ j < 0 + 4; omega)]
    rfl
  obtain ⟨y2, hy2, e2, y4, e4⟩ := moves_run hx hn ht hRok (hv 1 (by omega)) (hv 2 (by omega)) (hv 4 (by omega)) hy rfl ((hw 0 (by omega)).trans (by rw [← hL]; rfl)) ((hw 1 (by omega)).trans (by rw [← hL]; rfl)) ((hw 2 (by omega)).trans (by rw [← hL]; rfl)) ((hw 3 (by omega)).trans (by rw [← hL]; rfl))
  generalize hY : (⟨vcopy (Vector.replicate 4096 0) (0 : Int).toNat L, 16⟩ : Smemory_Memory) = Y at *
  have ok1 : OkMa ⟨some Y, ⟨R, 0, false, false, false, false⟩, 0, 0, [], []⟩ Y := ⟨rfl, hy, hRok, ⟨by simp, by simp⟩, by simp, by simp, by simp⟩
  have hRs : OkR (setA ⟨R, 0, false, false, false, false⟩ 3 a0) := by
    have := set_ok (A := 3) hRok (by omega) (by omega) hx
    exact ⟨this.r, this.h⟩
  have ok2 : OkMa ⟨some y2, setA ⟨R, 0, false, false, false, false⟩ 3 a0, 8, 0, [], []⟩ y2 := ⟨rfl, hy2, hRs, ⟨by simp, by simp⟩, by simp, by simp, by simp⟩
  show (machine_Machine_Run ⟨some Y, ⟨R, 0, false, false, false, false⟩, 0, 0, [], []⟩ 2).bind _ = _
  rw [run2 ok1 (by simp), Option.bind_some, e2]
  simp only [machine_Machine_Regs, Option.bind_some, if_true]
  obtain ⟨k, rfl⟩ : ∃ k : Nat, a0 = (k : Int) := ⟨a0.toNat, (Int.toNat_of_nonneg hx.1).symm⟩
  have hk : k < 4294967296 := by have := hx.2; omega
  have g3 : vx 0 (setA ⟨R, 0, false, false, false, false⟩ 3 (k : Int)).R 3 = (k : Int) := by
    show vx 0 (vset R 3 (k : Int)) 3 = _
    rw [vx_vset (by omega), if_pos rfl]
  have gN : (setA ⟨R, 0, false, false, false, false⟩ 3 (k : Int)).N = (((k : Int).fdiv (2 ^ 31)) == 1) := by
    rw [top_bit hk, bit31 hk]
    show decide ((k : Int) ≥ 2147483648) = _
    exact decide_eq_decide.2 (by omega)
  have gZ : (setA ⟨R, 0, false, false, false, false⟩ 3 (k : Int)).Z = ((k : Int) == 0) := rfl
  rw [g3, if_pos rfl, gN, gZ, if_neg (by simp), if_neg (by simp), run2 ok2 (by simp), Option.bind_some, e4]
  show rivetlaw06_MachineMoves.j8 _ _ (0 != 0) = _
  unfold rivetlaw06_MachineMoves.j8
  rw [if_neg (by simp)]
  unfold rivetlaw06_MachineMoves.j9
  simp only [machine_Machine_Regs, machine_Machine_PC, Option.bind_some]
  have g5 : vx 0 (setA (setA ⟨R, 0, false, false, false, false⟩ 3 (k : Int)) 5 (wu8 (k : Int))).R 5 = wu8 (k : Int) := by
    show vx 0 (vset _ 5 (wu8 (k : Int))) 5 = _
    rw [vx_vset (by omega), if_pos rfl]
  rw [g5, band255 hx, if_pos rfl]
  have hN : (setA (setA ⟨R, 0, false, false, false, false⟩ 3 (k : Int)) 5 (wu8 (k : Int))).N = false := by
    show decide (wu8 (k : Int) ≥ 2147483648) = _
    rw [wu8_eq]
    exact decide_eq_false (by omega)
  have hZ : (setA (setA ⟨R, 0, false, false, false, false⟩ 3 (k : Int)) 5 (wu8 (k : Int))).Z = (wu8 (k : Int) == 0) := rfl
  rw [hN, hZ, if_neg (by simp), if_pos (by simp)]
  rfl
end Go.Proofs.Ytheccnbamcdpmaa.T06
