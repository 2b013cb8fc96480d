/- Machines as the statements make them. No condition. -/
import Derived.Test.YtheccnbamcdpmaaB06d
namespace Go.Proofs.Ytheccnbamcdpmaa.A06
set_option linter.unusedVariables false
set_option linter.unusedSimpArgs false
open Go Go.RowKit Go.Proofs.Ytheccnbamcdpmaa.E Go.Proofs.Ytheccnbamcdpmaa.T06
theorem ixn {k : IntKind} {l : List Int} {i : Nat} (h : i < l.length) : ix (eI k).d l (i : Int) = l[i] := by
  show l.getD (i : Int).toNat 0 = _
  simp [h]
theorem ixd {k : IntKind} {l : List Int} {i : Int} : ix (eI k).d l i = l.getD i.toNat 0 := rfl
theorem drop_at {l : List Int} {i : Nat} (h : i < l.length) : l.drop i = l[i] :: l.drop (i + 1) := List.drop_eq_getElem_cons h
theorem same32 {a b : List Int} (ha : a.length ≤ 4611686018427387904) : rivetref05_Same a b = some (decide (a = b)) := by
  unfold rivetref05_Same
  by_cases hl : a.length = b.length
  · rw [if_pos (by omega)]
    have key : ∀ n (i : Nat), a.length - i = n → i ≤ a.length → loopO (fun σ : Int => rivetref05_Same.b9 a b σ) (i : Int) = some (if a.drop i = b.drop i then .done () else .ret false) := by
      intro n
      induction n with
      | zero =>
        intro i hn hi
        rw [loopO_done (r := .done ())]
        · rw [List.drop_of_length_le (by omega), List.drop_of_length_le (by omega)]; simp
        · simp only [rivetref05_Same.b9]
          rw [if_neg (by omega)]
      | succ n ih =>
        intro i hn hi
        have h1 : i < a.length := by omega
        have h2 : i < b.length := by omega
        by_cases he : a[i] = b[i]
        · rw [loopO_next (s' := ((i + 1 : Nat) : Int)), ih (i + 1) (by omega) (by omega), drop_at h1, drop_at h2, he]
          · simp only [List.cons.injEq, true_and]
          · simp only [rivetref05_Same.b9]
            rw [if_pos (by omega), if_pos (by omega), if_pos (by omega), ixn h1, ixn h2, if_pos he, w64s (by omega) (by omega)]
            rfl
        · rw [loopO_done (r := .ret false), drop_at h1, drop_at h2, if_neg (fun e => he (List.cons.inj e).1)]
          · simp only [rivetref05_Same.b9]
            rw [if_pos (by omega), if_pos (by omega), if_pos (by omega), ixn h1, ixn h2, if_neg he]
    have := key a.length 0 (by omega) (by omega)
    simp only [Int.natCast_zero, List.drop_zero] at this
    rw [this]
    by_cases he : a = b
    · simp [he, rivetref05_Same.j1]
    · simp [he]
  · rw [if_neg (by omega)]
    have : a ≠ b := fun e => hl (by rw [e])
    simp [this]
theorem getD_mem {l : List Int} {i : Nat} (h : i < l.length) : l.getD i 0 ∈ l := by
  rw [List.getD_eq_getElem?_getD, List.getElem?_eq_getElem h]; exact List.getElem_mem h
theorem getD_set {l : List Int} {i j : Nat} {v : Int} (hi : i < l.length) : (l.set i v).getD j 0 = if j = i then v else l.getD j 0 := by
  simp only [List.getD_eq_getElem?_getD, List.getElem?_set]
  by_cases h : i = j
  · subst h; simp [hi]
  · rw [if_neg h, if_neg (fun e => h e.symm)]
/-! ### the reference's memory -/
/-! ### the machine's -/
theorem clone_is {l : List Int} (h : l.length ≤ 1000000000000) : slices_Clone_uint32_uint32 l = some l := by
  unfold slices_Clone_uint32_uint32
  simp
  omega
abbrev mem0 (n : Int) : Smemory_Memory := ⟨Vector.replicate 4096 0, n⟩
abbrev regs0 : Sapi_Regs := ⟨Vector.replicate 16 0, 0, false, false, false, false⟩
theorem memnew_ok {n : Int} (h0 : 0 ≤ n) (h1 : n ≤ 4096) : memory_New n = some (some (mem0 n), 0) := by
  unfold memory_New memory_New.j1 memory_New.j2
  rw [if_neg (by omega), decide_eq_false (by omega), if_neg (by simp)]
theorem mnew_ok {n : Int} {l : List Int} (h0 : 0 ≤ n) (h1 : n ≤ 4096) (hl : l.length ≤ 1000000000000) : machine_New n l = some (some ⟨some (mem0 n), regs0, 0, 0, l, []⟩, 0) := by
  unfold machine_New
  rw [memnew_ok h0 h1, Option.bind_some]
  show (if (0 : Int) = 0 then _ else _) = _
  rw [if_pos rfl, clone_is hl]
  rfl
theorem place_ok {x : Smemory_Memory} {at' : Int} {l : List Int} (h0 : 0 ≤ at') (h1 : at' + l.length ≤ x.n) (h2 : x.n ≤ 4096) : memory_Memory_Place x at' l = some (0, { x with w := vcopy x.w at'.toNat l }) := by
  unfold memory_Memory_Place memory_Memory_Place.j1
  rw [if_neg (by omega), if_neg (by omega), w64s (by omega) (by omega), decide_eq_false (by omega), if_neg (by simp)]
  unfold memory_Memory_Place.j2
  rw [if_pos ⟨h0, by omega, h2⟩]
  rw [List.take_of_length_le (l := l) (by simp; omega)]

theorem few_is (l : List Int) : rivetlaw06_few l = some (l.take 20) := by
  have := mnn_ok (l.length : Int) 20 (by omega) (by omega)
  unfold rivetlaw06_few
  rw [if_pos ⟨this.1, this.2⟩, take_min l 20 (by omega)]
  rfl
theorem mem0_ok {n : Int} (h0 : 0 ≤ n) (h1 : n ≤ 4096) : OkM (mem0 n) := by
  refine ⟨h0, h1, fun j hj => ?_⟩
  rw [vx_get hj]
  simp
  exact ⟨by omega, by omega⟩
theorem vcopy_ok {y : Smemory_Memory} (h : OkM y) {a : Nat} {l : List Int} (hl : ∀ n ∈ l, W n) : OkM { y with w := vcopy y.w a l } := by
  refine ⟨h.n0, h.n1, fun j hj => ?_⟩
  show W (vx 0 (vcopy y.w a l) j)
  rw [vx_vcopy hj]
  split
  · rename_i hh; exact hl _ (getD_mem (by omega))
  · exact h.w j hj
theorem mstart_is {x : Smachine_Machine} {y : Smemory_Memory} (h : x.Memory = some y) (pc : Int) (s : Sapi_Regs) : machine_Machine_Start x pc s = some { x with s := s, pc := pc, status := 0 } := by
  unfold machine_Machine_Start
  rw [h, Option.bind_some, ← h]
end Go.Proofs.Ytheccnbamcdpmaa.A06
