/- The machine's frame: what New, Place, Start and load's Machine come to. No condition. -/
import Derived.Test.YtheccnbamcdpmaaDoorO12f
namespace Go.Proofs.YtheccnbamcdpmaaDoor.O12
set_option linter.unusedVariables false
set_option linter.unusedSimpArgs false
open Go Go.RowKit Go.Proofs.YtheccnbamcdpmaaDoor.E Go.Proofs.YtheccnbamcdpmaaDoor.T12 Go.Proofs.YtheccnbamcdpmaaDoor.L07
open Go.Proofs.YtheccnbamcdpmaaDoor.C08 (rise rise_is rise_all rise_of Ris fit_is getD_set)
theorem clone_is {l : List Int} (h : l.length ≤ 1000000000000) : slices_Clone_uint32_uint32 l = some l := by
  unfold slices_Clone_uint32_uint32
  simp
  omega
abbrev mem0 (n : Int) : Smemory_Memory := ⟨Vector.replicate 4096 0, n⟩
abbrev regs0 : Sapi_Regs := ⟨Vector.replicate 16 0, 0, false, false, false, false⟩
theorem memnew_ok {n : Int} (h0 : 0 ≤ n) (h1 : n ≤ 4096) : memory_New n = some (some (mem0 n), 0) := by
  unfold memory_New memory_New.j1 memory_New.j2
  rw [if_neg (by omega), decide_eq_false (by omega), if_neg (by simp)]
theorem memnew_big {n : Int} (h : n < 0 ∨ 4096 < n) : memory_New n = some (none, 2) := by
  unfold memory_New memory_New.j1
  by_cases h0 : n < 0
  · rw [if_pos h0, if_pos rfl]
  · rw [if_neg h0, decide_eq_true (by omega), if_pos rfl]
theorem mnew_ok {n : Int} {l : List Int} (h0 : 0 ≤ n) (h1 : n ≤ 4096) (hl : l.length ≤ 1000000000000) : machine_New n l = some (some ⟨some (mem0 n), regs0, 0, 0, l, []⟩, 0) := by
  unfold machine_New
  rw [memnew_ok h0 h1, Option.bind_some]
  show (if (0 : Int) = 0 then _ else _) = _
  rw [if_pos rfl, clone_is hl]
  rfl
theorem mnew_big {n : Int} {l : List Int} (h : n < 0 ∨ 4096 < n) : machine_New n l = some (none, 2) := by
  unfold machine_New
  rw [memnew_big h]
  rfl
theorem place_ok {x : Smemory_Memory} {at' : Int} {l : List Int} (h0 : 0 ≤ at') (h1 : at' + l.length ≤ x.n) (h2 : x.n ≤ 4096) : memory_Memory_Place x at' l = some (0, { x with w := vcopy x.w at'.toNat l }) := by
  unfold memory_Memory_Place memory_Memory_Place.j1
  rw [if_neg (by omega), if_neg (by omega), w64s (by omega) (by omega), decide_eq_false (by omega), if_neg (by simp)]
  unfold memory_Memory_Place.j2
  rw [if_pos ⟨h0, by omega, h2⟩]
  rw [List.take_of_length_le (l := l) (by simp; omega)]
theorem place_no {x : Smemory_Memory} {at' : Int} {l : List Int} (h0 : 0 ≤ at') (h1 : x.n < at' + l.length) (h3 : 0 ≤ x.n) (h2 : x.n ≤ 4096) (h4 : at' ≤ 1000000000000) : memory_Memory_Place x at' l = some (11, x) := by
  unfold memory_Memory_Place memory_Memory_Place.j1
  rw [if_neg (by omega)]
  by_cases h : at' > x.n
  · rw [if_pos h, if_pos rfl]
  · rw [if_neg h, w64s (by omega) (by omega), decide_eq_true (by omega), if_pos rfl]
abbrev regsS (b mem : Int) : Sapi_Regs := ⟨vset (vset (Vector.replicate 16 0) 13 (wu32 b)) 14 (wu32 (w64 (4 * mem))), 0, false, false, false, false⟩
theorem regs_is (b mem : Int) : load_Regs b mem = some (regsS b mem) := rfl
theorem refregs_is (b mem : Int) : rivetref12_Regs b mem = some (regsS b mem) := rfl
theorem start_is {x : Smachine_Machine} {y : Smemory_Memory} (h : x.Memory = some y) (pc : Int) (s : Sapi_Regs) : machine_Machine_Start x pc s = some { x with s := s, pc := pc, status := 0 } := by
  unfold machine_Machine_Start
  rw [h, Option.bind_some, ← h]
section
variable {o : Sapi_Obj} {b mem : Int} {l : List Int}
theorem lm_may (h : Ob o) (hm : mayS o ≠ 0) : load_Machine o b mem l = some (none, mayS o) := by
  unfold load_Machine
  rw [image_is h, Option.bind_some]
  unfold imgS
  rw [if_neg hm]
  show (if mayS o = 0 then _ else _) = _
  rw [if_neg hm]
theorem lm_base (h : Ob o) (hm : mayS o = 0) (hb : baseOk b = false) : load_Machine o b mem l = some (none, 11) := by
  unfold load_Machine
  rw [image_is h, Option.bind_some]
  unfold imgS
  rw [if_pos hm, hb]
  rfl
theorem lm_mem (h : Ob o) (hm : mayS o = 0) (hb : baseOk b = true) (hn : mem < 0 ∨ 4096 < mem) : load_Machine o b mem l = some (none, 2) := by
  unfold load_Machine
  rw [image_is h, Option.bind_some]
  unfold imgS
  rw [if_pos hm, if_pos hb]
  show (if (0 : Int) = 0 then _ else _) = _
  rw [if_pos rfl, mnew_big hn]
  rfl
theorem base_div (hb : baseOk b = true) : w64 (b.tdiv 4) = b / 4 ∧ 0 ≤ b / 4 ∧ b / 4 ≤ 4096 := by
  unfold baseOk at hb
  rw [decide_eq_true_eq] at hb
  rw [Int.tdiv_eq_ediv_of_nonneg hb.1, w64s (by omega) (by omega)]
  omega
theorem lm_no (h : Ob o) (hm : mayS o = 0) (hb : baseOk b = true) (h0 : 0 ≤ mem) (h1 : mem ≤ 4096) (hl : l.length ≤ 1000000000000) (hf : mem < b / 4 + o.Words.length) : load_Machine o b mem l = some (none, 11) := by
  obtain ⟨e1, e2, e3⟩ := base_div hb
  unfold load_Machine
  rw [image_is h, Option.bind_some]
  unfold imgS
  rw [if_pos hm, if_pos hb]
  show (if (0 : Int) = 0 then _ else _) = _
  rw [if_pos rfl, mnew_ok h0 h1 hl, Option.bind_some]
  show (if (0 : Int) = 0 then _ else _) = _
  rw [if_pos rfl, Option.bind_some, e1, place_no e2 (by rw [addAll_len]; exact hf) h0 h1 (by omega)]
  rfl
theorem lm_ok (h : Ob o) (hm : mayS o = 0) (hb : baseOk b = true) (h1 : mem ≤ 4096) (hl : l.length ≤ 1000000000000) (hf : b / 4 + o.Words.length ≤ mem) :
    load_Machine o b mem l = some (some ⟨some ⟨vcopy (Vector.replicate 4096 0) (b / 4).toNat (addAll b o.Words o.Sites), mem⟩, regsS b mem, wu32 b, 0, l, []⟩, 0) := by
  obtain ⟨e1, e2, e3⟩ := base_div hb
  unfold load_Machine
  rw [image_is h, Option.bind_some]
  unfold imgS
  rw [if_pos hm, if_pos hb]
  show (if (0 : Int) = 0 then _ else _) = _
  rw [if_pos rfl, mnew_ok (by omega) h1 hl, Option.bind_some]
  show (if (0 : Int) = 0 then _ else _) = _
  rw [if_pos rfl, Option.bind_some, e1, place_ok e2 (by rw [addAll_len]; exact hf) h1, Option.bind_some]
  show (if (0 : Int) = 0 then _ else _) = _
  rw [if_pos rfl, regs_is, Option.bind_some, start_is rfl]
  rfl
end
theorem base_ok {a : Int} (h : In .u16 a) : w64 (4 * ((w64 a).tmod 4097)) = 4 * (a % 4097) ∧ 0 ≤ a % 4097 ∧ a % 4097 ≤ 4096 ∧ baseOk (4 * (a % 4097)) = true := by
  have h := h.u16
  rw [w64s (x := a) (by omega) (by omega), Int.tmod_eq_emod_of_nonneg h.1, w64s (by omega) (by omega)]
  refine ⟨rfl, by omega, by omega, ?_⟩
  unfold baseOk
  rw [decide_eq_true_eq]
  omega
theorem img_fit {o : Sapi_Obj} (h : mayS o = 0) {b : Int} (hb : baseOk b = true) : imgS o b = (addAll b o.Words o.Sites, 0) := by
  unfold imgS
  rw [if_pos h, if_pos hb]
end Go.Proofs.YtheccnbamcdpmaaDoor.O12
