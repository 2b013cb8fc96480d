/- Machines as the statements make them. No condition. -/
import Derived.Test.YtheccnbamcdpmaaB06d
namespace Go.Proofs.Ytheccnbamcdpmaa.A06
set_option linter.unusedVariables false
set_option linter.unusedSimpArgs false
open Go Go.RowKit Go.Proofs.Ytheccnbamcdpmaa.E Go.Proofs.Ytheccnbamcdpmaa.T06
theorem ixn {k : IntKind} {l : List Int} {i : Nat} (h : i < l.length) : ix (eI k).d l (i : Int) = l[i] := by
  show l.getD (i : Int).toNat 0 = _
  simp [h]
theorem ixd {k : IntKind} {l : List Int} {i : Int} : ix (eI k).d l i = l.getD i.toNat 0 := rfl
theorem drop_at {l : List Int} {i : Nat} (h : i < l.length) : l.drop i = l[i] :: l.drop (i + 1) := List.drop_eq_getElem_cons h
theorem same32 {a b : List Int} (ha : a.length ≤ 4611686018427387904) : rivetref05_Same a b = some (decide (a = b)) := by
  unfold rivetref05_Same
  by_cases hl : a.length = b.length
  · rw [if_pos (by omega)]
    have key : ∀ n (i : Nat), a.length - i = n → i ≤ a.length → loopO (fun σ : Int => rivetref05_Same.b9 a b σ) (i : Int) = some (if a.drop i = b.drop i then .done () else .ret false) := by
      intro n
      induction n with
      | zero =>
        intro i hn hi
        rw [loopO_done (r := .done ())]
        · rw [List.drop_of_length_le (by omega), List.drop_of_length_le (by omega)]; simp
        · simp only [rivetref05_Same.b9]
          rw [if_neg (by omega)]
      | succ n ih =>
        intro i hn hi
        have h1 : i < a.length := by omega
        have h2 : i < b.length := by omega
        by_cases he : a[i] = b[i]
        · rw [loopO_next (s' := ((i + 1 : Nat) : Int)), ih (i + 1) (by omega) (by omega), drop_at h1, drop_at h2, he]
          · simp only [List.cons.injEq, true_and]
          · simp only [rivetref05_Same.b9]
            rw [if_pos (by omega), if_pos (by omega), if_pos (by omega), ixn h1, ixn h2, if_pos he, w64s (by omega) (by omega)]
            rfl
        · rw [loopO_done (r := .ret false), drop_at h1, drop_at h2, if_neg (fun e => he (List.cons.inj e).1)]
          · simp only [rivetref05_Same.b9]
            rw [if_pos (by omega), if_pos (by omega), if_pos (by omega), ixn h1, ixn h2, if_neg he]
    have := key a.length 0 (by omega) (by omega)
    simp only [Int.natCast_zero, List.drop_zero] at this
    rw [this]
    by_cases he : a = b
    · simp [he, rivetref05_Same.j1]
    · simp [he]
  · rw [if_neg (by omega)]
    have : a ≠ b := fun e => hl (by rw [e])
    simp [this]
theorem getD_mem {l : List Int} {i : Nat} (h : i < l.length) : l.getD i 0 ∈ l := by
  rw [List.getD_eq_getElem?_getD, List.getElem?_eq_getElem h]; exact List.getElem_mem h
theorem getD_set {l : List Int} {i j : Nat} {v : Int} (hi : i < l.length) : (l.set i v).getD j 0 = if j = i then v else l.getD j 0 := by
  simp only [List.getD_eq_getElem?_getD, List.getElem?_set]
  by_cases h : i = j
  · subst h; simp [hi]
  · rw [if_neg h, if_neg (fun e => h e.symm)]
/-! ### the reference's memory -/
def byt (x : Int) (k : Nat) : Int := match k with
  | 0 => x % 256
  | 1 => x / 256 % 256
  | 2 => x / 65536 % 256
  | _ => x / 16777216 % 256
/-- The bytes are those of so many words. -/
structure RB (B : List Int) (n : Nat) (f : Nat → Int) : Prop where
  len : B.length = 4 * n
  at' : ∀ j, j < 4 * n → B.getD j 0 = byt (f (j / 4)) (j % 4)
  lo : ∀ i, i < n → 0 ≤ f i ∧ f i ≤ 4294967295
section
variable {B : List Int} {n : Nat} {f : Nat → Int}
theorem RB.set (h : RB B n f) (hn : n ≤ 4096) {i : Nat} (hi : i < n) {x : Int} (h0 : 0 ≤ x) (h1 : x ≤ 4294967295) : ∃ B', rivetref05_Memory_set ⟨B⟩ (i : Int) x = some ⟨B'⟩ ∧ RB B' n fun j => if j = i then x else f j := by
  have hl := h.len
  have e1 : w64 (4 * (i : Int)) = ((4 * i : Nat) : Int) := by rw [w64s (by omega) (by omega)]; omega
  have step : ∀ (l : List Int) (v : Int) (k : Nat), l.length = 4 * n → k < 4 → 0 ≤ v → v ≤ 4294967295 → rivetref05_Memory_set.b7 (i : Int) l v (k : Int) = some (.inl (l.set (4 * i + k) (v % 256), v / 256, ((k + 1 : Nat) : Int))) := fun l v k hlen hk v0 v1 => by
    unfold rivetref05_Memory_set.b7
    rw [e1, show w64 (((4 * i : Nat) : Int) + (k : Int)) = ((4 * i + k : Nat) : Int) by rw [w64s (by omega) (by omega)]; omega, if_pos (by omega), if_pos (by omega), Int.toNat_natCast, Int.tmod_eq_emod_of_nonneg v0, Int.tdiv_eq_ediv_of_nonneg v0, w64s (by omega) (by omega)]
    rw [show wu8 (v % 256) = v % 256 by rw [wu8_eq]; omega, wu32_id (by omega) (by omega)]
    rfl
  refine ⟨(((B.set (4 * i + 0) (x % 256)).set (4 * i + 1) (x / 256 % 256)).set (4 * i + 2) (x / 256 / 256 % 256)).set (4 * i + 3) (x / 256 / 256 / 256 % 256), ?_, ?_⟩
  · unfold rivetref05_Memory_set
    have hb : ∀ (l : List Int) (v w : Int), (fun (σ : (List Int) × Int × Int) => rivetref05_Memory_set.b7 (i : Int) σ.1 σ.2.1 σ.2.2) (l, v, w) = rivetref05_Memory_set.b7 (i : Int) l v w := fun _ _ _ => rfl
    rw [show (0 : Int) = ((0 : Nat) : Int) from rfl]
    rw [loopO_next ((hb _ _ _).trans (step B x 0 hl (by omega) h0 h1)), loopO_next ((hb _ _ _).trans (step _ (x / 256) 1 (by simp [hl]) (by omega) (by omega) (by omega))),
      loopO_next ((hb _ _ _).trans (step _ (x / 256 / 256) 2 (by simp [hl]) (by omega) (by omega) (by omega))), loopO_next ((hb _ _ _).trans (step _ (x / 256 / 256 / 256) 3 (by simp [hl]) (by omega) (by omega) (by omega)))]
    rw [loopO_done (show (fun (σ : (List Int) × Int × Int) => rivetref05_Memory_set.b7 (i : Int) σ.1 σ.2.1 σ.2.2) _ = some (.inr _) from by
      show rivetref05_Memory_set.b7 (i : Int) _ _ ((3 + 1 : Nat) : Int) = _
      unfold rivetref05_Memory_set.b7
      rw [if_neg (by omega)])]
    rfl
  · refine ⟨by simp [hl], fun j hj => ?_, fun j hj => ?_⟩
    · rw [getD_set (by simp; omega), getD_set (by simp; omega), getD_set (by simp; omega), getD_set (by simp; omega), h.at' j hj]
      by_cases hji : j / 4 = i
      · rw [if_pos hji]
        have h4 : j % 4 < 4 := Nat.mod_lt _ (by omega)
        rcases (by omega : j % 4 = 0 ∨ j % 4 = 1 ∨ j % 4 = 2 ∨ j % 4 = 3) with hk | hk | hk | hk <;> rw [hk]
        · rw [if_neg (by omega), if_neg (by omega), if_neg (by omega), if_pos (by omega)]; rfl
        · rw [if_neg (by omega), if_neg (by omega), if_pos (by omega)]; rfl
        · rw [if_neg (by omega), if_pos (by omega)]; show _ = x / 65536 % 256; omega
        · rw [if_pos (by omega)]; show _ = x / 16777216 % 256; omega
      · rw [if_neg hji, if_neg (by omega), if_neg (by omega), if_neg (by omega), if_neg (by omega)]
    · show 0 ≤ (if j = i then x else f j) ∧ (if j = i then x else f j) ≤ _
      split
      · exact ⟨h0, h1⟩
      · exact h.lo j hj
theorem RB.place (h : RB B n f) (hn : n ≤ 4096) {a : Nat} {l : List Int} (hl : ∀ n ∈ l, W n) (hf : a + l.length ≤ n) : ∃ B', rivetref05_Memory_Place ⟨B⟩ (a : Int) l = some (0, ⟨B'⟩) ∧ RB B' n fun j => if a ≤ j ∧ j < a + l.length then l.getD (j - a) 0 else f j := by
  have hlen := h.len
  have e : w64 ((B.length : Int).tdiv 4) = (n : Int) := by rw [hlen, Int.tdiv_eq_ediv_of_nonneg (by omega), w64s (by omega) (by omega)]; omega
  have key : ∀ (m i : Nat) (C : List Int), i + m = l.length → RB C n (fun j => if a ≤ j ∧ j < a + i then l.getD (j - a) 0 else f j) →
      ∃ B', loopO (fun (σ : (List Int) × Int) => rivetref05_Memory_Place.b18 l (a : Int) σ.1 σ.2) (C, (i : Int)) = some B' ∧ RB B' n fun j => if a ≤ j ∧ j < a + l.length then l.getD (j - a) 0 else f j := by
    intro m
    induction m with
    | zero =>
      intro i C hi hC
      have : i = l.length := by omega
      subst this
      refine ⟨C, loopO_done ?_, hC⟩
      show rivetref05_Memory_Place.b18 _ _ _ _ = _
      unfold rivetref05_Memory_Place.b18
      rw [if_neg (by omega)]
    | succ m ih =>
      intro i C hi hC
      have hx := hl _ (getD_mem (show i < l.length by omega))
      obtain ⟨C', h1, h2⟩ := hC.set hn (i := a + i) (by omega) hx.1 hx.2
      have : rivetref05_Memory_Place.b18 l (a : Int) C (i : Int) = some (.inl (C', ((i + 1 : Nat) : Int))) := by
        unfold rivetref05_Memory_Place.b18
        rw [if_pos (by omega), if_pos (by omega), ixu, Int.toNat_natCast, show w64 ((a : Int) + (i : Int)) = ((a + i : Nat) : Int) by rw [w64s (by omega) (by omega)]; omega, h1, Option.bind_some, w64s (by omega) (by omega)]
        rfl
      obtain ⟨B', h3, h4⟩ := ih (i + 1) C' (by omega) (by
        refine ⟨h2.len, fun j hj => ?_, fun j hj => ?_⟩
        · rw [h2.at' j hj]
          congr 1
          by_cases hj1 : j / 4 = a + i
          · rw [if_pos hj1, if_pos (by omega), show j / 4 - a = i by omega]
          · rw [if_neg hj1]
            by_cases hj2 : a ≤ j / 4 ∧ j / 4 < a + i
            · rw [if_pos hj2, if_pos (by omega)]
            · rw [if_neg hj2, if_neg (by omega)]
        · have := h2.lo j hj
          by_cases hj1 : j = a + i
          · rw [if_pos (by omega), show j - a = i by omega]; exact hx
          · rw [if_neg hj1] at this
            by_cases hj2 : a ≤ j ∧ j < a + i
            · rw [if_pos hj2] at this; rw [if_pos (by omega)]; exact this
            · rw [if_neg hj2] at this; rw [if_neg (by omega)]; exact this)
      refine ⟨B', ?_, h4⟩
      rw [loopO_next (b := fun (σ : (List Int) × Int) => rivetref05_Memory_Place.b18 l (a : Int) σ.1 σ.2) (s := (C, (i : Int))) this]
      exact h3
  obtain ⟨B', h1, h2⟩ := key l.length 0 B (by omega) ⟨hlen, fun j hj => by rw [h.at' j hj, if_neg (by omega)], fun j hj => by rw [if_neg (by omega)]; exact h.lo j hj⟩
  refine ⟨B', ?_, h2⟩
  unfold rivetref05_Memory_Place
  dsimp only [nm]
  rw [e, if_neg (by omega), if_neg (by omega), w64s (x := (n : Int) - _) (by omega) (by omega), decide_eq_false (by omega)]
  unfold rivetref05_Memory_Place.j1 rivetref05_Memory_Place.j2
  rw [if_neg (by simp)]
  dsimp only
  rw [show (0 : Int) = ((0 : Nat) : Int) from rfl, h1]
  rfl
end
theorem ref5_new {n : Nat} (hn : n ≤ 4096) : ∃ B, rivetref05_New (n : Int) = some (some ⟨B⟩, 0) ∧ RB B n fun _ => 0 := by
  refine ⟨List.replicate (4 * n) 0, ?_, by simp, fun j hj => ?_, fun i hi => ⟨by omega, by omega⟩⟩
  · unfold rivetref05_New rivetref05_New.j1 rivetref05_New.j2
    rw [if_neg (by omega), decide_eq_false (by omega), if_neg (by simp), show w64 (4 * (n : Int)) = ((4 * n : Nat) : Int) by rw [w64s (by omega) (by omega)]; omega, if_pos (by omega)]
    rfl
  · rw [List.getD_eq_getElem?_getD, List.getElem?_replicate, if_pos hj]
    have h4 : j % 4 < 4 := Nat.mod_lt _ (by omega)
    rcases (by omega : j % 4 = 0 ∨ j % 4 = 1 ∨ j % 4 = 2 ∨ j % 4 = 3) with hk | hk | hk | hk <;> rw [hk] <;> rfl
/-! ### the machine's -/
theorem clone_is {l : List Int} (h : l.length ≤ 1000000000000) : slices_Clone_uint32_uint32 l = some l := by
  unfold slices_Clone_uint32_uint32
  simp
  omega
abbrev mem0 (n : Int) : Smemory_Memory := ⟨Vector.replicate 4096 0, n⟩
abbrev regs0 : Sapi_Regs := ⟨Vector.replicate 16 0, 0, false, false, false, false⟩
theorem memnew_ok {n : Int} (h0 : 0 ≤ n) (h1 : n ≤ 4096) : memory_New n = some (some (mem0 n), 0) := by
  unfold memory_New memory_New.j1 memory_New.j2
  rw [if_neg (by omega), decide_eq_false (by omega), if_neg (by simp)]
theorem mnew_ok {n : Int} {l : List Int} (h0 : 0 ≤ n) (h1 : n ≤ 4096) (hl : l.length ≤ 1000000000000) : machine_New n l = some (some ⟨some (mem0 n), regs0, 0, 0, l, []⟩, 0) := by
  unfold machine_New
  rw [memnew_ok h0 h1, Option.bind_some]
  show (if (0 : Int) = 0 then _ else _) = _
  rw [if_pos rfl, clone_is hl]
  rfl
theorem place_ok {x : Smemory_Memory} {at' : Int} {l : List Int} (h0 : 0 ≤ at') (h1 : at' + l.length ≤ x.n) (h2 : x.n ≤ 4096) : memory_Memory_Place x at' l = some (0, { x with w := vcopy x.w at'.toNat l }) := by
  unfold memory_Memory_Place memory_Memory_Place.j1
  rw [if_neg (by omega), if_neg (by omega), w64s (by omega) (by omega), decide_eq_false (by omega), if_neg (by simp)]
  unfold memory_Memory_Place.j2
  rw [if_pos ⟨h0, by omega, h2⟩]
  rw [List.take_of_length_le (l := l) (by simp; omega)]

theorem few_is (l : List Int) : rivetlaw06_few l = some (l.take 20) := by
  have := mnn_ok (l.length : Int) 20 (by omega) (by omega)
  unfold rivetlaw06_few
  rw [if_pos ⟨this.1, this.2⟩, take_min l 20 (by omega)]
  rfl
theorem mem0_ok {n : Int} (h0 : 0 ≤ n) (h1 : n ≤ 4096) : OkM (mem0 n) := by
  refine ⟨h0, h1, fun j hj => ?_⟩
  rw [vx_get hj]
  simp
  exact ⟨by omega, by omega⟩
theorem vcopy_ok {y : Smemory_Memory} (h : OkM y) {a : Nat} {l : List Int} (hl : ∀ n ∈ l, W n) : OkM { y with w := vcopy y.w a l } := by
  refine ⟨h.n0, h.n1, fun j hj => ?_⟩
  show W (vx 0 (vcopy y.w a l) j)
  rw [vx_vcopy hj]
  split
  · rename_i hh; exact hl _ (getD_mem (by omega))
  · exact h.w j hj
theorem mstart_is {x : Smachine_Machine} {y : Smemory_Memory} (h : x.Memory = some y) (pc : Int) (s : Sapi_Regs) : machine_Machine_Start x pc s = some { x with s := s, pc := pc, status := 0 } := by
  unfold machine_Machine_Start
  rw [h, Option.bind_some, ← h]
theorem rstart_is {x : Srivetref06_Machine} {y : Srivetref05_Memory} (h : x.M = some y) (pc : Int) (s : Sapi_Regs) : rivetref06_Machine_Start x pc s = some { x with S := s, PC := pc, Status := 0 } := by
  unfold rivetref06_Machine_Start
  rw [h, Option.bind_some, ← h]
theorem rmnew_ok {n : Nat} {l : List Int} (hn : n ≤ 4096) (hl : l.length ≤ 1000000000000) : ∃ B, rivetref06_New (n : Int) l = some (some ⟨some ⟨B⟩, regs0, 0, 0, l, []⟩, 0) ∧ RB B n fun _ => 0 := by
  obtain ⟨B, h1, h2⟩ := ref5_new hn
  refine ⟨B, ?_, h2⟩
  unfold rivetref06_New
  rw [h1, Option.bind_some]
  show (if (0 : Int) = 0 then _ else _) = _
  rw [if_pos rfl, if_pos (by simp; omega)]
  rfl
/-- The machine that is made. -/
abbrev madeM (l : List Int) (x : Srivetlaw06_Set) : Smachine_Machine := ⟨some ⟨vcopy (Vector.replicate 4096 0) 0 l, ((l.length + 4 : Nat) : Int)⟩, x.S, x.PC, 0, x.In.take 20, []⟩
theorem made_is {l : List Int} {x : Srivetlaw06_Set} (hl : ∀ n ∈ l, W n) (h20 : l.length ≤ 20) (hi : ∀ n ∈ x.In, W n) :
    ∃ B, rivetlaw06_made l x = some (some (madeM l x), some ⟨some ⟨B⟩, x.S, x.PC, 0, x.In.take 20, []⟩) ∧ RB B (l.length + 4) fun j => if 0 ≤ j ∧ j < 0 + l.length then l.getD (j - 0) 0 else 0 := by
  have e4 : w64 ((l.length : Int) + 4) = ((l.length + 4 : Nat) : Int) := by rw [w64s (by omega) (by omega)]; omega
  have ht : (x.In.take 20).length ≤ 1000000000000 := by rw [List.length_take]; omega
  obtain ⟨B, h1, h2⟩ := rmnew_ok (n := l.length + 4) (l := x.In.take 20) (by omega) ht
  obtain ⟨B', h3, h4⟩ := h2.place (a := 0) (by omega) hl (by omega)
  refine ⟨B', ?_, h4⟩
  unfold rivetlaw06_made
  rw [few_is, Option.bind_some, e4, mnew_ok (by omega) (by omega) ht, Option.bind_some]
  show (rivetref06_New ((l.length + 4 : Nat) : Int) (x.In.take 20)).bind _ = _
  rw [h1, Option.bind_some]
  show rivetlaw06_made.j7 _ _ _ _ = _
  unfold rivetlaw06_made.j7
  rw [Option.bind_some, place_ok (by omega) (by show (0 : Int) + _ ≤ ((l.length + 4 : Nat) : Int); omega) (by show ((l.length + 4 : Nat) : Int) ≤ _; omega), Option.bind_some]
  show (rivetref05_Memory_Place ⟨B⟩ ((0 : Nat) : Int) l).bind _ = _
  rw [h3, Option.bind_some]
  show (machine_Machine_Start _ _ _).bind _ = _
  rw [mstart_is rfl, Option.bind_some, rstart_is rfl]
  rfl
theorem made_ok {l : List Int} {x : Srivetlaw06_Set} (hl : ∀ n ∈ l, W n) (h20 : l.length ≤ 20) (hi : ∀ n ∈ x.In, W n) (hs : OkR x.S) (hp : W x.PC) : OkMa (madeM l x) ⟨vcopy (Vector.replicate 4096 0) 0 l, ((l.length + 4 : Nat) : Int)⟩ :=
  ⟨rfl, vcopy_ok (mem0_ok (n := ((l.length + 4 : Nat) : Int)) (by omega) (by omega)) hl, hs, hp, fun n hn => hi n (List.mem_of_mem_take hn), by simp, by simp⟩
end Go.Proofs.Ytheccnbamcdpmaa.A06
