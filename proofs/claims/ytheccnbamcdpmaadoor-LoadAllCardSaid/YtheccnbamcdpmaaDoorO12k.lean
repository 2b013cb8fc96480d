/- The reference's memory: bytes that are words. No condition. -/
import Derived.Test.YtheccnbamcdpmaaDoorO12h
namespace Go.Proofs.YtheccnbamcdpmaaDoor.O12
set_option linter.unusedVariables false
set_option linter.unusedSimpArgs false
open Go Go.RowKit Go.Proofs.YtheccnbamcdpmaaDoor.E Go.Proofs.YtheccnbamcdpmaaDoor.T12 Go.Proofs.YtheccnbamcdpmaaDoor.L07
open Go.Proofs.YtheccnbamcdpmaaDoor.C08 (getD_set)
def byt (x : Int) (k : Nat) : Int := match k with
  | 0 => x % 256
  | 1 => x / 256 % 256
  | 2 => x / 65536 % 256
  | _ => x / 16777216 % 256
/-- The bytes are those of so many words. -/
structure RB (B : List Int) (n : Nat) (f : Nat → Int) : Prop where
  len : B.length = 4 * n
  at' : ∀ j, j < 4 * n → B.getD j 0 = byt (f (j / 4)) (j % 4)
  lo : ∀ i, i < n → 0 ≤ f i ∧ f i ≤ 4294967295
theorem ix8 (l : List Int) (i : Nat) : ix (eI .u8).d l (i : Int) = l.getD i 0 := rfl
section
variable {B : List Int} {n : Nat} {f : Nat → Int}
theorem RB.get (h : RB B n f) (hn : n ≤ 4096) {i : Nat} (hi : i < n) : rivetref05_Memory_get ⟨B⟩ (i : Int) = some (f i) := by
  have hl := h.len
  have e1 : w64 (4 * (i : Int)) = ((4 * i : Nat) : Int) := by rw [w64s (by omega) (by omega)]; omega
  have e2 : w64 (((4 * i : Nat) : Int) + 4) = ((4 * i + 4 : Nat) : Int) := by rw [w64s (by omega) (by omega)]; omega
  unfold rivetref05_Memory_get
  rw [e1, e2]
  have hd : ((B.take ((4 * i + 4 : Nat) : Int).toNat).drop ((4 * i : Nat) : Int).toNat).length = 4 := by
    rw [Int.toNat_natCast, Int.toNat_natCast]; simp; omega
  have hg : ∀ k, k < 4 → ((B.take ((4 * i + 4 : Nat) : Int).toNat).drop ((4 * i : Nat) : Int).toNat).getD k 0 = byt (f i) k := fun k hk => by
    rw [Int.toNat_natCast, Int.toNat_natCast]
    have := h.at' (4 * i + k) (by omega)
    rw [show (4 * i + k) / 4 = i by omega, show (4 * i + k) % 4 = k by omega] at this
    rw [← this]
    simp only [List.getD_eq_getElem?_getD, List.getElem?_drop, List.getElem?_take]
    rw [if_pos (by omega)]
  dsimp only
  generalize (B.take ((4 * i + 4 : Nat) : Int).toNat).drop ((4 * i : Nat) : Int).toNat = q at hd hg
  rw [if_pos ⟨by omega, by omega, by omega⟩, hd, if_pos (by decide), if_pos (by decide), if_pos (by decide), if_pos (by decide)]
  have g0 : ix (eI .u8).d q (0 : Int) = byt (f i) 0 := hg 0 (by omega)
  have g1 : ix (eI .u8).d q (1 : Int) = byt (f i) 1 := hg 1 (by omega)
  have g2 : ix (eI .u8).d q (2 : Int) = byt (f i) 2 := hg 2 (by omega)
  have g3 : ix (eI .u8).d q (3 : Int) = byt (f i) 3 := hg 3 (by omega)
  rw [g0, g1, g2, g3]
  have := h.lo i hi
  simp only [byt, wu32_eq]
  congr 1
  omega
theorem RB.set (h : RB B n f) (hn : n ≤ 4096) {i : Nat} (hi : i < n) {x : Int} (h0 : 0 ≤ x) (h1 : x ≤ 4294967295) : ∃ B', rivetref05_Memory_set ⟨B⟩ (i : Int) x = some ⟨B'⟩ ∧ RB B' n fun j => if j = i then x else f j := by
  have hl := h.len
  have e1 : w64 (4 * (i : Int)) = ((4 * i : Nat) : Int) := by rw [w64s (by omega) (by omega)]; omega
  have step : ∀ (l : List Int) (v : Int) (k : Nat), l.length = 4 * n → k < 4 → 0 ≤ v → v ≤ 4294967295 → rivetref05_Memory_set.b7 (i : Int) l v (k : Int) = some (.inl (l.set (4 * i + k) (v % 256), v / 256, ((k + 1 : Nat) : Int))) := fun l v k hlen hk v0 v1 => by
    unfold rivetref05_Memory_set.b7
    rw [e1, show w64 (((4 * i : Nat) : Int) + (k : Int)) = ((4 * i + k : Nat) : Int) by rw [w64s (by omega) (by omega)]; omega, if_pos (by omega), if_pos (by omega), Int.toNat_natCast, Int.tmod_eq_emod_of_nonneg v0, Int.tdiv_eq_ediv_of_nonneg v0, w64s (by omega) (by omega)]
    rw [show wu8 (v % 256) = v % 256 by rw [E.wu8_eq]; omega, wu32_id (by omega) (by omega)]
    rfl
  refine ⟨(((B.set (4 * i + 0) (x % 256)).set (4 * i + 1) (x / 256 % 256)).set (4 * i + 2) (x / 256 / 256 % 256)).set (4 * i + 3) (x / 256 / 256 / 256 % 256), ?_, ?_⟩
  · unfold rivetref05_Memory_set
    have hb : ∀ (l : List Int) (v w : Int), (fun (σ : (List Int) × Int × Int) => rivetref05_Memory_set.b7 (i : Int) σ.1 σ.2.1 σ.2.2) (l, v, w) = rivetref05_Memory_set.b7 (i : Int) l v w := fun _ _ _ => rfl
    rw [show (0 : Int) = ((0 : Nat) : Int) from rfl]
    rw [loopO_next ((hb _ _ _).trans (step B x 0 hl (by omega) h0 h1)), loopO_next ((hb _ _ _).trans (step _ (x / 256) 1 (by simp [hl]) (by omega) (by omega) (by omega))),
      loopO_next ((hb _ _ _).trans (step _ (x / 256 / 256) 2 (by simp [hl]) (by omega) (by omega) (by omega))), loopO_next ((hb _ _ _).trans (step _ (x / 256 / 256 / 256) 3 (by simp [hl]) (by omega) (by omega) (by omega)))]
    rw [loopO_done (show (fun (σ : (List Int) × Int × Int) => rivetref05_Memory_set.b7 (i : Int) σ.1 σ.2.1 σ.2.2) _ = some (.inr _) from by
      show rivetref05_Memory_set.b7 (i : Int) _ _ ((3 + 1 : Nat) : Int) = _
      unfold rivetref05_Memory_set.b7
      rw [if_neg (by omega)])]
    rfl
  · refine ⟨by simp [hl], fun j hj => ?_, fun j hj => ?_⟩
    · rw [getD_set (by simp; omega), getD_set (by simp; omega), getD_set (by simp; omega), getD_set (by simp; omega), h.at' j hj]
      by_cases hji : j / 4 = i
      · rw [if_pos hji]
        have h4 : j % 4 < 4 := Nat.mod_lt _ (by omega)
        rcases (by omega : j % 4 = 0 ∨ j % 4 = 1 ∨ j % 4 = 2 ∨ j % 4 = 3) with hk | hk | hk | hk <;> rw [hk]
        · rw [if_neg (by omega), if_neg (by omega), if_neg (by omega), if_pos (by omega)]; rfl
        · rw [if_neg (by omega), if_neg (by omega), if_pos (by omega)]; rfl
        · rw [if_neg (by omega), if_pos (by omega)]; show _ = x / 65536 % 256; omega
        · rw [if_pos (by omega)]; show _ = x / 16777216 % 256; omega
      · rw [if_neg hji, if_neg (by omega), if_neg (by omega), if_neg (by omega), if_neg (by omega)]
    · show 0 ≤ (if j = i then x else f j) ∧ (if j = i then x else f j) ≤ _
      split
      · exact ⟨h0, h1⟩
      · exact h.lo j hj
theorem RB.words (h : RB B n f) (hn : n ≤ 4096) : rivetref05_Memory_Words ⟨B⟩ = some ((List.range n).map f) := by
  have hl := h.len
  have e : w64 ((B.length : Int).tdiv 4) = (n : Int) := by rw [hl, Int.tdiv_eq_ediv_of_nonneg (by omega), w64s (by omega) (by omega)]; omega
  have key : ∀ (m i : Nat), i + m = n → loopO (fun (σ : (List Int) × Int) => rivetref05_Memory_Words.b18 ⟨B⟩ σ.1 σ.2) ((List.range i).map f, (i : Int)) = some ((List.range n).map f) := by
    intro m
    induction m with
    | zero =>
      intro i hi
      have : i = n := by omega
      subst this
      refine loopO_done ?_
      show rivetref05_Memory_Words.b18 _ _ (i : Int) = _
      unfold rivetref05_Memory_Words.b18
      dsimp only
      rw [e, if_neg (by omega)]
    | succ m ih =>
      intro i hi
      have : rivetref05_Memory_Words.b18 ⟨B⟩ ((List.range i).map f) (i : Int) = some (.inl ((List.range (i + 1)).map f, ((i + 1 : Nat) : Int))) := by
        unfold rivetref05_Memory_Words.b18
        dsimp only
        rw [e, if_pos (by omega), h.get hn (by omega), Option.bind_some, if_pos (by simp; omega), w64s (by omega) (by omega), List.range_succ, List.map_append]
        rfl
      rw [loopO_next (b := fun (σ : (List Int) × Int) => rivetref05_Memory_Words.b18 ⟨B⟩ σ.1 σ.2) (s := ((List.range i).map f, (i : Int))) this]
      exact ih (i + 1) (by omega)
  unfold rivetref05_Memory_Words
  have := key n 0 (by omega)
  rw [show ((0 : Nat) : Int) = 0 from rfl, List.range_zero, List.map_nil] at this
  rw [this]
  rfl
theorem RB.place (h : RB B n f) (hn : n ≤ 4096) {a : Nat} {l : List Int} (hl : Wd l) (hf : a + l.length ≤ n) : ∃ B', rivetref05_Memory_Place ⟨B⟩ (a : Int) l = some (0, ⟨B'⟩) ∧ RB B' n fun j => if a ≤ j ∧ j < a + l.length then l.getD (j - a) 0 else f j := by
  have hlen := h.len
  have e : w64 ((B.length : Int).tdiv 4) = (n : Int) := by rw [hlen, Int.tdiv_eq_ediv_of_nonneg (by omega), w64s (by omega) (by omega)]; omega
  have key : ∀ (m i : Nat) (C : List Int), i + m = l.length → RB C n (fun j => if a ≤ j ∧ j < a + i then l.getD (j - a) 0 else f j) →
      ∃ B', loopO (fun (σ : (List Int) × Int) => rivetref05_Memory_Place.b18 l (a : Int) σ.1 σ.2) (C, (i : Int)) = some B' ∧ RB B' n fun j => if a ≤ j ∧ j < a + l.length then l.getD (j - a) 0 else f j := by
    intro m
    induction m with
    | zero =>
      intro i C hi hC
      have : i = l.length := by omega
      subst this
      refine ⟨C, loopO_done ?_, hC⟩
      show rivetref05_Memory_Place.b18 _ _ _ _ = _
      unfold rivetref05_Memory_Place.b18
      rw [if_neg (by omega)]
    | succ m ih =>
      intro i C hi hC
      have hx := hl _ (getD_mem (show i < l.length by omega))
      obtain ⟨C', h1, h2⟩ := hC.set hn (i := a + i) (by omega) hx.1 hx.2
      have : rivetref05_Memory_Place.b18 l (a : Int) C (i : Int) = some (.inl (C', ((i + 1 : Nat) : Int))) := by
        unfold rivetref05_Memory_Place.b18
        rw [if_pos (by omega), if_pos (by omega), ixu, Int.toNat_natCast, show w64 ((a : Int) + (i : Int)) = ((a + i : Nat) : Int) by rw [w64s (by omega) (by omega)]; omega, h1, Option.bind_some, w64s (by omega) (by omega)]
        rfl
      obtain ⟨B', h3, h4⟩ := ih (i + 1) C' (by omega) (by
        refine ⟨h2.len, fun j hj => ?_, fun j hj => ?_⟩
        · rw [h2.at' j hj]
          congr 1
          by_cases hj1 : j / 4 = a + i
          · rw [if_pos hj1, if_pos (by omega), show j / 4 - a = i by omega]
          · rw [if_neg hj1]
            by_cases hj2 : a ≤ j / 4 ∧ j / 4 < a + i
            · rw [if_pos hj2, if_pos (by omega)]
            · rw [if_neg hj2, if_neg (by omega)]
        · have := h2.lo j hj
          by_cases hj1 : j = a + i
          · rw [if_pos (by omega), show j - a = i by omega]; exact hx
          · rw [if_neg hj1] at this
            by_cases hj2 : a ≤ j ∧ j < a + i
            · rw [if_pos hj2] at this; rw [if_pos (by omega)]; exact this
            · rw [if_neg hj2] at this; rw [if_neg (by omega)]; exact this)
      refine ⟨B', ?_, h4⟩
      rw [loopO_next (b := fun (σ : (List Int) × Int) => rivetref05_Memory_Place.b18 l (a : Int) σ.1 σ.2) (s := (C, (i : Int))) this]
      exact h3
  obtain ⟨B', h1, h2⟩ := key l.length 0 B (by omega) ⟨hlen, fun j hj => by rw [h.at' j hj, if_neg (by omega)], fun j hj => by rw [if_neg (by omega)]; exact h.lo j hj⟩
  refine ⟨B', ?_, h2⟩
  unfold rivetref05_Memory_Place
  dsimp only [nm]
  rw [e, if_neg (by omega), if_neg (by omega), w64s (x := (n : Int) - _) (by omega) (by omega), decide_eq_false (by omega)]
  unfold rivetref05_Memory_Place.j1 rivetref05_Memory_Place.j2
  rw [if_neg (by simp)]
  dsimp only
  rw [show (0 : Int) = ((0 : Nat) : Int) from rfl, h1]
  rfl
theorem RB.placeNo (h : RB B n f) (hn : n ≤ 4096) {a : Nat} {l : List Int} (ha : a ≤ 1000000000) (hf : n < a + l.length) : rivetref05_Memory_Place ⟨B⟩ (a : Int) l = some (11, ⟨B⟩) := by
  have hlen := h.len
  have e : w64 ((B.length : Int).tdiv 4) = (n : Int) := by rw [hlen, Int.tdiv_eq_ediv_of_nonneg (by omega), w64s (by omega) (by omega)]; omega
  unfold rivetref05_Memory_Place rivetref05_Memory_Place.j1
  dsimp only [nm]
  rw [e, if_neg (by omega)]
  by_cases h1 : (a : Int) > (n : Int)
  · rw [if_pos h1, if_pos rfl]
  · rw [if_neg h1, w64s (by omega) (by omega), decide_eq_true (by omega), if_pos rfl]
end
theorem ref5_new {n : Nat} (hn : n ≤ 4096) : ∃ B, rivetref05_New (n : Int) = some (some ⟨B⟩, 0) ∧ RB B n fun _ => 0 := by
  refine ⟨List.replicate (4 * n) 0, ?_, by simp, fun j hj => ?_, fun i hi => ⟨by omega, by omega⟩⟩
  · unfold rivetref05_New rivetref05_New.j1 rivetref05_New.j2
    rw [if_neg (by omega), decide_eq_false (by omega), if_neg (by simp), show w64 (4 * (n : Int)) = ((4 * n : Nat) : Int) by rw [w64s (by omega) (by omega)]; omega, if_pos (by omega)]
    rfl
  · rw [List.getD_eq_getElem?_getD, List.getElem?_replicate, if_pos hj]
    have h4 : j % 4 < 4 := Nat.mod_lt _ (by omega)
    rcases (by omega : j % 4 = 0 ∨ j % 4 = 1 ∨ j % 4 = 2 ∨ j % 4 = 3) with hk | hk | hk | hk <;> rw [hk] <;> rfl
theorem ref5_big {n : Int} (h : n < 0 ∨ 4096 < n) : rivetref05_New n = some (none, 2) := by
  unfold rivetref05_New rivetref05_New.j1
  by_cases h0 : n < 0
  · rw [if_pos h0, if_pos rfl]
  · rw [if_neg h0, decide_eq_true (by omega), if_pos rfl]
end Go.Proofs.YtheccnbamcdpmaaDoor.O12
