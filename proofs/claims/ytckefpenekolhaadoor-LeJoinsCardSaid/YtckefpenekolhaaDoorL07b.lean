/- Bytes as words: what le and its reference take, told by one function. No condition. -/
import Derived.Test.YtckefpenekolhaaDoorL07a
namespace Go.Proofs.YtckefpenekolhaaDoor.L07
set_option linter.unusedVariables false
set_option linter.unusedSimpArgs false
open Go Go.RowKit Go.Proofs.YtckefpenekolhaaDoor.E Go.Proofs.YtckefpenekolhaaDoor.T07
/-- The word at place i. -/
def wd (b : List Int) (i : Nat) : Int := b.getD (4 * i) 0 + 256 * b.getD (4 * i + 1) 0 + 65536 * b.getD (4 * i + 2) 0 + 16777216 * b.getD (4 * i + 3) 0
def wds (b : List Int) (n : Nat) : List Int := (List.range n).map (wd b)
theorem wds_succ (b : List Int) (n : Nat) : wds b (n + 1) = wds b n ++ [wd b n] := by
  unfold wds
  rw [List.range_succ, List.map_append]
  rfl
theorem wds_length (b : List Int) (n : Nat) : (wds b n).length = n := by unfold wds; simp
noncomputable def takeS (b : List Int) (n : Int) : List Int × Int := if n < 0 ∨ (b.length : Int) / 4 < n then ([], 3) else (wds b n.toNat, 0)
theorem bor_n {k : Nat} {x y : Nat} (hx : x < 2 ^ k) (hs : y * 2 ^ k + x < 4294967296) : bor .u32 (x : Int) ((y * 2 ^ k : Nat) : Int) = ((x + y * 2 ^ k : Nat) : Int) := by
  rw [bor_nat (by decide) (by omega) (by simp only [umax]; omega) (by omega) (by simp only [umax]; omega)]
  rw [Int.toNat_natCast, Int.toNat_natCast]
  have := Nat.two_pow_add_eq_or_of_lt hx y
  rw [Nat.mul_comm y (2 ^ k), Nat.or_comm, ← this, Nat.add_comm]
theorem word_of {a b c d : Int} (ha : 0 ≤ a ∧ a ≤ 255) (hb : 0 ≤ b ∧ b ≤ 255) (hc : 0 ≤ c ∧ c ≤ 255) (hd : 0 ≤ d ∧ d ≤ 255) :
    bor .u32 (bor .u32 (bor .u32 (wu32 a) (wu32 ((wu32 b) * 2 ^ 8))) (wu32 ((wu32 c) * 2 ^ 16))) (wu32 ((wu32 d) * 2 ^ 24)) = a + 256 * b + 65536 * c + 16777216 * d := by
  obtain ⟨a, rfl⟩ := Int.eq_ofNat_of_zero_le ha.1
  obtain ⟨b, rfl⟩ := Int.eq_ofNat_of_zero_le hb.1
  obtain ⟨c, rfl⟩ := Int.eq_ofNat_of_zero_le hc.1
  obtain ⟨d, rfl⟩ := Int.eq_ofNat_of_zero_le hd.1
  have e8 : (2 : Int) ^ 8 = 256 := by decide
  have e16 : (2 : Int) ^ 16 = 65536 := by decide
  have e24 : (2 : Int) ^ 24 = 16777216 := by decide
  have n8 : (2 : Nat) ^ 8 = 256 := by rfl
  have n16 : (2 : Nat) ^ 16 = 65536 := by rfl
  have n24 : (2 : Nat) ^ 24 = 16777216 := by rfl
  have w1 : wu32 (a : Int) = (a : Int) := by rw [wu32_eq]; omega
  have w2 : wu32 (wu32 (b : Int) * 2 ^ 8) = ((b * 2 ^ 8 : Nat) : Int) := by rw [wu32_eq, wu32_eq, e8, n8]; omega
  have w3 : wu32 (wu32 (c : Int) * 2 ^ 16) = ((c * 2 ^ 16 : Nat) : Int) := by rw [wu32_eq, wu32_eq, e16, n16]; omega
  have w4 : wu32 (wu32 (d : Int) * 2 ^ 24) = ((d * 2 ^ 24 : Nat) : Int) := by rw [wu32_eq, wu32_eq, e24, n24]; omega
  rw [w1, w2, w3, w4, bor_n (by rw [n8]; omega) (by rw [n8]; omega), bor_n (by rw [n8, n16]; omega) (by rw [n8, n16]; omega), bor_n (by rw [n8, n16, n24]; omega) (by rw [n8, n16, n24]; omega), n8, n16, n24]
  omega
theorem cut4 {b : List Int} {p j : Nat} (hj : j < 4) (hp : p + 4 ≤ b.length) : ((b.take (p + 4)).drop p).getD j 0 = b.getD (p + j) 0 := by
  rw [List.getD_eq_getElem?_getD, List.getD_eq_getElem?_getD, List.getElem?_drop, List.getElem?_take_of_lt (by omega)]
theorem take_step {b : List Int} (hl : b.length ≤ 1000000) (hb : By b) {n : Int} (hn : n ≤ (b.length : Int) / 4) {i : Nat} (hi : (i : Int) < n) : le_Take.b14 n b (wds b i) (i : Int) = some (.inl (wds b (i + 1), ((i + 1 : Nat) : Int))) := by
  unfold le_Take.b14
  have hp : 4 * i + 4 ≤ b.length := by omega
  have e1 : w64 (4 * (i : Int)) = ((4 * i : Nat) : Int) := by rw [w64s (by omega) (by omega)]; omega
  have e2 : w64 (((4 * i : Nat) : Int) + 4) = ((4 * i + 4 : Nat) : Int) := by rw [w64s (by omega) (by omega)]; omega
  rw [e1, e2, Int.toNat_natCast, Int.toNat_natCast]
  have hL : ((b.take (4 * i + 4)).drop (4 * i)).length = 4 := by rw [List.length_drop, List.length_take]; omega
  have c0 : ix (eI .u8).d ((b.take (4 * i + 4)).drop (4 * i)) (0 : Int) = b.getD (4 * i) 0 := cut4 (j := 0) (by omega) hp
  have c1 : ix (eI .u8).d ((b.take (4 * i + 4)).drop (4 * i)) (1 : Int) = b.getD (4 * i + 1) 0 := cut4 (j := 1) (by omega) hp
  have c2 : ix (eI .u8).d ((b.take (4 * i + 4)).drop (4 * i)) (2 : Int) = b.getD (4 * i + 2) 0 := cut4 (j := 2) (by omega) hp
  have c3 : ix (eI .u8).d ((b.take (4 * i + 4)).drop (4 * i)) (3 : Int) = b.getD (4 * i + 3) 0 := cut4 (j := 3) (by omega) hp
  rw [c0, c1, c2, c3, hL, word_of (getD_in hb (by omega)) (getD_in hb (by omega)) (getD_in hb (by omega)) (getD_in hb (by omega))]
  rw [if_pos hi, if_pos (by omega), if_pos (by omega), if_pos (by omega), if_pos (by omega), if_pos (by omega), if_pos (by rw [wds_length]; simp only [List.length_cons, List.length_nil]; omega), w64s (by omega) (by omega), wds_succ]
  rfl
theorem take_loop {b : List Int} (hl : b.length ≤ 1000000) (hb : By b) {n : Int} (hn : n ≤ (b.length : Int) / 4) : ∀ (m i : Nat), (i : Int) + m = n → loopO (fun σ : List Int × Int => le_Take.b14 n b σ.1 σ.2) (wds b i, (i : Int)) = some (wds b n.toNat)
  | 0, i, h => by
    have e : n.toNat = i := by omega
    rw [e]
    exact loopO_done (by unfold le_Take.b14; rw [if_neg (by omega)])
  | m + 1, i, h => by
    rw [loopO_next (take_step hl hb hn (show (i : Int) < n by omega))]
    exact take_loop hl hb hn m (i + 1) (by omega)
theorem take_is {b : List Int} (hl : b.length ≤ 1000000) (hb : By b) (n : Int) : le_Take b n = some (takeS b n) := by
  unfold le_Take takeS
  have e : w64 ((b.length : Int).tdiv 4) = (b.length : Int) / 4 := by rw [Int.tdiv_eq_ediv_of_nonneg (by omega), w64s (by omega) (by omega)]
  rw [e]
  by_cases h0 : n < 0
  · rw [if_pos h0, if_pos (.inl h0)]; rfl
  · rw [if_neg h0]
    by_cases h1 : (b.length : Int) / 4 < n
    · rw [decide_eq_true h1, if_pos (.inr h1)]; rfl
    · rw [decide_eq_false h1, if_neg (by omega)]
      unfold le_Take.j1 le_Take.j2
      rw [if_neg (by simp)]
      have := take_loop hl hb (n := n) (by omega) n.toNat 0 (by omega)
      have e0 : (wds b 0, ((0 : Nat) : Int)) = (([] : List Int), (0 : Int)) := rfl
      rw [e0] at this
      rw [this]
      rfl
theorem reftake_inner {b : List Int} (hl : b.length ≤ 1000000) (hb : By b) {i : Nat} (hi : 4 * i + 4 ≤ b.length) : loopO (fun σ : Int × Int => rivetref07_Take.b30 (i : Int) b σ.1 σ.2) (0, 3) = some (wd b i) := by
  have step : ∀ (x : Int) (k : Nat), 0 ≤ x → x < 16777216 → k < 4 → rivetref07_Take.b30 (i : Int) b x (k : Int) = some (.inl (x * 256 + b.getD (4 * i + k) 0, (k : Int) - 1)) := by
    intro x k h0 h1 hk
    have hx := getD_in hb (show 4 * i + k < b.length by omega)
    unfold rivetref07_Take.b30
    have e1 : w64 (4 * (i : Int)) = ((4 * i : Nat) : Int) := by rw [w64s (by omega) (by omega)]; omega
    have e2 : w64 (((4 * i : Nat) : Int) + (k : Int)) = ((4 * i + k : Nat) : Int) := by rw [w64s (by omega) (by omega)]; omega
    rw [e1, e2, ix8, if_pos (by omega), if_pos (by omega), w64s (x := (k : Int) - 1) (by omega) (by omega), wu32_eq, wu32_eq, wu32_eq, Int.emod_eq_of_lt (a := x * 256) (by omega) (by omega), Int.emod_eq_of_lt (a := b.getD (4 * i + k) 0) (by omega) (by omega), Int.emod_eq_of_lt (by omega) (by omega)]
    rfl
  have h0 := getD_in hb (show 4 * i < b.length by omega)
  have h1 := getD_in hb (show 4 * i + 1 < b.length by omega)
  have h2 := getD_in hb (show 4 * i + 2 < b.length by omega)
  have h3 := getD_in hb (show 4 * i + 3 < b.length by omega)
  rw [loopO_next (s' := (0 * 256 + b.getD (4 * i + 3) 0, 2)) (step 0 3 (by omega) (by omega) (by omega))]
  rw [loopO_next (s' := ((0 * 256 + b.getD (4 * i + 3) 0) * 256 + b.getD (4 * i + 2) 0, 1)) (step _ 2 (by omega) (by omega) (by omega))]
  rw [loopO_next (s' := (((0 * 256 + b.getD (4 * i + 3) 0) * 256 + b.getD (4 * i + 2) 0) * 256 + b.getD (4 * i + 1) 0, 0)) (step _ 1 (by omega) (by omega) (by omega))]
  rw [loopO_next (s' := ((((0 * 256 + b.getD (4 * i + 3) 0) * 256 + b.getD (4 * i + 2) 0) * 256 + b.getD (4 * i + 1) 0) * 256 + b.getD (4 * i) 0, -1)) (step _ 0 (by omega) (by omega) (by omega))]
  rw [loopO_done (r := (((0 * 256 + b.getD (4 * i + 3) 0) * 256 + b.getD (4 * i + 2) 0) * 256 + b.getD (4 * i + 1) 0) * 256 + b.getD (4 * i) 0) (by unfold rivetref07_Take.b30; rw [if_neg (show ¬ ((-1 : Int) ≥ 0) by omega)])]
  unfold wd
  congr 1
  omega
theorem reftake_step {b : List Int} (hl : b.length ≤ 1000000) (hb : By b) {n : Int} (hn : n ≤ (b.length : Int) / 4) {i : Nat} (hi : (i : Int) < n) : rivetref07_Take.b18 n b (wds b i) (i : Int) = some (.inl (wds b (i + 1), ((i + 1 : Nat) : Int))) := by
  unfold rivetref07_Take.b18
  rw [if_pos hi, reftake_inner hl hb (by omega)]
  simp only [Option.bind_some, rivetref07_Take.j3]
  rw [if_pos (by rw [wds_length]; simp only [List.length_cons, List.length_nil]; omega), w64s (by omega) (by omega), wds_succ]
  rfl
theorem reftake_loop {b : List Int} (hl : b.length ≤ 1000000) (hb : By b) {n : Int} (hn : n ≤ (b.length : Int) / 4) : ∀ (m i : Nat), (i : Int) + m = n → loopO (fun σ : List Int × Int => rivetref07_Take.b18 n b σ.1 σ.2) (wds b i, (i : Int)) = some (wds b n.toNat)
  | 0, i, h => by
    have e : n.toNat = i := by omega
    rw [e]
    exact loopO_done (by unfold rivetref07_Take.b18; rw [if_neg (by omega)])
  | m + 1, i, h => by
    rw [loopO_next (reftake_step hl hb hn (show (i : Int) < n by omega))]
    exact reftake_loop hl hb hn m (i + 1) (by omega)
theorem reftake_is {b : List Int} (hl : b.length ≤ 1000000) (hb : By b) (n : Int) : rivetref07_Take b n = some (takeS b n) := by
  unfold rivetref07_Take takeS
  have e : w64 ((b.length : Int).tdiv 4) = (b.length : Int) / 4 := by rw [Int.tdiv_eq_ediv_of_nonneg (by omega), w64s (by omega) (by omega)]
  rw [e]
  by_cases h0 : n < 0
  · rw [if_pos h0, if_pos (.inl h0)]; rfl
  · rw [if_neg h0]
    by_cases h1 : (b.length : Int) / 4 < n
    · rw [decide_eq_true h1, if_pos (.inr h1)]; rfl
    · rw [decide_eq_false h1, if_neg (by omega)]
      unfold rivetref07_Take.j1 rivetref07_Take.j2
      rw [if_neg (by simp)]
      have := reftake_loop hl hb (n := n) (by omega) n.toNat 0 (by omega)
      have e0 : (wds b 0, ((0 : Nat) : Int)) = (([] : List Int), (0 : Int)) := rfl
      rw [e0] at this
      rw [this]
      rfl
end Go.Proofs.YtckefpenekolhaaDoor.L07
