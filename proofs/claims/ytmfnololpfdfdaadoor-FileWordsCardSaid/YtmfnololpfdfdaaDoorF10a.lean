/- Words, and names, as bytes. No condition. -/
import Derived.Test.YtmfnololpfdfdaaDoorO09b
import Derived.Test.YtmfnololpfdfdaaDoorT10
namespace Go.Proofs.YtmfnololpfdfdaaDoor.L07
set_option linter.unusedVariables false
set_option linter.unusedSimpArgs false
open Go Go.RowKit Go.Proofs.YtmfnololpfdfdaaDoor.E Go.Proofs.YtmfnololpfdfdaaDoor.T09
def put4 (x : Int) : List Int := [x % 256, x / 256 % 256, x / 65536 % 256, x / 16777216 % 256]
def putS (l : List Int) : List Int := l.flatMap put4
theorem putS_length : ∀ l : List Int, (putS l).length = 4 * l.length
  | [] => rfl
  | a :: r => by
    have := putS_length r
    unfold putS at *
    rw [List.flatMap_cons, List.length_append, this]
    simp only [put4, List.length_cons, List.length_nil]
    omega
theorem putS_append (a b : List Int) : putS (a ++ b) = putS a ++ putS b := List.flatMap_append ..
theorem putS_one (x : Int) : putS [x] = put4 x := by simp [putS]
theorem put_step {l : List Int} (hl : l.length ≤ 1000000) (hw : Wd l) {i : Nat} (hi : i < l.length) : le_Put.b6 l (putS (l.take i)) (i : Int) = some (.inl (putS (l.take (i + 1)), ((i + 1 : Nat) : Int))) := by
  unfold le_Put.b6
  have hx := getD_in hw hi
  rw [ix32]
  have e8 : (2 : Int) ^ 8 = 256 := by decide
  have e16 : (2 : Int) ^ 16 = 65536 := by decide
  have e24 : (2 : Int) ^ 24 = 16777216 := by decide
  have hlen : (putS (l.take i)).length = 4 * i := by rw [putS_length, List.length_take, Nat.min_eq_left (by omega)]
  rw [if_pos (by omega), if_pos (by omega), if_pos (by rw [hlen]; simp only [List.length_cons, List.length_nil]; omega), w64s (by omega) (by omega), take_one hi, putS_append, putS_one, e8, e16, e24, wu8_eq, wu8_eq, wu8_eq, wu8_eq, Int.fdiv_eq_ediv_of_nonneg _ (by omega), Int.fdiv_eq_ediv_of_nonneg _ (by omega), Int.fdiv_eq_ediv_of_nonneg _ (by omega)]
  rfl
theorem put_loop {l : List Int} (hl : l.length ≤ 1000000) (hw : Wd l) : ∀ (n i : Nat), i + n = l.length → loopO (fun σ : List Int × Int => le_Put.b6 l σ.1 σ.2) (putS (l.take i), (i : Int)) = some (putS l)
  | 0, i, h => by
    rw [List.take_of_length_le (by omega)]
    exact loopO_done (by unfold le_Put.b6; rw [if_neg (by omega)])
  | n + 1, i, h => by
    rw [loopO_next (put_step hl hw (show i < l.length by omega))]
    exact put_loop hl hw n (i + 1) (by omega)
theorem put_is {l : List Int} (hl : l.length ≤ 1000000) (hw : Wd l) : le_Put l = some (putS l) := by
  unfold le_Put
  have := put_loop hl hw l.length 0 (by omega)
  have e : (putS (l.take 0), ((0 : Nat) : Int)) = (([] : List Int), (0 : Int)) := rfl
  rw [e] at this
  rw [this]
  rfl
theorem refput_inner {l : List Int} (hl : l.length ≤ 1000000) {i : Nat} (hi : i < l.length) {x : Int} (hx : 0 ≤ x ∧ x ≤ 4294967295) : loopO (fun σ : List Int × Int × Int => rivetref07_Put.b24 σ.1 σ.2.1 σ.2.2) (putS (l.take i), x, 0) = some (putS (l.take i) ++ put4 x) := by
  have hlen : (putS (l.take i)).length = 4 * i := by rw [putS_length, List.length_take, Nat.min_eq_left (by omega)]
  generalize putS (l.take i) = p at *
  have step : ∀ (q : List Int) (y k : Int), q.length ≤ 4 * i + 3 → 0 ≤ y ∧ y ≤ 4294967295 → 0 ≤ k → k < 4 → rivetref07_Put.b24 q y k = some (.inl (q ++ [y % 256], y / 256, k + 1)) := by
    intro q y k hq hy h0 h4
    unfold rivetref07_Put.b24
    rw [if_pos h4, if_pos (by simp only [List.length_cons, List.length_nil]; omega), wu8_eq, wu32_eq, w64s (by omega) (by omega), Int.tmod_eq_emod_of_nonneg hy.1, Int.tdiv_eq_ediv_of_nonneg hy.1, Int.emod_emod_of_dvd _ (Int.dvd_refl 256), Int.emod_eq_of_lt (a := y / 256) (by omega) (by omega)]
  rw [loopO_next (step p x 0 (by omega) hx (by omega) (by omega))]
  rw [loopO_next (step (p ++ [x % 256]) (x / 256) (0 + 1) (by simp only [List.length_append, List.length_cons, List.length_nil]; omega) (by omega) (by omega) (by omega))]
  rw [loopO_next (step (p ++ [x % 256] ++ [x / 256 % 256]) (x / 256 / 256) (0 + 1 + 1) (by simp only [List.length_append, List.length_cons, List.length_nil]; omega) (by omega) (by omega) (by omega))]
  rw [loopO_next (step (p ++ [x % 256] ++ [x / 256 % 256] ++ [x / 256 / 256 % 256]) (x / 256 / 256 / 256) (0 + 1 + 1 + 1) (by simp only [List.length_append, List.length_cons, List.length_nil]; omega) (by omega) (by omega) (by omega))]
  rw [loopO_done (r := p ++ [x % 256] ++ [x / 256 % 256] ++ [x / 256 / 256 % 256] ++ [x / 256 / 256 / 256 % 256]) (by unfold rivetref07_Put.b24; rw [if_neg (show ¬ ((0 : Int) + 1 + 1 + 1 + 1 < 4) by omega)])]
  have e1 : x / 256 / 256 = x / 65536 := by omega
  have e2 : x / 65536 / 256 = x / 16777216 := by omega
  rw [e1, e2]
  simp [put4]
theorem refput_step {l : List Int} (hl : l.length ≤ 1000000) (hw : Wd l) {i : Nat} (hi : i < l.length) : rivetref07_Put.b10 l (putS (l.take i)) (i : Int) = some (.inl (putS (l.take (i + 1)), ((i + 1 : Nat) : Int))) := by
  unfold rivetref07_Put.b10
  rw [ix32, if_pos (by omega), if_pos (by omega), refput_inner hl hi (getD_in hw hi)]
  simp only [Option.bind_some, rivetref07_Put.j1]
  rw [w64s (by omega) (by omega), take_one hi, putS_append, putS_one]
  rfl
theorem refput_loop {l : List Int} (hl : l.length ≤ 1000000) (hw : Wd l) : ∀ (n i : Nat), i + n = l.length → loopO (fun σ : List Int × Int => rivetref07_Put.b10 l σ.1 σ.2) (putS (l.take i), (i : Int)) = some (putS l)
  | 0, i, h => by
    rw [List.take_of_length_le (by omega)]
    exact loopO_done (by unfold rivetref07_Put.b10; rw [if_neg (by omega)])
  | n + 1, i, h => by
    rw [loopO_next (refput_step hl hw (show i < l.length by omega))]
    exact refput_loop hl hw n (i + 1) (by omega)
theorem refput_is {l : List Int} (hl : l.length ≤ 1000000) (hw : Wd l) : rivetref07_Put l = some (putS l) := by
  unfold rivetref07_Put
  have := refput_loop hl hw l.length 0 (by omega)
  have e : (putS (l.take 0), ((0 : Nat) : Int)) = (([] : List Int), (0 : Int)) := rfl
  rw [e] at this
  rw [this]
  rfl
theorem putS_by : ∀ l : List Int, By (putS l)
  | [], x, h => by cases h
  | a :: r, x, h => by
    have e : putS (a :: r) = put4 a ++ putS r := List.flatMap_cons ..
    rw [e, List.mem_append] at h
    rcases h with h | h
    · simp only [put4, List.mem_cons, List.not_mem_nil, or_false] at h
      rcases h with rfl | rfl | rfl | rfl <;> omega
    · exact putS_by r x h
/-- The word at place i. -/
def wd (b : List Int) (i : Nat) : Int := b.getD (4 * i) 0 + 256 * b.getD (4 * i + 1) 0 + 65536 * b.getD (4 * i + 2) 0 + 16777216 * b.getD (4 * i + 3) 0
def wds (b : List Int) (n : Nat) : List Int := (List.range n).map (wd b)
theorem wds_succ (b : List Int) (n : Nat) : wds b (n + 1) = wds b n ++ [wd b n] := by
  unfold wds
  rw [List.range_succ, List.map_append]
  rfl
theorem wds_length (b : List Int) (n : Nat) : (wds b n).length = n := by unfold wds; simp
noncomputable def takeS (b : List Int) (n : Int) : List Int × Int := if n < 0 ∨ (b.length : Int) / 4 < n then ([], 3) else (wds b n.toNat, 0)
theorem bor_n {k : Nat} {x y : Nat} (hx : x < 2 ^ k) (hs : y * 2 ^ k + x < 4294967296) : bor .u32 (x : Int) ((y * 2 ^ k : Nat) : Int) = ((x + y * 2 ^ k : Nat) : Int) := by
  rw [bor_nat (by decide) (by omega) (by simp only [umax]; omega) (by omega) (by simp only [umax]; omega)]
  rw [Int.toNat_natCast, Int.toNat_natCast]
  have := Nat.two_pow_add_eq_or_of_lt hx y
  rw [Nat.mul_comm y (2 ^ k), Nat.or_comm, ← this, Nat.add_comm]
theorem word_of {a b c d : Int} (ha : 0 ≤ a ∧ a ≤ 255) (hb : 0 ≤ b ∧ b ≤ 255) (hc : 0 ≤ c ∧ c ≤ 255) (hd : 0 ≤ d ∧ d ≤ 255) :
    bor .u32 (bor .u32 (bor .u32 (wu32 a) (wu32 ((wu32 b) * 2 ^ 8))) (wu32 ((wu32 c) * 2 ^ 16))) (wu32 ((wu32 d) * 2 ^ 24)) = a + 256 * b + 65536 * c + 16777216 * d := by
  obtain ⟨a, rfl⟩ := Int.eq_ofNat_of_zero_le ha.1
  obtain ⟨b, rfl⟩ := Int.eq_ofNat_of_zero_le hb.1
  obtain ⟨c, rfl⟩ := Int.eq_ofNat_of_zero_le hc.1
  obtain ⟨d, rfl⟩ := Int.eq_ofNat_of_zero_le hd.1
  have e8 : (2 : Int) ^ 8 = 256 := by decide
  have e16 : (2 : Int) ^ 16 = 65536 := by decide
  have e24 : (2 : Int) ^ 24 = 16777216 := by decide
  have n8 : (2 : Nat) ^ 8 = 256 := by rfl
  have n16 : (2 : Nat) ^ 16 = 65536 := by rfl
  have n24 : (2 : Nat) ^ 24 = 16777216 := by rfl
  have w1 : wu32 (a : Int) = (a : Int) := by rw [wu32_eq]; omega
  have w2 : wu32 (wu32 (b : Int) * 2 ^ 8) = ((b * 2 ^ 8 : Nat) : Int) := by rw [wu32_eq, wu32_eq, e8, n8]; omega
  have w3 : wu32 (wu32 (c : Int) * 2 ^ 16) = ((c * 2 ^ 16 : Nat) : Int) := by rw [wu32_eq, wu32_eq, e16, n16]; omega
  have w4 : wu32 (wu32 (d : Int) * 2 ^ 24) = ((d * 2 ^ 24 : Nat) : Int) := by rw [wu32_eq, wu32_eq, e24, n24]; omega
  rw [w1, w2, w3, w4, bor_n (by rw [n8]; omega) (by rw [n8]; omega), bor_n (by rw [n8, n16]; omega) (by rw [n8, n16]; omega), bor_n (by rw [n8, n16, n24]; omega) (by rw [n8, n16, n24]; omega), n8, n16, n24]
  omega
theorem cut4 {b : List Int} {p j : Nat} (hj : j < 4) (hp : p + 4 ≤ b.length) : ((b.take (p + 4)).drop p).getD j 0 = b.getD (p + j) 0 := by
  rw [List.getD_eq_getElem?_getD, List.getD_eq_getElem?_getD, List.getElem?_drop, List.getElem?_take_of_lt (by omega)]
theorem take_step {b : List Int} (hl : b.length ≤ 1000000) (hb : By b) {n : Int} (hn : n ≤ (b.length : Int) / 4) {i : Nat} (hi : (i : Int) < n) : le_Take.b14 n b (wds b i) (i : Int) = some (.inl (wds b (i + 1), ((i + 1 : Nat) : Int))) := by
  unfold le_Take.b14
  have hp : 4 * i + 4 ≤ b.length := by omega
  have e1 : w64 (4 * (i : Int)) = ((4 * i : Nat) : Int) := by rw [w64s (by omega) (by omega)]; omega
  have e2 : w64 (((4 * i : Nat) : Int) + 4) = ((4 * i + 4 : Nat) : Int) := by rw [w64s (by omega) (by omega)]; omega
  rw [e1, e2, Int.toNat_natCast, Int.toNat_natCast]
  have hL : ((b.take (4 * i + 4)).drop (4 * i)).length = 4 := by rw [List.length_drop, List.length_take]; omega
  have c0 : ix (eI .u8).d ((b.take (4 * i + 4)).drop (4 * i)) (0 : Int) = b.getD (4 * i) 0 := cut4 (j := 0) (by omega) hp
  have c1 : ix (eI .u8).d ((b.take (4 * i + 4)).drop (4 * i)) (1 : Int) = b.getD (4 * i + 1) 0 := cut4 (j := 1) (by omega) hp
  have c2 : ix (eI .u8).d ((b.take (4 * i + 4)).drop (4 * i)) (2 : Int) = b.getD (4 * i + 2) 0 := cut4 (j := 2) (by omega) hp
  have c3 : ix (eI .u8).d ((b.take (4 * i + 4)).drop (4 * i)) (3 : Int) = b.getD (4 * i + 3) 0 := cut4 (j := 3) (by omega) hp
  rw [c0, c1, c2, c3, hL, word_of (getD_in hb (by omega)) (getD_in hb (by omega)) (getD_in hb (by omega)) (getD_in hb (by omega))]
  rw [if_pos hi, if_pos (by omega), if_pos (by omega), if_pos (by omega), if_pos (by omega), if_pos (by omega), if_pos (by rw [wds_length]; simp only [List.length_cons, List.length_nil]; omega), w64s (by omega) (by omega), wds_succ]
  rfl
theorem take_loop {b : List Int} (hl : b.length ≤ 1000000) (hb : By b) {n : Int} (hn : n ≤ (b.length : Int) / 4) : ∀ (m i : Nat), (i : Int) + m = n → loopO (fun σ : List Int × Int => le_Take.b14 n b σ.1 σ.2) (wds b i, (i : Int)) = some (wds b n.toNat)
  | 0, i, h => by
    have e : n.toNat = i := by omega
    rw [e]
    exact loopO_done (by unfold le_Take.b14; rw [if_neg (by omega)])
  | m + 1, i, h => by
    rw [loopO_next (take_step hl hb hn (show (i : Int) < n by omega))]
    exact take_loop hl hb hn m (i + 1) (by omega)
theorem take_is {b : List Int} (hl : b.length ≤ 1000000) (hb : By b) (n : Int) : le_Take b n = some (takeS b n) := by
  unfold le_Take takeS
  have e : w64 ((b.length : Int).tdiv 4) = (b.length : Int) / 4 := by rw [Int.tdiv_eq_ediv_of_nonneg (by omega), w64s (by omega) (by omega)]
  rw [e]
  by_cases h0 : n < 0
  · rw [if_pos h0, if_pos (.inl h0)]; rfl
  · rw [if_neg h0]
    by_cases h1 : (b.length : Int) / 4 < n
    · rw [decide_eq_true h1, if_pos (.inr h1)]; rfl
    · rw [decide_eq_false h1, if_neg (by omega)]
      unfold le_Take.j1 le_Take.j2
      rw [if_neg (by simp)]
      have := take_loop hl hb (n := n) (by omega) n.toNat 0 (by omega)
      have e0 : (wds b 0, ((0 : Nat) : Int)) = (([] : List Int), (0 : Int)) := rfl
      rw [e0] at this
      rw [this]
      rfl
theorem reftake_inner {b : List Int} (hl : b.length ≤ 1000000) (hb : By b) {i : Nat} (hi : 4 * i + 4 ≤ b.length) : loopO (fun σ : Int × Int => rivetref07_Take.b30 (i : Int) b σ.1 σ.2) (0, 3) = some (wd b i) := by
  have step : ∀ (x : Int) (k : Nat), 0 ≤ x → x < 16777216 → k < 4 → rivetref07_Take.b30 (i : Int) b x (k : Int) = some (.inl (x * 256 + b.getD (4 * i + k) 0, (k : Int) - 1)) := by
    intro x k h0 h1 hk
    have hx := getD_in hb (show 4 * i + k < b.length by omega)
    unfold rivetref07_Take.b30
    have e1 : w64 (4 * (i : Int)) = ((4 * i : Nat) : Int) := by rw [w64s (by omega) (by omega)]; omega
    have e2 : w64 (((4 * i : Nat) : Int) + (k : Int)) = ((4 * i + k : Nat) : Int) := by rw [w64s (by omega) (by omega)]; omega
    rw [e1, e2, ix8, if_pos (by omega), if_pos (by omega), w64s (x := (k : Int) - 1) (by omega) (by omega), wu32_eq, wu32_eq, wu32_eq, Int.emod_eq_of_lt (a := x * 256) (by omega) (by omega), Int.emod_eq_of_lt (a := b.getD (4 * i + k) 0) (by omega) (by omega), Int.emod_eq_of_lt (by omega) (by omega)]
    rfl
  have h0 := getD_in hb (show 4 * i < b.length by omega)
  have h1 := getD_in hb (show 4 * i + 1 < b.length by omega)
  have h2 := getD_in hb (show 4 * i + 2 < b.length by omega)
  have h3 := getD_in hb (show 4 * i + 3 < b.length by omega)
  rw [loopO_next (s' := (0 * 256 + b.getD (4 * i + 3) 0, 2)) (step 0 3 (by omega) (by omega) (by omega))]
  rw [loopO_next (s' := ((0 * 256 + b.getD (4 * i + 3) 0) * 256 + b.getD (4 * i + 2) 0, 1)) (step _ 2 (by omega) (by omega) (by omega))]
  rw [loopO_next (s' := (((0 * 256 + b.getD (4 * i + 3) 0) * 256 + b.getD (4 * i + 2) 0) * 256 + b.getD (4 * i + 1) 0, 0)) (step _ 1 (by omega) (by omega) (by omega))]
  rw [loopO_next (s' := ((((0 * 256 + b.getD (4 * i + 3) 0) * 256 + b.getD (4 * i + 2) 0) * 256 + b.getD (4 * i + 1) 0) * 256 + b.getD (4 * i) 0, -1)) (step _ 0 (by omega) (by omega) (by omega))]
  rw [loopO_done (r := (((0 * 256 + b.getD (4 * i + 3) 0) * 256 + b.getD (4 * i + 2) 0) * 256 + b.getD (4 * i + 1) 0) * 256 + b.getD (4 * i) 0) (by unfold rivetref07_Take.b30; rw [if_neg (show ¬ ((-1 : Int) ≥ 0) by omega)])]
  unfold wd
  congr 1
  omega
theorem reftake_step {b : List Int} (hl : b.length ≤ 1000000) (hb : By b) {n : Int} (hn : n ≤ (b.length : Int) / 4) {i : Nat} (hi : (i : Int) < n) : rivetref07_Take.b18 n b (wds b i) (i : Int) = some (.inl (wds b (i + 1), ((i + 1 : Nat) : Int))) := by
  unfold rivetref07_Take.b18
  rw [if_pos hi, reftake_inner hl hb (by omega)]
  simp only [Option.bind_some, rivetref07_Take.j3]
  rw [if_pos (by rw [wds_length]; simp only [List.length_cons, List.length_nil]; omega), w64s (by omega) (by omega), wds_succ]
  rfl
theorem reftake_loop {b : List Int} (hl : b.length ≤ 1000000) (hb : By b) {n : Int} (hn : n ≤ (b.length : Int) / 4) : ∀ (m i : Nat), (i : Int) + m = n → loopO (fun σ : List Int × Int => rivetref07_Take.b18 n b σ.1 σ.2) (wds b i, (i : Int)) = some (wds b n.toNat)
  | 0, i, h => by
    have e : n.toNat = i := by omega
    rw [e]
    exact loopO_done (by unfold rivetref07_Take.b18; rw [if_neg (by omega)])
  | m + 1, i, h => by
    rw [loopO_next (reftake_step hl hb hn (show (i : Int) < n by omega))]
    exact reftake_loop hl hb hn m (i + 1) (by omega)
theorem reftake_is {b : List Int} (hl : b.length ≤ 1000000) (hb : By b) (n : Int) : rivetref07_Take b n = some (takeS b n) := by
  unfold rivetref07_Take takeS
  have e : w64 ((b.length : Int).tdiv 4) = (b.length : Int) / 4 := by rw [Int.tdiv_eq_ediv_of_nonneg (by omega), w64s (by omega) (by omega)]
  rw [e]
  by_cases h0 : n < 0
  · rw [if_pos h0, if_pos (.inl h0)]; rfl
  · rw [if_neg h0]
    by_cases h1 : (b.length : Int) / 4 < n
    · rw [decide_eq_true h1, if_pos (.inr h1)]; rfl
    · rw [decide_eq_false h1, if_neg (by omega)]
      unfold rivetref07_Take.j1 rivetref07_Take.j2
      rw [if_neg (by simp)]
      have := reftake_loop hl hb (n := n) (by omega) n.toNat 0 (by omega)
      have e0 : (wds b 0, ((0 : Nat) : Int)) = (([] : List Int), (0 : Int)) := rfl
      rw [e0] at this
      rw [this]
      rfl
theorem padded_is {n : Nat} (h : n ≤ 1000000) : le_padded (n : Int) = some (((n + 4) / 4 * 4 : Nat) : Int) := by
  unfold le_padded nm
  rw [w64s (x := 1 + (n : Int)) (by omega) (by omega), w64s (x := 1 + (n : Int) + 4) (by omega) (by omega), w64s (x := 1 + (n : Int) + 4 - 1) (by omega) (by omega), Int.tdiv_eq_ediv_of_nonneg (by omega), w64s (x := (1 + (n : Int) + 4 - 1) / 4) (by omega) (by omega), w64s (by omega) (by omega)]
  congr 1
  omega
def padS (l : List Int) : List Int := ((l.length : Int) :: l) ++ List.replicate ((l.length + 4) / 4 * 4 - 1 - l.length) 0
theorem padS_length (l : List Int) : (padS l).length = (l.length + 4) / 4 * 4 := by
  unfold padS
  simp only [List.length_append, List.length_cons, List.length_replicate]
  omega
theorem padS_by {l : List Int} (h : By l) (hl : l.length ≤ 255) : By (padS l) := by
  intro x hx
  unfold padS at hx
  rw [List.mem_append, List.mem_cons] at hx
  rcases hx with (rfl | hx) | hx
  · omega
  · exact h x hx
  · rw [(List.mem_replicate.1 hx).2]; omega
def putN (l : List Int) : List Int × Int := if nameS l = true then (padS l, 0) else ([], 9)
theorem nameS_len {l : List Int} (h : nameS l = true) : 1 ≤ l.length ∧ l.length ≤ 12 := by
  unfold nameS at h
  simp only [Bool.and_eq_true, decide_eq_true_eq] at h
  exact h.1.1.1
theorem pad_lput {l : List Int} {p : Nat} (hp : p = (l.length + 4) / 4 * 4) : lput ((List.replicate p 0).set 0 (l.length : Int)) 1 l = padS l := by
  obtain ⟨m, hm⟩ : ∃ m, p = m + 1 := ⟨p - 1, by omega⟩
  subst hm
  unfold lput padS
  rw [List.replicate_succ, List.set_cons_zero, List.length_cons, List.length_replicate, List.take_of_length_le (l := l) (by omega), Nat.add_comm 1 l.length, List.drop_succ_cons, List.drop_replicate, ← hp]
  have h2 : ((l.length : Int) :: List.replicate m 0).take 1 = [(l.length : Int)] := rfl
  rw [h2, show m + 1 - 1 - l.length = m - l.length by omega]
  simp
theorem putname_is {s : ByteArray} : le_PutName s = some (putN (bytesL s)) := by
  have hL := bytesL_length s
  unfold le_PutName putN
  rw [name_is]
  simp only [Option.bind_some]
  cases hn : nameS (bytesL s) with
  | false => rw [if_neg (by decide), if_neg (by decide)]
  | true =>
    have hl := nameS_len hn
    rw [if_pos rfl, if_pos rfl, padded_is (by omega), Option.bind_some]
    have e8 : wu8 (s.size : Int) = ((bytesL s).length : Int) := by rw [wu8_eq]; omega
    have hd : (eI .u8).d = 0 := rfl
    rw [e8, hd, Int.toNat_natCast]
    generalize hp : (s.size + 4) / 4 * 4 = p
    have h0 : (0 : Int).toNat = 0 := rfl
    have h1 : (1 : Int).toNat = 1 := rfl
    have hp16 : (p : Int) ≤ 16 := by omega
    have hp0 : 0 ≤ (p : Int) := Int.natCast_nonneg p
    have hpl : (p : Int) ≤ 281474976710656 := Int.le_trans hp16 (by decide)
    rw [h0, h1, pad_lput (by rw [hL, hp]), if_pos ⟨hp0, hpl⟩, if_pos (by rw [List.length_replicate]; omega), if_pos (by rw [List.length_set, List.length_replicate]; omega)]
theorem refput_pad : ∀ (m : Nat) (l : List Int), (l.length + m) % 4 = 0 → m < 4 → l.length ≤ 1000 → loopO (fun σ : List Int => rivetref07_PutName.b26 σ) l = some (l ++ List.replicate m 0)
  | 0, l, h, hm, hl => by
    rw [List.replicate_zero, List.append_nil]
    exact loopO_done (by unfold rivetref07_PutName.b26; rw [Int.tmod_eq_emod_of_nonneg (by omega), if_pos (by omega)])
  | m + 1, l, h, hm, hl => by
    rw [loopO_next (s' := l ++ [0])]
    · rw [refput_pad m (l ++ [0]) (by rw [List.length_append, List.length_cons, List.length_nil]; omega) (by omega) (by rw [List.length_append, List.length_cons, List.length_nil]; omega), List.replicate_succ, List.append_assoc]
      rfl
    · unfold rivetref07_PutName.b26
      rw [Int.tmod_eq_emod_of_nonneg (by omega), if_neg (by omega), if_pos (by simp only [List.length_cons, List.length_nil]; omega)]
theorem refputname_is {s : ByteArray} : rivetref07_PutName s = some (putN (bytesL s)) := by
  have hL := bytesL_length s
  unfold rivetref07_PutName putN
  rw [refname_is]
  simp only [Option.bind_some]
  cases hn : nameS (bytesL s) with
  | false => rfl
  | true =>
    have hl := nameS_len hn
    have e8 : wu8 (s.size : Int) = (s.size : Int) := by rw [wu8_eq]; omega
    rw [if_pos rfl, if_pos rfl, e8, if_pos (by simp only [List.length_cons, List.length_nil]; omega)]
    rw [refput_pad ((s.size + 4) / 4 * 4 - 1 - s.size) _ (by simp only [List.length_append, List.length_cons, List.length_nil]; omega) (by omega) (by simp only [List.length_append, List.length_cons, List.length_nil]; omega)]
    simp only [Option.bind_some, rivetref07_PutName.j1]
    unfold padS
    rw [hL]
    rfl
def zeros (l : List Int) : Bool := l.all fun x => decide (x = 0)
def takeN (b : List Int) : List Int × Int × Int :=
  if b.length = 0 then ([], 0, 3)
  else if b.length < ((b.getD 0 0).toNat + 4) / 4 * 4 then ([], 0, 3)
  else if nameS ((b.take (1 + (b.getD 0 0).toNat)).drop 1) = false then ([], 0, 9)
  else if zeros ((b.take (((b.getD 0 0).toNat + 4) / 4 * 4)).drop (1 + (b.getD 0 0).toNat)) = true then ((b.take (1 + (b.getD 0 0).toNat)).drop 1, (((b.getD 0 0).toNat + 4) / 4 * 4 : Nat), 0)
  else ([], 0, 6)
theorem le_zeros {b : List Int} {p n : Nat} {y : ByteArray} (hn : n ≤ 255) (hp : p ≤ 1000) : ∀ (m i : Nat), i + m = ((b.take p).drop (1 + n)).length → loopO (fun σ : ByteArray × Int => le_TakeName.b48 b (p : Int) (n : Int) σ.1 σ.2) (y, (i : Int)) = some (if zeros (((b.take p).drop (1 + n)).drop i) = true then .done y else .ret ((⟨#[]⟩ : ByteArray), 0, 6)) := by
  intro m
  have hlen : ((b.take p).drop (1 + n)).length ≤ p := by rw [List.length_drop, List.length_take]; omega
  have e : (w64 (1 + (n : Int))).toNat = 1 + n := by rw [w64s (by omega) (by omega)]; omega
  have key : ∀ i : Nat, le_TakeName.b48 b (p : Int) (n : Int) y (i : Int) = (if (i : Int) < (((b.take p).drop (1 + n)).length : Int) then (if ((b.take p).drop (1 + n)).getD i 0 = 0 then some (.inl (y, w64 ((i : Int) + 1))) else some (.inr (.ret ((⟨#[]⟩ : ByteArray), 0, 6)))) else some (.inr (.done y))) := by
    intro i
    unfold le_TakeName.b48 nm
    rw [e, Int.toNat_natCast, ix8]
    by_cases h : (i : Int) < (((b.take p).drop (1 + n)).length : Int)
    · rw [if_pos h, if_pos h, if_pos ⟨by omega, h⟩]
    · rw [if_neg h, if_neg h]
  generalize (b.take p).drop (1 + n) = L at *
  induction m with
  | zero =>
    intro i h
    rw [List.drop_of_length_le (by omega)]
    refine loopO_done ?_
    rw [key, if_neg (by omega)]
    rfl
  | succ m ih =>
    intro i h
    rw [drop_at (show i < L.length by omega)]
    by_cases hz : L.getD i 0 = 0
    · rw [loopO_next (s' := (y, ((i + 1 : Nat) : Int)))]
      · rw [ih (i + 1) (by omega)]
        unfold zeros
        rw [List.all_cons, hz]
        rfl
      · rw [key, if_pos (by omega), if_pos hz, w64s (by omega) (by omega)]
        rfl
    · refine loopO_done ?_
      rw [key, if_pos (by omega), if_neg hz]
      unfold zeros
      rw [List.all_cons, decide_eq_false hz]
      rfl
theorem ref_zeros {b : List Int} {p : Nat} (hp : p ≤ 1000) (hb : p ≤ b.length) : ∀ (m i : Nat), i + m = p → loopO (fun σ : Int => rivetref07_TakeName.b38 (p : Int) b σ) (i : Int) = some (if zeros ((b.take p).drop i) = true then .done () else .ret ((⟨#[]⟩ : ByteArray), 0, 6)) := by
  intro m
  induction m with
  | zero =>
    intro i h
    rw [List.drop_of_length_le (by rw [List.length_take]; omega)]
    refine loopO_done ?_
    unfold rivetref07_TakeName.b38
    rw [if_neg (by omega)]
    rfl
  | succ m ih =>
    intro i h
    have hi : i < (b.take p).length := by rw [List.length_take]; omega
    rw [drop_at hi]
    have e : (b.take p).getD i 0 = b.getD i 0 := by rw [List.getD_eq_getElem?_getD, List.getD_eq_getElem?_getD, List.getElem?_take_of_lt (by omega)]
    rw [e]
    by_cases hz : b.getD i 0 = 0
    · rw [loopO_next (s' := ((i + 1 : Nat) : Int))]
      · rw [ih (i + 1) (by omega)]
        unfold zeros
        rw [List.all_cons, hz]
        rfl
      · unfold rivetref07_TakeName.b38
        rw [ix8, if_pos (by omega), if_pos (by omega), if_pos hz, w64s (by omega) (by omega)]
        rfl
    · refine loopO_done ?_
      unfold rivetref07_TakeName.b38
      rw [ix8, if_pos (by omega), if_pos (by omega), if_neg hz]
      unfold zeros
      rw [List.all_cons, decide_eq_false hz]
      rfl
theorem take_by {b : List Int} (hb : By b) (n : Nat) : By (b.take n) := fun x hx => hb x (List.mem_of_mem_take hx)
theorem drop_by {b : List Int} (hb : By b) (n : Nat) : By (b.drop n) := fun x hx => hb x (List.mem_of_mem_drop hx)
theorem takename_is {b : List Int} (hb : By b) (hl : b.length ≤ 1000000) : le_TakeName b = some (strOfNums (takeN b).1, (takeN b).2) := by
  unfold le_TakeName takeN
  by_cases h0 : b.length = 0
  · rw [if_pos (by omega), if_pos h0]; rfl
  · have hx := getD_in hb (show 0 < b.length by omega)
    have hi : ix (eI .u8).d b (0 : Int) = b.getD 0 0 := ix8 b 0
    rw [if_neg (by omega), if_neg h0, if_pos (by omega), hi]
    obtain ⟨n, hn⟩ := Int.eq_ofNat_of_zero_le hx.1
    rw [hn]
    have hn2 : n ≤ 255 := by omega
    simp only [nm]
    rw [w64s (x := (n : Int)) (by omega) (by omega), padded_is (by omega), Int.toNat_natCast]
    simp only [Option.bind_some]
    by_cases h1 : b.length < (n + 4) / 4 * 4
    · rw [if_pos (by omega), if_pos h1]; rfl
    · rw [if_neg (by omega), if_neg h1, w64s (x := 1 + (n : Int)) (by omega) (by omega), if_pos (by omega)]
      have e1 : (1 + (n : Int)).toNat = 1 + n := by omega
      have e2 : (1 : Int).toNat = 1 := rfl
      rw [e1, e2, name_is, bytesL_nums (drop_by (take_by hb _) _)]
      simp only [Option.bind_some]
      cases hs : nameS ((b.take (1 + n)).drop 1) with
      | false => rfl
      | true =>
        rw [if_pos rfl, if_pos (by omega), if_neg (by simp)]
        have := le_zeros (b := b) (p := (n + 4) / 4 * 4) (n := n) (y := strOfNums ((b.take (1 + n)).drop 1)) hn2 (by omega) _ 0 (Nat.zero_add _)
        rw [List.drop_zero] at this
        have e0 : ((0 : Nat) : Int) = 0 := rfl
        rw [e0] at this
        rw [this]
        simp only [Option.bind_some]
        cases zeros ((b.take ((n + 4) / 4 * 4)).drop (1 + n)) <;> rfl
theorem reftakename_is {b : List Int} (hb : By b) (hl : b.length ≤ 1000000) : rivetref07_TakeName b = some (strOfNums (takeN b).1, (takeN b).2) := by
  unfold rivetref07_TakeName takeN
  by_cases h0 : b.length = 0
  · rw [if_pos (by omega), if_pos h0]; rfl
  · have hx := getD_in hb (show 0 < b.length by omega)
    have hi : ix (eI .u8).d b (0 : Int) = b.getD 0 0 := ix8 b 0
    rw [if_neg (by omega), if_neg h0, if_pos (by omega), hi]
    obtain ⟨n, hn⟩ := Int.eq_ofNat_of_zero_le hx.1
    rw [hn]
    have hn2 : n ≤ 255 := by omega
    simp only [nm]
    have ep : w64 (w64 ((w64 ((n : Int) + 4)).tdiv 4) * 4) = (((n + 4) / 4 * 4 : Nat) : Int) := by
      rw [w64s (x := (n : Int) + 4) (by omega) (by omega), Int.tdiv_eq_ediv_of_nonneg (by omega), w64s (x := ((n : Int) + 4) / 4) (by omega) (by omega), w64s (by omega) (by omega)]
      omega
    rw [w64s (x := (n : Int)) (by omega) (by omega), ep, Int.toNat_natCast]
    by_cases h1 : b.length < (n + 4) / 4 * 4
    · rw [if_pos (by omega), if_pos h1]; rfl
    · rw [if_neg (by omega), if_neg h1, w64s (x := 1 + (n : Int)) (by omega) (by omega), if_pos (by omega)]
      have e1 : (1 + (n : Int)).toNat = 1 + n := by omega
      have e2 : (1 : Int).toNat = 1 := rfl
      rw [e1, e2, refname_is, bytesL_nums (drop_by (take_by hb _) _)]
      simp only [Option.bind_some]
      cases hs : nameS ((b.take (1 + n)).drop 1) with
      | false => rfl
      | true =>
        rw [if_pos rfl, if_neg (by simp)]
        have := ref_zeros (b := b) (p := (n + 4) / 4 * 4) (by omega) (by omega) ((n + 4) / 4 * 4 - (1 + n)) (1 + n) (by omega)
        have e0 : ((1 + n : Nat) : Int) = 1 + (n : Int) := by omega
        rw [e0] at this
        rw [this]
        simp only [Option.bind_some]
        cases zeros ((b.take ((n + 4) / 4 * 4)).drop (1 + n)) <;> rfl
end Go.Proofs.YtmfnololpfdfdaaDoor.L07
