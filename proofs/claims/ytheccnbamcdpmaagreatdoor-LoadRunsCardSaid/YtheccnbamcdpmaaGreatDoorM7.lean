/- The engine, the walk and the plain law, part 7. No condition. -/
import Derived.Test.YtheccnbamcdpmaaGreatDoorM6
namespace Go.Proofs.YtheccnbamcdpmaaGreatDoor.ZD
set_option linter.unusedVariables false
set_option linter.unusedSimpArgs false
open Go Go.RowKit Go.Proofs.YtheccnbamcdpmaaGreatDoor.E
section
variable {L : List Int} {m : Smemory_Memory} {y : Srivetref05_Memory}
theorem refset_at {l : List Int} (hl : ∀ n ∈ l, W n) {p : Nat} : ∀ (r i : Nat) {L : List Int} {m : Smemory_Memory} {y : Srivetref05_Memory}, MR L m y → p + l.length ≤ L.length → i + r = l.length →
    ∃ L' m' y', loopO rivetref05_Memory_Place.b1 ((p : Int), (i : Int), y, l) = some y' ∧ MR L' m' y' ∧ m'.n = m.n ∧ L'.length = L.length ∧ ∀ j, L'.getD j 0 = if p + i ≤ j ∧ j < p + l.length then l.getD (j - p) 0 else L.getD j 0
  | 0, i, L, m, y, h, hle, e => by
    refine ⟨L, m, y, loopO_done ?_, h, rfl, rfl, fun j => by rw [if_neg (by omega)]⟩
    simp only [rivetref05_Memory_Place.b1]
    rw [if_neg (by omega)]
  | r + 1, i, L, m, y, h, hle, e => by
    have hL := h.le
    have hx : W (ix 0 l (i : Int)) := by
      show W (l.getD (i : Int).toNat 0)
      rw [Int.toNat_natCast, List.getD_eq_getElem?_getD, List.getElem?_eq_getElem (by omega)]
      exact hl _ (List.getElem_mem _)
    obtain ⟨y1, h1, h2⟩ := set_word h (k := p + i) (by omega) hx
    obtain ⟨L', m', y', k1, k2, k3, k4, k5⟩ := refset_at hl r (i + 1) h2 (by simpa using hle) (by omega)
    refine ⟨L', m', y', ?_, k2, k3, by rw [k4]; simp, fun j => ?_⟩
    · rw [← k1]
      refine loopO_next ?_
      simp only [rivetref05_Memory_Place.b1]
      have e1 : w64 ((p : Int) + (i : Int)) = ((p + i : Nat) : Int) := by rw [w64s (by omega) (by omega)]; omega
      have e2 : w64 ((i : Int) + 1) = ((i + 1 : Nat) : Int) := by rw [w64s (by omega) (by omega)]; omega
      rw [if_pos (by omega), if_pos (by omega), e1, h1, e2]
      rfl
    · rw [k5, getD_set _ _ _ _ (by omega)]
      by_cases c1 : p + (i + 1) ≤ j ∧ j < p + l.length
      · rw [if_pos c1, if_pos (by omega)]
      · rw [if_neg c1]
        by_cases c2 : j = p + i
        · subst c2
          rw [if_pos rfl, if_pos (by omega), Nat.add_sub_cancel_left]
          show l.getD (i : Int).toNat 0 = _
          rw [Int.toNat_natCast]
        · rw [if_neg c2, if_neg (by omega)]
theorem place_at (h : MR L m y) {p : Nat} {l : List Int} (hl : ∀ n ∈ l, W n) (hle : p + l.length ≤ L.length) : ∃ L' m' y', memory_Memory_Place m (p : Int) l = some (0, m') ∧ rivetref05_Memory_Place y (p : Int) l = some (0, y') ∧ MR L' m' y' ∧ L'.length = L.length ∧
    ∀ j, L'.getD j 0 = if p ≤ j ∧ j < p + l.length then l.getD (j - p) 0 else L.getD j 0 := by
  have hL := h.le
  have hn := h.n
  obtain ⟨L', m', y', k1, k2, k3, k4, k5⟩ := refset_at hl (p := p) l.length 0 h hle (by omega)
  have hc : (List.drop (Int.toNat (p : Int)) (List.take (Int.toNat m.n) (Vector.toList m.w))).length = L.length - p := by
    rw [hn, Int.toNat_natCast, Int.toNat_natCast, List.length_drop, List.length_take, Vector.length_toList]; omega
  refine ⟨L', ⟨vcopy m.w p l, m.n⟩, y', ?_, ?_, ⟨by rw [k4]; exact hn, k2.le, fun i hi => ?_, k2.ok, k2.len, k2.b⟩, k4, fun j => by rw [k5, Nat.add_zero]⟩
  · unfold memory_Memory_Place
    rw [if_neg (by omega), if_neg (by omega), w64s (by omega) (by omega), if_neg (by omega), if_pos (by omega), hc, if_pos (by rw [Int.toNat_natCast]; omega), List.take_of_length_le (by omega), Int.toNat_natCast]
  · have hlen := h.len
    unfold rivetref05_Memory_Place
    have e : w64 (Int.tdiv (y.B.length : Int) 4) = (L.length : Int) := by rw [Int.tdiv_eq_ediv_of_nonneg (by omega), w64s (by omega) (by omega)]; omega
    rw [e, if_neg (by omega), if_neg (by omega), w64s (by omega) (by omega), if_neg (by omega)]
    have k1 : loopO rivetref05_Memory_Place.b1 ((p : Int), 0, y, l) = some y' := k1
    rw [k1]
    rfl
  · show vx 0 (vcopy m.w p l) i = _
    rw [vx_vcopy (by omega), k5]
    by_cases c : p ≤ i ∧ i < p + l.length
    · rw [if_pos (by omega), if_pos (by omega)]
    · rw [if_neg (by omega), if_neg (by omega)]
      exact h.w i (by omega)
theorem place_no (h : MR L m y) {p : Int} {l : List Int} (hp : -4294967296 ≤ p ∧ p ≤ 4294967296) (hlen : l.length ≤ 1000000) (hno : p < 0 ∨ (L.length : Int) < p + l.length) : memory_Memory_Place m p l = some (11, m) ∧ rivetref05_Memory_Place y p l = some (11, y) := by
  have hL := h.le
  have hn := h.n
  have hlen' := h.len
  have e : w64 (Int.tdiv (y.B.length : Int) 4) = (L.length : Int) := by rw [Int.tdiv_eq_ediv_of_nonneg (by omega), w64s (by omega) (by omega)]; omega
  unfold memory_Memory_Place rivetref05_Memory_Place
  rw [e, hn, w64s (x := (L.length : Int) - p) (by omega) (by omega)]
  by_cases h0 : p < 0
  · rw [if_pos h0, if_pos h0]; exact ⟨rfl, rfl⟩
  · rw [if_neg h0, if_neg h0]
    by_cases h1 : p > (L.length : Int)
    · rw [if_pos h1, if_pos h1]; exact ⟨rfl, rfl⟩
    · rw [if_neg h1, if_neg h1, if_pos (by omega), if_pos (by omega)]; exact ⟨rfl, rfl⟩
theorem place_any (h : MR L m y) {p : Int} {l : List Int} (hp : -4294967296 ≤ p ∧ p ≤ 4294967296) (hl : ∀ n ∈ l, W n) (hlen : l.length ≤ 1000000) :
    ∃ e L' m' y', memory_Memory_Place m p l = some (e, m') ∧ rivetref05_Memory_Place y p l = some (e, y') ∧ MR L' m' y' := by
  by_cases hno : p < 0 ∨ (L.length : Int) < p + l.length
  · obtain ⟨h1, h2⟩ := place_no h hp hlen hno
    exact ⟨11, L, m, y, h1, h2, h⟩
  · obtain ⟨n, rfl⟩ := Int.eq_ofNat_of_zero_le (show 0 ≤ p by omega)
    obtain ⟨L', m', y', h1, h2, h3, _⟩ := place_at h (p := n) hl (by omega)
    exact ⟨0, L', m', y', h1, h2, h3⟩
end
end Go.Proofs.YtheccnbamcdpmaaGreatDoor.ZD
namespace Go.Proofs.YtheccnbamcdpmaaGreatDoor.ZD
set_option linter.unusedVariables false
set_option linter.unusedSimpArgs false
open Go Go.RowKit Go.Proofs.YtheccnbamcdpmaaGreatDoor.E
theorem band64 (x : Int) (n : Nat) (hn : n ≤ 62) : band .i64 x ((2 ^ n - 1 : Nat) : Int) = x % ((2 ^ n : Nat) : Int) := by
  have hp := p2pos n
  have hle : 2 ^ n ≤ 2 ^ 62 := Nat.pow_le_pow_right (by omega) hn
  have h62 : (2 : Nat) ^ 62 = 4611686018427387904 := by rfl
  unfold band
  rw [BitVec.toNat_and, BitVec.toNat_ofInt, BitVec.toNat_ofInt]
  have e64 : (((2 : Nat) ^ IntKind.i64.bits : Nat) : Int) = 18446744073709551616 := by rfl
  rw [e64]
  have e2 : (((2 ^ n - 1 : Nat) : Int) % 18446744073709551616).toNat = 2 ^ n - 1 := by
    rw [Int.emod_eq_of_lt (by omega) (by omega)]
    rfl
  rw [e2, and_low]
  have hd : ((2 ^ n : Nat) : Int) ∣ 18446744073709551616 := by
    refine ⟨((2 ^ (64 - n) : Nat) : Int), ?_⟩
    rw [← Int.natCast_mul, ← Nat.pow_add, show n + (64 - n) = 64 by omega]
    rfl
  have h1 : x % 18446744073709551616 % ((2 ^ n : Nat) : Int) = x % ((2 ^ n : Nat) : Int) := Int.emod_emod_of_dvd x hd
  have h0 : 0 ≤ x % 18446744073709551616 := Int.emod_nonneg x (by omega)
  have e3 : (((x % 18446744073709551616).toNat % 2 ^ n : Nat) : Int) = x % ((2 ^ n : Nat) : Int) := by
    rw [← h1, Int.natCast_emod, Int.toNat_of_nonneg h0]
  rw [e3]
  have b0 := Int.emod_nonneg x (show ((2 ^ n : Nat) : Int) ≠ 0 by omega)
  have b1 := Int.emod_lt_of_pos x (show (0 : Int) < ((2 ^ n : Nat) : Int) by omega)
  exact w64_id (by omega) (by omega)
theorem b15 (x : Int) : band .i64 x 15 = x % 16 := band64 x 4 (by omega)
theorem b3 (x : Int) : band .i64 x 3 = x % 4 := band64 x 2 (by omega)
theorem b16 (x : Int) : band .i64 x 65535 = x % 65536 := band64 x 16 (by omega)
theorem b17 (x : Int) : band .i64 x 131071 = x % 131072 := band64 x 17 (by omega)
theorem b20 (x : Int) : band .i64 x 1048575 = x % 1048576 := band64 x 20 (by omega)
theorem b24 (x : Int) : band .i64 x 16777215 = x % 16777216 := band64 x 24 (by omega)
theorem u8_15 {x : Int} (h0 : 0 ≤ x) (h1 : x ≤ 255) : w64 (band .u8 x 15) = x % 16 := by
  have e : band .u8 x 15 = x % 16 := by
    rw [band_nat h0 (by simp only [umax]; omega) (by omega) (by decide)]
    have := and_low x.toNat 4
    rw [show (15 : Int).toNat = 2 ^ 4 - 1 from rfl, this]
    omega
  rw [e, w64s (by omega) (by omega)]
theorem tmod_in (x : Int) {n : Int} (hn : 0 < n) (hn2 : n < 1000) : 0 ≤ (w64 (x.tmod n + n)).tmod n ∧ (w64 (x.tmod n + n)).tmod n < n := by
  have h2 := Int.tmod_lt_of_pos x hn
  have h3 := Int.lt_tmod_of_pos x hn
  rw [w64s (by omega) (by omega), Int.tmod_eq_emod_of_nonneg (by omega)]
  exact ⟨Int.emod_nonneg _ (by omega), Int.emod_lt_of_pos _ hn⟩
end Go.Proofs.YtheccnbamcdpmaaGreatDoor.ZD
namespace Go.Proofs.YtheccnbamcdpmaaGreatDoor.ZD
set_option linter.unusedVariables false
set_option linter.unusedSimpArgs false
open Go Go.RowKit Go.Proofs.YtheccnbamcdpmaaGreatDoor.E
theorem clone_is {l : List Int} (h : l.length < 1000000) : slices_Clone_uint32_uint32 l = some l := by
  unfold slices_Clone_uint32_uint32
  rw [if_pos (by simp only [List.length_nil]; omega)]
  rfl
/-- The base added at the sites. -/
def addAll (b : Int) (l s : List Int) : List Int := s.foldl (fun l x => l.set x.toNat (wu32 (l.getD x.toNat 0 + wu32 b))) l
theorem addAll_cons (b x : Int) (l s : List Int) : addAll b l (x :: s) = addAll b (l.set x.toNat (wu32 (l.getD x.toNat 0 + wu32 b))) s := rfl
theorem addAll_len (b : Int) : ∀ (s l : List Int), (addAll b l s).length = l.length
  | [], l => rfl
  | x :: s, l => by rw [addAll_cons, addAll_len b s, List.length_set]
theorem addAll_wd (b : Int) : ∀ (s l : List Int), Wd l → Wd (addAll b l s)
  | [], l, h => h
  | x :: s, l, h => by
    rw [addAll_cons]
    refine addAll_wd b s _ fun y hy => ?_
    rcases List.mem_or_eq_of_mem_set hy with h2 | h2
    · exact h y h2
    · rw [h2, wu32_eq]; omega
theorem img_loop {b : Int} {s : List Int} {N : Nat} (hsl : s.length < 1000000) (hs : ∀ x ∈ s, 0 ≤ x ∧ x < (N : Int)) : ∀ (n i : Nat) (l : List Int), i + n = s.length → l.length = N →
    loopO load_Image.b1 (b, (s.length : Int), (i : Int), s, l) = some (addAll b l (s.drop i))
  | 0, i, l, hi, hl => by
    rw [List.drop_of_length_le (by omega)]
    refine loopO_done ?_
    simp only [load_Image.b1]
    rw [if_neg (by omega)]
    rfl
  | n + 1, i, l, hi, hl => by
    have hlt : i < s.length := by omega
    have hx := hs _ (getD_mem hlt)
    rw [drop_at hlt, addAll_cons, ← img_loop hsl hs n (i + 1) _ (by omega) (by simpa using hl)]
    refine loopO_next ?_
    simp only [load_Image.b1]
    rw [if_pos (by omega), if_pos (by omega), ixn, if_pos (by omega), if_pos (by omega), w64s (by omega) (by omega)]
    rfl
theorem refimg_loop {b : Int} {s w : List Int} {y : List Sapi_Sym} {N : Nat} (hsl : s.length < 1000000) (hs : ∀ x ∈ s, 0 ≤ x ∧ x < (N : Int)) : ∀ (n i : Nat) (l : List Int), i + n = s.length → l.length = N →
    loopO rivetref12_Image.b1 (b, (i : Int), w, s, y, l) = some (addAll b l (s.drop i))
  | 0, i, l, hi, hl => by
    rw [List.drop_of_length_le (by omega)]
    refine loopO_done ?_
    simp only [rivetref12_Image.b1]
    rw [if_neg (by omega)]
    rfl
  | n + 1, i, l, hi, hl => by
    have hlt : i < s.length := by omega
    have hx := hs _ (getD_mem hlt)
    rw [drop_at hlt, addAll_cons, ← refimg_loop hsl hs n (i + 1) _ (by omega) (by simpa using hl)]
    refine loopO_next ?_
    simp only [rivetref12_Image.b1]
    rw [if_pos (by omega), if_pos (by omega), if_pos (by omega), ixn, if_pos (by omega), if_pos (by omega), w64s (by omega) (by omega)]
    rfl
section
variable {o : Sapi_Obj} {b : Int}
/-- Words at a base, of an object that may be. -/
theorem image_is (h : Ob o) (hm : mayS o = 0) (hn : o.Words.length ≤ 1024) (hs : ∀ x ∈ o.Sites, 0 ≤ x ∧ x < (o.Words.length : Int)) (hsl : o.Sites.length < 1000000) (hb : 0 ≤ b ∧ b ≤ 16384 ∧ b % 4 = 0) :
    load_Image o b = some (0, addAll b o.Words o.Sites) ∧ rivetref12_Image o b = some (0, addAll b o.Words o.Sites) := by
  have ht : Int.tmod b 4 = 0 := by rw [Int.tmod_eq_emod_of_nonneg hb.1]; exact hb.2.2
  constructor
  · unfold load_Image
    rw [obmay_is h, hm]
    simp only [Option.bind_some, if_true]
    have e : List.take 0 (List.replicate (Int.toNat (o.Words.length : Int)) (0 : Int)) ++ (List.take (List.length (List.replicate (Int.toNat (o.Words.length : Int)) (0 : Int))) o.Words ++ List.drop (0 + List.length (List.take (List.length (List.replicate (Int.toNat (o.Words.length : Int)) (0 : Int))) o.Words)) (List.replicate (Int.toNat (o.Words.length : Int)) (0 : Int))) = o.Words := by
      rw [Int.toNat_natCast, List.length_replicate, List.take_zero, List.nil_append, List.take_of_length_le (Nat.le_refl _), Nat.zero_add, List.drop_of_length_le (by simp), List.append_nil]
    have k := img_loop (b := b) hsl hs o.Sites.length 0 o.Words (by omega) rfl
    have k : loopO load_Image.b1 (b, (o.Sites.length : Int), 0, o.Sites, o.Words) = some (addAll b o.Words o.Sites) := k
    rw [if_neg (by omega), if_neg (by omega), if_pos ht, if_pos (by omega), e, k]
    rfl
  · unfold rivetref12_Image
    rw [refobmay_is h, hm]
    simp only [Option.bind_some, if_true]
    have k := refimg_loop (b := b) (w := o.Words) (y := o.Syms) hsl hs o.Sites.length 0 o.Words (by omega) rfl
    have k : loopO rivetref12_Image.b1 (b, 0, o.Words, o.Sites, o.Syms, o.Words) = some (addAll b o.Words o.Sites) := k
    rw [if_neg (by omega), if_neg (by omega), if_pos ht, if_pos (by simp only [List.length_nil]; omega), List.nil_append, k]
    rfl
def regsS (b mem : Int) : Sapi_Regs := ⟨vset (vset (Vector.replicate 16 0) (Int.toNat 13) (wu32 b)) (Int.toNat 14) (wu32 (w64 (4 * mem))), 0, false, false, false, false⟩
theorem W_wu32 (x : Int) : W (wu32 x) := by rw [wu32_eq]; exact W_mod x
theorem zero_ok : OkR ⟨Vector.replicate 16 0, 0, false, false, false, false⟩ := by
  refine ⟨fun j h0 h1 => ?_, ⟨Int.le_refl 0, by decide⟩⟩
  show W ((Vector.replicate 16 (0 : Int)).toList.getD j.toNat 0)
  rw [Vector.toList_replicate, rep_getD]
  exact ⟨Int.le_refl 0, by decide⟩
theorem regs_ok (b mem : Int) : OkR (regsS b mem) := okR_set (okR_set zero_ok (A := 13) (by decide) (W_wu32 b)) (A := 14) (by decide) (W_wu32 _)
/-- Both machines with an object. -/
theorem machine_is (h : Ob o) (hm : mayS o = 0) (hn : o.Words.length ≤ 1024) (hs : ∀ x ∈ o.Sites, 0 ≤ x ∧ x < (o.Words.length : Int)) (hsl : o.Sites.length < 1000000) {k mem : Nat} (hk : k ≤ 4096) (hmem : mem ≤ 4096) (hfit : k + o.Words.length ≤ mem)
    {inp : List Int} (hi : ∀ x ∈ inp, W x) (hil : inp.length < 1000000) :
    ∃ M m y, load_Machine o (4 * (k : Int)) (mem : Int) inp = some (.inr m) ∧ rivetref12_Machine o (4 * (k : Int)) (mem : Int) inp = some (.inr y) ∧ MM M m y ∧ Good 0 M := by
  obtain ⟨i1, i2⟩ := image_is (b := 4 * (k : Int)) h hm hn hs hsl (by omega)
  obtain ⟨n1, n2, n3⟩ := new_is hmem
  obtain ⟨L', m', y', p1, p2, p3, p4, p5⟩ := place_at n3 (p := k) (l := addAll (4 * (k : Int)) o.Words o.Sites) (addAll_wd _ _ _ h.w) (by rw [addAll_len, List.length_replicate]; exact hfit)
  have hd : w64 (Int.tdiv (4 * (k : Int)) 4) = (k : Int) := by rw [Int.tdiv_eq_ediv_of_nonneg (by omega), w64s (by omega) (by omega)]; omega
  have hc := clone_is hil
  have hc2 : ((List.length ([] : List Int) + inp.length) * 4) ≤ 140737488355328 := by simp only [List.length_nil]; omega
  refine ⟨⟨L', regsS (4 * (k : Int)) mem, wu32 (4 * (k : Int)), 0, inp, []⟩, ⟨some m', regsS (4 * (k : Int)) mem, wu32 (4 * (k : Int)), 0, inp, []⟩, ⟨some y', regsS (4 * (k : Int)) mem, wu32 (4 * (k : Int)), 0, inp, []⟩, ?_, ?_, ⟨m', y', rfl, rfl, p3⟩, ⟨regs_ok _ _, W_wu32 _, hi, Nat.le_refl 0⟩⟩
  · unfold load_Machine machine_New machine_Machine_Start load_Regs
    rw [i1, n1]
    simp only [Option.bind_some, if_true, hc, hd, p1]
    rfl
  · unfold rivetref12_Machine rivetref06_New rivetref06_Machine_Start rivetref12_Regs
    rw [i2, n2]
    simp only [Option.bind_some, if_true, if_pos hc2, hd, p2, List.nil_append]
    rfl
end
/-! ### the example -/
theorem shown_is : rivetlaw12_shown = some true := by
  have hob : Ob ⟨[4, 7], [0], []⟩ := ⟨by intro x hx; simp at hx; omega, by decide, by decide, by decide⟩
  have hm : mayS ⟨[4, 7], [0], []⟩ = 0 := by decide +kernel
  obtain ⟨h1, _⟩ := image_is (o := ⟨[4, 7], [0], []⟩) (b := 8) hob hm (by decide) (by intro x hx; simp at hx; subst hx; decide) (by decide) (by decide)
  have e : addAll 8 [4, 7] [0] = [12, 7] := by decide +kernel
  unfold rivetlaw12_shown
  rw [h1, Option.bind_some]
  simp only
  rw [e, same_is [12, 7] [12, 7] (by decide)]
  rfl
/-! ### the runs -/
theorem runs_loop {v : Int} (hv : 0 ≤ v ∧ v ≤ 255) : ∀ (n i : Nat) {M : MS} {p : Smachine_Machine} {q : Srivetref06_Machine}, i + n = (v % 41).toNat → MM M p q → Good i M →
    ∃ M' p' q' k, loopO rivetlaw12_LoadRuns.b1 (v, (i : Int), p, q) = some (.done (p', q')) ∧ MM M' p' q' ∧ Good k M' ∧ k ≤ 41
  | 0, i, M, p, q, hi, hm, hg => by
    refine ⟨M, p, q, i, loopO_done ?_, hm, hg, by omega⟩
    simp only [rivetlaw12_LoadRuns.b1]
    rw [Int.tmod_eq_emod_of_nonneg hv.1, w64s (by omega) (by omega), if_neg (by omega)]
  | n + 1, i, M, p, q, hi, hm, hg => by
    obtain ⟨p', q', a1, a2, a3, a4⟩ := step_is hm hg (by omega)
    obtain ⟨M', p2, q2, k, k1, k2⟩ := runs_loop hv n (i + 1) (by omega) a3 a4
    refine ⟨M', p2, q2, k, ?_, k2⟩
    rw [← k1]
    refine loopO_next ?_
    simp only [rivetlaw12_LoadRuns.b1]
    rw [Int.tmod_eq_emod_of_nonneg hv.1, w64s (x := v % 41) (by omega) (by omega), if_pos (by omega), a1, a2]
    obtain ⟨mm, yy, rfl, rfl, hmr⟩ := a3.ex
    simp only [Option.bind_some, if_true, machine_Machine_PC, machine_Machine_Regs]
    rw [w64s (by omega) (by omega)]
    simp
theorem few20 {l : List Int} : (0 : Int) ≤ mnn (l.length : Int) 20 ∧ mnn (l.length : Int) 20 ≤ (l.length : Int) := mnn_ok (l.length : Int) 20 (by omega) (by omega)
theorem Pure.LoadRuns (a0 : Srivetlaw12_Parts) (a1 : Srivetlaw12_Where) (a2 : Int) : (okSrivetlaw12_Parts a0) → (okSrivetlaw12_Where a1) → (In .u8 a2) → rivetlaw12_LoadRuns a0 a1 a2 = some true := by
  intro h0 h1 h2
  have h2 := h2.u8
  obtain ⟨o, f1, f2⟩ := fitobj_is (w := a0.Words) (b := a0.Bits) (ns := a0.Names) (fun x hx => (h0.1.1 x hx).u32) h0.2.2.1
  have hwl := f2.wl
  have hrl := ris_len f2.ris
  have hb5 : band .i64 a1.Base 31 = a1.Base % 32 := band64 a1.Base 5 (by omega)
  have hb4 : band .i64 a1.Mem 15 = a1.Mem % 16 := band64 a1.Mem 4 (by omega)
  obtain ⟨k, hk⟩ := Int.eq_ofNat_of_zero_le (show 0 ≤ a1.Base % 32 by omega)
  obtain ⟨e, he⟩ := Int.eq_ofNat_of_zero_le (show 0 ≤ a1.Mem % 16 by omega)
  have hbase : w64 (4 * band .i64 a1.Base 31) = 4 * (k : Int) := by rw [hb5, hk, w64s (by omega) (by omega)]
  have hmem : w64 (w64 (w64 (Int.tdiv (4 * (k : Int)) 4) + (o.Words.length : Int)) + band .i64 a1.Mem 15) = ((k + o.Words.length + e : Nat) : Int) := by
    rw [hb4, he, Int.tdiv_eq_ediv_of_nonneg (by omega), w64s (x := 4 * (k : Int) / 4) (by omega) (by omega), w64s (x := 4 * (k : Int) / 4 + _) (by omega) (by omega), w64s (by omega) (by omega)]
    omega
  have hin : ∀ x ∈ a1.In.take 20, W x := fun x hx => (h1.2.2.1 x (List.mem_of_mem_take hx)).u32
  obtain ⟨M, m, y, g1, g2, g3, g4⟩ := machine_is f2.ob f2.may (by omega) (fun x hx => ⟨f2.ris.lo x hx, f2.ris.hi x hx⟩) (by omega) (k := k) (mem := k + o.Words.length + e) (by omega) (by omega) (by omega) (inp := a1.In.take 20) hin (by rw [List.length_take]; omega)
  obtain ⟨M', p', q', n, r1, r2, r3, r4⟩ := runs_loop h2 (a2 % 41).toNat 0 (by omega) g3 g4
  have r1 : loopO rivetlaw12_LoadRuns.b1 (a2, 0, m, y) = some (.done (p', q')) := r1
  obtain ⟨mm, yy, rfl, rfl, hmr⟩ := r2.ex
  obtain ⟨w1, w2⟩ := words_is hmr
  have hle := hmr.le
  have ho := r3.out
  have s1 := same_is M'.L M'.L (by omega)
  have s2 := same_is M'.out M'.out (by omega)
  have hc := clone_is (l := M'.out) (by omega)
  have ht : a1.In.take (Int.toNat (mnn (a1.In.length : Int) 20)) = a1.In.take 20 := by rw [take_min _ 20 (by omega)]; rfl
  unfold rivetlaw12_LoadRuns
  rw [shown_is, f1]
  simp only [Option.bind_some]
  rw [if_pos few20, hbase, hmem, ht, g1]
  simp only [Option.bind_some]
  rw [g2]
  simp only [Option.bind_some, if_true, r1, w1, w2, s1, s2, decide_true, machine_Machine_Out, hc]
end Go.Proofs.YtheccnbamcdpmaaGreatDoor.ZD
namespace Go.Proofs.YtheccnbamcdpmaaGreatDoor.E
set_option linter.unusedVariables false
set_option linter.unusedSimpArgs false
open Go Go.RowKit
theorem vec_enc {n : Nat} {k : IntKind} (y : Vector Int n) : y.toList.map (Value.int k) = (List.range n).map fun j => Value.int k (vx 0 y j) := by
  apply List.ext_getElem
  · simp
  · intro i h1 h2
    have h : i < n := by simpa using h1
    simp [vx, h]
section
variable {X : Cx} {w : World}
/-- A row that came in. -/
structure Ro (X : Cx) (w : World) where
  T : Nat
  l : List (X.τ T)
  A : Option Addr
  cap : Nat
  f : Nat → List Value
  h : ∀ w', Kp [] w w' → X.Rr T f w' A cap l
/-- One of plain data. -/
def roP (T : Nat) (l : List (X.τ T)) (A : Option Addr) (cap : Nat) (h : Rd w (X.E T) A cap l) (hd : X.dp T = false := by rfl) : Ro X w :=
  ⟨T, l, A, cap, fun _ => [], fun w' hk => Rr_of hd (h.move fun a ha hl => hk.block a.block (h.lt ha hl) (by simp))⟩
/-- One whose elements lead on to rows. -/
def roD (T : Nat) (l : List (X.τ T)) (A : Option Addr) (cap : Nat) (f : Nat → List Value) (h : RdD X T f w A cap l) (hd : X.dp T = true := by rfl) : Ro X w :=
  ⟨T, l, A, cap, f, fun w' hk => Rr_of_deep hd (h.move hk)⟩
def roL : Nat → List (Ro X w) → List (Nat × AO X.τ)
  | _, [] => []
  | i, r :: s => (i, .ro r.T r.l) :: roL (i + 1) s
def roR (s : List (Ro X w)) : Rho := fun i => match s[i]? with
  | some r => some ⟨r.A, r.cap, r.l.length, (X.E r.T).sz⟩
  | none => none
theorem roL_ge : ∀ {s : List (Ro X w)} {k : Nat} {o : Nat}, o ∈ (roL k s).map Prod.fst → k ≤ o
  | _ :: s, k, o, h => by
    rcases List.mem_cons.1 h with rfl | h
    · exact Nat.le_refl _
    · exact Nat.le_of_succ_le (roL_ge (s := s) h)
theorem roL_nd : ∀ {s : List (Ro X w)} {k : Nat}, ((roL k s).map Prod.fst).Nodup
  | [], _ => List.nodup_nil
  | _ :: s, k => List.nodup_cons.2 ⟨fun h => by have := roL_ge (s := s) h; omega, roL_nd⟩
theorem roL_at : ∀ {s : List (Ro X w)} {k : Nat} {p : Nat × AO X.τ}, p ∈ roL k s → ∃ i r, p = (k + i, .ro r.T r.l) ∧ s[i]? = some r
  | r :: s, k, p, h => by
    rcases List.mem_cons.1 h with rfl | h
    · exact ⟨0, r, rfl, rfl⟩
    · obtain ⟨i, q, h1, h2⟩ := roL_at (s := s) h
      exact ⟨i + 1, q, by rw [h1, Nat.add_right_comm, Nat.add_assoc], h2⟩
theorem roR_none {s : List (Ro X w)} {i : Nat} (h : s.length ≤ i) : roR s i = none := by
  unfold roR
  rw [List.getElem?_eq_none h]
theorem cov_nil {α : Type} {f : α → Asn} : ∀ {l : List α}, (∀ x ∈ l, f x []) → Cov (l.map f) []
  | [], _ => rfl
  | a :: r, h => ⟨[], [], rfl, h a List.mem_cons_self, cov_nil fun x hx => h x (List.mem_cons_of_mem _ hx)⟩
theorem roRel (s : List (Ro X w)) : RelL X [] w (roR s) (lk' (roL 0 s)) (roL 0 s) w := by
  refine ⟨roL_nd, fun o x => ⟨lk'_mem, lk'_of roL_nd⟩, ?_⟩
  obtain ⟨L, hL, hs⟩ := St.nil w
  cases hL
  refine ⟨[], cov_nil fun p hp => ?_, hs⟩
  obtain ⟨i, r, rfl, h2⟩ := roL_at hp
  refine ⟨rfl, ⟨r.A, r.cap, r.l.length, (X.E r.T).sz⟩, ?_, rfl, rfl, r.f, r.h⟩
  show roR s (0 + i) = _
  unfold roR
  rw [Nat.zero_add, h2]
/-- A law: from what came in to what it answers. -/
theorem CtOk.law {C : Ct X} {F : HLs C.I → Option C.O} (hc : CtOk C F) (s : List (Ro X w)) {h : HLs C.I} {h' : C.O} (hF : F h = some h') {args : List Value}
    (e : (fOs X id (fun _ => 0) C.oi (fAs X id C.ai h).2).1 = roL 0 s) (ha : AVs (roR s) (fAs X id C.ai h).1 args) (hm : Nat.ble s.length C.m = true) :
    Calls X.P C.f args.toArray w fun x w' => ∃ v, x = .returned v ∧ PostL X C.mo [] w (roR s) v w' (C.ao, C.oo) C.al h' :=
  hc h h' hF [] w (roR s) (roL 0 s) args (by rw [e]; exact roRel s) ha fun i hi => roR_none (Nat.le_trans (Nat.le_of_ble_eq_true hm) hi)
theorem CR_row {s : List (Ro X w)} {i : Nat} {r : Ro X w} (h : s[i]? = some r) : CR (roR s) (.sl i) [.slice r.A r.l.length r.cap] := ⟨_, by unfold roR; rw [h], rfl⟩
end
end Go.Proofs.YtheccnbamcdpmaaGreatDoor.E
