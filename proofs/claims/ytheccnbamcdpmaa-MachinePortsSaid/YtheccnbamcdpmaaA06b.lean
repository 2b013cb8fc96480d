/- Instructions as words, and which may be: the package isa and its reference. No condition. -/
import Derived.Test.YtheccnbamcdpmaaA06a
namespace Go.Proofs.Ytheccnbamcdpmaa.A06
set_option linter.unusedVariables false
set_option linter.unusedSimpArgs false
open Go Go.RowKit Go.Proofs.Ytheccnbamcdpmaa.E Go.Proofs.Ytheccnbamcdpmaa.T06
/-- The lowest n bits of a number. -/
def fld (f : Int) (n : Nat) : Nat := (f % ((2 ^ n : Nat) : Int)).toNat
theorem fld_lt (f : Int) (n : Nat) : fld f n < 2 ^ n := by
  unfold fld
  have := Int.emod_lt_of_pos f (show (0 : Int) < ((2 ^ n : Nat) : Int) by have := p2pos n; omega)
  have := Int.emod_nonneg f (show ((2 ^ n : Nat) : Int) ≠ 0 by have := p2pos n; omega)
  omega
theorem fld_int (f : Int) (n : Nat) : ((fld f n : Nat) : Int) = f % ((2 ^ n : Nat) : Int) := by
  unfold fld
  exact Int.toNat_of_nonneg (Int.emod_nonneg f (by have := p2pos n; omega))
theorem fld_w (f : Int) {n : Nat} (h : n ≤ 32) : (wu32 f).toNat % 2 ^ n = fld f n := by
  have hd : ((2 ^ n : Nat) : Int) ∣ 4294967296 := by
    refine ⟨((2 ^ (32 - n) : Nat) : Int), ?_⟩
    rw [← Int.natCast_mul, ← Nat.pow_add, show n + (32 - n) = 32 by omega]
    rfl
  have h1 : f % 4294967296 % ((2 ^ n : Nat) : Int) = f % ((2 ^ n : Nat) : Int) := Int.emod_emod_of_dvd f hd
  have h0 : 0 ≤ f % 4294967296 := Int.emod_nonneg f (by omega)
  have : (((wu32 f).toNat % 2 ^ n : Nat) : Int) = ((fld f n : Nat) : Int) := by
    rw [fld_int, ← h1, wu32_eq, Int.natCast_emod, Int.toNat_of_nonneg h0]
  omega
theorem lay_step {l : List (Vector Int 3)} {i v a n : Nat} {f : Int} (hv : v < 4294967296) (hz : v / 2 ^ a % 2 ^ n = 0) (h1 : 1 ≤ n) (h2 : a + n ≤ 32) (hl : l[i]? = some #v[(a : Int), (n : Int), f]) (hi : l.length < 1000) :
    loopO (fun σ : Int × Int => isa_lay.b5 l σ.1 σ.2) ((v : Int), (i : Int)) = loopO (fun σ : Int × Int => isa_lay.b5 l σ.1 σ.2) (((v + fld f n * 2 ^ a : Nat) : Int), ((i + 1 : Nat) : Int)) := by
  refine loopO_next ?_
  have hlt : i < l.length := (List.getElem?_eq_some_iff.1 hl).1
  have hx : ix eA109.d l (i : Int) = #v[(a : Int), (n : Int), f] := by
    show l.getD (i : Int).toNat _ = _
    rw [Int.toNat_natCast, List.getD_eq_getElem?_getD, hl]
    rfl
  have hw : wu32 f = (((wu32 f).toNat : Nat) : Int) := by rw [wu32_eq]; omega
  have hw2 : (wu32 f).toNat < 4294967296 := by rw [wu32_eq]; omega
  have hs := set_is hv hw2 h1 h2 hz
  rw [fld_w f (by omega)] at hs
  simp only [isa_lay.b5]
  rw [if_pos (by omega), if_pos (by omega), hx]
  have e0 : vx 0 (#v[(a : Int), (n : Int), f] : Vector Int 3) 0 = (a : Int) := rfl
  have e1 : vx 0 (#v[(a : Int), (n : Int), f] : Vector Int 3) 1 = (n : Int) := rfl
  have e2 : vx 0 (#v[(a : Int), (n : Int), f] : Vector Int 3) 2 = f := rfl
  rw [e0, e1, e2, hw, hs, w64s (by omega) (by omega)]
  rfl
theorem lay_end {l : List (Vector Int 3)} {v : Int} : loopO (fun σ : Int × Int => isa_lay.b5 l σ.1 σ.2) (v, (l.length : Int)) = some v := by
  refine loopO_done ?_
  simp only [isa_lay.b5]
  rw [if_neg (by omega)]
def b2n (b : Bool) : Nat := if b then 1 else 0
theorem head_is (f : Nat) (hf : f < 4) (u v : Bool) : isa_head (f : Int) u v = some #v[28, 4, ((4 * f + 2 * b2n u + b2n v : Nat) : Int)] := by
  have h : f = 0 ∨ f = 1 ∨ f = 2 ∨ f = 3 := by omega
  rcases h with rfl | rfl | rfl | rfl <;> cases u <;> cases v <;> rfl
theorem fld_small {x n : Nat} (h : x < 2 ^ n) : fld (x : Int) n = x := by
  unfold fld
  rw [Int.emod_eq_of_lt (by omega) (by omega)]
  rfl
theorem hd_lt (f : Nat) (hf : f < 4) (u v : Bool) : 4 * f + 2 * b2n u + b2n v < 16 := by cases u <;> cases v <;> simp [b2n] <;> omega
section
variable (A B C O M : Int) (U : Bool)
theorem word1 : isa_word ⟨1, O, A, B, C, M, U⟩ = some (((4 * 0 + 2 * b2n U + b2n false) * 268435456 + fld A 4 * 16777216 + fld B 4 * 1048576 + fld O 4 * 65536 + fld C 4 : Nat) : Int) := by
  unfold isa_word
  have hh := head_is 0 (by omega) U false
  have hb := hd_lt 0 (by omega) U false
  have ha := fld_lt A 4; have hb' := fld_lt B 4; have ho := fld_lt O 4; have hc := fld_lt C 4
  simp only [Int.natCast_zero, if_true] at hh ⊢
  rw [hh]
  simp only [Option.bind_some, isa_lay]
  generalize 4 * 0 + 2 * b2n U + b2n false = h at *
  have hq := fld_small (x := h) (n := 4) hb
  have s0 := lay_step (l := [#v[28, 4, (h : Int)], #v[24, 4, A], #v[20, 4, B], #v[16, 4, O], #v[0, 4, C]]) (i := 0) (v := 0) (a := 28) (n := 4) (f := (h : Int)) (by omega) (by decide) (by omega) (by omega) rfl (by simp)
  have s1 := lay_step (l := [#v[28, 4, (h : Int)], #v[24, 4, A], #v[20, 4, B], #v[16, 4, O], #v[0, 4, C]]) (i := 1) (v := 0 + fld (h : Int) 4 * 2 ^ 28) (a := 24) (n := 4) (f := A) (by rw [hq]; omega) (by rw [hq]; omega) (by omega) (by omega) rfl (by simp)
  have s2 := lay_step (l := [#v[28, 4, (h : Int)], #v[24, 4, A], #v[20, 4, B], #v[16, 4, O], #v[0, 4, C]]) (i := 2) (v := 0 + fld (h : Int) 4 * 2 ^ 28 + fld A 4 * 2 ^ 24) (a := 20) (n := 4) (f := B) (by rw [hq]; omega) (by rw [hq]; omega) (by omega) (by omega) rfl (by simp)
  have s3 := lay_step (l := [#v[28, 4, (h : Int)], #v[24, 4, A], #v[20, 4, B], #v[16, 4, O], #v[0, 4, C]]) (i := 3) (v := 0 + fld (h : Int) 4 * 2 ^ 28 + fld A 4 * 2 ^ 24 + fld B 4 * 2 ^ 20) (a := 16) (n := 4) (f := O) (by rw [hq]; omega) (by rw [hq]; omega) (by omega) (by omega) rfl (by simp)
  have s4 := lay_step (l := [#v[28, 4, (h : Int)], #v[24, 4, A], #v[20, 4, B], #v[16, 4, O], #v[0, 4, C]]) (i := 4) (v := 0 + fld (h : Int) 4 * 2 ^ 28 + fld A 4 * 2 ^ 24 + fld B 4 * 2 ^ 20 + fld O 4 * 2 ^ 16) (a := 0) (n := 4) (f := C) (by rw [hq]; omega) (by rw [hq]; omega) (by omega) (by omega) rfl (by simp)
  have e := ((((s0.trans s1).trans s2).trans s3).trans s4).trans (lay_end (l := [#v[28, 4, (h : Int)], #v[24, 4, A], #v[20, 4, B], #v[16, 4, O], #v[0, 4, C]]))
  simp only [Int.natCast_zero] at e
  rw [e]
  simp only [Option.bind_some, isa_lay.j1]
  rw [hq]
  congr 2
  omega
theorem word34 {K : Int} (hK : K = 3 ∨ K = 4) : isa_word ⟨K, O, A, B, C, M, U⟩ = some (((4 * 0 + 2 * b2n true + b2n (K == 4)) * 268435456 + fld A 4 * 16777216 : Nat) : Int) := by
  unfold isa_word
  have hh := head_is 0 (by omega) true (K == 4)
  have hb := hd_lt 0 (by omega) true (K == 4)
  have ha := fld_lt A 4
  have e3 : (if K = 3 then isa_word.j1 (⟨K, O, A, B, C, M, U⟩ : Sapi_Instr) true else isa_word.j1 ⟨K, O, A, B, C, M, U⟩ (K == 4)) = isa_word.j1 ⟨K, O, A, B, C, M, U⟩ true := by
    rcases hK with rfl | rfl
    · rw [if_pos rfl]
    · rw [if_neg (by decide), beq_self_eq_true]
  show (if K = 1 then _ else (if K = 3 then isa_word.j1 (⟨K, O, A, B, C, M, U⟩ : Sapi_Instr) true else isa_word.j1 ⟨K, O, A, B, C, M, U⟩ (K == 4))) = _
  rw [if_neg (by omega), e3]
  simp only [isa_word.j1, if_true]
  clear e3
  simp only [Int.natCast_zero] at hh
  rw [hh]
  simp only [Option.bind_some, isa_lay]
  generalize 4 * 0 + 2 * b2n true + b2n (K == 4) = h at *
  have hq := fld_small (x := h) (n := 4) hb
  have s0 := lay_step (l := [#v[28, 4, (h : Int)], #v[24, 4, A]]) (i := 0) (v := 0) (a := 28) (n := 4) (f := (h : Int)) (by omega) (by decide) (by omega) (by omega) rfl (by simp)
  have s1 := lay_step (l := [#v[28, 4, (h : Int)], #v[24, 4, A]]) (i := 1) (v := 0 + fld (h : Int) 4 * 2 ^ 28) (a := 24) (n := 4) (f := A) (by rw [hq]; omega) (by rw [hq]; omega) (by omega) (by omega) rfl (by simp)
  have e := (s0.trans s1).trans (lay_end (l := [#v[28, 4, (h : Int)], #v[24, 4, A]]))
  simp only [Int.natCast_zero] at e
  rw [e]
  simp only [Option.bind_some, isa_lay.j1]
  rw [hq]
  congr 2
  omega
theorem word2 : isa_word ⟨2, O, A, B, C, M, U⟩ = some (((4 * 1 + 2 * b2n U + b2n (decide (M < 0))) * 268435456 + fld A 4 * 16777216 + fld B 4 * 1048576 + fld O 4 * 65536 + fld M 16 : Nat) : Int) := by
  unfold isa_word
  have hh := head_is 1 (by omega) U (decide (M < 0))
  have hb := hd_lt 1 (by omega) U (decide (M < 0))
  have ha := fld_lt A 4; have hb' := fld_lt B 4; have ho := fld_lt O 4; have hc := fld_lt M 16
  simp only
  rw [if_neg (by omega), if_neg (by omega)]
  simp only [isa_word.j1]
  rw [if_neg (by simp), if_pos trivial]
  have hh : isa_head 1 U (decide (M < 0)) = _ := hh
  rw [hh]
  simp only [Option.bind_some, isa_lay]
  generalize 4 * 1 + 2 * b2n U + b2n (decide (M < 0)) = h at *
  have hq := fld_small (x := h) (n := 4) hb
  have s0 := lay_step (l := [#v[28, 4, (h : Int)], #v[24, 4, A], #v[20, 4, B], #v[16, 4, O], #v[0, 16, M]]) (i := 0) (v := 0) (a := 28) (n := 4) (f := (h : Int)) (by omega) (by decide) (by omega) (by omega) rfl (by simp)
  have s1 := lay_step (l := [#v[28, 4, (h : Int)], #v[24, 4, A], #v[20, 4, B], #v[16, 4, O], #v[0, 16, M]]) (i := 1) (v := 0 + fld (h : Int) 4 * 2 ^ 28) (a := 24) (n := 4) (f := A) (by rw [hq]; omega) (by rw [hq]; omega) (by omega) (by omega) rfl (by simp)
  have s2 := lay_step (l := [#v[28, 4, (h : Int)], #v[24, 4, A], #v[20, 4, B], #v[16, 4, O], #v[0, 16, M]]) (i := 2) (v := 0 + fld (h : Int) 4 * 2 ^ 28 + fld A 4 * 2 ^ 24) (a := 20) (n := 4) (f := B) (by rw [hq]; omega) (by rw [hq]; omega) (by omega) (by omega) rfl (by simp)
  have s3 := lay_step (l := [#v[28, 4, (h : Int)], #v[24, 4, A], #v[20, 4, B], #v[16, 4, O], #v[0, 16, M]]) (i := 3) (v := 0 + fld (h : Int) 4 * 2 ^ 28 + fld A 4 * 2 ^ 24 + fld B 4 * 2 ^ 20) (a := 16) (n := 4) (f := O) (by rw [hq]; omega) (by rw [hq]; omega) (by omega) (by omega) rfl (by simp)
  have s4 := lay_step (l := [#v[28, 4, (h : Int)], #v[24, 4, A], #v[20, 4, B], #v[16, 4, O], #v[0, 16, M]]) (i := 4) (v := 0 + fld (h : Int) 4 * 2 ^ 28 + fld A 4 * 2 ^ 24 + fld B 4 * 2 ^ 20 + fld O 4 * 2 ^ 16) (a := 0) (n := 16) (f := M) (by rw [hq]; omega) (by rw [hq]; omega) (by omega) (by omega) rfl (by simp)
  have e := ((((s0.trans s1).trans s2).trans s3).trans s4).trans (lay_end (l := [#v[28, 4, (h : Int)], #v[24, 4, A], #v[20, 4, B], #v[16, 4, O], #v[0, 16, M]]))
  simp only [Int.natCast_zero] at e
  rw [e]
  simp only [Option.bind_some, isa_lay.j1]
  rw [hq]
  congr 2
  omega
theorem word5 : isa_word ⟨5, O, A, B, C, M, U⟩ = some (((4 * 2 + 2 * b2n (decide (O ≥ 2)) + b2n (O.tmod 2 == 1)) * 268435456 + fld A 4 * 16777216 + fld B 4 * 1048576 + fld M 20 : Nat) : Int) := by
  unfold isa_word
  have hh := head_is 2 (by omega) (decide (O ≥ 2)) (O.tmod 2 == 1)
  have hb := hd_lt 2 (by omega) (decide (O ≥ 2)) (O.tmod 2 == 1)
  have ha := fld_lt A 4; have hb' := fld_lt B 4; have hc := fld_lt M 20
  simp only
  rw [if_neg (by omega), if_neg (by omega)]
  simp only [isa_word.j1]
  rw [if_neg (by simp), if_neg (by omega), if_pos trivial]
  have hh : isa_head 2 (decide (O ≥ 2)) (O.tmod 2 == 1) = _ := hh
  rw [hh]
  simp only [Option.bind_some, isa_lay]
  generalize 4 * 2 + 2 * b2n (decide (O ≥ 2)) + b2n (O.tmod 2 == 1) = h at *
  have hq := fld_small (x := h) (n := 4) hb
  have s0 := lay_step (l := [#v[28, 4, (h : Int)], #v[24, 4, A], #v[20, 4, B], #v[0, 20, M]]) (i := 0) (v := 0) (a := 28) (n := 4) (f := (h : Int)) (by omega) (by decide) (by omega) (by omega) rfl (by simp)
  have s1 := lay_step (l := [#v[28, 4, (h : Int)], #v[24, 4, A], #v[20, 4, B], #v[0, 20, M]]) (i := 1) (v := 0 + fld (h : Int) 4 * 2 ^ 28) (a := 24) (n := 4) (f := A) (by rw [hq]; omega) (by rw [hq]; omega) (by omega) (by omega) rfl (by simp)
  have s2 := lay_step (l := [#v[28, 4, (h : Int)], #v[24, 4, A], #v[20, 4, B], #v[0, 20, M]]) (i := 2) (v := 0 + fld (h : Int) 4 * 2 ^ 28 + fld A 4 * 2 ^ 24) (a := 20) (n := 4) (f := B) (by rw [hq]; omega) (by rw [hq]; omega) (by omega) (by omega) rfl (by simp)
  have s3 := lay_step (l := [#v[28, 4, (h : Int)], #v[24, 4, A], #v[20, 4, B], #v[0, 20, M]]) (i := 3) (v := 0 + fld (h : Int) 4 * 2 ^ 28 + fld A 4 * 2 ^ 24 + fld B 4 * 2 ^ 20) (a := 0) (n := 20) (f := M) (by rw [hq]; omega) (by rw [hq]; omega) (by omega) (by omega) rfl (by simp)
  have e := (((s0.trans s1).trans s2).trans s3).trans (lay_end (l := [#v[28, 4, (h : Int)], #v[24, 4, A], #v[20, 4, B], #v[0, 20, M]]))
  simp only [Int.natCast_zero] at e
  rw [e]
  simp only [Option.bind_some, isa_lay.j1]
  rw [hq]
  congr 2
  omega
theorem word6 : isa_word ⟨6, O, A, B, C, M, U⟩ = some (((4 * 3 + 2 * b2n false + b2n U) * 268435456 + fld O 4 * 16777216 + fld C 4 : Nat) : Int) := by
  unfold isa_word
  have hh := head_is 3 (by omega) false U
  have hb := hd_lt 3 (by omega) false U
  have ha := fld_lt O 4; have hc := fld_lt C 4
  simp only
  rw [if_neg (by omega), if_neg (by omega)]
  simp only [isa_word.j1]
  rw [if_neg (by simp), if_neg (by omega), if_neg (by omega), if_pos trivial]
  have hh : isa_head 3 false U = _ := hh
  rw [hh]
  simp only [Option.bind_some, isa_lay]
  generalize 4 * 3 + 2 * b2n false + b2n U = h at *
  have hq := fld_small (x := h) (n := 4) hb
  have s0 := lay_step (l := [#v[28, 4, (h : Int)], #v[24, 4, O], #v[0, 4, C]]) (i := 0) (v := 0) (a := 28) (n := 4) (f := (h : Int)) (by omega) (by decide) (by omega) (by omega) rfl (by simp)
  have s1 := lay_step (l := [#v[28, 4, (h : Int)], #v[24, 4, O], #v[0, 4, C]]) (i := 1) (v := 0 + fld (h : Int) 4 * 2 ^ 28) (a := 24) (n := 4) (f := O) (by rw [hq]; omega) (by rw [hq]; omega) (by omega) (by omega) rfl (by simp)
  have s2 := lay_step (l := [#v[28, 4, (h : Int)], #v[24, 4, O], #v[0, 4, C]]) (i := 2) (v := 0 + fld (h : Int) 4 * 2 ^ 28 + fld O 4 * 2 ^ 24) (a := 0) (n := 4) (f := C) (by rw [hq]; omega) (by rw [hq]; omega) (by omega) (by omega) rfl (by simp)
  have e := ((s0.trans s1).trans s2).trans (lay_end (l := [#v[28, 4, (h : Int)], #v[24, 4, O], #v[0, 4, C]]))
  simp only [Int.natCast_zero] at e
  rw [e]
  simp only [Option.bind_some, isa_lay.j1]
  rw [hq]
  congr 2
  omega
theorem word7 : isa_word ⟨7, O, A, B, C, M, U⟩ = some (((4 * 3 + 2 * b2n true + b2n U) * 268435456 + fld O 4 * 16777216 + fld M 24 : Nat) : Int) := by
  unfold isa_word
  have hh := head_is 3 (by omega) true U
  have hb := hd_lt 3 (by omega) true U
  have ha := fld_lt O 4; have hc := fld_lt M 24
  simp only
  rw [if_neg (by omega), if_neg (by omega)]
  simp only [isa_word.j1, isa_word.j2]
  rw [if_neg (by simp), if_neg (by omega), if_neg (by omega), if_neg (by omega)]
  have hh : isa_head 3 true U = _ := hh
  rw [hh]
  simp only [Option.bind_some, isa_lay]
  generalize 4 * 3 + 2 * b2n true + b2n U = h at *
  have hq := fld_small (x := h) (n := 4) hb
  have s0 := lay_step (l := [#v[28, 4, (h : Int)], #v[24, 4, O], #v[0, 24, M]]) (i := 0) (v := 0) (a := 28) (n := 4) (f := (h : Int)) (by omega) (by decide) (by omega) (by omega) rfl (by simp)
  have s1 := lay_step (l := [#v[28, 4, (h : Int)], #v[24, 4, O], #v[0, 24, M]]) (i := 1) (v := 0 + fld (h : Int) 4 * 2 ^ 28) (a := 24) (n := 4) (f := O) (by rw [hq]; omega) (by rw [hq]; omega) (by omega) (by omega) rfl (by simp)
  have s2 := lay_step (l := [#v[28, 4, (h : Int)], #v[24, 4, O], #v[0, 24, M]]) (i := 2) (v := 0 + fld (h : Int) 4 * 2 ^ 28 + fld O 4 * 2 ^ 24) (a := 0) (n := 24) (f := M) (by rw [hq]; omega) (by rw [hq]; omega) (by omega) (by omega) rfl (by simp)
  have e := ((s0.trans s1).trans s2).trans (lay_end (l := [#v[28, 4, (h : Int)], #v[24, 4, O], #v[0, 24, M]]))
  simp only [Int.natCast_zero] at e
  rw [e]
  simp only [Option.bind_some, isa_lay.j1]
  rw [hq]
  congr 2
  omega
end
/-! ### read -/
def dg (w a n : Nat) : Int := ((w / 2 ^ a % 2 ^ n : Nat) : Int)
theorem read1_is {w a n : Nat} (hw : w < 4294967296) (h1 : 1 ≤ n) (h2 : a + n ≤ 32) : isa_read_1 (a : Int) (n : Int) (w : Int) = some (dg w a n) := by
  unfold isa_read_1
  rw [get_is hw h1 h2]
  simp only [Option.bind_some]
  have : w / 2 ^ a % 2 ^ n ≤ w := Nat.le_trans (Nat.mod_le _ _) (Nat.div_le_self _ _)
  rw [w64s (by omega) (by omega)]
  rfl
def sg (w n : Nat) : Int := if w % 2 ^ n ≥ 2 ^ (n - 1) then ((w % 2 ^ n : Nat) : Int) - ((2 ^ n : Nat) : Int) else ((w % 2 ^ n : Nat) : Int)
theorem signed20 {w : Nat} : field_Signed (w : Int) 20 = some (sg w 20) := by
  unfold field_Signed
  have hk : field_known 20 = some 20 := rfl
  rw [hk]
  simp only [Option.bind_some]
  have e : w64 (32 - 20) = 12 := rfl
  rw [e, if_pos (by omega), if_pos (by omega)]
  have e1 : shl .u32 (w : Int) 12 = ((w : Int) * 4096) % 4294967296 := by
    unfold shl; rw [IntKind.wrap_u32]; rfl
  have e2 : ∀ y : Int, shr .i32 y 12 = y / 4096 := by
    intro y; unfold shr; show y.fdiv 4096 = _; exact Int.fdiv_eq_ediv_of_nonneg _ (by omega)
  have e3 : ∀ y : Int, w32 y = (y + 2147483648) % 4294967296 - 2147483648 := by intro y; show IntKind.i32.wrap y = _; rw [IntKind.wrap_i32]
  rw [e1, e2, e3]
  unfold sg
  rw [show (2 : Nat) ^ 20 = 1048576 by decide, show (2 : Nat) ^ (20 - 1) = 524288 by decide, w64s (by omega) (by omega)]
  refine congrArg some ?_
  by_cases h : w % 1048576 ≥ 524288
  · rw [if_pos h]; omega
  · rw [if_neg h]; omega
theorem signed24 {w : Nat} : field_Signed (w : Int) 24 = some (sg w 24) := by
  unfold field_Signed
  have hk : field_known 24 = some 24 := rfl
  rw [hk]
  simp only [Option.bind_some]
  have e : w64 (32 - 24) = 8 := rfl
  rw [e, if_pos (by omega), if_pos (by omega)]
  have e1 : shl .u32 (w : Int) 8 = ((w : Int) * 256) % 4294967296 := by
    unfold shl; rw [IntKind.wrap_u32]; rfl
  have e2 : ∀ y : Int, shr .i32 y 8 = y / 256 := by
    intro y; unfold shr; show y.fdiv 256 = _; exact Int.fdiv_eq_ediv_of_nonneg _ (by omega)
  have e3 : ∀ y : Int, w32 y = (y + 2147483648) % 4294967296 - 2147483648 := by intro y; show IntKind.i32.wrap y = _; rw [IntKind.wrap_i32]
  rw [e1, e2, e3]
  unfold sg
  rw [show (2 : Nat) ^ 24 = 16777216 by decide, show (2 : Nat) ^ (24 - 1) = 8388608 by decide, w64s (by omega) (by omega)]
  refine congrArg some ?_
  by_cases h : w % 16777216 ≥ 8388608
  · rw [if_pos h]; omega
  · rw [if_neg h]; omega
/-- The instruction that a word looks like. -/
def rd (w : Nat) : Sapi_Instr :=
  if dg w 30 2 = 0 then
    (if dg w 29 1 = 1 ∧ dg w 16 4 = 0 then ⟨3 + dg w 28 1, 0, dg w 24 4, 0, 0, 0, false⟩ else ⟨1, dg w 16 4, dg w 24 4, dg w 20 4, dg w 0 4, 0, dg w 29 1 == 1⟩)
  else if dg w 30 2 = 1 then ⟨2, dg w 16 4, dg w 24 4, dg w 20 4, 0, dg w 0 16 - dg w 28 1 * 65536, dg w 29 1 == 1⟩
  else if dg w 30 2 = 2 then ⟨5, dg w 29 1 * 2 + dg w 28 1, dg w 24 4, dg w 20 4, 0, sg w 20, false⟩
  else if dg w 29 1 = 1 then ⟨7, dg w 24 4, 0, 0, 0, sg w 24, dg w 28 1 == 1⟩
  else ⟨6, dg w 24 4, 0, 0, dg w 0 4, 0, dg w 28 1 == 1⟩
theorem dg_lt (w a n : Nat) : 0 ≤ dg w a n ∧ dg w a n < ((2 ^ n : Nat) : Int) := by
  unfold dg
  have := Nat.mod_lt (w / 2 ^ a) (p2pos n)
  omega
theorem read_is {w : Nat} (hw : w < 4294967296) : isa_read (w : Int) = some (rd w) := by
  have g29 : isa_read_1 29 1 (w : Int) = some (dg w 29 1) := read1_is (a := 29) (n := 1) hw (by omega) (by omega)
  have g28 : isa_read_1 28 1 (w : Int) = some (dg w 28 1) := read1_is (a := 28) (n := 1) hw (by omega) (by omega)
  have g24 : isa_read_1 24 4 (w : Int) = some (dg w 24 4) := read1_is (a := 24) (n := 4) hw (by omega) (by omega)
  have g20 : isa_read_1 20 4 (w : Int) = some (dg w 20 4) := read1_is (a := 20) (n := 4) hw (by omega) (by omega)
  have g16 : isa_read_1 16 4 (w : Int) = some (dg w 16 4) := read1_is (a := 16) (n := 4) hw (by omega) (by omega)
  have g30 : isa_read_1 30 2 (w : Int) = some (dg w 30 2) := read1_is (a := 30) (n := 2) hw (by omega) (by omega)
  have g4 : isa_read_1 0 4 (w : Int) = some (dg w 0 4) := read1_is (a := 0) (n := 4) hw (by omega) (by omega)
  have g0 : isa_read_1 0 16 (w : Int) = some (dg w 0 16) := read1_is (a := 0) (n := 16) hw (by omega) (by omega)
  have b28 := dg_lt w 28 1; have b29 := dg_lt w 29 1; have b16 := dg_lt w 0 16
  simp only [show (2 : Nat) ^ 1 = 2 by decide, show (2 : Nat) ^ 16 = 65536 by decide] at b28 b29 b16
  unfold isa_read rd
  simp only [g29, g28, g24, g20, g16, g30, g4, g0, signed20, signed24, Option.bind_some, isa_read.j1, isa_read.j2]
  by_cases h0 : dg w 30 2 = 0
  · rw [if_pos h0, if_pos h0]
    by_cases h1 : dg w 29 1 = 1
    · rw [if_pos h1]
      by_cases h2 : dg w 16 4 = 0
      · rw [if_pos (by simp [h2]), if_pos ⟨h1, h2⟩, w64s (by omega) (by omega)]
      · rw [if_neg (by simp [h2]), if_neg (fun h => h2 h.2)]
    · rw [if_neg h1, if_neg (by simp), if_neg (fun h => h1 h.1)]
  · rw [if_neg h0, if_neg h0]
    by_cases h1 : dg w 30 2 = 1
    · rw [if_pos h1, if_pos h1]
      have e : (2 : Int) ^ 16 = 65536 := by decide
      rw [e, w64s (x := dg w 28 1 * 65536) (by omega) (by omega), w64s (by omega) (by omega)]
    · rw [if_neg h1, if_neg h1]
      by_cases h2 : dg w 30 2 = 2
      · rw [if_pos h2, if_pos h2, w64s (x := dg w 29 1 * 2) (by omega) (by omega), w64s (by omega) (by omega)]
      · rw [if_neg h2, if_neg h2]
        by_cases h3 : dg w 29 1 = 1
        · rw [if_pos h3, if_pos h3]
        · rw [if_neg h3, if_neg h3]
end Go.Proofs.Ytheccnbamcdpmaa.A06
