/- The plain law of the statement AluLong. No condition. -/
import Derived.Test.YtckefpenekolhaaA04i
import Derived.Test.YtckefpenekolhaaT04zAluLong
namespace Go.Proofs.Ytckefpenekolhaa.T04
set_option linter.unusedVariables false
set_option linter.unusedSimpArgs false
open Go Go.RowKit Go.Proofs.Ytckefpenekolhaa.E Go.Proofs.Ytckefpenekolhaa.A04
theorem long_bor {h l : Int} (hh : W h) (hl : W l) : bor .u64 (wu64 (wu64 h * 2 ^ 32)) (wu64 l) = h * 4294967296 + l := by
  have e32 : (2 : Int) ^ 32 = 4294967296 := by decide
  have h1 := hh.1
  have h2 := hh.2
  have l1 := hl.1
  have l2 := hl.2
  rw [wu64_eq, wu64_eq, wu64_eq, e32, Int.emod_eq_of_lt (a := h) (by omega) (by omega), Int.emod_eq_of_lt (a := h * 4294967296) (by omega) (by omega), Int.emod_eq_of_lt (a := l) (by omega) (by omega)]
  obtain ⟨x, rfl⟩ := Int.eq_ofNat_of_zero_le h1
  obtain ⟨y, rfl⟩ := Int.eq_ofNat_of_zero_le l1
  unfold bor
  rw [BitVec.toNat_or, BitVec.toNat_ofInt, BitVec.toNat_ofInt]
  have e64 : (((2 : Nat) ^ IntKind.u64.bits : Nat) : Int) = 18446744073709551616 := by rfl
  rw [e64]
  have g1 : ((x : Int) * 4294967296 % 18446744073709551616).toNat = 4294967296 * x := by omega
  have g2 : ((y : Int) % 18446744073709551616).toNat = y := by omega
  rw [g1, g2]
  have := Nat.two_pow_add_eq_or_of_lt (i := 32) (b := y) (by omega) x
  have e32n : (2 : Nat) ^ 32 = 4294967296 := by rfl
  rw [e32n] at this
  rw [← this, IntKind.wrap_u64]
  omega
section
variable {s : Sapi_Regs} {a b : Int}
theorem long_fin {h l x y z : Int} (h6 : x = h) (h5 : y = l) (hh : W h) (hl : W l) (e : h * 4294967296 + l = z) : bor .u64 (wu64 (wu64 x * 4294967296)) (wu64 y) = z := by
  have := long_bor hh hl
  rw [show (2 : Int) ^ 32 = 4294967296 by decide] at this
  rw [h6, h5, this, e]
theorem mul_fin (p r : Int) : ∀ u, (mulS p r u).2 * 4294967296 + (mulS p r u).1 = (if u = true then p * r else sgn p * sgn r) % 18446744073709551616 := by
  intro u
  unfold mulS
  simp only
  generalize (if u = true then p * r else sgn p * sgn r) = x
  omega
theorem w32_low (a : Int) : w64 (w32 a) = sgn (a % 4294967296) := by
  have e : w32 a = w32 (a % 4294967296) := by
    show IntKind.i32.wrap _ = IntKind.i32.wrap _
    rw [IntKind.wrap_i32, IntKind.wrap_i32]
    omega
  rw [e]
  exact w32_sgn (W_mod a).1 (W_mod a).2
theorem long_ok {p q r u : Int} (hs : OkR s) (hp : W p) (hq : W q) (hr : W r) (hu : W u) : OkR { s with R := vset (vset (vset (vset s.R 1 p) 2 q) 3 r) 4 u } :=
  set_ok (s := { s with R := vset (vset (vset s.R 1 p) 2 q) 3 r }) (A := 4) (set_ok (s := { s with R := vset (vset s.R 1 p) 2 q }) (A := 3) (set_ok (s := { s with R := vset s.R 1 p }) (A := 2) (set_ok (A := 1) hs (by omega) (by omega) hp) (by omega) (by omega) hq) (by omega) (by omega) hr) (by omega) (by omega) hu
theorem setA_ok {t : Sapi_Regs} (h : OkR t) {A x : Int} (hA : 0 ≤ A ∧ A ≤ 15) (hx : W x) : OkR (setA t A x) := by
  have := set_ok h hA.1 hA.2 hx
  exact ⟨this.r, this.h⟩
theorem four_1 (R : Vector Int 16) (p q r u : Int) : vx 0 (vset (vset (vset (vset R 1 p) 2 q) 3 r) 4 u) 1 = p := by
  rw [vx_vset (by omega), if_neg (by omega), vx_vset (by omega), if_neg (by omega), vx_vset (by omega), if_neg (by omega), vx_vset (by omega), if_pos rfl]
theorem four_2 (R : Vector Int 16) (p q r u : Int) : vx 0 (vset (vset (vset (vset R 1 p) 2 q) 3 r) 4 u) 2 = q := by
  rw [vx_vset (by omega), if_neg (by omega), vx_vset (by omega), if_neg (by omega), vx_vset (by omega), if_pos rfl]
theorem four_3 (R : Vector Int 16) (p q r u : Int) : vx 0 (vset (vset (vset (vset R 1 p) 2 q) 3 r) 4 u) 3 = r := by
  rw [vx_vset (by omega), if_neg (by omega), vx_vset (by omega), if_pos rfl]
theorem four_4 (R : Vector Int 16) (p q r u : Int) : vx 0 (vset (vset (vset (vset R 1 p) 2 q) 3 r) 4 u) 4 = u := by
  rw [vx_vset (by omega), if_pos rfl]
/-- An operation on two registers, none of them the fifth or sixth, with what lies in them. -/
theorem two_do {t : Sapi_Regs} (ht : OkR t) {O A B C p q x : Int} {u : Bool} {w : Sapi_Regs} (hm : MayP ⟨1, O, A, B, C, 0, u⟩) (hB : vx 0 t.R B.toNat = p) (hC : vx 0 t.R C.toNat = q) (hop : opS t O p q u = some (x, w)) : alu_Do t ⟨1, O, A, B, C, 0, u⟩ = some (setA w A x, 0) := by
  rw [do_is ht, do_num hm (.inl rfl)]
  have e : numS t ⟨1, O, A, B, C, 0, u⟩ = q := hC
  rw [e]
  simp only [hB]
  rw [hop]
theorem op8 (t : Sapi_Regs) (p q : Int) (u : Bool) : opS t 8 p q u = some ((addS p q (u && t.C)).1, { t with C := (addS p q (u && t.C)).2.1, V := (addS p q (u && t.C)).2.2 }) := by
  unfold opS; simp
theorem op9 (t : Sapi_Regs) (p q : Int) (u : Bool) : opS t 9 p q u = some ((subS p q (u && t.C)).1, { t with C := (subS p q (u && t.C)).2.1, V := (subS p q (u && t.C)).2.2 }) := by
  unfold opS; simp
theorem op10 (t : Sapi_Regs) (p q : Int) (u : Bool) : opS t 10 p q u = some ((mulS p q u).1, { t with H := (mulS p q u).2 }) := by
  unfold opS; simp
theorem keep {R : Vector Int 16} {x : Int} {j : Nat} (h : j ≠ 5) : vx 0 (vset R (5 : Int).toNat x) j = vx 0 R j := by
  rw [vx_vset (by decide), if_neg (by rw [show (5 : Int).toNat = 5 from rfl]; exact h)]
theorem keep6 {R : Vector Int 16} {x : Int} {j : Nat} (h : j ≠ 6) : vx 0 (vset R (6 : Int).toNat x) j = vx 0 R j := by
  rw [vx_vset (by decide), if_neg (by rw [show (6 : Int).toNat = 6 from rfl]; exact h)]
end
theorem long_add {a b : Int} (ha : 0 ≤ a ∧ a ≤ 18446744073709551615) (hb : 0 ≤ b ∧ b ≤ 18446744073709551615) :
    (addS (a / 4294967296 % 4294967296) (b / 4294967296 % 4294967296) (addS (a % 4294967296) (b % 4294967296) false).2.1).1 * 4294967296 + (addS (a % 4294967296) (b % 4294967296) false).1 = (a + b) % 18446744073709551616 := by
  have e0 : b2i false = 0 := rfl
  simp only [addS, e0, Int.add_zero]
  by_cases h : a % 4294967296 + b % 4294967296 ≥ 4294967296
  · rw [decide_eq_true h, show b2i true = 1 from rfl]; omega
  · rw [decide_eq_false h, e0]; omega
theorem long_sub {a b : Int} (ha : 0 ≤ a ∧ a ≤ 18446744073709551615) (hb : 0 ≤ b ∧ b ≤ 18446744073709551615) :
    (subS (a / 4294967296 % 4294967296) (b / 4294967296 % 4294967296) (subS (a % 4294967296) (b % 4294967296) false).2.1).1 * 4294967296 + (subS (a % 4294967296) (b % 4294967296) false).1 = (a - b) % 18446744073709551616 := by
  have e0 : b2i false = 0 := rfl
  simp only [subS, e0, Int.sub_zero]
  by_cases h : a % 4294967296 - b % 4294967296 < 0
  · rw [decide_eq_true h, show b2i true = 1 from rfl]; omega
  · rw [decide_eq_false h, e0]; omega
theorem Pure.AluLong (a0 : Sapi_Regs) (a1 : Int) (a2 : Int) : okSapi_Regs a0 → In .u64 a1 → In .u64 a2 → rivetlaw04_AluLong a0 a1 a2 = some true := by
  intro h0 h1 h2
  have hs := okR_of h0
  have b1 := bounds_u64 h1
  have b2 := bounds_u64 h2
  unfold rivetlaw04_AluLong
  rw [shown_is]
  simp only [Option.bind_some, nm]
  have e32 : (2 : Int) ^ 32 = 4294967296 := by decide
  rw [e32, Int.fdiv_eq_ediv_of_nonneg a1 (by omega), Int.fdiv_eq_ediv_of_nonneg a2 (by omega), wu32_eq, wu32_eq, wu32_eq, wu32_eq]
  have hp : W (a1 % 4294967296) := W_mod _
  have hq : W (a1 / 4294967296 % 4294967296) := W_mod _
  have hr : W (a2 % 4294967296) := W_mod _
  have hu : W (a2 / 4294967296 % 4294967296) := W_mod _
  have v1 := w32_low a1
  have v2 := w32_low a2
  have la := long_add b1 b2
  have ls := long_sub b1 b2
  generalize a1 % 4294967296 = p at *
  generalize a1 / 4294967296 % 4294967296 = q at *
  generalize a2 % 4294967296 = r at *
  generalize a2 / 4294967296 % 4294967296 = u at *
  have hok := long_ok hs hp hq hr hu
  have f1 := four_1 a0.R p q r u
  have f2 := four_2 a0.R p q r u
  have f3 := four_3 a0.R p q r u
  have f4 := four_4 a0.R p q r u
  generalize vset (vset (vset (vset a0.R 1 p) 2 q) 3 r) 4 u = R at *
  have hx1 : W (addS p r false).1 := W_mod _
  have hy1 : W (subS p r false).1 := W_mod _
  have g1 := two_do (A := 5) (B := 1) (C := 3) hok (by simp [MayP]) f1 f3 (op8 _ p r false)
  have k1 : OkR (setA { ({ a0 with R := R } : Sapi_Regs) with C := (addS p r (false && a0.C)).2.1, V := (addS p r (false && a0.C)).2.2 } 5 (addS p r (false && a0.C)).1) := by
    refine setA_ok ?_ (by omega) ?_
    · exact ⟨hok.r, hok.h⟩
    · exact hx1
  have g2 := two_do (A := 6) (B := 2) (C := 4) k1 (by simp [MayP]) ((keep (by omega)).trans f2) ((keep (by omega)).trans f4) (op8 _ q u true)
  have g3 := two_do (A := 5) (B := 1) (C := 3) hok (by simp [MayP]) f1 f3 (op9 _ p r false)
  have k3 : OkR (setA { ({ a0 with R := R } : Sapi_Regs) with C := (subS p r (false && a0.C)).2.1, V := (subS p r (false && a0.C)).2.2 } 5 (subS p r (false && a0.C)).1) := by
    refine setA_ok ?_ (by omega) ?_
    · exact ⟨hok.r, hok.h⟩
    · exact hy1
  have g4 := two_do (A := 6) (B := 2) (C := 4) k3 (by simp [MayP]) ((keep (by omega)).trans f2) ((keep (by omega)).trans f4) (op9 _ q u true)
  have g5 := two_do (A := 5) (B := 1) (C := 3) hok (by simp [MayP]) f1 f3 (op10 _ p r true)
  have g6 := two_do (A := 5) (B := 1) (C := 3) hok (by simp [MayP]) f1 f3 (op10 _ p r false)
  rw [g1]
  simp only [Option.bind_some]
  rw [g2]
  simp only [Option.bind_some]
  rw [g3]
  simp only [Option.bind_some]
  rw [g4]
  simp only [Option.bind_some]
  rw [g5]
  simp only [Option.bind_some]
  rw [g6]
  simp only [Option.bind_some]
  have w1 : W (addS q u (true && (addS p r false).2.1)).1 := W_mod _
  have w2 : W (subS q u (true && (subS p r false).2.1)).1 := W_mod _
  have w3 : ∀ u, W (mulS p r u).2 := fun u => W_mod _
  have w4 : ∀ u, W (mulS p r u).1 := fun u => W_mod _
  have s1 := sgn_in hp.1 hp.2
  have s2 := sgn_in hr.1 hr.2
  have sm := mul_bound (m := 2147483648) (show -2147483648 ≤ sgn p by omega) (by omega) (show -2147483648 ≤ sgn r by omega) (by omega) (by omega)
  refine (if_pos True.intro).trans ?_
  refine (if_pos (long_fin (get_set _ (A := 6) (by omega) (by omega) _) ((keep6 (by omega)).trans (get_set _ (A := 5) (by omega) (by omega) _)) w1 hx1 ?_)).trans ?_
  · rw [wu64_eq]; exact la
  refine (if_pos (long_fin (get_set _ (A := 6) (by omega) (by omega) _) ((keep6 (by omega)).trans (get_set _ (A := 5) (by omega) (by omega) _)) w2 hy1 ?_)).trans ?_
  · rw [wu64_eq]; exact ls
  refine (if_pos (long_fin (h := (mulS p r true).2) rfl (get_set _ (A := 5) (by omega) (by omega) _) (w3 true) (w4 true) ?_)).trans ?_
  · rw [mul_fin, wu64_eq, wu64_eq p, wu64_eq r, Int.emod_eq_of_lt hp.1 (by have := hp.2; omega), Int.emod_eq_of_lt hr.1 (by have := hr.2; omega), if_pos rfl]
  unfold rivetlaw04_AluLong.j1
  refine congrArg some (beq_iff_eq.2 (long_fin (h := (mulS p r false).2) rfl (get_set _ (A := 5) (by omega) (by omega) _) (w3 false) (w4 false) ?_))
  rw [mul_fin, v1, v2, w64s (by omega) (by omega), wu64_eq, if_neg (by simp)]
end Go.Proofs.Ytckefpenekolhaa.T04
