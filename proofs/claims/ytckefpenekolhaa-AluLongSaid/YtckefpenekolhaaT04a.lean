/- YtckefpenekolhaaT04: Go functions told as plain ones, each with a proof that its call comes to what is told, part 1. Condition of each: that the plain function comes to a value. -/
import Derived.Test.YtckefpenekolhaaEJ
import Derived.Test.YtckefpenekolhaaProg
namespace Go.Proofs.Ytckefpenekolhaa.T04
open Go Go.RowKit Go.Proofs.Ytckefpenekolhaa.E
set_option linter.unusedVariables false
set_option linter.unusedSimpArgs false
def eA76 : Enc (Vector Int 3) := ⟨3, fun x => [.int .i64 (vx 0 x 0), .int .i64 (vx 0 x 1), .int .i64 (vx 0 x 2)], (Vector.replicate 3 0), by decide, fun _ => rfl, fun x u hu => by simp at hu; rcases hu with rfl | rfl | rfl <;> rfl⟩
structure Sapi_Instr where
  Kind : Int
  Op : Int
  A : Int
  B : Int
  C : Int
  Imm : Int
  U : Bool
def eSapi_Instr : Enc Sapi_Instr := ⟨7, fun x => [.int .i64 x.Kind, .int .i64 x.Op, .int .i64 x.A, .int .i64 x.B, .int .i64 x.C, .int .i64 x.Imm, .bool x.U], (⟨0, 0, 0, 0, 0, 0, false⟩ : Sapi_Instr), by decide, fun _ => rfl, fun x u hu => by simp at hu; rcases hu with rfl | rfl | rfl | rfl | rfl | rfl | rfl <;> rfl⟩
structure Sapi_Regs where
  R : Vector Int 16
  H : Int
  N : Bool
  Z : Bool
  C : Bool
  V : Bool
def eSapi_Regs : Enc Sapi_Regs := ⟨21, fun x => [.int .u32 (vx 0 x.R 0), .int .u32 (vx 0 x.R 1), .int .u32 (vx 0 x.R 2), .int .u32 (vx 0 x.R 3), .int .u32 (vx 0 x.R 4), .int .u32 (vx 0 x.R 5), .int .u32 (vx 0 x.R 6), .int .u32 (vx 0 x.R 7), .int .u32 (vx 0 x.R 8), .int .u32 (vx 0 x.R 9), .int .u32 (vx 0 x.R 10), .int .u32 (vx 0 x.R 11), .int .u32 (vx 0 x.R 12), .int .u32 (vx 0 x.R 13), .int .u32 (vx 0 x.R 14), .int .u32 (vx 0 x.R 15), .int .u32 x.H, .bool x.N, .bool x.Z, .bool x.C, .bool x.V], (⟨(Vector.replicate 16 0), 0, false, false, false, false⟩ : Sapi_Regs), by decide, fun _ => rfl, fun x u hu => by simp at hu; rcases hu with rfl | rfl | rfl | rfl | rfl | rfl | rfl | rfl | rfl | rfl | rfl | rfl | rfl | rfl | rfl | rfl | rfl | rfl | rfl | rfl | rfl <;> rfl⟩
def eA65 : Enc (Vector Bool 4) := ⟨4, fun x => [.bool (vx false x 0), .bool (vx false x 1), .bool (vx false x 2), .bool (vx false x 3)], (Vector.replicate 4 false), by decide, fun _ => rfl, fun x u hu => by simp at hu; rcases hu with rfl | rfl | rfl | rfl <;> rfl⟩
def eA61 : Enc (Vector Bool 8) := ⟨8, fun x => [.bool (vx false x 0), .bool (vx false x 1), .bool (vx false x 2), .bool (vx false x 3), .bool (vx false x 4), .bool (vx false x 5), .bool (vx false x 6), .bool (vx false x 7)], (Vector.replicate 8 false), by decide, fun _ => rfl, fun x u hu => by simp at hu; rcases hu with rfl | rfl | rfl | rfl | rfl | rfl | rfl | rfl <;> rfl⟩
def okSapi_Instr (x : Sapi_Instr) : Prop := In .i64 x.Kind ∧ In .i64 x.Op ∧ In .i64 x.A ∧ In .i64 x.B ∧ In .i64 x.C ∧ In .i64 x.Imm
def okSapi_Regs (x : Sapi_Regs) : Prop := (∀ j, j < 16 → In .u32 (vx 0 x.R j)) ∧ In .u32 x.H
/-! math/bits.Add32: function 60 -/
noncomputable def math_bits_Add32 (a0 : Int) (a1 : Int) (a2 : Int) : Option (Int × Int) := some (wu32 (wu64 ((wu64 ((wu64 a0) + (wu64 a1))) + (wu64 a2))), wu32 ((wu64 ((wu64 ((wu64 a0) + (wu64 a1))) + (wu64 a2))).fdiv (2 ^ 32)))
set_option maxRecDepth 100000 in
set_option maxHeartbeats 4000000 in
theorem math_bits_Add32.calls (a0 : Int) (a1 : Int) (a2 : Int) (r : Int × Int) (w0 : World) (H : math_bits_Add32 a0 a1 a2 = some r) :
    Calls Try.prog 60 #[.int .u32 a0, .int .u32 a1, .int .u32 a2] w0 fun e w' => e = .returned (.tuple #[.int .u32 r.1, .int .u32 r.2]) ∧ St [] w0 w' [] := by
 have hw : St [] w0 w0 [] := St.nil w0
 unfold math_bits_Add32 at H
 refine go_fn Try.func60 rfl 22 Try.ntmps60 [(0, .int .u32 a0), (1, .int .u32 a1), (2, .int .u32 a2)] (by kernel_rfl) rfl ?_
 intro a hs
 refine go_seq_k fun K1 hK1 => ?_
 refine go_region ?_
 refine go_pvs 0 2 [0, 1, 2] hs (L' := [(0, .int .u32 a0), (1, .int .u32 a1), (2, .int .u32 a2)]) (by kernel_rfl) ?_ rfl
 clear hs; intro a hs
 refine go_end (by kernel_rfl) ?_
 refine hK1 _ _ ?_
 refine go_seq_k fun K2 hK2 => ?_
 refine go_region ?_
 refine go_pvs 0 9 [8] hs (L' := [(8, .int .u64 (wu64 ((wu64 ((wu64 a0) + (wu64 a1))) + (wu64 a2))))]) (by kernel_rfl) ?_ rfl
 clear hs; intro a hs
 refine go_end (by kernel_rfl) ?_
 refine hK2 _ _ ?_
 refine go_seq_k fun K3 hK3 => ?_
 refine go_region ?_
 refine go_pvs 0 3 [6, 8] hs (L' := [(6, .int .u32 (wu32 (wu64 ((wu64 ((wu64 a0) + (wu64 a1))) + (wu64 a2))))), (8, .int .u64 (wu64 ((wu64 ((wu64 a0) + (wu64 a1))) + (wu64 a2))))]) (by kernel_rfl) ?_ rfl
 clear hs; intro a hs
 refine go_end (by kernel_rfl) ?_
 refine hK3 _ _ ?_
 refine go_seq_k fun K4 hK4 => ?_
 refine go_region ?_
 refine go_pvs 0 4 [6, 7] hs (L' := [(6, .int .u32 (wu32 (wu64 ((wu64 ((wu64 a0) + (wu64 a1))) + (wu64 a2))))), (7, .int .u32 (wu32 ((wu64 ((wu64 ((wu64 a0) + (wu64 a1))) + (wu64 a2))).fdiv (2 ^ 32))))]) (by kernel_rfl) ?_ rfl
 clear hs; intro a hs
 refine go_end (by kernel_rfl) ?_
 refine hK4 _ _ ?_
 refine wp_ret ?_
 obtain rfl := Option.some.inj H
 refine ret2 (t1 := 6) (v1 := .int .u32 (wu32 (wu64 ((wu64 ((wu64 a0) + (wu64 a1))) + (wu64 a2))))) (t2 := 7) (v2 := .int .u32 (wu32 ((wu64 ((wu64 ((wu64 a0) + (wu64 a1))) + (wu64 a2))).fdiv (2 ^ 32)))) hs (by kernel_rfl) (by kernel_rfl) (by kernel_rfl) ?_
 exact ⟨rfl, hw.only 0⟩

/-! math/bits.Sub32: function 62 -/
noncomputable def math_bits_Sub32 (a0 : Int) (a1 : Int) (a2 : Int) : Option (Int × Int) := some (wu32 ((wu32 (a0 - a1)) - a2), (bor .u32 (band .u32 (bxor .u32 4294967295 a0) a1) (band .u32 (bxor .u32 4294967295 (bxor .u32 a0 a1)) (wu32 ((wu32 (a0 - a1)) - a2)))).fdiv (2 ^ 31))
set_option maxRecDepth 100000 in
set_option maxHeartbeats 4000000 in
theorem math_bits_Sub32.calls (a0 : Int) (a1 : Int) (a2 : Int) (r : Int × Int) (w0 : World) (H : math_bits_Sub32 a0 a1 a2 = some r) :
    Calls Try.prog 62 #[.int .u32 a0, .int .u32 a1, .int .u32 a2] w0 fun e w' => e = .returned (.tuple #[.int .u32 r.1, .int .u32 r.2]) ∧ St [] w0 w' [] := by
 have hw : St [] w0 w0 [] := St.nil w0
 unfold math_bits_Sub32 at H
 refine go_fn Try.func62 rfl 25 Try.ntmps62 [(0, .int .u32 a0), (1, .int .u32 a1), (2, .int .u32 a2)] (by kernel_rfl) rfl ?_
 intro a hs
 refine go_seq_k fun K1 hK1 => ?_
 refine go_region ?_
 refine go_pvs 0 2 [0, 1, 2] hs (L' := [(0, .int .u32 a0), (1, .int .u32 a1), (2, .int .u32 a2)]) (by kernel_rfl) ?_ rfl
 clear hs; intro a hs
 refine go_end (by kernel_rfl) ?_
 refine hK1 _ _ ?_
 refine go_seq_k fun K2 hK2 => ?_
 refine go_region ?_
 refine go_pvs 0 6 [0, 1, 6] hs (L' := [(0, .int .u32 a0), (1, .int .u32 a1), (6, .int .u32 (wu32 ((wu32 (a0 - a1)) - a2)))]) (by kernel_rfl) ?_ rfl
 clear hs; intro a hs
 refine go_end (by kernel_rfl) ?_
 refine hK2 _ _ ?_
 refine go_seq_k fun K3 hK3 => ?_
 refine go_region ?_
 refine go_pvs 0 13 [6, 7] hs (L' := [(6, .int .u32 (wu32 ((wu32 (a0 - a1)) - a2))), (7, .int .u32 ((bor .u32 (band .u32 (bxor .u32 4294967295 a0) a1) (band .u32 (bxor .u32 4294967295 (bxor .u32 a0 a1)) (wu32 ((wu32 (a0 - a1)) - a2)))).fdiv (2 ^ 31)))]) (by kernel_rfl) ?_ rfl
 clear hs; intro a hs
 refine go_end (by kernel_rfl) ?_
 refine hK3 _ _ ?_
 refine wp_ret ?_
 obtain rfl := Option.some.inj H
 refine ret2 (t1 := 6) (v1 := .int .u32 (wu32 ((wu32 (a0 - a1)) - a2))) (t2 := 7) (v2 := .int .u32 ((bor .u32 (band .u32 (bxor .u32 4294967295 a0) a1) (band .u32 (bxor .u32 4294967295 (bxor .u32 a0 a1)) (wu32 ((wu32 (a0 - a1)) - a2)))).fdiv (2 ^ 31))) hs (by kernel_rfl) (by kernel_rfl) (by kernel_rfl) ?_
 exact ⟨rfl, hw.only 0⟩

/-! math/bits.RotateLeft32: function 59 -/
noncomputable def math_bits_RotateLeft32 (a0 : Int) (a1 : Int) : Option Int := (if 0 ≤ (band .u64 (wu64 a1) 31) then (if 0 ≤ (wu64 (32 - (band .u64 (wu64 a1) 31))) then some (bor .u32 (shl .u32 a0 (band .u64 (wu64 a1) 31)) (shr .u32 a0 (wu64 (32 - (band .u64 (wu64 a1) 31))))) else none) else none)
set_option maxRecDepth 100000 in
set_option maxHeartbeats 4000000 in
theorem math_bits_RotateLeft32.calls (a0 : Int) (a1 : Int) (r : Int) (w0 : World) (H : math_bits_RotateLeft32 a0 a1 = some r) :
    Calls Try.prog 59 #[.int .u32 a0, .int .i64 a1] w0 fun e w' => e = .returned (.int .u32 r) ∧ St [] w0 w' [] := by
 have hw : St [] w0 w0 [] := St.nil w0
 unfold math_bits_RotateLeft32 at H
 refine go_fn Try.func59 rfl 17 Try.ntmps59 [(0, .int .u32 a0), (1, .int .i64 a1)] (by kernel_rfl) rfl ?_
 intro a hs
 refine go_seq_k fun K1 hK1 => ?_
 refine go_region ?_
 refine go_pvs 0 1 [0, 1] hs (L' := [(0, .int .u32 a0), (1, .int .i64 a1)]) (by kernel_rfl) ?_ rfl
 clear hs; intro a hs
 refine go_end (by kernel_rfl) ?_
 refine hK1 _ _ ?_
 refine go_seq_k fun K2 hK2 => ?_
 refine go_region ?_
 refine go_pvs 0 4 [0, 5] hs (L' := [(0, .int .u32 a0), (5, .int .u64 (band .u64 (wu64 a1) 31))]) (by kernel_rfl) ?_ rfl
 clear hs; intro a hs
 refine go_end (by kernel_rfl) ?_
 refine hK2 _ _ ?_
 refine go_seq_k fun K3 hK3 => ?_
 refine go_region ?_
 refine go_pvs 0 2 [0, 5, 9, 10] hs (L' := [(0, .int .u32 a0), (5, .int .u64 (band .u64 (wu64 a1) 31)), (9, .int .u32 a0), (10, .int .u64 (band .u64 (wu64 a1) 31))]) (by kernel_rfl) ?_ rfl
 clear hs; intro a hs
 obtain ⟨hp4, H⟩ := ite_only H
 refine go_run hs (op := (Op.binOp BinOp.shl 22 (Operand.tmp 9) (Operand.tmp 10) 37)) (ty := 22) (dst := some 11) (g := none) (by kernel_rfl) (by kernel_rfl) (by kernel_rfl) (x_shl (k := .u32) (k' := .u64) (m := a0) (n := band .u64 (wu64 a1) 31) (by kernel_rfl) (by kernel_rfl) hp4) [0, 5, 11] (L' := [(0, .int .u32 a0), (5, .int .u64 (band .u64 (wu64 a1) 31)), (11, .int .u32 (shl .u32 a0 (band .u64 (wu64 a1) 31)))]) (by kernel_rfl) ?_
 clear hs; intro a hs
 refine go_pvs 3 6 [11, 12, 14] hs (L' := [(11, .int .u32 (shl .u32 a0 (band .u64 (wu64 a1) 31))), (12, .int .u32 a0), (14, .int .u64 (wu64 (32 - (band .u64 (wu64 a1) 31))))]) (by kernel_rfl) ?_ rfl
 clear hs; intro a hs
 obtain ⟨hp5, H⟩ := ite_only H
 refine go_run hs (op := (Op.binOp BinOp.shr 22 (Operand.tmp 12) (Operand.tmp 14) 37)) (ty := 22) (dst := some 15) (g := none) (by kernel_rfl) (by kernel_rfl) (by kernel_rfl) (x_shr (k := .u32) (k' := .u64) (m := a0) (n := wu64 (32 - (band .u64 (wu64 a1) 31))) (by kernel_rfl) (by kernel_rfl) hp5) [11, 15] (L' := [(11, .int .u32 (shl .u32 a0 (band .u64 (wu64 a1) 31))), (15, .int .u32 (shr .u32 a0 (wu64 (32 - (band .u64 (wu64 a1) 31)))))]) (by kernel_rfl) ?_
 clear hs; intro a hs
 refine go_pvs 7 9 [4] hs (L' := [(4, .int .u32 (bor .u32 (shl .u32 a0 (band .u64 (wu64 a1) 31)) (shr .u32 a0 (wu64 (32 - (band .u64 (wu64 a1) 31))))))]) (by kernel_rfl) ?_ rfl
 clear hs; intro a hs
 refine go_end (by kernel_rfl) ?_
 refine hK3 _ _ ?_
 refine wp_ret ?_
 obtain rfl := Option.some.inj H
 refine ret1 (t := 4) (v := .int .u32 (bor .u32 (shl .u32 a0 (band .u64 (wu64 a1) 31)) (shr .u32 a0 (wu64 (32 - (band .u64 (wu64 a1) 31)))))) hs (by kernel_rfl) (by kernel_rfl) ?_
 exact ⟨rfl, hw.only 0⟩

/-! rivet/word.one: function 61 -/
noncomputable def word_one (a0 : Bool) : Option Int := (if a0 = true then some 1 else some 0)
set_option maxRecDepth 100000 in
set_option maxHeartbeats 4000000 in
theorem word_one.calls (a0 : Bool) (r : Int) (w0 : World) (H : word_one a0 = some r) :
    Calls Try.prog 61 #[.bool a0] w0 fun e w' => e = .returned (.int .u32 r) ∧ St [] w0 w' [] := by
 have hw : St [] w0 w0 [] := St.nil w0
 unfold word_one at H
 refine go_fn Try.func61 rfl 4 Try.ntmps61 [(0, .bool a0)] (by kernel_rfl) rfl ?_
 intro a hs
 refine go_seq_k fun K1 hK1 => ?_
 refine go_region ?_
 refine go_pvs 0 1 [0] hs (L' := [(0, .bool a0)]) (by kernel_rfl) ?_ rfl
 clear hs; intro a hs
 refine go_end (by kernel_rfl) ?_
 refine hK1 _ _ ?_
 refine go_seq_k fun K2 hK2 => ?_
 refine go_seq_k fun K3 hK3 => ?_
 refine go_region ?_
 refine go_pvs 0 1 [3] hs (L' := [(3, .bool a0)]) (by kernel_rfl) ?_ rfl
 clear hs; intro a hs
 refine go_end (by kernel_rfl) ?_
 refine hK3 _ _ ?_
 refine go_cond hs a0 (by kernel_rfl) (fun hc => ?_) (fun hc => ?_)
 ·replace H := ite_t H hc
  have hb4 := hc
  rw [hb4] at hs
  refine go_seq_k fun K5 hK5 => ?_
  refine go_region ?_
  refine go_pvs 0 1 [2] hs (L' := [(2, .int .u32 1)]) (by kernel_rfl) ?_ rfl
  clear hs; intro a hs
  refine go_end (by kernel_rfl) ?_
  refine hK5 _ _ ?_
  refine wp_ret ?_
  refine th_ret ?_
  obtain rfl := Option.some.inj H
  refine ret1 (t := 2) (v := .int .u32 1) hs (by kernel_rfl) (by kernel_rfl) ?_
  exact ⟨rfl, hw.only 0⟩
 ·replace H := ite_f H (ff hc)
  have hb6 := hc
  rw [hb6] at hs
  refine wp_skip ?_
  refine hK2 _ _ ?_
  refine go_seq_k fun K7 hK7 => ?_
  refine go_region ?_
  refine go_pvs 0 1 [2] hs (L' := [(2, .int .u32 0)]) (by kernel_rfl) ?_ rfl
  clear hs; intro a hs
  refine go_end (by kernel_rfl) ?_
  refine hK7 _ _ ?_
  refine wp_ret ?_
  obtain rfl := Option.some.inj H
  refine ret1 (t := 2) (v := .int .u32 0) hs (by kernel_rfl) (by kernel_rfl) ?_
  exact ⟨rfl, hw.only 0⟩

/-! rivet/word.Add: function 41 -/
noncomputable def word_Add (a0 : Int) (a1 : Int) (a2 : Bool) : Option (Int × Bool × Bool) := ((word_one a2).bind fun t4 => (((math_bits_Add32 a0 a1 t4).bind fun ⟨t9, t10⟩ => (some (t9, t10 == 1, ((band .u32 (bxor .u32 a0 t9) (bxor .u32 a1 t9)).fdiv (2 ^ 31)) == 1)))))
set_option maxRecDepth 100000 in
set_option maxHeartbeats 4000000 in
theorem word_Add.calls (a0 : Int) (a1 : Int) (a2 : Bool) (r : Int × Bool × Bool) (w0 : World) (H : word_Add a0 a1 a2 = some r) :
    Calls Try.prog 41 #[.int .u32 a0, .int .u32 a1, .bool a2] w0 fun e w' => e = .returned (.tuple #[.int .u32 r.1, .bool r.2.1, .bool r.2.2]) ∧ St [] w0 w' [] := by
 have hw : St [] w0 w0 [] := St.nil w0
 unfold word_Add at H
 refine go_fn Try.func41 rfl 31 Try.ntmps41 [(0, .int .u32 a0), (1, .int .u32 a1), (2, .bool a2)] (by kernel_rfl) rfl ?_
 intro a hs
 refine go_seq_k fun K1 hK1 => ?_
 refine go_region ?_
 refine go_pvs 0 3 [0, 1, 2] hs (L' := [(0, .int .u32 a0), (1, .int .u32 a1), (2, .bool a2)]) (by kernel_rfl) ?_ rfl
 clear hs; intro a hs
 refine go_end (by kernel_rfl) ?_
 refine hK1 _ _ ?_
 refine go_seq_k fun K2 hK2 => ?_
 refine go_region ?_
 refine go_pvs 0 3 [0, 1, 12, 13, 14] hs (L' := [(0, .int .u32 a0), (1, .int .u32 a1), (12, .int .u32 a0), (13, .int .u32 a1), (14, .bool a2)]) (by kernel_rfl) ?_ rfl
 clear hs; intro a hs
 obtain ⟨t4, hx5, H⟩ := bind_some H
 refine go_call hs (op := (Op.call { callee := (Callee.value (Operand.func 61)), args := #[(Operand.tmp 14)], argTypes := #[4] })) (ty := 22) (dst := some 15) (g := none) (by kernel_rfl) (by kernel_rfl) (by kernel_rfl) (f := 61) (args := #[.bool a2]) (by kernel_rfl) (word_one.calls a2 t4 _ hx5) ?_
 rintro e wd6 ⟨rfl, hw7⟩
 refine ⟨_, rfl, ?_⟩
 replace hw := hw.call hw7
 intro a hs1
 replace hs : Slots a 31 [(0, .int .u32 a0), (1, .int .u32 a1), (12, .int .u32 a0), (13, .int .u32 a1), (15, .int .u32 t4)] := hs1.keep [0, 1, 12, 13, 15] (by kernel_rfl)
 clear hs1
 obtain ⟨⟨t9, t10⟩, hx11, H⟩ := bind_some H
 refine go_call hs (op := (Op.call { callee := (Callee.value (Operand.func 60)), args := #[(Operand.tmp 12), (Operand.tmp 13), (Operand.tmp 15)], argTypes := #[22, 22, 22] })) (ty := 57) (dst := some 16) (g := none) (by kernel_rfl) (by kernel_rfl) (by kernel_rfl) (f := 60) (args := #[.int .u32 a0, .int .u32 a1, .int .u32 t4]) (by kernel_rfl) (math_bits_Add32.calls a0 a1 t4 (t9, t10) _ hx11) ?_
 rintro e wd12 ⟨rfl, hw13⟩
 refine ⟨_, rfl, ?_⟩
 replace hw := hw.call hw13
 intro a hs1
 replace hs : Slots a 31 [(0, .int .u32 a0), (1, .int .u32 a1), (16, .tuple #[.int .u32 t9, .int .u32 t10])] := hs1.keep [0, 1, 16] (by kernel_rfl)
 clear hs1
 refine go_pvs 5 10 [0, 1, 9, 10] hs (L' := [(0, .int .u32 a0), (1, .int .u32 a1), (9, .int .u32 t9), (10, .int .u32 t10)]) (by kernel_rfl) ?_ rfl
 clear hs; intro a hs
 refine go_end (by kernel_rfl) ?_
 refine hK2 _ _ ?_
 refine go_seq_k fun K14 hK14 => ?_
 refine go_region ?_
 refine go_pvs 0 15 [6, 7, 8] hs (L' := [(6, .int .u32 t9), (7, .bool (t10 == 1)), (8, .bool (((band .u32 (bxor .u32 a0 t9) (bxor .u32 a1 t9)).fdiv (2 ^ 31)) == 1))]) (by kernel_rfl) ?_ rfl
 clear hs; intro a hs
 refine go_end (by kernel_rfl) ?_
 refine hK14 _ _ ?_
 refine wp_ret ?_
 obtain rfl := Option.some.inj H
 refine ret3 (t1 := 6) (v1 := .int .u32 t9) (t2 := 7) (v2 := .bool (t10 == 1)) (t3 := 8) (v3 := .bool (((band .u32 (bxor .u32 a0 t9) (bxor .u32 a1 t9)).fdiv (2 ^ 31)) == 1)) hs (by kernel_rfl) (by kernel_rfl) (by kernel_rfl) (by kernel_rfl) ?_
 exact ⟨rfl, hw.only 0⟩

/-! rivet/word.Sub: function 43 -/
noncomputable def word_Sub (a0 : Int) (a1 : Int) (a2 : Bool) : Option (Int × Bool × Bool) := ((word_one a2).bind fun t4 => (((math_bits_Sub32 a0 a1 t4).bind fun ⟨t9, t10⟩ => (some (t9, t10 == 1, ((band .u32 (bxor .u32 a0 a1) (bxor .u32 a0 t9)).fdiv (2 ^ 31)) == 1)))))
set_option maxRecDepth 100000 in
set_option maxHeartbeats 4000000 in
theorem word_Sub.calls (a0 : Int) (a1 : Int) (a2 : Bool) (r : Int × Bool × Bool) (w0 : World) (H : word_Sub a0 a1 a2 = some r) :
    Calls Try.prog 43 #[.int .u32 a0, .int .u32 a1, .bool a2] w0 fun e w' => e = .returned (.tuple #[.int .u32 r.1, .bool r.2.1, .bool r.2.2]) ∧ St [] w0 w' [] := by
 have hw : St [] w0 w0 [] := St.nil w0
 unfold word_Sub at H
 refine go_fn Try.func43 rfl 31 Try.ntmps43 [(0, .int .u32 a0), (1, .int .u32 a1), (2, .bool a2)] (by kernel_rfl) rfl ?_
 intro a hs
 refine go_seq_k fun K1 hK1 => ?_
 refine go_region ?_
 refine go_pvs 0 3 [0, 1, 2] hs (L' := [(0, .int .u32 a0), (1, .int .u32 a1), (2, .bool a2)]) (by kernel_rfl) ?_ rfl
 clear hs; intro a hs
 refine go_end (by kernel_rfl) ?_
 refine hK1 _ _ ?_
 refine go_seq_k fun K2 hK2 => ?_
 refine go_region ?_
 refine go_pvs 0 3 [0, 1, 12, 13, 14] hs (L' := [(0, .int .u32 a0), (1, .int .u32 a1), (12, .int .u32 a0), (13, .int .u32 a1), (14, .bool a2)]) (by kernel_rfl) ?_ rfl
 clear hs; intro a hs
 obtain ⟨t4, hx5, H⟩ := bind_some H
 refine go_call hs (op := (Op.call { callee := (Callee.value (Operand.func 61)), args := #[(Operand.tmp 14)], argTypes := #[4] })) (ty := 22) (dst := some 15) (g := none) (by kernel_rfl) (by kernel_rfl) (by kernel_rfl) (f := 61) (args := #[.bool a2]) (by kernel_rfl) (word_one.calls a2 t4 _ hx5) ?_
 rintro e wd6 ⟨rfl, hw7⟩
 refine ⟨_, rfl, ?_⟩
 replace hw := hw.call hw7
 intro a hs1
 replace hs : Slots a 31 [(0, .int .u32 a0), (1, .int .u32 a1), (12, .int .u32 a0), (13, .int .u32 a1), (15, .int .u32 t4)] := hs1.keep [0, 1, 12, 13, 15] (by kernel_rfl)
 clear hs1
 obtain ⟨⟨t9, t10⟩, hx11, H⟩ := bind_some H
 refine go_call hs (op := (Op.call { callee := (Callee.value (Operand.func 62)), args := #[(Operand.tmp 12), (Operand.tmp 13), (Operand.tmp 15)], argTypes := #[22, 22, 22] })) (ty := 57) (dst := some 16) (g := none) (by kernel_rfl) (by kernel_rfl) (by kernel_rfl) (f := 62) (args := #[.int .u32 a0, .int .u32 a1, .int .u32 t4]) (by kernel_rfl) (math_bits_Sub32.calls a0 a1 t4 (t9, t10) _ hx11) ?_
 rintro e wd12 ⟨rfl, hw13⟩
 refine ⟨_, rfl, ?_⟩
 replace hw := hw.call hw13
 intro a hs1
 replace hs : Slots a 31 [(0, .int .u32 a0), (1, .int .u32 a1), (16, .tuple #[.int .u32 t9, .int .u32 t10])] := hs1.keep [0, 1, 16] (by kernel_rfl)
 clear hs1
 refine go_pvs 5 10 [0, 1, 9, 10] hs (L' := [(0, .int .u32 a0), (1, .int .u32 a1), (9, .int .u32 t9), (10, .int .u32 t10)]) (by kernel_rfl) ?_ rfl
 clear hs; intro a hs
 refine go_end (by kernel_rfl) ?_
 refine hK2 _ _ ?_
 refine go_seq_k fun K14 hK14 => ?_
 refine go_region ?_
 refine go_pvs 0 15 [6, 7, 8] hs (L' := [(6, .int .u32 t9), (7, .bool (t10 == 1)), (8, .bool (((band .u32 (bxor .u32 a0 a1) (bxor .u32 a0 t9)).fdiv (2 ^ 31)) == 1))]) (by kernel_rfl) ?_ rfl
 clear hs; intro a hs
 refine go_end (by kernel_rfl) ?_
 refine hK14 _ _ ?_
 refine wp_ret ?_
 obtain rfl := Option.some.inj H
 refine ret3 (t1 := 6) (v1 := .int .u32 t9) (t2 := 7) (v2 := .bool (t10 == 1)) (t3 := 8) (v3 := .bool (((band .u32 (bxor .u32 a0 a1) (bxor .u32 a0 t9)).fdiv (2 ^ 31)) == 1)) hs (by kernel_rfl) (by kernel_rfl) (by kernel_rfl) (by kernel_rfl) ?_
 exact ⟨rfl, hw.only 0⟩

/-! rivet/word.Shift: function 34 -/
noncomputable def word_Shift (a0 : Int) (a1 : Int) (a2 : Int) : Option Int := (if a0 = 1 then (if 0 ≤ (w64 (a2.tmod 32)) then some (shl .u32 a1 (w64 (a2.tmod 32))) else none) else (if a0 = 2 then (if 0 ≤ (w64 (a2.tmod 32)) then some (wu32 (shr .i32 (w32 a1) (w64 (a2.tmod 32)))) else none) else (if a0 = 3 then ((math_bits_RotateLeft32 a1 (w64 (0 - (w64 (a2.tmod 32))))).bind fun t19 => (some t19)) else some a1)))
set_option maxRecDepth 100000 in
set_option maxHeartbeats 4000000 in
theorem word_Shift.calls (a0 : Int) (a1 : Int) (a2 : Int) (r : Int) (w0 : World) (H : word_Shift a0 a1 a2 = some r) :
    Calls Try.prog 34 #[.int .i64 a0, .int .u32 a1, .int .u32 a2] w0 fun e w' => e = .returned (.int .u32 r) ∧ St [] w0 w' [] := by
 have hw : St [] w0 w0 [] := St.nil w0
 unfold word_Shift at H
 refine go_fn Try.func34 rfl 31 Try.ntmps34 [(0, .int .i64 a0), (1, .int .u32 a1), (2, .int .u32 a2)] (by kernel_rfl) rfl ?_
 intro a hs
 refine go_seq_k fun K1 hK1 => ?_
 refine go_region ?_
 refine go_pvs 0 1 [0, 1, 2] hs (L' := [(0, .int .i64 a0), (1, .int .u32 a1), (2, .int .u32 a2)]) (by kernel_rfl) ?_ rfl
 clear hs; intro a hs
 refine go_end (by kernel_rfl) ?_
 refine hK1 _ _ ?_
 refine go_seq_k fun K2 hK2 => ?_
 refine go_region ?_
 refine go_pvs 0 4 [0, 1, 7] hs (L' := [(0, .int .i64 a0), (1, .int .u32 a1), (7, .int .i64 (w64 (a2.tmod 32)))]) (by kernel_rfl) ?_ rfl
 clear hs; intro a hs
 refine go_end (by kernel_rfl) ?_
 refine hK2 _ _ ?_
 refine go_seq_k fun K3 hK3 => ?_
 refine go_seq_k fun K4 hK4 => ?_
 refine go_region ?_
 refine go_pvs 0 1 [1, 7, 11] hs (L' := [(1, .int .u32 a1), (7, .int .i64 (w64 (a2.tmod 32))), (11, .int .i64 a0)]) (by kernel_rfl) ?_ rfl
 clear hs; intro a hs
 refine go_end (by kernel_rfl) ?_
 refine hK4 _ _ ?_
 refine wp_block ?_
 refine go_seq_k fun K5 hK5 => ?_
 refine go_region ?_
 refine go_pvs 0 2 [1, 7, 11, 12] hs (L' := [(1, .int .u32 a1), (7, .int .i64 (w64 (a2.tmod 32))), (11, .int .i64 a0), (12, .bool (a0 == 1))]) (by kernel_rfl) ?_ rfl
 clear hs; intro a hs
 refine go_end (by kernel_rfl) ?_
 refine hK5 _ _ ?_
 refine go_cond hs (a0 == 1) (by kernel_rfl) (fun hc => ?_) (fun hc => ?_)
 ·replace H := ite_t H (beq_iff_eq.1 hc)
  have hb6 := hc
  rw [hb6] at hs
  refine go_seq_k fun K7 hK7 => ?_
  refine go_region ?_
  refine go_pvs 0 2 [14, 15] hs (L' := [(14, .int .u32 a1), (15, .int .i64 (w64 (a2.tmod 32)))]) (by kernel_rfl) ?_ rfl
  clear hs; intro a hs
  obtain ⟨hp8, H⟩ := ite_only H
  refine go_run hs (op := (Op.binOp BinOp.shl 22 (Operand.tmp 14) (Operand.tmp 15) 3)) (ty := 22) (dst := some 16) (g := none) (by kernel_rfl) (by kernel_rfl) (by kernel_rfl) (x_shl (k := .u32) (k' := .i64) (m := a1) (n := w64 (a2.tmod 32)) (by kernel_rfl) (by kernel_rfl) hp8) [16] (L' := [(16, .int .u32 (shl .u32 a1 (w64 (a2.tmod 32))))]) (by kernel_rfl) ?_
  clear hs; intro a hs
  refine go_pvs 3 4 [6] hs (L' := [(6, .int .u32 (shl .u32 a1 (w64 (a2.tmod 32))))]) (by kernel_rfl) ?_ rfl
  clear hs; intro a hs
  refine go_end (by kernel_rfl) ?_
  refine hK7 _ _ ?_
  refine wp_ret ?_
  refine ib_ret ?_
  refine th_ret ?_
  obtain rfl := Option.some.inj H
  refine ret1 (t := 6) (v := .int .u32 (shl .u32 a1 (w64 (a2.tmod 32)))) hs (by kernel_rfl) (by kernel_rfl) ?_
  exact ⟨rfl, hw.only 0⟩
 ·replace H := ite_f H (beq_eq_false_iff_ne.1 hc)
  have hb9 := hc
  rw [hb9] at hs
  refine go_seq_k fun K10 hK10 => ?_
  refine go_region ?_
  refine go_pvs 0 2 [1, 7, 11, 17] hs (L' := [(1, .int .u32 a1), (7, .int .i64 (w64 (a2.tmod 32))), (11, .int .i64 a0), (17, .bool (a0 == 2))]) (by kernel_rfl) ?_ rfl
  clear hs; intro a hs
  refine go_end (by kernel_rfl) ?_
  refine hK10 _ _ ?_
  refine go_cond hs (a0 == 2) (by kernel_rfl) (fun hc => ?_) (fun hc => ?_)
  ·replace H := ite_t H (beq_iff_eq.1 hc)
   have hb11 := hc
   rw [hb11] at hs
   refine go_seq_k fun K12 hK12 => ?_
   refine go_region ?_
   refine go_pvs 0 3 [20, 21] hs (L' := [(20, .int .i32 (w32 a1)), (21, .int .i64 (w64 (a2.tmod 32)))]) (by kernel_rfl) ?_ rfl
   clear hs; intro a hs
   obtain ⟨hp13, H⟩ := ite_only H
   refine go_run hs (op := (Op.binOp BinOp.shr 21 (Operand.tmp 20) (Operand.tmp 21) 3)) (ty := 21) (dst := some 22) (g := none) (by kernel_rfl) (by kernel_rfl) (by kernel_rfl) (x_shr (k := .i32) (k' := .i64) (m := w32 a1) (n := w64 (a2.tmod 32)) (by kernel_rfl) (by kernel_rfl) hp13) [22] (L' := [(22, .int .i32 (shr .i32 (w32 a1) (w64 (a2.tmod 32))))]) (by kernel_rfl) ?_
   clear hs; intro a hs
   refine go_pvs 4 6 [6] hs (L' := [(6, .int .u32 (wu32 (shr .i32 (w32 a1) (w64 (a2.tmod 32)))))]) (by kernel_rfl) ?_ rfl
   clear hs; intro a hs
   refine go_end (by kernel_rfl) ?_
   refine hK12 _ _ ?_
   refine wp_ret ?_
   refine ib_ret ?_
   refine th_ret ?_
   obtain rfl := Option.some.inj H
   refine ret1 (t := 6) (v := .int .u32 (wu32 (shr .i32 (w32 a1) (w64 (a2.tmod 32))))) hs (by kernel_rfl) (by kernel_rfl) ?_
   exact ⟨rfl, hw.only 0⟩
  ·replace H := ite_f H (beq_eq_false_iff_ne.1 hc)
   have hb14 := hc
   rw [hb14] at hs
   refine go_seq_k fun K15 hK15 => ?_
   refine go_region ?_
   refine go_pvs 0 2 [1, 7, 24] hs (L' := [(1, .int .u32 a1), (7, .int .i64 (w64 (a2.tmod 32))), (24, .bool (a0 == 3))]) (by kernel_rfl) ?_ rfl
   clear hs; intro a hs
   refine go_end (by kernel_rfl) ?_
   refine hK15 _ _ ?_
   refine go_cond hs (a0 == 3) (by kernel_rfl) (fun hc => ?_) (fun hc => ?_)
   ·replace H := ite_t H (beq_iff_eq.1 hc)
    have hb16 := hc
    rw [hb16] at hs
    refine go_seq_k fun K17 hK17 => ?_
    refine go_region ?_
    refine go_pvs 0 3 [26, 28] hs (L' := [(26, .int .u32 a1), (28, .int .i64 (w64 (0 - (w64 (a2.tmod 32)))))]) (by kernel_rfl) ?_ rfl
    clear hs; intro a hs
    obtain ⟨t19, hx20, H⟩ := bind_some H
    refine go_call hs (op := (Op.call { callee := (Callee.value (Operand.func 59)), args := #[(Operand.tmp 26), (Operand.tmp 28)], argTypes := #[22, 3] })) (ty := 22) (dst := some 29) (g := none) (by kernel_rfl) (by kernel_rfl) (by kernel_rfl) (f := 59) (args := #[.int .u32 a1, .int .i64 (w64 (0 - (w64 (a2.tmod 32))))]) (by kernel_rfl) (math_bits_RotateLeft32.calls a1 (w64 (0 - (w64 (a2.tmod 32)))) t19 _ hx20) ?_
    rintro e wd21 ⟨rfl, hw22⟩
    refine ⟨_, rfl, ?_⟩
    replace hw := hw.call hw22
    intro a hs1
    replace hs : Slots a 31 [(29, .int .u32 t19)] := hs1.keep [29] (by kernel_rfl)
    clear hs1
    refine go_pvs 4 5 [6] hs (L' := [(6, .int .u32 t19)]) (by kernel_rfl) ?_ rfl
    clear hs; intro a hs
    refine go_end (by kernel_rfl) ?_
    refine hK17 _ _ ?_
    refine wp_ret ?_
    refine ib_ret ?_
    refine th_ret ?_
    obtain rfl := Option.some.inj H
    refine ret1 (t := 6) (v := .int .u32 t19) hs (by kernel_rfl) (by kernel_rfl) ?_
    exact ⟨rfl, hw.only 0⟩
   ·replace H := ite_f H (beq_eq_false_iff_ne.1 hc)
    have hb23 := hc
    rw [hb23] at hs
    refine wp_skip ?_
    refine ib_norm ?_
    refine hK3 _ _ ?_
    refine go_seq_k fun K24 hK24 => ?_
    refine go_region ?_
    refine go_pvs 0 2 [6] hs (L' := [(6, .int .u32 a1)]) (by kernel_rfl) ?_ rfl
    clear hs; intro a hs
    refine go_end (by kernel_rfl) ?_
    refine hK24 _ _ ?_
    refine wp_ret ?_
    obtain rfl := Option.some.inj H
    refine ret1 (t := 6) (v := .int .u32 a1) hs (by kernel_rfl) (by kernel_rfl) ?_
    exact ⟨rfl, hw.only 0⟩

/-! rivet/word.Mul: function 45 -/
noncomputable def word_Mul.j1 (v7 : Int) : Option (Int × Int) := some (wu32 v7, wu32 (v7.fdiv (2 ^ 32)))
noncomputable def word_Mul (a0 : Int) (a1 : Int) (a2 : Bool) : Option (Int × Int) := (if a2 = true then word_Mul.j1 (wu64 ((wu64 a0) * (wu64 a1))) else word_Mul.j1 (wu64 (w64 ((w64 (w32 a0)) * (w64 (w32 a1))))))
set_option maxRecDepth 100000 in
set_option maxHeartbeats 4000000 in
theorem word_Mul.calls (a0 : Int) (a1 : Int) (a2 : Bool) (r : Int × Int) (w0 : World) (H : word_Mul a0 a1 a2 = some r) :
    Calls Try.prog 45 #[.int .u32 a0, .int .u32 a1, .bool a2] w0 fun e w' => e = .returned (.tuple #[.int .u32 r.1, .int .u32 r.2]) ∧ St [] w0 w' [] := by
 have hw : St [] w0 w0 [] := St.nil w0
 unfold word_Mul at H
 refine go_fn Try.func45 rfl 29 Try.ntmps45 [(0, .int .u32 a0), (1, .int .u32 a1), (2, .bool a2)] (by kernel_rfl) rfl ?_
 intro a hs
 refine go_seq_k fun K1 hK1 => ?_
 refine go_region ?_
 refine go_pvs 0 2 [0, 1, 2] hs (L' := [(0, .int .u32 a0), (1, .int .u32 a1), (2, .bool a2)]) (by kernel_rfl) ?_ rfl
 clear hs; intro a hs
 refine go_end (by kernel_rfl) ?_
 refine hK1 _ _ ?_
 refine go_seq_k fun K2 hK2 => ?_
 refine go_region ?_
 refine go_pvs 0 6 [0, 1, 2, 8] hs (L' := [(0, .int .u32 a0), (1, .int .u32 a1), (2, .bool a2), (8, .int .u64 (wu64 ((wu64 a0) * (wu64 a1))))]) (by kernel_rfl) ?_ rfl
 clear hs; intro a hs
 refine go_end (by kernel_rfl) ?_
 refine hK2 _ _ ?_
 refine go_seq_k fun K3 hK3 => ?_
 have hJ1 : ∀ (v7 : Int) (a : Act) (w : World), Slots a 29 [(8, .int .u64 v7)] → St [] w0 w [] → word_Mul.j1 v7 = some r → K3 a w := by
  intro v7 a w hs hw H
  unfold word_Mul.j1 at H
  refine hK3 _ _ ?_
  refine go_seq_k fun K8 hK8 => ?_
  refine go_region ?_
  refine go_pvs 0 7 [6, 7] hs (L' := [(6, .int .u32 (wu32 v7)), (7, .int .u32 (wu32 (v7.fdiv (2 ^ 32))))]) (by kernel_rfl) ?_ rfl
  clear hs; intro a hs
  refine go_end (by kernel_rfl) ?_
  refine hK8 _ _ ?_
  refine wp_ret ?_
  obtain rfl := Option.some.inj H
  refine ret2 (t1 := 6) (v1 := .int .u32 (wu32 v7)) (t2 := 7) (v2 := .int .u32 (wu32 (v7.fdiv (2 ^ 32)))) hs (by kernel_rfl) (by kernel_rfl) (by kernel_rfl) ?_
  exact ⟨rfl, hw.only 0⟩
 refine go_seq_k fun K4 hK4 => ?_
 refine go_region ?_
 refine go_pvs 0 2 [0, 1, 8, 15] hs (L' := [(0, .int .u32 a0), (1, .int .u32 a1), (8, .int .u64 (wu64 ((wu64 a0) * (wu64 a1)))), (15, .bool (!a2))]) (by kernel_rfl) ?_ rfl
 clear hs; intro a hs
 refine go_end (by kernel_rfl) ?_
 refine hK4 _ _ ?_
 refine go_cond hs (!a2) (by kernel_rfl) (fun hc => ?_) (fun hc => ?_)
 ·replace H := ite_f H (ff (nt hc))
  have hb5 := hc
  rw [hb5] at hs
  refine go_region ?_
  refine go_pvs 0 9 [8] hs (L' := [(8, .int .u64 (wu64 (w64 ((w64 (w32 a0)) * (w64 (w32 a1))))))]) (by kernel_rfl) ?_ rfl
  clear hs; intro a hs
  refine go_end (by kernel_rfl) ?_
  replace hw := hw.only 0
  exact hJ1 (wu64 (w64 ((w64 (w32 a0)) * (w64 (w32 a1))))) _ _ (hs.keep [8] (by kernel_rfl)) hw H
 ·replace H := ite_t H (nf hc)
  have hb6 := hc
  rw [hb6] at hs
  refine wp_skip ?_
  replace hw := hw.only 0
  exact hJ1 (wu64 ((wu64 a0) * (wu64 a1))) _ _ (hs.keep [8] (by kernel_rfl)) hw H

/-! rivet/word.Div: function 47 -/
noncomputable def word_Div.j1 (v15 : Int) (v16 : Int) : Option (Int × Int × Bool) := some (wu32 v15, wu32 v16, true)
noncomputable def word_Div (a0 : Int) (a1 : Int) : Option (Int × Int × Bool) := (if (w64 (w32 a1)) ≤ 0 then some (0, 0, false) else (if (w64 (w32 a1)) ≠ 0 then (if (w64 (w32 a1)) ≠ 0 then (if ((w64 (w32 a0)).tmod (w64 (w32 a1))) < 0 then word_Div.j1 (w64 ((w64 ((w64 (w32 a0)).tdiv (w64 (w32 a1)))) - 1)) (w64 (((w64 (w32 a0)).tmod (w64 (w32 a1))) + (w64 (w32 a1)))) else word_Div.j1 (w64 ((w64 (w32 a0)).tdiv (w64 (w32 a1)))) ((w64 (w32 a0)).tmod (w64 (w32 a1)))) else none) else none))
set_option maxRecDepth 100000 in
set_option maxHeartbeats 4000000 in
theorem word_Div.calls (a0 : Int) (a1 : Int) (r : Int × Int × Bool) (w0 : World) (H : word_Div a0 a1 = some r) :
    Calls Try.prog 47 #[.int .u32 a0, .int .u32 a1] w0 fun e w' => e = .returned (.tuple #[.int .u32 r.1, .int .u32 r.2.1, .bool r.2.2]) ∧ St [] w0 w' [] := by
 have hw : St [] w0 w0 [] := St.nil w0
 unfold word_Div at H
 refine go_fn Try.func47 rfl 36 Try.ntmps47 [(0, .int .u32 a0), (1, .int .u32 a1)] (by kernel_rfl) rfl ?_
 intro a hs
 refine go_seq_k fun K1 hK1 => ?_
 refine go_region ?_
 refine go_pvs 0 3 [0, 1] hs (L' := [(0, .int .u32 a0), (1, .int .u32 a1)]) (by kernel_rfl) ?_ rfl
 clear hs; intro a hs
 refine go_end (by kernel_rfl) ?_
 refine hK1 _ _ ?_
 refine go_seq_k fun K2 hK2 => ?_
 refine go_region ?_
 refine go_pvs 0 8 [7, 8] hs (L' := [(7, .int .i64 (w64 (w32 a0))), (8, .int .i64 (w64 (w32 a1)))]) (by kernel_rfl) ?_ rfl
 clear hs; intro a hs
 refine go_end (by kernel_rfl) ?_
 refine hK2 _ _ ?_
 refine go_seq_k fun K3 hK3 => ?_
 refine go_seq_k fun K4 hK4 => ?_
 refine go_region ?_
 refine go_pvs 0 2 [7, 8, 18] hs (L' := [(7, .int .i64 (w64 (w32 a0))), (8, .int .i64 (w64 (w32 a1))), (18, .bool (decide ((w64 (w32 a1)) ≤ 0)))]) (by kernel_rfl) ?_ rfl
 clear hs; intro a hs
 refine go_end (by kernel_rfl) ?_
 refine hK4 _ _ ?_
 refine go_cond hs (decide ((w64 (w32 a1)) ≤ 0)) (by kernel_rfl) (fun hc => ?_) (fun hc => ?_)
 ·replace H := ite_t H (of_decide_eq_true hc)
  have hb5 := hc
  rw [hb5] at hs
  refine go_seq_k fun K6 hK6 => ?_
  refine go_region ?_
  refine go_pvs 0 3 [4, 5, 6] hs (L' := [(4, .int .u32 0), (5, .int .u32 0), (6, .bool false)]) (by kernel_rfl) ?_ rfl
  clear hs; intro a hs
  refine go_end (by kernel_rfl) ?_
  refine hK6 _ _ ?_
  refine wp_ret ?_
  refine th_ret ?_
  obtain rfl := Option.some.inj H
  refine ret3 (t1 := 4) (v1 := .int .u32 0) (t2 := 5) (v2 := .int .u32 0) (t3 := 6) (v3 := .bool false) hs (by kernel_rfl) (by kernel_rfl) (by kernel_rfl) (by kernel_rfl) ?_
  exact ⟨rfl, hw.only 0⟩
 ·replace H := ite_f H (of_decide_eq_false hc)
  have hb7 := hc
  rw [hb7] at hs
  refine wp_skip ?_
  refine hK3 _ _ ?_
  refine go_seq_k fun K8 hK8 => ?_
  refine q2_region (by kernel_rfl) (by kernel_rfl) ?_
  refine q_pvs 0 2 [7, 8, 19, 20] hs (L' := [(7, .int .i64 (w64 (w32 a0))), (8, .int .i64 (w64 (w32 a1))), (19, .int .i64 (w64 (w32 a0))), (20, .int .i64 (w64 (w32 a1)))]) (by kernel_rfl) ?_ rfl
  clear hs; intro a hs
  obtain ⟨hp9, H⟩ := ite_only H
  refine q_run hs (op := (Op.binOp BinOp.quo 2 (Operand.tmp 19) (Operand.tmp 20) 2)) (ty := 2) (dst := some 21) (g := none) (by kernel_rfl) (by kernel_rfl) (by kernel_rfl) (fun wx hbx => (x_quo (k := .i64) (m := w64 (w32 a0)) (n := w64 (w32 a1)) (by kernel_rfl) (by kernel_rfl) hp9)) [7, 8, 21] (L' := [(7, .int .i64 (w64 (w32 a0))), (8, .int .i64 (w64 (w32 a1))), (21, .int .i64 (w64 ((w64 (w32 a0)).tdiv (w64 (w32 a1)))))]) (by kernel_rfl) ?_
  clear hs; intro a hs
  refine q_pvs 3 5 [8, 21, 22, 23] hs (L' := [(8, .int .i64 (w64 (w32 a1))), (21, .int .i64 (w64 ((w64 (w32 a0)).tdiv (w64 (w32 a1))))), (22, .int .i64 (w64 (w32 a0))), (23, .int .i64 (w64 (w32 a1)))]) (by kernel_rfl) ?_ rfl
  clear hs; intro a hs
  obtain ⟨hp10, H⟩ := ite_only H
  refine q_run hs (op := (Op.binOp BinOp.rem 2 (Operand.tmp 22) (Operand.tmp 23) 2)) (ty := 2) (dst := some 24) (g := none) (by kernel_rfl) (by kernel_rfl) (by kernel_rfl) (fun wx hbx => (x_rem (k := .i64) (m := w64 (w32 a0)) (n := w64 (w32 a1)) (by kernel_rfl) (by kernel_rfl) hp10)) [8, 21, 24] (L' := [(8, .int .i64 (w64 (w32 a1))), (21, .int .i64 (w64 ((w64 (w32 a0)).tdiv (w64 (w32 a1))))), (24, .int .i64 ((w64 (w32 a0)).tmod (w64 (w32 a1))))]) (by kernel_rfl) ?_
  clear hs; intro a hs
  refine q_pvs 6 8 [8, 9, 10] hs (L' := [(8, .int .i64 (w64 (w32 a1))), (9, .int .i64 (w64 ((w64 (w32 a0)).tdiv (w64 (w32 a1))))), (10, .int .i64 ((w64 (w32 a0)).tmod (w64 (w32 a1))))]) (by kernel_rfl) ?_ rfl
  clear hs; intro a hs
  refine q_end (by kernel_rfl) ?_
  intro wq hbq
  replace hw := hw.behind hbq
  refine hK8 _ _ ?_
  refine go_seq_k fun K11 hK11 => ?_
  have hJ1 : ∀ (v15 : Int) (v16 : Int) (a : Act) (w : World), Slots a 36 [(9, .int .i64 v15), (10, .int .i64 v16)] → St [] w0 w [] → word_Div.j1 v15 v16 = some r → K11 a w := by
   intro v15 v16 a w hs hw H
   unfold word_Div.j1 at H
   refine hK11 _ _ ?_
   refine go_seq_k fun K17 hK17 => ?_
   refine go_region ?_
   refine go_pvs 0 7 [4, 5, 6] hs (L' := [(4, .int .u32 (wu32 v15)), (5, .int .u32 (wu32 v16)), (6, .bool true)]) (by kernel_rfl) ?_ rfl
   clear hs; intro a hs
   refine go_end (by kernel_rfl) ?_
   refine hK17 _ _ ?_
   refine wp_ret ?_
   obtain rfl := Option.some.inj H
   refine ret3 (t1 := 4) (v1 := .int .u32 (wu32 v15)) (t2 := 5) (v2 := .int .u32 (wu32 v16)) (t3 := 6) (v3 := .bool true) hs (by kernel_rfl) (by kernel_rfl) (by kernel_rfl) (by kernel_rfl) ?_
   exact ⟨rfl, hw.only 0⟩
  refine go_seq_k fun K12 hK12 => ?_
  refine go_region ?_
  refine go_pvs 0 2 [8, 9, 10, 26] hs (L' := [(8, .int .i64 (w64 (w32 a1))), (9, .int .i64 (w64 ((w64 (w32 a0)).tdiv (w64 (w32 a1))))), (10, .int .i64 ((w64 (w32 a0)).tmod (w64 (w32 a1)))), (26, .bool (decide (((w64 (w32 a0)).tmod (w64 (w32 a1))) < 0)))]) (by kernel_rfl) ?_ rfl
  clear hs; intro a hs
  refine go_end (by kernel_rfl) ?_
  refine hK12 _ _ ?_
  refine go_cond hs (decide (((w64 (w32 a0)).tmod (w64 (w32 a1))) < 0)) (by kernel_rfl) (fun hc => ?_) (fun hc => ?_)
  ·replace H := ite_t H (of_decide_eq_true hc)
   have hb13 := hc
   rw [hb13] at hs
   refine go_region ?_
   refine go_pvs 0 7 [9, 10] hs (L' := [(9, .int .i64 (w64 ((w64 ((w64 (w32 a0)).tdiv (w64 (w32 a1)))) - 1))), (10, .int .i64 (w64 (((w64 (w32 a0)).tmod (w64 (w32 a1))) + (w64 (w32 a1)))))]) (by kernel_rfl) ?_ rfl
   clear hs; intro a hs
   refine go_end (by kernel_rfl) ?_
   replace hw := hw.only 0
   exact hJ1 (w64 ((w64 ((w64 (w32 a0)).tdiv (w64 (w32 a1)))) - 1)) (w64 (((w64 (w32 a0)).tmod (w64 (w32 a1))) + (w64 (w32 a1)))) _ _ (hs.keep [9, 10] (by kernel_rfl)) hw H
  ·replace H := ite_f H (of_decide_eq_false hc)
   have hb14 := hc
   rw [hb14] at hs
   refine wp_skip ?_
   replace hw := hw.only 0
   exact hJ1 (w64 ((w64 (w32 a0)).tdiv (w64 (w32 a1)))) ((w64 (w32 a0)).tmod (w64 (w32 a1))) _ _ (hs.keep [9, 10] (by kernel_rfl)) hw H

/-! rivet/field.known: function 65 -/
noncomputable def field_known (a0 : Int) : Option Int := some (mnn (mxx a0 1) 32)
set_option maxRecDepth 100000 in
set_option maxHeartbeats 4000000 in
theorem field_known.calls (a0 : Int) (r : Int) (w0 : World) (H : field_known a0 = some r) :
    Calls Try.prog 65 #[.int .i64 a0] w0 fun e w' => e = .returned (.int .i64 r) ∧ St [] w0 w' [] := by
 have hw : St [] w0 w0 [] := St.nil w0
 unfold field_known at H
 refine go_fn Try.func65 rfl 6 Try.ntmps65 [(0, .int .i64 a0)] (by kernel_rfl) rfl ?_
 intro a hs
 refine go_seq_k fun K1 hK1 => ?_
 refine go_region ?_
 refine go_pvs 0 1 [0] hs (L' := [(0, .int .i64 a0)]) (by kernel_rfl) ?_ rfl
 clear hs; intro a hs
 refine go_end (by kernel_rfl) ?_
 refine hK1 _ _ ?_
 refine go_seq_k fun K2 hK2 => ?_
 refine go_region ?_
 refine go_pvs 0 4 [2] hs (L' := [(2, .int .i64 (mnn (mxx a0 1) 32))]) (by kernel_rfl) ?_ rfl
 clear hs; intro a hs
 refine go_end (by kernel_rfl) ?_
 refine hK2 _ _ ?_
 refine wp_ret ?_
 obtain rfl := Option.some.inj H
 refine ret1 (t := 2) (v := .int .i64 (mnn (mxx a0 1) 32)) hs (by kernel_rfl) (by kernel_rfl) ?_
 exact ⟨rfl, hw.only 0⟩

/-! rivet/field.Get: function 54 -/
noncomputable def field_Get.j4 (v25 : Int) (a1 : Int) (v24 : Int) (a0 : Int) : Option (Int × Int ⊕ Int) := (if 0 ≤ v25 then (if 0 ≤ (w64 (v25 - a1)) then some (.inl (bor .u32 v24 (shl .u32 (band .u32 (shr .u32 a0 v25) 1) (w64 (v25 - a1))), w64 (v25 + 1))) else none) else none)
noncomputable def field_Get.j3 (v25 : Int) (a1 : Int) (v24 : Int) (a0 : Int) (v29 : Bool) : Option (Int × Int ⊕ Int) := (if v29 = true then field_Get.j4 v25 a1 v24 a0 else some (.inr v24))
noncomputable def field_Get.b23 (a1 : Int) (a0 : Int) (a2 : Int) (v24 : Int) (v25 : Int) : Option (Int × Int ⊕ Int) := (if v25 < 32 then field_Get.j3 v25 a1 v24 a0 (decide ((w64 (v25 - a1)) < a2)) else field_Get.j3 v25 a1 v24 a0 false)
noncomputable def field_Get.j5 (v38 : Int) : Option Int := some v38
noncomputable def field_Get.j2 (a1 : Int) (a0 : Int) (a2 : Int) : Option Int := ((loopO (fun (σ : Int × Int) => field_Get.b23 a1 a0 a2 σ.1 σ.2) (0, mxx a1 0)).bind fun e => field_Get.j5 e)
noncomputable def field_Get.j1 (a1 : Int) (a0 : Int) (a2 : Int) (v17 : Bool) : Option Int := (if v17 = true then some 0 else field_Get.j2 a1 a0 a2)
noncomputable def field_Get (a0 : Int) (a1 : Int) (a2 : Int) : Option Int := (if a2 < 1 then field_Get.j1 a1 a0 a2 true else (if a1 ≥ 32 then field_Get.j1 a1 a0 a2 true else field_Get.j1 a1 a0 a2 (decide (a1 ≤ (w64 (0 - a2))))))
set_option maxRecDepth 100000 in
set_option maxHeartbeats 4000000 in
theorem field_Get.calls (a0 : Int) (a1 : Int) (a2 : Int) (r : Int) (w0 : World) (H : field_Get a0 a1 a2 = some r) :
    Calls Try.prog 54 #[.int .u32 a0, .int .i64 a1, .int .i64 a2] w0 fun e w' => e = .returned (.int .u32 r) ∧ St [] w0 w' [] := by
 have hw : St [] w0 w0 [] := St.nil w0
 unfold field_Get at H
 refine go_fn Try.func54 rfl 13 Try.ntmps54 [(0, .int .u32 a0), (1, .int .i64 a1), (2, .int .i64 a2)] (by kernel_rfl) rfl ?_
 intro a hs
 refine go_seq_k fun K1 hK1 => ?_
 refine go_region ?_
 obtain ⟨ad2, wd3, hx4, hw⟩ := x_box1 (P := Try.prog) (elem := 22) (v := (Operand.tmp 0)) (ty := 0) hs hw (eI .u32) a0 (by kernel_rfl)
 refine go_run hs (op := (Op.box 22 (Operand.tmp 0))) (ty := 0) (dst := some 3) (g := none) (by kernel_rfl) (by kernel_rfl) (by kernel_rfl) hx4 [1, 2, 3] (L' := [(1, .int .i64 a1), (2, .int .i64 a2), (3, .pointer (some ad2))]) (by kernel_rfl) ?_
 clear hs; intro a hs
 refine go_pvs 1 2 [1, 2, 3] hs (L' := [(1, .int .i64 a1), (2, .int .i64 a2), (3, .pointer (some ad2))]) (by kernel_rfl) ?_ rfl
 clear hs; intro a hs
 refine go_end (by kernel_rfl) ?_
 refine hK1 _ _ ?_
 refine go_seq_k fun K6 hK6 => ?_
 refine go_region ?_
 obtain ⟨ad7, wd8, hx9, hw⟩ := x_alloc1 (P := Try.prog) (elem := 22) (ty := 0) (z := .int .u32 0) hs hw (eI .u32) 0 (by kernel_rfl) (by kernel_rfl)
 refine go_run hs (op := (Op.alloc 22)) (ty := 0) (dst := some 7) (g := none) (by kernel_rfl) (by kernel_rfl) (by kernel_rfl) hx9 [1, 2, 3, 7] (L' := [(1, .int .i64 a1), (2, .int .i64 a2), (3, .pointer (some ad2)), (7, .pointer (some ad7))]) (by kernel_rfl) ?_
 clear hs; intro a hs
 refine go_end (by kernel_rfl) ?_
 refine hK6 _ _ ?_
 refine go_seq_k fun K11 hK11 => ?_
 refine go_region ?_
 refine go_pvs 0 3 [7, 8, 9, 10] hs (L' := [(7, .pointer (some ad7)), (8, .int .i64 a1), (9, .int .i64 a2), (10, .func (.func 64) #[] #[.pointer (some ad7), .pointer (some ad2)])]) (by kernel_rfl) ?_ rfl
 clear hs; intro a hs
 refine go_inline_k hs (op := (Op.call { callee := (Callee.value (Operand.func 63)), args := #[(Operand.tmp 8), (Operand.tmp 9), (Operand.tmp 10)], argTypes := #[3, 3, 83] })) (ty := 0) (dst := some 11) (g := none) (by kernel_rfl) (by kernel_rfl) (by kernel_rfl) (f := 63) (args := #[.int .i64 a1, .int .i64 a2, .func (.func 64) #[] #[.pointer (some ad7), .pointer (some ad2)]]) (by kernel_rfl) (fun KR12 hKR12 => ?_)
 refine go_fn Try.func63 rfl 38 Try.ntmps63 [(0, .int .i64 a1), (1, .int .i64 a2), (2, .func (.func 64) #[] #[.pointer (some ad7), .pointer (some ad2)])] (by kernel_rfl) rfl ?_
 clear hs; intro a hs
 refine go_seq_k fun K13 hK13 => ?_
 have hJ2 : ∀ (a : Act) (w : World), Slots a 38 [(0, .int .i64 a1), (1, .int .i64 a2), (2, .func (.func 64) #[] #[.pointer (some ad7), .pointer (some ad2)])] → St [] w0 w [own 22 (eI .u32) (some ad7) 1 [0], own 22 (eI .u32) (some ad2) 1 [a0]] → field_Get.j2 a1 a0 a2 = some r → K13 a w := by
  intro a w hs hw H
  unfold field_Get.j2 at H
  refine hK13 _ _ ?_
  refine go_seq_k fun K21 hK21 => ?_
  refine go_region ?_
  refine go_pvs 0 3 [0, 1, 2, 6] hs (L' := [(0, .int .i64 a1), (1, .int .i64 a2), (2, .func (.func 64) #[] #[.pointer (some ad7), .pointer (some ad2)]), (6, .int .i64 (mxx a1 0))]) (by kernel_rfl) ?_ rfl
  clear hs; intro a hs
  refine go_end (by kernel_rfl) ?_
  refine hK21 _ _ ?_
  refine name_k fun K22 hK22 => ?_
  refine wp_block ?_
  obtain ⟨e23, hl23, HX23⟩ := bind_some H
  have hJ5 : ∀ (v38 : Int) (a : Act) (w : World), Slots a 38 [] → St [] w0 w [own 22 (eI .u32) (some ad7) 1 [v38], own 22 (eI .u32) (some ad2) 1 [a0]] → field_Get.j5 v38 = some r → K22 a w := by
   intro v38 a w hs hw H
   unfold field_Get.j5 at H
   refine hK22 _ _ ?_
   refine end0 hs (by kernel_rfl) ?_
   refine ⟨_, rfl, ?_⟩
   refine hKR12 _ _ ?_
   intro a hs1
   have hs : Slots a _ [(7, .pointer (some ad7))] := hs1.keep [7] (by kernel_rfl)
   clear hs1
   refine go_end (by kernel_rfl) ?_
   refine hK11 _ _ ?_
   refine go_seq_k fun K39 hK39 => ?_
   refine go_region ?_
   refine go_run hs (op := (Op.load 22 (Operand.tmp 7))) (ty := 22) (dst := some 12) (g := none) (by kernel_rfl) (by kernel_rfl) (by kernel_rfl) (x_ld (E := (eI .u32)) (off := 0) (p := ad7) (v := .int .u32 v38) (Rd.of_own (hw.up 0)) (one_ok 0).1 (one_ok 0).2 (by kernel_rfl) (one_at _ _) (by kernel_rfl) (by kernel_rfl)) [12] (L' := [(12, .int .u32 v38)]) (by kernel_rfl) ?_
   clear hs; intro a hs
   refine go_pvs 1 2 [6] hs (L' := [(6, .int .u32 v38)]) (by kernel_rfl) ?_ rfl
   clear hs; intro a hs
   refine go_end (by kernel_rfl) ?_
   refine hK39 _ _ ?_
   refine wp_ret ?_
   obtain rfl := Option.some.inj H
   refine ret1 (t := 6) (v := .int .u32 v38) hs (by kernel_rfl) (by kernel_rfl) ?_
   exact ⟨rfl, hw.only 0⟩
  clear H
  refine go_loop (σ := Int × Int) (fun σ a w => Slots a 38 [(0, .int .i64 a1), (1, .int .i64 a2), (2, .func (.func 64) #[] #[.pointer (some ad7), .pointer (some ad2)]), (6, .int .i64 σ.2)] ∧ St [] w0 w [own 22 (eI .u32) (some ad7) 1 [σ.1], own 22 (eI .u32) (some ad2) 1 [a0]]) hl23 (by exact ⟨hs.keep [0, 1, 2, 6] (by kernel_rfl), hw⟩) ?_
  rintro ⟨v24, v25⟩ a w ⟨hs, hw⟩ o H hr23
  replace hs : Slots a 38 [(0, .int .i64 a1), (1, .int .i64 a2), (2, .func (.func 64) #[] #[.pointer (some ad7), .pointer (some ad2)]), (6, .int .i64 v25)] := hs
  replace hw : St [] w0 w [own 22 (eI .u32) (some ad7) 1 [v24], own 22 (eI .u32) (some ad2) 1 [a0]] := hw
  replace H : field_Get.b23 a1 a0 a2 v24 v25 = some o := H
  unfold field_Get.b23 at H
  refine go_seq_k fun K26 hK26 => ?_
  have hJ4 : ∀ (a : Act) (w : World), Slots a 38 [(0, .int .i64 a1), (1, .int .i64 a2), (2, .func (.func 64) #[] #[.pointer (some ad7), .pointer (some ad2)]), (6, .int .i64 v25)] → St [] w0 w [own 22 (eI .u32) (some ad7) 1 [v24], own 22 (eI .u32) (some ad2) 1 [a0]] → field_Get.j4 v25 a1 v24 a0 = some o → K26 a w := by
   intro a w hs hw H
   unfold field_Get.j4 at H
   refine hK26 _ _ ?_
   refine go_seq_k fun K32 hK32 => ?_
   refine wp_block ?_
   refine go_region ?_
   refine go_pvs 0 5 [0, 1, 2, 6, 32, 33, 36] hs (L' := [(0, .int .i64 a1), (1, .int .i64 a2), (2, .func (.func 64) #[] #[.pointer (some ad7), .pointer (some ad2)]), (6, .int .i64 v25), (32, .func (.func 64) #[] #[.pointer (some ad7), .pointer (some ad2)]), (33, .int .i64 v25), (36, .int .i64 (w64 (v25 - a1)))]) (by kernel_rfl) ?_ rfl
   clear hs; intro a hs
   refine go_inline_k hs (op := (Op.call { callee := (Callee.value (Operand.tmp 32)), args := #[(Operand.tmp 33), (Operand.tmp 36)], argTypes := #[3, 3] })) (ty := 0) (dst := some 37) (g := none) (by kernel_rfl) (by kernel_rfl) (by kernel_rfl) (f := 64) (args := #[.int .i64 v25, .int .i64 (w64 (v25 - a1)), .pointer (some ad7), .pointer (some ad2)]) (by kernel_rfl) (fun KR33 hKR33 => ?_)
   refine go_fn Try.func64 rfl 14 Try.ntmps64 [(0, .int .i64 v25), (1, .int .i64 (w64 (v25 - a1))), (2, .pointer (some ad7)), (3, .pointer (some ad2))] (by kernel_rfl) rfl ?_
   clear hs; intro a hs
   refine z_region [0, 1, 2, 3, 4, 5, 6, 7] [8] [] (by kernel_rfl) (by kernel_rfl) (fun c a d v w h => by cases d <;> exact h) ?_
   refine z_run hs (op := (Op.load 22 (Operand.tmp 2))) (ty := 22) (dst := some 6) (g := none) (by kernel_rfl) (by kernel_rfl) (by kernel_rfl) (fun wx hbx => (x_ld (E := (eI .u32)) (off := 0) (p := ad7) (v := .int .u32 v24) ((Rd.of_own (hw.up 0)).below hbx) (one_ok 0).1 (one_ok 0).2 (by kernel_rfl) (one_at _ _) (by kernel_rfl) (by kernel_rfl))) [0, 1, 2, 3, 6] (L' := [(0, .int .i64 v25), (1, .int .i64 (w64 (v25 - a1))), (2, .pointer (some ad7)), (3, .pointer (some ad2)), (6, .int .u32 v24)]) (by kernel_rfl) ?_
   clear hs; intro a hs
   refine z_run hs (op := (Op.load 22 (Operand.tmp 3))) (ty := 22) (dst := some 7) (g := none) (by kernel_rfl) (by kernel_rfl) (by kernel_rfl) (fun wx hbx => (x_ld (E := (eI .u32)) (off := 0) (p := ad2) (v := .int .u32 a0) ((Rd.of_own (hw.up 1)).below hbx) (one_ok a0).1 (one_ok a0).2 (by kernel_rfl) (one_at _ _) (by kernel_rfl) (by kernel_rfl))) [0, 1, 2, 6, 7] (L' := [(0, .int .i64 v25), (1, .int .i64 (w64 (v25 - a1))), (2, .pointer (some ad7)), (6, .int .u32 v24), (7, .int .u32 a0)]) (by kernel_rfl) ?_
   clear hs; intro a hs
   refine z_pvs [2] [3, 4, 5, 6, 7] [1, 2, 6, 7, 8] hs (L' := [(1, .int .i64 (w64 (v25 - a1))), (2, .pointer (some ad7)), (6, .int .u32 v24), (7, .int .u32 a0), (8, .int .i64 v25)]) (by kernel_rfl) ?_ (by kernel_rfl)
   clear hs; intro a hs
   obtain ⟨hp34, H⟩ := ite_only H
   refine z_run hs (op := (Op.binOp BinOp.shr 22 (Operand.tmp 7) (Operand.tmp 8) 3)) (ty := 22) (dst := some 9) (g := none) (by kernel_rfl) (by kernel_rfl) (by kernel_rfl) (fun wx hbx => (x_shr (k := .u32) (k' := .i64) (m := a0) (n := v25) (by kernel_rfl) (by kernel_rfl) hp34)) [1, 2, 6, 9] (L' := [(1, .int .i64 (w64 (v25 - a1))), (2, .pointer (some ad7)), (6, .int .u32 v24), (9, .int .u32 (shr .u32 a0 v25))]) (by kernel_rfl) ?_
   clear hs; intro a hs
   refine z_pvs [4, 5] [6, 7] [2, 6, 10, 11] hs (L' := [(2, .pointer (some ad7)), (6, .int .u32 v24), (10, .int .u32 (band .u32 (shr .u32 a0 v25) 1)), (11, .int .i64 (w64 (v25 - a1)))]) (by kernel_rfl) ?_ (by kernel_rfl)
   clear hs; intro a hs
   obtain ⟨hp35, H⟩ := ite_only H
   refine z_run hs (op := (Op.binOp BinOp.shl 22 (Operand.tmp 10) (Operand.tmp 11) 3)) (ty := 22) (dst := some 12) (g := none) (by kernel_rfl) (by kernel_rfl) (by kernel_rfl) (fun wx hbx => (x_shl (k := .u32) (k' := .i64) (m := band .u32 (shr .u32 a0 v25) 1) (n := w64 (v25 - a1)) (by kernel_rfl) (by kernel_rfl) hp35)) [2, 6, 12] (L' := [(2, .pointer (some ad7)), (6, .int .u32 v24), (12, .int .u32 (shl .u32 (band .u32 (shr .u32 a0 v25) 1) (w64 (v25 - a1))))]) (by kernel_rfl) ?_
   clear hs; intro a hs
   refine z_pvs [7] [] [2, 13] hs (L' := [(2, .pointer (some ad7)), (13, .int .u32 (bor .u32 v24 (shl .u32 (band .u32 (shr .u32 a0 v25) 1) (w64 (v25 - a1)))))]) (by kernel_rfl) ?_ (by kernel_rfl)
   clear hs; intro a hs
   refine z_end ?_
   intro wq hbq
   replace hw := hw.behind hbq
   obtain ⟨wd36, hx37, hw⟩ := x_put (P := Try.prog) (ty := 0) (t := 22) (x := (Operand.tmp 2)) (y := (Operand.tmp 13)) (off := 0) (p := ad7) (v := .int .u32 (bor .u32 v24 (shl .u32 (band .u32 (shr .u32 a0 v25) 1) (w64 (v25 - a1))))) (vs := [.int .u32 (bor .u32 v24 (shl .u32 (band .u32 (shr .u32 a0 v25) 1) (w64 (v25 - a1))))]) (i := 0) (e' := (bor .u32 v24 (shl .u32 (band .u32 (shr .u32 a0 v25) 1) (w64 (v25 - a1))) : Int)) hs hw rfl (one_ok 0).1 (one_ok 0).2 (by kernel_rfl) (one_at _ _) (by kernel_rfl) rfl (by kernel_rfl) (Nat.le_of_ble_eq_true rfl) (by simp [Value.oneCell']) (by kernel_rfl)
   refine p_unit hs (op := (Op.store 22 (Operand.tmp 2) (Operand.tmp 13))) (ty := 0) (dst := none) (g := none) (by kernel_rfl) (by kernel_rfl) (by kernel_rfl) hx37 [] (L' := []) (by kernel_rfl) ?_
   clear hs; intro a hs
   replace hw : St [] w0 wd36 [own 22 (eI .u32) (some ad7) 1 [bor .u32 v24 (shl .u32 (band .u32 (shr .u32 a0 v25) 1) (w64 (v25 - a1)))], own 22 (eI .u32) (some ad2) 1 [a0]] := hw
   refine p_last ?_
   refine e_end ?_
   refine end0 hs (by kernel_rfl) ?_
   refine ⟨_, rfl, ?_⟩
   refine hKR33 _ _ ?_
   intro a hs1
   have hs : Slots a _ [(0, .int .i64 a1), (1, .int .i64 a2), (2, .func (.func 64) #[] #[.pointer (some ad7), .pointer (some ad2)]), (6, .int .i64 v25)] := hs1.keep [0, 1, 2, 6] (by kernel_rfl)
   clear hs1
   refine go_end (by kernel_rfl) ?_
   refine ib_norm ?_
   refine hK32 _ _ ?_
   refine go_region ?_
   refine go_pvs 0 3 [0, 1, 2, 6] hs (L' := [(0, .int .i64 a1), (1, .int .i64 a2), (2, .func (.func 64) #[] #[.pointer (some ad7), .pointer (some ad2)]), (6, .int .i64 (w64 (v25 + 1)))]) (by kernel_rfl) ?_ rfl
   clear hs; intro a hs
   refine go_end (by kernel_rfl) ?_
   replace hw := hw.up 1
   replace hw := hw.up 1
   replace hw := hw.only 2
   exact round_end (bor .u32 v24 (shl .u32 (band .u32 (shr .u32 a0 v25) 1) (w64 (v25 - a1))), w64 (v25 + 1)) (Option.some.inj H).symm ⟨hs.keep [0, 1, 2, 6] (by kernel_rfl), hw⟩
  refine go_seq_k fun K27 hK27 => ?_
  have hJ3 : ∀ (v29 : Bool) (a : Act) (w : World), Slots a 38 [(0, .int .i64 a1), (1, .int .i64 a2), (2, .func (.func 64) #[] #[.pointer (some ad7), .pointer (some ad2)]), (6, .int .i64 v25), (29, .bool v29)] → St [] w0 w [own 22 (eI .u32) (some ad7) 1 [v24], own 22 (eI .u32) (some ad2) 1 [a0]] → field_Get.j3 v25 a1 v24 a0 v29 = some o → K27 a w := by
   intro v29 a w hs hw H
   unfold field_Get.j3 at H
   refine hK27 _ _ ?_
   refine go_cond hs v29 (by kernel_rfl) (fun hc => ?_) (fun hc => ?_)
   ·replace H := ite_t H hc
    have hb30 := hc
    rw [hb30] at hs
    refine wp_skip ?_
    replace hw := hw.up 1
    replace hw := hw.up 1
    replace hw := hw.only 2
    exact hJ4 _ _ (hs.keep [0, 1, 2, 6] (by kernel_rfl)) hw H
   ·replace H := ite_f H (ff hc)
    have hb31 := hc
    rw [hb31] at hs
    refine wp_exit ?_
    refine th_exit ?_
    refine th_exit ?_
    refine in_block ?_
    replace hw := hw.up 1
    replace hw := hw.up 1
    replace hw := hw.only 2
    rw [← hr23 _ (Option.some.inj H).symm] at HX23
    exact hJ5 v24 _ _ (hs.keep [] (by kernel_rfl)) hw HX23
  refine go_region ?_
  refine go_pvs 0 3 [0, 1, 2, 6, 23] hs (L' := [(0, .int .i64 a1), (1, .int .i64 a2), (2, .func (.func 64) #[] #[.pointer (some ad7), .pointer (some ad2)]), (6, .int .i64 v25), (23, .bool (decide (v25 < 32)))]) (by kernel_rfl) ?_ rfl
  clear hs; intro a hs
  cases hb28 : (decide (v25 < 32))
  ·replace H := ite_f H (of_decide_eq_false hb28)
   rw [hb28] at hs
   refine go_pvs 3 9 [0, 1, 2, 6, 29] hs (L' := [(0, .int .i64 a1), (1, .int .i64 a2), (2, .func (.func 64) #[] #[.pointer (some ad7), .pointer (some ad2)]), (6, .int .i64 v25), (29, .bool false)]) (by kernel_rfl) ?_ rfl
   clear hs; intro a hs
   refine go_end (by kernel_rfl) ?_
   replace hw := hw.up 1
   replace hw := hw.up 1
   replace hw := hw.only 2
   exact hJ3 false _ _ (hs.keep [0, 1, 2, 6, 29] (by kernel_rfl)) hw H
  ·replace H := ite_t H (of_decide_eq_true hb28)
   rw [hb28] at hs
   refine go_pvs 3 9 [0, 1, 2, 6, 29] hs (L' := [(0, .int .i64 a1), (1, .int .i64 a2), (2, .func (.func 64) #[] #[.pointer (some ad7), .pointer (some ad2)]), (6, .int .i64 v25), (29, .bool (decide ((w64 (v25 - a1)) < a2)))]) (by kernel_rfl) ?_ rfl
   clear hs; intro a hs
   refine go_end (by kernel_rfl) ?_
   replace hw := hw.up 1
   replace hw := hw.up 1
   replace hw := hw.only 2
   exact hJ3 (decide ((w64 (v25 - a1)) < a2)) _ _ (hs.keep [0, 1, 2, 6, 29] (by kernel_rfl)) hw H
 refine go_seq_k fun K14 hK14 => ?_
 have hJ1 : ∀ (v17 : Bool) (a : Act) (w : World), Slots a 38 [(0, .int .i64 a1), (1, .int .i64 a2), (2, .func (.func 64) #[] #[.pointer (some ad7), .pointer (some ad2)]), (18, .bool v17)] → St [] w0 w [own 22 (eI .u32) (some ad7) 1 [0], own 22 (eI .u32) (some ad2) 1 [a0]] → field_Get.j1 a1 a0 a2 v17 = some r → K14 a w := by
  intro v17 a w hs hw H
  unfold field_Get.j1 at H
  refine hK14 _ _ ?_
  refine go_cond hs v17 (by kernel_rfl) (fun hc => ?_) (fun hc => ?_)
  ·replace H := ite_t H hc
   have hb18 := hc
   rw [hb18] at hs
   refine wp_ret ?_
   refine th_ret ?_
   refine ret0 hs (by kernel_rfl) ?_
   refine ⟨_, rfl, ?_⟩
   refine hKR12 _ _ ?_
   intro a hs1
   have hs : Slots a _ [(7, .pointer (some ad7))] := hs1.keep [7] (by kernel_rfl)
   clear hs1
   refine go_end (by kernel_rfl) ?_
   refine hK11 _ _ ?_
   refine go_seq_k fun K19 hK19 => ?_
   refine go_region ?_
   refine go_run hs (op := (Op.load 22 (Operand.tmp 7))) (ty := 22) (dst := some 12) (g := none) (by kernel_rfl) (by kernel_rfl) (by kernel_rfl) (x_ld (E := (eI .u32)) (off := 0) (p := ad7) (v := .int .u32 0) (Rd.of_own (hw.up 0)) (one_ok 0).1 (one_ok 0).2 (by kernel_rfl) (one_at _ _) (by kernel_rfl) (by kernel_rfl)) [12] (L' := [(12, .int .u32 0)]) (by kernel_rfl) ?_
   clear hs; intro a hs
   refine go_pvs 1 2 [6] hs (L' := [(6, .int .u32 0)]) (by kernel_rfl) ?_ rfl
   clear hs; intro a hs
   refine go_end (by kernel_rfl) ?_
   refine hK19 _ _ ?_
   refine wp_ret ?_
   obtain rfl := Option.some.inj H
   refine ret1 (t := 6) (v := .int .u32 0) hs (by kernel_rfl) (by kernel_rfl) ?_
   exact ⟨rfl, hw.only 0⟩
  ·replace H := ite_f H (ff hc)
   have hb20 := hc
   rw [hb20] at hs
   refine wp_skip ?_
   replace hw := hw.up 1
   replace hw := hw.up 1
   replace hw := hw.only 2
   exact hJ2 _ _ (hs.keep [0, 1, 2] (by kernel_rfl)) hw H
 refine go_region ?_
 refine go_pvs 0 3 [0, 1, 2, 9] hs (L' := [(0, .int .i64 a1), (1, .int .i64 a2), (2, .func (.func 64) #[] #[.pointer (some ad7), .pointer (some ad2)]), (9, .bool (decide (a2 < 1)))]) (by kernel_rfl) ?_ rfl
 clear hs; intro a hs
 cases hb15 : (decide (a2 < 1))
 ·replace H := ite_f H (of_decide_eq_false hb15)
  rw [hb15] at hs
  refine go_pvs 3 7 [0, 1, 2, 13] hs (L' := [(0, .int .i64 a1), (1, .int .i64 a2), (2, .func (.func 64) #[] #[.pointer (some ad7), .pointer (some ad2)]), (13, .bool (decide (a1 ≥ 32)))]) (by kernel_rfl) ?_ rfl
  clear hs; intro a hs
  cases hb16 : (decide (a1 ≥ 32))
  ·replace H := ite_f H (of_decide_eq_false hb16)
   rw [hb16] at hs
   refine go_pvs 7 12 [0, 1, 2, 18] hs (L' := [(0, .int .i64 a1), (1, .int .i64 a2), (2, .func (.func 64) #[] #[.pointer (some ad7), .pointer (some ad2)]), (18, .bool (decide (a1 ≤ (w64 (0 - a2)))))]) (by kernel_rfl) ?_ rfl
   clear hs; intro a hs
   refine go_end (by kernel_rfl) ?_
   replace hw := hw.up 1
   replace hw := hw.up 1
   replace hw := hw.only 2
   exact hJ1 (decide (a1 ≤ (w64 (0 - a2)))) _ _ (hs.keep [0, 1, 2, 18] (by kernel_rfl)) hw H
  ·replace H := ite_t H (of_decide_eq_true hb16)
   rw [hb16] at hs
   refine go_pvs 7 12 [0, 1, 2, 18] hs (L' := [(0, .int .i64 a1), (1, .int .i64 a2), (2, .func (.func 64) #[] #[.pointer (some ad7), .pointer (some ad2)]), (18, .bool true)]) (by kernel_rfl) ?_ rfl
   clear hs; intro a hs
   refine go_end (by kernel_rfl) ?_
   replace hw := hw.up 1
   replace hw := hw.up 1
   replace hw := hw.only 2
   exact hJ1 true _ _ (hs.keep [0, 1, 2, 18] (by kernel_rfl)) hw H
 ·replace H := ite_t H (of_decide_eq_true hb15)
  rw [hb15] at hs
  refine go_pvs 3 12 [0, 1, 2, 18] hs (L' := [(0, .int .i64 a1), (1, .int .i64 a2), (2, .func (.func 64) #[] #[.pointer (some ad7), .pointer (some ad2)]), (18, .bool true)]) (by kernel_rfl) ?_ rfl
  clear hs; intro a hs
  refine go_end (by kernel_rfl) ?_
  replace hw := hw.up 1
  replace hw := hw.up 1
  replace hw := hw.only 2
  exact hJ1 true _ _ (hs.keep [0, 1, 2, 18] (by kernel_rfl)) hw H

/-! rivet/field.Set: function 66 -/
noncomputable def field_Set.j4 (v24 : Int) (a1 : Int) (v23 : Int) (a3 : Int) : Option (Int × Int ⊕ Int) := (if 0 ≤ v24 then (if 0 ≤ (w64 (v24 - a1)) then (if 0 ≤ v24 then some (.inl (bor .u32 (bandn .u32 v23 (shl .u32 1 v24)) (shl .u32 (band .u32 (shr .u32 a3 (w64 (v24 - a1))) 1) v24), w64 (v24 + 1))) else none) else none) else none)
noncomputable def field_Set.j3 (v24 : Int) (a1 : Int) (v23 : Int) (a3 : Int) (v28 : Bool) : Option (Int × Int ⊕ Int) := (if v28 = true then field_Set.j4 v24 a1 v23 a3 else some (.inr v23))
noncomputable def field_Set.b22 (a1 : Int) (a3 : Int) (a2 : Int) (v23 : Int) (v24 : Int) : Option (Int × Int ⊕ Int) := (if v24 < 32 then field_Set.j3 v24 a1 v23 a3 (decide ((w64 (v24 - a1)) < a2)) else field_Set.j3 v24 a1 v23 a3 false)
noncomputable def field_Set.j5 (v38 : Int) : Option Int := some v38
noncomputable def field_Set.j2 (a1 : Int) (a3 : Int) (a2 : Int) (a0 : Int) : Option Int := ((loopO (fun (σ : Int × Int) => field_Set.b22 a1 a3 a2 σ.1 σ.2) (a0, mxx a1 0)).bind fun e => field_Set.j5 e)
noncomputable def field_Set.j1 (a0 : Int) (a1 : Int) (a3 : Int) (a2 : Int) (v16 : Bool) : Option Int := (if v16 = true then some a0 else field_Set.j2 a1 a3 a2 a0)
noncomputable def field_Set (a0 : Int) (a1 : Int) (a2 : Int) (a3 : Int) : Option Int := (if a2 < 1 then field_Set.j1 a0 a1 a3 a2 true else (if a1 ≥ 32 then field_Set.j1 a0 a1 a3 a2 true else field_Set.j1 a0 a1 a3 a2 (decide (a1 ≤ (w64 (0 - a2))))))
set_option maxRecDepth 100000 in
set_option maxHeartbeats 4000000 in
theorem field_Set.calls (a0 : Int) (a1 : Int) (a2 : Int) (a3 : Int) (r : Int) (w0 : World) (H : field_Set a0 a1 a2 a3 = some r) :
    Calls Try.prog 66 #[.int .u32 a0, .int .i64 a1, .int .i64 a2, .int .u32 a3] w0 fun e w' => e = .returned (.int .u32 r) ∧ St [] w0 w' [] := by
 have hw : St [] w0 w0 [] := St.nil w0
 unfold field_Set at H
 refine go_fn Try.func66 rfl 14 Try.ntmps66 [(0, .int .u32 a0), (1, .int .i64 a1), (2, .int .i64 a2), (3, .int .u32 a3)] (by kernel_rfl) rfl ?_
 intro a hs
 refine go_seq_k fun K1 hK1 => ?_
 refine go_region ?_
 obtain ⟨ad2, wd3, hx4, hw⟩ := x_box1 (P := Try.prog) (elem := 22) (v := (Operand.tmp 0)) (ty := 0) hs hw (eI .u32) a0 (by kernel_rfl)
 refine go_run hs (op := (Op.box 22 (Operand.tmp 0))) (ty := 0) (dst := some 4) (g := none) (by kernel_rfl) (by kernel_rfl) (by kernel_rfl) hx4 [1, 2, 3, 4] (L' := [(1, .int .i64 a1), (2, .int .i64 a2), (3, .int .u32 a3), (4, .pointer (some ad2))]) (by kernel_rfl) ?_
 clear hs; intro a hs
 obtain ⟨ad6, wd7, hx8, hw⟩ := x_box1 (P := Try.prog) (elem := 22) (v := (Operand.tmp 3)) (ty := 0) hs hw (eI .u32) a3 (by kernel_rfl)
 refine go_run hs (op := (Op.box 22 (Operand.tmp 3))) (ty := 0) (dst := some 7) (g := none) (by kernel_rfl) (by kernel_rfl) (by kernel_rfl) hx8 [1, 2, 4, 7] (L' := [(1, .int .i64 a1), (2, .int .i64 a2), (4, .pointer (some ad2)), (7, .pointer (some ad6))]) (by kernel_rfl) ?_
 clear hs; intro a hs
 refine go_pvs 2 3 [1, 2, 4, 7] hs (L' := [(1, .int .i64 a1), (2, .int .i64 a2), (4, .pointer (some ad2)), (7, .pointer (some ad6))]) (by kernel_rfl) ?_ rfl
 clear hs; intro a hs
 refine go_end (by kernel_rfl) ?_
 refine hK1 _ _ ?_
 refine go_seq_k fun K10 hK10 => ?_
 refine go_region ?_
 refine go_pvs 0 3 [4, 9, 10, 11] hs (L' := [(4, .pointer (some ad2)), (9, .int .i64 a1), (10, .int .i64 a2), (11, .func (.func 68) #[] #[.pointer (some ad2), .pointer (some ad6)])]) (by kernel_rfl) ?_ rfl
 clear hs; intro a hs
 refine go_inline_k hs (op := (Op.call { callee := (Callee.value (Operand.func 63)), args := #[(Operand.tmp 9), (Operand.tmp 10), (Operand.tmp 11)], argTypes := #[3, 3, 83] })) (ty := 0) (dst := some 12) (g := none) (by kernel_rfl) (by kernel_rfl) (by kernel_rfl) (f := 63) (args := #[.int .i64 a1, .int .i64 a2, .func (.func 68) #[] #[.pointer (some ad2), .pointer (some ad6)]]) (by kernel_rfl) (fun KR11 hKR11 => ?_)
 refine go_fn Try.func63 rfl 38 Try.ntmps63 [(0, .int .i64 a1), (1, .int .i64 a2), (2, .func (.func 68) #[] #[.pointer (some ad2), .pointer (some ad6)])] (by kernel_rfl) rfl ?_
 clear hs; intro a hs
 refine go_seq_k fun K12 hK12 => ?_
 have hJ2 : ∀ (a : Act) (w : World), Slots a 38 [(0, .int .i64 a1), (1, .int .i64 a2), (2, .func (.func 68) #[] #[.pointer (some ad2), .pointer (some ad6)])] → St [] w0 w [own 22 (eI .u32) (some ad6) 1 [a3], own 22 (eI .u32) (some ad2) 1 [a0]] → field_Set.j2 a1 a3 a2 a0 = some r → K12 a w := by
  intro a w hs hw H
  unfold field_Set.j2 at H
  refine hK12 _ _ ?_
  refine go_seq_k fun K20 hK20 => ?_
  refine go_region ?_
  refine go_pvs 0 3 [0, 1, 2, 6] hs (L' := [(0, .int .i64 a1), (1, .int .i64 a2), (2, .func (.func 68) #[] #[.pointer (some ad2), .pointer (some ad6)]), (6, .int .i64 (mxx a1 0))]) (by kernel_rfl) ?_ rfl
  clear hs; intro a hs
  refine go_end (by kernel_rfl) ?_
  refine hK20 _ _ ?_
  refine name_k fun K21 hK21 => ?_
  refine wp_block ?_
  obtain ⟨e22, hl22, HX22⟩ := bind_some H
  have hJ5 : ∀ (v38 : Int) (a : Act) (w : World), Slots a 38 [] → St [] w0 w [own 22 (eI .u32) (some ad6) 1 [a3], own 22 (eI .u32) (some ad2) 1 [v38]] → field_Set.j5 v38 = some r → K21 a w := by
   intro v38 a w hs hw H
   unfold field_Set.j5 at H
   refine hK21 _ _ ?_
   refine end0 hs (by kernel_rfl) ?_
   refine ⟨_, rfl, ?_⟩
   refine hKR11 _ _ ?_
   intro a hs1
   have hs : Slots a _ [(4, .pointer (some ad2))] := hs1.keep [4] (by kernel_rfl)
   clear hs1
   refine go_end (by kernel_rfl) ?_
   refine hK10 _ _ ?_
   refine go_seq_k fun K39 hK39 => ?_
   refine go_region ?_
   refine go_run hs (op := (Op.load 22 (Operand.tmp 4))) (ty := 22) (dst := some 13) (g := none) (by kernel_rfl) (by kernel_rfl) (by kernel_rfl) (x_ld (E := (eI .u32)) (off := 0) (p := ad2) (v := .int .u32 v38) (Rd.of_own (hw.up 1)) (one_ok a0).1 (one_ok a0).2 (by kernel_rfl) (one_at _ _) (by kernel_rfl) (by kernel_rfl)) [13] (L' := [(13, .int .u32 v38)]) (by kernel_rfl) ?_
   clear hs; intro a hs
   refine go_pvs 1 2 [8] hs (L' := [(8, .int .u32 v38)]) (by kernel_rfl) ?_ rfl
   clear hs; intro a hs
   refine go_end (by kernel_rfl) ?_
   refine hK39 _ _ ?_
   refine wp_ret ?_
   obtain rfl := Option.some.inj H
   refine ret1 (t := 8) (v := .int .u32 v38) hs (by kernel_rfl) (by kernel_rfl) ?_
   exact ⟨rfl, hw.only 0⟩
  clear H
  refine go_loop (σ := Int × Int) (fun σ a w => Slots a 38 [(0, .int .i64 a1), (1, .int .i64 a2), (2, .func (.func 68) #[] #[.pointer (some ad2), .pointer (some ad6)]), (6, .int .i64 σ.2)] ∧ St [] w0 w [own 22 (eI .u32) (some ad6) 1 [a3], own 22 (eI .u32) (some ad2) 1 [σ.1]]) hl22 (by exact ⟨hs.keep [0, 1, 2, 6] (by kernel_rfl), hw⟩) ?_
  rintro ⟨v23, v24⟩ a w ⟨hs, hw⟩ o H hr22
  replace hs : Slots a 38 [(0, .int .i64 a1), (1, .int .i64 a2), (2, .func (.func 68) #[] #[.pointer (some ad2), .pointer (some ad6)]), (6, .int .i64 v24)] := hs
  replace hw : St [] w0 w [own 22 (eI .u32) (some ad6) 1 [a3], own 22 (eI .u32) (some ad2) 1 [v23]] := hw
  replace H : field_Set.b22 a1 a3 a2 v23 v24 = some o := H
  unfold field_Set.b22 at H
  refine go_seq_k fun K25 hK25 => ?_
  have hJ4 : ∀ (a : Act) (w : World), Slots a 38 [(0, .int .i64 a1), (1, .int .i64 a2), (2, .func (.func 68) #[] #[.pointer (some ad2), .pointer (some ad6)]), (6, .int .i64 v24)] → St [] w0 w [own 22 (eI .u32) (some ad6) 1 [a3], own 22 (eI .u32) (some ad2) 1 [v23]] → field_Set.j4 v24 a1 v23 a3 = some o → K25 a w := by
   intro a w hs hw H
   unfold field_Set.j4 at H
   refine hK25 _ _ ?_
   refine go_seq_k fun K31 hK31 => ?_
   refine wp_block ?_
   refine go_region ?_
   refine go_pvs 0 5 [0, 1, 2, 6, 32, 33, 36] hs (L' := [(0, .int .i64 a1), (1, .int .i64 a2), (2, .func (.func 68) #[] #[.pointer (some ad2), .pointer (some ad6)]), (6, .int .i64 v24), (32, .func (.func 68) #[] #[.pointer (some ad2), .pointer (some ad6)]), (33, .int .i64 v24), (36, .int .i64 (w64 (v24 - a1)))]) (by kernel_rfl) ?_ rfl
   clear hs; intro a hs
   refine go_inline_k hs (op := (Op.call { callee := (Callee.value (Operand.tmp 32)), args := #[(Operand.tmp 33), (Operand.tmp 36)], argTypes := #[3, 3] })) (ty := 0) (dst := some 37) (g := none) (by kernel_rfl) (by kernel_rfl) (by kernel_rfl) (f := 68) (args := #[.int .i64 v24, .int .i64 (w64 (v24 - a1)), .pointer (some ad2), .pointer (some ad6)]) (by kernel_rfl) (fun KR32 hKR32 => ?_)
   refine go_fn Try.func68 rfl 17 Try.ntmps68 [(0, .int .i64 v24), (1, .int .i64 (w64 (v24 - a1))), (2, .pointer (some ad2)), (3, .pointer (some ad6))] (by kernel_rfl) rfl ?_
   clear hs; intro a hs
   refine z_region [0, 1, 2, 3, 4, 5, 6, 7, 8, 9, 10] [11] [] (by kernel_rfl) (by kernel_rfl) (fun c a d v w h => by cases d <;> exact h) ?_
   refine z_run hs (op := (Op.load 22 (Operand.tmp 2))) (ty := 22) (dst := some 6) (g := none) (by kernel_rfl) (by kernel_rfl) (by kernel_rfl) (fun wx hbx => (x_ld (E := (eI .u32)) (off := 0) (p := ad2) (v := .int .u32 v23) ((Rd.of_own (hw.up 1)).below hbx) (one_ok a0).1 (one_ok a0).2 (by kernel_rfl) (one_at _ _) (by kernel_rfl) (by kernel_rfl))) [0, 1, 2, 3, 6] (L' := [(0, .int .i64 v24), (1, .int .i64 (w64 (v24 - a1))), (2, .pointer (some ad2)), (3, .pointer (some ad6)), (6, .int .u32 v23)]) (by kernel_rfl) ?_
   clear hs; intro a hs
   refine z_pvs [1] [2, 3, 4, 5, 6, 7, 8, 9, 10] [0, 1, 2, 3, 6, 7] hs (L' := [(0, .int .i64 v24), (1, .int .i64 (w64 (v24 - a1))), (2, .pointer (some ad2)), (3, .pointer (some ad6)), (6, .int .u32 v23), (7, .int .i64 v24)]) (by kernel_rfl) ?_ (by kernel_rfl)
   clear hs; intro a hs
   obtain ⟨hp33, H⟩ := ite_only H
   refine z_run hs (op := (Op.binOp BinOp.shl 22 (Operand.const (Value.int IntKind.u32 1)) (Operand.tmp 7) 3)) (ty := 22) (dst := some 8) (g := none) (by kernel_rfl) (by kernel_rfl) (by kernel_rfl) (fun wx hbx => (x_shl (k := .u32) (k' := .i64) (m := 1) (n := v24) (by kernel_rfl) (by kernel_rfl) hp33)) [0, 1, 2, 3, 6, 8] (L' := [(0, .int .i64 v24), (1, .int .i64 (w64 (v24 - a1))), (2, .pointer (some ad2)), (3, .pointer (some ad6)), (6, .int .u32 v23), (8, .int .u32 (shl .u32 1 v24))]) (by kernel_rfl) ?_
   clear hs; intro a hs
   refine z_pvs [3] [4, 5, 6, 7, 8, 9, 10] [0, 1, 2, 3, 9] hs (L' := [(0, .int .i64 v24), (1, .int .i64 (w64 (v24 - a1))), (2, .pointer (some ad2)), (3, .pointer (some ad6)), (9, .int .u32 (bandn .u32 v23 (shl .u32 1 v24)))]) (by kernel_rfl) ?_ (by kernel_rfl)
   clear hs; intro a hs
   refine z_run hs (op := (Op.load 22 (Operand.tmp 3))) (ty := 22) (dst := some 10) (g := none) (by kernel_rfl) (by kernel_rfl) (by kernel_rfl) (fun wx hbx => (x_ld (E := (eI .u32)) (off := 0) (p := ad6) (v := .int .u32 a3) ((Rd.of_own (hw.up 0)).below hbx) (one_ok a3).1 (one_ok a3).2 (by kernel_rfl) (one_at _ _) (by kernel_rfl) (by kernel_rfl))) [0, 1, 2, 9, 10] (L' := [(0, .int .i64 v24), (1, .int .i64 (w64 (v24 - a1))), (2, .pointer (some ad2)), (9, .int .u32 (bandn .u32 v23 (shl .u32 1 v24))), (10, .int .u32 a3)]) (by kernel_rfl) ?_
   clear hs; intro a hs
   refine z_pvs [5] [6, 7, 8, 9, 10] [0, 2, 9, 10, 11] hs (L' := [(0, .int .i64 v24), (2, .pointer (some ad2)), (9, .int .u32 (bandn .u32 v23 (shl .u32 1 v24))), (10, .int .u32 a3), (11, .int .i64 (w64 (v24 - a1)))]) (by kernel_rfl) ?_ (by kernel_rfl)
   clear hs; intro a hs
   obtain ⟨hp34, H⟩ := ite_only H
   refine z_run hs (op := (Op.binOp BinOp.shr 22 (Operand.tmp 10) (Operand.tmp 11) 3)) (ty := 22) (dst := some 12) (g := none) (by kernel_rfl) (by kernel_rfl) (by kernel_rfl) (fun wx hbx => (x_shr (k := .u32) (k' := .i64) (m := a3) (n := w64 (v24 - a1)) (by kernel_rfl) (by kernel_rfl) hp34)) [0, 2, 9, 12] (L' := [(0, .int .i64 v24), (2, .pointer (some ad2)), (9, .int .u32 (bandn .u32 v23 (shl .u32 1 v24))), (12, .int .u32 (shr .u32 a3 (w64 (v24 - a1))))]) (by kernel_rfl) ?_
   clear hs; intro a hs
   refine z_pvs [7, 8] [9, 10] [2, 9, 13, 14] hs (L' := [(2, .pointer (some ad2)), (9, .int .u32 (bandn .u32 v23 (shl .u32 1 v24))), (13, .int .u32 (band .u32 (shr .u32 a3 (w64 (v24 - a1))) 1)), (14, .int .i64 v24)]) (by kernel_rfl) ?_ (by kernel_rfl)
   clear hs; intro a hs
   obtain ⟨hp35, H⟩ := ite_only H
   refine z_run hs (op := (Op.binOp BinOp.shl 22 (Operand.tmp 13) (Operand.tmp 14) 3)) (ty := 22) (dst := some 15) (g := none) (by kernel_rfl) (by kernel_rfl) (by kernel_rfl) (fun wx hbx => (x_shl (k := .u32) (k' := .i64) (m := band .u32 (shr .u32 a3 (w64 (v24 - a1))) 1) (n := v24) (by kernel_rfl) (by kernel_rfl) hp35)) [2, 9, 15] (L' := [(2, .pointer (some ad2)), (9, .int .u32 (bandn .u32 v23 (shl .u32 1 v24))), (15, .int .u32 (shl .u32 (band .u32 (shr .u32 a3 (w64 (v24 - a1))) 1) v24))]) (by kernel_rfl) ?_
   clear hs; intro a hs
   refine z_pvs [10] [] [2, 16] hs (L' := [(2, .pointer (some ad2)), (16, .int .u32 (bor .u32 (bandn .u32 v23 (shl .u32 1 v24)) (shl .u32 (band .u32 (shr .u32 a3 (w64 (v24 - a1))) 1) v24)))]) (by kernel_rfl) ?_ (by kernel_rfl)
   clear hs; intro a hs
   refine z_end ?_
   intro wq hbq
   replace hw := hw.behind hbq
   replace hw := hw.up 1
   obtain ⟨wd36, hx37, hw⟩ := x_put (P := Try.prog) (ty := 0) (t := 22) (x := (Operand.tmp 2)) (y := (Operand.tmp 16)) (off := 0) (p := ad2) (v := .int .u32 (bor .u32 (bandn .u32 v23 (shl .u32 1 v24)) (shl .u32 (band .u32 (shr .u32 a3 (w64 (v24 - a1))) 1) v24))) (vs := [.int .u32 (bor .u32 (bandn .u32 v23 (shl .u32 1 v24)) (shl .u32 (band .u32 (shr .u32 a3 (w64 (v24 - a1))) 1) v24))]) (i := 0) (e' := (bor .u32 (bandn .u32 v23 (shl .u32 1 v24)) (shl .u32 (band .u32 (shr .u32 a3 (w64 (v24 - a1))) 1) v24) : Int)) hs hw rfl (one_ok a0).1 (one_ok a0).2 (by kernel_rfl) (one_at _ _) (by kernel_rfl) rfl (by kernel_rfl) (Nat.le_of_ble_eq_true rfl) (by simp [Value.oneCell']) (by kernel_rfl)
   refine p_unit hs (op := (Op.store 22 (Operand.tmp 2) (Operand.tmp 16))) (ty := 0) (dst := none) (g := none) (by kernel_rfl) (by kernel_rfl) (by kernel_rfl) hx37 [] (L' := []) (by kernel_rfl) ?_
   clear hs; intro a hs
   replace hw : St [] w0 wd36 [own 22 (eI .u32) (some ad2) 1 [bor .u32 (bandn .u32 v23 (shl .u32 1 v24)) (shl .u32 (band .u32 (shr .u32 a3 (w64 (v24 - a1))) 1) v24)], own 22 (eI .u32) (some ad6) 1 [a3]] := hw
   refine p_last ?_
   refine e_end ?_
   refine end0 hs (by kernel_rfl) ?_
   refine ⟨_, rfl, ?_⟩
   refine hKR32 _ _ ?_
   intro a hs1
   have hs : Slots a _ [(0, .int .i64 a1), (1, .int .i64 a2), (2, .func (.func 68) #[] #[.pointer (some ad2), .pointer (some ad6)]), (6, .int .i64 v24)] := hs1.keep [0, 1, 2, 6] (by kernel_rfl)
   clear hs1
   refine go_end (by kernel_rfl) ?_
   refine ib_norm ?_
   refine hK31 _ _ ?_
   refine go_region ?_
   refine go_pvs 0 3 [0, 1, 2, 6] hs (L' := [(0, .int .i64 a1), (1, .int .i64 a2), (2, .func (.func 68) #[] #[.pointer (some ad2), .pointer (some ad6)]), (6, .int .i64 (w64 (v24 + 1)))]) (by kernel_rfl) ?_ rfl
   clear hs; intro a hs
   refine go_end (by kernel_rfl) ?_
   replace hw := hw.up 1
   replace hw := hw.only 2
   exact round_end (bor .u32 (bandn .u32 v23 (shl .u32 1 v24)) (shl .u32 (band .u32 (shr .u32 a3 (w64 (v24 - a1))) 1) v24), w64 (v24 + 1)) (Option.some.inj H).symm ⟨hs.keep [0, 1, 2, 6] (by kernel_rfl), hw⟩
  refine go_seq_k fun K26 hK26 => ?_
  have hJ3 : ∀ (v28 : Bool) (a : Act) (w : World), Slots a 38 [(0, .int .i64 a1), (1, .int .i64 a2), (2, .func (.func 68) #[] #[.pointer (some ad2), .pointer (some ad6)]), (6, .int .i64 v24), (29, .bool v28)] → St [] w0 w [own 22 (eI .u32) (some ad6) 1 [a3], own 22 (eI .u32) (some ad2) 1 [v23]] → field_Set.j3 v24 a1 v23 a3 v28 = some o → K26 a w := by
   intro v28 a w hs hw H
   unfold field_Set.j3 at H
   refine hK26 _ _ ?_
   refine go_cond hs v28 (by kernel_rfl) (fun hc => ?_) (fun hc => ?_)
   ·replace H := ite_t H hc
    have hb29 := hc
    rw [hb29] at hs
    refine wp_skip ?_
    replace hw := hw.up 1
    replace hw := hw.up 1
    replace hw := hw.only 2
    exact hJ4 _ _ (hs.keep [0, 1, 2, 6] (by kernel_rfl)) hw H
   ·replace H := ite_f H (ff hc)
    have hb30 := hc
    rw [hb30] at hs
    refine wp_exit ?_
    refine th_exit ?_
    refine th_exit ?_
    refine in_block ?_
    replace hw := hw.up 1
    replace hw := hw.up 1
    replace hw := hw.only 2
    rw [← hr22 _ (Option.some.inj H).symm] at HX22
    exact hJ5 v23 _ _ (hs.keep [] (by kernel_rfl)) hw HX22
  refine go_region ?_
  refine go_pvs 0 3 [0, 1, 2, 6, 23] hs (L' := [(0, .int .i64 a1), (1, .int .i64 a2), (2, .func (.func 68) #[] #[.pointer (some ad2), .pointer (some ad6)]), (6, .int .i64 v24), (23, .bool (decide (v24 < 32)))]) (by kernel_rfl) ?_ rfl
  clear hs; intro a hs
  cases hb27 : (decide (v24 < 32))
  ·replace H := ite_f H (of_decide_eq_false hb27)
   rw [hb27] at hs
   refine go_pvs 3 9 [0, 1, 2, 6, 29] hs (L' := [(0, .int .i64 a1), (1, .int .i64 a2), (2, .func (.func 68) #[] #[.pointer (some ad2), .pointer (some ad6)]), (6, .int .i64 v24), (29, .bool false)]) (by kernel_rfl) ?_ rfl
   clear hs; intro a hs
   refine go_end (by kernel_rfl) ?_
   replace hw := hw.up 1
   replace hw := hw.up 1
   replace hw := hw.only 2
   exact hJ3 false _ _ (hs.keep [0, 1, 2, 6, 29] (by kernel_rfl)) hw H
  ·replace H := ite_t H (of_decide_eq_true hb27)
   rw [hb27] at hs
   refine go_pvs 3 9 [0, 1, 2, 6, 29] hs (L' := [(0, .int .i64 a1), (1, .int .i64 a2), (2, .func (.func 68) #[] #[.pointer (some ad2), .pointer (some ad6)]), (6, .int .i64 v24), (29, .bool (decide ((w64 (v24 - a1)) < a2)))]) (by kernel_rfl) ?_ rfl
   clear hs; intro a hs
   refine go_end (by kernel_rfl) ?_
   replace hw := hw.up 1
   replace hw := hw.up 1
   replace hw := hw.only 2
   exact hJ3 (decide ((w64 (v24 - a1)) < a2)) _ _ (hs.keep [0, 1, 2, 6, 29] (by kernel_rfl)) hw H
 refine go_seq_k fun K13 hK13 => ?_
 have hJ1 : ∀ (v16 : Bool) (a : Act) (w : World), Slots a 38 [(0, .int .i64 a1), (1, .int .i64 a2), (2, .func (.func 68) #[] #[.pointer (some ad2), .pointer (some ad6)]), (18, .bool v16)] → St [] w0 w [own 22 (eI .u32) (some ad6) 1 [a3], own 22 (eI .u32) (some ad2) 1 [a0]] → field_Set.j1 a0 a1 a3 a2 v16 = some r → K13 a w := by
  intro v16 a w hs hw H
  unfold field_Set.j1 at H
  refine hK13 _ _ ?_
  refine go_cond hs v16 (by kernel_rfl) (fun hc => ?_) (fun hc => ?_)
  ·replace H := ite_t H hc
   have hb17 := hc
   rw [hb17] at hs
   refine wp_ret ?_
   refine th_ret ?_
   refine ret0 hs (by kernel_rfl) ?_
   refine ⟨_, rfl, ?_⟩
   refine hKR11 _ _ ?_
   intro a hs1
   have hs : Slots a _ [(4, .pointer (some ad2))] := hs1.keep [4] (by kernel_rfl)
   clear hs1
   refine go_end (by kernel_rfl) ?_
   refine hK10 _ _ ?_
   refine go_seq_k fun K18 hK18 => ?_
   refine go_region ?_
   refine go_run hs (op := (Op.load 22 (Operand.tmp 4))) (ty := 22) (dst := some 13) (g := none) (by kernel_rfl) (by kernel_rfl) (by kernel_rfl) (x_ld (E := (eI .u32)) (off := 0) (p := ad2) (v := .int .u32 a0) (Rd.of_own (hw.up 1)) (one_ok a0).1 (one_ok a0).2 (by kernel_rfl) (one_at _ _) (by kernel_rfl) (by kernel_rfl)) [13] (L' := [(13, .int .u32 a0)]) (by kernel_rfl) ?_
   clear hs; intro a hs
   refine go_pvs 1 2 [8] hs (L' := [(8, .int .u32 a0)]) (by kernel_rfl) ?_ rfl
   clear hs; intro a hs
   refine go_end (by kernel_rfl) ?_
   refine hK18 _ _ ?_
   refine wp_ret ?_
   obtain rfl := Option.some.inj H
   refine ret1 (t := 8) (v := .int .u32 a0) hs (by kernel_rfl) (by kernel_rfl) ?_
   exact ⟨rfl, hw.only 0⟩
  ·replace H := ite_f H (ff hc)
   have hb19 := hc
   rw [hb19] at hs
   refine wp_skip ?_
   replace hw := hw.up 1
   replace hw := hw.up 1
   replace hw := hw.only 2
   exact hJ2 _ _ (hs.keep [0, 1, 2] (by kernel_rfl)) hw H
 refine go_region ?_
 refine go_pvs 0 3 [0, 1, 2, 9] hs (L' := [(0, .int .i64 a1), (1, .int .i64 a2), (2, .func (.func 68) #[] #[.pointer (some ad2), .pointer (some ad6)]), (9, .bool (decide (a2 < 1)))]) (by kernel_rfl) ?_ rfl
 clear hs; intro a hs
 cases hb14 : (decide (a2 < 1))
 ·replace H := ite_f H (of_decide_eq_false hb14)
  rw [hb14] at hs
  refine go_pvs 3 7 [0, 1, 2, 13] hs (L' := [(0, .int .i64 a1), (1, .int .i64 a2), (2, .func (.func 68) #[] #[.pointer (some ad2), .pointer (some ad6)]), (13, .bool (decide (a1 ≥ 32)))]) (by kernel_rfl) ?_ rfl
  clear hs; intro a hs
  cases hb15 : (decide (a1 ≥ 32))
  ·replace H := ite_f H (of_decide_eq_false hb15)
   rw [hb15] at hs
   refine go_pvs 7 12 [0, 1, 2, 18] hs (L' := [(0, .int .i64 a1), (1, .int .i64 a2), (2, .func (.func 68) #[] #[.pointer (some ad2), .pointer (some ad6)]), (18, .bool (decide (a1 ≤ (w64 (0 - a2)))))]) (by kernel_rfl) ?_ rfl
   clear hs; intro a hs
   refine go_end (by kernel_rfl) ?_
   replace hw := hw.up 1
   replace hw := hw.up 1
   replace hw := hw.only 2
   exact hJ1 (decide (a1 ≤ (w64 (0 - a2)))) _ _ (hs.keep [0, 1, 2, 18] (by kernel_rfl)) hw H
  ·replace H := ite_t H (of_decide_eq_true hb15)
   rw [hb15] at hs
   refine go_pvs 7 12 [0, 1, 2, 18] hs (L' := [(0, .int .i64 a1), (1, .int .i64 a2), (2, .func (.func 68) #[] #[.pointer (some ad2), .pointer (some ad6)]), (18, .bool true)]) (by kernel_rfl) ?_ rfl
   clear hs; intro a hs
   refine go_end (by kernel_rfl) ?_
   replace hw := hw.up 1
   replace hw := hw.up 1
   replace hw := hw.only 2
   exact hJ1 true _ _ (hs.keep [0, 1, 2, 18] (by kernel_rfl)) hw H
 ·replace H := ite_t H (of_decide_eq_true hb14)
  rw [hb14] at hs
  refine go_pvs 3 12 [0, 1, 2, 18] hs (L' := [(0, .int .i64 a1), (1, .int .i64 a2), (2, .func (.func 68) #[] #[.pointer (some ad2), .pointer (some ad6)]), (18, .bool true)]) (by kernel_rfl) ?_ rfl
  clear hs; intro a hs
  refine go_end (by kernel_rfl) ?_
  replace hw := hw.up 1
  replace hw := hw.up 1
  replace hw := hw.only 2
  exact hJ1 true _ _ (hs.keep [0, 1, 2, 18] (by kernel_rfl)) hw H

/-! rivet/field.Signed: function 55 -/
noncomputable def field_Signed (a0 : Int) (a1 : Int) : Option Int := ((field_known a1).bind fun t4 => ((if 0 ≤ (w64 (32 - t4)) then (if 0 ≤ (w64 (32 - t4)) then some (w64 (shr .i32 (w32 (shl .u32 a0 (w64 (32 - t4)))) (w64 (32 - t4)))) else none) else none)))
set_option maxRecDepth 100000 in
set_option maxHeartbeats 4000000 in
theorem field_Signed.calls (a0 : Int) (a1 : Int) (r : Int) (w0 : World) (H : field_Signed a0 a1 = some r) :
    Calls Try.prog 55 #[.int .u32 a0, .int .i64 a1] w0 fun e w' => e = .returned (.int .i64 r) ∧ St [] w0 w' [] := by
 have hw : St [] w0 w0 [] := St.nil w0
 unfold field_Signed at H
 refine go_fn Try.func55 rfl 16 Try.ntmps55 [(0, .int .u32 a0), (1, .int .i64 a1)] (by kernel_rfl) rfl ?_
 intro a hs
 refine go_seq_k fun K1 hK1 => ?_
 refine go_region ?_
 refine go_pvs 0 1 [0, 1] hs (L' := [(0, .int .u32 a0), (1, .int .i64 a1)]) (by kernel_rfl) ?_ rfl
 clear hs; intro a hs
 refine go_end (by kernel_rfl) ?_
 refine hK1 _ _ ?_
 refine go_seq_k fun K2 hK2 => ?_
 refine go_region ?_
 refine go_pvs 0 1 [0, 6] hs (L' := [(0, .int .u32 a0), (6, .int .i64 a1)]) (by kernel_rfl) ?_ rfl
 clear hs; intro a hs
 obtain ⟨t4, hx5, H⟩ := bind_some H
 refine go_call hs (op := (Op.call { callee := (Callee.value (Operand.func 65)), args := #[(Operand.tmp 6)], argTypes := #[3] })) (ty := 3) (dst := some 7) (g := none) (by kernel_rfl) (by kernel_rfl) (by kernel_rfl) (f := 65) (args := #[.int .i64 a1]) (by kernel_rfl) (field_known.calls a1 t4 _ hx5) ?_
 rintro e wd6 ⟨rfl, hw7⟩
 refine ⟨_, rfl, ?_⟩
 replace hw := hw.call hw7
 intro a hs1
 replace hs : Slots a 16 [(0, .int .u32 a0), (7, .int .i64 t4)] := hs1.keep [0, 7] (by kernel_rfl)
 clear hs1
 refine go_pvs 2 4 [0, 5] hs (L' := [(0, .int .u32 a0), (5, .int .i64 (w64 (32 - t4)))]) (by kernel_rfl) ?_ rfl
 clear hs; intro a hs
 refine go_end (by kernel_rfl) ?_
 refine hK2 _ _ ?_
 refine go_seq_k fun K8 hK8 => ?_
 refine go_region ?_
 refine go_pvs 0 2 [5, 9, 10] hs (L' := [(5, .int .i64 (w64 (32 - t4))), (9, .int .u32 a0), (10, .int .i64 (w64 (32 - t4)))]) (by kernel_rfl) ?_ rfl
 clear hs; intro a hs
 obtain ⟨hp9, H⟩ := ite_only H
 refine go_run hs (op := (Op.binOp BinOp.shl 22 (Operand.tmp 9) (Operand.tmp 10) 3)) (ty := 22) (dst := some 11) (g := none) (by kernel_rfl) (by kernel_rfl) (by kernel_rfl) (x_shl (k := .u32) (k' := .i64) (m := a0) (n := w64 (32 - t4)) (by kernel_rfl) (by kernel_rfl) hp9) [5, 11] (L' := [(5, .int .i64 (w64 (32 - t4))), (11, .int .u32 (shl .u32 a0 (w64 (32 - t4))))]) (by kernel_rfl) ?_
 clear hs; intro a hs
 refine go_pvs 3 5 [12, 13] hs (L' := [(12, .int .i32 (w32 (shl .u32 a0 (w64 (32 - t4))))), (13, .int .i64 (w64 (32 - t4)))]) (by kernel_rfl) ?_ rfl
 clear hs; intro a hs
 obtain ⟨hp10, H⟩ := ite_only H
 refine go_run hs (op := (Op.binOp BinOp.shr 21 (Operand.tmp 12) (Operand.tmp 13) 3)) (ty := 21) (dst := some 14) (g := none) (by kernel_rfl) (by kernel_rfl) (by kernel_rfl) (x_shr (k := .i32) (k' := .i64) (m := w32 (shl .u32 a0 (w64 (32 - t4)))) (n := w64 (32 - t4)) (by kernel_rfl) (by kernel_rfl) hp10) [14] (L' := [(14, .int .i32 (shr .i32 (w32 (shl .u32 a0 (w64 (32 - t4)))) (w64 (32 - t4))))]) (by kernel_rfl) ?_
 clear hs; intro a hs
 refine go_pvs 6 8 [4] hs (L' := [(4, .int .i64 (w64 (shr .i32 (w32 (shl .u32 a0 (w64 (32 - t4)))) (w64 (32 - t4)))))]) (by kernel_rfl) ?_ rfl
 clear hs; intro a hs
 refine go_end (by kernel_rfl) ?_
 refine hK8 _ _ ?_
 refine wp_ret ?_
 obtain rfl := Option.some.inj H
 refine ret1 (t := 4) (v := .int .i64 (w64 (shr .i32 (w32 (shl .u32 a0 (w64 (32 - t4)))) (w64 (32 - t4))))) hs (by kernel_rfl) (by kernel_rfl) ?_
 exact ⟨rfl, hw.only 0⟩

/-! rivet/isa.bit: function 67 -/
noncomputable def isa_bit (a0 : Bool) : Option Int := (if a0 = true then some 1 else some 0)
set_option maxRecDepth 100000 in
set_option maxHeartbeats 4000000 in
theorem isa_bit.calls (a0 : Bool) (r : Int) (w0 : World) (H : isa_bit a0 = some r) :
    Calls Try.prog 67 #[.bool a0] w0 fun e w' => e = .returned (.int .u32 r) ∧ St [] w0 w' [] := by
 have hw : St [] w0 w0 [] := St.nil w0
 unfold isa_bit at H
 refine go_fn Try.func67 rfl 4 Try.ntmps67 [(0, .bool a0)] (by kernel_rfl) rfl ?_
 intro a hs
 refine go_seq_k fun K1 hK1 => ?_
 refine go_region ?_
 refine go_pvs 0 1 [0] hs (L' := [(0, .bool a0)]) (by kernel_rfl) ?_ rfl
 clear hs; intro a hs
 refine go_end (by kernel_rfl) ?_
 refine hK1 _ _ ?_
 refine go_seq_k fun K2 hK2 => ?_
 refine go_seq_k fun K3 hK3 => ?_
 refine go_region ?_
 refine go_pvs 0 1 [3] hs (L' := [(3, .bool a0)]) (by kernel_rfl) ?_ rfl
 clear hs; intro a hs
 refine go_end (by kernel_rfl) ?_
 refine hK3 _ _ ?_
 refine go_cond hs a0 (by kernel_rfl) (fun hc => ?_) (fun hc => ?_)
 ·replace H := ite_t H hc
  have hb4 := hc
  rw [hb4] at hs
  refine go_seq_k fun K5 hK5 => ?_
  refine go_region ?_
  refine go_pvs 0 1 [2] hs (L' := [(2, .int .u32 1)]) (by kernel_rfl) ?_ rfl
  clear hs; intro a hs
  refine go_end (by kernel_rfl) ?_
  refine hK5 _ _ ?_
  refine wp_ret ?_
  refine th_ret ?_
  obtain rfl := Option.some.inj H
  refine ret1 (t := 2) (v := .int .u32 1) hs (by kernel_rfl) (by kernel_rfl) ?_
  exact ⟨rfl, hw.only 0⟩
 ·replace H := ite_f H (ff hc)
  have hb6 := hc
  rw [hb6] at hs
  refine wp_skip ?_
  refine hK2 _ _ ?_
  refine go_seq_k fun K7 hK7 => ?_
  refine go_region ?_
  refine go_pvs 0 1 [2] hs (L' := [(2, .int .u32 0)]) (by kernel_rfl) ?_ rfl
  clear hs; intro a hs
  refine go_end (by kernel_rfl) ?_
  refine hK7 _ _ ?_
  refine wp_ret ?_
  obtain rfl := Option.some.inj H
  refine ret1 (t := 2) (v := .int .u32 0) hs (by kernel_rfl) (by kernel_rfl) ?_
  exact ⟨rfl, hw.only 0⟩

/-! rivet/isa.head: function 57 -/
noncomputable def isa_head (a0 : Int) (a1 : Bool) (a2 : Bool) : Option (Vector Int 3) := ((isa_bit a1).bind fun t8 => (((isa_bit a2).bind fun t13 => (some (#v[28, 4, bor .i64 (bor .i64 (w64 (a0 * 2 ^ 2)) (w64 ((w64 t8) * 2 ^ 1))) (w64 t13)] : Vector Int 3)))))
set_option maxRecDepth 100000 in
set_option maxHeartbeats 4000000 in
theorem isa_head.calls (a0 : Int) (a1 : Bool) (a2 : Bool) (r : (Vector Int 3)) (w0 : World) (H : isa_head a0 a1 a2 = some r) :
    Calls Try.prog 57 #[.int .i64 a0, .bool a1, .bool a2] w0 fun e w' => e = .returned (.agg #[.int .i64 (vx 0 r 0), .int .i64 (vx 0 r 1), .int .i64 (vx 0 r 2)]) ∧ St [] w0 w' [] := by
 have hw : St [] w0 w0 [] := St.nil w0
 unfold isa_head at H
 refine go_fn Try.func57 rfl 19 Try.ntmps57 [(0, .int .i64 a0), (1, .bool a1), (2, .bool a2)] (by kernel_rfl) rfl ?_
 intro a hs
 refine go_seq_k fun K1 hK1 => ?_
 refine go_region ?_
 obtain ⟨ad2, wd3, hx4, hw⟩ := x_alloc1 (P := Try.prog) (elem := 76) (ty := 0) (z := .agg #[.int .i64 0, .int .i64 0, .int .i64 0]) hs hw eA76 (Vector.replicate 3 0) (by kernel_rfl) (by kernel_rfl)
 refine go_run hs (op := (Op.alloc 76)) (ty := 0) (dst := some 6) (g := none) (by kernel_rfl) (by kernel_rfl) (by kernel_rfl) hx4 [0, 1, 2, 6] (L' := [(0, .int .i64 a0), (1, .bool a1), (2, .bool a2), (6, .pointer (some ad2))]) (by kernel_rfl) ?_
 clear hs; intro a hs
 refine go_end (by kernel_rfl) ?_
 refine hK1 _ _ ?_
 refine go_seq_k fun K6 hK6 => ?_
 refine go_region ?_
 refine go_pvs 0 3 [2, 6, 8, 9] hs (L' := [(2, .bool a2), (6, .pointer (some ad2)), (8, .int .i64 (w64 (a0 * 2 ^ 2))), (9, .bool a1)]) (by kernel_rfl) ?_ rfl
 clear hs; intro a hs
 obtain ⟨t8, hx9, H⟩ := bind_some H
 refine go_call hs (op := (Op.call { callee := (Callee.value (Operand.func 67)), args := #[(Operand.tmp 9)], argTypes := #[4] })) (ty := 22) (dst := some 10) (g := none) (by kernel_rfl) (by kernel_rfl) (by kernel_rfl) (f := 67) (args := #[.bool a1]) (by kernel_rfl) (isa_bit.calls a1 t8 _ hx9) ?_
 rintro e wd10 ⟨rfl, hw11⟩
 refine ⟨_, rfl, ?_⟩
 replace hw := hw.call hw11
 intro a hs1
 replace hs : Slots a 19 [(2, .bool a2), (6, .pointer (some ad2)), (8, .int .i64 (w64 (a0 * 2 ^ 2))), (10, .int .u32 t8)] := hs1.keep [2, 6, 8, 10] (by kernel_rfl)
 clear hs1
 refine go_pvs 4 8 [6, 13, 14] hs (L' := [(6, .pointer (some ad2)), (13, .int .i64 (bor .i64 (w64 (a0 * 2 ^ 2)) (w64 ((w64 t8) * 2 ^ 1)))), (14, .bool a2)]) (by kernel_rfl) ?_ rfl
 clear hs; intro a hs
 obtain ⟨t13, hx14, H⟩ := bind_some H
 refine go_call hs (op := (Op.call { callee := (Callee.value (Operand.func 67)), args := #[(Operand.tmp 14)], argTypes := #[4] })) (ty := 22) (dst := some 15) (g := none) (by kernel_rfl) (by kernel_rfl) (by kernel_rfl) (f := 67) (args := #[.bool a2]) (by kernel_rfl) (isa_bit.calls a2 t13 _ hx14) ?_
 rintro e wd15 ⟨rfl, hw16⟩
 refine ⟨_, rfl, ?_⟩
 replace hw := hw.call hw16
 intro a hs1
 replace hs : Slots a 19 [(6, .pointer (some ad2)), (13, .int .i64 (bor .i64 (w64 (a0 * 2 ^ 2)) (w64 ((w64 t8) * 2 ^ 1)))), (15, .int .u32 t13)] := hs1.keep [6, 13, 15] (by kernel_rfl)
 clear hs1
 refine go_pvs 9 12 [6, 18] hs (L' := [(6, .pointer (some ad2)), (18, .agg #[.int .i64 28, .int .i64 4, .int .i64 (bor .i64 (bor .i64 (w64 (a0 * 2 ^ 2)) (w64 ((w64 t8) * 2 ^ 1))) (w64 t13))])]) (by kernel_rfl) ?_ rfl
 clear hs; intro a hs
 obtain ⟨wd17, hx18, hw⟩ := x_put (P := Try.prog) (ty := 0) (t := 76) (x := (Operand.tmp 6)) (y := (Operand.tmp 18)) (off := 0) (p := ad2) (v := .agg #[.int .i64 28, .int .i64 4, .int .i64 (bor .i64 (bor .i64 (w64 (a0 * 2 ^ 2)) (w64 ((w64 t8) * 2 ^ 1))) (w64 t13))]) (vs := [.int .i64 28, .int .i64 4, .int .i64 (bor .i64 (bor .i64 (w64 (a0 * 2 ^ 2)) (w64 ((w64 t8) * 2 ^ 1))) (w64 t13))]) (i := 0) (e' := ((#v[28, 4, bor .i64 (bor .i64 (w64 (a0 * 2 ^ 2)) (w64 ((w64 t8) * 2 ^ 1))) (w64 t13)] : Vector Int 3) : Vector Int 3)) hs hw rfl (one_ok (Vector.replicate 3 0)).1 (one_ok (Vector.replicate 3 0)).2 (by kernel_rfl) (one_at _ _) (by kernel_rfl) rfl (by kernel_rfl) (Nat.le_of_ble_eq_true rfl) (by simp [Value.oneCell']) (by kernel_rfl)
 refine go_unit hs (op := (Op.store 76 (Operand.tmp 6) (Operand.tmp 18))) (ty := 0) (dst := none) (g := none) (by kernel_rfl) (by kernel_rfl) (by kernel_rfl) hx18 [6] (L' := [(6, .pointer (some ad2))]) (by kernel_rfl) ?_
 clear hs; intro a hs
 replace hw : St [] w0 wd17 [own 76 eA76 (some ad2) 1 [(#v[28, 4, bor .i64 (bor .i64 (w64 (a0 * 2 ^ 2)) (w64 ((w64 t8) * 2 ^ 1))) (w64 t13)] : Vector Int 3)]] := hw
 refine go_end (by kernel_rfl) ?_
 refine hK6 _ _ ?_
 refine wp_ret ?_
 obtain rfl := Option.some.inj H
 refine ret1g (L := [(6, .pointer (some ad2))]) (r1 := .cell 6 76) (v1 := .agg #[.int .i64 (vx 0 (#v[28, 4, bor .i64 (bor .i64 (w64 (a0 * 2 ^ 2)) (w64 ((w64 t8) * 2 ^ 1))) (w64 t13)] : Vector Int 3) 0), .int .i64 (vx 0 (#v[28, 4, bor .i64 (bor .i64 (w64 (a0 * 2 ^ 2)) (w64 ((w64 t8) * 2 ^ 1))) (w64 t13)] : Vector Int 3) 1), .int .i64 (vx 0 (#v[28, 4, bor .i64 (bor .i64 (w64 (a0 * 2 ^ 2)) (w64 ((w64 t8) * 2 ^ 1))) (w64 t13)] : Vector Int 3) 2)]) hs (by kernel_rfl) ⟨_, (show lk 6 [(6, .pointer (some ad2))] = some (.pointer (some ad2)) by kernel_rfl), lv_row (E := eA76) (x := (#v[28, 4, bor .i64 (bor .i64 (w64 (a0 * 2 ^ 2)) (w64 ((w64 t8) * 2 ^ 1))) (w64 t13)] : Vector Int 3)) (by kernel_rfl) (by kernel_rfl) (Rd.of_own (hw.up 0))⟩ ?_
 exact ⟨rfl, hw.only 0⟩

/-! rivet/isa.lay: function 56 -/
noncomputable def isa_lay.j1 (v27 : Int) : Option Int := some v27
noncomputable def isa_lay.b5 (l0 : List (Vector Int 3)) (v6 : Int) (v7 : Int) : Option (Int × Int ⊕ Int) := (if v7 < (l0.length : Int) then (if 0 ≤ v7 ∧ v7 < (l0.length : Int) then ((field_Set v6 (vx 0 (ix eA76.d l0 v7) 0) (vx 0 (ix eA76.d l0 v7) 1) (wu32 (vx 0 (ix eA76.d l0 v7) 2))).bind fun t22 => (some (.inl (t22, w64 (v7 + 1))))) else none) else some (.inr v6))
noncomputable def isa_lay (l0 : List (Vector Int 3)) : Option Int := ((loopO (fun (σ : Int × Int) => isa_lay.b5 l0 σ.1 σ.2) (0, 0)).bind fun e => isa_lay.j1 e)
set_option maxRecDepth 100000 in
set_option maxHeartbeats 4000000 in
theorem isa_lay.calls (A0 : Option Addr) (c0 : Nat) (l0 : List (Vector Int 3)) (r : Int) (w0 : World) (hr0 : Rd w0 eA76 A0 c0 l0) (H : isa_lay l0 = some r) :
    Calls Try.prog 56 #[.slice A0 l0.length c0] w0 fun e w' => e = .returned (.int .u32 r) ∧ St [] w0 w' [] := by
 have hw : St [] w0 w0 [] := St.nil w0
 unfold isa_lay at H
 refine go_fn Try.func56 rfl 23 Try.ntmps56 [(0, .slice A0 l0.length c0)] (by kernel_rfl) rfl ?_
 intro a hs
 refine go_seq_k fun K1 hK1 => ?_
 refine go_region ?_
 refine go_pvs 0 1 [0] hs (L' := [(0, .slice A0 l0.length c0)]) (by kernel_rfl) ?_ rfl
 clear hs; intro a hs
 refine go_end (by kernel_rfl) ?_
 refine hK1 _ _ ?_
 refine go_seq_k fun K2 hK2 => ?_
 refine go_region ?_
 refine go_pvs 0 1 [0, 3] hs (L' := [(0, .slice A0 l0.length c0), (3, .int .u32 0)]) (by kernel_rfl) ?_ rfl
 clear hs; intro a hs
 refine go_end (by kernel_rfl) ?_
 refine hK2 _ _ ?_
 refine go_seq_k fun K3 hK3 => ?_
 refine go_seq_k fun K4 hK4 => ?_
 refine go_region ?_
 refine go_pvs 0 3 [3, 6, 7, 8] hs (L' := [(3, .int .u32 0), (6, .slice A0 l0.length c0), (7, .int .i64 (l0.length : Int)), (8, .int .i64 0)]) (by kernel_rfl) ?_ rfl
 clear hs; intro a hs
 refine go_end (by kernel_rfl) ?_
 refine hK4 _ _ ?_
 refine wp_block ?_
 obtain ⟨e5, hl5, HX5⟩ := bind_some H
 have hJ1 : ∀ (v27 : Int) (a : Act) (w : World), Slots a 23 [(3, .int .u32 v27)] → St [] w0 w [] → isa_lay.j1 v27 = some r → K3 a w := by
  intro v27 a w hs hw H
  unfold isa_lay.j1 at H
  refine hK3 _ _ ?_
  refine go_seq_k fun K28 hK28 => ?_
  refine go_region ?_
  refine go_pvs 0 2 [2] hs (L' := [(2, .int .u32 v27)]) (by kernel_rfl) ?_ rfl
  clear hs; intro a hs
  refine go_end (by kernel_rfl) ?_
  refine hK28 _ _ ?_
  refine wp_ret ?_
  obtain rfl := Option.some.inj H
  refine ret1 (t := 2) (v := .int .u32 v27) hs (by kernel_rfl) (by kernel_rfl) ?_
  exact ⟨rfl, hw.only 0⟩
 clear H
 refine go_loop (σ := Int × Int) (fun σ a w => Slots a 23 [(3, .int .u32 σ.1), (6, .slice A0 l0.length c0), (7, .int .i64 (l0.length : Int)), (8, .int .i64 σ.2)] ∧ St [] w0 w []) hl5 (by exact ⟨hs.keep [3, 6, 7, 8] (by kernel_rfl), hw⟩) ?_
 rintro ⟨v6, v7⟩ a w ⟨hs, hw⟩ o H hr5
 replace hs : Slots a 23 [(3, .int .u32 v6), (6, .slice A0 l0.length c0), (7, .int .i64 (l0.length : Int)), (8, .int .i64 v7)] := hs
 replace hw : St [] w0 w [] := hw
 replace H : isa_lay.b5 l0 v6 v7 = some o := H
 unfold isa_lay.b5 at H
 refine go_seq_k fun K8 hK8 => ?_
 refine go_region ?_
 refine go_pvs 0 1 [3, 6, 7, 8, 9] hs (L' := [(3, .int .u32 v6), (6, .slice A0 l0.length c0), (7, .int .i64 (l0.length : Int)), (8, .int .i64 v7), (9, .bool (decide (v7 < (l0.length : Int))))]) (by kernel_rfl) ?_ rfl
 clear hs; intro a hs
 refine go_end (by kernel_rfl) ?_
 refine hK8 _ _ ?_
 refine go_seq_k fun K9 hK9 => ?_
 refine go_cond hs (decide (v7 < (l0.length : Int))) (by kernel_rfl) (fun hc => ?_) (fun hc => ?_)
 ·replace H := ite_t H (of_decide_eq_true hc)
  have hb10 := hc
  rw [hb10] at hs
  refine wp_skip ?_
  refine hK9 _ _ ?_
  refine go_seq_k fun K11 hK11 => ?_
  refine wp_block ?_
  refine go_seq_k fun K12 hK12 => ?_
  refine go_region ?_
  obtain ⟨hp13, H⟩ := ite_only H
  obtain ⟨ad14, rfl⟩ := (hr0.old hw).some hp13.1 hp13.2
  refine go_run hs (op := (Op.indexAddr 85 (Operand.tmp 6) (Operand.tmp 8))) (ty := 0) (dst := some 10) (g := none) (by kernel_rfl) (by kernel_rfl) (by kernel_rfl) (x_idx (T := 76) (sz := 3) (a := ad14) (n := l0.length) (cap := c0) (k := .i64) (i := v7) (by kernel_rfl) (by kernel_rfl) (by kernel_rfl) (by kernel_rfl) hp13.1 hp13.2) [3, 6, 7, 8, 10] (L' := [(3, .int .u32 v6), (6, .slice (some ad14) l0.length c0), (7, .int .i64 (l0.length : Int)), (8, .int .i64 v7), (10, .pointer (some (ad14.add (v7.toNat * 3))))]) (by kernel_rfl) ?_
  clear hs; intro a hs
  refine go_run hs (op := (Op.load 76 (Operand.tmp 10))) (ty := 76) (dst := some 11) (g := none) (by kernel_rfl) (by kernel_rfl) (by kernel_rfl) (x_lds (E := eA76) (off := 0) (p := ad14.add (v7.toNat * 3)) (cs := [.int .i64 (vx 0 (ix eA76.d l0 v7) 0), .int .i64 (vx 0 (ix eA76.d l0 v7) 1), .int .i64 (vx 0 (ix eA76.d l0 v7) 2)]) (hr0.old hw) hp13.1 hp13.2 (by kernel_rfl) rfl (by kernel_rfl) (by kernel_rfl) (by kernel_rfl)) [3, 6, 7, 8, 11] (L' := [(3, .int .u32 v6), (6, .slice (some ad14) l0.length c0), (7, .int .i64 (l0.length : Int)), (8, .int .i64 v7), (11, .agg #[.int .i64 (vx 0 (ix eA76.d l0 v7) 0), .int .i64 (vx 0 (ix eA76.d l0 v7) 1), .int .i64 (vx 0 (ix eA76.d l0 v7) 2)])]) (by kernel_rfl) ?_
  clear hs; intro a hs
  obtain ⟨ad15, wd16, hx17, hw⟩ := x_alloc1 (P := Try.prog) (elem := 76) (ty := 0) (z := .agg #[.int .i64 0, .int .i64 0, .int .i64 0]) hs hw eA76 (Vector.replicate 3 0) (by kernel_rfl) (by kernel_rfl)
  refine go_run hs (op := (Op.alloc 76)) (ty := 0) (dst := some 5) (g := none) (by kernel_rfl) (by kernel_rfl) (by kernel_rfl) hx17 [3, 5, 6, 7, 8, 11] (L' := [(3, .int .u32 v6), (5, .pointer (some ad15)), (6, .slice (some ad14) l0.length c0), (7, .int .i64 (l0.length : Int)), (8, .int .i64 v7), (11, .agg #[.int .i64 (vx 0 (ix eA76.d l0 v7) 0), .int .i64 (vx 0 (ix eA76.d l0 v7) 1), .int .i64 (vx 0 (ix eA76.d l0 v7) 2)])]) (by kernel_rfl) ?_
  clear hs; intro a hs
  obtain ⟨wd19, hx20, hw⟩ := x_put (P := Try.prog) (ty := 0) (t := 76) (x := (Operand.tmp 5)) (y := (Operand.tmp 11)) (off := 0) (p := ad15) (v := .agg #[.int .i64 (vx 0 (ix eA76.d l0 v7) 0), .int .i64 (vx 0 (ix eA76.d l0 v7) 1), .int .i64 (vx 0 (ix eA76.d l0 v7) 2)]) (vs := [.int .i64 (vx 0 (ix eA76.d l0 v7) 0), .int .i64 (vx 0 (ix eA76.d l0 v7) 1), .int .i64 (vx 0 (ix eA76.d l0 v7) 2)]) (i := 0) (e' := ((ix eA76.d l0 v7) : Vector Int 3)) hs hw rfl (one_ok (Vector.replicate 3 0)).1 (one_ok (Vector.replicate 3 0)).2 (by kernel_rfl) (one_at _ _) (by kernel_rfl) rfl (by kernel_rfl) (Nat.le_of_ble_eq_true rfl) (by simp [Value.oneCell']) (by kernel_rfl)
  refine go_unit hs (op := (Op.store 76 (Operand.tmp 5) (Operand.tmp 11))) (ty := 0) (dst := none) (g := none) (by kernel_rfl) (by kernel_rfl) (by kernel_rfl) hx20 [3, 5, 6, 7, 8] (L' := [(3, .int .u32 v6), (5, .pointer (some ad15)), (6, .slice (some ad14) l0.length c0), (7, .int .i64 (l0.length : Int)), (8, .int .i64 v7)]) (by kernel_rfl) ?_
  clear hs; intro a hs
  replace hw : St [] w0 wd19 [own 76 eA76 (some ad15) 1 [(ix eA76.d l0 v7)]] := hw
  refine go_end (by kernel_rfl) ?_
  refine hK12 _ _ ?_
  refine go_region ?_
  refine go_pvs 0 1 [5, 6, 7, 8, 12] hs (L' := [(5, .pointer (some ad15)), (6, .slice (some ad14) l0.length c0), (7, .int .i64 (l0.length : Int)), (8, .int .i64 v7), (12, .int .u32 v6)]) (by kernel_rfl) ?_ rfl
  clear hs; intro a hs
  refine go_run hs (op := (Op.indexAddr 76 (Operand.tmp 5) (Operand.const (Value.int IntKind.i64 0)))) (ty := 0) (dst := some 13) (g := none) (by kernel_rfl) (by kernel_rfl) (by kernel_rfl) (x_vidx (e := 3) (p := ad15) (n := 3) (k := .i64) (i := 0) (sz := 1) (by kernel_rfl) (by kernel_rfl) (by kernel_rfl) (by kernel_rfl) (⟨by decide, by decide⟩ : (0 : Int) ≤ 0 ∧ (0 : Int) < ((3 : Nat) : Int)).1 (⟨by decide, by decide⟩ : (0 : Int) ≤ 0 ∧ (0 : Int) < ((3 : Nat) : Int)).2) [5, 6, 7, 8, 12, 13] (L' := [(5, .pointer (some ad15)), (6, .slice (some ad14) l0.length c0), (7, .int .i64 (l0.length : Int)), (8, .int .i64 v7), (12, .int .u32 v6), (13, .pointer (some ((ad15 : Addr).add ((0 : Int).toNat * 1))))]) (by kernel_rfl) ?_
  clear hs; intro a hs
  refine go_run hs (op := (Op.load 3 (Operand.tmp 13))) (ty := 3) (dst := some 14) (g := none) (by kernel_rfl) (by kernel_rfl) (by kernel_rfl) (x_ld (E := eA76) (off := 0) (p := (ad15 : Addr).add ((0 : Int).toNat * 1)) (v := .int .i64 (vx 0 (ix eA76.d l0 v7) 0)) (Rd.of_own (hw.up 0)) (one_ok (ix eA76.d l0 v7)).1 (one_ok (ix eA76.d l0 v7)).2 (by kernel_rfl) (by simp only [add_add', Int.toNat_zero, Nat.zero_mul, Nat.zero_add, Nat.mul_one] <;> rfl) (by kernel_rfl) (by kernel_rfl)) [5, 6, 7, 8, 12, 14] (L' := [(5, .pointer (some ad15)), (6, .slice (some ad14) l0.length c0), (7, .int .i64 (l0.length : Int)), (8, .int .i64 v7), (12, .int .u32 v6), (14, .int .i64 (vx 0 (ix eA76.d l0 v7) 0))]) (by kernel_rfl) ?_
  clear hs; intro a hs
  refine go_run hs (op := (Op.indexAddr 76 (Operand.tmp 5) (Operand.const (Value.int IntKind.i64 1)))) (ty := 0) (dst := some 15) (g := none) (by kernel_rfl) (by kernel_rfl) (by kernel_rfl) (x_vidx (e := 3) (p := ad15) (n := 3) (k := .i64) (i := 1) (sz := 1) (by kernel_rfl) (by kernel_rfl) (by kernel_rfl) (by kernel_rfl) (⟨by decide, by decide⟩ : (0 : Int) ≤ 1 ∧ (1 : Int) < ((3 : Nat) : Int)).1 (⟨by decide, by decide⟩ : (0 : Int) ≤ 1 ∧ (1 : Int) < ((3 : Nat) : Int)).2) [5, 6, 7, 8, 12, 14, 15] (L' := [(5, .pointer (some ad15)), (6, .slice (some ad14) l0.length c0), (7, .int .i64 (l0.length : Int)), (8, .int .i64 v7), (12, .int .u32 v6), (14, .int .i64 (vx 0 (ix eA76.d l0 v7) 0)), (15, .pointer (some ((ad15 : Addr).add ((1 : Int).toNat * 1))))]) (by kernel_rfl) ?_
  clear hs; intro a hs
  refine go_run hs (op := (Op.load 3 (Operand.tmp 15))) (ty := 3) (dst := some 16) (g := none) (by kernel_rfl) (by kernel_rfl) (by kernel_rfl) (x_ld (E := eA76) (off := 1) (p := (ad15 : Addr).add ((1 : Int).toNat * 1)) (v := .int .i64 (vx 0 (ix eA76.d l0 v7) 1)) (Rd.of_own (hw.up 0)) (one_ok (ix eA76.d l0 v7)).1 (one_ok (ix eA76.d l0 v7)).2 (by kernel_rfl) (by simp only [add_add', Int.toNat_zero, Nat.zero_mul, Nat.zero_add, Nat.mul_one] <;> rfl) (by kernel_rfl) (by kernel_rfl)) [5, 6, 7, 8, 12, 14, 16] (L' := [(5, .pointer (some ad15)), (6, .slice (some ad14) l0.length c0), (7, .int .i64 (l0.length : Int)), (8, .int .i64 v7), (12, .int .u32 v6), (14, .int .i64 (vx 0 (ix eA76.d l0 v7) 0)), (16, .int .i64 (vx 0 (ix eA76.d l0 v7) 1))]) (by kernel_rfl) ?_
  clear hs; intro a hs
  refine go_run hs (op := (Op.indexAddr 76 (Operand.tmp 5) (Operand.const (Value.int IntKind.i64 2)))) (ty := 0) (dst := some 17) (g := none) (by kernel_rfl) (by kernel_rfl) (by kernel_rfl) (x_vidx (e := 3) (p := ad15) (n := 3) (k := .i64) (i := 2) (sz := 1) (by kernel_rfl) (by kernel_rfl) (by kernel_rfl) (by kernel_rfl) (⟨by decide, by decide⟩ : (0 : Int) ≤ 2 ∧ (2 : Int) < ((3 : Nat) : Int)).1 (⟨by decide, by decide⟩ : (0 : Int) ≤ 2 ∧ (2 : Int) < ((3 : Nat) : Int)).2) [6, 7, 8, 12, 14, 16, 17] (L' := [(6, .slice (some ad14) l0.length c0), (7, .int .i64 (l0.length : Int)), (8, .int .i64 v7), (12, .int .u32 v6), (14, .int .i64 (vx 0 (ix eA76.d l0 v7) 0)), (16, .int .i64 (vx 0 (ix eA76.d l0 v7) 1)), (17, .pointer (some ((ad15 : Addr).add ((2 : Int).toNat * 1))))]) (by kernel_rfl) ?_
  clear hs; intro a hs
  refine go_run hs (op := (Op.load 3 (Operand.tmp 17))) (ty := 3) (dst := some 18) (g := none) (by kernel_rfl) (by kernel_rfl) (by kernel_rfl) (x_ld (E := eA76) (off := 2) (p := (ad15 : Addr).add ((2 : Int).toNat * 1)) (v := .int .i64 (vx 0 (ix eA76.d l0 v7) 2)) (Rd.of_own (hw.up 0)) (one_ok (ix eA76.d l0 v7)).1 (one_ok (ix eA76.d l0 v7)).2 (by kernel_rfl) (by simp only [add_add', Int.toNat_zero, Nat.zero_mul, Nat.zero_add, Nat.mul_one] <;> rfl) (by kernel_rfl) (by kernel_rfl)) [6, 7, 8, 12, 14, 16, 18] (L' := [(6, .slice (some ad14) l0.length c0), (7, .int .i64 (l0.length : Int)), (8, .int .i64 v7), (12, .int .u32 v6), (14, .int .i64 (vx 0 (ix eA76.d l0 v7) 0)), (16, .int .i64 (vx 0 (ix eA76.d l0 v7) 1)), (18, .int .i64 (vx 0 (ix eA76.d l0 v7) 2))]) (by kernel_rfl) ?_
  clear hs; intro a hs
  refine go_pvs 7 8 [6, 7, 8, 12, 14, 16, 19] hs (L' := [(6, .slice (some ad14) l0.length c0), (7, .int .i64 (l0.length : Int)), (8, .int .i64 v7), (12, .int .u32 v6), (14, .int .i64 (vx 0 (ix eA76.d l0 v7) 0)), (16, .int .i64 (vx 0 (ix eA76.d l0 v7) 1)), (19, .int .u32 (wu32 (vx 0 (ix eA76.d l0 v7) 2)))]) (by kernel_rfl) ?_ rfl
  clear hs; intro a hs
  obtain ⟨t22, hx23, H⟩ := bind_some H
  refine go_call hs (op := (Op.call { callee := (Callee.value (Operand.func 66)), args := #[(Operand.tmp 12), (Operand.tmp 14), (Operand.tmp 16), (Operand.tmp 19)], argTypes := #[22, 3, 3, 22] })) (ty := 22) (dst := some 20) (g := none) (by kernel_rfl) (by kernel_rfl) (by kernel_rfl) (f := 66) (args := #[.int .u32 v6, .int .i64 (vx 0 (ix eA76.d l0 v7) 0), .int .i64 (vx 0 (ix eA76.d l0 v7) 1), .int .u32 (wu32 (vx 0 (ix eA76.d l0 v7) 2))]) (by kernel_rfl) (field_Set.calls v6 (vx 0 (ix eA76.d l0 v7) 0) (vx 0 (ix eA76.d l0 v7) 1) (wu32 (vx 0 (ix eA76.d l0 v7) 2)) t22 _ hx23) ?_
  rintro e wd24 ⟨rfl, hw25⟩
  refine ⟨_, rfl, ?_⟩
  replace hw := hw.call hw25
  intro a hs1
  replace hs : Slots a 23 [(6, .slice (some ad14) l0.length c0), (7, .int .i64 (l0.length : Int)), (8, .int .i64 v7), (20, .int .u32 t22)] := hs1.keep [6, 7, 8, 20] (by kernel_rfl)
  clear hs1
  refine go_pvs 9 10 [3, 6, 7, 8] hs (L' := [(3, .int .u32 t22), (6, .slice (some ad14) l0.length c0), (7, .int .i64 (l0.length : Int)), (8, .int .i64 v7)]) (by kernel_rfl) ?_ rfl
  clear hs; intro a hs
  refine go_end (by kernel_rfl) ?_
  refine ib_norm ?_
  refine hK11 _ _ ?_
  refine go_region ?_
  refine go_pvs 0 2 [3, 6, 7, 8] hs (L' := [(3, .int .u32 t22), (6, .slice (some ad14) l0.length c0), (7, .int .i64 (l0.length : Int)), (8, .int .i64 (w64 (v7 + 1)))]) (by kernel_rfl) ?_ rfl
  clear hs; intro a hs
  refine go_end (by kernel_rfl) ?_
  replace hw := hw.only 0
  exact round_end (t22, w64 (v7 + 1)) (Option.some.inj H).symm ⟨hs.keep [3, 6, 7, 8] (by kernel_rfl), hw⟩
 ·replace H := ite_f H (of_decide_eq_false hc)
  have hb26 := hc
  rw [hb26] at hs
  refine wp_exit ?_
  refine th_exit ?_
  refine th_exit ?_
  refine in_block ?_
  replace hw := hw.only 0
  rw [← hr5 _ (Option.some.inj H).symm] at HX5
  exact hJ1 v6 _ _ (hs.keep [3] (by kernel_rfl)) hw HX5

/-! rivet/isa.between: function 28 -/
noncomputable def isa_between.j1 (v4 : Bool) : Option Bool := some v4
noncomputable def isa_between (a0 : Int) (a1 : Int) (a2 : Int) : Option Bool := (if a0 ≥ a1 then isa_between.j1 (decide (a0 ≤ a2)) else isa_between.j1 false)
set_option maxRecDepth 100000 in
set_option maxHeartbeats 4000000 in
theorem isa_between.calls (a0 : Int) (a1 : Int) (a2 : Int) (r : Bool) (w0 : World) (H : isa_between a0 a1 a2 = some r) :
    Calls Try.prog 28 #[.int .i64 a0, .int .i64 a1, .int .i64 a2] w0 fun e w' => e = .returned (.bool r) ∧ St [] w0 w' [] := by
 have hw : St [] w0 w0 [] := St.nil w0
 unfold isa_between at H
 refine go_fn Try.func28 rfl 15 Try.ntmps28 [(0, .int .i64 a0), (1, .int .i64 a1), (2, .int .i64 a2)] (by kernel_rfl) rfl ?_
 intro a hs
 refine go_seq_k fun K1 hK1 => ?_
 refine go_region ?_
 refine go_pvs 0 1 [0, 1, 2] hs (L' := [(0, .int .i64 a0), (1, .int .i64 a1), (2, .int .i64 a2)]) (by kernel_rfl) ?_ rfl
 clear hs; intro a hs
 refine go_end (by kernel_rfl) ?_
 refine hK1 _ _ ?_
 refine go_seq_k fun K2 hK2 => ?_
 have hJ1 : ∀ (v4 : Bool) (a : Act) (w : World), Slots a 15 [(6, .bool v4)] → St [] w0 w [] → isa_between.j1 v4 = some r → K2 a w := by
  intro v4 a w hs hw H
  unfold isa_between.j1 at H
  refine hK2 _ _ ?_
  refine wp_ret ?_
  obtain rfl := Option.some.inj H
  refine ret1 (t := 6) (v := .bool v4) hs (by kernel_rfl) (by kernel_rfl) ?_
  exact ⟨rfl, hw.only 0⟩
 refine go_region ?_
 refine go_pvs 0 4 [0, 2, 10] hs (L' := [(0, .int .i64 a0), (2, .int .i64 a2), (10, .bool (decide (a0 ≥ a1)))]) (by kernel_rfl) ?_ rfl
 clear hs; intro a hs
 cases hb3 : (decide (a0 ≥ a1))
 ·replace H := ite_f H (of_decide_eq_false hb3)
  rw [hb3] at hs
  refine go_pvs 4 9 [6] hs (L' := [(6, .bool false)]) (by kernel_rfl) ?_ rfl
  clear hs; intro a hs
  refine go_end (by kernel_rfl) ?_
  replace hw := hw.only 0
  exact hJ1 false _ _ (hs.keep [6] (by kernel_rfl)) hw H
 ·replace H := ite_t H (of_decide_eq_true hb3)
  rw [hb3] at hs
  refine go_pvs 4 9 [6] hs (L' := [(6, .bool (decide (a0 ≤ a2)))]) (by kernel_rfl) ?_ rfl
  clear hs; intro a hs
  refine go_end (by kernel_rfl) ?_
  replace hw := hw.only 0
  exact hJ1 (decide (a0 ≤ a2)) _ _ (hs.keep [6] (by kernel_rfl)) hw H

/-! rivet/isa.read$1: function 53 -/
noncomputable def isa_read_1 (a0 : Int) (a1 : Int) (x2 : Int) : Option Int := ((field_Get x2 a0 a1).bind fun t4 => (some (w64 t4)))
set_option maxRecDepth 100000 in
set_option maxHeartbeats 4000000 in
theorem isa_read_1.calls (a0 : Int) (a1 : Int) (A2 : Addr) (x2 : Int) (r : Int) (w0 : World) (hr2 : Rd w0 (eI .u32) (some A2) 1 [x2]) (H : isa_read_1 a0 a1 x2 = some r) :
    Calls Try.prog 53 #[.int .i64 a0, .int .i64 a1, .pointer (some A2)] w0 fun e w' => e = .returned (.int .i64 r) ∧ St [] w0 w' [] := by
 have hw : St [] w0 w0 [] := St.nil w0
 unfold isa_read_1 at H
 refine go_fn Try.func53 rfl 11 Try.ntmps53 [(0, .int .i64 a0), (1, .int .i64 a1), (2, .pointer (some A2))] (by kernel_rfl) rfl ?_
 intro a hs
 refine go_seq_k fun K1 hK1 => ?_
 refine go_region ?_
 refine go_pvs 0 1 [0, 1, 2] hs (L' := [(0, .int .i64 a0), (1, .int .i64 a1), (2, .pointer (some A2))]) (by kernel_rfl) ?_ rfl
 clear hs; intro a hs
 refine go_end (by kernel_rfl) ?_
 refine hK1 _ _ ?_
 refine go_seq_k fun K2 hK2 => ?_
 refine go_region ?_
 refine go_run hs (op := (Op.load 22 (Operand.tmp 2))) (ty := 22) (dst := some 6) (g := none) (by kernel_rfl) (by kernel_rfl) (by kernel_rfl) (x_ld (E := (eI .u32)) (off := 0) (p := A2) (v := .int .u32 x2) (hr2.old hw) (one_ok x2).1 (one_ok x2).2 (by kernel_rfl) (one_at _ _) (by kernel_rfl) (by kernel_rfl)) [0, 1, 6] (L' := [(0, .int .i64 a0), (1, .int .i64 a1), (6, .int .u32 x2)]) (by kernel_rfl) ?_
 clear hs; intro a hs
 refine go_pvs 1 3 [6, 7, 8] hs (L' := [(6, .int .u32 x2), (7, .int .i64 a0), (8, .int .i64 a1)]) (by kernel_rfl) ?_ rfl
 clear hs; intro a hs
 obtain ⟨t4, hx5, H⟩ := bind_some H
 refine go_call hs (op := (Op.call { callee := (Callee.value (Operand.func 54)), args := #[(Operand.tmp 6), (Operand.tmp 7), (Operand.tmp 8)], argTypes := #[22, 3, 3] })) (ty := 22) (dst := some 9) (g := none) (by kernel_rfl) (by kernel_rfl) (by kernel_rfl) (f := 54) (args := #[.int .u32 x2, .int .i64 a0, .int .i64 a1]) (by kernel_rfl) (field_Get.calls x2 a0 a1 t4 _ hx5) ?_
 rintro e wd6 ⟨rfl, hw7⟩
 refine ⟨_, rfl, ?_⟩
 replace hw := hw.call hw7
 intro a hs1
 replace hs : Slots a 11 [(9, .int .u32 t4)] := hs1.keep [9] (by kernel_rfl)
 clear hs1
 refine go_pvs 4 6 [5] hs (L' := [(5, .int .i64 (w64 t4))]) (by kernel_rfl) ?_ rfl
 clear hs; intro a hs
 refine go_end (by kernel_rfl) ?_
 refine hK2 _ _ ?_
 refine wp_ret ?_
 obtain rfl := Option.some.inj H
 refine ret1 (t := 5) (v := .int .i64 (w64 t4)) hs (by kernel_rfl) (by kernel_rfl) ?_
 exact ⟨rfl, hw.only 0⟩

/-! rivet/isa.read: function 29 -/
noncomputable def isa_read.j2 (v125 : Sapi_Instr) : Option Sapi_Instr := some (v125 : Sapi_Instr)
noncomputable def isa_read.j1 (a0 : Int) (t24 : Int) (t34 : Int) (t29 : Int) (t13 : Int) (t55 : Int) (v65 : Bool) : Option Sapi_Instr := (if v65 = true then ((isa_read_1 28 1 a0).bind fun t68 => (isa_read.j2 (⟨w64 (3 + t68), 0, t24, 0, 0, 0, false⟩ : Sapi_Instr))) else isa_read.j2 ({ ({ (⟨0, t34, t24, t29, 0, 0, t13 == 1⟩ : Sapi_Instr) with Kind := 1 } : Sapi_Instr) with C := t55 } : Sapi_Instr))
noncomputable def isa_read (a0 : Int) : Option Sapi_Instr := ((isa_read_1 29 1 a0).bind fun t13 => (((isa_read_1 28 1 a0).bind fun t18 => (((isa_read_1 24 4 a0).bind fun t24 => (((isa_read_1 20 4 a0).bind fun t29 => (((isa_read_1 16 4 a0).bind fun t34 => (((isa_read_1 30 2 a0).bind fun t47 => ((if t47 = 0 then ((isa_read_1 0 4 a0).bind fun t55 => ((if t13 = 1 then isa_read.j1 a0 t24 t34 t29 t13 t55 (t34 == 0) else isa_read.j1 a0 t24 t34 t29 t13 t55 false))) else (if t47 = 1 then ((isa_read_1 0 16 a0).bind fun t77 => (((isa_read_1 28 1 a0).bind fun t82 => (isa_read.j2 ({ ({ (⟨0, t34, t24, t29, 0, 0, t13 == 1⟩ : Sapi_Instr) with Kind := 2 } : Sapi_Instr) with Imm := w64 (t77 - (w64 (t82 * 2 ^ 16))) } : Sapi_Instr))))) else (if t47 = 2 then ((isa_read_1 29 1 a0).bind fun t94 => (((isa_read_1 28 1 a0).bind fun t97 => (((field_Signed a0 20).bind fun t100 => (isa_read.j2 (⟨5, w64 ((w64 (t94 * 2)) + t97), t24, t29, 0, t100, false⟩ : Sapi_Instr))))))) else ((isa_read_1 0 4 a0).bind fun t107 => ((if t13 = 1 then ((field_Signed a0 24).bind fun t114 => (isa_read.j2 ({ ({ ({ (⟨6, t24, 0, 0, t107, 0, t18 == 1⟩ : Sapi_Instr) with Kind := 7 } : Sapi_Instr) with C := 0 } : Sapi_Instr) with Imm := t114 } : Sapi_Instr))) else isa_read.j2 (⟨6, t24, 0, 0, t107, 0, t18 == 1⟩ : Sapi_Instr)))))))))))))))))))
set_option maxRecDepth 100000 in
set_option maxHeartbeats 4000000 in
theorem isa_read.calls (a0 : Int) (r : Sapi_Instr) (w0 : World) (H : isa_read a0 = some r) :
    Calls Try.prog 29 #[.int .u32 a0] w0 fun e w' => e = .returned (.agg (eSapi_Instr.enc r).toArray) ∧ St [] w0 w' [] := by
 have hw : St [] w0 w0 [] := St.nil w0
 unfold isa_read at H
 refine go_fn Try.func29 rfl 80 Try.ntmps29 [(0, .int .u32 a0)] (by kernel_rfl) rfl ?_
 intro a hs
 refine go_seq_k fun K1 hK1 => ?_
 refine go_region ?_
 obtain ⟨ad2, wd3, hx4, hw⟩ := x_box1 (P := Try.prog) (elem := 22) (v := (Operand.tmp 0)) (ty := 0) hs hw (eI .u32) a0 (by kernel_rfl)
 refine go_run hs (op := (Op.box 22 (Operand.tmp 0))) (ty := 0) (dst := some 1) (g := none) (by kernel_rfl) (by kernel_rfl) (by kernel_rfl) hx4 [1] (L' := [(1, .pointer (some ad2))]) (by kernel_rfl) ?_
 clear hs; intro a hs
 obtain ⟨ad6, wd7, hx8, hw⟩ := x_alloc1 (P := Try.prog) (elem := 27) (ty := 0) (z := .agg (eSapi_Instr.enc (⟨0, 0, 0, 0, 0, 0, false⟩ : Sapi_Instr)).toArray) hs hw eSapi_Instr (⟨0, 0, 0, 0, 0, 0, false⟩ : Sapi_Instr) (by kernel_rfl) (by kernel_rfl)
 refine go_run hs (op := (Op.alloc 27)) (ty := 0) (dst := some 2) (g := none) (by kernel_rfl) (by kernel_rfl) (by kernel_rfl) hx8 [1, 2] (L' := [(1, .pointer (some ad2)), (2, .pointer (some ad6))]) (by kernel_rfl) ?_
 clear hs; intro a hs
 refine go_end (by kernel_rfl) ?_
 refine hK1 _ _ ?_
 refine go_seq_k fun K10 hK10 => ?_
 refine go_region ?_
 refine go_pvs 0 2 [1, 2, 3] hs (L' := [(1, .pointer (some ad2)), (2, .pointer (some ad6)), (3, .func (.func 53) #[] #[.pointer (some ad2)])]) (by kernel_rfl) ?_ rfl
 clear hs; intro a hs
 refine go_end (by kernel_rfl) ?_
 refine hK10 _ _ ?_
 refine go_seq_k fun K11 hK11 => ?_
 refine go_region ?_
 refine go_pvs 0 1 [1, 2, 3, 8] hs (L' := [(1, .pointer (some ad2)), (2, .pointer (some ad6)), (3, .func (.func 53) #[] #[.pointer (some ad2)]), (8, .func (.func 53) #[] #[.pointer (some ad2)])]) (by kernel_rfl) ?_ rfl
 clear hs; intro a hs
 obtain ⟨t13, hx14, H⟩ := bind_some H
 refine go_call hs (op := (Op.call { callee := (Callee.value (Operand.tmp 8)), args := #[(Operand.const (Value.int IntKind.i64 29)), (Operand.const (Value.int IntKind.i64 1))], argTypes := #[3, 3] })) (ty := 3) (dst := some 9) (g := none) (by kernel_rfl) (by kernel_rfl) (by kernel_rfl) (f := 53) (args := #[.int .i64 29, .int .i64 1, .pointer (some ad2)]) (by kernel_rfl) (isa_read_1.calls 29 1 ad2 a0 t13 _ (Rd.of_own (hw.up 1)) hx14) ?_
 rintro e wd15 ⟨rfl, hw16⟩
 refine ⟨_, rfl, ?_⟩
 replace hw := hw.call hw16
 intro a hs1
 replace hs : Slots a 80 [(1, .pointer (some ad2)), (2, .pointer (some ad6)), (3, .func (.func 53) #[] #[.pointer (some ad2)]), (9, .int .i64 t13)] := hs1.keep [1, 2, 3, 9] (by kernel_rfl)
 clear hs1
 refine go_pvs 2 4 [1, 2, 3, 10, 11] hs (L' := [(1, .pointer (some ad2)), (2, .pointer (some ad6)), (3, .func (.func 53) #[] #[.pointer (some ad2)]), (10, .bool (t13 == 1)), (11, .func (.func 53) #[] #[.pointer (some ad2)])]) (by kernel_rfl) ?_ rfl
 clear hs; intro a hs
 obtain ⟨t18, hx19, H⟩ := bind_some H
 refine go_call hs (op := (Op.call { callee := (Callee.value (Operand.tmp 11)), args := #[(Operand.const (Value.int IntKind.i64 28)), (Operand.const (Value.int IntKind.i64 1))], argTypes := #[3, 3] })) (ty := 3) (dst := some 12) (g := none) (by kernel_rfl) (by kernel_rfl) (by kernel_rfl) (f := 53) (args := #[.int .i64 28, .int .i64 1, .pointer (some ad2)]) (by kernel_rfl) (isa_read_1.calls 28 1 ad2 a0 t18 _ (Rd.of_own (hw.up 1)) hx19) ?_
 rintro e wd20 ⟨rfl, hw21⟩
 refine ⟨_, rfl, ?_⟩
 replace hw := hw.call hw21
 intro a hs1
 replace hs : Slots a 80 [(1, .pointer (some ad2)), (2, .pointer (some ad6)), (3, .func (.func 53) #[] #[.pointer (some ad2)]), (10, .bool (t13 == 1)), (12, .int .i64 t18)] := hs1.keep [1, 2, 3, 10, 12] (by kernel_rfl)
 clear hs1
 refine go_pvs 5 8 [1, 2, 3, 4, 5] hs (L' := [(1, .pointer (some ad2)), (2, .pointer (some ad6)), (3, .func (.func 53) #[] #[.pointer (some ad2)]), (4, .bool (t13 == 1)), (5, .bool (t18 == 1))]) (by kernel_rfl) ?_ rfl
 clear hs; intro a hs
 refine go_end (by kernel_rfl) ?_
 refine hK11 _ _ ?_
 refine go_seq_k fun K22 hK22 => ?_
 refine go_region ?_
 refine go_pvs 0 1 [1, 2, 3, 4, 5, 14] hs (L' := [(1, .pointer (some ad2)), (2, .pointer (some ad6)), (3, .func (.func 53) #[] #[.pointer (some ad2)]), (4, .bool (t13 == 1)), (5, .bool (t18 == 1)), (14, .func (.func 53) #[] #[.pointer (some ad2)])]) (by kernel_rfl) ?_ rfl
 clear hs; intro a hs
 obtain ⟨t24, hx25, H⟩ := bind_some H
 refine go_call hs (op := (Op.call { callee := (Callee.value (Operand.tmp 14)), args := #[(Operand.const (Value.int IntKind.i64 24)), (Operand.const (Value.int IntKind.i64 4))], argTypes := #[3, 3] })) (ty := 3) (dst := some 15) (g := none) (by kernel_rfl) (by kernel_rfl) (by kernel_rfl) (f := 53) (args := #[.int .i64 24, .int .i64 4, .pointer (some ad2)]) (by kernel_rfl) (isa_read_1.calls 24 4 ad2 a0 t24 _ (Rd.of_own (hw.up 1)) hx25) ?_
 rintro e wd26 ⟨rfl, hw27⟩
 refine ⟨_, rfl, ?_⟩
 replace hw := hw.call hw27
 intro a hs1
 replace hs : Slots a 80 [(1, .pointer (some ad2)), (2, .pointer (some ad6)), (3, .func (.func 53) #[] #[.pointer (some ad2)]), (4, .bool (t13 == 1)), (5, .bool (t18 == 1)), (15, .int .i64 t24)] := hs1.keep [1, 2, 3, 4, 5, 15] (by kernel_rfl)
 clear hs1
 refine go_pvs 2 3 [1, 2, 3, 4, 5, 15, 16] hs (L' := [(1, .pointer (some ad2)), (2, .pointer (some ad6)), (3, .func (.func 53) #[] #[.pointer (some ad2)]), (4, .bool (t13 == 1)), (5, .bool (t18 == 1)), (15, .int .i64 t24), (16, .func (.func 53) #[] #[.pointer (some ad2)])]) (by kernel_rfl) ?_ rfl
 clear hs; intro a hs
 obtain ⟨t29, hx30, H⟩ := bind_some H
 refine go_call hs (op := (Op.call { callee := (Callee.value (Operand.tmp 16)), args := #[(Operand.const (Value.int IntKind.i64 20)), (Operand.const (Value.int IntKind.i64 4))], argTypes := #[3, 3] })) (ty := 3) (dst := some 17) (g := none) (by kernel_rfl) (by kernel_rfl) (by kernel_rfl) (f := 53) (args := #[.int .i64 20, .int .i64 4, .pointer (some ad2)]) (by kernel_rfl) (isa_read_1.calls 20 4 ad2 a0 t29 _ (Rd.of_own (hw.up 1)) hx30) ?_
 rintro e wd31 ⟨rfl, hw32⟩
 refine ⟨_, rfl, ?_⟩
 replace hw := hw.call hw32
 intro a hs1
 replace hs : Slots a 80 [(1, .pointer (some ad2)), (2, .pointer (some ad6)), (3, .func (.func 53) #[] #[.pointer (some ad2)]), (4, .bool (t13 == 1)), (5, .bool (t18 == 1)), (15, .int .i64 t24), (17, .int .i64 t29)] := hs1.keep [1, 2, 3, 4, 5, 15, 17] (by kernel_rfl)
 clear hs1
 refine go_pvs 4 5 [1, 2, 3, 4, 5, 15, 17, 18] hs (L' := [(1, .pointer (some ad2)), (2, .pointer (some ad6)), (3, .func (.func 53) #[] #[.pointer (some ad2)]), (4, .bool (t13 == 1)), (5, .bool (t18 == 1)), (15, .int .i64 t24), (17, .int .i64 t29), (18, .func (.func 53) #[] #[.pointer (some ad2)])]) (by kernel_rfl) ?_ rfl
 clear hs; intro a hs
 obtain ⟨t34, hx35, H⟩ := bind_some H
 refine go_call hs (op := (Op.call { callee := (Callee.value (Operand.tmp 18)), args := #[(Operand.const (Value.int IntKind.i64 16)), (Operand.const (Value.int IntKind.i64 4))], argTypes := #[3, 3] })) (ty := 3) (dst := some 19) (g := none) (by kernel_rfl) (by kernel_rfl) (by kernel_rfl) (f := 53) (args := #[.int .i64 16, .int .i64 4, .pointer (some ad2)]) (by kernel_rfl) (isa_read_1.calls 16 4 ad2 a0 t34 _ (Rd.of_own (hw.up 1)) hx35) ?_
 rintro e wd36 ⟨rfl, hw37⟩
 refine ⟨_, rfl, ?_⟩
 replace hw := hw.call hw37
 intro a hs1
 replace hs : Slots a 80 [(1, .pointer (some ad2)), (2, .pointer (some ad6)), (3, .func (.func 53) #[] #[.pointer (some ad2)]), (4, .bool (t13 == 1)), (5, .bool (t18 == 1)), (15, .int .i64 t24), (17, .int .i64 t29), (19, .int .i64 t34)] := hs1.keep [1, 2, 3, 4, 5, 15, 17, 19] (by kernel_rfl)
 clear hs1
 refine go_pvs 6 8 [1, 2, 3, 4, 5, 21] hs (L' := [(1, .pointer (some ad2)), (2, .pointer (some ad6)), (3, .func (.func 53) #[] #[.pointer (some ad2)]), (4, .bool (t13 == 1)), (5, .bool (t18 == 1)), (21, .agg (eSapi_Instr.enc (⟨0, t34, t24, t29, 0, 0, t13 == 1⟩ : Sapi_Instr)).toArray)]) (by kernel_rfl) ?_ rfl
 clear hs; intro a hs
 obtain ⟨ad38, wd39, hx40, hw⟩ := x_alloc1 (P := Try.prog) (elem := 27) (ty := 0) (z := .agg (eSapi_Instr.enc (⟨0, 0, 0, 0, 0, 0, false⟩ : Sapi_Instr)).toArray) hs hw eSapi_Instr (⟨0, 0, 0, 0, 0, 0, false⟩ : Sapi_Instr) (by kernel_rfl) (by kernel_rfl)
 refine go_run hs (op := (Op.alloc 27)) (ty := 0) (dst := some 6) (g := none) (by kernel_rfl) (by kernel_rfl) (by kernel_rfl) hx40 [1, 2, 3, 4, 5, 6, 21] (L' := [(1, .pointer (some ad2)), (2, .pointer (some ad6)), (3, .func (.func 53) #[] #[.pointer (some ad2)]), (4, .bool (t13 == 1)), (5, .bool (t18 == 1)), (6, .pointer (some ad38)), (21, .agg (eSapi_Instr.enc (⟨0, t34, t24, t29, 0, 0, t13 == 1⟩ : Sapi_Instr)).toArray)]) (by kernel_rfl) ?_
 clear hs; intro a hs
 obtain ⟨wd42, hx43, hw⟩ := x_put (P := Try.prog) (ty := 0) (t := 27) (x := (Operand.tmp 6)) (y := (Operand.tmp 21)) (off := 0) (p := ad38) (v := .agg (eSapi_Instr.enc (⟨0, t34, t24, t29, 0, 0, t13 == 1⟩ : Sapi_Instr)).toArray) (vs := (eSapi_Instr.enc (⟨0, t34, t24, t29, 0, 0, t13 == 1⟩ : Sapi_Instr))) (i := 0) (e' := ((⟨0, t34, t24, t29, 0, 0, t13 == 1⟩ : Sapi_Instr) : Sapi_Instr)) hs hw rfl (one_ok (⟨0, 0, 0, 0, 0, 0, false⟩ : Sapi_Instr)).1 (one_ok (⟨0, 0, 0, 0, 0, 0, false⟩ : Sapi_Instr)).2 (by kernel_rfl) (one_at _ _) (by kernel_rfl) rfl (by kernel_rfl) (Nat.le_of_ble_eq_true rfl) (eSapi_Instr.one _) (by kernel_rfl)
 refine go_unit hs (op := (Op.store 27 (Operand.tmp 6) (Operand.tmp 21))) (ty := 0) (dst := none) (g := none) (by kernel_rfl) (by kernel_rfl) (by kernel_rfl) hx43 [1, 2, 3, 4, 5, 6] (L' := [(1, .pointer (some ad2)), (2, .pointer (some ad6)), (3, .func (.func 53) #[] #[.pointer (some ad2)]), (4, .bool (t13 == 1)), (5, .bool (t18 == 1)), (6, .pointer (some ad38))]) (by kernel_rfl) ?_
 clear hs; intro a hs
 replace hw : St [] w0 wd42 [own 27 eSapi_Instr (some ad38) 1 [(⟨0, t34, t24, t29, 0, 0, t13 == 1⟩ : Sapi_Instr)], own 27 eSapi_Instr (some ad6) 1 [(⟨0, 0, 0, 0, 0, 0, false⟩ : Sapi_Instr)], own 22 (eI .u32) (some ad2) 1 [a0]] := hw
 refine go_end (by kernel_rfl) ?_
 refine hK22 _ _ ?_
 refine go_seq_k fun K44 hK44 => ?_
 have hJ2 : ∀ (v125 : Sapi_Instr) (a : Act) (w : World), Slots a 80 [(2, .pointer (some ad6)), (6, .pointer (some ad38))] → St [] w0 w [own 27 eSapi_Instr (some ad38) 1 [v125], own 27 eSapi_Instr (some ad6) 1 [(⟨0, 0, 0, 0, 0, 0, false⟩ : Sapi_Instr)], own 22 (eI .u32) (some ad2) 1 [a0]] → isa_read.j2 v125 = some r → K44 a w := by
  intro v125 a w hs hw H
  unfold isa_read.j2 at H
  refine hK44 _ _ ?_
  refine go_seq_k fun K126 hK126 => ?_
  refine go_region ?_
  refine go_run hs (op := (Op.load 27 (Operand.tmp 6))) (ty := 27) (dst := some 79) (g := none) (by kernel_rfl) (by kernel_rfl) (by kernel_rfl) (x_lds (E := eSapi_Instr) (off := 0) (p := ad38) (cs := (eSapi_Instr.enc v125)) (Rd.of_own (hw.up 0)) (one_ok (⟨0, t34, t24, t29, 0, 0, t13 == 1⟩ : Sapi_Instr)).1 (one_ok (⟨0, t34, t24, t29, 0, 0, t13 == 1⟩ : Sapi_Instr)).2 (by kernel_rfl) (one_at _ _) (by kernel_rfl) (by kernel_rfl) (by kernel_rfl)) [2, 79] (L' := [(2, .pointer (some ad6)), (79, .agg (eSapi_Instr.enc v125).toArray)]) (by kernel_rfl) ?_
  clear hs; intro a hs
  replace hw := hw.up 1
  obtain ⟨wd127, hx128, hw⟩ := x_put (P := Try.prog) (ty := 0) (t := 27) (x := (Operand.tmp 2)) (y := (Operand.tmp 79)) (off := 0) (p := ad6) (v := .agg (eSapi_Instr.enc v125).toArray) (vs := (eSapi_Instr.enc v125)) (i := 0) (e' := ((v125 : Sapi_Instr) : Sapi_Instr)) hs hw rfl (one_ok (⟨0, 0, 0, 0, 0, 0, false⟩ : Sapi_Instr)).1 (one_ok (⟨0, 0, 0, 0, 0, 0, false⟩ : Sapi_Instr)).2 (by kernel_rfl) (one_at _ _) (by kernel_rfl) rfl (by kernel_rfl) (Nat.le_of_ble_eq_true rfl) (eSapi_Instr.one _) (by kernel_rfl)
  refine go_unit hs (op := (Op.store 27 (Operand.tmp 2) (Operand.tmp 79))) (ty := 0) (dst := none) (g := none) (by kernel_rfl) (by kernel_rfl) (by kernel_rfl) hx128 [2] (L' := [(2, .pointer (some ad6))]) (by kernel_rfl) ?_
  clear hs; intro a hs
  replace hw : St [] w0 wd127 [own 27 eSapi_Instr (some ad6) 1 [(v125 : Sapi_Instr)], own 27 eSapi_Instr (some ad38) 1 [v125], own 22 (eI .u32) (some ad2) 1 [a0]] := hw
  refine go_end (by kernel_rfl) ?_
  refine hK126 _ _ ?_
  refine wp_ret ?_
  obtain rfl := Option.some.inj H
  refine ret1g (L := [(2, .pointer (some ad6))]) (r1 := .cell 2 27) (v1 := .agg (eSapi_Instr.enc (v125 : Sapi_Instr)).toArray) hs (by kernel_rfl) ⟨_, (show lk 2 [(2, .pointer (some ad6))] = some (.pointer (some ad6)) by kernel_rfl), lv_row (E := eSapi_Instr) (x := (v125 : Sapi_Instr)) (by kernel_rfl) (by kernel_rfl) (Rd.of_own (hw.up 0))⟩ ?_
  exact ⟨rfl, hw.only 0⟩
 refine go_seq_k fun K45 hK45 => ?_
 refine go_region ?_
 refine go_pvs 0 1 [1, 2, 3, 4, 5, 6, 22] hs (L' := [(1, .pointer (some ad2)), (2, .pointer (some ad6)), (3, .func (.func 53) #[] #[.pointer (some ad2)]), (4, .bool (t13 == 1)), (5, .bool (t18 == 1)), (6, .pointer (some ad38)), (22, .func (.func 53) #[] #[.pointer (some ad2)])]) (by kernel_rfl) ?_ rfl
 clear hs; intro a hs
 obtain ⟨t47, hx48, H⟩ := bind_some H
 refine go_call hs (op := (Op.call { callee := (Callee.value (Operand.tmp 22)), args := #[(Operand.const (Value.int IntKind.i64 30)), (Operand.const (Value.int IntKind.i64 2))], argTypes := #[3, 3] })) (ty := 3) (dst := some 23) (g := none) (by kernel_rfl) (by kernel_rfl) (by kernel_rfl) (f := 53) (args := #[.int .i64 30, .int .i64 2, .pointer (some ad2)]) (by kernel_rfl) (isa_read_1.calls 30 2 ad2 a0 t47 _ (Rd.of_own (hw.up 2)) hx48) ?_
 rintro e wd49 ⟨rfl, hw50⟩
 refine ⟨_, rfl, ?_⟩
 replace hw := hw.call hw50
 intro a hs1
 replace hs : Slots a 80 [(1, .pointer (some ad2)), (2, .pointer (some ad6)), (3, .func (.func 53) #[] #[.pointer (some ad2)]), (4, .bool (t13 == 1)), (5, .bool (t18 == 1)), (6, .pointer (some ad38)), (23, .int .i64 t47)] := hs1.keep [1, 2, 3, 4, 5, 6, 23] (by kernel_rfl)
 clear hs1
 refine go_end (by kernel_rfl) ?_
 refine hK45 _ _ ?_
 refine wp_block ?_
 refine go_seq_k fun K51 hK51 => ?_
 refine go_region ?_
 refine go_pvs 0 2 [1, 2, 3, 4, 5, 6, 23, 36] hs (L' := [(1, .pointer (some ad2)), (2, .pointer (some ad6)), (3, .func (.func 53) #[] #[.pointer (some ad2)]), (4, .bool (t13 == 1)), (5, .bool (t18 == 1)), (6, .pointer (some ad38)), (23, .int .i64 t47), (36, .bool (t47 == 0))]) (by kernel_rfl) ?_ rfl
 clear hs; intro a hs
 refine go_end (by kernel_rfl) ?_
 refine hK51 _ _ ?_
 refine go_cond hs (t47 == 0) (by kernel_rfl) (fun hc => ?_) (fun hc => ?_)
 ·replace H := ite_t H (beq_iff_eq.1 hc)
  have hb52 := hc
  rw [hb52] at hs
  refine go_seq_k fun K53 hK53 => ?_
  refine go_region ?_
  refine go_pvs 0 1 [2, 3, 4, 6, 38] hs (L' := [(2, .pointer (some ad6)), (3, .func (.func 53) #[] #[.pointer (some ad2)]), (4, .bool (t13 == 1)), (6, .pointer (some ad38)), (38, .func (.func 53) #[] #[.pointer (some ad2)])]) (by kernel_rfl) ?_ rfl
  clear hs; intro a hs
  obtain ⟨t55, hx56, H⟩ := bind_some H
  refine go_call hs (op := (Op.call { callee := (Callee.value (Operand.tmp 38)), args := #[(Operand.const (Value.int IntKind.i64 0)), (Operand.const (Value.int IntKind.i64 4))], argTypes := #[3, 3] })) (ty := 3) (dst := some 39) (g := none) (by kernel_rfl) (by kernel_rfl) (by kernel_rfl) (f := 53) (args := #[.int .i64 0, .int .i64 4, .pointer (some ad2)]) (by kernel_rfl) (isa_read_1.calls 0 4 ad2 a0 t55 _ (Rd.of_own (hw.up 2)) hx56) ?_
  rintro e wd57 ⟨rfl, hw58⟩
  refine ⟨_, rfl, ?_⟩
  replace hw := hw.call hw58
  intro a hs1
  replace hs : Slots a 80 [(2, .pointer (some ad6)), (3, .func (.func 53) #[] #[.pointer (some ad2)]), (4, .bool (t13 == 1)), (6, .pointer (some ad38)), (39, .int .i64 t55)] := hs1.keep [2, 3, 4, 6, 39] (by kernel_rfl)
  clear hs1
  refine go_pvs 2 3 [2, 3, 4, 6, 39, 40] hs (L' := [(2, .pointer (some ad6)), (3, .func (.func 53) #[] #[.pointer (some ad2)]), (4, .bool (t13 == 1)), (6, .pointer (some ad38)), (39, .int .i64 t55), (40, .pointer (some ((ad38 : Addr).add 0)))]) (by kernel_rfl) ?_ rfl
  clear hs; intro a hs
  obtain ⟨wd59, hx60, hw⟩ := x_put (P := Try.prog) (ty := 0) (t := 3) (x := (Operand.tmp 40)) (y := (Operand.const (Value.int IntKind.i64 1))) (off := 0) (p := (ad38 : Addr).add 0) (v := .int .i64 1) (vs := [.int .i64 1]) (i := 0) (e' := (({ (⟨0, t34, t24, t29, 0, 0, t13 == 1⟩ : Sapi_Instr) with Kind := 1 } : Sapi_Instr) : Sapi_Instr)) hs hw rfl (one_ok (⟨0, t34, t24, t29, 0, 0, t13 == 1⟩ : Sapi_Instr)).1 (one_ok (⟨0, t34, t24, t29, 0, 0, t13 == 1⟩ : Sapi_Instr)).2 (by kernel_rfl) (one_off _ _ _) (by kernel_rfl) rfl (by kernel_rfl) (Nat.le_of_ble_eq_true rfl) (by simp [Value.oneCell']) (by kernel_rfl)
  refine go_unit hs (op := (Op.store 3 (Operand.tmp 40) (Operand.const (Value.int IntKind.i64 1)))) (ty := 0) (dst := none) (g := none) (by kernel_rfl) (by kernel_rfl) (by kernel_rfl) hx60 [2, 3, 4, 6, 39] (L' := [(2, .pointer (some ad6)), (3, .func (.func 53) #[] #[.pointer (some ad2)]), (4, .bool (t13 == 1)), (6, .pointer (some ad38)), (39, .int .i64 t55)]) (by kernel_rfl) ?_
  clear hs; intro a hs
  replace hw : St [] w0 wd59 [own 27 eSapi_Instr (some ad38) 1 [({ (⟨0, t34, t24, t29, 0, 0, t13 == 1⟩ : Sapi_Instr) with Kind := 1 } : Sapi_Instr)], own 27 eSapi_Instr (some ad6) 1 [(⟨0, 0, 0, 0, 0, 0, false⟩ : Sapi_Instr)], own 22 (eI .u32) (some ad2) 1 [a0]] := hw
  refine go_pvs 4 5 [2, 3, 4, 6, 39, 41] hs (L' := [(2, .pointer (some ad6)), (3, .func (.func 53) #[] #[.pointer (some ad2)]), (4, .bool (t13 == 1)), (6, .pointer (some ad38)), (39, .int .i64 t55), (41, .pointer (some ((ad38 : Addr).add 4)))]) (by kernel_rfl) ?_ rfl
  clear hs; intro a hs
  obtain ⟨wd61, hx62, hw⟩ := x_put (P := Try.prog) (ty := 0) (t := 3) (x := (Operand.tmp 41)) (y := (Operand.tmp 39)) (off := 4) (p := (ad38 : Addr).add 4) (v := .int .i64 t55) (vs := [.int .i64 t55]) (i := 0) (e' := (({ ({ (⟨0, t34, t24, t29, 0, 0, t13 == 1⟩ : Sapi_Instr) with Kind := 1 } : Sapi_Instr) with C := t55 } : Sapi_Instr) : Sapi_Instr)) hs hw rfl (one_ok ({ (⟨0, t34, t24, t29, 0, 0, t13 == 1⟩ : Sapi_Instr) with Kind := 1 } : Sapi_Instr)).1 (one_ok ({ (⟨0, t34, t24, t29, 0, 0, t13 == 1⟩ : Sapi_Instr) with Kind := 1 } : Sapi_Instr)).2 (by kernel_rfl) (one_off _ _ _) (by kernel_rfl) rfl (by kernel_rfl) (Nat.le_of_ble_eq_true rfl) (by simp [Value.oneCell']) (by kernel_rfl)
  refine go_unit hs (op := (Op.store 3 (Operand.tmp 41) (Operand.tmp 39))) (ty := 0) (dst := none) (g := none) (by kernel_rfl) (by kernel_rfl) (by kernel_rfl) hx62 [2, 3, 4, 6] (L' := [(2, .pointer (some ad6)), (3, .func (.func 53) #[] #[.pointer (some ad2)]), (4, .bool (t13 == 1)), (6, .pointer (some ad38))]) (by kernel_rfl) ?_
  clear hs; intro a hs
  replace hw : St [] w0 wd61 [own 27 eSapi_Instr (some ad38) 1 [({ ({ (⟨0, t34, t24, t29, 0, 0, t13 == 1⟩ : Sapi_Instr) with Kind := 1 } : Sapi_Instr) with C := t55 } : Sapi_Instr)], own 27 eSapi_Instr (some ad6) 1 [(⟨0, 0, 0, 0, 0, 0, false⟩ : Sapi_Instr)], own 22 (eI .u32) (some ad2) 1 [a0]] := hw
  refine go_end (by kernel_rfl) ?_
  refine hK53 _ _ ?_
  refine go_seq_k fun K63 hK63 => ?_
  have hJ1 : ∀ (v65 : Bool) (a : Act) (w : World), Slots a 80 [(2, .pointer (some ad6)), (3, .func (.func 53) #[] #[.pointer (some ad2)]), (6, .pointer (some ad38)), (47, .bool v65)] → St [] w0 w [own 27 eSapi_Instr (some ad38) 1 [({ ({ (⟨0, t34, t24, t29, 0, 0, t13 == 1⟩ : Sapi_Instr) with Kind := 1 } : Sapi_Instr) with C := t55 } : Sapi_Instr)], own 27 eSapi_Instr (some ad6) 1 [(⟨0, 0, 0, 0, 0, 0, false⟩ : Sapi_Instr)], own 22 (eI .u32) (some ad2) 1 [a0]] → isa_read.j1 a0 t24 t34 t29 t13 t55 v65 = some r → K63 a w := by
   intro v65 a w hs hw H
   unfold isa_read.j1 at H
   refine hK63 _ _ ?_
   refine go_cond hs v65 (by kernel_rfl) (fun hc => ?_) (fun hc => ?_)
   ·replace H := ite_t H hc
    have hb66 := hc
    rw [hb66] at hs
    refine z_region [0, 1, 2, 3, 4, 5] [6] [] (by kernel_rfl) (by kernel_rfl) (fun c a d v w h => by cases d <;> exact h) ?_
    refine z_pvs [0] [1, 2, 3, 4, 5] [2, 6, 48] hs (L' := [(2, .pointer (some ad6)), (6, .pointer (some ad38)), (48, .func (.func 53) #[] #[.pointer (some ad2)])]) (by kernel_rfl) ?_ (by kernel_rfl)
    clear hs; intro a hs
    obtain ⟨t68, hx69, H⟩ := bind_some H
    refine z_call hs (op := (Op.call { callee := (Callee.value (Operand.tmp 48)), args := #[(Operand.const (Value.int IntKind.i64 28)), (Operand.const (Value.int IntKind.i64 1))], argTypes := #[3, 3] })) (ty := 3) (dst := some 49) (g := none) (by kernel_rfl) (by kernel_rfl) (by kernel_rfl) (f := 53) (args := #[.int .i64 28, .int .i64 1, .pointer (some ad2)]) (v := .int .i64 t68) (by kernel_rfl) (fun wx hbx => (isa_read_1.calls 28 1 ad2 a0 t68 _ ((Rd.of_own (hw.up 2)).below hbx) hx69).mono ?_) [2, 6, 49] (L' := [(2, .pointer (some ad6)), (6, .pointer (some ad38)), (49, .int .i64 t68)]) (by kernel_rfl) ?_
    · rintro e wy ⟨rfl, hwy⟩
      exact ⟨rfl, below_st hbx hwy⟩
    clear hs; intro a hs
    refine z_pvs [2, 3] [4, 5] [2, 6, 50, 51] hs (L' := [(2, .pointer (some ad6)), (6, .pointer (some ad38)), (50, .int .i64 (w64 (3 + t68))), (51, .pointer (some ((ad38 : Addr).add 2)))]) (by kernel_rfl) ?_ (by kernel_rfl)
    clear hs; intro a hs
    refine z_run hs (op := (Op.load 3 (Operand.tmp 51))) (ty := 3) (dst := some 52) (g := none) (by kernel_rfl) (by kernel_rfl) (by kernel_rfl) (fun wx hbx => (x_ld (E := eSapi_Instr) (off := 2) (p := (ad38 : Addr).add 2) (v := .int .i64 t24) ((Rd.of_own (hw.up 0)).below hbx) (one_ok ({ ({ (⟨0, t34, t24, t29, 0, 0, t13 == 1⟩ : Sapi_Instr) with Kind := 1 } : Sapi_Instr) with C := t55 } : Sapi_Instr)).1 (one_ok ({ ({ (⟨0, t34, t24, t29, 0, 0, t13 == 1⟩ : Sapi_Instr) with Kind := 1 } : Sapi_Instr) with C := t55 } : Sapi_Instr)).2 (by kernel_rfl) (one_off _ _ _) (by kernel_rfl) (by kernel_rfl))) [2, 6, 50, 52] (L' := [(2, .pointer (some ad6)), (6, .pointer (some ad38)), (50, .int .i64 (w64 (3 + t68))), (52, .int .i64 t24)]) (by kernel_rfl) ?_
    clear hs; intro a hs
    refine z_pvs [5] [] [2, 6, 53] hs (L' := [(2, .pointer (some ad6)), (6, .pointer (some ad38)), (53, .agg (eSapi_Instr.enc (⟨w64 (3 + t68), 0, t24, 0, 0, 0, false⟩ : Sapi_Instr)).toArray)]) (by kernel_rfl) ?_ (by kernel_rfl)
    clear hs; intro a hs
    refine z_end ?_
    intro wq hbq
    replace hw := hw.behind hbq
    obtain ⟨wd70, hx71, hw⟩ := x_put (P := Try.prog) (ty := 0) (t := 27) (x := (Operand.tmp 6)) (y := (Operand.tmp 53)) (off := 0) (p := ad38) (v := .agg (eSapi_Instr.enc (⟨w64 (3 + t68), 0, t24, 0, 0, 0, false⟩ : Sapi_Instr)).toArray) (vs := (eSapi_Instr.enc (⟨w64 (3 + t68), 0, t24, 0, 0, 0, false⟩ : Sapi_Instr))) (i := 0) (e' := ((⟨w64 (3 + t68), 0, t24, 0, 0, 0, false⟩ : Sapi_Instr) : Sapi_Instr)) hs hw rfl (one_ok ({ ({ (⟨0, t34, t24, t29, 0, 0, t13 == 1⟩ : Sapi_Instr) with Kind := 1 } : Sapi_Instr) with C := t55 } : Sapi_Instr)).1 (one_ok ({ ({ (⟨0, t34, t24, t29, 0, 0, t13 == 1⟩ : Sapi_Instr) with Kind := 1 } : Sapi_Instr) with C := t55 } : Sapi_Instr)).2 (by kernel_rfl) (one_at _ _) (by kernel_rfl) rfl (by kernel_rfl) (Nat.le_of_ble_eq_true rfl) (eSapi_Instr.one _) (by kernel_rfl)
    refine p_unit hs (op := (Op.store 27 (Operand.tmp 6) (Operand.tmp 53))) (ty := 0) (dst := none) (g := none) (by kernel_rfl) (by kernel_rfl) (by kernel_rfl) hx71 [2, 6] (L' := [(2, .pointer (some ad6)), (6, .pointer (some ad38))]) (by kernel_rfl) ?_
    clear hs; intro a hs
    replace hw : St [] w0 wd70 [own 27 eSapi_Instr (some ad38) 1 [(⟨w64 (3 + t68), 0, t24, 0, 0, 0, false⟩ : Sapi_Instr)], own 27 eSapi_Instr (some ad6) 1 [(⟨0, 0, 0, 0, 0, 0, false⟩ : Sapi_Instr)], own 22 (eI .u32) (some ad2) 1 [a0]] := hw
    refine p_last ?_
    refine e_end ?_
    refine ib_norm ?_
    replace hw := hw.up 2
    replace hw := hw.up 2
    replace hw := hw.up 2
    replace hw := hw.only 3
    exact hJ2 (⟨w64 (3 + t68), 0, t24, 0, 0, 0, false⟩ : Sapi_Instr) _ _ (hs.keep [2, 6] (by kernel_rfl)) hw H
   ·replace H := ite_f H (ff hc)
    have hb72 := hc
    rw [hb72] at hs
    refine wp_skip ?_
    refine ib_norm ?_
    replace hw := hw.up 2
    replace hw := hw.up 2
    replace hw := hw.up 2
    replace hw := hw.only 3
    exact hJ2 ({ ({ (⟨0, t34, t24, t29, 0, 0, t13 == 1⟩ : Sapi_Instr) with Kind := 1 } : Sapi_Instr) with C := t55 } : Sapi_Instr) _ _ (hs.keep [2, 6] (by kernel_rfl)) hw H
  refine go_region ?_
  refine go_pvs 0 2 [2, 3, 6, 43] hs (L' := [(2, .pointer (some ad6)), (3, .func (.func 53) #[] #[.pointer (some ad2)]), (6, .pointer (some ad38)), (43, .bool (t13 == 1))]) (by kernel_rfl) ?_ rfl
  clear hs; intro a hs
  cases hb64 : (t13 == 1)
  ·replace H := ite_f H (beq_eq_false_iff_ne.1 hb64)
   rw [hb64] at hs
   refine go_pvs 2 6 [2, 3, 6, 47] hs (L' := [(2, .pointer (some ad6)), (3, .func (.func 53) #[] #[.pointer (some ad2)]), (6, .pointer (some ad38)), (47, .bool false)]) (by kernel_rfl) ?_ rfl
   clear hs; intro a hs
   refine go_end (by kernel_rfl) ?_
   replace hw := hw.up 2
   replace hw := hw.up 2
   replace hw := hw.up 2
   replace hw := hw.only 3
   exact hJ1 false _ _ (hs.keep [2, 3, 6, 47] (by kernel_rfl)) hw H
  ·replace H := ite_t H (beq_iff_eq.1 hb64)
   rw [hb64] at hs
   refine go_pvs 2 3 [2, 3, 6, 43, 44] hs (L' := [(2, .pointer (some ad6)), (3, .func (.func 53) #[] #[.pointer (some ad2)]), (6, .pointer (some ad38)), (43, .bool true), (44, .pointer (some ((ad38 : Addr).add 1)))]) (by kernel_rfl) ?_ rfl
   clear hs; intro a hs
   refine go_run hs (op := (Op.load 3 (Operand.tmp 44))) (ty := 3) (dst := some 45) (g := some (1, true)) (by kernel_rfl) (by kernel_rfl) (by kernel_rfl) (x_ld (E := eSapi_Instr) (off := 1) (p := (ad38 : Addr).add 1) (v := .int .i64 t34) (Rd.of_own (hw.up 0)) (one_ok ({ ({ (⟨0, t34, t24, t29, 0, 0, t13 == 1⟩ : Sapi_Instr) with Kind := 1 } : Sapi_Instr) with C := t55 } : Sapi_Instr)).1 (one_ok ({ ({ (⟨0, t34, t24, t29, 0, 0, t13 == 1⟩ : Sapi_Instr) with Kind := 1 } : Sapi_Instr) with C := t55 } : Sapi_Instr)).2 (by kernel_rfl) (one_off _ _ _) (by kernel_rfl) (by kernel_rfl)) [2, 3, 6, 43, 45] (L' := [(2, .pointer (some ad6)), (3, .func (.func 53) #[] #[.pointer (some ad2)]), (6, .pointer (some ad38)), (43, .bool true), (45, .int .i64 t34)]) (by kernel_rfl) ?_
   clear hs; intro a hs
   refine go_pvs 4 6 [2, 3, 6, 47] hs (L' := [(2, .pointer (some ad6)), (3, .func (.func 53) #[] #[.pointer (some ad2)]), (6, .pointer (some ad38)), (47, .bool (t34 == 0))]) (by kernel_rfl) ?_ rfl
   clear hs; intro a hs
   refine go_end (by kernel_rfl) ?_
   replace hw := hw.up 2
   replace hw := hw.up 2
   replace hw := hw.up 2
   replace hw := hw.only 3
   exact hJ1 (t34 == 0) _ _ (hs.keep [2, 3, 6, 47] (by kernel_rfl)) hw H
 ·replace H := ite_f H (beq_eq_false_iff_ne.1 hc)
  have hb73 := hc
  rw [hb73] at hs
  refine go_seq_k fun K74 hK74 => ?_
  refine go_region ?_
  refine go_pvs 0 2 [1, 2, 3, 4, 5, 6, 23, 54] hs (L' := [(1, .pointer (some ad2)), (2, .pointer (some ad6)), (3, .func (.func 53) #[] #[.pointer (some ad2)]), (4, .bool (t13 == 1)), (5, .bool (t18 == 1)), (6, .pointer (some ad38)), (23, .int .i64 t47), (54, .bool (t47 == 1))]) (by kernel_rfl) ?_ rfl
  clear hs; intro a hs
  refine go_end (by kernel_rfl) ?_
  refine hK74 _ _ ?_
  refine go_cond hs (t47 == 1) (by kernel_rfl) (fun hc => ?_) (fun hc => ?_)
  ·replace H := ite_t H (beq_iff_eq.1 hc)
   have hb75 := hc
   rw [hb75] at hs
   refine go_region ?_
   refine go_pvs 0 1 [2, 3, 6, 56] hs (L' := [(2, .pointer (some ad6)), (3, .func (.func 53) #[] #[.pointer (some ad2)]), (6, .pointer (some ad38)), (56, .func (.func 53) #[] #[.pointer (some ad2)])]) (by kernel_rfl) ?_ rfl
   clear hs; intro a hs
   obtain ⟨t77, hx78, H⟩ := bind_some H
   refine go_call hs (op := (Op.call { callee := (Callee.value (Operand.tmp 56)), args := #[(Operand.const (Value.int IntKind.i64 0)), (Operand.const (Value.int IntKind.i64 16))], argTypes := #[3, 3] })) (ty := 3) (dst := some 57) (g := none) (by kernel_rfl) (by kernel_rfl) (by kernel_rfl) (f := 53) (args := #[.int .i64 0, .int .i64 16, .pointer (some ad2)]) (by kernel_rfl) (isa_read_1.calls 0 16 ad2 a0 t77 _ (Rd.of_own (hw.up 2)) hx78) ?_
   rintro e wd79 ⟨rfl, hw80⟩
   refine ⟨_, rfl, ?_⟩
   replace hw := hw.call hw80
   intro a hs1
   replace hs : Slots a 80 [(2, .pointer (some ad6)), (3, .func (.func 53) #[] #[.pointer (some ad2)]), (6, .pointer (some ad38)), (57, .int .i64 t77)] := hs1.keep [2, 3, 6, 57] (by kernel_rfl)
   clear hs1
   refine go_pvs 2 3 [2, 6, 57, 58] hs (L' := [(2, .pointer (some ad6)), (6, .pointer (some ad38)), (57, .int .i64 t77), (58, .func (.func 53) #[] #[.pointer (some ad2)])]) (by kernel_rfl) ?_ rfl
   clear hs; intro a hs
   obtain ⟨t82, hx83, H⟩ := bind_some H
   refine go_call hs (op := (Op.call { callee := (Callee.value (Operand.tmp 58)), args := #[(Operand.const (Value.int IntKind.i64 28)), (Operand.const (Value.int IntKind.i64 1))], argTypes := #[3, 3] })) (ty := 3) (dst := some 59) (g := none) (by kernel_rfl) (by kernel_rfl) (by kernel_rfl) (f := 53) (args := #[.int .i64 28, .int .i64 1, .pointer (some ad2)]) (by kernel_rfl) (isa_read_1.calls 28 1 ad2 a0 t82 _ (Rd.of_own (hw.up 2)) hx83) ?_
   rintro e wd84 ⟨rfl, hw85⟩
   refine ⟨_, rfl, ?_⟩
   replace hw := hw.call hw85
   intro a hs1
   replace hs : Slots a 80 [(2, .pointer (some ad6)), (6, .pointer (some ad38)), (57, .int .i64 t77), (59, .int .i64 t82)] := hs1.keep [2, 6, 57, 59] (by kernel_rfl)
   clear hs1
   refine go_pvs 4 7 [2, 6, 61, 62] hs (L' := [(2, .pointer (some ad6)), (6, .pointer (some ad38)), (61, .int .i64 (w64 (t77 - (w64 (t82 * 2 ^ 16))))), (62, .pointer (some ((ad38 : Addr).add 0)))]) (by kernel_rfl) ?_ rfl
   clear hs; intro a hs
   obtain ⟨wd86, hx87, hw⟩ := x_put (P := Try.prog) (ty := 0) (t := 3) (x := (Operand.tmp 62)) (y := (Operand.const (Value.int IntKind.i64 2))) (off := 0) (p := (ad38 : Addr).add 0) (v := .int .i64 2) (vs := [.int .i64 2]) (i := 0) (e' := (({ (⟨0, t34, t24, t29, 0, 0, t13 == 1⟩ : Sapi_Instr) with Kind := 2 } : Sapi_Instr) : Sapi_Instr)) hs hw rfl (one_ok (⟨0, t34, t24, t29, 0, 0, t13 == 1⟩ : Sapi_Instr)).1 (one_ok (⟨0, t34, t24, t29, 0, 0, t13 == 1⟩ : Sapi_Instr)).2 (by kernel_rfl) (one_off _ _ _) (by kernel_rfl) rfl (by kernel_rfl) (Nat.le_of_ble_eq_true rfl) (by simp [Value.oneCell']) (by kernel_rfl)
   refine go_unit hs (op := (Op.store 3 (Operand.tmp 62) (Operand.const (Value.int IntKind.i64 2)))) (ty := 0) (dst := none) (g := none) (by kernel_rfl) (by kernel_rfl) (by kernel_rfl) hx87 [2, 6, 61] (L' := [(2, .pointer (some ad6)), (6, .pointer (some ad38)), (61, .int .i64 (w64 (t77 - (w64 (t82 * 2 ^ 16)))))]) (by kernel_rfl) ?_
   clear hs; intro a hs
   replace hw : St [] w0 wd86 [own 27 eSapi_Instr (some ad38) 1 [({ (⟨0, t34, t24, t29, 0, 0, t13 == 1⟩ : Sapi_Instr) with Kind := 2 } : Sapi_Instr)], own 27 eSapi_Instr (some ad6) 1 [(⟨0, 0, 0, 0, 0, 0, false⟩ : Sapi_Instr)], own 22 (eI .u32) (some ad2) 1 [a0]] := hw
   refine go_pvs 8 9 [2, 6, 61, 63] hs (L' := [(2, .pointer (some ad6)), (6, .pointer (some ad38)), (61, .int .i64 (w64 (t77 - (w64 (t82 * 2 ^ 16))))), (63, .pointer (some ((ad38 : Addr).add 5)))]) (by kernel_rfl) ?_ rfl
   clear hs; intro a hs
   obtain ⟨wd88, hx89, hw⟩ := x_put (P := Try.prog) (ty := 0) (t := 3) (x := (Operand.tmp 63)) (y := (Operand.tmp 61)) (off := 5) (p := (ad38 : Addr).add 5) (v := .int .i64 (w64 (t77 - (w64 (t82 * 2 ^ 16))))) (vs := [.int .i64 (w64 (t77 - (w64 (t82 * 2 ^ 16))))]) (i := 0) (e' := (({ ({ (⟨0, t34, t24, t29, 0, 0, t13 == 1⟩ : Sapi_Instr) with Kind := 2 } : Sapi_Instr) with Imm := w64 (t77 - (w64 (t82 * 2 ^ 16))) } : Sapi_Instr) : Sapi_Instr)) hs hw rfl (one_ok ({ (⟨0, t34, t24, t29, 0, 0, t13 == 1⟩ : Sapi_Instr) with Kind := 2 } : Sapi_Instr)).1 (one_ok ({ (⟨0, t34, t24, t29, 0, 0, t13 == 1⟩ : Sapi_Instr) with Kind := 2 } : Sapi_Instr)).2 (by kernel_rfl) (one_off _ _ _) (by kernel_rfl) rfl (by kernel_rfl) (Nat.le_of_ble_eq_true rfl) (by simp [Value.oneCell']) (by kernel_rfl)
   refine go_unit hs (op := (Op.store 3 (Operand.tmp 63) (Operand.tmp 61))) (ty := 0) (dst := none) (g := none) (by kernel_rfl) (by kernel_rfl) (by kernel_rfl) hx89 [2, 6] (L' := [(2, .pointer (some ad6)), (6, .pointer (some ad38))]) (by kernel_rfl) ?_
   clear hs; intro a hs
   replace hw : St [] w0 wd88 [own 27 eSapi_Instr (some ad38) 1 [({ ({ (⟨0, t34, t24, t29, 0, 0, t13 == 1⟩ : Sapi_Instr) with Kind := 2 } : Sapi_Instr) with Imm := w64 (t77 - (w64 (t82 * 2 ^ 16))) } : Sapi_Instr)], own 27 eSapi_Instr (some ad6) 1 [(⟨0, 0, 0, 0, 0, 0, false⟩ : Sapi_Instr)], own 22 (eI .u32) (some ad2) 1 [a0]] := hw
   refine go_end (by kernel_rfl) ?_
   refine ib_norm ?_
   replace hw := hw.up 2
   replace hw := hw.up 2
   replace hw := hw.up 2
   replace hw := hw.only 3
   exact hJ2 ({ ({ (⟨0, t34, t24, t29, 0, 0, t13 == 1⟩ : Sapi_Instr) with Kind := 2 } : Sapi_Instr) with Imm := w64 (t77 - (w64 (t82 * 2 ^ 16))) } : Sapi_Instr) _ _ (hs.keep [2, 6] (by kernel_rfl)) hw H
  ·replace H := ite_f H (beq_eq_false_iff_ne.1 hc)
   have hb90 := hc
   rw [hb90] at hs
   refine go_seq_k fun K91 hK91 => ?_
   refine go_region ?_
   refine go_pvs 0 2 [1, 2, 3, 4, 5, 6, 64] hs (L' := [(1, .pointer (some ad2)), (2, .pointer (some ad6)), (3, .func (.func 53) #[] #[.pointer (some ad2)]), (4, .bool (t13 == 1)), (5, .bool (t18 == 1)), (6, .pointer (some ad38)), (64, .bool (t47 == 2))]) (by kernel_rfl) ?_ rfl
   clear hs; intro a hs
   refine go_end (by kernel_rfl) ?_
   refine hK91 _ _ ?_
   refine go_cond hs (t47 == 2) (by kernel_rfl) (fun hc => ?_) (fun hc => ?_)
   ·replace H := ite_t H (beq_iff_eq.1 hc)
    have hb92 := hc
    rw [hb92] at hs
    refine z_region [0, 1, 2, 3, 4, 5, 6, 7, 8, 9, 10, 11, 12] [13] [] (by kernel_rfl) (by kernel_rfl) (fun c a d v w h => by cases d <;> exact h) ?_
    refine z_pvs [0] [1, 2, 3, 4, 5, 6, 7, 8, 9, 10, 11, 12] [1, 2, 3, 6, 66] hs (L' := [(1, .pointer (some ad2)), (2, .pointer (some ad6)), (3, .func (.func 53) #[] #[.pointer (some ad2)]), (6, .pointer (some ad38)), (66, .func (.func 53) #[] #[.pointer (some ad2)])]) (by kernel_rfl) ?_ (by kernel_rfl)
    clear hs; intro a hs
    obtain ⟨t94, hx95, H⟩ := bind_some H
    refine z_call hs (op := (Op.call { callee := (Callee.value (Operand.tmp 66)), args := #[(Operand.const (Value.int IntKind.i64 29)), (Operand.const (Value.int IntKind.i64 1))], argTypes := #[3, 3] })) (ty := 3) (dst := some 67) (g := none) (by kernel_rfl) (by kernel_rfl) (by kernel_rfl) (f := 53) (args := #[.int .i64 29, .int .i64 1, .pointer (some ad2)]) (v := .int .i64 t94) (by kernel_rfl) (fun wx hbx => (isa_read_1.calls 29 1 ad2 a0 t94 _ ((Rd.of_own (hw.up 2)).below hbx) hx95).mono ?_) [1, 2, 3, 6, 67] (L' := [(1, .pointer (some ad2)), (2, .pointer (some ad6)), (3, .func (.func 53) #[] #[.pointer (some ad2)]), (6, .pointer (some ad38)), (67, .int .i64 t94)]) (by kernel_rfl) ?_
    · rintro e wy ⟨rfl, hwy⟩
      exact ⟨rfl, below_st hbx hwy⟩
    clear hs; intro a hs
    refine z_pvs [2, 3] [4, 5, 6, 7, 8, 9, 10, 11, 12] [1, 2, 6, 68, 69] hs (L' := [(1, .pointer (some ad2)), (2, .pointer (some ad6)), (6, .pointer (some ad38)), (68, .int .i64 (w64 (t94 * 2))), (69, .func (.func 53) #[] #[.pointer (some ad2)])]) (by kernel_rfl) ?_ (by kernel_rfl)
    clear hs; intro a hs
    obtain ⟨t97, hx98, H⟩ := bind_some H
    refine z_call hs (op := (Op.call { callee := (Callee.value (Operand.tmp 69)), args := #[(Operand.const (Value.int IntKind.i64 28)), (Operand.const (Value.int IntKind.i64 1))], argTypes := #[3, 3] })) (ty := 3) (dst := some 70) (g := none) (by kernel_rfl) (by kernel_rfl) (by kernel_rfl) (f := 53) (args := #[.int .i64 28, .int .i64 1, .pointer (some ad2)]) (v := .int .i64 t97) (by kernel_rfl) (fun wx hbx => (isa_read_1.calls 28 1 ad2 a0 t97 _ ((Rd.of_own (hw.up 2)).below hbx) hx98).mono ?_) [1, 2, 6, 68, 70] (L' := [(1, .pointer (some ad2)), (2, .pointer (some ad6)), (6, .pointer (some ad38)), (68, .int .i64 (w64 (t94 * 2))), (70, .int .i64 t97)]) (by kernel_rfl) ?_
    · rintro e wy ⟨rfl, hwy⟩
      exact ⟨rfl, below_st hbx hwy⟩
    clear hs; intro a hs
    refine z_pvs [5, 6] [7, 8, 9, 10, 11, 12] [1, 2, 6, 71, 72] hs (L' := [(1, .pointer (some ad2)), (2, .pointer (some ad6)), (6, .pointer (some ad38)), (71, .int .i64 (w64 ((w64 (t94 * 2)) + t97))), (72, .pointer (some ((ad38 : Addr).add 2)))]) (by kernel_rfl) ?_ (by kernel_rfl)
    clear hs; intro a hs
    refine z_run hs (op := (Op.load 3 (Operand.tmp 72))) (ty := 3) (dst := some 73) (g := none) (by kernel_rfl) (by kernel_rfl) (by kernel_rfl) (fun wx hbx => (x_ld (E := eSapi_Instr) (off := 2) (p := (ad38 : Addr).add 2) (v := .int .i64 t24) ((Rd.of_own (hw.up 0)).below hbx) (one_ok (⟨0, t34, t24, t29, 0, 0, t13 == 1⟩ : Sapi_Instr)).1 (one_ok (⟨0, t34, t24, t29, 0, 0, t13 == 1⟩ : Sapi_Instr)).2 (by kernel_rfl) (one_off _ _ _) (by kernel_rfl) (by kernel_rfl))) [1, 2, 6, 71, 73] (L' := [(1, .pointer (some ad2)), (2, .pointer (some ad6)), (6, .pointer (some ad38)), (71, .int .i64 (w64 ((w64 (t94 * 2)) + t97))), (73, .int .i64 t24)]) (by kernel_rfl) ?_
    clear hs; intro a hs
    refine z_pvs [8] [9, 10, 11, 12] [1, 2, 6, 71, 73, 74] hs (L' := [(1, .pointer (some ad2)), (2, .pointer (some ad6)), (6, .pointer (some ad38)), (71, .int .i64 (w64 ((w64 (t94 * 2)) + t97))), (73, .int .i64 t24), (74, .pointer (some ((ad38 : Addr).add 3)))]) (by kernel_rfl) ?_ (by kernel_rfl)
    clear hs; intro a hs
    refine z_run hs (op := (Op.load 3 (Operand.tmp 74))) (ty := 3) (dst := some 75) (g := none) (by kernel_rfl) (by kernel_rfl) (by kernel_rfl) (fun wx hbx => (x_ld (E := eSapi_Instr) (off := 3) (p := (ad38 : Addr).add 3) (v := .int .i64 t29) ((Rd.of_own (hw.up 0)).below hbx) (one_ok (⟨0, t34, t24, t29, 0, 0, t13 == 1⟩ : Sapi_Instr)).1 (one_ok (⟨0, t34, t24, t29, 0, 0, t13 == 1⟩ : Sapi_Instr)).2 (by kernel_rfl) (one_off _ _ _) (by kernel_rfl) (by kernel_rfl))) [1, 2, 6, 71, 73, 75] (L' := [(1, .pointer (some ad2)), (2, .pointer (some ad6)), (6, .pointer (some ad38)), (71, .int .i64 (w64 ((w64 (t94 * 2)) + t97))), (73, .int .i64 t24), (75, .int .i64 t29)]) (by kernel_rfl) ?_
    clear hs; intro a hs
    refine z_run hs (op := (Op.load 22 (Operand.tmp 1))) (ty := 22) (dst := some 76) (g := none) (by kernel_rfl) (by kernel_rfl) (by kernel_rfl) (fun wx hbx => (x_ld (E := (eI .u32)) (off := 0) (p := ad2) (v := .int .u32 a0) ((Rd.of_own (hw.up 2)).below hbx) (one_ok a0).1 (one_ok a0).2 (by kernel_rfl) (one_at _ _) (by kernel_rfl) (by kernel_rfl))) [2, 6, 71, 73, 75, 76] (L' := [(2, .pointer (some ad6)), (6, .pointer (some ad38)), (71, .int .i64 (w64 ((w64 (t94 * 2)) + t97))), (73, .int .i64 t24), (75, .int .i64 t29), (76, .int .u32 a0)]) (by kernel_rfl) ?_
    clear hs; intro a hs
    obtain ⟨t100, hx101, H⟩ := bind_some H
    refine z_call hs (op := (Op.call { callee := (Callee.value (Operand.func 55)), args := #[(Operand.tmp 76), (Operand.const (Value.int IntKind.i64 20))], argTypes := #[22, 3] })) (ty := 3) (dst := some 77) (g := none) (by kernel_rfl) (by kernel_rfl) (by kernel_rfl) (f := 55) (args := #[.int .u32 a0, .int .i64 20]) (v := .int .i64 t100) (by kernel_rfl) (fun wx hbx => (field_Signed.calls a0 20 t100 _ hx101).mono ?_) [2, 6, 71, 73, 75, 77] (L' := [(2, .pointer (some ad6)), (6, .pointer (some ad38)), (71, .int .i64 (w64 ((w64 (t94 * 2)) + t97))), (73, .int .i64 t24), (75, .int .i64 t29), (77, .int .i64 t100)]) (by kernel_rfl) ?_
    · rintro e wy ⟨rfl, hwy⟩
      exact ⟨rfl, below_st hbx hwy⟩
    clear hs; intro a hs
    refine z_pvs [12] [] [2, 6, 78] hs (L' := [(2, .pointer (some ad6)), (6, .pointer (some ad38)), (78, .agg (eSapi_Instr.enc (⟨5, w64 ((w64 (t94 * 2)) + t97), t24, t29, 0, t100, false⟩ : Sapi_Instr)).toArray)]) (by kernel_rfl) ?_ (by kernel_rfl)
    clear hs; intro a hs
    refine z_end ?_
    intro wq hbq
    replace hw := hw.behind hbq
    obtain ⟨wd102, hx103, hw⟩ := x_put (P := Try.prog) (ty := 0) (t := 27) (x := (Operand.tmp 6)) (y := (Operand.tmp 78)) (off := 0) (p := ad38) (v := .agg (eSapi_Instr.enc (⟨5, w64 ((w64 (t94 * 2)) + t97), t24, t29, 0, t100, false⟩ : Sapi_Instr)).toArray) (vs := (eSapi_Instr.enc (⟨5, w64 ((w64 (t94 * 2)) + t97), t24, t29, 0, t100, false⟩ : Sapi_Instr))) (i := 0) (e' := ((⟨5, w64 ((w64 (t94 * 2)) + t97), t24, t29, 0, t100, false⟩ : Sapi_Instr) : Sapi_Instr)) hs hw rfl (one_ok (⟨0, t34, t24, t29, 0, 0, t13 == 1⟩ : Sapi_Instr)).1 (one_ok (⟨0, t34, t24, t29, 0, 0, t13 == 1⟩ : Sapi_Instr)).2 (by kernel_rfl) (one_at _ _) (by kernel_rfl) rfl (by kernel_rfl) (Nat.le_of_ble_eq_true rfl) (eSapi_Instr.one _) (by kernel_rfl)
    refine p_unit hs (op := (Op.store 27 (Operand.tmp 6) (Operand.tmp 78))) (ty := 0) (dst := none) (g := none) (by kernel_rfl) (by kernel_rfl) (by kernel_rfl) hx103 [2, 6] (L' := [(2, .pointer (some ad6)), (6, .pointer (some ad38))]) (by kernel_rfl) ?_
    clear hs; intro a hs
    replace hw : St [] w0 wd102 [own 27 eSapi_Instr (some ad38) 1 [(⟨5, w64 ((w64 (t94 * 2)) + t97), t24, t29, 0, t100, false⟩ : Sapi_Instr)], own 27 eSapi_Instr (some ad6) 1 [(⟨0, 0, 0, 0, 0, 0, false⟩ : Sapi_Instr)], own 22 (eI .u32) (some ad2) 1 [a0]] := hw
    refine p_last ?_
    refine e_end ?_
    refine ib_norm ?_
    replace hw := hw.up 2
    replace hw := hw.up 2
    replace hw := hw.up 2
    replace hw := hw.only 3
    exact hJ2 (⟨5, w64 ((w64 (t94 * 2)) + t97), t24, t29, 0, t100, false⟩ : Sapi_Instr) _ _ (hs.keep [2, 6] (by kernel_rfl)) hw H
   ·replace H := ite_f H (beq_eq_false_iff_ne.1 hc)
    have hb104 := hc
    rw [hb104] at hs
    refine go_seq_k fun K105 hK105 => ?_
    refine z_region [0, 1, 2, 3, 4, 5] [6] [] (by kernel_rfl) (by kernel_rfl) (fun c a d v w h => by cases d <;> exact h) ?_
    refine z_pvs [0] [1, 2, 3, 4, 5] [1, 2, 3, 4, 5, 6, 24] hs (L' := [(1, .pointer (some ad2)), (2, .pointer (some ad6)), (3, .func (.func 53) #[] #[.pointer (some ad2)]), (4, .bool (t13 == 1)), (5, .bool (t18 == 1)), (6, .pointer (some ad38)), (24, .pointer (some ((ad38 : Addr).add 2)))]) (by kernel_rfl) ?_ (by kernel_rfl)
    clear hs; intro a hs
    refine z_run hs (op := (Op.load 3 (Operand.tmp 24))) (ty := 3) (dst := some 25) (g := none) (by kernel_rfl) (by kernel_rfl) (by kernel_rfl) (fun wx hbx => (x_ld (E := eSapi_Instr) (off := 2) (p := (ad38 : Addr).add 2) (v := .int .i64 t24) ((Rd.of_own (hw.up 0)).below hbx) (one_ok (⟨0, t34, t24, t29, 0, 0, t13 == 1⟩ : Sapi_Instr)).1 (one_ok (⟨0, t34, t24, t29, 0, 0, t13 == 1⟩ : Sapi_Instr)).2 (by kernel_rfl) (one_off _ _ _) (by kernel_rfl) (by kernel_rfl))) [1, 2, 3, 4, 5, 6, 25] (L' := [(1, .pointer (some ad2)), (2, .pointer (some ad6)), (3, .func (.func 53) #[] #[.pointer (some ad2)]), (4, .bool (t13 == 1)), (5, .bool (t18 == 1)), (6, .pointer (some ad38)), (25, .int .i64 t24)]) (by kernel_rfl) ?_
    clear hs; intro a hs
    refine z_pvs [2, 3] [4, 5] [1, 2, 4, 6, 25, 26, 27] hs (L' := [(1, .pointer (some ad2)), (2, .pointer (some ad6)), (4, .bool (t13 == 1)), (6, .pointer (some ad38)), (25, .int .i64 t24), (26, .bool (t18 == 1)), (27, .func (.func 53) #[] #[.pointer (some ad2)])]) (by kernel_rfl) ?_ (by kernel_rfl)
    clear hs; intro a hs
    obtain ⟨t107, hx108, H⟩ := bind_some H
    refine z_call hs (op := (Op.call { callee := (Callee.value (Operand.tmp 27)), args := #[(Operand.const (Value.int IntKind.i64 0)), (Operand.const (Value.int IntKind.i64 4))], argTypes := #[3, 3] })) (ty := 3) (dst := some 28) (g := none) (by kernel_rfl) (by kernel_rfl) (by kernel_rfl) (f := 53) (args := #[.int .i64 0, .int .i64 4, .pointer (some ad2)]) (v := .int .i64 t107) (by kernel_rfl) (fun wx hbx => (isa_read_1.calls 0 4 ad2 a0 t107 _ ((Rd.of_own (hw.up 2)).below hbx) hx108).mono ?_) [1, 2, 4, 6, 25, 26, 28] (L' := [(1, .pointer (some ad2)), (2, .pointer (some ad6)), (4, .bool (t13 == 1)), (6, .pointer (some ad38)), (25, .int .i64 t24), (26, .bool (t18 == 1)), (28, .int .i64 t107)]) (by kernel_rfl) ?_
    · rintro e wy ⟨rfl, hwy⟩
      exact ⟨rfl, below_st hbx hwy⟩
    clear hs; intro a hs
    refine z_pvs [5] [] [1, 2, 4, 6, 29] hs (L' := [(1, .pointer (some ad2)), (2, .pointer (some ad6)), (4, .bool (t13 == 1)), (6, .pointer (some ad38)), (29, .agg (eSapi_Instr.enc (⟨6, t24, 0, 0, t107, 0, t18 == 1⟩ : Sapi_Instr)).toArray)]) (by kernel_rfl) ?_ (by kernel_rfl)
    clear hs; intro a hs
    refine z_end ?_
    intro wq hbq
    replace hw := hw.behind hbq
    obtain ⟨wd109, hx110, hw⟩ := x_put (P := Try.prog) (ty := 0) (t := 27) (x := (Operand.tmp 6)) (y := (Operand.tmp 29)) (off := 0) (p := ad38) (v := .agg (eSapi_Instr.enc (⟨6, t24, 0, 0, t107, 0, t18 == 1⟩ : Sapi_Instr)).toArray) (vs := (eSapi_Instr.enc (⟨6, t24, 0, 0, t107, 0, t18 == 1⟩ : Sapi_Instr))) (i := 0) (e' := ((⟨6, t24, 0, 0, t107, 0, t18 == 1⟩ : Sapi_Instr) : Sapi_Instr)) hs hw rfl (one_ok (⟨0, t34, t24, t29, 0, 0, t13 == 1⟩ : Sapi_Instr)).1 (one_ok (⟨0, t34, t24, t29, 0, 0, t13 == 1⟩ : Sapi_Instr)).2 (by kernel_rfl) (one_at _ _) (by kernel_rfl) rfl (by kernel_rfl) (Nat.le_of_ble_eq_true rfl) (eSapi_Instr.one _) (by kernel_rfl)
    refine p_unit hs (op := (Op.store 27 (Operand.tmp 6) (Operand.tmp 29))) (ty := 0) (dst := none) (g := none) (by kernel_rfl) (by kernel_rfl) (by kernel_rfl) hx110 [1, 2, 4, 6] (L' := [(1, .pointer (some ad2)), (2, .pointer (some ad6)), (4, .bool (t13 == 1)), (6, .pointer (some ad38))]) (by kernel_rfl) ?_
    clear hs; intro a hs
    replace hw : St [] w0 wd109 [own 27 eSapi_Instr (some ad38) 1 [(⟨6, t24, 0, 0, t107, 0, t18 == 1⟩ : Sapi_Instr)], own 27 eSapi_Instr (some ad6) 1 [(⟨0, 0, 0, 0, 0, 0, false⟩ : Sapi_Instr)], own 22 (eI .u32) (some ad2) 1 [a0]] := hw
    refine p_last ?_
    refine e_end ?_
    refine hK105 _ _ ?_
    refine go_seq_k fun K111 hK111 => ?_
    refine go_region ?_
    refine go_pvs 0 1 [1, 2, 6, 30] hs (L' := [(1, .pointer (some ad2)), (2, .pointer (some ad6)), (6, .pointer (some ad38)), (30, .bool (t13 == 1))]) (by kernel_rfl) ?_ rfl
    clear hs; intro a hs
    refine go_end (by kernel_rfl) ?_
    refine hK111 _ _ ?_
    refine go_cond hs (t13 == 1) (by kernel_rfl) (fun hc => ?_) (fun hc => ?_)
    ·replace H := ite_t H (beq_iff_eq.1 hc)
     have hb112 := hc
     rw [hb112] at hs
     refine go_region ?_
     refine go_run hs (op := (Op.load 22 (Operand.tmp 1))) (ty := 22) (dst := some 31) (g := none) (by kernel_rfl) (by kernel_rfl) (by kernel_rfl) (x_ld (E := (eI .u32)) (off := 0) (p := ad2) (v := .int .u32 a0) (Rd.of_own (hw.up 2)) (one_ok a0).1 (one_ok a0).2 (by kernel_rfl) (one_at _ _) (by kernel_rfl) (by kernel_rfl)) [2, 6, 31] (L' := [(2, .pointer (some ad6)), (6, .pointer (some ad38)), (31, .int .u32 a0)]) (by kernel_rfl) ?_
     clear hs; intro a hs
     obtain ⟨t114, hx115, H⟩ := bind_some H
     refine go_call hs (op := (Op.call { callee := (Callee.value (Operand.func 55)), args := #[(Operand.tmp 31), (Operand.const (Value.int IntKind.i64 24))], argTypes := #[22, 3] })) (ty := 3) (dst := some 32) (g := none) (by kernel_rfl) (by kernel_rfl) (by kernel_rfl) (f := 55) (args := #[.int .u32 a0, .int .i64 24]) (by kernel_rfl) (field_Signed.calls a0 24 t114 _ hx115) ?_
     rintro e wd116 ⟨rfl, hw117⟩
     refine ⟨_, rfl, ?_⟩
     replace hw := hw.call hw117
     intro a hs1
     replace hs : Slots a 80 [(2, .pointer (some ad6)), (6, .pointer (some ad38)), (32, .int .i64 t114)] := hs1.keep [2, 6, 32] (by kernel_rfl)
     clear hs1
     refine go_pvs 2 3 [2, 6, 32, 33] hs (L' := [(2, .pointer (some ad6)), (6, .pointer (some ad38)), (32, .int .i64 t114), (33, .pointer (some ((ad38 : Addr).add 0)))]) (by kernel_rfl) ?_ rfl
     clear hs; intro a hs
     obtain ⟨wd118, hx119, hw⟩ := x_put (P := Try.prog) (ty := 0) (t := 3) (x := (Operand.tmp 33)) (y := (Operand.const (Value.int IntKind.i64 7))) (off := 0) (p := (ad38 : Addr).add 0) (v := .int .i64 7) (vs := [.int .i64 7]) (i := 0) (e' := (({ (⟨6, t24, 0, 0, t107, 0, t18 == 1⟩ : Sapi_Instr) with Kind := 7 } : Sapi_Instr) : Sapi_Instr)) hs hw rfl (one_ok (⟨6, t24, 0, 0, t107, 0, t18 == 1⟩ : Sapi_Instr)).1 (one_ok (⟨6, t24, 0, 0, t107, 0, t18 == 1⟩ : Sapi_Instr)).2 (by kernel_rfl) (one_off _ _ _) (by kernel_rfl) rfl (by kernel_rfl) (Nat.le_of_ble_eq_true rfl) (by simp [Value.oneCell']) (by kernel_rfl)
     refine go_unit hs (op := (Op.store 3 (Operand.tmp 33) (Operand.const (Value.int IntKind.i64 7)))) (ty := 0) (dst := none) (g := none) (by kernel_rfl) (by kernel_rfl) (by kernel_rfl) hx119 [2, 6, 32] (L' := [(2, .pointer (some ad6)), (6, .pointer (some ad38)), (32, .int .i64 t114)]) (by kernel_rfl) ?_
     clear hs; intro a hs
     replace hw : St [] w0 wd118 [own 27 eSapi_Instr (some ad38) 1 [({ (⟨6, t24, 0, 0, t107, 0, t18 == 1⟩ : Sapi_Instr) with Kind := 7 } : Sapi_Instr)], own 27 eSapi_Instr (some ad6) 1 [(⟨0, 0, 0, 0, 0, 0, false⟩ : Sapi_Instr)], own 22 (eI .u32) (some ad2) 1 [a0]] := hw
     refine go_pvs 4 5 [2, 6, 32, 34] hs (L' := [(2, .pointer (some ad6)), (6, .pointer (some ad38)), (32, .int .i64 t114), (34, .pointer (some ((ad38 : Addr).add 4)))]) (by kernel_rfl) ?_ rfl
     clear hs; intro a hs
     obtain ⟨wd120, hx121, hw⟩ := x_put (P := Try.prog) (ty := 0) (t := 3) (x := (Operand.tmp 34)) (y := (Operand.const (Value.int IntKind.i64 0))) (off := 4) (p := (ad38 : Addr).add 4) (v := .int .i64 0) (vs := [.int .i64 0]) (i := 0) (e' := (({ ({ (⟨6, t24, 0, 0, t107, 0, t18 == 1⟩ : Sapi_Instr) with Kind := 7 } : Sapi_Instr) with C := 0 } : Sapi_Instr) : Sapi_Instr)) hs hw rfl (one_ok ({ (⟨6, t24, 0, 0, t107, 0, t18 == 1⟩ : Sapi_Instr) with Kind := 7 } : Sapi_Instr)).1 (one_ok ({ (⟨6, t24, 0, 0, t107, 0, t18 == 1⟩ : Sapi_Instr) with Kind := 7 } : Sapi_Instr)).2 (by kernel_rfl) (one_off _ _ _) (by kernel_rfl) rfl (by kernel_rfl) (Nat.le_of_ble_eq_true rfl) (by simp [Value.oneCell']) (by kernel_rfl)
     refine go_unit hs (op := (Op.store 3 (Operand.tmp 34) (Operand.const (Value.int IntKind.i64 0)))) (ty := 0) (dst := none) (g := none) (by kernel_rfl) (by kernel_rfl) (by kernel_rfl) hx121 [2, 6, 32] (L' := [(2, .pointer (some ad6)), (6, .pointer (some ad38)), (32, .int .i64 t114)]) (by kernel_rfl) ?_
     clear hs; intro a hs
     replace hw : St [] w0 wd120 [own 27 eSapi_Instr (some ad38) 1 [({ ({ (⟨6, t24, 0, 0, t107, 0, t18 == 1⟩ : Sapi_Instr) with Kind := 7 } : Sapi_Instr) with C := 0 } : Sapi_Instr)], own 27 eSapi_Instr (some ad6) 1 [(⟨0, 0, 0, 0, 0, 0, false⟩ : Sapi_Instr)], own 22 (eI .u32) (some ad2) 1 [a0]] := hw
     refine go_pvs 6 7 [2, 6, 32, 35] hs (L' := [(2, .pointer (some ad6)), (6, .pointer (some ad38)), (32, .int .i64 t114), (35, .pointer (some ((ad38 : Addr).add 5)))]) (by kernel_rfl) ?_ rfl
     clear hs; intro a hs
     obtain ⟨wd122, hx123, hw⟩ := x_put (P := Try.prog) (ty := 0) (t := 3) (x := (Operand.tmp 35)) (y := (Operand.tmp 32)) (off := 5) (p := (ad38 : Addr).add 5) (v := .int .i64 t114) (vs := [.int .i64 t114]) (i := 0) (e' := (({ ({ ({ (⟨6, t24, 0, 0, t107, 0, t18 == 1⟩ : Sapi_Instr) with Kind := 7 } : Sapi_Instr) with C := 0 } : Sapi_Instr) with Imm := t114 } : Sapi_Instr) : Sapi_Instr)) hs hw rfl (one_ok ({ ({ (⟨6, t24, 0, 0, t107, 0, t18 == 1⟩ : Sapi_Instr) with Kind := 7 } : Sapi_Instr) with C := 0 } : Sapi_Instr)).1 (one_ok ({ ({ (⟨6, t24, 0, 0, t107, 0, t18 == 1⟩ : Sapi_Instr) with Kind := 7 } : Sapi_Instr) with C := 0 } : Sapi_Instr)).2 (by kernel_rfl) (one_off _ _ _) (by kernel_rfl) rfl (by kernel_rfl) (Nat.le_of_ble_eq_true rfl) (by simp [Value.oneCell']) (by kernel_rfl)
     refine go_unit hs (op := (Op.store 3 (Operand.tmp 35) (Operand.tmp 32))) (ty := 0) (dst := none) (g := none) (by kernel_rfl) (by kernel_rfl) (by kernel_rfl) hx123 [2, 6] (L' := [(2, .pointer (some ad6)), (6, .pointer (some ad38))]) (by kernel_rfl) ?_
     clear hs; intro a hs
     replace hw : St [] w0 wd122 [own 27 eSapi_Instr (some ad38) 1 [({ ({ ({ (⟨6, t24, 0, 0, t107, 0, t18 == 1⟩ : Sapi_Instr) with Kind := 7 } : Sapi_Instr) with C := 0 } : Sapi_Instr) with Imm := t114 } : Sapi_Instr)], own 27 eSapi_Instr (some ad6) 1 [(⟨0, 0, 0, 0, 0, 0, false⟩ : Sapi_Instr)], own 22 (eI .u32) (some ad2) 1 [a0]] := hw
     refine go_end (by kernel_rfl) ?_
     refine ib_norm ?_
     replace hw := hw.up 2
     replace hw := hw.up 2
     replace hw := hw.up 2
     replace hw := hw.only 3
     exact hJ2 ({ ({ ({ (⟨6, t24, 0, 0, t107, 0, t18 == 1⟩ : Sapi_Instr) with Kind := 7 } : Sapi_Instr) with C := 0 } : Sapi_Instr) with Imm := t114 } : Sapi_Instr) _ _ (hs.keep [2, 6] (by kernel_rfl)) hw H
    ·replace H := ite_f H (beq_eq_false_iff_ne.1 hc)
     have hb124 := hc
     rw [hb124] at hs
     refine wp_skip ?_
     refine ib_norm ?_
     replace hw := hw.up 2
     replace hw := hw.up 2
     replace hw := hw.up 2
     replace hw := hw.only 3
     exact hJ2 (⟨6, t24, 0, 0, t107, 0, t18 == 1⟩ : Sapi_Instr) _ _ (hs.keep [2, 6] (by kernel_rfl)) hw H

end Go.Proofs.Ytckefpenekolhaa.T04
