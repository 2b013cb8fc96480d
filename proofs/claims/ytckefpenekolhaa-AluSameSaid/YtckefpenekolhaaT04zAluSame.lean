/- YtckefpenekolhaaT04zAluSame: Go functions told as plain ones, each with a proof that its call comes to what is told, part 1. Condition of each: that the plain function comes to a value. -/
import Derived.Test.YtckefpenekolhaaT04
import Derived.Test.YtckefpenekolhaaEJ
import Derived.Test.YtckefpenekolhaaProg
namespace Go.Proofs.Ytckefpenekolhaa.T04
open Go Go.RowKit Go.Proofs.Ytckefpenekolhaa.E
set_option linter.unusedVariables false
set_option linter.unusedSimpArgs false
def eA34 : Enc (Vector Int 4) := ⟨4, fun x => [.int .u8 (vx 0 x 0), .int .u8 (vx 0 x 1), .int .u8 (vx 0 x 2), .int .u8 (vx 0 x 3)], (Vector.replicate 4 0), by decide, fun _ => rfl, fun x u hu => by simp at hu; rcases hu with rfl | rfl | rfl | rfl <;> rfl⟩
def eA23 : Enc (Vector Int 16) := ⟨16, fun x => [.int .u32 (vx 0 x 0), .int .u32 (vx 0 x 1), .int .u32 (vx 0 x 2), .int .u32 (vx 0 x 3), .int .u32 (vx 0 x 4), .int .u32 (vx 0 x 5), .int .u32 (vx 0 x 6), .int .u32 (vx 0 x 7), .int .u32 (vx 0 x 8), .int .u32 (vx 0 x 9), .int .u32 (vx 0 x 10), .int .u32 (vx 0 x 11), .int .u32 (vx 0 x 12), .int .u32 (vx 0 x 13), .int .u32 (vx 0 x 14), .int .u32 (vx 0 x 15)], (Vector.replicate 16 0), by decide, fun _ => rfl, fun x u hu => by simp at hu; rcases hu with rfl | rfl | rfl | rfl | rfl | rfl | rfl | rfl | rfl | rfl | rfl | rfl | rfl | rfl | rfl | rfl <;> rfl⟩
/-! rivet/rivetlaw04.AluSame: function 4 -/
noncomputable def rivetlaw04_AluSame.j3 (v69 : Bool) : Option Bool := some v69
noncomputable def rivetlaw04_AluSame.j2 (y23 : Int) (a0 : Sapi_Regs) (y25 : Int) (y17 : Int) (y19 : Int) (t12 : Bool) (v35 : Int) : Option Bool := (if 0 ≤ y23 ∧ y23 < ((16 : Nat) : Int) then ((alu_Do ({ a0 with R := vset a0.R (y23 : Int).toNat (wu32 y25) } : Sapi_Regs) (⟨1, y17, y19, v35, y23, 0, false⟩ : Sapi_Instr)).bind fun ⟨t42, t43⟩ => (((alu_Do ({ a0 with R := vset a0.R (y23 : Int).toNat (wu32 y25) } : Sapi_Regs) (⟨2, y17, y19, v35, 0, y25, false⟩ : Sapi_Instr)).bind fun ⟨t55, t56⟩ => ((if t12 = true then (if ((decide (((t42 : Sapi_Regs).R) = ((t55 : Sapi_Regs).R))) && ((((t42 : Sapi_Regs).H) == ((t55 : Sapi_Regs).H)) && ((((t42 : Sapi_Regs).N) == ((t55 : Sapi_Regs).N)) && ((((t42 : Sapi_Regs).Z) == ((t55 : Sapi_Regs).Z)) && ((((t42 : Sapi_Regs).C) == ((t55 : Sapi_Regs).C)) && ((((t42 : Sapi_Regs).V) == ((t55 : Sapi_Regs).V)) && true)))))) = true then rivetlaw04_AluSame.j3 (t43 == t56) else rivetlaw04_AluSame.j3 false) else rivetlaw04_AluSame.j3 false))))) else none)
noncomputable def rivetlaw04_AluSame.j1 (y17 : Int) (y23 : Int) (a0 : Sapi_Regs) (y25 : Int) (y19 : Int) (t12 : Bool) (v30 : Int) : Option Bool := (if y17 = 0 then rivetlaw04_AluSame.j2 y23 a0 y25 y17 y19 t12 0 else rivetlaw04_AluSame.j2 y23 a0 y25 y17 y19 t12 v30)
noncomputable def rivetlaw04_AluSame (a0 : Sapi_Regs) (a1 : Vector Int 4) (a2 : Int) : Option Bool := ((rivetlaw04_shown).bind fun t12 => ((nm (w64 ((vx 0 a1 0).tmod 12)) fun y17 => (nm (w64 (band .u8 (vx 0 a1 1) 15)) fun y19 => (nm (w64 (band .u8 (vx 0 a1 2) 15)) fun y21 => (nm (w64 (band .u8 (vx 0 a1 3) 15)) fun y23 => (nm (w64 ((band .i64 (w64 a2) 131071) - 65536)) fun y25 => (if y21 = y23 then rivetlaw04_AluSame.j1 y17 y23 a0 y25 y19 t12 ((w64 (y23 + 1)).tmod 16) else rivetlaw04_AluSame.j1 y17 y23 a0 y25 y19 t12 y21))))))))
set_option maxRecDepth 100000 in
set_option maxHeartbeats 4000000 in
theorem rivetlaw04_AluSame.calls (a0 : Sapi_Regs) (a1 : Vector Int 4) (a2 : Int) (r : Bool) (w0 : World) (H : rivetlaw04_AluSame a0 a1 a2 = some r) :
    Calls Try.prog 4 #[.agg (eSapi_Regs.enc a0).toArray, .agg (eA34.enc a1).toArray, .int .i32 a2] w0 fun e w' => e = .returned (.bool r) ∧ St [] w0 w' [] := by
 have hw : St [] w0 w0 [] := St.nil w0
 unfold rivetlaw04_AluSame at H
 refine go_fn Try.func4 rfl 82 Try.ntmps4 [(0, .agg (eSapi_Regs.enc a0).toArray), (1, .agg (eA34.enc a1).toArray), (2, .int .i32 a2)] (by kernel_rfl) rfl ?_
 intro a hs
 refine go_seq_k fun K1 hK1 => ?_
 refine go_region ?_
 obtain ⟨ad2, wd3, hx4, hw⟩ := x_box1 (P := Try.prog) (elem := 25) (v := (Operand.tmp 0)) (ty := 0) hs hw eSapi_Regs a0 (by kernel_rfl)
 refine go_run hs (op := (Op.box 25 (Operand.tmp 0))) (ty := 0) (dst := some 3) (g := none) (by kernel_rfl) (by kernel_rfl) (by kernel_rfl) hx4 [1, 2, 3] (L' := [(1, .agg (eA34.enc a1).toArray), (2, .int .i32 a2), (3, .pointer (some ad2))]) (by kernel_rfl) ?_
 clear hs; intro a hs
 obtain ⟨ad6, wd7, hx8, hw⟩ := x_box1 (P := Try.prog) (elem := 34) (v := (Operand.tmp 1)) (ty := 0) hs hw eA34 a1 (by kernel_rfl)
 refine go_run hs (op := (Op.box 34 (Operand.tmp 1))) (ty := 0) (dst := some 4) (g := none) (by kernel_rfl) (by kernel_rfl) (by kernel_rfl) hx8 [2, 3, 4] (L' := [(2, .int .i32 a2), (3, .pointer (some ad2)), (4, .pointer (some ad6))]) (by kernel_rfl) ?_
 clear hs; intro a hs
 refine go_pvs 2 3 [2, 3, 4] hs (L' := [(2, .int .i32 a2), (3, .pointer (some ad2)), (4, .pointer (some ad6))]) (by kernel_rfl) ?_ rfl
 clear hs; intro a hs
 refine go_end (by kernel_rfl) ?_
 refine hK1 _ _ ?_
 refine go_seq_k fun K10 hK10 => ?_
 refine go_region ?_
 obtain ⟨t12, hx13, H⟩ := bind_some H
 refine go_call hs (op := (Op.call { callee := (Callee.value (Operand.func 10)), args := #[], argTypes := #[] })) (ty := 4) (dst := some 17) (g := none) (by kernel_rfl) (by kernel_rfl) (by kernel_rfl) (f := 10) (args := #[]) (by kernel_rfl) (rivetlaw04_shown.calls t12 _ hx13) ?_
 rintro e wd14 ⟨rfl, hw15⟩
 refine ⟨_, rfl, ?_⟩
 replace hw := hw.call hw15
 intro a hs1
 replace hs : Slots a 82 [(2, .int .i32 a2), (3, .pointer (some ad2)), (4, .pointer (some ad6)), (17, .bool t12)] := hs1.keep [2, 3, 4, 17] (by kernel_rfl)
 clear hs1
 refine go_pvs 1 2 [2, 3, 4, 7] hs (L' := [(2, .int .i32 a2), (3, .pointer (some ad2)), (4, .pointer (some ad6)), (7, .bool t12)]) (by kernel_rfl) ?_ rfl
 clear hs; intro a hs
 refine go_end (by kernel_rfl) ?_
 refine hK10 _ _ ?_
 refine go_seq_k fun K16 hK16 => ?_
 refine go_region ?_
 refine go_run hs (op := (Op.indexAddr 34 (Operand.tmp 4) (Operand.const (Value.int IntKind.i64 0)))) (ty := 0) (dst := some 18) (g := none) (by kernel_rfl) (by kernel_rfl) (by kernel_rfl) (x_vidx (e := 5) (p := ad6) (n := 4) (k := .i64) (i := 0) (sz := 1) (by kernel_rfl) (by kernel_rfl) (by kernel_rfl) (by kernel_rfl) (⟨by decide, by decide⟩ : (0 : Int) ≤ 0 ∧ (0 : Int) < ((4 : Nat) : Int)).1 (⟨by decide, by decide⟩ : (0 : Int) ≤ 0 ∧ (0 : Int) < ((4 : Nat) : Int)).2) [2, 3, 4, 7, 18] (L' := [(2, .int .i32 a2), (3, .pointer (some ad2)), (4, .pointer (some ad6)), (7, .bool t12), (18, .pointer (some ((ad6 : Addr).add ((0 : Int).toNat * 1))))]) (by kernel_rfl) ?_
 clear hs; intro a hs
 refine go_run hs (op := (Op.load 5 (Operand.tmp 18))) (ty := 5) (dst := some 19) (g := none) (by kernel_rfl) (by kernel_rfl) (by kernel_rfl) (x_ld (E := eA34) (off := 0) (p := (ad6 : Addr).add ((0 : Int).toNat * 1)) (v := .int .u8 (vx 0 a1 0)) (Rd.of_own (hw.up 0)) (one_ok a1).1 (one_ok a1).2 (by kernel_rfl) (by simp only [add_add', Int.toNat_zero, Nat.zero_mul, Nat.zero_add, Nat.mul_one] <;> rfl) (by kernel_rfl) (by kernel_rfl)) [2, 3, 4, 7, 19] (L' := [(2, .int .i32 a2), (3, .pointer (some ad2)), (4, .pointer (some ad6)), (7, .bool t12), (19, .int .u8 (vx 0 a1 0))]) (by kernel_rfl) ?_
 clear hs; intro a hs
 refine go_pvs 2 5 [2, 3, 4, 7, 8] hs (L' := [(2, .int .i32 a2), (3, .pointer (some ad2)), (4, .pointer (some ad6)), (7, .bool t12), (8, .int .i64 (w64 ((vx 0 a1 0).tmod 12)))]) (by kernel_rfl) ?_ rfl
 clear hs; intro a hs
 obtain ⟨y17, hy17, H⟩ := nm_some H
 replace hs : Slots a 82 [(2, .int .i32 a2), (3, .pointer (some ad2)), (4, .pointer (some ad6)), (7, .bool t12), (8, .int .i64 y17)] := by rw [hy17]; exact hs
 refine go_end (by kernel_rfl) ?_
 refine hK16 _ _ ?_
 refine go_seq_k fun K18 hK18 => ?_
 refine go_region ?_
 refine go_run hs (op := (Op.indexAddr 34 (Operand.tmp 4) (Operand.const (Value.int IntKind.i64 1)))) (ty := 0) (dst := some 22) (g := none) (by kernel_rfl) (by kernel_rfl) (by kernel_rfl) (x_vidx (e := 5) (p := ad6) (n := 4) (k := .i64) (i := 1) (sz := 1) (by kernel_rfl) (by kernel_rfl) (by kernel_rfl) (by kernel_rfl) (⟨by decide, by decide⟩ : (0 : Int) ≤ 1 ∧ (1 : Int) < ((4 : Nat) : Int)).1 (⟨by decide, by decide⟩ : (0 : Int) ≤ 1 ∧ (1 : Int) < ((4 : Nat) : Int)).2) [2, 3, 4, 7, 8, 22] (L' := [(2, .int .i32 a2), (3, .pointer (some ad2)), (4, .pointer (some ad6)), (7, .bool t12), (8, .int .i64 y17), (22, .pointer (some ((ad6 : Addr).add ((1 : Int).toNat * 1))))]) (by kernel_rfl) ?_
 clear hs; intro a hs
 refine go_run hs (op := (Op.load 5 (Operand.tmp 22))) (ty := 5) (dst := some 23) (g := none) (by kernel_rfl) (by kernel_rfl) (by kernel_rfl) (x_ld (E := eA34) (off := 1) (p := (ad6 : Addr).add ((1 : Int).toNat * 1)) (v := .int .u8 (vx 0 a1 1)) (Rd.of_own (hw.up 0)) (one_ok a1).1 (one_ok a1).2 (by kernel_rfl) (by simp only [add_add', Int.toNat_zero, Nat.zero_mul, Nat.zero_add, Nat.mul_one] <;> rfl) (by kernel_rfl) (by kernel_rfl)) [2, 3, 4, 7, 8, 23] (L' := [(2, .int .i32 a2), (3, .pointer (some ad2)), (4, .pointer (some ad6)), (7, .bool t12), (8, .int .i64 y17), (23, .int .u8 (vx 0 a1 1))]) (by kernel_rfl) ?_
 clear hs; intro a hs
 refine go_pvs 2 5 [2, 3, 4, 7, 8, 9] hs (L' := [(2, .int .i32 a2), (3, .pointer (some ad2)), (4, .pointer (some ad6)), (7, .bool t12), (8, .int .i64 y17), (9, .int .i64 (w64 (band .u8 (vx 0 a1 1) 15)))]) (by kernel_rfl) ?_ rfl
 clear hs; intro a hs
 obtain ⟨y19, hy19, H⟩ := nm_some H
 replace hs : Slots a 82 [(2, .int .i32 a2), (3, .pointer (some ad2)), (4, .pointer (some ad6)), (7, .bool t12), (8, .int .i64 y17), (9, .int .i64 y19)] := by rw [hy19]; exact hs
 refine go_end (by kernel_rfl) ?_
 refine hK18 _ _ ?_
 refine go_seq_k fun K20 hK20 => ?_
 refine go_region ?_
 refine go_run hs (op := (Op.indexAddr 34 (Operand.tmp 4) (Operand.const (Value.int IntKind.i64 2)))) (ty := 0) (dst := some 26) (g := none) (by kernel_rfl) (by kernel_rfl) (by kernel_rfl) (x_vidx (e := 5) (p := ad6) (n := 4) (k := .i64) (i := 2) (sz := 1) (by kernel_rfl) (by kernel_rfl) (by kernel_rfl) (by kernel_rfl) (⟨by decide, by decide⟩ : (0 : Int) ≤ 2 ∧ (2 : Int) < ((4 : Nat) : Int)).1 (⟨by decide, by decide⟩ : (0 : Int) ≤ 2 ∧ (2 : Int) < ((4 : Nat) : Int)).2) [2, 3, 4, 7, 8, 9, 26] (L' := [(2, .int .i32 a2), (3, .pointer (some ad2)), (4, .pointer (some ad6)), (7, .bool t12), (8, .int .i64 y17), (9, .int .i64 y19), (26, .pointer (some ((ad6 : Addr).add ((2 : Int).toNat * 1))))]) (by kernel_rfl) ?_
 clear hs; intro a hs
 refine go_run hs (op := (Op.load 5 (Operand.tmp 26))) (ty := 5) (dst := some 27) (g := none) (by kernel_rfl) (by kernel_rfl) (by kernel_rfl) (x_ld (E := eA34) (off := 2) (p := (ad6 : Addr).add ((2 : Int).toNat * 1)) (v := .int .u8 (vx 0 a1 2)) (Rd.of_own (hw.up 0)) (one_ok a1).1 (one_ok a1).2 (by kernel_rfl) (by simp only [add_add', Int.toNat_zero, Nat.zero_mul, Nat.zero_add, Nat.mul_one] <;> rfl) (by kernel_rfl) (by kernel_rfl)) [2, 3, 4, 7, 8, 9, 27] (L' := [(2, .int .i32 a2), (3, .pointer (some ad2)), (4, .pointer (some ad6)), (7, .bool t12), (8, .int .i64 y17), (9, .int .i64 y19), (27, .int .u8 (vx 0 a1 2))]) (by kernel_rfl) ?_
 clear hs; intro a hs
 refine go_pvs 2 5 [2, 3, 4, 7, 8, 9, 10] hs (L' := [(2, .int .i32 a2), (3, .pointer (some ad2)), (4, .pointer (some ad6)), (7, .bool t12), (8, .int .i64 y17), (9, .int .i64 y19), (10, .int .i64 (w64 (band .u8 (vx 0 a1 2) 15)))]) (by kernel_rfl) ?_ rfl
 clear hs; intro a hs
 obtain ⟨y21, hy21, H⟩ := nm_some H
 replace hs : Slots a 82 [(2, .int .i32 a2), (3, .pointer (some ad2)), (4, .pointer (some ad6)), (7, .bool t12), (8, .int .i64 y17), (9, .int .i64 y19), (10, .int .i64 y21)] := by rw [hy21]; exact hs
 refine go_end (by kernel_rfl) ?_
 refine hK20 _ _ ?_
 refine go_seq_k fun K22 hK22 => ?_
 refine go_region ?_
 refine go_run hs (op := (Op.indexAddr 34 (Operand.tmp 4) (Operand.const (Value.int IntKind.i64 3)))) (ty := 0) (dst := some 30) (g := none) (by kernel_rfl) (by kernel_rfl) (by kernel_rfl) (x_vidx (e := 5) (p := ad6) (n := 4) (k := .i64) (i := 3) (sz := 1) (by kernel_rfl) (by kernel_rfl) (by kernel_rfl) (by kernel_rfl) (⟨by decide, by decide⟩ : (0 : Int) ≤ 3 ∧ (3 : Int) < ((4 : Nat) : Int)).1 (⟨by decide, by decide⟩ : (0 : Int) ≤ 3 ∧ (3 : Int) < ((4 : Nat) : Int)).2) [2, 3, 7, 8, 9, 10, 30] (L' := [(2, .int .i32 a2), (3, .pointer (some ad2)), (7, .bool t12), (8, .int .i64 y17), (9, .int .i64 y19), (10, .int .i64 y21), (30, .pointer (some ((ad6 : Addr).add ((3 : Int).toNat * 1))))]) (by kernel_rfl) ?_
 clear hs; intro a hs
 refine go_run hs (op := (Op.load 5 (Operand.tmp 30))) (ty := 5) (dst := some 31) (g := none) (by kernel_rfl) (by kernel_rfl) (by kernel_rfl) (x_ld (E := eA34) (off := 3) (p := (ad6 : Addr).add ((3 : Int).toNat * 1)) (v := .int .u8 (vx 0 a1 3)) (Rd.of_own (hw.up 0)) (one_ok a1).1 (one_ok a1).2 (by kernel_rfl) (by simp only [add_add', Int.toNat_zero, Nat.zero_mul, Nat.zero_add, Nat.mul_one] <;> rfl) (by kernel_rfl) (by kernel_rfl)) [2, 3, 7, 8, 9, 10, 31] (L' := [(2, .int .i32 a2), (3, .pointer (some ad2)), (7, .bool t12), (8, .int .i64 y17), (9, .int .i64 y19), (10, .int .i64 y21), (31, .int .u8 (vx 0 a1 3))]) (by kernel_rfl) ?_
 clear hs; intro a hs
 refine go_pvs 2 5 [2, 3, 7, 8, 9, 10, 11] hs (L' := [(2, .int .i32 a2), (3, .pointer (some ad2)), (7, .bool t12), (8, .int .i64 y17), (9, .int .i64 y19), (10, .int .i64 y21), (11, .int .i64 (w64 (band .u8 (vx 0 a1 3) 15)))]) (by kernel_rfl) ?_ rfl
 clear hs; intro a hs
 obtain ⟨y23, hy23, H⟩ := nm_some H
 replace hs : Slots a 82 [(2, .int .i32 a2), (3, .pointer (some ad2)), (7, .bool t12), (8, .int .i64 y17), (9, .int .i64 y19), (10, .int .i64 y21), (11, .int .i64 y23)] := by rw [hy23]; exact hs
 refine go_end (by kernel_rfl) ?_
 refine hK22 _ _ ?_
 refine go_seq_k fun K24 hK24 => ?_
 refine go_region ?_
 refine go_pvs 0 5 [3, 7, 8, 9, 10, 11, 12] hs (L' := [(3, .pointer (some ad2)), (7, .bool t12), (8, .int .i64 y17), (9, .int .i64 y19), (10, .int .i64 y21), (11, .int .i64 y23), (12, .int .i64 (w64 ((band .i64 (w64 a2) 131071) - 65536)))]) (by kernel_rfl) ?_ rfl
 clear hs; intro a hs
 obtain ⟨y25, hy25, H⟩ := nm_some H
 replace hs : Slots a 82 [(3, .pointer (some ad2)), (7, .bool t12), (8, .int .i64 y17), (9, .int .i64 y19), (10, .int .i64 y21), (11, .int .i64 y23), (12, .int .i64 y25)] := by rw [hy25]; exact hs
 refine go_end (by kernel_rfl) ?_
 refine hK24 _ _ ?_
 refine go_seq_k fun K26 hK26 => ?_
 have hJ1 : ∀ (v30 : Int) (a : Act) (w : World), Slots a 82 [(3, .pointer (some ad2)), (7, .bool t12), (8, .int .i64 y17), (9, .int .i64 y19), (10, .int .i64 v30), (11, .int .i64 y23), (12, .int .i64 y25)] → St [] w0 w [own 34 eA34 (some ad6) 1 [a1], own 25 eSapi_Regs (some ad2) 1 [a0]] → rivetlaw04_AluSame.j1 y17 y23 a0 y25 y19 t12 v30 = some r → K26 a w := by
  intro v30 a w hs hw H
  unfold rivetlaw04_AluSame.j1 at H
  refine hK26 _ _ ?_
  refine go_seq_k fun K31 hK31 => ?_
  have hJ2 : ∀ (v35 : Int) (a : Act) (w : World), Slots a 82 [(3, .pointer (some ad2)), (7, .bool t12), (8, .int .i64 y17), (9, .int .i64 y19), (10, .int .i64 v35), (11, .int .i64 y23), (12, .int .i64 y25)] → St [] w0 w [own 34 eA34 (some ad6) 1 [a1], own 25 eSapi_Regs (some ad2) 1 [a0]] → rivetlaw04_AluSame.j2 y23 a0 y25 y17 y19 t12 v35 = some r → K31 a w := by
   intro v35 a w hs hw H
   unfold rivetlaw04_AluSame.j2 at H
   refine hK31 _ _ ?_
   refine go_seq_k fun K36 hK36 => ?_
   refine go_region ?_
   refine go_pvs 0 4 [3, 7, 8, 9, 10, 11, 12, 46, 48, 49] hs (L' := [(3, .pointer (some ad2)), (7, .bool t12), (8, .int .i64 y17), (9, .int .i64 y19), (10, .int .i64 v35), (11, .int .i64 y23), (12, .int .i64 y25), (46, .int .i64 y23), (48, .int .u32 (wu32 y25)), (49, .pointer (some ((ad2 : Addr).add 0)))]) (by kernel_rfl) ?_ rfl
   clear hs; intro a hs
   obtain ⟨hp37, H⟩ := ite_only H
   refine go_run hs (op := (Op.indexAddr 23 (Operand.tmp 49) (Operand.tmp 46))) (ty := 0) (dst := some 50) (g := none) (by kernel_rfl) (by kernel_rfl) (by kernel_rfl) (x_vidx (e := 22) (p := (ad2 : Addr).add 0) (n := 16) (k := .i64) (i := y23) (sz := 1) (by kernel_rfl) (by kernel_rfl) (by kernel_rfl) (by kernel_rfl) hp37.1 hp37.2) [3, 7, 8, 9, 10, 11, 12, 48, 50] (L' := [(3, .pointer (some ad2)), (7, .bool t12), (8, .int .i64 y17), (9, .int .i64 y19), (10, .int .i64 v35), (11, .int .i64 y23), (12, .int .i64 y25), (48, .int .u32 (wu32 y25)), (50, .pointer (some (((ad2 : Addr).add 0 : Addr).add ((y23 : Int).toNat * 1))))]) (by kernel_rfl) ?_
   clear hs; intro a hs
   replace hw := hw.up 1
   obtain ⟨wd38, hx39, hw⟩ := x_put (P := Try.prog) (ty := 0) (t := 22) (x := (Operand.tmp 50)) (y := (Operand.tmp 48)) (off := 0 + (y23 : Int).toNat * 1) (p := ((ad2 : Addr).add 0 : Addr).add ((y23 : Int).toNat * 1)) (v := .int .u32 (wu32 y25)) (vs := [.int .u32 (wu32 y25)]) (i := 0) (e' := (({ a0 with R := vset a0.R (y23 : Int).toNat (wu32 y25) } : Sapi_Regs) : Sapi_Regs)) hs hw rfl (one_ok a0).1 (one_ok a0).2 (by kernel_rfl) (by simp only [add_add', Int.toNat_zero, Nat.zero_mul, Nat.zero_add, Nat.mul_one] <;> rfl) (by kernel_rfl) rfl (by kernel_rfl) (by have := hp37; show 0 + _ * 1 + 1 ≤ 21; omega) (by simp [Value.oneCell']) (vput (cs := eSapi_Regs.enc a0) (cs' := eSapi_Regs.enc ({ a0 with R := vset a0.R (y23 : Int).toNat (wu32 y25) } : Sapi_Regs)) (pre := []) (post := [.int .u32 a0.H, .bool a0.N, .bool a0.Z, .bool a0.C, .bool a0.V]) (f := (fun j : Nat => .int .u32 (vx 0 a0.R j))) (f' := (fun j : Nat => .int .u32 (vx 0 (vset a0.R (y23 : Int).toNat (wu32 y25)) j))) (n := 16) (o := 0) (i := (y23 : Int).toNat) (v := .int .u32 (wu32 y25)) (by kernel_rfl) (by kernel_rfl) rfl (by have := hp37; omega) (vx_put (by have := hp37; omega)))
   refine go_unit hs (op := (Op.store 22 (Operand.tmp 50) (Operand.tmp 48))) (ty := 0) (dst := none) (g := none) (by kernel_rfl) (by kernel_rfl) (by kernel_rfl) hx39 [3, 7, 8, 9, 10, 11, 12] (L' := [(3, .pointer (some ad2)), (7, .bool t12), (8, .int .i64 y17), (9, .int .i64 y19), (10, .int .i64 v35), (11, .int .i64 y23), (12, .int .i64 y25)]) (by kernel_rfl) ?_
   clear hs; intro a hs
   replace hw : St [] w0 wd38 [own 25 eSapi_Regs (some ad2) 1 [({ a0 with R := vset a0.R (y23 : Int).toNat (wu32 y25) } : Sapi_Regs)], own 34 eA34 (some ad6) 1 [a1]] := hw
   refine go_end (by kernel_rfl) ?_
   refine hK36 _ _ ?_
   refine go_seq_k fun K40 hK40 => ?_
   refine go_region ?_
   refine go_run hs (op := (Op.load 25 (Operand.tmp 3))) (ty := 25) (dst := some 52) (g := none) (by kernel_rfl) (by kernel_rfl) (by kernel_rfl) (x_lds (E := eSapi_Regs) (off := 0) (p := ad2) (cs := (eSapi_Regs.enc ({ a0 with R := vset a0.R (y23 : Int).toNat (wu32 y25) } : Sapi_Regs))) (Rd.of_own (hw.up 0)) (one_ok ({ a0 with R := vset a0.R (y23 : Int).toNat (wu32 y25) } : Sapi_Regs)).1 (one_ok ({ a0 with R := vset a0.R (y23 : Int).toNat (wu32 y25) } : Sapi_Regs)).2 (by kernel_rfl) (one_at _ _) (by kernel_rfl) (by kernel_rfl) (by kernel_rfl)) [3, 7, 8, 9, 10, 11, 12, 52] (L' := [(3, .pointer (some ad2)), (7, .bool t12), (8, .int .i64 y17), (9, .int .i64 y19), (10, .int .i64 v35), (11, .int .i64 y23), (12, .int .i64 y25), (52, .agg (eSapi_Regs.enc ({ a0 with R := vset a0.R (y23 : Int).toNat (wu32 y25) } : Sapi_Regs)).toArray)]) (by kernel_rfl) ?_
   clear hs; intro a hs
   refine go_pvs 1 6 [3, 7, 8, 9, 10, 12, 52, 57] hs (L' := [(3, .pointer (some ad2)), (7, .bool t12), (8, .int .i64 y17), (9, .int .i64 y19), (10, .int .i64 v35), (12, .int .i64 y25), (52, .agg (eSapi_Regs.enc ({ a0 with R := vset a0.R (y23 : Int).toNat (wu32 y25) } : Sapi_Regs)).toArray), (57, .agg (eSapi_Instr.enc (⟨1, y17, y19, v35, y23, 0, false⟩ : Sapi_Instr)).toArray)]) (by kernel_rfl) ?_ rfl
   clear hs; intro a hs
   obtain ⟨⟨t42, t43⟩, hx44, H⟩ := bind_some H
   refine go_call hs (op := (Op.call { callee := (Callee.value (Operand.func 12)), args := #[(Operand.tmp 52), (Operand.tmp 57)], argTypes := #[25, 27] })) (ty := 30) (dst := some 58) (g := none) (by kernel_rfl) (by kernel_rfl) (by kernel_rfl) (f := 12) (args := #[.agg (eSapi_Regs.enc ({ a0 with R := vset a0.R (y23 : Int).toNat (wu32 y25) } : Sapi_Regs)).toArray, .agg (eSapi_Instr.enc (⟨1, y17, y19, v35, y23, 0, false⟩ : Sapi_Instr)).toArray]) (by kernel_rfl) (alu_Do.calls ({ a0 with R := vset a0.R (y23 : Int).toNat (wu32 y25) } : Sapi_Regs) (⟨1, y17, y19, v35, y23, 0, false⟩ : Sapi_Instr) (t42, t43) _ hx44) ?_
   rintro e wd45 ⟨rfl, hw46⟩
   refine ⟨_, rfl, ?_⟩
   replace hw := hw.call hw46
   intro a hs1
   replace hs : Slots a 82 [(3, .pointer (some ad2)), (7, .bool t12), (8, .int .i64 y17), (9, .int .i64 y19), (10, .int .i64 v35), (12, .int .i64 y25), (58, .tuple #[.agg (eSapi_Regs.enc t42).toArray, .int .i64 t43])] := hs1.keep [3, 7, 8, 9, 10, 12, 58] (by kernel_rfl)
   clear hs1
   refine go_pvs 7 10 [3, 7, 8, 9, 10, 12, 59, 60] hs (L' := [(3, .pointer (some ad2)), (7, .bool t12), (8, .int .i64 y17), (9, .int .i64 y19), (10, .int .i64 v35), (12, .int .i64 y25), (59, .agg (eSapi_Regs.enc t42).toArray), (60, .int .i64 t43)]) (by kernel_rfl) ?_ rfl
   clear hs; intro a hs
   obtain ⟨ad47, wd48, hx49, hw⟩ := x_alloc1 (P := Try.prog) (elem := 25) (ty := 0) (z := .agg (eSapi_Regs.enc (⟨(Vector.replicate 16 0), 0, false, false, false, false⟩ : Sapi_Regs)).toArray) hs hw eSapi_Regs (⟨(Vector.replicate 16 0), 0, false, false, false, false⟩ : Sapi_Regs) (by kernel_rfl) (by kernel_rfl)
   refine go_run hs (op := (Op.alloc 25)) (ty := 0) (dst := some 13) (g := none) (by kernel_rfl) (by kernel_rfl) (by kernel_rfl) hx49 [3, 7, 8, 9, 10, 12, 13, 59, 60] (L' := [(3, .pointer (some ad2)), (7, .bool t12), (8, .int .i64 y17), (9, .int .i64 y19), (10, .int .i64 v35), (12, .int .i64 y25), (13, .pointer (some ad47)), (59, .agg (eSapi_Regs.enc t42).toArray), (60, .int .i64 t43)]) (by kernel_rfl) ?_
   clear hs; intro a hs
   obtain ⟨wd51, hx52, hw⟩ := x_put (P := Try.prog) (ty := 0) (t := 25) (x := (Operand.tmp 13)) (y := (Operand.tmp 59)) (off := 0) (p := ad47) (v := .agg (eSapi_Regs.enc t42).toArray) (vs := (eSapi_Regs.enc t42)) (i := 0) (e' := ((t42 : Sapi_Regs) : Sapi_Regs)) hs hw rfl (one_ok (⟨(Vector.replicate 16 0), 0, false, false, false, false⟩ : Sapi_Regs)).1 (one_ok (⟨(Vector.replicate 16 0), 0, false, false, false, false⟩ : Sapi_Regs)).2 (by kernel_rfl) (one_at _ _) (by kernel_rfl) rfl (by kernel_rfl) (Nat.le_of_ble_eq_true rfl) (eSapi_Regs.one _) (by kernel_rfl)
   refine go_unit hs (op := (Op.store 25 (Operand.tmp 13) (Operand.tmp 59))) (ty := 0) (dst := none) (g := none) (by kernel_rfl) (by kernel_rfl) (by kernel_rfl) hx52 [3, 7, 8, 9, 10, 12, 13, 60] (L' := [(3, .pointer (some ad2)), (7, .bool t12), (8, .int .i64 y17), (9, .int .i64 y19), (10, .int .i64 v35), (12, .int .i64 y25), (13, .pointer (some ad47)), (60, .int .i64 t43)]) (by kernel_rfl) ?_
   clear hs; intro a hs
   replace hw : St [] w0 wd51 [own 25 eSapi_Regs (some ad47) 1 [(t42 : Sapi_Regs)], own 25 eSapi_Regs (some ad2) 1 [({ a0 with R := vset a0.R (y23 : Int).toNat (wu32 y25) } : Sapi_Regs)], own 34 eA34 (some ad6) 1 [a1]] := hw
   refine go_pvs 12 13 [3, 7, 8, 9, 10, 12, 13, 14] hs (L' := [(3, .pointer (some ad2)), (7, .bool t12), (8, .int .i64 y17), (9, .int .i64 y19), (10, .int .i64 v35), (12, .int .i64 y25), (13, .pointer (some ad47)), (14, .int .i64 t43)]) (by kernel_rfl) ?_ rfl
   clear hs; intro a hs
   refine go_end (by kernel_rfl) ?_
   refine hK40 _ _ ?_
   refine go_seq_k fun K53 hK53 => ?_
   refine go_region ?_
   refine go_run hs (op := (Op.load 25 (Operand.tmp 3))) (ty := 25) (dst := some 62) (g := none) (by kernel_rfl) (by kernel_rfl) (by kernel_rfl) (x_lds (E := eSapi_Regs) (off := 0) (p := ad2) (cs := (eSapi_Regs.enc ({ a0 with R := vset a0.R (y23 : Int).toNat (wu32 y25) } : Sapi_Regs))) (Rd.of_own (hw.up 1)) (one_ok ({ a0 with R := vset a0.R (y23 : Int).toNat (wu32 y25) } : Sapi_Regs)).1 (one_ok ({ a0 with R := vset a0.R (y23 : Int).toNat (wu32 y25) } : Sapi_Regs)).2 (by kernel_rfl) (one_at _ _) (by kernel_rfl) (by kernel_rfl) (by kernel_rfl)) [7, 8, 9, 10, 12, 13, 14, 62] (L' := [(7, .bool t12), (8, .int .i64 y17), (9, .int .i64 y19), (10, .int .i64 v35), (12, .int .i64 y25), (13, .pointer (some ad47)), (14, .int .i64 t43), (62, .agg (eSapi_Regs.enc ({ a0 with R := vset a0.R (y23 : Int).toNat (wu32 y25) } : Sapi_Regs)).toArray)]) (by kernel_rfl) ?_
   clear hs; intro a hs
   refine go_pvs 1 6 [7, 13, 14, 62, 67] hs (L' := [(7, .bool t12), (13, .pointer (some ad47)), (14, .int .i64 t43), (62, .agg (eSapi_Regs.enc ({ a0 with R := vset a0.R (y23 : Int).toNat (wu32 y25) } : Sapi_Regs)).toArray), (67, .agg (eSapi_Instr.enc (⟨2, y17, y19, v35, 0, y25, false⟩ : Sapi_Instr)).toArray)]) (by kernel_rfl) ?_ rfl
   clear hs; intro a hs
   obtain ⟨⟨t55, t56⟩, hx57, H⟩ := bind_some H
   refine go_call hs (op := (Op.call { callee := (Callee.value (Operand.func 12)), args := #[(Operand.tmp 62), (Operand.tmp 67)], argTypes := #[25, 27] })) (ty := 30) (dst := some 68) (g := none) (by kernel_rfl) (by kernel_rfl) (by kernel_rfl) (f := 12) (args := #[.agg (eSapi_Regs.enc ({ a0 with R := vset a0.R (y23 : Int).toNat (wu32 y25) } : Sapi_Regs)).toArray, .agg (eSapi_Instr.enc (⟨2, y17, y19, v35, 0, y25, false⟩ : Sapi_Instr)).toArray]) (by kernel_rfl) (alu_Do.calls ({ a0 with R := vset a0.R (y23 : Int).toNat (wu32 y25) } : Sapi_Regs) (⟨2, y17, y19, v35, 0, y25, false⟩ : Sapi_Instr) (t55, t56) _ hx57) ?_
   rintro e wd58 ⟨rfl, hw59⟩
   refine ⟨_, rfl, ?_⟩
   replace hw := hw.call hw59
   intro a hs1
   replace hs : Slots a 82 [(7, .bool t12), (13, .pointer (some ad47)), (14, .int .i64 t43), (68, .tuple #[.agg (eSapi_Regs.enc t55).toArray, .int .i64 t56])] := hs1.keep [7, 13, 14, 68] (by kernel_rfl)
   clear hs1
   refine go_pvs 7 10 [7, 13, 14, 69, 70] hs (L' := [(7, .bool t12), (13, .pointer (some ad47)), (14, .int .i64 t43), (69, .agg (eSapi_Regs.enc t55).toArray), (70, .int .i64 t56)]) (by kernel_rfl) ?_ rfl
   clear hs; intro a hs
   obtain ⟨ad60, wd61, hx62, hw⟩ := x_alloc1 (P := Try.prog) (elem := 25) (ty := 0) (z := .agg (eSapi_Regs.enc (⟨(Vector.replicate 16 0), 0, false, false, false, false⟩ : Sapi_Regs)).toArray) hs hw eSapi_Regs (⟨(Vector.replicate 16 0), 0, false, false, false, false⟩ : Sapi_Regs) (by kernel_rfl) (by kernel_rfl)
   refine go_run hs (op := (Op.alloc 25)) (ty := 0) (dst := some 15) (g := none) (by kernel_rfl) (by kernel_rfl) (by kernel_rfl) hx62 [7, 13, 14, 15, 69, 70] (L' := [(7, .bool t12), (13, .pointer (some ad47)), (14, .int .i64 t43), (15, .pointer (some ad60)), (69, .agg (eSapi_Regs.enc t55).toArray), (70, .int .i64 t56)]) (by kernel_rfl) ?_
   clear hs; intro a hs
   obtain ⟨wd64, hx65, hw⟩ := x_put (P := Try.prog) (ty := 0) (t := 25) (x := (Operand.tmp 15)) (y := (Operand.tmp 69)) (off := 0) (p := ad60) (v := .agg (eSapi_Regs.enc t55).toArray) (vs := (eSapi_Regs.enc t55)) (i := 0) (e' := ((t55 : Sapi_Regs) : Sapi_Regs)) hs hw rfl (one_ok (⟨(Vector.replicate 16 0), 0, false, false, false, false⟩ : Sapi_Regs)).1 (one_ok (⟨(Vector.replicate 16 0), 0, false, false, false, false⟩ : Sapi_Regs)).2 (by kernel_rfl) (one_at _ _) (by kernel_rfl) rfl (by kernel_rfl) (Nat.le_of_ble_eq_true rfl) (eSapi_Regs.one _) (by kernel_rfl)
   refine go_unit hs (op := (Op.store 25 (Operand.tmp 15) (Operand.tmp 69))) (ty := 0) (dst := none) (g := none) (by kernel_rfl) (by kernel_rfl) (by kernel_rfl) hx65 [7, 13, 14, 15, 70] (L' := [(7, .bool t12), (13, .pointer (some ad47)), (14, .int .i64 t43), (15, .pointer (some ad60)), (70, .int .i64 t56)]) (by kernel_rfl) ?_
   clear hs; intro a hs
   replace hw : St [] w0 wd64 [own 25 eSapi_Regs (some ad60) 1 [(t55 : Sapi_Regs)], own 25 eSapi_Regs (some ad47) 1 [(t42 : Sapi_Regs)], own 25 eSapi_Regs (some ad2) 1 [({ a0 with R := vset a0.R (y23 : Int).toNat (wu32 y25) } : Sapi_Regs)], own 34 eA34 (some ad6) 1 [a1]] := hw
   refine go_pvs 12 13 [7, 13, 14, 15, 16] hs (L' := [(7, .bool t12), (13, .pointer (some ad47)), (14, .int .i64 t43), (15, .pointer (some ad60)), (16, .int .i64 t56)]) (by kernel_rfl) ?_ rfl
   clear hs; intro a hs
   refine go_end (by kernel_rfl) ?_
   refine hK53 _ _ ?_
   refine go_seq_k fun K66 hK66 => ?_
   have hJ3 : ∀ (v69 : Bool) (a : Act) (w : World), Slots a 82 [(6, .bool v69)] → St [] w0 w [own 25 eSapi_Regs (some ad60) 1 [(t55 : Sapi_Regs)], own 25 eSapi_Regs (some ad47) 1 [(t42 : Sapi_Regs)], own 25 eSapi_Regs (some ad2) 1 [({ a0 with R := vset a0.R (y23 : Int).toNat (wu32 y25) } : Sapi_Regs)], own 34 eA34 (some ad6) 1 [a1]] → rivetlaw04_AluSame.j3 v69 = some r → K66 a w := by
    intro v69 a w hs hw H
    unfold rivetlaw04_AluSame.j3 at H
    refine hK66 _ _ ?_
    refine wp_ret ?_
    obtain rfl := Option.some.inj H
    refine ret1 (t := 6) (v := .bool v69) hs (by kernel_rfl) (by kernel_rfl) ?_
    exact ⟨rfl, hw.only 0⟩
   refine go_region ?_
   refine go_pvs 0 2 [13, 14, 15, 16, 72] hs (L' := [(13, .pointer (some ad47)), (14, .int .i64 t43), (15, .pointer (some ad60)), (16, .int .i64 t56), (72, .bool t12)]) (by kernel_rfl) ?_ rfl
   clear hs; intro a hs
   cases hb67 : t12
   ·replace H := ite_f H (ff hb67)
    rw [hb67] at hs
    refine go_pvs 2 12 [6] hs (L' := [(6, .bool false)]) (by kernel_rfl) ?_ rfl
    clear hs; intro a hs
    refine go_end (by kernel_rfl) ?_
    replace hw := hw.up 3
    replace hw := hw.up 3
    replace hw := hw.up 3
    replace hw := hw.up 3
    replace hw := hw.only 4
    exact hJ3 false _ _ (hs.keep [6] (by kernel_rfl)) hw H
   ·replace H := ite_t H hb67
    rw [hb67] at hs
    refine go_run hs (op := (Op.load 25 (Operand.tmp 13))) (ty := 25) (dst := some 73) (g := some (1, true)) (by kernel_rfl) (by kernel_rfl) (by kernel_rfl) (x_lds (E := eSapi_Regs) (off := 0) (p := ad47) (cs := (eSapi_Regs.enc (t42 : Sapi_Regs))) (Rd.of_own (hw.up 1)) (one_ok (t42 : Sapi_Regs)).1 (one_ok (t42 : Sapi_Regs)).2 (by kernel_rfl) (one_at _ _) (by kernel_rfl) (by kernel_rfl) (by kernel_rfl)) [14, 15, 16, 72, 73] (L' := [(14, .int .i64 t43), (15, .pointer (some ad60)), (16, .int .i64 t56), (72, .bool true), (73, .agg (eSapi_Regs.enc (t42 : Sapi_Regs)).toArray)]) (by kernel_rfl) ?_
    clear hs; intro a hs
    refine go_run hs (op := (Op.load 25 (Operand.tmp 15))) (ty := 25) (dst := some 74) (g := some (1, true)) (by kernel_rfl) (by kernel_rfl) (by kernel_rfl) (x_lds (E := eSapi_Regs) (off := 0) (p := ad60) (cs := (eSapi_Regs.enc (t55 : Sapi_Regs))) (Rd.of_own (hw.up 0)) (one_ok (t55 : Sapi_Regs)).1 (one_ok (t55 : Sapi_Regs)).2 (by kernel_rfl) (one_at _ _) (by kernel_rfl) (by kernel_rfl) (by kernel_rfl)) [14, 16, 72, 73, 74] (L' := [(14, .int .i64 t43), (16, .int .i64 t56), (72, .bool true), (73, .agg (eSapi_Regs.enc (t42 : Sapi_Regs)).toArray), (74, .agg (eSapi_Regs.enc (t55 : Sapi_Regs)).toArray)]) (by kernel_rfl) ?_
    clear hs; intro a hs
    refine go_run hs (op := (Op.binOp BinOp.eql 25 (Operand.tmp 73) (Operand.tmp 74) 25)) (ty := 4) (dst := some 75) (g := some (1, true)) (by kernel_rfl) (by kernel_rfl) (by kernel_rfl) (x_eql (xs := (eSapi_Regs.enc (t42 : Sapi_Regs)).toArray) (ys := (eSapi_Regs.enc (t55 : Sapi_Regs)).toArray) (r := ((decide (((t42 : Sapi_Regs).R) = ((t55 : Sapi_Regs).R))) && ((((t42 : Sapi_Regs).H) == ((t55 : Sapi_Regs).H)) && ((((t42 : Sapi_Regs).N) == ((t55 : Sapi_Regs).N)) && ((((t42 : Sapi_Regs).Z) == ((t55 : Sapi_Regs).Z)) && ((((t42 : Sapi_Regs).C) == ((t55 : Sapi_Regs).C)) && ((((t42 : Sapi_Regs).V) == ((t55 : Sapi_Regs).V)) && true))))))) (by kernel_rfl) (by kernel_rfl) (by kernel_rfl) (eq_struct Try.underlying25 (by kernel_rfl) (eq_cons (a := .agg (eA23.enc ((t42 : Sapi_Regs).R)).toArray) (b := .agg (eA23.enc ((t55 : Sapi_Regs).R)).toArray) (r := (decide (((t42 : Sapi_Regs).R) = ((t55 : Sapi_Regs).R)))) (s := ((((t42 : Sapi_Regs).H) == ((t55 : Sapi_Regs).H)) && ((((t42 : Sapi_Regs).N) == ((t55 : Sapi_Regs).N)) && ((((t42 : Sapi_Regs).Z) == ((t55 : Sapi_Regs).Z)) && ((((t42 : Sapi_Regs).C) == ((t55 : Sapi_Regs).C)) && ((((t42 : Sapi_Regs).V) == ((t55 : Sapi_Regs).V)) && true)))))) (by kernel_rfl) (part_pv (by kernel_rfl)) (part_pv (by kernel_rfl)) (eq_vec (e := 22) (k' := .u32) (k := .u32) ((t42 : Sapi_Regs).R) ((t55 : Sapi_Regs).R) (by kernel_rfl) (by kernel_rfl) (by kernel_rfl) (by kernel_rfl) (by kernel_rfl)) (eq_cons (a := .int .u32 ((t42 : Sapi_Regs).H)) (b := .int .u32 ((t55 : Sapi_Regs).H)) (r := (((t42 : Sapi_Regs).H) == ((t55 : Sapi_Regs).H))) (s := ((((t42 : Sapi_Regs).N) == ((t55 : Sapi_Regs).N)) && ((((t42 : Sapi_Regs).Z) == ((t55 : Sapi_Regs).Z)) && ((((t42 : Sapi_Regs).C) == ((t55 : Sapi_Regs).C)) && ((((t42 : Sapi_Regs).V) == ((t55 : Sapi_Regs).V)) && true))))) (by kernel_rfl) (part_pv (by kernel_rfl)) (part_pv (by kernel_rfl)) (eq_pv (by kernel_rfl)) (eq_cons (a := .bool ((t42 : Sapi_Regs).N)) (b := .bool ((t55 : Sapi_Regs).N)) (r := (((t42 : Sapi_Regs).N) == ((t55 : Sapi_Regs).N))) (s := ((((t42 : Sapi_Regs).Z) == ((t55 : Sapi_Regs).Z)) && ((((t42 : Sapi_Regs).C) == ((t55 : Sapi_Regs).C)) && ((((t42 : Sapi_Regs).V) == ((t55 : Sapi_Regs).V)) && true)))) (by kernel_rfl) (part_pv (by kernel_rfl)) (part_pv (by kernel_rfl)) (eq_pv (by kernel_rfl)) (eq_cons (a := .bool ((t42 : Sapi_Regs).Z)) (b := .bool ((t55 : Sapi_Regs).Z)) (r := (((t42 : Sapi_Regs).Z) == ((t55 : Sapi_Regs).Z))) (s := ((((t42 : Sapi_Regs).C) == ((t55 : Sapi_Regs).C)) && ((((t42 : Sapi_Regs).V) == ((t55 : Sapi_Regs).V)) && true))) (by kernel_rfl) (part_pv (by kernel_rfl)) (part_pv (by kernel_rfl)) (eq_pv (by kernel_rfl)) (eq_cons (a := .bool ((t42 : Sapi_Regs).C)) (b := .bool ((t55 : Sapi_Regs).C)) (r := (((t42 : Sapi_Regs).C) == ((t55 : Sapi_Regs).C))) (s := ((((t42 : Sapi_Regs).V) == ((t55 : Sapi_Regs).V)) && true)) (by kernel_rfl) (part_pv (by kernel_rfl)) (part_pv (by kernel_rfl)) (eq_pv (by kernel_rfl)) (eq_cons (a := .bool ((t42 : Sapi_Regs).V)) (b := .bool ((t55 : Sapi_Regs).V)) (r := (((t42 : Sapi_Regs).V) == ((t55 : Sapi_Regs).V))) (s := true) (by kernel_rfl) (part_pv (by kernel_rfl)) (part_pv (by kernel_rfl)) (eq_pv (by kernel_rfl)) eq_nil)))))))) [14, 16, 72, 75] (L' := [(14, .int .i64 t43), (16, .int .i64 t56), (72, .bool true), (75, .bool ((decide (((t42 : Sapi_Regs).R) = ((t55 : Sapi_Regs).R))) && ((((t42 : Sapi_Regs).H) == ((t55 : Sapi_Regs).H)) && ((((t42 : Sapi_Regs).N) == ((t55 : Sapi_Regs).N)) && ((((t42 : Sapi_Regs).Z) == ((t55 : Sapi_Regs).Z)) && ((((t42 : Sapi_Regs).C) == ((t55 : Sapi_Regs).C)) && ((((t42 : Sapi_Regs).V) == ((t55 : Sapi_Regs).V)) && true)))))))]) (by kernel_rfl) ?_
    clear hs; intro a hs
    refine go_pvs 5 7 [14, 16, 77] hs (L' := [(14, .int .i64 t43), (16, .int .i64 t56), (77, .bool ((decide (((t42 : Sapi_Regs).R) = ((t55 : Sapi_Regs).R))) && ((((t42 : Sapi_Regs).H) == ((t55 : Sapi_Regs).H)) && ((((t42 : Sapi_Regs).N) == ((t55 : Sapi_Regs).N)) && ((((t42 : Sapi_Regs).Z) == ((t55 : Sapi_Regs).Z)) && ((((t42 : Sapi_Regs).C) == ((t55 : Sapi_Regs).C)) && ((((t42 : Sapi_Regs).V) == ((t55 : Sapi_Regs).V)) && true)))))))]) (by kernel_rfl) ?_ rfl
    clear hs; intro a hs
    cases hb68 : ((decide (((t42 : Sapi_Regs).R) = ((t55 : Sapi_Regs).R))) && ((((t42 : Sapi_Regs).H) == ((t55 : Sapi_Regs).H)) && ((((t42 : Sapi_Regs).N) == ((t55 : Sapi_Regs).N)) && ((((t42 : Sapi_Regs).Z) == ((t55 : Sapi_Regs).Z)) && ((((t42 : Sapi_Regs).C) == ((t55 : Sapi_Regs).C)) && ((((t42 : Sapi_Regs).V) == ((t55 : Sapi_Regs).V)) && true))))))
    ·replace H := ite_f H (ff hb68)
     rw [hb68] at hs
     refine go_pvs 7 12 [6] hs (L' := [(6, .bool false)]) (by kernel_rfl) ?_ rfl
     clear hs; intro a hs
     refine go_end (by kernel_rfl) ?_
     replace hw := hw.up 3
     replace hw := hw.up 3
     replace hw := hw.up 3
     replace hw := hw.up 3
     replace hw := hw.only 4
     exact hJ3 false _ _ (hs.keep [6] (by kernel_rfl)) hw H
    ·replace H := ite_t H hb68
     rw [hb68] at hs
     refine go_pvs 7 12 [6] hs (L' := [(6, .bool (t43 == t56))]) (by kernel_rfl) ?_ rfl
     clear hs; intro a hs
     refine go_end (by kernel_rfl) ?_
     replace hw := hw.up 3
     replace hw := hw.up 3
     replace hw := hw.up 3
     replace hw := hw.up 3
     replace hw := hw.only 4
     exact hJ3 (t43 == t56) _ _ (hs.keep [6] (by kernel_rfl)) hw H
  refine go_seq_k fun K32 hK32 => ?_
  refine go_region ?_
  refine go_pvs 0 2 [3, 7, 8, 9, 10, 11, 12, 45] hs (L' := [(3, .pointer (some ad2)), (7, .bool t12), (8, .int .i64 y17), (9, .int .i64 y19), (10, .int .i64 v30), (11, .int .i64 y23), (12, .int .i64 y25), (45, .bool (y17 == 0))]) (by kernel_rfl) ?_ rfl
  clear hs; intro a hs
  refine go_end (by kernel_rfl) ?_
  refine hK32 _ _ ?_
  refine go_cond hs (y17 == 0) (by kernel_rfl) (fun hc => ?_) (fun hc => ?_)
  ·replace H := ite_t H (beq_iff_eq.1 hc)
   have hb33 := hc
   rw [hb33] at hs
   refine go_region ?_
   refine go_pvs 0 1 [3, 7, 8, 9, 10, 11, 12] hs (L' := [(3, .pointer (some ad2)), (7, .bool t12), (8, .int .i64 y17), (9, .int .i64 y19), (10, .int .i64 0), (11, .int .i64 y23), (12, .int .i64 y25)]) (by kernel_rfl) ?_ rfl
   clear hs; intro a hs
   refine go_end (by kernel_rfl) ?_
   replace hw := hw.up 1
   replace hw := hw.up 1
   replace hw := hw.only 2
   exact hJ2 0 _ _ (hs.keep [3, 7, 8, 9, 10, 11, 12] (by kernel_rfl)) hw H
  ·replace H := ite_f H (beq_eq_false_iff_ne.1 hc)
   have hb34 := hc
   rw [hb34] at hs
   refine wp_skip ?_
   replace hw := hw.up 1
   replace hw := hw.up 1
   replace hw := hw.only 2
   exact hJ2 v30 _ _ (hs.keep [3, 7, 8, 9, 10, 11, 12] (by kernel_rfl)) hw H
 refine go_seq_k fun K27 hK27 => ?_
 refine go_region ?_
 refine go_pvs 0 3 [3, 7, 8, 9, 10, 11, 12, 40] hs (L' := [(3, .pointer (some ad2)), (7, .bool t12), (8, .int .i64 y17), (9, .int .i64 y19), (10, .int .i64 y21), (11, .int .i64 y23), (12, .int .i64 y25), (40, .bool (y21 == y23))]) (by kernel_rfl) ?_ rfl
 clear hs; intro a hs
 refine go_end (by kernel_rfl) ?_
 refine hK27 _ _ ?_
 refine go_cond hs (y21 == y23) (by kernel_rfl) (fun hc => ?_) (fun hc => ?_)
 ·replace H := ite_t H (beq_iff_eq.1 hc)
  have hb28 := hc
  rw [hb28] at hs
  refine go_region ?_
  refine go_pvs 0 4 [3, 7, 8, 9, 10, 11, 12] hs (L' := [(3, .pointer (some ad2)), (7, .bool t12), (8, .int .i64 y17), (9, .int .i64 y19), (10, .int .i64 ((w64 (y23 + 1)).tmod 16)), (11, .int .i64 y23), (12, .int .i64 y25)]) (by kernel_rfl) ?_ rfl
  clear hs; intro a hs
  refine go_end (by kernel_rfl) ?_
  replace hw := hw.up 1
  replace hw := hw.up 1
  replace hw := hw.only 2
  exact hJ1 ((w64 (y23 + 1)).tmod 16) _ _ (hs.keep [3, 7, 8, 9, 10, 11, 12] (by kernel_rfl)) hw H
 ·replace H := ite_f H (beq_eq_false_iff_ne.1 hc)
  have hb29 := hc
  rw [hb29] at hs
  refine wp_skip ?_
  replace hw := hw.up 1
  replace hw := hw.up 1
  replace hw := hw.only 2
  exact hJ1 y21 _ _ (hs.keep [3, 7, 8, 9, 10, 11, 12] (by kernel_rfl)) hw H

end Go.Proofs.Ytckefpenekolhaa.T04
