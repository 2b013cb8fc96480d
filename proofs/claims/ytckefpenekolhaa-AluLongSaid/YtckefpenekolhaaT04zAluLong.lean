/- YtckefpenekolhaaT04zAluLong: Go functions told as plain ones, each with a proof that its call comes to what is told, part 1. Condition of each: that the plain function comes to a value. -/
import Derived.Test.YtckefpenekolhaaT04
import Derived.Test.YtckefpenekolhaaEJ
import Derived.Test.YtckefpenekolhaaProg
namespace Go.Proofs.Ytckefpenekolhaa.T04
open Go Go.RowKit Go.Proofs.Ytckefpenekolhaa.E
set_option linter.unusedVariables false
set_option linter.unusedSimpArgs false

/-! rivet/rivetlaw04.AluLong: function 6 -/
noncomputable def rivetlaw04_AluLong.j1 (v109 : Bool) : Option Bool := some v109
noncomputable def rivetlaw04_AluLong (a0 : Sapi_Regs) (a1 : Int) (a2 : Int) : Option Bool := ((rivetlaw04_shown).bind fun t8 => (((alu_Do ({ ({ ({ ({ a0 with R := vset a0.R 1 (wu32 a1) } : Sapi_Regs) with R := vset (vset a0.R 1 (wu32 a1)) 2 (wu32 (a1.fdiv (2 ^ 32))) } : Sapi_Regs) with R := vset (vset (vset a0.R 1 (wu32 a1)) 2 (wu32 (a1.fdiv (2 ^ 32)))) 3 (wu32 a2) } : Sapi_Regs) with R := vset (vset (vset (vset a0.R 1 (wu32 a1)) 2 (wu32 (a1.fdiv (2 ^ 32)))) 3 (wu32 a2)) 4 (wu32 (a2.fdiv (2 ^ 32))) } : Sapi_Regs) (⟨1, 8, 5, 1, 3, 0, false⟩ : Sapi_Instr)).bind fun ⟨t26, t27⟩ => (((alu_Do (t26 : Sapi_Regs) (⟨1, 8, 6, 2, 4, 0, true⟩ : Sapi_Instr)).bind fun ⟨t39, t40⟩ => (((alu_Do ({ ({ ({ ({ a0 with R := vset a0.R 1 (wu32 a1) } : Sapi_Regs) with R := vset (vset a0.R 1 (wu32 a1)) 2 (wu32 (a1.fdiv (2 ^ 32))) } : Sapi_Regs) with R := vset (vset (vset a0.R 1 (wu32 a1)) 2 (wu32 (a1.fdiv (2 ^ 32)))) 3 (wu32 a2) } : Sapi_Regs) with R := vset (vset (vset (vset a0.R 1 (wu32 a1)) 2 (wu32 (a1.fdiv (2 ^ 32)))) 3 (wu32 a2)) 4 (wu32 (a2.fdiv (2 ^ 32))) } : Sapi_Regs) (⟨1, 9, 5, 1, 3, 0, false⟩ : Sapi_Instr)).bind fun ⟨t52, t53⟩ => (((alu_Do (t52 : Sapi_Regs) (⟨1, 9, 6, 2, 4, 0, true⟩ : Sapi_Instr)).bind fun ⟨t65, t66⟩ => (((alu_Do ({ ({ ({ ({ a0 with R := vset a0.R 1 (wu32 a1) } : Sapi_Regs) with R := vset (vset a0.R 1 (wu32 a1)) 2 (wu32 (a1.fdiv (2 ^ 32))) } : Sapi_Regs) with R := vset (vset (vset a0.R 1 (wu32 a1)) 2 (wu32 (a1.fdiv (2 ^ 32)))) 3 (wu32 a2) } : Sapi_Regs) with R := vset (vset (vset (vset a0.R 1 (wu32 a1)) 2 (wu32 (a1.fdiv (2 ^ 32)))) 3 (wu32 a2)) 4 (wu32 (a2.fdiv (2 ^ 32))) } : Sapi_Regs) (⟨1, 10, 5, 1, 3, 0, true⟩ : Sapi_Instr)).bind fun ⟨t78, t79⟩ => (((alu_Do ({ ({ ({ ({ a0 with R := vset a0.R 1 (wu32 a1) } : Sapi_Regs) with R := vset (vset a0.R 1 (wu32 a1)) 2 (wu32 (a1.fdiv (2 ^ 32))) } : Sapi_Regs) with R := vset (vset (vset a0.R 1 (wu32 a1)) 2 (wu32 (a1.fdiv (2 ^ 32)))) 3 (wu32 a2) } : Sapi_Regs) with R := vset (vset (vset (vset a0.R 1 (wu32 a1)) 2 (wu32 (a1.fdiv (2 ^ 32)))) 3 (wu32 a2)) 4 (wu32 (a2.fdiv (2 ^ 32))) } : Sapi_Regs) (⟨1, 10, 5, 1, 3, 0, false⟩ : Sapi_Instr)).bind fun ⟨t91, t92⟩ => ((nm (w64 ((w64 (w32 a1)) * (w64 (w32 a2)))) fun y103 => (if t8 = true then (if (bor .u64 (wu64 ((wu64 (vx 0 ((t39 : Sapi_Regs).R) 6)) * 2 ^ 32)) (wu64 (vx 0 ((t39 : Sapi_Regs).R) 5))) = (wu64 (a1 + a2)) then (if (bor .u64 (wu64 ((wu64 (vx 0 ((t65 : Sapi_Regs).R) 6)) * 2 ^ 32)) (wu64 (vx 0 ((t65 : Sapi_Regs).R) 5))) = (wu64 (a1 - a2)) then (if (bor .u64 (wu64 ((wu64 ((t78 : Sapi_Regs).H)) * 2 ^ 32)) (wu64 (vx 0 ((t78 : Sapi_Regs).R) 5))) = (wu64 ((wu64 (wu32 a1)) * (wu64 (wu32 a2)))) then rivetlaw04_AluLong.j1 ((bor .u64 (wu64 ((wu64 ((t91 : Sapi_Regs).H)) * 2 ^ 32)) (wu64 (vx 0 ((t91 : Sapi_Regs).R) 5))) == (wu64 y103)) else rivetlaw04_AluLong.j1 false) else rivetlaw04_AluLong.j1 false) else rivetlaw04_AluLong.j1 false) else rivetlaw04_AluLong.j1 false))))))))))))))))
set_option maxRecDepth 100000 in
set_option maxHeartbeats 4000000 in
theorem rivetlaw04_AluLong.calls (a0 : Sapi_Regs) (a1 : Int) (a2 : Int) (r : Bool) (w0 : World) (H : rivetlaw04_AluLong a0 a1 a2 = some r) :
    Calls Try.prog 6 #[.agg (eSapi_Regs.enc a0).toArray, .int .u64 a1, .int .u64 a2] w0 fun e w' => e = .returned (.bool r) ∧ St [] w0 w' [] := by
 have hw : St [] w0 w0 [] := St.nil w0
 unfold rivetlaw04_AluLong at H
 refine go_fn Try.func6 rfl 149 Try.ntmps6 [(0, .agg (eSapi_Regs.enc a0).toArray), (1, .int .u64 a1), (2, .int .u64 a2)] (by kernel_rfl) rfl ?_
 intro a hs
 refine go_seq_k fun K1 hK1 => ?_
 refine go_region ?_
 obtain ⟨ad2, wd3, hx4, hw⟩ := x_box1 (P := Try.prog) (elem := 25) (v := (Operand.tmp 0)) (ty := 0) hs hw eSapi_Regs a0 (by kernel_rfl)
 refine go_run hs (op := (Op.box 25 (Operand.tmp 0))) (ty := 0) (dst := some 3) (g := none) (by kernel_rfl) (by kernel_rfl) (by kernel_rfl) hx4 [1, 2, 3] (L' := [(1, .int .u64 a1), (2, .int .u64 a2), (3, .pointer (some ad2))]) (by kernel_rfl) ?_
 clear hs; intro a hs
 refine go_pvs 1 2 [1, 2, 3] hs (L' := [(1, .int .u64 a1), (2, .int .u64 a2), (3, .pointer (some ad2))]) (by kernel_rfl) ?_ rfl
 clear hs; intro a hs
 refine go_end (by kernel_rfl) ?_
 refine hK1 _ _ ?_
 refine go_seq_k fun K6 hK6 => ?_
 refine go_region ?_
 obtain ⟨t8, hx9, H⟩ := bind_some H
 refine go_call hs (op := (Op.call { callee := (Callee.value (Operand.func 10)), args := #[], argTypes := #[] })) (ty := 4) (dst := some 21) (g := none) (by kernel_rfl) (by kernel_rfl) (by kernel_rfl) (f := 10) (args := #[]) (by kernel_rfl) (rivetlaw04_shown.calls t8 _ hx9) ?_
 rintro e wd10 ⟨rfl, hw11⟩
 refine ⟨_, rfl, ?_⟩
 replace hw := hw.call hw11
 intro a hs1
 replace hs : Slots a 149 [(1, .int .u64 a1), (2, .int .u64 a2), (3, .pointer (some ad2)), (21, .bool t8)] := hs1.keep [1, 2, 3, 21] (by kernel_rfl)
 clear hs1
 refine go_pvs 1 2 [1, 2, 3, 7] hs (L' := [(1, .int .u64 a1), (2, .int .u64 a2), (3, .pointer (some ad2)), (7, .bool t8)]) (by kernel_rfl) ?_ rfl
 clear hs; intro a hs
 refine go_end (by kernel_rfl) ?_
 refine hK6 _ _ ?_
 refine go_seq_k fun K12 hK12 => ?_
 refine go_region ?_
 refine go_pvs 0 3 [1, 2, 3, 7, 23, 24] hs (L' := [(1, .int .u64 a1), (2, .int .u64 a2), (3, .pointer (some ad2)), (7, .bool t8), (23, .int .u32 (wu32 a1)), (24, .pointer (some ((ad2 : Addr).add 0)))]) (by kernel_rfl) ?_ rfl
 clear hs; intro a hs
 refine go_run hs (op := (Op.indexAddr 23 (Operand.tmp 24) (Operand.const (Value.int IntKind.i64 1)))) (ty := 0) (dst := some 25) (g := none) (by kernel_rfl) (by kernel_rfl) (by kernel_rfl) (x_vidx (e := 22) (p := (ad2 : Addr).add 0) (n := 16) (k := .i64) (i := 1) (sz := 1) (by kernel_rfl) (by kernel_rfl) (by kernel_rfl) (by kernel_rfl) (⟨by decide, by decide⟩ : (0 : Int) ≤ 1 ∧ (1 : Int) < ((16 : Nat) : Int)).1 (⟨by decide, by decide⟩ : (0 : Int) ≤ 1 ∧ (1 : Int) < ((16 : Nat) : Int)).2) [1, 2, 3, 7, 23, 25] (L' := [(1, .int .u64 a1), (2, .int .u64 a2), (3, .pointer (some ad2)), (7, .bool t8), (23, .int .u32 (wu32 a1)), (25, .pointer (some (((ad2 : Addr).add 0 : Addr).add ((1 : Int).toNat * 1))))]) (by kernel_rfl) ?_
 clear hs; intro a hs
 obtain ⟨wd13, hx14, hw⟩ := x_put (P := Try.prog) (ty := 0) (t := 22) (x := (Operand.tmp 25)) (y := (Operand.tmp 23)) (off := 0 + 1 * 1) (p := ((ad2 : Addr).add 0 : Addr).add ((1 : Int).toNat * 1)) (v := .int .u32 (wu32 a1)) (vs := [.int .u32 (wu32 a1)]) (i := 0) (e' := (({ a0 with R := vset a0.R 1 (wu32 a1) } : Sapi_Regs) : Sapi_Regs)) hs hw rfl (one_ok a0).1 (one_ok a0).2 (by kernel_rfl) (by simp only [add_add', Int.toNat_zero, Nat.zero_mul, Nat.zero_add, Nat.mul_one] <;> rfl) (by kernel_rfl) rfl (by kernel_rfl) (by have := (⟨by decide, by decide⟩ : (0 : Int) ≤ 1 ∧ (1 : Int) < ((16 : Nat) : Int)); show 0 + _ * 1 + 1 ≤ 21; omega) (by simp [Value.oneCell']) (vput (cs := eSapi_Regs.enc a0) (cs' := eSapi_Regs.enc ({ a0 with R := vset a0.R 1 (wu32 a1) } : Sapi_Regs)) (pre := []) (post := [.int .u32 a0.H, .bool a0.N, .bool a0.Z, .bool a0.C, .bool a0.V]) (f := (fun j : Nat => .int .u32 (vx 0 a0.R j))) (f' := (fun j : Nat => .int .u32 (vx 0 (vset a0.R 1 (wu32 a1)) j))) (n := 16) (o := 0) (i := 1) (v := .int .u32 (wu32 a1)) (by kernel_rfl) (by kernel_rfl) rfl (by have := (⟨by decide, by decide⟩ : (0 : Int) ≤ 1 ∧ (1 : Int) < ((16 : Nat) : Int)); omega) (vx_put (by have := (⟨by decide, by decide⟩ : (0 : Int) ≤ 1 ∧ (1 : Int) < ((16 : Nat) : Int)); omega)))
 refine go_unit hs (op := (Op.store 22 (Operand.tmp 25) (Operand.tmp 23))) (ty := 0) (dst := none) (g := none) (by kernel_rfl) (by kernel_rfl) (by kernel_rfl) hx14 [1, 2, 3, 7] (L' := [(1, .int .u64 a1), (2, .int .u64 a2), (3, .pointer (some ad2)), (7, .bool t8)]) (by kernel_rfl) ?_
 clear hs; intro a hs
 replace hw : St [] w0 wd13 [own 25 eSapi_Regs (some ad2) 1 [({ a0 with R := vset a0.R 1 (wu32 a1) } : Sapi_Regs)]] := hw
 refine go_end (by kernel_rfl) ?_
 refine hK12 _ _ ?_
 refine go_seq_k fun K15 hK15 => ?_
 refine go_region ?_
 refine go_pvs 0 4 [1, 2, 3, 7, 28, 29] hs (L' := [(1, .int .u64 a1), (2, .int .u64 a2), (3, .pointer (some ad2)), (7, .bool t8), (28, .int .u32 (wu32 (a1.fdiv (2 ^ 32)))), (29, .pointer (some ((ad2 : Addr).add 0)))]) (by kernel_rfl) ?_ rfl
 clear hs; intro a hs
 refine go_run hs (op := (Op.indexAddr 23 (Operand.tmp 29) (Operand.const (Value.int IntKind.i64 2)))) (ty := 0) (dst := some 30) (g := none) (by kernel_rfl) (by kernel_rfl) (by kernel_rfl) (x_vidx (e := 22) (p := (ad2 : Addr).add 0) (n := 16) (k := .i64) (i := 2) (sz := 1) (by kernel_rfl) (by kernel_rfl) (by kernel_rfl) (by kernel_rfl) (⟨by decide, by decide⟩ : (0 : Int) ≤ 2 ∧ (2 : Int) < ((16 : Nat) : Int)).1 (⟨by decide, by decide⟩ : (0 : Int) ≤ 2 ∧ (2 : Int) < ((16 : Nat) : Int)).2) [1, 2, 3, 7, 28, 30] (L' := [(1, .int .u64 a1), (2, .int .u64 a2), (3, .pointer (some ad2)), (7, .bool t8), (28, .int .u32 (wu32 (a1.fdiv (2 ^ 32)))), (30, .pointer (some (((ad2 : Addr).add 0 : Addr).add ((2 : Int).toNat * 1))))]) (by kernel_rfl) ?_
 clear hs; intro a hs
 obtain ⟨wd16, hx17, hw⟩ := x_put (P := Try.prog) (ty := 0) (t := 22) (x := (Operand.tmp 30)) (y := (Operand.tmp 28)) (off := 0 + 2 * 1) (p := ((ad2 : Addr).add 0 : Addr).add ((2 : Int).toNat * 1)) (v := .int .u32 (wu32 (a1.fdiv (2 ^ 32)))) (vs := [.int .u32 (wu32 (a1.fdiv (2 ^ 32)))]) (i := 0) (e' := (({ ({ a0 with R := vset a0.R 1 (wu32 a1) } : Sapi_Regs) with R := vset (vset a0.R 1 (wu32 a1)) 2 (wu32 (a1.fdiv (2 ^ 32))) } : Sapi_Regs) : Sapi_Regs)) hs hw rfl (one_ok ({ a0 with R := vset a0.R 1 (wu32 a1) } : Sapi_Regs)).1 (one_ok ({ a0 with R := vset a0.R 1 (wu32 a1) } : Sapi_Regs)).2 (by kernel_rfl) (by simp only [add_add', Int.toNat_zero, Nat.zero_mul, Nat.zero_add, Nat.mul_one] <;> rfl) (by kernel_rfl) rfl (by kernel_rfl) (by have := (⟨by decide, by decide⟩ : (0 : Int) ≤ 2 ∧ (2 : Int) < ((16 : Nat) : Int)); show 0 + _ * 1 + 1 ≤ 21; omega) (by simp [Value.oneCell']) (vput (cs := eSapi_Regs.enc ({ a0 with R := vset a0.R 1 (wu32 a1) } : Sapi_Regs)) (cs' := eSapi_Regs.enc ({ ({ a0 with R := vset a0.R 1 (wu32 a1) } : Sapi_Regs) with R := vset (vset a0.R 1 (wu32 a1)) 2 (wu32 (a1.fdiv (2 ^ 32))) } : Sapi_Regs)) (pre := []) (post := [.int .u32 a0.H, .bool a0.N, .bool a0.Z, .bool a0.C, .bool a0.V]) (f := (fun j : Nat => .int .u32 (vx 0 (vset a0.R 1 (wu32 a1)) j))) (f' := (fun j : Nat => .int .u32 (vx 0 (vset (vset a0.R 1 (wu32 a1)) 2 (wu32 (a1.fdiv (2 ^ 32)))) j))) (n := 16) (o := 0) (i := 2) (v := .int .u32 (wu32 (a1.fdiv (2 ^ 32)))) (by kernel_rfl) (by kernel_rfl) rfl (by have := (⟨by decide, by decide⟩ : (0 : Int) ≤ 2 ∧ (2 : Int) < ((16 : Nat) : Int)); omega) (vx_put (by have := (⟨by decide, by decide⟩ : (0 : Int) ≤ 2 ∧ (2 : Int) < ((16 : Nat) : Int)); omega)))
 refine go_unit hs (op := (Op.store 22 (Operand.tmp 30) (Operand.tmp 28))) (ty := 0) (dst := none) (g := none) (by kernel_rfl) (by kernel_rfl) (by kernel_rfl) hx17 [1, 2, 3, 7] (L' := [(1, .int .u64 a1), (2, .int .u64 a2), (3, .pointer (some ad2)), (7, .bool t8)]) (by kernel_rfl) ?_
 clear hs; intro a hs
 replace hw : St [] w0 wd16 [own 25 eSapi_Regs (some ad2) 1 [({ ({ a0 with R := vset a0.R 1 (wu32 a1) } : Sapi_Regs) with R := vset (vset a0.R 1 (wu32 a1)) 2 (wu32 (a1.fdiv (2 ^ 32))) } : Sapi_Regs)]] := hw
 refine go_end (by kernel_rfl) ?_
 refine hK15 _ _ ?_
 refine go_seq_k fun K18 hK18 => ?_
 refine go_region ?_
 refine go_pvs 0 3 [1, 2, 3, 7, 32, 33] hs (L' := [(1, .int .u64 a1), (2, .int .u64 a2), (3, .pointer (some ad2)), (7, .bool t8), (32, .int .u32 (wu32 a2)), (33, .pointer (some ((ad2 : Addr).add 0)))]) (by kernel_rfl) ?_ rfl
 clear hs; intro a hs
 refine go_run hs (op := (Op.indexAddr 23 (Operand.tmp 33) (Operand.const (Value.int IntKind.i64 3)))) (ty := 0) (dst := some 34) (g := none) (by kernel_rfl) (by kernel_rfl) (by kernel_rfl) (x_vidx (e := 22) (p := (ad2 : Addr).add 0) (n := 16) (k := .i64) (i := 3) (sz := 1) (by kernel_rfl) (by kernel_rfl) (by kernel_rfl) (by kernel_rfl) (⟨by decide, by decide⟩ : (0 : Int) ≤ 3 ∧ (3 : Int) < ((16 : Nat) : Int)).1 (⟨by decide, by decide⟩ : (0 : Int) ≤ 3 ∧ (3 : Int) < ((16 : Nat) : Int)).2) [1, 2, 3, 7, 32, 34] (L' := [(1, .int .u64 a1), (2, .int .u64 a2), (3, .pointer (some ad2)), (7, .bool t8), (32, .int .u32 (wu32 a2)), (34, .pointer (some (((ad2 : Addr).add 0 : Addr).add ((3 : Int).toNat * 1))))]) (by kernel_rfl) ?_
 clear hs; intro a hs
 obtain ⟨wd19, hx20, hw⟩ := x_put (P := Try.prog) (ty := 0) (t := 22) (x := (Operand.tmp 34)) (y := (Operand.tmp 32)) (off := 0 + 3 * 1) (p := ((ad2 : Addr).add 0 : Addr).add ((3 : Int).toNat * 1)) (v := .int .u32 (wu32 a2)) (vs := [.int .u32 (wu32 a2)]) (i := 0) (e' := (({ ({ ({ a0 with R := vset a0.R 1 (wu32 a1) } : Sapi_Regs) with R := vset (vset a0.R 1 (wu32 a1)) 2 (wu32 (a1.fdiv (2 ^ 32))) } : Sapi_Regs) with R := vset (vset (vset a0.R 1 (wu32 a1)) 2 (wu32 (a1.fdiv (2 ^ 32)))) 3 (wu32 a2) } : Sapi_Regs) : Sapi_Regs)) hs hw rfl (one_ok ({ ({ a0 with R := vset a0.R 1 (wu32 a1) } : Sapi_Regs) with R := vset (vset a0.R 1 (wu32 a1)) 2 (wu32 (a1.fdiv (2 ^ 32))) } : Sapi_Regs)).1 (one_ok ({ ({ a0 with R := vset a0.R 1 (wu32 a1) } : Sapi_Regs) with R := vset (vset a0.R 1 (wu32 a1)) 2 (wu32 (a1.fdiv (2 ^ 32))) } : Sapi_Regs)).2 (by kernel_rfl) (by simp only [add_add', Int.toNat_zero, Nat.zero_mul, Nat.zero_add, Nat.mul_one] <;> rfl) (by kernel_rfl) rfl (by kernel_rfl) (by have := (⟨by decide, by decide⟩ : (0 : Int) ≤ 3 ∧ (3 : Int) < ((16 : Nat) : Int)); show 0 + _ * 1 + 1 ≤ 21; omega) (by simp [Value.oneCell']) (vput (cs := eSapi_Regs.enc ({ ({ a0 with R := vset a0.R 1 (wu32 a1) } : Sapi_Regs) with R := vset (vset a0.R 1 (wu32 a1)) 2 (wu32 (a1.fdiv (2 ^ 32))) } : Sapi_Regs)) (cs' := eSapi_Regs.enc ({ ({ ({ a0 with R := vset a0.R 1 (wu32 a1) } : Sapi_Regs) with R := vset (vset a0.R 1 (wu32 a1)) 2 (wu32 (a1.fdiv (2 ^ 32))) } : Sapi_Regs) with R := vset (vset (vset a0.R 1 (wu32 a1)) 2 (wu32 (a1.fdiv (2 ^ 32)))) 3 (wu32 a2) } : Sapi_Regs)) (pre := []) (post := [.int .u32 a0.H, .bool a0.N, .bool a0.Z, .bool a0.C, .bool a0.V]) (f := (fun j : Nat => .int .u32 (vx 0 (vset (vset a0.R 1 (wu32 a1)) 2 (wu32 (a1.fdiv (2 ^ 32)))) j))) (f' := (fun j : Nat => .int .u32 (vx 0 (vset (vset (vset a0.R 1 (wu32 a1)) 2 (wu32 (a1.fdiv (2 ^ 32)))) 3 (wu32 a2)) j))) (n := 16) (o := 0) (i := 3) (v := .int .u32 (wu32 a2)) (by kernel_rfl) (by kernel_rfl) rfl (by have := (⟨by decide, by decide⟩ : (0 : Int) ≤ 3 ∧ (3 : Int) < ((16 : Nat) : Int)); omega) (vx_put (by have := (⟨by decide, by decide⟩ : (0 : Int) ≤ 3 ∧ (3 : Int) < ((16 : Nat) : Int)); omega)))
 refine go_unit hs (op := (Op.store 22 (Operand.tmp 34) (Operand.tmp 32))) (ty := 0) (dst := none) (g := none) (by kernel_rfl) (by kernel_rfl) (by kernel_rfl) hx20 [1, 2, 3, 7] (L' := [(1, .int .u64 a1), (2, .int .u64 a2), (3, .pointer (some ad2)), (7, .bool t8)]) (by kernel_rfl) ?_
 clear hs; intro a hs
 replace hw : St [] w0 wd19 [own 25 eSapi_Regs (some ad2) 1 [({ ({ ({ a0 with R := vset a0.R 1 (wu32 a1) } : Sapi_Regs) with R := vset (vset a0.R 1 (wu32 a1)) 2 (wu32 (a1.fdiv (2 ^ 32))) } : Sapi_Regs) with R := vset (vset (vset a0.R 1 (wu32 a1)) 2 (wu32 (a1.fdiv (2 ^ 32)))) 3 (wu32 a2) } : Sapi_Regs)]] := hw
 refine go_end (by kernel_rfl) ?_
 refine hK18 _ _ ?_
 refine go_seq_k fun K21 hK21 => ?_
 refine go_region ?_
 refine go_pvs 0 4 [1, 2, 3, 7, 37, 38] hs (L' := [(1, .int .u64 a1), (2, .int .u64 a2), (3, .pointer (some ad2)), (7, .bool t8), (37, .int .u32 (wu32 (a2.fdiv (2 ^ 32)))), (38, .pointer (some ((ad2 : Addr).add 0)))]) (by kernel_rfl) ?_ rfl
 clear hs; intro a hs
 refine go_run hs (op := (Op.indexAddr 23 (Operand.tmp 38) (Operand.const (Value.int IntKind.i64 4)))) (ty := 0) (dst := some 39) (g := none) (by kernel_rfl) (by kernel_rfl) (by kernel_rfl) (x_vidx (e := 22) (p := (ad2 : Addr).add 0) (n := 16) (k := .i64) (i := 4) (sz := 1) (by kernel_rfl) (by kernel_rfl) (by kernel_rfl) (by kernel_rfl) (⟨by decide, by decide⟩ : (0 : Int) ≤ 4 ∧ (4 : Int) < ((16 : Nat) : Int)).1 (⟨by decide, by decide⟩ : (0 : Int) ≤ 4 ∧ (4 : Int) < ((16 : Nat) : Int)).2) [1, 2, 3, 7, 37, 39] (L' := [(1, .int .u64 a1), (2, .int .u64 a2), (3, .pointer (some ad2)), (7, .bool t8), (37, .int .u32 (wu32 (a2.fdiv (2 ^ 32)))), (39, .pointer (some (((ad2 : Addr).add 0 : Addr).add ((4 : Int).toNat * 1))))]) (by kernel_rfl) ?_
 clear hs; intro a hs
 obtain ⟨wd22, hx23, hw⟩ := x_put (P := Try.prog) (ty := 0) (t := 22) (x := (Operand.tmp 39)) (y := (Operand.tmp 37)) (off := 0 + 4 * 1) (p := ((ad2 : Addr).add 0 : Addr).add ((4 : Int).toNat * 1)) (v := .int .u32 (wu32 (a2.fdiv (2 ^ 32)))) (vs := [.int .u32 (wu32 (a2.fdiv (2 ^ 32)))]) (i := 0) (e' := (({ ({ ({ ({ a0 with R := vset a0.R 1 (wu32 a1) } : Sapi_Regs) with R := vset (vset a0.R 1 (wu32 a1)) 2 (wu32 (a1.fdiv (2 ^ 32))) } : Sapi_Regs) with R := vset (vset (vset a0.R 1 (wu32 a1)) 2 (wu32 (a1.fdiv (2 ^ 32)))) 3 (wu32 a2) } : Sapi_Regs) with R := vset (vset (vset (vset a0.R 1 (wu32 a1)) 2 (wu32 (a1.fdiv (2 ^ 32)))) 3 (wu32 a2)) 4 (wu32 (a2.fdiv (2 ^ 32))) } : Sapi_Regs) : Sapi_Regs)) hs hw rfl (one_ok ({ ({ ({ a0 with R := vset a0.R 1 (wu32 a1) } : Sapi_Regs) with R := vset (vset a0.R 1 (wu32 a1)) 2 (wu32 (a1.fdiv (2 ^ 32))) } : Sapi_Regs) with R := vset (vset (vset a0.R 1 (wu32 a1)) 2 (wu32 (a1.fdiv (2 ^ 32)))) 3 (wu32 a2) } : Sapi_Regs)).1 (one_ok ({ ({ ({ a0 with R := vset a0.R 1 (wu32 a1) } : Sapi_Regs) with R := vset (vset a0.R 1 (wu32 a1)) 2 (wu32 (a1.fdiv (2 ^ 32))) } : Sapi_Regs) with R := vset (vset (vset a0.R 1 (wu32 a1)) 2 (wu32 (a1.fdiv (2 ^ 32)))) 3 (wu32 a2) } : Sapi_Regs)).2 (by kernel_rfl) (by simp only [add_add', Int.toNat_zero, Nat.zero_mul, Nat.zero_add, Nat.mul_one] <;> rfl) (by kernel_rfl) rfl (by kernel_rfl) (by have := (⟨by decide, by decide⟩ : (0 : Int) ≤ 4 ∧ (4 : Int) < ((16 : Nat) : Int)); show 0 + _ * 1 + 1 ≤ 21; omega) (by simp [Value.oneCell']) (vput (cs := eSapi_Regs.enc ({ ({ ({ a0 with R := vset a0.R 1 (wu32 a1) } : Sapi_Regs) with R := vset (vset a0.R 1 (wu32 a1)) 2 (wu32 (a1.fdiv (2 ^ 32))) } : Sapi_Regs) with R := vset (vset (vset a0.R 1 (wu32 a1)) 2 (wu32 (a1.fdiv (2 ^ 32)))) 3 (wu32 a2) } : Sapi_Regs)) (cs' := eSapi_Regs.enc ({ ({ ({ ({ a0 with R := vset a0.R 1 (wu32 a1) } : Sapi_Regs) with R := vset (vset a0.R 1 (wu32 a1)) 2 (wu32 (a1.fdiv (2 ^ 32))) } : Sapi_Regs) with R := vset (vset (vset a0.R 1 (wu32 a1)) 2 (wu32 (a1.fdiv (2 ^ 32)))) 3 (wu32 a2) } : Sapi_Regs) with R := vset (vset (vset (vset a0.R 1 (wu32 a1)) 2 (wu32 (a1.fdiv (2 ^ 32)))) 3 (wu32 a2)) 4 (wu32 (a2.fdiv (2 ^ 32))) } : Sapi_Regs)) (pre := []) (post := [.int .u32 a0.H, .bool a0.N, .bool a0.Z, .bool a0.C, .bool a0.V]) (f := (fun j : Nat => .int .u32 (vx 0 (vset (vset (vset a0.R 1 (wu32 a1)) 2 (wu32 (a1.fdiv (2 ^ 32)))) 3 (wu32 a2)) j))) (f' := (fun j : Nat => .int .u32 (vx 0 (vset (vset (vset (vset a0.R 1 (wu32 a1)) 2 (wu32 (a1.fdiv (2 ^ 32)))) 3 (wu32 a2)) 4 (wu32 (a2.fdiv (2 ^ 32)))) j))) (n := 16) (o := 0) (i := 4) (v := .int .u32 (wu32 (a2.fdiv (2 ^ 32)))) (by kernel_rfl) (by kernel_rfl) rfl (by have := (⟨by decide, by decide⟩ : (0 : Int) ≤ 4 ∧ (4 : Int) < ((16 : Nat) : Int)); omega) (vx_put (by have := (⟨by decide, by decide⟩ : (0 : Int) ≤ 4 ∧ (4 : Int) < ((16 : Nat) : Int)); omega)))
 refine go_unit hs (op := (Op.store 22 (Operand.tmp 39) (Operand.tmp 37))) (ty := 0) (dst := none) (g := none) (by kernel_rfl) (by kernel_rfl) (by kernel_rfl) hx23 [1, 2, 3, 7] (L' := [(1, .int .u64 a1), (2, .int .u64 a2), (3, .pointer (some ad2)), (7, .bool t8)]) (by kernel_rfl) ?_
 clear hs; intro a hs
 replace hw : St [] w0 wd22 [own 25 eSapi_Regs (some ad2) 1 [({ ({ ({ ({ a0 with R := vset a0.R 1 (wu32 a1) } : Sapi_Regs) with R := vset (vset a0.R 1 (wu32 a1)) 2 (wu32 (a1.fdiv (2 ^ 32))) } : Sapi_Regs) with R := vset (vset (vset a0.R 1 (wu32 a1)) 2 (wu32 (a1.fdiv (2 ^ 32)))) 3 (wu32 a2) } : Sapi_Regs) with R := vset (vset (vset (vset a0.R 1 (wu32 a1)) 2 (wu32 (a1.fdiv (2 ^ 32)))) 3 (wu32 a2)) 4 (wu32 (a2.fdiv (2 ^ 32))) } : Sapi_Regs)]] := hw
 refine go_end (by kernel_rfl) ?_
 refine hK21 _ _ ?_
 refine go_seq_k fun K24 hK24 => ?_
 refine go_region ?_
 refine go_run hs (op := (Op.load 25 (Operand.tmp 3))) (ty := 25) (dst := some 41) (g := none) (by kernel_rfl) (by kernel_rfl) (by kernel_rfl) (x_lds (E := eSapi_Regs) (off := 0) (p := ad2) (cs := (eSapi_Regs.enc ({ ({ ({ ({ a0 with R := vset a0.R 1 (wu32 a1) } : Sapi_Regs) with R := vset (vset a0.R 1 (wu32 a1)) 2 (wu32 (a1.fdiv (2 ^ 32))) } : Sapi_Regs) with R := vset (vset (vset a0.R 1 (wu32 a1)) 2 (wu32 (a1.fdiv (2 ^ 32)))) 3 (wu32 a2) } : Sapi_Regs) with R := vset (vset (vset (vset a0.R 1 (wu32 a1)) 2 (wu32 (a1.fdiv (2 ^ 32)))) 3 (wu32 a2)) 4 (wu32 (a2.fdiv (2 ^ 32))) } : Sapi_Regs))) (Rd.of_own (hw.up 0)) (one_ok ({ ({ ({ ({ a0 with R := vset a0.R 1 (wu32 a1) } : Sapi_Regs) with R := vset (vset a0.R 1 (wu32 a1)) 2 (wu32 (a1.fdiv (2 ^ 32))) } : Sapi_Regs) with R := vset (vset (vset a0.R 1 (wu32 a1)) 2 (wu32 (a1.fdiv (2 ^ 32)))) 3 (wu32 a2) } : Sapi_Regs) with R := vset (vset (vset (vset a0.R 1 (wu32 a1)) 2 (wu32 (a1.fdiv (2 ^ 32)))) 3 (wu32 a2)) 4 (wu32 (a2.fdiv (2 ^ 32))) } : Sapi_Regs)).1 (one_ok ({ ({ ({ ({ a0 with R := vset a0.R 1 (wu32 a1) } : Sapi_Regs) with R := vset (vset a0.R 1 (wu32 a1)) 2 (wu32 (a1.fdiv (2 ^ 32))) } : Sapi_Regs) with R := vset (vset (vset a0.R 1 (wu32 a1)) 2 (wu32 (a1.fdiv (2 ^ 32)))) 3 (wu32 a2) } : Sapi_Regs) with R := vset (vset (vset (vset a0.R 1 (wu32 a1)) 2 (wu32 (a1.fdiv (2 ^ 32)))) 3 (wu32 a2)) 4 (wu32 (a2.fdiv (2 ^ 32))) } : Sapi_Regs)).2 (by kernel_rfl) (one_at _ _) (by kernel_rfl) (by kernel_rfl) (by kernel_rfl)) [1, 2, 3, 7, 41] (L' := [(1, .int .u64 a1), (2, .int .u64 a2), (3, .pointer (some ad2)), (7, .bool t8), (41, .agg (eSapi_Regs.enc ({ ({ ({ ({ a0 with R := vset a0.R 1 (wu32 a1) } : Sapi_Regs) with R := vset (vset a0.R 1 (wu32 a1)) 2 (wu32 (a1.fdiv (2 ^ 32))) } : Sapi_Regs) with R := vset (vset (vset a0.R 1 (wu32 a1)) 2 (wu32 (a1.fdiv (2 ^ 32)))) 3 (wu32 a2) } : Sapi_Regs) with R := vset (vset (vset (vset a0.R 1 (wu32 a1)) 2 (wu32 (a1.fdiv (2 ^ 32)))) 3 (wu32 a2)) 4 (wu32 (a2.fdiv (2 ^ 32))) } : Sapi_Regs)).toArray)]) (by kernel_rfl) ?_
 clear hs; intro a hs
 refine go_pvs 1 2 [1, 2, 3, 7, 41, 42] hs (L' := [(1, .int .u64 a1), (2, .int .u64 a2), (3, .pointer (some ad2)), (7, .bool t8), (41, .agg (eSapi_Regs.enc ({ ({ ({ ({ a0 with R := vset a0.R 1 (wu32 a1) } : Sapi_Regs) with R := vset (vset a0.R 1 (wu32 a1)) 2 (wu32 (a1.fdiv (2 ^ 32))) } : Sapi_Regs) with R := vset (vset (vset a0.R 1 (wu32 a1)) 2 (wu32 (a1.fdiv (2 ^ 32)))) 3 (wu32 a2) } : Sapi_Regs) with R := vset (vset (vset (vset a0.R 1 (wu32 a1)) 2 (wu32 (a1.fdiv (2 ^ 32)))) 3 (wu32 a2)) 4 (wu32 (a2.fdiv (2 ^ 32))) } : Sapi_Regs)).toArray), (42, .agg (eSapi_Instr.enc (⟨1, 8, 5, 1, 3, 0, false⟩ : Sapi_Instr)).toArray)]) (by kernel_rfl) ?_ rfl
 clear hs; intro a hs
 obtain ⟨⟨t26, t27⟩, hx28, H⟩ := bind_some H
 refine go_call hs (op := (Op.call { callee := (Callee.value (Operand.func 12)), args := #[(Operand.tmp 41), (Operand.tmp 42)], argTypes := #[25, 27] })) (ty := 30) (dst := some 43) (g := none) (by kernel_rfl) (by kernel_rfl) (by kernel_rfl) (f := 12) (args := #[.agg (eSapi_Regs.enc ({ ({ ({ ({ a0 with R := vset a0.R 1 (wu32 a1) } : Sapi_Regs) with R := vset (vset a0.R 1 (wu32 a1)) 2 (wu32 (a1.fdiv (2 ^ 32))) } : Sapi_Regs) with R := vset (vset (vset a0.R 1 (wu32 a1)) 2 (wu32 (a1.fdiv (2 ^ 32)))) 3 (wu32 a2) } : Sapi_Regs) with R := vset (vset (vset (vset a0.R 1 (wu32 a1)) 2 (wu32 (a1.fdiv (2 ^ 32)))) 3 (wu32 a2)) 4 (wu32 (a2.fdiv (2 ^ 32))) } : Sapi_Regs)).toArray, .agg (eSapi_Instr.enc (⟨1, 8, 5, 1, 3, 0, false⟩ : Sapi_Instr)).toArray]) (by kernel_rfl) (alu_Do.calls ({ ({ ({ ({ a0 with R := vset a0.R 1 (wu32 a1) } : Sapi_Regs) with R := vset (vset a0.R 1 (wu32 a1)) 2 (wu32 (a1.fdiv (2 ^ 32))) } : Sapi_Regs) with R := vset (vset (vset a0.R 1 (wu32 a1)) 2 (wu32 (a1.fdiv (2 ^ 32)))) 3 (wu32 a2) } : Sapi_Regs) with R := vset (vset (vset (vset a0.R 1 (wu32 a1)) 2 (wu32 (a1.fdiv (2 ^ 32)))) 3 (wu32 a2)) 4 (wu32 (a2.fdiv (2 ^ 32))) } : Sapi_Regs) (⟨1, 8, 5, 1, 3, 0, false⟩ : Sapi_Instr) (t26, t27) _ hx28) ?_
 rintro e wd29 ⟨rfl, hw30⟩
 refine ⟨_, rfl, ?_⟩
 replace hw := hw.call hw30
 intro a hs1
 replace hs : Slots a 149 [(1, .int .u64 a1), (2, .int .u64 a2), (3, .pointer (some ad2)), (7, .bool t8), (43, .tuple #[.agg (eSapi_Regs.enc t26).toArray, .int .i64 t27])] := hs1.keep [1, 2, 3, 7, 43] (by kernel_rfl)
 clear hs1
 refine go_pvs 3 6 [1, 2, 3, 7, 44, 45] hs (L' := [(1, .int .u64 a1), (2, .int .u64 a2), (3, .pointer (some ad2)), (7, .bool t8), (44, .agg (eSapi_Regs.enc t26).toArray), (45, .int .i64 t27)]) (by kernel_rfl) ?_ rfl
 clear hs; intro a hs
 obtain ⟨ad31, wd32, hx33, hw⟩ := x_alloc1 (P := Try.prog) (elem := 25) (ty := 0) (z := .agg (eSapi_Regs.enc (⟨(Vector.replicate 16 0), 0, false, false, false, false⟩ : Sapi_Regs)).toArray) hs hw eSapi_Regs (⟨(Vector.replicate 16 0), 0, false, false, false, false⟩ : Sapi_Regs) (by kernel_rfl) (by kernel_rfl)
 refine go_run hs (op := (Op.alloc 25)) (ty := 0) (dst := some 8) (g := none) (by kernel_rfl) (by kernel_rfl) (by kernel_rfl) hx33 [1, 2, 3, 7, 8, 44, 45] (L' := [(1, .int .u64 a1), (2, .int .u64 a2), (3, .pointer (some ad2)), (7, .bool t8), (8, .pointer (some ad31)), (44, .agg (eSapi_Regs.enc t26).toArray), (45, .int .i64 t27)]) (by kernel_rfl) ?_
 clear hs; intro a hs
 obtain ⟨wd35, hx36, hw⟩ := x_put (P := Try.prog) (ty := 0) (t := 25) (x := (Operand.tmp 8)) (y := (Operand.tmp 44)) (off := 0) (p := ad31) (v := .agg (eSapi_Regs.enc t26).toArray) (vs := (eSapi_Regs.enc t26)) (i := 0) (e' := ((t26 : Sapi_Regs) : Sapi_Regs)) hs hw rfl (one_ok (⟨(Vector.replicate 16 0), 0, false, false, false, false⟩ : Sapi_Regs)).1 (one_ok (⟨(Vector.replicate 16 0), 0, false, false, false, false⟩ : Sapi_Regs)).2 (by kernel_rfl) (one_at _ _) (by kernel_rfl) rfl (by kernel_rfl) (Nat.le_of_ble_eq_true rfl) (eSapi_Regs.one _) (by kernel_rfl)
 refine go_unit hs (op := (Op.store 25 (Operand.tmp 8) (Operand.tmp 44))) (ty := 0) (dst := none) (g := none) (by kernel_rfl) (by kernel_rfl) (by kernel_rfl) hx36 [1, 2, 3, 7, 8, 45] (L' := [(1, .int .u64 a1), (2, .int .u64 a2), (3, .pointer (some ad2)), (7, .bool t8), (8, .pointer (some ad31)), (45, .int .i64 t27)]) (by kernel_rfl) ?_
 clear hs; intro a hs
 replace hw : St [] w0 wd35 [own 25 eSapi_Regs (some ad31) 1 [(t26 : Sapi_Regs)], own 25 eSapi_Regs (some ad2) 1 [({ ({ ({ ({ a0 with R := vset a0.R 1 (wu32 a1) } : Sapi_Regs) with R := vset (vset a0.R 1 (wu32 a1)) 2 (wu32 (a1.fdiv (2 ^ 32))) } : Sapi_Regs) with R := vset (vset (vset a0.R 1 (wu32 a1)) 2 (wu32 (a1.fdiv (2 ^ 32)))) 3 (wu32 a2) } : Sapi_Regs) with R := vset (vset (vset (vset a0.R 1 (wu32 a1)) 2 (wu32 (a1.fdiv (2 ^ 32)))) 3 (wu32 a2)) 4 (wu32 (a2.fdiv (2 ^ 32))) } : Sapi_Regs)]] := hw
 refine go_pvs 8 9 [1, 2, 3, 7, 8] hs (L' := [(1, .int .u64 a1), (2, .int .u64 a2), (3, .pointer (some ad2)), (7, .bool t8), (8, .pointer (some ad31))]) (by kernel_rfl) ?_ rfl
 clear hs; intro a hs
 refine go_end (by kernel_rfl) ?_
 refine hK24 _ _ ?_
 refine go_seq_k fun K37 hK37 => ?_
 refine go_region ?_
 refine go_run hs (op := (Op.load 25 (Operand.tmp 8))) (ty := 25) (dst := some 47) (g := none) (by kernel_rfl) (by kernel_rfl) (by kernel_rfl) (x_lds (E := eSapi_Regs) (off := 0) (p := ad31) (cs := (eSapi_Regs.enc (t26 : Sapi_Regs))) (Rd.of_own (hw.up 0)) (one_ok (t26 : Sapi_Regs)).1 (one_ok (t26 : Sapi_Regs)).2 (by kernel_rfl) (one_at _ _) (by kernel_rfl) (by kernel_rfl) (by kernel_rfl)) [1, 2, 3, 7, 47] (L' := [(1, .int .u64 a1), (2, .int .u64 a2), (3, .pointer (some ad2)), (7, .bool t8), (47, .agg (eSapi_Regs.enc (t26 : Sapi_Regs)).toArray)]) (by kernel_rfl) ?_
 clear hs; intro a hs
 refine go_pvs 1 2 [1, 2, 3, 7, 47, 48] hs (L' := [(1, .int .u64 a1), (2, .int .u64 a2), (3, .pointer (some ad2)), (7, .bool t8), (47, .agg (eSapi_Regs.enc (t26 : Sapi_Regs)).toArray), (48, .agg (eSapi_Instr.enc (⟨1, 8, 6, 2, 4, 0, true⟩ : Sapi_Instr)).toArray)]) (by kernel_rfl) ?_ rfl
 clear hs; intro a hs
 obtain ⟨⟨t39, t40⟩, hx41, H⟩ := bind_some H
 refine go_call hs (op := (Op.call { callee := (Callee.value (Operand.func 12)), args := #[(Operand.tmp 47), (Operand.tmp 48)], argTypes := #[25, 27] })) (ty := 30) (dst := some 49) (g := none) (by kernel_rfl) (by kernel_rfl) (by kernel_rfl) (f := 12) (args := #[.agg (eSapi_Regs.enc (t26 : Sapi_Regs)).toArray, .agg (eSapi_Instr.enc (⟨1, 8, 6, 2, 4, 0, true⟩ : Sapi_Instr)).toArray]) (by kernel_rfl) (alu_Do.calls (t26 : Sapi_Regs) (⟨1, 8, 6, 2, 4, 0, true⟩ : Sapi_Instr) (t39, t40) _ hx41) ?_
 rintro e wd42 ⟨rfl, hw43⟩
 refine ⟨_, rfl, ?_⟩
 replace hw := hw.call hw43
 intro a hs1
 replace hs : Slots a 149 [(1, .int .u64 a1), (2, .int .u64 a2), (3, .pointer (some ad2)), (7, .bool t8), (49, .tuple #[.agg (eSapi_Regs.enc t39).toArray, .int .i64 t40])] := hs1.keep [1, 2, 3, 7, 49] (by kernel_rfl)
 clear hs1
 refine go_pvs 3 6 [1, 2, 3, 7, 50, 51] hs (L' := [(1, .int .u64 a1), (2, .int .u64 a2), (3, .pointer (some ad2)), (7, .bool t8), (50, .agg (eSapi_Regs.enc t39).toArray), (51, .int .i64 t40)]) (by kernel_rfl) ?_ rfl
 clear hs; intro a hs
 obtain ⟨ad44, wd45, hx46, hw⟩ := x_alloc1 (P := Try.prog) (elem := 25) (ty := 0) (z := .agg (eSapi_Regs.enc (⟨(Vector.replicate 16 0), 0, false, false, false, false⟩ : Sapi_Regs)).toArray) hs hw eSapi_Regs (⟨(Vector.replicate 16 0), 0, false, false, false, false⟩ : Sapi_Regs) (by kernel_rfl) (by kernel_rfl)
 refine go_run hs (op := (Op.alloc 25)) (ty := 0) (dst := some 10) (g := none) (by kernel_rfl) (by kernel_rfl) (by kernel_rfl) hx46 [1, 2, 3, 7, 10, 50, 51] (L' := [(1, .int .u64 a1), (2, .int .u64 a2), (3, .pointer (some ad2)), (7, .bool t8), (10, .pointer (some ad44)), (50, .agg (eSapi_Regs.enc t39).toArray), (51, .int .i64 t40)]) (by kernel_rfl) ?_
 clear hs; intro a hs
 obtain ⟨wd48, hx49, hw⟩ := x_put (P := Try.prog) (ty := 0) (t := 25) (x := (Operand.tmp 10)) (y := (Operand.tmp 50)) (off := 0) (p := ad44) (v := .agg (eSapi_Regs.enc t39).toArray) (vs := (eSapi_Regs.enc t39)) (i := 0) (e' := ((t39 : Sapi_Regs) : Sapi_Regs)) hs hw rfl (one_ok (⟨(Vector.replicate 16 0), 0, false, false, false, false⟩ : Sapi_Regs)).1 (one_ok (⟨(Vector.replicate 16 0), 0, false, false, false, false⟩ : Sapi_Regs)).2 (by kernel_rfl) (one_at _ _) (by kernel_rfl) rfl (by kernel_rfl) (Nat.le_of_ble_eq_true rfl) (eSapi_Regs.one _) (by kernel_rfl)
 refine go_unit hs (op := (Op.store 25 (Operand.tmp 10) (Operand.tmp 50))) (ty := 0) (dst := none) (g := none) (by kernel_rfl) (by kernel_rfl) (by kernel_rfl) hx49 [1, 2, 3, 7, 10, 51] (L' := [(1, .int .u64 a1), (2, .int .u64 a2), (3, .pointer (some ad2)), (7, .bool t8), (10, .pointer (some ad44)), (51, .int .i64 t40)]) (by kernel_rfl) ?_
 clear hs; intro a hs
 replace hw : St [] w0 wd48 [own 25 eSapi_Regs (some ad44) 1 [(t39 : Sapi_Regs)], own 25 eSapi_Regs (some ad31) 1 [(t26 : Sapi_Regs)], own 25 eSapi_Regs (some ad2) 1 [({ ({ ({ ({ a0 with R := vset a0.R 1 (wu32 a1) } : Sapi_Regs) with R := vset (vset a0.R 1 (wu32 a1)) 2 (wu32 (a1.fdiv (2 ^ 32))) } : Sapi_Regs) with R := vset (vset (vset a0.R 1 (wu32 a1)) 2 (wu32 (a1.fdiv (2 ^ 32)))) 3 (wu32 a2) } : Sapi_Regs) with R := vset (vset (vset (vset a0.R 1 (wu32 a1)) 2 (wu32 (a1.fdiv (2 ^ 32)))) 3 (wu32 a2)) 4 (wu32 (a2.fdiv (2 ^ 32))) } : Sapi_Regs)]] := hw
 refine go_pvs 8 9 [1, 2, 3, 7, 10] hs (L' := [(1, .int .u64 a1), (2, .int .u64 a2), (3, .pointer (some ad2)), (7, .bool t8), (10, .pointer (some ad44))]) (by kernel_rfl) ?_ rfl
 clear hs; intro a hs
 refine go_end (by kernel_rfl) ?_
 refine hK37 _ _ ?_
 refine go_seq_k fun K50 hK50 => ?_
 refine go_region ?_
 refine go_run hs (op := (Op.load 25 (Operand.tmp 3))) (ty := 25) (dst := some 53) (g := none) (by kernel_rfl) (by kernel_rfl) (by kernel_rfl) (x_lds (E := eSapi_Regs) (off := 0) (p := ad2) (cs := (eSapi_Regs.enc ({ ({ ({ ({ a0 with R := vset a0.R 1 (wu32 a1) } : Sapi_Regs) with R := vset (vset a0.R 1 (wu32 a1)) 2 (wu32 (a1.fdiv (2 ^ 32))) } : Sapi_Regs) with R := vset (vset (vset a0.R 1 (wu32 a1)) 2 (wu32 (a1.fdiv (2 ^ 32)))) 3 (wu32 a2) } : Sapi_Regs) with R := vset (vset (vset (vset a0.R 1 (wu32 a1)) 2 (wu32 (a1.fdiv (2 ^ 32)))) 3 (wu32 a2)) 4 (wu32 (a2.fdiv (2 ^ 32))) } : Sapi_Regs))) (Rd.of_own (hw.up 2)) (one_ok ({ ({ ({ ({ a0 with R := vset a0.R 1 (wu32 a1) } : Sapi_Regs) with R := vset (vset a0.R 1 (wu32 a1)) 2 (wu32 (a1.fdiv (2 ^ 32))) } : Sapi_Regs) with R := vset (vset (vset a0.R 1 (wu32 a1)) 2 (wu32 (a1.fdiv (2 ^ 32)))) 3 (wu32 a2) } : Sapi_Regs) with R := vset (vset (vset (vset a0.R 1 (wu32 a1)) 2 (wu32 (a1.fdiv (2 ^ 32)))) 3 (wu32 a2)) 4 (wu32 (a2.fdiv (2 ^ 32))) } : Sapi_Regs)).1 (one_ok ({ ({ ({ ({ a0 with R := vset a0.R 1 (wu32 a1) } : Sapi_Regs) with R := vset (vset a0.R 1 (wu32 a1)) 2 (wu32 (a1.fdiv (2 ^ 32))) } : Sapi_Regs) with R := vset (vset (vset a0.R 1 (wu32 a1)) 2 (wu32 (a1.fdiv (2 ^ 32)))) 3 (wu32 a2) } : Sapi_Regs) with R := vset (vset (vset (vset a0.R 1 (wu32 a1)) 2 (wu32 (a1.fdiv (2 ^ 32)))) 3 (wu32 a2)) 4 (wu32 (a2.fdiv (2 ^ 32))) } : Sapi_Regs)).2 (by kernel_rfl) (one_at _ _) (by kernel_rfl) (by kernel_rfl) (by kernel_rfl)) [1, 2, 3, 7, 10, 53] (L' := [(1, .int .u64 a1), (2, .int .u64 a2), (3, .pointer (some ad2)), (7, .bool t8), (10, .pointer (some ad44)), (53, .agg (eSapi_Regs.enc ({ ({ ({ ({ a0 with R := vset a0.R 1 (wu32 a1) } : Sapi_Regs) with R := vset (vset a0.R 1 (wu32 a1)) 2 (wu32 (a1.fdiv (2 ^ 32))) } : Sapi_Regs) with R := vset (vset (vset a0.R 1 (wu32 a1)) 2 (wu32 (a1.fdiv (2 ^ 32)))) 3 (wu32 a2) } : Sapi_Regs) with R := vset (vset (vset (vset a0.R 1 (wu32 a1)) 2 (wu32 (a1.fdiv (2 ^ 32)))) 3 (wu32 a2)) 4 (wu32 (a2.fdiv (2 ^ 32))) } : Sapi_Regs)).toArray)]) (by kernel_rfl) ?_
 clear hs; intro a hs
 refine go_pvs 1 2 [1, 2, 3, 7, 10, 53, 54] hs (L' := [(1, .int .u64 a1), (2, .int .u64 a2), (3, .pointer (some ad2)), (7, .bool t8), (10, .pointer (some ad44)), (53, .agg (eSapi_Regs.enc ({ ({ ({ ({ a0 with R := vset a0.R 1 (wu32 a1) } : Sapi_Regs) with R := vset (vset a0.R 1 (wu32 a1)) 2 (wu32 (a1.fdiv (2 ^ 32))) } : Sapi_Regs) with R := vset (vset (vset a0.R 1 (wu32 a1)) 2 (wu32 (a1.fdiv (2 ^ 32)))) 3 (wu32 a2) } : Sapi_Regs) with R := vset (vset (vset (vset a0.R 1 (wu32 a1)) 2 (wu32 (a1.fdiv (2 ^ 32)))) 3 (wu32 a2)) 4 (wu32 (a2.fdiv (2 ^ 32))) } : Sapi_Regs)).toArray), (54, .agg (eSapi_Instr.enc (⟨1, 9, 5, 1, 3, 0, false⟩ : Sapi_Instr)).toArray)]) (by kernel_rfl) ?_ rfl
 clear hs; intro a hs
 obtain ⟨⟨t52, t53⟩, hx54, H⟩ := bind_some H
 refine go_call hs (op := (Op.call { callee := (Callee.value (Operand.func 12)), args := #[(Operand.tmp 53), (Operand.tmp 54)], argTypes := #[25, 27] })) (ty := 30) (dst := some 55) (g := none) (by kernel_rfl) (by kernel_rfl) (by kernel_rfl) (f := 12) (args := #[.agg (eSapi_Regs.enc ({ ({ ({ ({ a0 with R := vset a0.R 1 (wu32 a1) } : Sapi_Regs) with R := vset (vset a0.R 1 (wu32 a1)) 2 (wu32 (a1.fdiv (2 ^ 32))) } : Sapi_Regs) with R := vset (vset (vset a0.R 1 (wu32 a1)) 2 (wu32 (a1.fdiv (2 ^ 32)))) 3 (wu32 a2) } : Sapi_Regs) with R := vset (vset (vset (vset a0.R 1 (wu32 a1)) 2 (wu32 (a1.fdiv (2 ^ 32)))) 3 (wu32 a2)) 4 (wu32 (a2.fdiv (2 ^ 32))) } : Sapi_Regs)).toArray, .agg (eSapi_Instr.enc (⟨1, 9, 5, 1, 3, 0, false⟩ : Sapi_Instr)).toArray]) (by kernel_rfl) (alu_Do.calls ({ ({ ({ ({ a0 with R := vset a0.R 1 (wu32 a1) } : Sapi_Regs) with R := vset (vset a0.R 1 (wu32 a1)) 2 (wu32 (a1.fdiv (2 ^ 32))) } : Sapi_Regs) with R := vset (vset (vset a0.R 1 (wu32 a1)) 2 (wu32 (a1.fdiv (2 ^ 32)))) 3 (wu32 a2) } : Sapi_Regs) with R := vset (vset (vset (vset a0.R 1 (wu32 a1)) 2 (wu32 (a1.fdiv (2 ^ 32)))) 3 (wu32 a2)) 4 (wu32 (a2.fdiv (2 ^ 32))) } : Sapi_Regs) (⟨1, 9, 5, 1, 3, 0, false⟩ : Sapi_Instr) (t52, t53) _ hx54) ?_
 rintro e wd55 ⟨rfl, hw56⟩
 refine ⟨_, rfl, ?_⟩
 replace hw := hw.call hw56
 intro a hs1
 replace hs : Slots a 149 [(1, .int .u64 a1), (2, .int .u64 a2), (3, .pointer (some ad2)), (7, .bool t8), (10, .pointer (some ad44)), (55, .tuple #[.agg (eSapi_Regs.enc t52).toArray, .int .i64 t53])] := hs1.keep [1, 2, 3, 7, 10, 55] (by kernel_rfl)
 clear hs1
 refine go_pvs 3 6 [1, 2, 3, 7, 10, 56, 57] hs (L' := [(1, .int .u64 a1), (2, .int .u64 a2), (3, .pointer (some ad2)), (7, .bool t8), (10, .pointer (some ad44)), (56, .agg (eSapi_Regs.enc t52).toArray), (57, .int .i64 t53)]) (by kernel_rfl) ?_ rfl
 clear hs; intro a hs
 obtain ⟨ad57, wd58, hx59, hw⟩ := x_alloc1 (P := Try.prog) (elem := 25) (ty := 0) (z := .agg (eSapi_Regs.enc (⟨(Vector.replicate 16 0), 0, false, false, false, false⟩ : Sapi_Regs)).toArray) hs hw eSapi_Regs (⟨(Vector.replicate 16 0), 0, false, false, false, false⟩ : Sapi_Regs) (by kernel_rfl) (by kernel_rfl)
 refine go_run hs (op := (Op.alloc 25)) (ty := 0) (dst := some 12) (g := none) (by kernel_rfl) (by kernel_rfl) (by kernel_rfl) hx59 [1, 2, 3, 7, 10, 12, 56, 57] (L' := [(1, .int .u64 a1), (2, .int .u64 a2), (3, .pointer (some ad2)), (7, .bool t8), (10, .pointer (some ad44)), (12, .pointer (some ad57)), (56, .agg (eSapi_Regs.enc t52).toArray), (57, .int .i64 t53)]) (by kernel_rfl) ?_
 clear hs; intro a hs
 obtain ⟨wd61, hx62, hw⟩ := x_put (P := Try.prog) (ty := 0) (t := 25) (x := (Operand.tmp 12)) (y := (Operand.tmp 56)) (off := 0) (p := ad57) (v := .agg (eSapi_Regs.enc t52).toArray) (vs := (eSapi_Regs.enc t52)) (i := 0) (e' := ((t52 : Sapi_Regs) : Sapi_Regs)) hs hw rfl (one_ok (⟨(Vector.replicate 16 0), 0, false, false, false, false⟩ : Sapi_Regs)).1 (one_ok (⟨(Vector.replicate 16 0), 0, false, false, false, false⟩ : Sapi_Regs)).2 (by kernel_rfl) (one_at _ _) (by kernel_rfl) rfl (by kernel_rfl) (Nat.le_of_ble_eq_true rfl) (eSapi_Regs.one _) (by kernel_rfl)
 refine go_unit hs (op := (Op.store 25 (Operand.tmp 12) (Operand.tmp 56))) (ty := 0) (dst := none) (g := none) (by kernel_rfl) (by kernel_rfl) (by kernel_rfl) hx62 [1, 2, 3, 7, 10, 12, 57] (L' := [(1, .int .u64 a1), (2, .int .u64 a2), (3, .pointer (some ad2)), (7, .bool t8), (10, .pointer (some ad44)), (12, .pointer (some ad57)), (57, .int .i64 t53)]) (by kernel_rfl) ?_
 clear hs; intro a hs
 replace hw : St [] w0 wd61 [own 25 eSapi_Regs (some ad57) 1 [(t52 : Sapi_Regs)], own 25 eSapi_Regs (some ad44) 1 [(t39 : Sapi_Regs)], own 25 eSapi_Regs (some ad31) 1 [(t26 : Sapi_Regs)], own 25 eSapi_Regs (some ad2) 1 [({ ({ ({ ({ a0 with R := vset a0.R 1 (wu32 a1) } : Sapi_Regs) with R := vset (vset a0.R 1 (wu32 a1)) 2 (wu32 (a1.fdiv (2 ^ 32))) } : Sapi_Regs) with R := vset (vset (vset a0.R 1 (wu32 a1)) 2 (wu32 (a1.fdiv (2 ^ 32)))) 3 (wu32 a2) } : Sapi_Regs) with R := vset (vset (vset (vset a0.R 1 (wu32 a1)) 2 (wu32 (a1.fdiv (2 ^ 32)))) 3 (wu32 a2)) 4 (wu32 (a2.fdiv (2 ^ 32))) } : Sapi_Regs)]] := hw
 refine go_pvs 8 9 [1, 2, 3, 7, 10, 12] hs (L' := [(1, .int .u64 a1), (2, .int .u64 a2), (3, .pointer (some ad2)), (7, .bool t8), (10, .pointer (some ad44)), (12, .pointer (some ad57))]) (by kernel_rfl) ?_ rfl
 clear hs; intro a hs
 refine go_end (by kernel_rfl) ?_
 refine hK50 _ _ ?_
 refine go_seq_k fun K63 hK63 => ?_
 refine go_region ?_
 refine go_run hs (op := (Op.load 25 (Operand.tmp 12))) (ty := 25) (dst := some 59) (g := none) (by kernel_rfl) (by kernel_rfl) (by kernel_rfl) (x_lds (E := eSapi_Regs) (off := 0) (p := ad57) (cs := (eSapi_Regs.enc (t52 : Sapi_Regs))) (Rd.of_own (hw.up 0)) (one_ok (t52 : Sapi_Regs)).1 (one_ok (t52 : Sapi_Regs)).2 (by kernel_rfl) (one_at _ _) (by kernel_rfl) (by kernel_rfl) (by kernel_rfl)) [1, 2, 3, 7, 10, 59] (L' := [(1, .int .u64 a1), (2, .int .u64 a2), (3, .pointer (some ad2)), (7, .bool t8), (10, .pointer (some ad44)), (59, .agg (eSapi_Regs.enc (t52 : Sapi_Regs)).toArray)]) (by kernel_rfl) ?_
 clear hs; intro a hs
 refine go_pvs 1 2 [1, 2, 3, 7, 10, 59, 60] hs (L' := [(1, .int .u64 a1), (2, .int .u64 a2), (3, .pointer (some ad2)), (7, .bool t8), (10, .pointer (some ad44)), (59, .agg (eSapi_Regs.enc (t52 : Sapi_Regs)).toArray), (60, .agg (eSapi_Instr.enc (⟨1, 9, 6, 2, 4, 0, true⟩ : Sapi_Instr)).toArray)]) (by kernel_rfl) ?_ rfl
 clear hs; intro a hs
 obtain ⟨⟨t65, t66⟩, hx67, H⟩ := bind_some H
 refine go_call hs (op := (Op.call { callee := (Callee.value (Operand.func 12)), args := #[(Operand.tmp 59), (Operand.tmp 60)], argTypes := #[25, 27] })) (ty := 30) (dst := some 61) (g := none) (by kernel_rfl) (by kernel_rfl) (by kernel_rfl) (f := 12) (args := #[.agg (eSapi_Regs.enc (t52 : Sapi_Regs)).toArray, .agg (eSapi_Instr.enc (⟨1, 9, 6, 2, 4, 0, true⟩ : Sapi_Instr)).toArray]) (by kernel_rfl) (alu_Do.calls (t52 : Sapi_Regs) (⟨1, 9, 6, 2, 4, 0, true⟩ : Sapi_Instr) (t65, t66) _ hx67) ?_
 rintro e wd68 ⟨rfl, hw69⟩
 refine ⟨_, rfl, ?_⟩
 replace hw := hw.call hw69
 intro a hs1
 replace hs : Slots a 149 [(1, .int .u64 a1), (2, .int .u64 a2), (3, .pointer (some ad2)), (7, .bool t8), (10, .pointer (some ad44)), (61, .tuple #[.agg (eSapi_Regs.enc t65).toArray, .int .i64 t66])] := hs1.keep [1, 2, 3, 7, 10, 61] (by kernel_rfl)
 clear hs1
 refine go_pvs 3 6 [1, 2, 3, 7, 10, 62, 63] hs (L' := [(1, .int .u64 a1), (2, .int .u64 a2), (3, .pointer (some ad2)), (7, .bool t8), (10, .pointer (some ad44)), (62, .agg (eSapi_Regs.enc t65).toArray), (63, .int .i64 t66)]) (by kernel_rfl) ?_ rfl
 clear hs; intro a hs
 obtain ⟨ad70, wd71, hx72, hw⟩ := x_alloc1 (P := Try.prog) (elem := 25) (ty := 0) (z := .agg (eSapi_Regs.enc (⟨(Vector.replicate 16 0), 0, false, false, false, false⟩ : Sapi_Regs)).toArray) hs hw eSapi_Regs (⟨(Vector.replicate 16 0), 0, false, false, false, false⟩ : Sapi_Regs) (by kernel_rfl) (by kernel_rfl)
 refine go_run hs (op := (Op.alloc 25)) (ty := 0) (dst := some 14) (g := none) (by kernel_rfl) (by kernel_rfl) (by kernel_rfl) hx72 [1, 2, 3, 7, 10, 14, 62, 63] (L' := [(1, .int .u64 a1), (2, .int .u64 a2), (3, .pointer (some ad2)), (7, .bool t8), (10, .pointer (some ad44)), (14, .pointer (some ad70)), (62, .agg (eSapi_Regs.enc t65).toArray), (63, .int .i64 t66)]) (by kernel_rfl) ?_
 clear hs; intro a hs
 obtain ⟨wd74, hx75, hw⟩ := x_put (P := Try.prog) (ty := 0) (t := 25) (x := (Operand.tmp 14)) (y := (Operand.tmp 62)) (off := 0) (p := ad70) (v := .agg (eSapi_Regs.enc t65).toArray) (vs := (eSapi_Regs.enc t65)) (i := 0) (e' := ((t65 : Sapi_Regs) : Sapi_Regs)) hs hw rfl (one_ok (⟨(Vector.replicate 16 0), 0, false, false, false, false⟩ : Sapi_Regs)).1 (one_ok (⟨(Vector.replicate 16 0), 0, false, false, false, false⟩ : Sapi_Regs)).2 (by kernel_rfl) (one_at _ _) (by kernel_rfl) rfl (by kernel_rfl) (Nat.le_of_ble_eq_true rfl) (eSapi_Regs.one _) (by kernel_rfl)
 refine go_unit hs (op := (Op.store 25 (Operand.tmp 14) (Operand.tmp 62))) (ty := 0) (dst := none) (g := none) (by kernel_rfl) (by kernel_rfl) (by kernel_rfl) hx75 [1, 2, 3, 7, 10, 14, 63] (L' := [(1, .int .u64 a1), (2, .int .u64 a2), (3, .pointer (some ad2)), (7, .bool t8), (10, .pointer (some ad44)), (14, .pointer (some ad70)), (63, .int .i64 t66)]) (by kernel_rfl) ?_
 clear hs; intro a hs
 replace hw : St [] w0 wd74 [own 25 eSapi_Regs (some ad70) 1 [(t65 : Sapi_Regs)], own 25 eSapi_Regs (some ad57) 1 [(t52 : Sapi_Regs)], own 25 eSapi_Regs (some ad44) 1 [(t39 : Sapi_Regs)], own 25 eSapi_Regs (some ad31) 1 [(t26 : Sapi_Regs)], own 25 eSapi_Regs (some ad2) 1 [({ ({ ({ ({ a0 with R := vset a0.R 1 (wu32 a1) } : Sapi_Regs) with R := vset (vset a0.R 1 (wu32 a1)) 2 (wu32 (a1.fdiv (2 ^ 32))) } : Sapi_Regs) with R := vset (vset (vset a0.R 1 (wu32 a1)) 2 (wu32 (a1.fdiv (2 ^ 32)))) 3 (wu32 a2) } : Sapi_Regs) with R := vset (vset (vset (vset a0.R 1 (wu32 a1)) 2 (wu32 (a1.fdiv (2 ^ 32)))) 3 (wu32 a2)) 4 (wu32 (a2.fdiv (2 ^ 32))) } : Sapi_Regs)]] := hw
 refine go_pvs 8 9 [1, 2, 3, 7, 10, 14] hs (L' := [(1, .int .u64 a1), (2, .int .u64 a2), (3, .pointer (some ad2)), (7, .bool t8), (10, .pointer (some ad44)), (14, .pointer (some ad70))]) (by kernel_rfl) ?_ rfl
 clear hs; intro a hs
 refine go_end (by kernel_rfl) ?_
 refine hK63 _ _ ?_
 refine go_seq_k fun K76 hK76 => ?_
 refine go_region ?_
 refine go_run hs (op := (Op.load 25 (Operand.tmp 3))) (ty := 25) (dst := some 65) (g := none) (by kernel_rfl) (by kernel_rfl) (by kernel_rfl) (x_lds (E := eSapi_Regs) (off := 0) (p := ad2) (cs := (eSapi_Regs.enc ({ ({ ({ ({ a0 with R := vset a0.R 1 (wu32 a1) } : Sapi_Regs) with R := vset (vset a0.R 1 (wu32 a1)) 2 (wu32 (a1.fdiv (2 ^ 32))) } : Sapi_Regs) with R := vset (vset (vset a0.R 1 (wu32 a1)) 2 (wu32 (a1.fdiv (2 ^ 32)))) 3 (wu32 a2) } : Sapi_Regs) with R := vset (vset (vset (vset a0.R 1 (wu32 a1)) 2 (wu32 (a1.fdiv (2 ^ 32)))) 3 (wu32 a2)) 4 (wu32 (a2.fdiv (2 ^ 32))) } : Sapi_Regs))) (Rd.of_own (hw.up 4)) (one_ok ({ ({ ({ ({ a0 with R := vset a0.R 1 (wu32 a1) } : Sapi_Regs) with R := vset (vset a0.R 1 (wu32 a1)) 2 (wu32 (a1.fdiv (2 ^ 32))) } : Sapi_Regs) with R := vset (vset (vset a0.R 1 (wu32 a1)) 2 (wu32 (a1.fdiv (2 ^ 32)))) 3 (wu32 a2) } : Sapi_Regs) with R := vset (vset (vset (vset a0.R 1 (wu32 a1)) 2 (wu32 (a1.fdiv (2 ^ 32)))) 3 (wu32 a2)) 4 (wu32 (a2.fdiv (2 ^ 32))) } : Sapi_Regs)).1 (one_ok ({ ({ ({ ({ a0 with R := vset a0.R 1 (wu32 a1) } : Sapi_Regs) with R := vset (vset a0.R 1 (wu32 a1)) 2 (wu32 (a1.fdiv (2 ^ 32))) } : Sapi_Regs) with R := vset (vset (vset a0.R 1 (wu32 a1)) 2 (wu32 (a1.fdiv (2 ^ 32)))) 3 (wu32 a2) } : Sapi_Regs) with R := vset (vset (vset (vset a0.R 1 (wu32 a1)) 2 (wu32 (a1.fdiv (2 ^ 32)))) 3 (wu32 a2)) 4 (wu32 (a2.fdiv (2 ^ 32))) } : Sapi_Regs)).2 (by kernel_rfl) (one_at _ _) (by kernel_rfl) (by kernel_rfl) (by kernel_rfl)) [1, 2, 3, 7, 10, 14, 65] (L' := [(1, .int .u64 a1), (2, .int .u64 a2), (3, .pointer (some ad2)), (7, .bool t8), (10, .pointer (some ad44)), (14, .pointer (some ad70)), (65, .agg (eSapi_Regs.enc ({ ({ ({ ({ a0 with R := vset a0.R 1 (wu32 a1) } : Sapi_Regs) with R := vset (vset a0.R 1 (wu32 a1)) 2 (wu32 (a1.fdiv (2 ^ 32))) } : Sapi_Regs) with R := vset (vset (vset a0.R 1 (wu32 a1)) 2 (wu32 (a1.fdiv (2 ^ 32)))) 3 (wu32 a2) } : Sapi_Regs) with R := vset (vset (vset (vset a0.R 1 (wu32 a1)) 2 (wu32 (a1.fdiv (2 ^ 32)))) 3 (wu32 a2)) 4 (wu32 (a2.fdiv (2 ^ 32))) } : Sapi_Regs)).toArray)]) (by kernel_rfl) ?_
 clear hs; intro a hs
 refine go_pvs 1 2 [1, 2, 3, 7, 10, 14, 65, 66] hs (L' := [(1, .int .u64 a1), (2, .int .u64 a2), (3, .pointer (some ad2)), (7, .bool t8), (10, .pointer (some ad44)), (14, .pointer (some ad70)), (65, .agg (eSapi_Regs.enc ({ ({ ({ ({ a0 with R := vset a0.R 1 (wu32 a1) } : Sapi_Regs) with R := vset (vset a0.R 1 (wu32 a1)) 2 (wu32 (a1.fdiv (2 ^ 32))) } : Sapi_Regs) with R := vset (vset (vset a0.R 1 (wu32 a1)) 2 (wu32 (a1.fdiv (2 ^ 32)))) 3 (wu32 a2) } : Sapi_Regs) with R := vset (vset (vset (vset a0.R 1 (wu32 a1)) 2 (wu32 (a1.fdiv (2 ^ 32)))) 3 (wu32 a2)) 4 (wu32 (a2.fdiv (2 ^ 32))) } : Sapi_Regs)).toArray), (66, .agg (eSapi_Instr.enc (⟨1, 10, 5, 1, 3, 0, true⟩ : Sapi_Instr)).toArray)]) (by kernel_rfl) ?_ rfl
 clear hs; intro a hs
 obtain ⟨⟨t78, t79⟩, hx80, H⟩ := bind_some H
 refine go_call hs (op := (Op.call { callee := (Callee.value (Operand.func 12)), args := #[(Operand.tmp 65), (Operand.tmp 66)], argTypes := #[25, 27] })) (ty := 30) (dst := some 67) (g := none) (by kernel_rfl) (by kernel_rfl) (by kernel_rfl) (f := 12) (args := #[.agg (eSapi_Regs.enc ({ ({ ({ ({ a0 with R := vset a0.R 1 (wu32 a1) } : Sapi_Regs) with R := vset (vset a0.R 1 (wu32 a1)) 2 (wu32 (a1.fdiv (2 ^ 32))) } : Sapi_Regs) with R := vset (vset (vset a0.R 1 (wu32 a1)) 2 (wu32 (a1.fdiv (2 ^ 32)))) 3 (wu32 a2) } : Sapi_Regs) with R := vset (vset (vset (vset a0.R 1 (wu32 a1)) 2 (wu32 (a1.fdiv (2 ^ 32)))) 3 (wu32 a2)) 4 (wu32 (a2.fdiv (2 ^ 32))) } : Sapi_Regs)).toArray, .agg (eSapi_Instr.enc (⟨1, 10, 5, 1, 3, 0, true⟩ : Sapi_Instr)).toArray]) (by kernel_rfl) (alu_Do.calls ({ ({ ({ ({ a0 with R := vset a0.R 1 (wu32 a1) } : Sapi_Regs) with R := vset (vset a0.R 1 (wu32 a1)) 2 (wu32 (a1.fdiv (2 ^ 32))) } : Sapi_Regs) with R := vset (vset (vset a0.R 1 (wu32 a1)) 2 (wu32 (a1.fdiv (2 ^ 32)))) 3 (wu32 a2) } : Sapi_Regs) with R := vset (vset (vset (vset a0.R 1 (wu32 a1)) 2 (wu32 (a1.fdiv (2 ^ 32)))) 3 (wu32 a2)) 4 (wu32 (a2.fdiv (2 ^ 32))) } : Sapi_Regs) (⟨1, 10, 5, 1, 3, 0, true⟩ : Sapi_Instr) (t78, t79) _ hx80) ?_
 rintro e wd81 ⟨rfl, hw82⟩
 refine ⟨_, rfl, ?_⟩
 replace hw := hw.call hw82
 intro a hs1
 replace hs : Slots a 149 [(1, .int .u64 a1), (2, .int .u64 a2), (3, .pointer (some ad2)), (7, .bool t8), (10, .pointer (some ad44)), (14, .pointer (some ad70)), (67, .tuple #[.agg (eSapi_Regs.enc t78).toArray, .int .i64 t79])] := hs1.keep [1, 2, 3, 7, 10, 14, 67] (by kernel_rfl)
 clear hs1
 refine go_pvs 3 6 [1, 2, 3, 7, 10, 14, 68, 69] hs (L' := [(1, .int .u64 a1), (2, .int .u64 a2), (3, .pointer (some ad2)), (7, .bool t8), (10, .pointer (some ad44)), (14, .pointer (some ad70)), (68, .agg (eSapi_Regs.enc t78).toArray), (69, .int .i64 t79)]) (by kernel_rfl) ?_ rfl
 clear hs; intro a hs
 obtain ⟨ad83, wd84, hx85, hw⟩ := x_alloc1 (P := Try.prog) (elem := 25) (ty := 0) (z := .agg (eSapi_Regs.enc (⟨(Vector.replicate 16 0), 0, false, false, false, false⟩ : Sapi_Regs)).toArray) hs hw eSapi_Regs (⟨(Vector.replicate 16 0), 0, false, false, false, false⟩ : Sapi_Regs) (by kernel_rfl) (by kernel_rfl)
 refine go_run hs (op := (Op.alloc 25)) (ty := 0) (dst := some 16) (g := none) (by kernel_rfl) (by kernel_rfl) (by kernel_rfl) hx85 [1, 2, 3, 7, 10, 14, 16, 68, 69] (L' := [(1, .int .u64 a1), (2, .int .u64 a2), (3, .pointer (some ad2)), (7, .bool t8), (10, .pointer (some ad44)), (14, .pointer (some ad70)), (16, .pointer (some ad83)), (68, .agg (eSapi_Regs.enc t78).toArray), (69, .int .i64 t79)]) (by kernel_rfl) ?_
 clear hs; intro a hs
 obtain ⟨wd87, hx88, hw⟩ := x_put (P := Try.prog) (ty := 0) (t := 25) (x := (Operand.tmp 16)) (y := (Operand.tmp 68)) (off := 0) (p := ad83) (v := .agg (eSapi_Regs.enc t78).toArray) (vs := (eSapi_Regs.enc t78)) (i := 0) (e' := ((t78 : Sapi_Regs) : Sapi_Regs)) hs hw rfl (one_ok (⟨(Vector.replicate 16 0), 0, false, false, false, false⟩ : Sapi_Regs)).1 (one_ok (⟨(Vector.replicate 16 0), 0, false, false, false, false⟩ : Sapi_Regs)).2 (by kernel_rfl) (one_at _ _) (by kernel_rfl) rfl (by kernel_rfl) (Nat.le_of_ble_eq_true rfl) (eSapi_Regs.one _) (by kernel_rfl)
 refine go_unit hs (op := (Op.store 25 (Operand.tmp 16) (Operand.tmp 68))) (ty := 0) (dst := none) (g := none) (by kernel_rfl) (by kernel_rfl) (by kernel_rfl) hx88 [1, 2, 3, 7, 10, 14, 16, 69] (L' := [(1, .int .u64 a1), (2, .int .u64 a2), (3, .pointer (some ad2)), (7, .bool t8), (10, .pointer (some ad44)), (14, .pointer (some ad70)), (16, .pointer (some ad83)), (69, .int .i64 t79)]) (by kernel_rfl) ?_
 clear hs; intro a hs
 replace hw : St [] w0 wd87 [own 25 eSapi_Regs (some ad83) 1 [(t78 : Sapi_Regs)], own 25 eSapi_Regs (some ad70) 1 [(t65 : Sapi_Regs)], own 25 eSapi_Regs (some ad57) 1 [(t52 : Sapi_Regs)], own 25 eSapi_Regs (some ad44) 1 [(t39 : Sapi_Regs)], own 25 eSapi_Regs (some ad31) 1 [(t26 : Sapi_Regs)], own 25 eSapi_Regs (some ad2) 1 [({ ({ ({ ({ a0 with R := vset a0.R 1 (wu32 a1) } : Sapi_Regs) with R := vset (vset a0.R 1 (wu32 a1)) 2 (wu32 (a1.fdiv (2 ^ 32))) } : Sapi_Regs) with R := vset (vset (vset a0.R 1 (wu32 a1)) 2 (wu32 (a1.fdiv (2 ^ 32)))) 3 (wu32 a2) } : Sapi_Regs) with R := vset (vset (vset (vset a0.R 1 (wu32 a1)) 2 (wu32 (a1.fdiv (2 ^ 32)))) 3 (wu32 a2)) 4 (wu32 (a2.fdiv (2 ^ 32))) } : Sapi_Regs)]] := hw
 refine go_pvs 8 9 [1, 2, 3, 7, 10, 14, 16] hs (L' := [(1, .int .u64 a1), (2, .int .u64 a2), (3, .pointer (some ad2)), (7, .bool t8), (10, .pointer (some ad44)), (14, .pointer (some ad70)), (16, .pointer (some ad83))]) (by kernel_rfl) ?_ rfl
 clear hs; intro a hs
 refine go_end (by kernel_rfl) ?_
 refine hK76 _ _ ?_
 refine go_seq_k fun K89 hK89 => ?_
 refine go_region ?_
 refine go_run hs (op := (Op.load 25 (Operand.tmp 3))) (ty := 25) (dst := some 71) (g := none) (by kernel_rfl) (by kernel_rfl) (by kernel_rfl) (x_lds (E := eSapi_Regs) (off := 0) (p := ad2) (cs := (eSapi_Regs.enc ({ ({ ({ ({ a0 with R := vset a0.R 1 (wu32 a1) } : Sapi_Regs) with R := vset (vset a0.R 1 (wu32 a1)) 2 (wu32 (a1.fdiv (2 ^ 32))) } : Sapi_Regs) with R := vset (vset (vset a0.R 1 (wu32 a1)) 2 (wu32 (a1.fdiv (2 ^ 32)))) 3 (wu32 a2) } : Sapi_Regs) with R := vset (vset (vset (vset a0.R 1 (wu32 a1)) 2 (wu32 (a1.fdiv (2 ^ 32)))) 3 (wu32 a2)) 4 (wu32 (a2.fdiv (2 ^ 32))) } : Sapi_Regs))) (Rd.of_own (hw.up 5)) (one_ok ({ ({ ({ ({ a0 with R := vset a0.R 1 (wu32 a1) } : Sapi_Regs) with R := vset (vset a0.R 1 (wu32 a1)) 2 (wu32 (a1.fdiv (2 ^ 32))) } : Sapi_Regs) with R := vset (vset (vset a0.R 1 (wu32 a1)) 2 (wu32 (a1.fdiv (2 ^ 32)))) 3 (wu32 a2) } : Sapi_Regs) with R := vset (vset (vset (vset a0.R 1 (wu32 a1)) 2 (wu32 (a1.fdiv (2 ^ 32)))) 3 (wu32 a2)) 4 (wu32 (a2.fdiv (2 ^ 32))) } : Sapi_Regs)).1 (one_ok ({ ({ ({ ({ a0 with R := vset a0.R 1 (wu32 a1) } : Sapi_Regs) with R := vset (vset a0.R 1 (wu32 a1)) 2 (wu32 (a1.fdiv (2 ^ 32))) } : Sapi_Regs) with R := vset (vset (vset a0.R 1 (wu32 a1)) 2 (wu32 (a1.fdiv (2 ^ 32)))) 3 (wu32 a2) } : Sapi_Regs) with R := vset (vset (vset (vset a0.R 1 (wu32 a1)) 2 (wu32 (a1.fdiv (2 ^ 32)))) 3 (wu32 a2)) 4 (wu32 (a2.fdiv (2 ^ 32))) } : Sapi_Regs)).2 (by kernel_rfl) (one_at _ _) (by kernel_rfl) (by kernel_rfl) (by kernel_rfl)) [1, 2, 7, 10, 14, 16, 71] (L' := [(1, .int .u64 a1), (2, .int .u64 a2), (7, .bool t8), (10, .pointer (some ad44)), (14, .pointer (some ad70)), (16, .pointer (some ad83)), (71, .agg (eSapi_Regs.enc ({ ({ ({ ({ a0 with R := vset a0.R 1 (wu32 a1) } : Sapi_Regs) with R := vset (vset a0.R 1 (wu32 a1)) 2 (wu32 (a1.fdiv (2 ^ 32))) } : Sapi_Regs) with R := vset (vset (vset a0.R 1 (wu32 a1)) 2 (wu32 (a1.fdiv (2 ^ 32)))) 3 (wu32 a2) } : Sapi_Regs) with R := vset (vset (vset (vset a0.R 1 (wu32 a1)) 2 (wu32 (a1.fdiv (2 ^ 32)))) 3 (wu32 a2)) 4 (wu32 (a2.fdiv (2 ^ 32))) } : Sapi_Regs)).toArray)]) (by kernel_rfl) ?_
 clear hs; intro a hs
 refine go_pvs 1 2 [1, 2, 7, 10, 14, 16, 71, 72] hs (L' := [(1, .int .u64 a1), (2, .int .u64 a2), (7, .bool t8), (10, .pointer (some ad44)), (14, .pointer (some ad70)), (16, .pointer (some ad83)), (71, .agg (eSapi_Regs.enc ({ ({ ({ ({ a0 with R := vset a0.R 1 (wu32 a1) } : Sapi_Regs) with R := vset (vset a0.R 1 (wu32 a1)) 2 (wu32 (a1.fdiv (2 ^ 32))) } : Sapi_Regs) with R := vset (vset (vset a0.R 1 (wu32 a1)) 2 (wu32 (a1.fdiv (2 ^ 32)))) 3 (wu32 a2) } : Sapi_Regs) with R := vset (vset (vset (vset a0.R 1 (wu32 a1)) 2 (wu32 (a1.fdiv (2 ^ 32)))) 3 (wu32 a2)) 4 (wu32 (a2.fdiv (2 ^ 32))) } : Sapi_Regs)).toArray), (72, .agg (eSapi_Instr.enc (⟨1, 10, 5, 1, 3, 0, false⟩ : Sapi_Instr)).toArray)]) (by kernel_rfl) ?_ rfl
 clear hs; intro a hs
 obtain ⟨⟨t91, t92⟩, hx93, H⟩ := bind_some H
 refine go_call hs (op := (Op.call { callee := (Callee.value (Operand.func 12)), args := #[(Operand.tmp 71), (Operand.tmp 72)], argTypes := #[25, 27] })) (ty := 30) (dst := some 73) (g := none) (by kernel_rfl) (by kernel_rfl) (by kernel_rfl) (f := 12) (args := #[.agg (eSapi_Regs.enc ({ ({ ({ ({ a0 with R := vset a0.R 1 (wu32 a1) } : Sapi_Regs) with R := vset (vset a0.R 1 (wu32 a1)) 2 (wu32 (a1.fdiv (2 ^ 32))) } : Sapi_Regs) with R := vset (vset (vset a0.R 1 (wu32 a1)) 2 (wu32 (a1.fdiv (2 ^ 32)))) 3 (wu32 a2) } : Sapi_Regs) with R := vset (vset (vset (vset a0.R 1 (wu32 a1)) 2 (wu32 (a1.fdiv (2 ^ 32)))) 3 (wu32 a2)) 4 (wu32 (a2.fdiv (2 ^ 32))) } : Sapi_Regs)).toArray, .agg (eSapi_Instr.enc (⟨1, 10, 5, 1, 3, 0, false⟩ : Sapi_Instr)).toArray]) (by kernel_rfl) (alu_Do.calls ({ ({ ({ ({ a0 with R := vset a0.R 1 (wu32 a1) } : Sapi_Regs) with R := vset (vset a0.R 1 (wu32 a1)) 2 (wu32 (a1.fdiv (2 ^ 32))) } : Sapi_Regs) with R := vset (vset (vset a0.R 1 (wu32 a1)) 2 (wu32 (a1.fdiv (2 ^ 32)))) 3 (wu32 a2) } : Sapi_Regs) with R := vset (vset (vset (vset a0.R 1 (wu32 a1)) 2 (wu32 (a1.fdiv (2 ^ 32)))) 3 (wu32 a2)) 4 (wu32 (a2.fdiv (2 ^ 32))) } : Sapi_Regs) (⟨1, 10, 5, 1, 3, 0, false⟩ : Sapi_Instr) (t91, t92) _ hx93) ?_
 rintro e wd94 ⟨rfl, hw95⟩
 refine ⟨_, rfl, ?_⟩
 replace hw := hw.call hw95
 intro a hs1
 replace hs : Slots a 149 [(1, .int .u64 a1), (2, .int .u64 a2), (7, .bool t8), (10, .pointer (some ad44)), (14, .pointer (some ad70)), (16, .pointer (some ad83)), (73, .tuple #[.agg (eSapi_Regs.enc t91).toArray, .int .i64 t92])] := hs1.keep [1, 2, 7, 10, 14, 16, 73] (by kernel_rfl)
 clear hs1
 refine go_pvs 3 6 [1, 2, 7, 10, 14, 16, 74, 75] hs (L' := [(1, .int .u64 a1), (2, .int .u64 a2), (7, .bool t8), (10, .pointer (some ad44)), (14, .pointer (some ad70)), (16, .pointer (some ad83)), (74, .agg (eSapi_Regs.enc t91).toArray), (75, .int .i64 t92)]) (by kernel_rfl) ?_ rfl
 clear hs; intro a hs
 obtain ⟨ad96, wd97, hx98, hw⟩ := x_alloc1 (P := Try.prog) (elem := 25) (ty := 0) (z := .agg (eSapi_Regs.enc (⟨(Vector.replicate 16 0), 0, false, false, false, false⟩ : Sapi_Regs)).toArray) hs hw eSapi_Regs (⟨(Vector.replicate 16 0), 0, false, false, false, false⟩ : Sapi_Regs) (by kernel_rfl) (by kernel_rfl)
 refine go_run hs (op := (Op.alloc 25)) (ty := 0) (dst := some 18) (g := none) (by kernel_rfl) (by kernel_rfl) (by kernel_rfl) hx98 [1, 2, 7, 10, 14, 16, 18, 74, 75] (L' := [(1, .int .u64 a1), (2, .int .u64 a2), (7, .bool t8), (10, .pointer (some ad44)), (14, .pointer (some ad70)), (16, .pointer (some ad83)), (18, .pointer (some ad96)), (74, .agg (eSapi_Regs.enc t91).toArray), (75, .int .i64 t92)]) (by kernel_rfl) ?_
 clear hs; intro a hs
 obtain ⟨wd100, hx101, hw⟩ := x_put (P := Try.prog) (ty := 0) (t := 25) (x := (Operand.tmp 18)) (y := (Operand.tmp 74)) (off := 0) (p := ad96) (v := .agg (eSapi_Regs.enc t91).toArray) (vs := (eSapi_Regs.enc t91)) (i := 0) (e' := ((t91 : Sapi_Regs) : Sapi_Regs)) hs hw rfl (one_ok (⟨(Vector.replicate 16 0), 0, false, false, false, false⟩ : Sapi_Regs)).1 (one_ok (⟨(Vector.replicate 16 0), 0, false, false, false, false⟩ : Sapi_Regs)).2 (by kernel_rfl) (one_at _ _) (by kernel_rfl) rfl (by kernel_rfl) (Nat.le_of_ble_eq_true rfl) (eSapi_Regs.one _) (by kernel_rfl)
 refine go_unit hs (op := (Op.store 25 (Operand.tmp 18) (Operand.tmp 74))) (ty := 0) (dst := none) (g := none) (by kernel_rfl) (by kernel_rfl) (by kernel_rfl) hx101 [1, 2, 7, 10, 14, 16, 18, 75] (L' := [(1, .int .u64 a1), (2, .int .u64 a2), (7, .bool t8), (10, .pointer (some ad44)), (14, .pointer (some ad70)), (16, .pointer (some ad83)), (18, .pointer (some ad96)), (75, .int .i64 t92)]) (by kernel_rfl) ?_
 clear hs; intro a hs
 replace hw : St [] w0 wd100 [own 25 eSapi_Regs (some ad96) 1 [(t91 : Sapi_Regs)], own 25 eSapi_Regs (some ad83) 1 [(t78 : Sapi_Regs)], own 25 eSapi_Regs (some ad70) 1 [(t65 : Sapi_Regs)], own 25 eSapi_Regs (some ad57) 1 [(t52 : Sapi_Regs)], own 25 eSapi_Regs (some ad44) 1 [(t39 : Sapi_Regs)], own 25 eSapi_Regs (some ad31) 1 [(t26 : Sapi_Regs)], own 25 eSapi_Regs (some ad2) 1 [({ ({ ({ ({ a0 with R := vset a0.R 1 (wu32 a1) } : Sapi_Regs) with R := vset (vset a0.R 1 (wu32 a1)) 2 (wu32 (a1.fdiv (2 ^ 32))) } : Sapi_Regs) with R := vset (vset (vset a0.R 1 (wu32 a1)) 2 (wu32 (a1.fdiv (2 ^ 32)))) 3 (wu32 a2) } : Sapi_Regs) with R := vset (vset (vset (vset a0.R 1 (wu32 a1)) 2 (wu32 (a1.fdiv (2 ^ 32)))) 3 (wu32 a2)) 4 (wu32 (a2.fdiv (2 ^ 32))) } : Sapi_Regs)]] := hw
 refine go_pvs 8 9 [1, 2, 7, 10, 14, 16, 18] hs (L' := [(1, .int .u64 a1), (2, .int .u64 a2), (7, .bool t8), (10, .pointer (some ad44)), (14, .pointer (some ad70)), (16, .pointer (some ad83)), (18, .pointer (some ad96))]) (by kernel_rfl) ?_ rfl
 clear hs; intro a hs
 refine go_end (by kernel_rfl) ?_
 refine hK89 _ _ ?_
 refine go_seq_k fun K102 hK102 => ?_
 refine go_region ?_
 refine go_pvs 0 8 [1, 2, 7, 10, 14, 16, 18, 20] hs (L' := [(1, .int .u64 a1), (2, .int .u64 a2), (7, .bool t8), (10, .pointer (some ad44)), (14, .pointer (some ad70)), (16, .pointer (some ad83)), (18, .pointer (some ad96)), (20, .int .i64 (w64 ((w64 (w32 a1)) * (w64 (w32 a2)))))]) (by kernel_rfl) ?_ rfl
 clear hs; intro a hs
 obtain ⟨y103, hy103, H⟩ := nm_some H
 replace hs : Slots a 149 [(1, .int .u64 a1), (2, .int .u64 a2), (7, .bool t8), (10, .pointer (some ad44)), (14, .pointer (some ad70)), (16, .pointer (some ad83)), (18, .pointer (some ad96)), (20, .int .i64 y103)] := by rw [hy103]; exact hs
 refine go_end (by kernel_rfl) ?_
 refine hK102 _ _ ?_
 refine go_seq_k fun K104 hK104 => ?_
 have hJ1 : ∀ (v109 : Bool) (a : Act) (w : World), Slots a 149 [(6, .bool v109)] → St [] w0 w [own 25 eSapi_Regs (some ad96) 1 [(t91 : Sapi_Regs)], own 25 eSapi_Regs (some ad83) 1 [(t78 : Sapi_Regs)], own 25 eSapi_Regs (some ad70) 1 [(t65 : Sapi_Regs)], own 25 eSapi_Regs (some ad57) 1 [(t52 : Sapi_Regs)], own 25 eSapi_Regs (some ad44) 1 [(t39 : Sapi_Regs)], own 25 eSapi_Regs (some ad31) 1 [(t26 : Sapi_Regs)], own 25 eSapi_Regs (some ad2) 1 [({ ({ ({ ({ a0 with R := vset a0.R 1 (wu32 a1) } : Sapi_Regs) with R := vset (vset a0.R 1 (wu32 a1)) 2 (wu32 (a1.fdiv (2 ^ 32))) } : Sapi_Regs) with R := vset (vset (vset a0.R 1 (wu32 a1)) 2 (wu32 (a1.fdiv (2 ^ 32)))) 3 (wu32 a2) } : Sapi_Regs) with R := vset (vset (vset (vset a0.R 1 (wu32 a1)) 2 (wu32 (a1.fdiv (2 ^ 32)))) 3 (wu32 a2)) 4 (wu32 (a2.fdiv (2 ^ 32))) } : Sapi_Regs)]] → rivetlaw04_AluLong.j1 v109 = some r → K104 a w := by
  intro v109 a w hs hw H
  unfold rivetlaw04_AluLong.j1 at H
  refine hK104 _ _ ?_
  refine wp_ret ?_
  obtain rfl := Option.some.inj H
  refine ret1 (t := 6) (v := .bool v109) hs (by kernel_rfl) (by kernel_rfl) ?_
  exact ⟨rfl, hw.only 0⟩
 refine go_region ?_
 refine go_pvs 0 2 [1, 2, 10, 14, 16, 18, 20, 84] hs (L' := [(1, .int .u64 a1), (2, .int .u64 a2), (10, .pointer (some ad44)), (14, .pointer (some ad70)), (16, .pointer (some ad83)), (18, .pointer (some ad96)), (20, .int .i64 y103), (84, .bool t8)]) (by kernel_rfl) ?_ rfl
 clear hs; intro a hs
 cases hb105 : t8
 ·replace H := ite_f H (ff hb105)
  rw [hb105] at hs
  refine go_pvs 2 67 [6] hs (L' := [(6, .bool false)]) (by kernel_rfl) ?_ rfl
  clear hs; intro a hs
  refine go_end (by kernel_rfl) ?_
  replace hw := hw.up 6
  replace hw := hw.up 6
  replace hw := hw.up 6
  replace hw := hw.up 6
  replace hw := hw.up 6
  replace hw := hw.up 6
  replace hw := hw.up 6
  replace hw := hw.only 7
  exact hJ1 false _ _ (hs.keep [6] (by kernel_rfl)) hw H
 ·replace H := ite_t H hb105
  rw [hb105] at hs
  refine go_pvs 2 3 [1, 2, 10, 14, 16, 18, 20, 84, 85] hs (L' := [(1, .int .u64 a1), (2, .int .u64 a2), (10, .pointer (some ad44)), (14, .pointer (some ad70)), (16, .pointer (some ad83)), (18, .pointer (some ad96)), (20, .int .i64 y103), (84, .bool true), (85, .pointer (some ((ad44 : Addr).add 0)))]) (by kernel_rfl) ?_ rfl
  clear hs; intro a hs
  refine go_run hs (op := (Op.indexAddr 23 (Operand.tmp 85) (Operand.const (Value.int IntKind.i64 6)))) (ty := 0) (dst := some 86) (g := some (1, true)) (by kernel_rfl) (by kernel_rfl) (by kernel_rfl) (x_vidx (e := 22) (p := (ad44 : Addr).add 0) (n := 16) (k := .i64) (i := 6) (sz := 1) (by kernel_rfl) (by kernel_rfl) (by kernel_rfl) (by kernel_rfl) (⟨by decide, by decide⟩ : (0 : Int) ≤ 6 ∧ (6 : Int) < ((16 : Nat) : Int)).1 (⟨by decide, by decide⟩ : (0 : Int) ≤ 6 ∧ (6 : Int) < ((16 : Nat) : Int)).2) [1, 2, 10, 14, 16, 18, 20, 84, 86] (L' := [(1, .int .u64 a1), (2, .int .u64 a2), (10, .pointer (some ad44)), (14, .pointer (some ad70)), (16, .pointer (some ad83)), (18, .pointer (some ad96)), (20, .int .i64 y103), (84, .bool true), (86, .pointer (some (((ad44 : Addr).add 0 : Addr).add ((6 : Int).toNat * 1))))]) (by kernel_rfl) ?_
  clear hs; intro a hs
  refine go_run hs (op := (Op.load 22 (Operand.tmp 86))) (ty := 22) (dst := some 87) (g := some (1, true)) (by kernel_rfl) (by kernel_rfl) (by kernel_rfl) (x_ld (E := eSapi_Regs) (off := 6) (p := ((ad44 : Addr).add 0 : Addr).add ((6 : Int).toNat * 1)) (v := .int .u32 (vx 0 ((t39 : Sapi_Regs).R) 6)) (Rd.of_own (hw.up 4)) (one_ok (t39 : Sapi_Regs)).1 (one_ok (t39 : Sapi_Regs)).2 (by kernel_rfl) (by simp only [add_add', Int.toNat_zero, Nat.zero_mul, Nat.zero_add, Nat.mul_one] <;> rfl) (by kernel_rfl) (by kernel_rfl)) [1, 2, 10, 14, 16, 18, 20, 84, 87] (L' := [(1, .int .u64 a1), (2, .int .u64 a2), (10, .pointer (some ad44)), (14, .pointer (some ad70)), (16, .pointer (some ad83)), (18, .pointer (some ad96)), (20, .int .i64 y103), (84, .bool true), (87, .int .u32 (vx 0 ((t39 : Sapi_Regs).R) 6))]) (by kernel_rfl) ?_
  clear hs; intro a hs
  refine go_pvs 5 8 [1, 2, 14, 16, 18, 20, 84, 89, 90] hs (L' := [(1, .int .u64 a1), (2, .int .u64 a2), (14, .pointer (some ad70)), (16, .pointer (some ad83)), (18, .pointer (some ad96)), (20, .int .i64 y103), (84, .bool true), (89, .int .u64 (wu64 ((wu64 (vx 0 ((t39 : Sapi_Regs).R) 6)) * 2 ^ 32))), (90, .pointer (some ((ad44 : Addr).add 0)))]) (by kernel_rfl) ?_ rfl
  clear hs; intro a hs
  refine go_run hs (op := (Op.indexAddr 23 (Operand.tmp 90) (Operand.const (Value.int IntKind.i64 5)))) (ty := 0) (dst := some 91) (g := some (1, true)) (by kernel_rfl) (by kernel_rfl) (by kernel_rfl) (x_vidx (e := 22) (p := (ad44 : Addr).add 0) (n := 16) (k := .i64) (i := 5) (sz := 1) (by kernel_rfl) (by kernel_rfl) (by kernel_rfl) (by kernel_rfl) (⟨by decide, by decide⟩ : (0 : Int) ≤ 5 ∧ (5 : Int) < ((16 : Nat) : Int)).1 (⟨by decide, by decide⟩ : (0 : Int) ≤ 5 ∧ (5 : Int) < ((16 : Nat) : Int)).2) [1, 2, 14, 16, 18, 20, 84, 89, 91] (L' := [(1, .int .u64 a1), (2, .int .u64 a2), (14, .pointer (some ad70)), (16, .pointer (some ad83)), (18, .pointer (some ad96)), (20, .int .i64 y103), (84, .bool true), (89, .int .u64 (wu64 ((wu64 (vx 0 ((t39 : Sapi_Regs).R) 6)) * 2 ^ 32))), (91, .pointer (some (((ad44 : Addr).add 0 : Addr).add ((5 : Int).toNat * 1))))]) (by kernel_rfl) ?_
  clear hs; intro a hs
  refine go_run hs (op := (Op.load 22 (Operand.tmp 91))) (ty := 22) (dst := some 92) (g := some (1, true)) (by kernel_rfl) (by kernel_rfl) (by kernel_rfl) (x_ld (E := eSapi_Regs) (off := 5) (p := ((ad44 : Addr).add 0 : Addr).add ((5 : Int).toNat * 1)) (v := .int .u32 (vx 0 ((t39 : Sapi_Regs).R) 5)) (Rd.of_own (hw.up 4)) (one_ok (t39 : Sapi_Regs)).1 (one_ok (t39 : Sapi_Regs)).2 (by kernel_rfl) (by simp only [add_add', Int.toNat_zero, Nat.zero_mul, Nat.zero_add, Nat.mul_one] <;> rfl) (by kernel_rfl) (by kernel_rfl)) [1, 2, 14, 16, 18, 20, 84, 89, 92] (L' := [(1, .int .u64 a1), (2, .int .u64 a2), (14, .pointer (some ad70)), (16, .pointer (some ad83)), (18, .pointer (some ad96)), (20, .int .i64 y103), (84, .bool true), (89, .int .u64 (wu64 ((wu64 (vx 0 ((t39 : Sapi_Regs).R) 6)) * 2 ^ 32))), (92, .int .u32 (vx 0 ((t39 : Sapi_Regs).R) 5))]) (by kernel_rfl) ?_
  clear hs; intro a hs
  refine go_pvs 10 18 [1, 2, 14, 16, 18, 20, 100] hs (L' := [(1, .int .u64 a1), (2, .int .u64 a2), (14, .pointer (some ad70)), (16, .pointer (some ad83)), (18, .pointer (some ad96)), (20, .int .i64 y103), (100, .bool ((bor .u64 (wu64 ((wu64 (vx 0 ((t39 : Sapi_Regs).R) 6)) * 2 ^ 32)) (wu64 (vx 0 ((t39 : Sapi_Regs).R) 5))) == (wu64 (a1 + a2))))]) (by kernel_rfl) ?_ rfl
  clear hs; intro a hs
  cases hb106 : ((bor .u64 (wu64 ((wu64 (vx 0 ((t39 : Sapi_Regs).R) 6)) * 2 ^ 32)) (wu64 (vx 0 ((t39 : Sapi_Regs).R) 5))) == (wu64 (a1 + a2)))
  ·replace H := ite_f H (beq_eq_false_iff_ne.1 hb106)
   rw [hb106] at hs
   refine go_pvs 18 67 [6] hs (L' := [(6, .bool false)]) (by kernel_rfl) ?_ rfl
   clear hs; intro a hs
   refine go_end (by kernel_rfl) ?_
   replace hw := hw.up 6
   replace hw := hw.up 6
   replace hw := hw.up 6
   replace hw := hw.up 6
   replace hw := hw.up 6
   replace hw := hw.up 6
   replace hw := hw.up 6
   replace hw := hw.only 7
   exact hJ1 false _ _ (hs.keep [6] (by kernel_rfl)) hw H
  ·replace H := ite_t H (beq_iff_eq.1 hb106)
   rw [hb106] at hs
   refine go_pvs 18 19 [1, 2, 14, 16, 18, 20, 100, 101] hs (L' := [(1, .int .u64 a1), (2, .int .u64 a2), (14, .pointer (some ad70)), (16, .pointer (some ad83)), (18, .pointer (some ad96)), (20, .int .i64 y103), (100, .bool true), (101, .pointer (some ((ad70 : Addr).add 0)))]) (by kernel_rfl) ?_ rfl
   clear hs; intro a hs
   refine go_run hs (op := (Op.indexAddr 23 (Operand.tmp 101) (Operand.const (Value.int IntKind.i64 6)))) (ty := 0) (dst := some 102) (g := some (17, true)) (by kernel_rfl) (by kernel_rfl) (by kernel_rfl) (x_vidx (e := 22) (p := (ad70 : Addr).add 0) (n := 16) (k := .i64) (i := 6) (sz := 1) (by kernel_rfl) (by kernel_rfl) (by kernel_rfl) (by kernel_rfl) (⟨by decide, by decide⟩ : (0 : Int) ≤ 6 ∧ (6 : Int) < ((16 : Nat) : Int)).1 (⟨by decide, by decide⟩ : (0 : Int) ≤ 6 ∧ (6 : Int) < ((16 : Nat) : Int)).2) [1, 2, 14, 16, 18, 20, 100, 102] (L' := [(1, .int .u64 a1), (2, .int .u64 a2), (14, .pointer (some ad70)), (16, .pointer (some ad83)), (18, .pointer (some ad96)), (20, .int .i64 y103), (100, .bool true), (102, .pointer (some (((ad70 : Addr).add 0 : Addr).add ((6 : Int).toNat * 1))))]) (by kernel_rfl) ?_
   clear hs; intro a hs
   refine go_run hs (op := (Op.load 22 (Operand.tmp 102))) (ty := 22) (dst := some 103) (g := some (17, true)) (by kernel_rfl) (by kernel_rfl) (by kernel_rfl) (x_ld (E := eSapi_Regs) (off := 6) (p := ((ad70 : Addr).add 0 : Addr).add ((6 : Int).toNat * 1)) (v := .int .u32 (vx 0 ((t65 : Sapi_Regs).R) 6)) (Rd.of_own (hw.up 2)) (one_ok (t65 : Sapi_Regs)).1 (one_ok (t65 : Sapi_Regs)).2 (by kernel_rfl) (by simp only [add_add', Int.toNat_zero, Nat.zero_mul, Nat.zero_add, Nat.mul_one] <;> rfl) (by kernel_rfl) (by kernel_rfl)) [1, 2, 14, 16, 18, 20, 100, 103] (L' := [(1, .int .u64 a1), (2, .int .u64 a2), (14, .pointer (some ad70)), (16, .pointer (some ad83)), (18, .pointer (some ad96)), (20, .int .i64 y103), (100, .bool true), (103, .int .u32 (vx 0 ((t65 : Sapi_Regs).R) 6))]) (by kernel_rfl) ?_
   clear hs; intro a hs
   refine go_pvs 21 24 [1, 2, 16, 18, 20, 100, 105, 106] hs (L' := [(1, .int .u64 a1), (2, .int .u64 a2), (16, .pointer (some ad83)), (18, .pointer (some ad96)), (20, .int .i64 y103), (100, .bool true), (105, .int .u64 (wu64 ((wu64 (vx 0 ((t65 : Sapi_Regs).R) 6)) * 2 ^ 32))), (106, .pointer (some ((ad70 : Addr).add 0)))]) (by kernel_rfl) ?_ rfl
   clear hs; intro a hs
   refine go_run hs (op := (Op.indexAddr 23 (Operand.tmp 106) (Operand.const (Value.int IntKind.i64 5)))) (ty := 0) (dst := some 107) (g := some (17, true)) (by kernel_rfl) (by kernel_rfl) (by kernel_rfl) (x_vidx (e := 22) (p := (ad70 : Addr).add 0) (n := 16) (k := .i64) (i := 5) (sz := 1) (by kernel_rfl) (by kernel_rfl) (by kernel_rfl) (by kernel_rfl) (⟨by decide, by decide⟩ : (0 : Int) ≤ 5 ∧ (5 : Int) < ((16 : Nat) : Int)).1 (⟨by decide, by decide⟩ : (0 : Int) ≤ 5 ∧ (5 : Int) < ((16 : Nat) : Int)).2) [1, 2, 16, 18, 20, 100, 105, 107] (L' := [(1, .int .u64 a1), (2, .int .u64 a2), (16, .pointer (some ad83)), (18, .pointer (some ad96)), (20, .int .i64 y103), (100, .bool true), (105, .int .u64 (wu64 ((wu64 (vx 0 ((t65 : Sapi_Regs).R) 6)) * 2 ^ 32))), (107, .pointer (some (((ad70 : Addr).add 0 : Addr).add ((5 : Int).toNat * 1))))]) (by kernel_rfl) ?_
   clear hs; intro a hs
   refine go_run hs (op := (Op.load 22 (Operand.tmp 107))) (ty := 22) (dst := some 108) (g := some (17, true)) (by kernel_rfl) (by kernel_rfl) (by kernel_rfl) (x_ld (E := eSapi_Regs) (off := 5) (p := ((ad70 : Addr).add 0 : Addr).add ((5 : Int).toNat * 1)) (v := .int .u32 (vx 0 ((t65 : Sapi_Regs).R) 5)) (Rd.of_own (hw.up 2)) (one_ok (t65 : Sapi_Regs)).1 (one_ok (t65 : Sapi_Regs)).2 (by kernel_rfl) (by simp only [add_add', Int.toNat_zero, Nat.zero_mul, Nat.zero_add, Nat.mul_one] <;> rfl) (by kernel_rfl) (by kernel_rfl)) [1, 2, 16, 18, 20, 100, 105, 108] (L' := [(1, .int .u64 a1), (2, .int .u64 a2), (16, .pointer (some ad83)), (18, .pointer (some ad96)), (20, .int .i64 y103), (100, .bool true), (105, .int .u64 (wu64 ((wu64 (vx 0 ((t65 : Sapi_Regs).R) 6)) * 2 ^ 32))), (108, .int .u32 (vx 0 ((t65 : Sapi_Regs).R) 5))]) (by kernel_rfl) ?_
   clear hs; intro a hs
   refine go_pvs 26 34 [1, 2, 16, 18, 20, 116] hs (L' := [(1, .int .u64 a1), (2, .int .u64 a2), (16, .pointer (some ad83)), (18, .pointer (some ad96)), (20, .int .i64 y103), (116, .bool ((bor .u64 (wu64 ((wu64 (vx 0 ((t65 : Sapi_Regs).R) 6)) * 2 ^ 32)) (wu64 (vx 0 ((t65 : Sapi_Regs).R) 5))) == (wu64 (a1 - a2))))]) (by kernel_rfl) ?_ rfl
   clear hs; intro a hs
   cases hb107 : ((bor .u64 (wu64 ((wu64 (vx 0 ((t65 : Sapi_Regs).R) 6)) * 2 ^ 32)) (wu64 (vx 0 ((t65 : Sapi_Regs).R) 5))) == (wu64 (a1 - a2)))
   ·replace H := ite_f H (beq_eq_false_iff_ne.1 hb107)
    rw [hb107] at hs
    refine go_pvs 34 67 [6] hs (L' := [(6, .bool false)]) (by kernel_rfl) ?_ rfl
    clear hs; intro a hs
    refine go_end (by kernel_rfl) ?_
    replace hw := hw.up 6
    replace hw := hw.up 6
    replace hw := hw.up 6
    replace hw := hw.up 6
    replace hw := hw.up 6
    replace hw := hw.up 6
    replace hw := hw.up 6
    replace hw := hw.only 7
    exact hJ1 false _ _ (hs.keep [6] (by kernel_rfl)) hw H
   ·replace H := ite_t H (beq_iff_eq.1 hb107)
    rw [hb107] at hs
    refine go_pvs 34 35 [1, 2, 16, 18, 20, 116, 117] hs (L' := [(1, .int .u64 a1), (2, .int .u64 a2), (16, .pointer (some ad83)), (18, .pointer (some ad96)), (20, .int .i64 y103), (116, .bool true), (117, .pointer (some ((ad83 : Addr).add 16)))]) (by kernel_rfl) ?_ rfl
    clear hs; intro a hs
    refine go_run hs (op := (Op.load 22 (Operand.tmp 117))) (ty := 22) (dst := some 118) (g := some (33, true)) (by kernel_rfl) (by kernel_rfl) (by kernel_rfl) (x_ld (E := eSapi_Regs) (off := 16) (p := (ad83 : Addr).add 16) (v := .int .u32 ((t78 : Sapi_Regs).H)) (Rd.of_own (hw.up 1)) (one_ok (t78 : Sapi_Regs)).1 (one_ok (t78 : Sapi_Regs)).2 (by kernel_rfl) (one_off _ _ _) (by kernel_rfl) (by kernel_rfl)) [1, 2, 16, 18, 20, 116, 118] (L' := [(1, .int .u64 a1), (2, .int .u64 a2), (16, .pointer (some ad83)), (18, .pointer (some ad96)), (20, .int .i64 y103), (116, .bool true), (118, .int .u32 ((t78 : Sapi_Regs).H))]) (by kernel_rfl) ?_
    clear hs; intro a hs
    refine go_pvs 36 39 [1, 2, 18, 20, 116, 120, 121] hs (L' := [(1, .int .u64 a1), (2, .int .u64 a2), (18, .pointer (some ad96)), (20, .int .i64 y103), (116, .bool true), (120, .int .u64 (wu64 ((wu64 ((t78 : Sapi_Regs).H)) * 2 ^ 32))), (121, .pointer (some ((ad83 : Addr).add 0)))]) (by kernel_rfl) ?_ rfl
    clear hs; intro a hs
    refine go_run hs (op := (Op.indexAddr 23 (Operand.tmp 121) (Operand.const (Value.int IntKind.i64 5)))) (ty := 0) (dst := some 122) (g := some (33, true)) (by kernel_rfl) (by kernel_rfl) (by kernel_rfl) (x_vidx (e := 22) (p := (ad83 : Addr).add 0) (n := 16) (k := .i64) (i := 5) (sz := 1) (by kernel_rfl) (by kernel_rfl) (by kernel_rfl) (by kernel_rfl) (⟨by decide, by decide⟩ : (0 : Int) ≤ 5 ∧ (5 : Int) < ((16 : Nat) : Int)).1 (⟨by decide, by decide⟩ : (0 : Int) ≤ 5 ∧ (5 : Int) < ((16 : Nat) : Int)).2) [1, 2, 18, 20, 116, 120, 122] (L' := [(1, .int .u64 a1), (2, .int .u64 a2), (18, .pointer (some ad96)), (20, .int .i64 y103), (116, .bool true), (120, .int .u64 (wu64 ((wu64 ((t78 : Sapi_Regs).H)) * 2 ^ 32))), (122, .pointer (some (((ad83 : Addr).add 0 : Addr).add ((5 : Int).toNat * 1))))]) (by kernel_rfl) ?_
    clear hs; intro a hs
    refine go_run hs (op := (Op.load 22 (Operand.tmp 122))) (ty := 22) (dst := some 123) (g := some (33, true)) (by kernel_rfl) (by kernel_rfl) (by kernel_rfl) (x_ld (E := eSapi_Regs) (off := 5) (p := ((ad83 : Addr).add 0 : Addr).add ((5 : Int).toNat * 1)) (v := .int .u32 (vx 0 ((t78 : Sapi_Regs).R) 5)) (Rd.of_own (hw.up 1)) (one_ok (t78 : Sapi_Regs)).1 (one_ok (t78 : Sapi_Regs)).2 (by kernel_rfl) (by simp only [add_add', Int.toNat_zero, Nat.zero_mul, Nat.zero_add, Nat.mul_one] <;> rfl) (by kernel_rfl) (by kernel_rfl)) [1, 2, 18, 20, 116, 120, 123] (L' := [(1, .int .u64 a1), (2, .int .u64 a2), (18, .pointer (some ad96)), (20, .int .i64 y103), (116, .bool true), (120, .int .u64 (wu64 ((wu64 ((t78 : Sapi_Regs).H)) * 2 ^ 32))), (123, .int .u32 (vx 0 ((t78 : Sapi_Regs).R) 5))]) (by kernel_rfl) ?_
    clear hs; intro a hs
    refine go_pvs 41 53 [18, 20, 135] hs (L' := [(18, .pointer (some ad96)), (20, .int .i64 y103), (135, .bool ((bor .u64 (wu64 ((wu64 ((t78 : Sapi_Regs).H)) * 2 ^ 32)) (wu64 (vx 0 ((t78 : Sapi_Regs).R) 5))) == (wu64 ((wu64 (wu32 a1)) * (wu64 (wu32 a2))))))]) (by kernel_rfl) ?_ rfl
    clear hs; intro a hs
    cases hb108 : ((bor .u64 (wu64 ((wu64 ((t78 : Sapi_Regs).H)) * 2 ^ 32)) (wu64 (vx 0 ((t78 : Sapi_Regs).R) 5))) == (wu64 ((wu64 (wu32 a1)) * (wu64 (wu32 a2)))))
    ·replace H := ite_f H (beq_eq_false_iff_ne.1 hb108)
     rw [hb108] at hs
     refine go_pvs 53 67 [6] hs (L' := [(6, .bool false)]) (by kernel_rfl) ?_ rfl
     clear hs; intro a hs
     refine go_end (by kernel_rfl) ?_
     replace hw := hw.up 6
     replace hw := hw.up 6
     replace hw := hw.up 6
     replace hw := hw.up 6
     replace hw := hw.up 6
     replace hw := hw.up 6
     replace hw := hw.up 6
     replace hw := hw.only 7
     exact hJ1 false _ _ (hs.keep [6] (by kernel_rfl)) hw H
    ·replace H := ite_t H (beq_iff_eq.1 hb108)
     rw [hb108] at hs
     refine go_pvs 53 54 [18, 20, 135, 136] hs (L' := [(18, .pointer (some ad96)), (20, .int .i64 y103), (135, .bool true), (136, .pointer (some ((ad96 : Addr).add 16)))]) (by kernel_rfl) ?_ rfl
     clear hs; intro a hs
     refine go_run hs (op := (Op.load 22 (Operand.tmp 136))) (ty := 22) (dst := some 137) (g := some (52, true)) (by kernel_rfl) (by kernel_rfl) (by kernel_rfl) (x_ld (E := eSapi_Regs) (off := 16) (p := (ad96 : Addr).add 16) (v := .int .u32 ((t91 : Sapi_Regs).H)) (Rd.of_own (hw.up 0)) (one_ok (t91 : Sapi_Regs)).1 (one_ok (t91 : Sapi_Regs)).2 (by kernel_rfl) (one_off _ _ _) (by kernel_rfl) (by kernel_rfl)) [18, 20, 135, 137] (L' := [(18, .pointer (some ad96)), (20, .int .i64 y103), (135, .bool true), (137, .int .u32 ((t91 : Sapi_Regs).H))]) (by kernel_rfl) ?_
     clear hs; intro a hs
     refine go_pvs 55 58 [20, 135, 139, 140] hs (L' := [(20, .int .i64 y103), (135, .bool true), (139, .int .u64 (wu64 ((wu64 ((t91 : Sapi_Regs).H)) * 2 ^ 32))), (140, .pointer (some ((ad96 : Addr).add 0)))]) (by kernel_rfl) ?_ rfl
     clear hs; intro a hs
     refine go_run hs (op := (Op.indexAddr 23 (Operand.tmp 140) (Operand.const (Value.int IntKind.i64 5)))) (ty := 0) (dst := some 141) (g := some (52, true)) (by kernel_rfl) (by kernel_rfl) (by kernel_rfl) (x_vidx (e := 22) (p := (ad96 : Addr).add 0) (n := 16) (k := .i64) (i := 5) (sz := 1) (by kernel_rfl) (by kernel_rfl) (by kernel_rfl) (by kernel_rfl) (⟨by decide, by decide⟩ : (0 : Int) ≤ 5 ∧ (5 : Int) < ((16 : Nat) : Int)).1 (⟨by decide, by decide⟩ : (0 : Int) ≤ 5 ∧ (5 : Int) < ((16 : Nat) : Int)).2) [20, 135, 139, 141] (L' := [(20, .int .i64 y103), (135, .bool true), (139, .int .u64 (wu64 ((wu64 ((t91 : Sapi_Regs).H)) * 2 ^ 32))), (141, .pointer (some (((ad96 : Addr).add 0 : Addr).add ((5 : Int).toNat * 1))))]) (by kernel_rfl) ?_
     clear hs; intro a hs
     refine go_run hs (op := (Op.load 22 (Operand.tmp 141))) (ty := 22) (dst := some 142) (g := some (52, true)) (by kernel_rfl) (by kernel_rfl) (by kernel_rfl) (x_ld (E := eSapi_Regs) (off := 5) (p := ((ad96 : Addr).add 0 : Addr).add ((5 : Int).toNat * 1)) (v := .int .u32 (vx 0 ((t91 : Sapi_Regs).R) 5)) (Rd.of_own (hw.up 0)) (one_ok (t91 : Sapi_Regs)).1 (one_ok (t91 : Sapi_Regs)).2 (by kernel_rfl) (by simp only [add_add', Int.toNat_zero, Nat.zero_mul, Nat.zero_add, Nat.mul_one] <;> rfl) (by kernel_rfl) (by kernel_rfl)) [20, 135, 139, 142] (L' := [(20, .int .i64 y103), (135, .bool true), (139, .int .u64 (wu64 ((wu64 ((t91 : Sapi_Regs).H)) * 2 ^ 32))), (142, .int .u32 (vx 0 ((t91 : Sapi_Regs).R) 5))]) (by kernel_rfl) ?_
     clear hs; intro a hs
     refine go_pvs 60 67 [6] hs (L' := [(6, .bool ((bor .u64 (wu64 ((wu64 ((t91 : Sapi_Regs).H)) * 2 ^ 32)) (wu64 (vx 0 ((t91 : Sapi_Regs).R) 5))) == (wu64 y103)))]) (by kernel_rfl) ?_ rfl
     clear hs; intro a hs
     refine go_end (by kernel_rfl) ?_
     replace hw := hw.up 6
     replace hw := hw.up 6
     replace hw := hw.up 6
     replace hw := hw.up 6
     replace hw := hw.up 6
     replace hw := hw.up 6
     replace hw := hw.up 6
     replace hw := hw.only 7
     exact hJ1 ((bor .u64 (wu64 ((wu64 ((t91 : Sapi_Regs).H)) * 2 ^ 32)) (wu64 (vx 0 ((t91 : Sapi_Regs).R) 5))) == (wu64 y103)) _ _ (hs.keep [6] (by kernel_rfl)) hw H

end Go.Proofs.Ytckefpenekolhaa.T04
