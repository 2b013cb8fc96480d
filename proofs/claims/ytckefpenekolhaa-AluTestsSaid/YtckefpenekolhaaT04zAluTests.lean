/- YtckefpenekolhaaT04zAluTests: Go functions told as plain ones, each with a proof that its call comes to what is told, part 1. Condition of each: that the plain function comes to a value. -/
import Derived.Test.YtckefpenekolhaaT04
import Derived.Test.YtckefpenekolhaaEJ
import Derived.Test.YtckefpenekolhaaProg
namespace Go.Proofs.Ytckefpenekolhaa.T04
open Go Go.RowKit Go.Proofs.Ytckefpenekolhaa.E
set_option linter.unusedVariables false
set_option linter.unusedSimpArgs false

/-! rivet/rivetlaw04.AluTests: function 9 -/
noncomputable def rivetlaw04_AluTests.j2 (v103 : Bool) : Option Bool := some v103
noncomputable def rivetlaw04_AluTests.j1 (t8 : Bool) (t21 : Int) (t20 : Sapi_Regs) (a1 : Int) (a2 : Int) : Option Bool := (if t8 = true then (if t21 = 0 then (if (vx 0 ((t20 : Sapi_Regs).R) 3) = (wu32 (a1 - a2)) then ((alu_Taken (t20 : Sapi_Regs) 1).bind fun t57 => ((if (t57 == (a1 == a2)) = true then ((alu_Taken (t20 : Sapi_Regs) 2).bind fun t63 => ((if (t63 == (decide (a1 < a2))) = true then ((alu_Taken (t20 : Sapi_Regs) 4).bind fun t69 => ((if (t69 == (decide (a1 ≤ a2))) = true then ((alu_Taken (t20 : Sapi_Regs) 5).bind fun t75 => ((if (t75 == (decide ((w64 (w32 a1)) < (w64 (w32 a2))))) = true then ((alu_Taken (t20 : Sapi_Regs) 6).bind fun t81 => ((if (t81 == (decide ((w64 (w32 a1)) ≤ (w64 (w32 a2))))) = true then ((alu_Taken (t20 : Sapi_Regs) 7).bind fun t87 => ((if t87 = true then ((alu_Taken (t20 : Sapi_Regs) 16).bind fun t93 => ((if t93 = true then rivetlaw04_AluTests.j2 false else ((alu_Taken (t20 : Sapi_Regs) (-1)).bind fun t99 => (rivetlaw04_AluTests.j2 (!t99)))))) else rivetlaw04_AluTests.j2 false))) else rivetlaw04_AluTests.j2 false))) else rivetlaw04_AluTests.j2 false))) else rivetlaw04_AluTests.j2 false))) else rivetlaw04_AluTests.j2 false))) else rivetlaw04_AluTests.j2 false))) else rivetlaw04_AluTests.j2 false) else rivetlaw04_AluTests.j2 false) else rivetlaw04_AluTests.j2 false)
noncomputable def rivetlaw04_AluTests.b35 (t20 : Sapi_Regs) (v36 : Int) : Option (Int ⊕ (Ex Bool Unit)) := (if v36 < 8 then ((alu_Taken (t20 : Sapi_Regs) v36).bind fun t43 => (((alu_Taken (t20 : Sapi_Regs) (w64 (v36 + 8))).bind fun t46 => ((if (t43 == t46) = true then some (.inr (.ret false)) else some (.inl (w64 (v36 + 1)))))))) else some (.inr (.done ())))
noncomputable def rivetlaw04_AluTests (a0 : Sapi_Regs) (a1 : Int) (a2 : Int) : Option Bool := ((rivetlaw04_shown).bind fun t8 => (((alu_Do ({ ({ a0 with R := vset a0.R 1 a1 } : Sapi_Regs) with R := vset (vset a0.R 1 a1) 2 a2 } : Sapi_Regs) (⟨1, 9, 3, 1, 2, 0, false⟩ : Sapi_Instr)).bind fun ⟨t20, t21⟩ => (((loopO (fun (σ : Int) => rivetlaw04_AluTests.b35 t20 σ) 0).bind fun e => match e with | .ret x => some x | .done e => rivetlaw04_AluTests.j1 t8 t21 t20 a1 a2)))))
set_option maxRecDepth 100000 in
set_option maxHeartbeats 4000000 in
theorem rivetlaw04_AluTests.calls (a0 : Sapi_Regs) (a1 : Int) (a2 : Int) (r : Bool) (w0 : World) (H : rivetlaw04_AluTests a0 a1 a2 = some r) :
    Calls Try.prog 9 #[.agg (eSapi_Regs.enc a0).toArray, .int .u32 a1, .int .u32 a2] w0 fun e w' => e = .returned (.bool r) ∧ St [] w0 w' [] := by
 have hw : St [] w0 w0 [] := St.nil w0
 unfold rivetlaw04_AluTests at H
 refine go_fn Try.func9 rfl 112 Try.ntmps9 [(0, .agg (eSapi_Regs.enc a0).toArray), (1, .int .u32 a1), (2, .int .u32 a2)] (by kernel_rfl) rfl ?_
 intro a hs
 refine go_seq_k fun K1 hK1 => ?_
 refine go_region ?_
 obtain ⟨ad2, wd3, hx4, hw⟩ := x_box1 (P := Try.prog) (elem := 25) (v := (Operand.tmp 0)) (ty := 0) hs hw eSapi_Regs a0 (by kernel_rfl)
 refine go_run hs (op := (Op.box 25 (Operand.tmp 0))) (ty := 0) (dst := some 3) (g := none) (by kernel_rfl) (by kernel_rfl) (by kernel_rfl) hx4 [1, 2, 3] (L' := [(1, .int .u32 a1), (2, .int .u32 a2), (3, .pointer (some ad2))]) (by kernel_rfl) ?_
 clear hs; intro a hs
 refine go_pvs 1 2 [1, 2, 3] hs (L' := [(1, .int .u32 a1), (2, .int .u32 a2), (3, .pointer (some ad2))]) (by kernel_rfl) ?_ rfl
 clear hs; intro a hs
 refine go_end (by kernel_rfl) ?_
 refine hK1 _ _ ?_
 refine go_seq_k fun K6 hK6 => ?_
 refine go_region ?_
 obtain ⟨t8, hx9, H⟩ := bind_some H
 refine go_call hs (op := (Op.call { callee := (Callee.value (Operand.func 10)), args := #[], argTypes := #[] })) (ty := 4) (dst := some 13) (g := none) (by kernel_rfl) (by kernel_rfl) (by kernel_rfl) (f := 10) (args := #[]) (by kernel_rfl) (rivetlaw04_shown.calls t8 _ hx9) ?_
 rintro e wd10 ⟨rfl, hw11⟩
 refine ⟨_, rfl, ?_⟩
 replace hw := hw.call hw11
 intro a hs1
 replace hs : Slots a 112 [(1, .int .u32 a1), (2, .int .u32 a2), (3, .pointer (some ad2)), (13, .bool t8)] := hs1.keep [1, 2, 3, 13] (by kernel_rfl)
 clear hs1
 refine go_pvs 1 2 [1, 2, 3, 7] hs (L' := [(1, .int .u32 a1), (2, .int .u32 a2), (3, .pointer (some ad2)), (7, .bool t8)]) (by kernel_rfl) ?_ rfl
 clear hs; intro a hs
 refine go_end (by kernel_rfl) ?_
 refine hK6 _ _ ?_
 refine go_seq_k fun K12 hK12 => ?_
 refine go_region ?_
 refine go_pvs 0 2 [1, 2, 3, 7, 14, 15] hs (L' := [(1, .int .u32 a1), (2, .int .u32 a2), (3, .pointer (some ad2)), (7, .bool t8), (14, .int .u32 a1), (15, .pointer (some ((ad2 : Addr).add 0)))]) (by kernel_rfl) ?_ rfl
 clear hs; intro a hs
 refine go_run hs (op := (Op.indexAddr 23 (Operand.tmp 15) (Operand.const (Value.int IntKind.i64 1)))) (ty := 0) (dst := some 16) (g := none) (by kernel_rfl) (by kernel_rfl) (by kernel_rfl) (x_vidx (e := 22) (p := (ad2 : Addr).add 0) (n := 16) (k := .i64) (i := 1) (sz := 1) (by kernel_rfl) (by kernel_rfl) (by kernel_rfl) (by kernel_rfl) (⟨by decide, by decide⟩ : (0 : Int) ≤ 1 ∧ (1 : Int) < ((16 : Nat) : Int)).1 (⟨by decide, by decide⟩ : (0 : Int) ≤ 1 ∧ (1 : Int) < ((16 : Nat) : Int)).2) [1, 2, 3, 7, 14, 16] (L' := [(1, .int .u32 a1), (2, .int .u32 a2), (3, .pointer (some ad2)), (7, .bool t8), (14, .int .u32 a1), (16, .pointer (some (((ad2 : Addr).add 0 : Addr).add ((1 : Int).toNat * 1))))]) (by kernel_rfl) ?_
 clear hs; intro a hs
 obtain ⟨wd13, hx14, hw⟩ := x_put (P := Try.prog) (ty := 0) (t := 22) (x := (Operand.tmp 16)) (y := (Operand.tmp 14)) (off := 0 + 1 * 1) (p := ((ad2 : Addr).add 0 : Addr).add ((1 : Int).toNat * 1)) (v := .int .u32 a1) (vs := [.int .u32 a1]) (i := 0) (e' := (({ a0 with R := vset a0.R 1 a1 } : Sapi_Regs) : Sapi_Regs)) hs hw rfl (one_ok a0).1 (one_ok a0).2 (by kernel_rfl) (by simp only [add_add', Int.toNat_zero, Nat.zero_mul, Nat.zero_add, Nat.mul_one] <;> rfl) (by kernel_rfl) rfl (by kernel_rfl) (by have := (⟨by decide, by decide⟩ : (0 : Int) ≤ 1 ∧ (1 : Int) < ((16 : Nat) : Int)); show 0 + _ * 1 + 1 ≤ 21; omega) (by simp [Value.oneCell']) (vput (cs := eSapi_Regs.enc a0) (cs' := eSapi_Regs.enc ({ a0 with R := vset a0.R 1 a1 } : Sapi_Regs)) (pre := []) (post := [.int .u32 a0.H, .bool a0.N, .bool a0.Z, .bool a0.C, .bool a0.V]) (f := (fun j : Nat => .int .u32 (vx 0 a0.R j))) (f' := (fun j : Nat => .int .u32 (vx 0 (vset a0.R 1 a1) j))) (n := 16) (o := 0) (i := 1) (v := .int .u32 a1) (by kernel_rfl) (by kernel_rfl) rfl (by have := (⟨by decide, by decide⟩ : (0 : Int) ≤ 1 ∧ (1 : Int) < ((16 : Nat) : Int)); omega) (vx_put (by have := (⟨by decide, by decide⟩ : (0 : Int) ≤ 1 ∧ (1 : Int) < ((16 : Nat) : Int)); omega)))
 refine go_unit hs (op := (Op.store 22 (Operand.tmp 16) (Operand.tmp 14))) (ty := 0) (dst := none) (g := none) (by kernel_rfl) (by kernel_rfl) (by kernel_rfl) hx14 [1, 2, 3, 7] (L' := [(1, .int .u32 a1), (2, .int .u32 a2), (3, .pointer (some ad2)), (7, .bool t8)]) (by kernel_rfl) ?_
 clear hs; intro a hs
 replace hw : St [] w0 wd13 [own 25 eSapi_Regs (some ad2) 1 [({ a0 with R := vset a0.R 1 a1 } : Sapi_Regs)]] := hw
 refine go_end (by kernel_rfl) ?_
 refine hK12 _ _ ?_
 refine go_seq_k fun K15 hK15 => ?_
 refine go_region ?_
 refine go_pvs 0 2 [1, 2, 3, 7, 17, 18] hs (L' := [(1, .int .u32 a1), (2, .int .u32 a2), (3, .pointer (some ad2)), (7, .bool t8), (17, .int .u32 a2), (18, .pointer (some ((ad2 : Addr).add 0)))]) (by kernel_rfl) ?_ rfl
 clear hs; intro a hs
 refine go_run hs (op := (Op.indexAddr 23 (Operand.tmp 18) (Operand.const (Value.int IntKind.i64 2)))) (ty := 0) (dst := some 19) (g := none) (by kernel_rfl) (by kernel_rfl) (by kernel_rfl) (x_vidx (e := 22) (p := (ad2 : Addr).add 0) (n := 16) (k := .i64) (i := 2) (sz := 1) (by kernel_rfl) (by kernel_rfl) (by kernel_rfl) (by kernel_rfl) (⟨by decide, by decide⟩ : (0 : Int) ≤ 2 ∧ (2 : Int) < ((16 : Nat) : Int)).1 (⟨by decide, by decide⟩ : (0 : Int) ≤ 2 ∧ (2 : Int) < ((16 : Nat) : Int)).2) [1, 2, 3, 7, 17, 19] (L' := [(1, .int .u32 a1), (2, .int .u32 a2), (3, .pointer (some ad2)), (7, .bool t8), (17, .int .u32 a2), (19, .pointer (some (((ad2 : Addr).add 0 : Addr).add ((2 : Int).toNat * 1))))]) (by kernel_rfl) ?_
 clear hs; intro a hs
 obtain ⟨wd16, hx17, hw⟩ := x_put (P := Try.prog) (ty := 0) (t := 22) (x := (Operand.tmp 19)) (y := (Operand.tmp 17)) (off := 0 + 2 * 1) (p := ((ad2 : Addr).add 0 : Addr).add ((2 : Int).toNat * 1)) (v := .int .u32 a2) (vs := [.int .u32 a2]) (i := 0) (e' := (({ ({ a0 with R := vset a0.R 1 a1 } : Sapi_Regs) with R := vset (vset a0.R 1 a1) 2 a2 } : Sapi_Regs) : Sapi_Regs)) hs hw rfl (one_ok ({ a0 with R := vset a0.R 1 a1 } : Sapi_Regs)).1 (one_ok ({ a0 with R := vset a0.R 1 a1 } : Sapi_Regs)).2 (by kernel_rfl) (by simp only [add_add', Int.toNat_zero, Nat.zero_mul, Nat.zero_add, Nat.mul_one] <;> rfl) (by kernel_rfl) rfl (by kernel_rfl) (by have := (⟨by decide, by decide⟩ : (0 : Int) ≤ 2 ∧ (2 : Int) < ((16 : Nat) : Int)); show 0 + _ * 1 + 1 ≤ 21; omega) (by simp [Value.oneCell']) (vput (cs := eSapi_Regs.enc ({ a0 with R := vset a0.R 1 a1 } : Sapi_Regs)) (cs' := eSapi_Regs.enc ({ ({ a0 with R := vset a0.R 1 a1 } : Sapi_Regs) with R := vset (vset a0.R 1 a1) 2 a2 } : Sapi_Regs)) (pre := []) (post := [.int .u32 a0.H, .bool a0.N, .bool a0.Z, .bool a0.C, .bool a0.V]) (f := (fun j : Nat => .int .u32 (vx 0 (vset a0.R 1 a1) j))) (f' := (fun j : Nat => .int .u32 (vx 0 (vset (vset a0.R 1 a1) 2 a2) j))) (n := 16) (o := 0) (i := 2) (v := .int .u32 a2) (by kernel_rfl) (by kernel_rfl) rfl (by have := (⟨by decide, by decide⟩ : (0 : Int) ≤ 2 ∧ (2 : Int) < ((16 : Nat) : Int)); omega) (vx_put (by have := (⟨by decide, by decide⟩ : (0 : Int) ≤ 2 ∧ (2 : Int) < ((16 : Nat) : Int)); omega)))
 refine go_unit hs (op := (Op.store 22 (Operand.tmp 19) (Operand.tmp 17))) (ty := 0) (dst := none) (g := none) (by kernel_rfl) (by kernel_rfl) (by kernel_rfl) hx17 [1, 2, 3, 7] (L' := [(1, .int .u32 a1), (2, .int .u32 a2), (3, .pointer (some ad2)), (7, .bool t8)]) (by kernel_rfl) ?_
 clear hs; intro a hs
 replace hw : St [] w0 wd16 [own 25 eSapi_Regs (some ad2) 1 [({ ({ a0 with R := vset a0.R 1 a1 } : Sapi_Regs) with R := vset (vset a0.R 1 a1) 2 a2 } : Sapi_Regs)]] := hw
 refine go_end (by kernel_rfl) ?_
 refine hK15 _ _ ?_
 refine go_seq_k fun K18 hK18 => ?_
 refine go_region ?_
 refine go_run hs (op := (Op.load 25 (Operand.tmp 3))) (ty := 25) (dst := some 21) (g := none) (by kernel_rfl) (by kernel_rfl) (by kernel_rfl) (x_lds (E := eSapi_Regs) (off := 0) (p := ad2) (cs := (eSapi_Regs.enc ({ ({ a0 with R := vset a0.R 1 a1 } : Sapi_Regs) with R := vset (vset a0.R 1 a1) 2 a2 } : Sapi_Regs))) (Rd.of_own (hw.up 0)) (one_ok ({ ({ a0 with R := vset a0.R 1 a1 } : Sapi_Regs) with R := vset (vset a0.R 1 a1) 2 a2 } : Sapi_Regs)).1 (one_ok ({ ({ a0 with R := vset a0.R 1 a1 } : Sapi_Regs) with R := vset (vset a0.R 1 a1) 2 a2 } : Sapi_Regs)).2 (by kernel_rfl) (one_at _ _) (by kernel_rfl) (by kernel_rfl) (by kernel_rfl)) [1, 2, 7, 21] (L' := [(1, .int .u32 a1), (2, .int .u32 a2), (7, .bool t8), (21, .agg (eSapi_Regs.enc ({ ({ a0 with R := vset a0.R 1 a1 } : Sapi_Regs) with R := vset (vset a0.R 1 a1) 2 a2 } : Sapi_Regs)).toArray)]) (by kernel_rfl) ?_
 clear hs; intro a hs
 refine go_pvs 1 2 [1, 2, 7, 21, 22] hs (L' := [(1, .int .u32 a1), (2, .int .u32 a2), (7, .bool t8), (21, .agg (eSapi_Regs.enc ({ ({ a0 with R := vset a0.R 1 a1 } : Sapi_Regs) with R := vset (vset a0.R 1 a1) 2 a2 } : Sapi_Regs)).toArray), (22, .agg (eSapi_Instr.enc (⟨1, 9, 3, 1, 2, 0, false⟩ : Sapi_Instr)).toArray)]) (by kernel_rfl) ?_ rfl
 clear hs; intro a hs
 obtain ⟨⟨t20, t21⟩, hx22, H⟩ := bind_some H
 refine go_call hs (op := (Op.call { callee := (Callee.value (Operand.func 12)), args := #[(Operand.tmp 21), (Operand.tmp 22)], argTypes := #[25, 27] })) (ty := 30) (dst := some 23) (g := none) (by kernel_rfl) (by kernel_rfl) (by kernel_rfl) (f := 12) (args := #[.agg (eSapi_Regs.enc ({ ({ a0 with R := vset a0.R 1 a1 } : Sapi_Regs) with R := vset (vset a0.R 1 a1) 2 a2 } : Sapi_Regs)).toArray, .agg (eSapi_Instr.enc (⟨1, 9, 3, 1, 2, 0, false⟩ : Sapi_Instr)).toArray]) (by kernel_rfl) (alu_Do.calls ({ ({ a0 with R := vset a0.R 1 a1 } : Sapi_Regs) with R := vset (vset a0.R 1 a1) 2 a2 } : Sapi_Regs) (⟨1, 9, 3, 1, 2, 0, false⟩ : Sapi_Instr) (t20, t21) _ hx22) ?_
 rintro e wd23 ⟨rfl, hw24⟩
 refine ⟨_, rfl, ?_⟩
 replace hw := hw.call hw24
 intro a hs1
 replace hs : Slots a 112 [(1, .int .u32 a1), (2, .int .u32 a2), (7, .bool t8), (23, .tuple #[.agg (eSapi_Regs.enc t20).toArray, .int .i64 t21])] := hs1.keep [1, 2, 7, 23] (by kernel_rfl)
 clear hs1
 refine go_pvs 3 6 [1, 2, 7, 24, 25] hs (L' := [(1, .int .u32 a1), (2, .int .u32 a2), (7, .bool t8), (24, .agg (eSapi_Regs.enc t20).toArray), (25, .int .i64 t21)]) (by kernel_rfl) ?_ rfl
 clear hs; intro a hs
 obtain ⟨ad25, wd26, hx27, hw⟩ := x_alloc1 (P := Try.prog) (elem := 25) (ty := 0) (z := .agg (eSapi_Regs.enc (⟨(Vector.replicate 16 0), 0, false, false, false, false⟩ : Sapi_Regs)).toArray) hs hw eSapi_Regs (⟨(Vector.replicate 16 0), 0, false, false, false, false⟩ : Sapi_Regs) (by kernel_rfl) (by kernel_rfl)
 refine go_run hs (op := (Op.alloc 25)) (ty := 0) (dst := some 8) (g := none) (by kernel_rfl) (by kernel_rfl) (by kernel_rfl) hx27 [1, 2, 7, 8, 24, 25] (L' := [(1, .int .u32 a1), (2, .int .u32 a2), (7, .bool t8), (8, .pointer (some ad25)), (24, .agg (eSapi_Regs.enc t20).toArray), (25, .int .i64 t21)]) (by kernel_rfl) ?_
 clear hs; intro a hs
 obtain ⟨wd29, hx30, hw⟩ := x_put (P := Try.prog) (ty := 0) (t := 25) (x := (Operand.tmp 8)) (y := (Operand.tmp 24)) (off := 0) (p := ad25) (v := .agg (eSapi_Regs.enc t20).toArray) (vs := (eSapi_Regs.enc t20)) (i := 0) (e' := ((t20 : Sapi_Regs) : Sapi_Regs)) hs hw rfl (one_ok (⟨(Vector.replicate 16 0), 0, false, false, false, false⟩ : Sapi_Regs)).1 (one_ok (⟨(Vector.replicate 16 0), 0, false, false, false, false⟩ : Sapi_Regs)).2 (by kernel_rfl) (one_at _ _) (by kernel_rfl) rfl (by kernel_rfl) (Nat.le_of_ble_eq_true rfl) (eSapi_Regs.one _) (by kernel_rfl)
 refine go_unit hs (op := (Op.store 25 (Operand.tmp 8) (Operand.tmp 24))) (ty := 0) (dst := none) (g := none) (by kernel_rfl) (by kernel_rfl) (by kernel_rfl) hx30 [1, 2, 7, 8, 25] (L' := [(1, .int .u32 a1), (2, .int .u32 a2), (7, .bool t8), (8, .pointer (some ad25)), (25, .int .i64 t21)]) (by kernel_rfl) ?_
 clear hs; intro a hs
 replace hw : St [] w0 wd29 [own 25 eSapi_Regs (some ad25) 1 [(t20 : Sapi_Regs)], own 25 eSapi_Regs (some ad2) 1 [({ ({ a0 with R := vset a0.R 1 a1 } : Sapi_Regs) with R := vset (vset a0.R 1 a1) 2 a2 } : Sapi_Regs)]] := hw
 refine go_pvs 8 9 [1, 2, 7, 8, 9] hs (L' := [(1, .int .u32 a1), (2, .int .u32 a2), (7, .bool t8), (8, .pointer (some ad25)), (9, .int .i64 t21)]) (by kernel_rfl) ?_ rfl
 clear hs; intro a hs
 refine go_end (by kernel_rfl) ?_
 refine hK18 _ _ ?_
 refine go_seq_k fun K31 hK31 => ?_
 refine go_region ?_
 refine go_pvs 0 4 [1, 2, 7, 8, 9, 10] hs (L' := [(1, .int .u32 a1), (2, .int .u32 a2), (7, .bool t8), (8, .pointer (some ad25)), (9, .int .i64 t21), (10, .int .i64 (w64 (w32 a1)))]) (by kernel_rfl) ?_ rfl
 clear hs; intro a hs
 refine go_end (by kernel_rfl) ?_
 refine hK31 _ _ ?_
 refine go_seq_k fun K32 hK32 => ?_
 refine go_region ?_
 refine go_pvs 0 4 [1, 2, 7, 8, 9, 10, 11] hs (L' := [(1, .int .u32 a1), (2, .int .u32 a2), (7, .bool t8), (8, .pointer (some ad25)), (9, .int .i64 t21), (10, .int .i64 (w64 (w32 a1))), (11, .int .i64 (w64 (w32 a2)))]) (by kernel_rfl) ?_ rfl
 clear hs; intro a hs
 refine go_end (by kernel_rfl) ?_
 refine hK32 _ _ ?_
 refine go_seq_k fun K33 hK33 => ?_
 refine go_seq_k fun K34 hK34 => ?_
 refine go_region ?_
 refine go_pvs 0 1 [1, 2, 7, 8, 9, 10, 11, 12] hs (L' := [(1, .int .u32 a1), (2, .int .u32 a2), (7, .bool t8), (8, .pointer (some ad25)), (9, .int .i64 t21), (10, .int .i64 (w64 (w32 a1))), (11, .int .i64 (w64 (w32 a2))), (12, .int .i64 0)]) (by kernel_rfl) ?_ rfl
 clear hs; intro a hs
 refine go_end (by kernel_rfl) ?_
 refine hK34 _ _ ?_
 refine wp_block ?_
 obtain ⟨e35, hl35, HX35⟩ := bind_some H
 have hJ1 : ∀ (a : Act) (w : World), Slots a 112 [(1, .int .u32 a1), (2, .int .u32 a2), (7, .bool t8), (8, .pointer (some ad25)), (9, .int .i64 t21), (10, .int .i64 (w64 (w32 a1))), (11, .int .i64 (w64 (w32 a2)))] → St [] w0 w [own 25 eSapi_Regs (some ad25) 1 [(t20 : Sapi_Regs)], own 25 eSapi_Regs (some ad2) 1 [({ ({ a0 with R := vset a0.R 1 a1 } : Sapi_Regs) with R := vset (vset a0.R 1 a1) 2 a2 } : Sapi_Regs)]] → rivetlaw04_AluTests.j1 t8 t21 t20 a1 a2 = some r → K33 a w := by
  intro a w hs hw H
  unfold rivetlaw04_AluTests.j1 at H
  refine hK33 _ _ ?_
  refine go_seq_k fun K52 hK52 => ?_
  have hJ2 : ∀ (v103 : Bool) (a : Act) (w : World), Slots a 112 [(6, .bool v103)] → St [] w0 w [own 25 eSapi_Regs (some ad25) 1 [(t20 : Sapi_Regs)], own 25 eSapi_Regs (some ad2) 1 [({ ({ a0 with R := vset a0.R 1 a1 } : Sapi_Regs) with R := vset (vset a0.R 1 a1) 2 a2 } : Sapi_Regs)]] → rivetlaw04_AluTests.j2 v103 = some r → K52 a w := by
   intro v103 a w hs hw H
   unfold rivetlaw04_AluTests.j2 at H
   refine hK52 _ _ ?_
   refine wp_ret ?_
   obtain rfl := Option.some.inj H
   refine ret1 (t := 6) (v := .bool v103) hs (by kernel_rfl) (by kernel_rfl) ?_
   exact ⟨rfl, hw.only 0⟩
  refine go_region ?_
  refine go_pvs 0 2 [1, 2, 8, 9, 10, 11, 45] hs (L' := [(1, .int .u32 a1), (2, .int .u32 a2), (8, .pointer (some ad25)), (9, .int .i64 t21), (10, .int .i64 (w64 (w32 a1))), (11, .int .i64 (w64 (w32 a2))), (45, .bool t8)]) (by kernel_rfl) ?_ rfl
  clear hs; intro a hs
  cases hb53 : t8
  ·replace H := ite_f H (ff hb53)
   rw [hb53] at hs
   refine go_pvs 2 69 [6] hs (L' := [(6, .bool false)]) (by kernel_rfl) ?_ rfl
   clear hs; intro a hs
   refine go_end (by kernel_rfl) ?_
   replace hw := hw.up 1
   replace hw := hw.up 1
   replace hw := hw.only 2
   exact hJ2 false _ _ (hs.keep [6] (by kernel_rfl)) hw H
  ·replace H := ite_t H hb53
   rw [hb53] at hs
   refine go_pvs 2 6 [1, 2, 8, 10, 11, 49] hs (L' := [(1, .int .u32 a1), (2, .int .u32 a2), (8, .pointer (some ad25)), (10, .int .i64 (w64 (w32 a1))), (11, .int .i64 (w64 (w32 a2))), (49, .bool (t21 == 0))]) (by kernel_rfl) ?_ rfl
   clear hs; intro a hs
   cases hb54 : (t21 == 0)
   ·replace H := ite_f H (beq_eq_false_iff_ne.1 hb54)
    rw [hb54] at hs
    refine go_pvs 6 69 [6] hs (L' := [(6, .bool false)]) (by kernel_rfl) ?_ rfl
    clear hs; intro a hs
    refine go_end (by kernel_rfl) ?_
    replace hw := hw.up 1
    replace hw := hw.up 1
    replace hw := hw.only 2
    exact hJ2 false _ _ (hs.keep [6] (by kernel_rfl)) hw H
   ·replace H := ite_t H (beq_iff_eq.1 hb54)
    rw [hb54] at hs
    refine go_pvs 6 7 [1, 2, 8, 10, 11, 49, 50] hs (L' := [(1, .int .u32 a1), (2, .int .u32 a2), (8, .pointer (some ad25)), (10, .int .i64 (w64 (w32 a1))), (11, .int .i64 (w64 (w32 a2))), (49, .bool true), (50, .pointer (some ((ad25 : Addr).add 0)))]) (by kernel_rfl) ?_ rfl
    clear hs; intro a hs
    refine go_run hs (op := (Op.indexAddr 23 (Operand.tmp 50) (Operand.const (Value.int IntKind.i64 3)))) (ty := 0) (dst := some 51) (g := some (5, true)) (by kernel_rfl) (by kernel_rfl) (by kernel_rfl) (x_vidx (e := 22) (p := (ad25 : Addr).add 0) (n := 16) (k := .i64) (i := 3) (sz := 1) (by kernel_rfl) (by kernel_rfl) (by kernel_rfl) (by kernel_rfl) (⟨by decide, by decide⟩ : (0 : Int) ≤ 3 ∧ (3 : Int) < ((16 : Nat) : Int)).1 (⟨by decide, by decide⟩ : (0 : Int) ≤ 3 ∧ (3 : Int) < ((16 : Nat) : Int)).2) [1, 2, 8, 10, 11, 49, 51] (L' := [(1, .int .u32 a1), (2, .int .u32 a2), (8, .pointer (some ad25)), (10, .int .i64 (w64 (w32 a1))), (11, .int .i64 (w64 (w32 a2))), (49, .bool true), (51, .pointer (some (((ad25 : Addr).add 0 : Addr).add ((3 : Int).toNat * 1))))]) (by kernel_rfl) ?_
    clear hs; intro a hs
    refine go_run hs (op := (Op.load 22 (Operand.tmp 51))) (ty := 22) (dst := some 52) (g := some (5, true)) (by kernel_rfl) (by kernel_rfl) (by kernel_rfl) (x_ld (E := eSapi_Regs) (off := 3) (p := ((ad25 : Addr).add 0 : Addr).add ((3 : Int).toNat * 1)) (v := .int .u32 (vx 0 ((t20 : Sapi_Regs).R) 3)) (Rd.of_own (hw.up 0)) (one_ok (t20 : Sapi_Regs)).1 (one_ok (t20 : Sapi_Regs)).2 (by kernel_rfl) (by simp only [add_add', Int.toNat_zero, Nat.zero_mul, Nat.zero_add, Nat.mul_one] <;> rfl) (by kernel_rfl) (by kernel_rfl)) [1, 2, 8, 10, 11, 49, 52] (L' := [(1, .int .u32 a1), (2, .int .u32 a2), (8, .pointer (some ad25)), (10, .int .i64 (w64 (w32 a1))), (11, .int .i64 (w64 (w32 a2))), (49, .bool true), (52, .int .u32 (vx 0 ((t20 : Sapi_Regs).R) 3))]) (by kernel_rfl) ?_
    clear hs; intro a hs
    refine go_pvs 9 15 [1, 2, 8, 10, 11, 58] hs (L' := [(1, .int .u32 a1), (2, .int .u32 a2), (8, .pointer (some ad25)), (10, .int .i64 (w64 (w32 a1))), (11, .int .i64 (w64 (w32 a2))), (58, .bool ((vx 0 ((t20 : Sapi_Regs).R) 3) == (wu32 (a1 - a2))))]) (by kernel_rfl) ?_ rfl
    clear hs; intro a hs
    cases hb55 : ((vx 0 ((t20 : Sapi_Regs).R) 3) == (wu32 (a1 - a2)))
    ·replace H := ite_f H (beq_eq_false_iff_ne.1 hb55)
     rw [hb55] at hs
     refine go_pvs 15 69 [6] hs (L' := [(6, .bool false)]) (by kernel_rfl) ?_ rfl
     clear hs; intro a hs
     refine go_end (by kernel_rfl) ?_
     replace hw := hw.up 1
     replace hw := hw.up 1
     replace hw := hw.only 2
     exact hJ2 false _ _ (hs.keep [6] (by kernel_rfl)) hw H
    ·replace H := ite_t H (beq_iff_eq.1 hb55)
     rw [hb55] at hs
     refine go_run hs (op := (Op.load 25 (Operand.tmp 8))) (ty := 25) (dst := some 59) (g := some (14, true)) (by kernel_rfl) (by kernel_rfl) (by kernel_rfl) (x_lds (E := eSapi_Regs) (off := 0) (p := ad25) (cs := (eSapi_Regs.enc (t20 : Sapi_Regs))) (Rd.of_own (hw.up 0)) (one_ok (t20 : Sapi_Regs)).1 (one_ok (t20 : Sapi_Regs)).2 (by kernel_rfl) (one_at _ _) (by kernel_rfl) (by kernel_rfl) (by kernel_rfl)) [1, 2, 8, 10, 11, 58, 59] (L' := [(1, .int .u32 a1), (2, .int .u32 a2), (8, .pointer (some ad25)), (10, .int .i64 (w64 (w32 a1))), (11, .int .i64 (w64 (w32 a2))), (58, .bool true), (59, .agg (eSapi_Regs.enc (t20 : Sapi_Regs)).toArray)]) (by kernel_rfl) ?_
     clear hs; intro a hs
     obtain ⟨t57, hx58, H⟩ := bind_some H
     refine go_call hs (op := (Op.call { callee := (Callee.value (Operand.func 15)), args := #[(Operand.tmp 59), (Operand.const (Value.int IntKind.i64 1))], argTypes := #[25, 3] })) (ty := 4) (dst := some 60) (g := some (14, true)) (by kernel_rfl) (by kernel_rfl) (by kernel_rfl) (f := 15) (args := #[.agg (eSapi_Regs.enc (t20 : Sapi_Regs)).toArray, .int .i64 1]) (by kernel_rfl) (alu_Taken.calls (t20 : Sapi_Regs) 1 t57 _ hx58) ?_
     rintro e wd59 ⟨rfl, hw60⟩
     refine ⟨_, rfl, ?_⟩
     replace hw := hw.call hw60
     intro a hs1
     replace hs : Slots a 112 [(1, .int .u32 a1), (2, .int .u32 a2), (8, .pointer (some ad25)), (10, .int .i64 (w64 (w32 a1))), (11, .int .i64 (w64 (w32 a2))), (58, .bool true), (60, .bool t57)] := hs1.keep [1, 2, 8, 10, 11, 58, 60] (by kernel_rfl)
     clear hs1
     refine go_pvs 17 23 [1, 2, 8, 10, 11, 66] hs (L' := [(1, .int .u32 a1), (2, .int .u32 a2), (8, .pointer (some ad25)), (10, .int .i64 (w64 (w32 a1))), (11, .int .i64 (w64 (w32 a2))), (66, .bool (t57 == (a1 == a2)))]) (by kernel_rfl) ?_ rfl
     clear hs; intro a hs
     cases hb61 : (t57 == (a1 == a2))
     ·replace H := ite_f H (ff hb61)
      rw [hb61] at hs
      refine go_pvs 23 69 [6] hs (L' := [(6, .bool false)]) (by kernel_rfl) ?_ rfl
      clear hs; intro a hs
      refine go_end (by kernel_rfl) ?_
      replace hw := hw.up 1
      replace hw := hw.up 1
      replace hw := hw.only 2
      exact hJ2 false _ _ (hs.keep [6] (by kernel_rfl)) hw H
     ·replace H := ite_t H hb61
      rw [hb61] at hs
      refine go_run hs (op := (Op.load 25 (Operand.tmp 8))) (ty := 25) (dst := some 67) (g := some (22, true)) (by kernel_rfl) (by kernel_rfl) (by kernel_rfl) (x_lds (E := eSapi_Regs) (off := 0) (p := ad25) (cs := (eSapi_Regs.enc (t20 : Sapi_Regs))) (Rd.of_own (hw.up 0)) (one_ok (t20 : Sapi_Regs)).1 (one_ok (t20 : Sapi_Regs)).2 (by kernel_rfl) (one_at _ _) (by kernel_rfl) (by kernel_rfl) (by kernel_rfl)) [1, 2, 8, 10, 11, 66, 67] (L' := [(1, .int .u32 a1), (2, .int .u32 a2), (8, .pointer (some ad25)), (10, .int .i64 (w64 (w32 a1))), (11, .int .i64 (w64 (w32 a2))), (66, .bool true), (67, .agg (eSapi_Regs.enc (t20 : Sapi_Regs)).toArray)]) (by kernel_rfl) ?_
      clear hs; intro a hs
      obtain ⟨t63, hx64, H⟩ := bind_some H
      refine go_call hs (op := (Op.call { callee := (Callee.value (Operand.func 15)), args := #[(Operand.tmp 67), (Operand.const (Value.int IntKind.i64 2))], argTypes := #[25, 3] })) (ty := 4) (dst := some 68) (g := some (22, true)) (by kernel_rfl) (by kernel_rfl) (by kernel_rfl) (f := 15) (args := #[.agg (eSapi_Regs.enc (t20 : Sapi_Regs)).toArray, .int .i64 2]) (by kernel_rfl) (alu_Taken.calls (t20 : Sapi_Regs) 2 t63 _ hx64) ?_
      rintro e wd65 ⟨rfl, hw66⟩
      refine ⟨_, rfl, ?_⟩
      replace hw := hw.call hw66
      intro a hs1
      replace hs : Slots a 112 [(1, .int .u32 a1), (2, .int .u32 a2), (8, .pointer (some ad25)), (10, .int .i64 (w64 (w32 a1))), (11, .int .i64 (w64 (w32 a2))), (66, .bool true), (68, .bool t63)] := hs1.keep [1, 2, 8, 10, 11, 66, 68] (by kernel_rfl)
      clear hs1
      refine go_pvs 25 31 [1, 2, 8, 10, 11, 74] hs (L' := [(1, .int .u32 a1), (2, .int .u32 a2), (8, .pointer (some ad25)), (10, .int .i64 (w64 (w32 a1))), (11, .int .i64 (w64 (w32 a2))), (74, .bool (t63 == (decide (a1 < a2))))]) (by kernel_rfl) ?_ rfl
      clear hs; intro a hs
      cases hb67 : (t63 == (decide (a1 < a2)))
      ·replace H := ite_f H (ff hb67)
       rw [hb67] at hs
       refine go_pvs 31 69 [6] hs (L' := [(6, .bool false)]) (by kernel_rfl) ?_ rfl
       clear hs; intro a hs
       refine go_end (by kernel_rfl) ?_
       replace hw := hw.up 1
       replace hw := hw.up 1
       replace hw := hw.only 2
       exact hJ2 false _ _ (hs.keep [6] (by kernel_rfl)) hw H
      ·replace H := ite_t H hb67
       rw [hb67] at hs
       refine go_run hs (op := (Op.load 25 (Operand.tmp 8))) (ty := 25) (dst := some 75) (g := some (30, true)) (by kernel_rfl) (by kernel_rfl) (by kernel_rfl) (x_lds (E := eSapi_Regs) (off := 0) (p := ad25) (cs := (eSapi_Regs.enc (t20 : Sapi_Regs))) (Rd.of_own (hw.up 0)) (one_ok (t20 : Sapi_Regs)).1 (one_ok (t20 : Sapi_Regs)).2 (by kernel_rfl) (one_at _ _) (by kernel_rfl) (by kernel_rfl) (by kernel_rfl)) [1, 2, 8, 10, 11, 74, 75] (L' := [(1, .int .u32 a1), (2, .int .u32 a2), (8, .pointer (some ad25)), (10, .int .i64 (w64 (w32 a1))), (11, .int .i64 (w64 (w32 a2))), (74, .bool true), (75, .agg (eSapi_Regs.enc (t20 : Sapi_Regs)).toArray)]) (by kernel_rfl) ?_
       clear hs; intro a hs
       obtain ⟨t69, hx70, H⟩ := bind_some H
       refine go_call hs (op := (Op.call { callee := (Callee.value (Operand.func 15)), args := #[(Operand.tmp 75), (Operand.const (Value.int IntKind.i64 4))], argTypes := #[25, 3] })) (ty := 4) (dst := some 76) (g := some (30, true)) (by kernel_rfl) (by kernel_rfl) (by kernel_rfl) (f := 15) (args := #[.agg (eSapi_Regs.enc (t20 : Sapi_Regs)).toArray, .int .i64 4]) (by kernel_rfl) (alu_Taken.calls (t20 : Sapi_Regs) 4 t69 _ hx70) ?_
       rintro e wd71 ⟨rfl, hw72⟩
       refine ⟨_, rfl, ?_⟩
       replace hw := hw.call hw72
       intro a hs1
       replace hs : Slots a 112 [(1, .int .u32 a1), (2, .int .u32 a2), (8, .pointer (some ad25)), (10, .int .i64 (w64 (w32 a1))), (11, .int .i64 (w64 (w32 a2))), (74, .bool true), (76, .bool t69)] := hs1.keep [1, 2, 8, 10, 11, 74, 76] (by kernel_rfl)
       clear hs1
       refine go_pvs 33 39 [8, 10, 11, 82] hs (L' := [(8, .pointer (some ad25)), (10, .int .i64 (w64 (w32 a1))), (11, .int .i64 (w64 (w32 a2))), (82, .bool (t69 == (decide (a1 ≤ a2))))]) (by kernel_rfl) ?_ rfl
       clear hs; intro a hs
       cases hb73 : (t69 == (decide (a1 ≤ a2)))
       ·replace H := ite_f H (ff hb73)
        rw [hb73] at hs
        refine go_pvs 39 69 [6] hs (L' := [(6, .bool false)]) (by kernel_rfl) ?_ rfl
        clear hs; intro a hs
        refine go_end (by kernel_rfl) ?_
        replace hw := hw.up 1
        replace hw := hw.up 1
        replace hw := hw.only 2
        exact hJ2 false _ _ (hs.keep [6] (by kernel_rfl)) hw H
       ·replace H := ite_t H hb73
        rw [hb73] at hs
        refine go_run hs (op := (Op.load 25 (Operand.tmp 8))) (ty := 25) (dst := some 83) (g := some (38, true)) (by kernel_rfl) (by kernel_rfl) (by kernel_rfl) (x_lds (E := eSapi_Regs) (off := 0) (p := ad25) (cs := (eSapi_Regs.enc (t20 : Sapi_Regs))) (Rd.of_own (hw.up 0)) (one_ok (t20 : Sapi_Regs)).1 (one_ok (t20 : Sapi_Regs)).2 (by kernel_rfl) (one_at _ _) (by kernel_rfl) (by kernel_rfl) (by kernel_rfl)) [8, 10, 11, 82, 83] (L' := [(8, .pointer (some ad25)), (10, .int .i64 (w64 (w32 a1))), (11, .int .i64 (w64 (w32 a2))), (82, .bool true), (83, .agg (eSapi_Regs.enc (t20 : Sapi_Regs)).toArray)]) (by kernel_rfl) ?_
        clear hs; intro a hs
        obtain ⟨t75, hx76, H⟩ := bind_some H
        refine go_call hs (op := (Op.call { callee := (Callee.value (Operand.func 15)), args := #[(Operand.tmp 83), (Operand.const (Value.int IntKind.i64 5))], argTypes := #[25, 3] })) (ty := 4) (dst := some 84) (g := some (38, true)) (by kernel_rfl) (by kernel_rfl) (by kernel_rfl) (f := 15) (args := #[.agg (eSapi_Regs.enc (t20 : Sapi_Regs)).toArray, .int .i64 5]) (by kernel_rfl) (alu_Taken.calls (t20 : Sapi_Regs) 5 t75 _ hx76) ?_
        rintro e wd77 ⟨rfl, hw78⟩
        refine ⟨_, rfl, ?_⟩
        replace hw := hw.call hw78
        intro a hs1
        replace hs : Slots a 112 [(8, .pointer (some ad25)), (10, .int .i64 (w64 (w32 a1))), (11, .int .i64 (w64 (w32 a2))), (82, .bool true), (84, .bool t75)] := hs1.keep [8, 10, 11, 82, 84] (by kernel_rfl)
        clear hs1
        refine go_pvs 41 47 [8, 10, 11, 90] hs (L' := [(8, .pointer (some ad25)), (10, .int .i64 (w64 (w32 a1))), (11, .int .i64 (w64 (w32 a2))), (90, .bool (t75 == (decide ((w64 (w32 a1)) < (w64 (w32 a2))))))]) (by kernel_rfl) ?_ rfl
        clear hs; intro a hs
        cases hb79 : (t75 == (decide ((w64 (w32 a1)) < (w64 (w32 a2)))))
        ·replace H := ite_f H (ff hb79)
         rw [hb79] at hs
         refine go_pvs 47 69 [6] hs (L' := [(6, .bool false)]) (by kernel_rfl) ?_ rfl
         clear hs; intro a hs
         refine go_end (by kernel_rfl) ?_
         replace hw := hw.up 1
         replace hw := hw.up 1
         replace hw := hw.only 2
         exact hJ2 false _ _ (hs.keep [6] (by kernel_rfl)) hw H
        ·replace H := ite_t H hb79
         rw [hb79] at hs
         refine go_run hs (op := (Op.load 25 (Operand.tmp 8))) (ty := 25) (dst := some 91) (g := some (46, true)) (by kernel_rfl) (by kernel_rfl) (by kernel_rfl) (x_lds (E := eSapi_Regs) (off := 0) (p := ad25) (cs := (eSapi_Regs.enc (t20 : Sapi_Regs))) (Rd.of_own (hw.up 0)) (one_ok (t20 : Sapi_Regs)).1 (one_ok (t20 : Sapi_Regs)).2 (by kernel_rfl) (one_at _ _) (by kernel_rfl) (by kernel_rfl) (by kernel_rfl)) [8, 10, 11, 90, 91] (L' := [(8, .pointer (some ad25)), (10, .int .i64 (w64 (w32 a1))), (11, .int .i64 (w64 (w32 a2))), (90, .bool true), (91, .agg (eSapi_Regs.enc (t20 : Sapi_Regs)).toArray)]) (by kernel_rfl) ?_
         clear hs; intro a hs
         obtain ⟨t81, hx82, H⟩ := bind_some H
         refine go_call hs (op := (Op.call { callee := (Callee.value (Operand.func 15)), args := #[(Operand.tmp 91), (Operand.const (Value.int IntKind.i64 6))], argTypes := #[25, 3] })) (ty := 4) (dst := some 92) (g := some (46, true)) (by kernel_rfl) (by kernel_rfl) (by kernel_rfl) (f := 15) (args := #[.agg (eSapi_Regs.enc (t20 : Sapi_Regs)).toArray, .int .i64 6]) (by kernel_rfl) (alu_Taken.calls (t20 : Sapi_Regs) 6 t81 _ hx82) ?_
         rintro e wd83 ⟨rfl, hw84⟩
         refine ⟨_, rfl, ?_⟩
         replace hw := hw.call hw84
         intro a hs1
         replace hs : Slots a 112 [(8, .pointer (some ad25)), (10, .int .i64 (w64 (w32 a1))), (11, .int .i64 (w64 (w32 a2))), (90, .bool true), (92, .bool t81)] := hs1.keep [8, 10, 11, 90, 92] (by kernel_rfl)
         clear hs1
         refine go_pvs 49 55 [8, 98] hs (L' := [(8, .pointer (some ad25)), (98, .bool (t81 == (decide ((w64 (w32 a1)) ≤ (w64 (w32 a2))))))]) (by kernel_rfl) ?_ rfl
         clear hs; intro a hs
         cases hb85 : (t81 == (decide ((w64 (w32 a1)) ≤ (w64 (w32 a2)))))
         ·replace H := ite_f H (ff hb85)
          rw [hb85] at hs
          refine go_pvs 55 69 [6] hs (L' := [(6, .bool false)]) (by kernel_rfl) ?_ rfl
          clear hs; intro a hs
          refine go_end (by kernel_rfl) ?_
          replace hw := hw.up 1
          replace hw := hw.up 1
          replace hw := hw.only 2
          exact hJ2 false _ _ (hs.keep [6] (by kernel_rfl)) hw H
         ·replace H := ite_t H hb85
          rw [hb85] at hs
          refine go_run hs (op := (Op.load 25 (Operand.tmp 8))) (ty := 25) (dst := some 99) (g := some (54, true)) (by kernel_rfl) (by kernel_rfl) (by kernel_rfl) (x_lds (E := eSapi_Regs) (off := 0) (p := ad25) (cs := (eSapi_Regs.enc (t20 : Sapi_Regs))) (Rd.of_own (hw.up 0)) (one_ok (t20 : Sapi_Regs)).1 (one_ok (t20 : Sapi_Regs)).2 (by kernel_rfl) (one_at _ _) (by kernel_rfl) (by kernel_rfl) (by kernel_rfl)) [8, 98, 99] (L' := [(8, .pointer (some ad25)), (98, .bool true), (99, .agg (eSapi_Regs.enc (t20 : Sapi_Regs)).toArray)]) (by kernel_rfl) ?_
          clear hs; intro a hs
          obtain ⟨t87, hx88, H⟩ := bind_some H
          refine go_call hs (op := (Op.call { callee := (Callee.value (Operand.func 15)), args := #[(Operand.tmp 99), (Operand.const (Value.int IntKind.i64 7))], argTypes := #[25, 3] })) (ty := 4) (dst := some 100) (g := some (54, true)) (by kernel_rfl) (by kernel_rfl) (by kernel_rfl) (f := 15) (args := #[.agg (eSapi_Regs.enc (t20 : Sapi_Regs)).toArray, .int .i64 7]) (by kernel_rfl) (alu_Taken.calls (t20 : Sapi_Regs) 7 t87 _ hx88) ?_
          rintro e wd89 ⟨rfl, hw90⟩
          refine ⟨_, rfl, ?_⟩
          replace hw := hw.call hw90
          intro a hs1
          replace hs : Slots a 112 [(8, .pointer (some ad25)), (98, .bool true), (100, .bool t87)] := hs1.keep [8, 98, 100] (by kernel_rfl)
          clear hs1
          refine go_pvs 57 59 [8, 102] hs (L' := [(8, .pointer (some ad25)), (102, .bool t87)]) (by kernel_rfl) ?_ rfl
          clear hs; intro a hs
          cases hb91 : t87
          ·replace H := ite_f H (ff hb91)
           rw [hb91] at hs
           refine go_pvs 59 69 [6] hs (L' := [(6, .bool false)]) (by kernel_rfl) ?_ rfl
           clear hs; intro a hs
           refine go_end (by kernel_rfl) ?_
           replace hw := hw.up 1
           replace hw := hw.up 1
           replace hw := hw.only 2
           exact hJ2 false _ _ (hs.keep [6] (by kernel_rfl)) hw H
          ·replace H := ite_t H hb91
           rw [hb91] at hs
           refine go_run hs (op := (Op.load 25 (Operand.tmp 8))) (ty := 25) (dst := some 103) (g := some (58, true)) (by kernel_rfl) (by kernel_rfl) (by kernel_rfl) (x_lds (E := eSapi_Regs) (off := 0) (p := ad25) (cs := (eSapi_Regs.enc (t20 : Sapi_Regs))) (Rd.of_own (hw.up 0)) (one_ok (t20 : Sapi_Regs)).1 (one_ok (t20 : Sapi_Regs)).2 (by kernel_rfl) (one_at _ _) (by kernel_rfl) (by kernel_rfl) (by kernel_rfl)) [8, 102, 103] (L' := [(8, .pointer (some ad25)), (102, .bool true), (103, .agg (eSapi_Regs.enc (t20 : Sapi_Regs)).toArray)]) (by kernel_rfl) ?_
           clear hs; intro a hs
           obtain ⟨t93, hx94, H⟩ := bind_some H
           refine go_call hs (op := (Op.call { callee := (Callee.value (Operand.func 15)), args := #[(Operand.tmp 103), (Operand.const (Value.int IntKind.i64 16))], argTypes := #[25, 3] })) (ty := 4) (dst := some 104) (g := some (58, true)) (by kernel_rfl) (by kernel_rfl) (by kernel_rfl) (f := 15) (args := #[.agg (eSapi_Regs.enc (t20 : Sapi_Regs)).toArray, .int .i64 16]) (by kernel_rfl) (alu_Taken.calls (t20 : Sapi_Regs) 16 t93 _ hx94) ?_
           rintro e wd95 ⟨rfl, hw96⟩
           refine ⟨_, rfl, ?_⟩
           replace hw := hw.call hw96
           intro a hs1
           replace hs : Slots a 112 [(8, .pointer (some ad25)), (102, .bool true), (104, .bool t93)] := hs1.keep [8, 102, 104] (by kernel_rfl)
           clear hs1
           refine go_pvs 61 64 [8, 107] hs (L' := [(8, .pointer (some ad25)), (107, .bool (!t93))]) (by kernel_rfl) ?_ rfl
           clear hs; intro a hs
           cases hb97 : (!t93)
           ·replace H := ite_t H (nf hb97)
            rw [hb97] at hs
            refine go_pvs 64 69 [6] hs (L' := [(6, .bool false)]) (by kernel_rfl) ?_ rfl
            clear hs; intro a hs
            refine go_end (by kernel_rfl) ?_
            replace hw := hw.up 1
            replace hw := hw.up 1
            replace hw := hw.only 2
            exact hJ2 false _ _ (hs.keep [6] (by kernel_rfl)) hw H
           ·replace H := ite_f H (ff (nt hb97))
            rw [hb97] at hs
            refine go_run hs (op := (Op.load 25 (Operand.tmp 8))) (ty := 25) (dst := some 108) (g := some (63, true)) (by kernel_rfl) (by kernel_rfl) (by kernel_rfl) (x_lds (E := eSapi_Regs) (off := 0) (p := ad25) (cs := (eSapi_Regs.enc (t20 : Sapi_Regs))) (Rd.of_own (hw.up 0)) (one_ok (t20 : Sapi_Regs)).1 (one_ok (t20 : Sapi_Regs)).2 (by kernel_rfl) (one_at _ _) (by kernel_rfl) (by kernel_rfl) (by kernel_rfl)) [107, 108] (L' := [(107, .bool true), (108, .agg (eSapi_Regs.enc (t20 : Sapi_Regs)).toArray)]) (by kernel_rfl) ?_
            clear hs; intro a hs
            obtain ⟨t99, hx100, H⟩ := bind_some H
            refine go_call hs (op := (Op.call { callee := (Callee.value (Operand.func 15)), args := #[(Operand.tmp 108), (Operand.const (Value.int IntKind.i64 (-1)))], argTypes := #[25, 3] })) (ty := 4) (dst := some 109) (g := some (63, true)) (by kernel_rfl) (by kernel_rfl) (by kernel_rfl) (f := 15) (args := #[.agg (eSapi_Regs.enc (t20 : Sapi_Regs)).toArray, .int .i64 (-1)]) (by kernel_rfl) (alu_Taken.calls (t20 : Sapi_Regs) (-1) t99 _ hx100) ?_
            rintro e wd101 ⟨rfl, hw102⟩
            refine ⟨_, rfl, ?_⟩
            replace hw := hw.call hw102
            intro a hs1
            replace hs : Slots a 112 [(107, .bool true), (109, .bool t99)] := hs1.keep [107, 109] (by kernel_rfl)
            clear hs1
            refine go_pvs 66 69 [6] hs (L' := [(6, .bool (!t99))]) (by kernel_rfl) ?_ rfl
            clear hs; intro a hs
            refine go_end (by kernel_rfl) ?_
            replace hw := hw.up 1
            replace hw := hw.up 1
            replace hw := hw.only 2
            exact hJ2 (!t99) _ _ (hs.keep [6] (by kernel_rfl)) hw H
 clear H
 refine go_loop (σ := Int) (fun σ a w => Slots a 112 [(1, .int .u32 a1), (2, .int .u32 a2), (7, .bool t8), (8, .pointer (some ad25)), (9, .int .i64 t21), (10, .int .i64 (w64 (w32 a1))), (11, .int .i64 (w64 (w32 a2))), (12, .int .i64 σ)] ∧ St [] w0 w [own 25 eSapi_Regs (some ad25) 1 [(t20 : Sapi_Regs)], own 25 eSapi_Regs (some ad2) 1 [({ ({ a0 with R := vset a0.R 1 a1 } : Sapi_Regs) with R := vset (vset a0.R 1 a1) 2 a2 } : Sapi_Regs)]]) hl35 (by exact ⟨hs.keep [1, 2, 7, 8, 9, 10, 11, 12] (by kernel_rfl), hw⟩) ?_
 rintro v36 a w ⟨hs, hw⟩ o H hr35
 replace hs : Slots a 112 [(1, .int .u32 a1), (2, .int .u32 a2), (7, .bool t8), (8, .pointer (some ad25)), (9, .int .i64 t21), (10, .int .i64 (w64 (w32 a1))), (11, .int .i64 (w64 (w32 a2))), (12, .int .i64 v36)] := hs
 replace hw : St [] w0 w [own 25 eSapi_Regs (some ad25) 1 [(t20 : Sapi_Regs)], own 25 eSapi_Regs (some ad2) 1 [({ ({ a0 with R := vset a0.R 1 a1 } : Sapi_Regs) with R := vset (vset a0.R 1 a1) 2 a2 } : Sapi_Regs)]] := hw
 replace H : rivetlaw04_AluTests.b35 t20 v36 = some o := H
 unfold rivetlaw04_AluTests.b35 at H
 refine go_seq_k fun K37 hK37 => ?_
 refine go_seq_k fun K38 hK38 => ?_
 refine go_region ?_
 refine go_pvs 0 2 [1, 2, 7, 8, 9, 10, 11, 12, 33] hs (L' := [(1, .int .u32 a1), (2, .int .u32 a2), (7, .bool t8), (8, .pointer (some ad25)), (9, .int .i64 t21), (10, .int .i64 (w64 (w32 a1))), (11, .int .i64 (w64 (w32 a2))), (12, .int .i64 v36), (33, .bool (decide (v36 < 8)))]) (by kernel_rfl) ?_ rfl
 clear hs; intro a hs
 refine go_end (by kernel_rfl) ?_
 refine hK38 _ _ ?_
 refine go_cond hs (decide (v36 < 8)) (by kernel_rfl) (fun hc => ?_) (fun hc => ?_)
 ·replace H := ite_t H (of_decide_eq_true hc)
  have hb39 := hc
  rw [hb39] at hs
  refine wp_skip ?_
  refine hK37 _ _ ?_
  refine go_seq_k fun K40 hK40 => ?_
  refine wp_block ?_
  refine go_seq_k fun K41 hK41 => ?_
  refine q2_region (by kernel_rfl) (by kernel_rfl) ?_
  refine q_run hs (op := (Op.load 25 (Operand.tmp 8))) (ty := 25) (dst := some 36) (g := none) (by kernel_rfl) (by kernel_rfl) (by kernel_rfl) (fun wx hbx => (x_lds (E := eSapi_Regs) (off := 0) (p := ad25) (cs := (eSapi_Regs.enc (t20 : Sapi_Regs))) ((Rd.of_own (hw.up 0)).below hbx) (one_ok (t20 : Sapi_Regs)).1 (one_ok (t20 : Sapi_Regs)).2 (by kernel_rfl) (one_at _ _) (by kernel_rfl) (by kernel_rfl) (by kernel_rfl))) [1, 2, 7, 8, 9, 10, 11, 12, 36] (L' := [(1, .int .u32 a1), (2, .int .u32 a2), (7, .bool t8), (8, .pointer (some ad25)), (9, .int .i64 t21), (10, .int .i64 (w64 (w32 a1))), (11, .int .i64 (w64 (w32 a2))), (12, .int .i64 v36), (36, .agg (eSapi_Regs.enc (t20 : Sapi_Regs)).toArray)]) (by kernel_rfl) ?_
  clear hs; intro a hs
  refine q_pvs 1 2 [1, 2, 7, 8, 9, 10, 11, 12, 36, 37] hs (L' := [(1, .int .u32 a1), (2, .int .u32 a2), (7, .bool t8), (8, .pointer (some ad25)), (9, .int .i64 t21), (10, .int .i64 (w64 (w32 a1))), (11, .int .i64 (w64 (w32 a2))), (12, .int .i64 v36), (36, .agg (eSapi_Regs.enc (t20 : Sapi_Regs)).toArray), (37, .int .i64 v36)]) (by kernel_rfl) ?_ rfl
  clear hs; intro a hs
  obtain ⟨t43, hx44, H⟩ := bind_some H
  refine q_call hs (op := (Op.call { callee := (Callee.value (Operand.func 15)), args := #[(Operand.tmp 36), (Operand.tmp 37)], argTypes := #[25, 3] })) (ty := 4) (dst := some 38) (g := none) (by kernel_rfl) (by kernel_rfl) (by kernel_rfl) (f := 15) (args := #[.agg (eSapi_Regs.enc (t20 : Sapi_Regs)).toArray, .int .i64 v36]) (v := .bool t43) (by kernel_rfl) (fun wx hbx => (alu_Taken.calls (t20 : Sapi_Regs) v36 t43 _ hx44).mono ?_) [1, 2, 7, 8, 9, 10, 11, 12, 38] (L' := [(1, .int .u32 a1), (2, .int .u32 a2), (7, .bool t8), (8, .pointer (some ad25)), (9, .int .i64 t21), (10, .int .i64 (w64 (w32 a1))), (11, .int .i64 (w64 (w32 a2))), (12, .int .i64 v36), (38, .bool t43)]) (by kernel_rfl) ?_
  · rintro e wy ⟨rfl, hwy⟩
    exact ⟨rfl, below_st hbx hwy⟩
  clear hs; intro a hs
  refine q_run hs (op := (Op.load 25 (Operand.tmp 8))) (ty := 25) (dst := some 39) (g := none) (by kernel_rfl) (by kernel_rfl) (by kernel_rfl) (fun wx hbx => (x_lds (E := eSapi_Regs) (off := 0) (p := ad25) (cs := (eSapi_Regs.enc (t20 : Sapi_Regs))) ((Rd.of_own (hw.up 0)).below hbx) (one_ok (t20 : Sapi_Regs)).1 (one_ok (t20 : Sapi_Regs)).2 (by kernel_rfl) (one_at _ _) (by kernel_rfl) (by kernel_rfl) (by kernel_rfl))) [1, 2, 7, 8, 9, 10, 11, 12, 38, 39] (L' := [(1, .int .u32 a1), (2, .int .u32 a2), (7, .bool t8), (8, .pointer (some ad25)), (9, .int .i64 t21), (10, .int .i64 (w64 (w32 a1))), (11, .int .i64 (w64 (w32 a2))), (12, .int .i64 v36), (38, .bool t43), (39, .agg (eSapi_Regs.enc (t20 : Sapi_Regs)).toArray)]) (by kernel_rfl) ?_
  clear hs; intro a hs
  refine q_pvs 4 6 [1, 2, 7, 8, 9, 10, 11, 12, 38, 39, 41] hs (L' := [(1, .int .u32 a1), (2, .int .u32 a2), (7, .bool t8), (8, .pointer (some ad25)), (9, .int .i64 t21), (10, .int .i64 (w64 (w32 a1))), (11, .int .i64 (w64 (w32 a2))), (12, .int .i64 v36), (38, .bool t43), (39, .agg (eSapi_Regs.enc (t20 : Sapi_Regs)).toArray), (41, .int .i64 (w64 (v36 + 8)))]) (by kernel_rfl) ?_ rfl
  clear hs; intro a hs
  obtain ⟨t46, hx47, H⟩ := bind_some H
  refine q_call hs (op := (Op.call { callee := (Callee.value (Operand.func 15)), args := #[(Operand.tmp 39), (Operand.tmp 41)], argTypes := #[25, 3] })) (ty := 4) (dst := some 42) (g := none) (by kernel_rfl) (by kernel_rfl) (by kernel_rfl) (f := 15) (args := #[.agg (eSapi_Regs.enc (t20 : Sapi_Regs)).toArray, .int .i64 (w64 (v36 + 8))]) (v := .bool t46) (by kernel_rfl) (fun wx hbx => (alu_Taken.calls (t20 : Sapi_Regs) (w64 (v36 + 8)) t46 _ hx47).mono ?_) [1, 2, 7, 8, 9, 10, 11, 12, 38, 42] (L' := [(1, .int .u32 a1), (2, .int .u32 a2), (7, .bool t8), (8, .pointer (some ad25)), (9, .int .i64 t21), (10, .int .i64 (w64 (w32 a1))), (11, .int .i64 (w64 (w32 a2))), (12, .int .i64 v36), (38, .bool t43), (42, .bool t46)]) (by kernel_rfl) ?_
  · rintro e wy ⟨rfl, hwy⟩
    exact ⟨rfl, below_st hbx hwy⟩
  clear hs; intro a hs
  refine q_pvs 7 8 [1, 2, 7, 8, 9, 10, 11, 12, 43] hs (L' := [(1, .int .u32 a1), (2, .int .u32 a2), (7, .bool t8), (8, .pointer (some ad25)), (9, .int .i64 t21), (10, .int .i64 (w64 (w32 a1))), (11, .int .i64 (w64 (w32 a2))), (12, .int .i64 v36), (43, .bool (t43 == t46))]) (by kernel_rfl) ?_ rfl
  clear hs; intro a hs
  refine q_end (by kernel_rfl) ?_
  intro wq hbq
  replace hw := hw.behind hbq
  refine hK41 _ _ ?_
  refine go_cond hs (t43 == t46) (by kernel_rfl) (fun hc => ?_) (fun hc => ?_)
  ·replace H := ite_t H hc
   have hb48 := hc
   rw [hb48] at hs
   refine go_seq_k fun K49 hK49 => ?_
   refine go_region ?_
   refine go_pvs 0 1 [6] hs (L' := [(6, .bool false)]) (by kernel_rfl) ?_ rfl
   clear hs; intro a hs
   refine go_end (by kernel_rfl) ?_
   refine hK49 _ _ ?_
   refine wp_ret ?_
   refine ib_ret ?_
   refine th_ret ?_
   refine th_ret ?_
   refine ib_ret ?_
   refine th_ret ?_
   rw [← hr35 _ (Option.some.inj H).symm] at HX35
   replace H : some false = some r := HX35
   obtain rfl := Option.some.inj H
   refine ret1 (t := 6) (v := .bool false) hs (by kernel_rfl) (by kernel_rfl) ?_
   exact ⟨rfl, hw.only 0⟩
  ·replace H := ite_f H (ff hc)
   have hb50 := hc
   rw [hb50] at hs
   refine wp_skip ?_
   refine ib_norm ?_
   refine hK40 _ _ ?_
   refine go_region ?_
   refine go_pvs 0 3 [1, 2, 7, 8, 9, 10, 11, 12] hs (L' := [(1, .int .u32 a1), (2, .int .u32 a2), (7, .bool t8), (8, .pointer (some ad25)), (9, .int .i64 t21), (10, .int .i64 (w64 (w32 a1))), (11, .int .i64 (w64 (w32 a2))), (12, .int .i64 (w64 (v36 + 1)))]) (by kernel_rfl) ?_ rfl
   clear hs; intro a hs
   refine go_end (by kernel_rfl) ?_
   replace hw := hw.up 1
   replace hw := hw.up 1
   replace hw := hw.only 2
   exact round_end (w64 (v36 + 1)) (Option.some.inj H).symm ⟨hs.keep [1, 2, 7, 8, 9, 10, 11, 12] (by kernel_rfl), hw⟩
 ·replace H := ite_f H (of_decide_eq_false hc)
  have hb51 := hc
  rw [hb51] at hs
  refine wp_exit ?_
  refine th_exit ?_
  refine th_exit ?_
  refine in_block ?_
  replace hw := hw.up 1
  replace hw := hw.up 1
  replace hw := hw.only 2
  rw [← hr35 _ (Option.some.inj H).symm] at HX35
  exact hJ1 _ _ (hs.keep [1, 2, 7, 8, 9, 10, 11] (by kernel_rfl)) hw HX35

end Go.Proofs.Ytckefpenekolhaa.T04
